/- slices.IndexFunc and slices.DeleteFunc at []Item under the closure that fills a bucket. -/
import Derived.Test.YtfliapankgdeeaaGreatEvR
namespace Go.Proofs.YtfliapankgdeeaaGreat.A
open Go.RowKit Go.Shelf Go.Lib Go.Sort Go.Proofs.YtfliapankgdeeaaGreatW.PrintWords Go.Proofs.YtfliapankgdeeaaGreatW.PrintLast Go.Proofs.YtfliapankgdeeaaGreatW.PrintMore Go.Proofs.YtfliapankgdeeaaGreat.G
set_option linter.unusedVariables false
set_option linter.unusedSimpArgs false

abbrev It := S35
def encI (x : It) : List Value := [.int .i64 x.f0, .int .i64 x.f1]
theorem encI_two (x : It) : (encI x).length = 2 := rfl
instance : Inhabited It := ⟨z35⟩

/-- The closure's other variables. -/
structure Env (fb zb hb bb : Nat) (z h b : Int) (w : World) : Prop where
  cz : w.cell? ⟨zb, 0, none⟩ = some (.int .i64 z)
  ch : w.cell? ⟨hb, 0, none⟩ = some (.int .i64 h)
  cb : w.cell? ⟨bb, 0, none⟩ = some (.int .i64 b)
  lz : zb < fb
  lh : hb < fb
  lb : bb < fb
theorem Env.eff {fb zb hb bb : Nat} {z h b : Int} {w w1 : World} {S : Nat → Prop} (E : Env fb zb hb bb z h b w) (k : Eff w w1 S) (hz : ¬ S zb) (hh : ¬ S hb) (hb' : ¬ S bb) : Env fb zb hb bb z h b w1 :=
  ⟨k.cell E.cz hz, k.cell E.ch hh, k.cell E.cb hb', E.lz, E.lh, E.lb⟩
theorem Env.eff' {fb zb hb bb : Nat} {z h b : Int} {w w1 : World} (E : Env fb zb hb bb z h b w) (k : Eff w w1 (fun k => fb ≤ k)) : Env fb zb hb bb z h b w1 :=
  E.eff k (by have := E.lz; omega) (by have := E.lh; omega) (by have := E.lb; omega)

/-- Is this item taken, when these are there? -/
def takes (z : Int) (p : It → Bool) (ids : List Int) (x : It) : Bool := decide ((ids.length : Int) < z) && p x
/-- Who is taken, who is left. -/
def tk (z : Int) (p : It → Bool) : List Int → List It → List Int × List It
  | ids, [] => (ids, [])
  | ids, x :: r => if takes z p ids x = true then tk z p (ids ++ [x.f0]) r else ((tk z p ids r).1, x :: (tk z p ids r).2)
theorem tk_skip {z : Int} {p : It → Bool} {ids : List Int} : ∀ (pre r : List It), (∀ x ∈ pre, takes z p ids x = false) → tk z p ids (pre ++ r) = ((tk z p ids r).1, pre ++ (tk z p ids r).2)
  | [], r, _ => rfl
  | x :: q, r, h => by
    rw [List.cons_append, tk, if_neg (by rw [h x List.mem_cons_self]; decide), tk_skip q r (fun y hy => h y (List.mem_cons_of_mem _ hy))]
    rfl
theorem tk_len (z : Int) (p : It → Bool) : ∀ (l : List It) (ids : List Int), (tk z p ids l).1.length + (tk z p ids l).2.length = ids.length + l.length
  | [], ids => by simp [tk]
  | x :: r, ids => by
    rw [tk]
    split
    · rw [tk_len z p r]; simp; omega
    · have := tk_len z p r ids
      simp only [List.length_cons]
      omega
theorem take_succ {l : List It} {i : Nat} (h : i < l.length) : l.take (i + 1) = l.take i ++ [l[i]] := by rw [List.take_succ_eq_append_getElem h]

variable {fb zb hb bb base base1 g cap k : Nat} {z h b : Int} {w : World} {ids : List Int} {l : List It} {p : It → Bool}

/-- A call of the closure at an item. -/
theorem del_calls (x : It) (st : FS fb b w base ids) (hbase : base ≤ w.heap.size) (hl : ids.length < 1000) (E : Env fb zb hb bb z h b w) (hon : ∀ x : It, tree_On.f k h b x.f1 = some (p x)) :
    Calls Tryz.prog 22 #[.agg #[.int .i64 x.f0, .int .i64 x.f1], .pointer (some ⟨fb, 0, none⟩), .pointer (some ⟨zb, 0, none⟩), .pointer (some ⟨hb, 0, none⟩), .pointer (some ⟨bb, 0, none⟩)] w fun e w' =>
      e = .returned (.bool (takes z p ids x)) ∧ FS fb b w' base (if takes z p ids x = true then ids ++ [x.f0] else ids) ∧ Eff w w' (fun k => fb ≤ k) :=
  (Plan2_calls fb fb zb hb bb b z h x.f0 x.f1 w base ids (p x) k st.self (by obtain ⟨v, h1, _⟩ := st; exact (Array.getElem?_eq_some_iff.1 h1).1) hbase hl E.cz E.ch E.cb (hon x)).mono fun _ _ ⟨h1, h2, h3⟩ => ⟨h1, h2.fs, h3.mono (fun _ hk => hk.1)⟩
/-- .. a block apart stays. -/
theorem delx_calls (gb : Nat) (x : It) (st : FSx gb fb b w base ids) (hgb : gb < w.heap.size) (hbase : base ≤ w.heap.size) (hl : ids.length < 1000) (E : Env fb zb hb bb z h b w) (hon : ∀ x : It, tree_On.f k h b x.f1 = some (p x)) :
    Calls Tryz.prog 22 #[.agg #[.int .i64 x.f0, .int .i64 x.f1], .pointer (some ⟨fb, 0, none⟩), .pointer (some ⟨zb, 0, none⟩), .pointer (some ⟨hb, 0, none⟩), .pointer (some ⟨bb, 0, none⟩)] w fun e w' =>
      e = .returned (.bool (takes z p ids x)) ∧ FS fb b w' base (if takes z p ids x = true then ids ++ [x.f0] else ids) ∧ Eff w w' (fun k => fb ≤ k ∧ (k = fb ∨ k ≠ gb)) :=
  (Plan2_calls gb fb zb hb bb b z h x.f0 x.f1 w base ids (p x) k st hgb hbase hl E.cz E.ch E.cb (hon x)).mono fun _ _ ⟨h1, h2, h3⟩ => ⟨h1, h2.fs, h3⟩

set_option maxHeartbeats 4000000 in
set_option maxRecDepth 100000 in
theorem IndexFunc_calls (hR : Rw encI w base1 35 (.slice (some ⟨g, 0, none⟩) l.length cap) l) (hgf : g < fb) (st : FS fb b w base ids) (hbase : base ≤ w.heap.size) (hl : ids.length < 1000) (E : Env fb zb hb bb z h b w) (hon : ∀ x : It, tree_On.f k h b x.f1 = some (p x)) (hn : l.length < 1000) :
    Calls Tryz.prog 47 #[.slice (some ⟨g, 0, none⟩) l.length cap, .func (.func 22) #[] #[.pointer (some ⟨fb, 0, none⟩), .pointer (some ⟨zb, 0, none⟩), .pointer (some ⟨hb, 0, none⟩), .pointer (some ⟨bb, 0, none⟩)]] w fun e w' =>
      ∃ r, e = .returned (.int .i64 r) ∧ Eff w w' (fun k => fb ≤ k) ∧ ((r = -1 ∧ (∀ x ∈ l, takes z p ids x = false) ∧ FS fb b w' base ids) ∨
        ∃ (j : Nat) (hj : j < l.length), r = (j : Int) ∧ (∀ x ∈ l.take j, takes z p ids x = false) ∧ takes z p ids l[j] = true ∧ FS fb b w' base (ids ++ [l[j].f0])) := by
  have eg : ∀ args w, (callFunc 22 args).run Tryz.prog w = .ok (.enter 22 args) w := enters_of Tryz.func22 (by kernel_rfl) rfl
  have HR : Aside (Rw encI w base1 35 (.slice (some ⟨g, 0, none⟩) l.length cap) l) := hR
  have ST : Aside (FS fb b w base ids) := st
  have EN : Aside (Env fb zb hb bb z h b w) := E
  have ON : Aside (∀ x : It, tree_On.f k h b x.f1 = some (p x)) := hon
  clear hR st E hon
  go_enter Tryz.func47, Tryz.ntmps47
  go_wp2
  go_loopg [8] l.length (fun gg vi wr => ∃ (i : Nat), vi = .int .i64 i ∧ i ≤ l.length ∧ l.length - i ≤ gg ∧ Aside (FS fb b wr base ids) ∧ Aside (Eff w wr (fun k => fb ≤ k)) ∧ Aside (∀ x ∈ l.take i, takes z p ids x = false))
  case atStart => exact ⟨0, by go_num, Nat.zero_le _, by omega, ST, Eff.refl _ _, fun x hx => by simp at hx⟩
  case round =>
    obtain ⟨i, rfl, hi, hg, S1, F1, N1⟩ := hrel
    by_cases hlt : i < l.length
    · have hltz : (i : Int) < (l.length : Int) := by omega
      have R1 := HR.out.eff F1.out (fun q hq => by have : g = q := by simpa [Value.ownBlock] using hq
                                                   omega)
      have c0 : wr.cell? ⟨g, i * 2, none⟩ = some (.int .i64 l[i].f0) := (R1.cell encI_two i hlt 0 (by omega)).trans rfl
      have c1 : wr.cell? ⟨g, i * 2 + 1, none⟩ = some (.int .i64 l[i].f1) := (R1.cell encI_two i hlt 1 (by omega)).trans rfl
      have hc := del_calls l[i] S1.out (Nat.le_trans hbase F1.out.size) hl (EN.out.eff' F1.out) ON.out
      obtain ⟨x, hx⟩ : ∃ x, x = l[i] := ⟨_, rfl⟩
      rw [← hx] at c0 c1 hc
      have X := Aside0.mk hx
      clear hx R1
      cases ht : takes z p ids x with
      | false =>
        rw [ht] at hc
        have HT := Aside0.mk ht
        clear ht
        go_wp2_with fail
        refine hc.mono ?_
        rintro e w1 ⟨rfl, hs, hf⟩
        have S2 : Aside (FS fb b w1 base ids) := hs
        have F2 : Aside (Eff w w1 (fun k => fb ≤ k)) := F1.out.trans hf
        clear hs hf c0 c1
        go_wp2
        go_roundg (l.length - (i + 1))
        case measure => omega
        case rel =>
          refine ⟨i + 1, by go_num, hlt, Nat.le_refl _, S2, F2, (show Aside _ from fun y hy => ?_)⟩
          rw [take_succ hlt, List.mem_append, List.mem_singleton] at hy
          rcases hy with hy | rfl
          · exact N1.out y hy
          · rw [← X.out]; exact HT.out
      | true =>
        rw [ht] at hc
        have HT := Aside0.mk ht
        clear ht
        go_wp2_with fail
        refine hc.mono ?_
        rintro e w1 ⟨rfl, hs, hf⟩
        have S2 : Aside (FS fb b w1 base (ids ++ [x.f0])) := hs
        have F2 : Aside (Eff w w1 (fun k => fb ≤ k)) := F1.out.trans hf
        clear hs hf c0 c1
        go_wp2
        go_ret
        exact ⟨_, rfl, F2.out, .inr ⟨i, hlt, rfl, N1.out, by rw [← X.out]; exact HT.out, by rw [← X.out]; exact S2.out⟩⟩
    · obtain rfl : i = l.length := by omega
      have hltz : ¬ (l.length : Int) < (l.length : Int) := by omega
      go_wp2
      go_ret
      exact ⟨_, rfl, F1.out, .inl ⟨rfl, by rw [← List.take_length (l := l)]; exact N1.out, S1.out⟩⟩
end Go.Proofs.YtfliapankgdeeaaGreat.A
