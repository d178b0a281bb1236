/- The document's stash in memory (oubref7.Stash): a row of blocks by rising id; Find and IDs. -/
import Derived.Test.YtmjbmbhpfckagaaStashN
namespace Go.Proofs.Ytmjbmbhpfckagaa.A
open Go.RowKit Go.Maps Go.Sort Go.Shelf Go.Proofs.YtmjbmbhpfckagaaW.PrintWords Go.Proofs.YtmjbmbhpfckagaaW.PrintLast Go.Proofs.Ytmjbmbhpfckagaa.B
set_option linter.unusedVariables false
set_option linter.unusedSimpArgs false

abbrev Ent := Int × (Option Addr × Nat × Nat)
def entV (y : Ent) : Value := .slice y.2.1 y.2.2.1 y.2.2.2
/-- THE DOCUMENT'S STASH at g: its row v of blocks ys, their bytes among Rs; P: what is seen; there were m at most. -/
structure XS (w : World) (g : Nat) (Rs : Nat → Prop) (v : Value) (ys : List Ent) (P : List (Int × List Int)) (m : Int) : Prop where
  cells : w.heap[g]? = some (.cells #[v, .int .i64 m] 51 (0, 0))
  own : kF.R 53 w (g + 1) (fun _ => True) v ys
  len : ys.length = P.length
  rows : ∀ (j : Nat) y p, ys[j]? = some y → P[j]? = some p → y.1 = p.1 ∧ Row w Rs (entV y) p.2
  nv : ∀ k, v.ownBlock = some k → ¬ Rs k
  hi : ∀ k, Rs k → g < k ∧ k < w.heap.size
theorem info53 : (Try.prog.info? 53).map (fun i => (i.zero, i.size, i.bytes)) = some (some (.agg #[.int .i64 0, .slice none 0 0]), 2, 32) := by kernel_rfl

section
variable {w w1 : World} {g : Nat} {Rs : Nat → Prop} {v : Value} {ys : List Ent} {P : List (Int × List Int)} {m : Int}
theorem XS.lt (h : XS w g Rs v ys P m) : g < w.heap.size := (Array.getElem?_eq_some_iff.1 h.cells).1
theorem XS.base (h : XS w g Rs v ys P m) (k : Nat) (hk : v.ownBlock = some k) : g < k ∧ k < w.heap.size := by
  obtain ⟨inner, ho⟩ := Kd.R_own h.own
  exact ⟨own_base ho k hk, own_lt ho k hk⟩
theorem XS.step (h : XS w g Rs v ys P m) (hs : w.heap.size ≤ w1.heap.size) (hg : w1.heap[g]? = w.heap[g]?) (hv : ∀ k, v.ownBlock = some k → w1.heap[k]? = w.heap[k]?) (hr : ∀ k, Rs k → k < w.heap.size → w1.heap[k]? = w.heap[k]?) : XS w1 g Rs v ys P m where
  cells := hg.trans h.cells
  own := by
    obtain ⟨h0, inner, ho, hr2⟩ := h.own
    exact ⟨h0, inner, own_move ho hv, hr2⟩
  len := h.len
  rows := fun j y p hy hp => ⟨(h.rows j y p hy hp).1, (h.rows j y p hy hp).2.step hs hr⟩
  nv := h.nv
  hi := fun k hk => ⟨(h.hi k hk).1, Nat.lt_of_lt_of_le (h.hi k hk).2 hs⟩
theorem XS.below (h : XS w g Rs v ys P m) (hb : Below w.heap.size w w1) : XS w1 g Rs v ys P m :=
  h.step hb.size (hb.block g h.lt) (fun k hk => hb.block k (h.base k hk).2) (fun k _ hk => hb.block k hk)
/-- Whatever is written outside it. -/
theorem XS.kept {S : Nat → Prop} (h : XS w g Rs v ys P m) (hk : Kept w w1 S) (hS : ∀ k, g ≤ k → ¬ S k) : XS w1 g Rs v ys P m :=
  h.step hk.1 (hk.2 g h.lt (hS g (Nat.le_refl _))) (fun k hv => hk.2 k (h.base k hv).2 (hS k (Nat.le_of_lt (h.base k hv).1))) (fun k hr hlt => hk.2 k hlt (hS k (Nat.le_of_lt (h.hi k hr).1)))
theorem XS.cell0 (h : XS w g Rs v ys P m) : w.cell? ⟨g, 0, none⟩ = some v := by simp [World.cell?, h.cells]
theorem XS.cell1 (h : XS w g Rs v ys P m) : w.cell? ⟨g, 1, none⟩ = some (.int .i64 m) := by simp [World.cell?, h.cells]
theorem XS.frozen (h : XS w g Rs v ys P m) (j : Nat) : w.frozen? ⟨g, j, none⟩ = false := by simp [World.frozen?, h.cells]
theorem XS.slice (h : XS w g Rs v ys P m) : ∃ A c, v = .slice A P.length c ∧ P.length ≤ c ∧ kF.C w A P.length ys := by
  obtain ⟨A, c, e, hc, hC⟩ := Kd.R_reads h.own
  rw [h.len] at e hc hC
  exact ⟨A, c, e, hc, hC⟩
/-- One of its blocks. -/
theorem XS.at {g' n c : Nat} (h : XS w g Rs (.slice (some ⟨g', 0, none⟩) n c) ys P m) (j : Nat) (hj : j < P.length) : ∃ y p, ys[j]? = some y ∧ P[j]? = some p ∧ y.1 = p.1 ∧ Row w Rs (entV y) p.2 ∧ w.cell? ⟨g', j * 2, none⟩ = some (.int .i64 p.1) ∧ w.cell? ⟨g', j * 2 + 1, none⟩ = some (entV y) ∧ w.frozen? ⟨g', j * 2, none⟩ = false ∧ w.frozen? ⟨g', j * 2 + 1, none⟩ = false := by
  have hn : n = P.length := by
    obtain ⟨A, c', e, _⟩ := h.slice
    cases e
    rfl
  have hjy : j < ys.length := by rw [h.len]; exact hj
  obtain ⟨cs, h1, h2, h3, h4⟩ := Kd.R_elem h.own (0, (none, 0, 0)) (j : Int) (by omega) (by omega)
  rw [Int.toNat_natCast] at h2 h3 h4
  have e2 : ys.getD j (0, (none, 0, 0)) = ys[j] := by simp [List.getD_eq_getElem?_getD, hjy]
  rw [e2] at h2
  obtain ⟨hr1, hr2⟩ := h.rows j ys[j] P[j] (by simp [hjy]) (by simp [hj])
  have e3 := kF_open (kF.K_of_M h2)
  subst e3
  refine ⟨ys[j], P[j], by simp [hjy], by simp [hj], hr1, hr2, ?_, h3 1 _ rfl, h4 0, h4 1⟩
  rw [← hr1]
  exact h3 0 _ rfl
theorem XS.head (h : XS w g Rs v ys P m) (h0 : 0 < P.length) : ∃ b c, v = .slice (some ⟨b, 0, none⟩) P.length c := by
  obtain ⟨A, c, e, _⟩ := h.slice
  obtain ⟨inner, ho⟩ := Kd.R_own h.own
  rcases ho.2 with ⟨e2, h3⟩ | ⟨b, cap, cur, e2, _⟩
  · rw [h.len] at h3; omega
  · rw [e2] at e
    injection e with e3 e4 e5
    exact ⟨b, cap, by rw [e2, e4]⟩

/-- Where an id stands. -/
def ix (id : Int) (P : List (Int × List Int)) : Option Nat := P.findIdx? fun p => decide (p.1 = id)
def posF (id : Int) (P : List (Int × List Int)) : Int := match ix id P with | some k => k | none => -1
theorem ix_some {id : Int} {k : Nat} (h : ∀ j p, j < k → P[j]? = some p → p.1 ≠ id) {p : Int × List Int} (hp : P[k]? = some p) (he : p.1 = id) : ix id P = some k := by
  obtain ⟨hk, hpk⟩ := List.getElem?_eq_some_iff.1 hp
  unfold ix
  rw [List.findIdx?_eq_some_iff_getElem]
  refine ⟨hk, by rw [hpk]; simpa using he, fun j hj => ?_⟩
  have := h j P[j] hj (by simp [show j < P.length by omega])
  simpa using this
theorem ix_none {id : Int} (h : ∀ (j : Nat) p, P[j]? = some p → p.1 ≠ id) : ix id P = none := by
  unfold ix
  rw [List.findIdx?_eq_none_iff]
  intro p hp
  obtain ⟨j, hj⟩ := List.mem_iff_getElem?.1 hp
  simpa using h j p hj

set_option maxHeartbeats 2000000 in
set_option maxRecDepth 100000 in
theorem XFind (h : XS w g Rs v ys P m) (id : Int) (hP : P.length ≤ 64) :
    Calls Try.prog 24 #[.pointer (some ⟨g, 0, none⟩), .int .i64 id] w fun e w' => e = .returned (.int .i64 (posF id P)) ∧ w' = w := by
  obtain ⟨A, c, rfl, hc, _⟩ := h.slice
  have H := Lib.hid h
  have c0 := h.cell0
  clear h
  go_enter Try.func24, Try.ntmps24
  go_wp2
  go_loop [5] (fun i => ∃ k : Nat, k ≤ P.length ∧ i = .int .i64 k ∧ Hid (∀ (j : Nat) p, j < k → P[j]? = some p → p.1 ≠ id)) (fun i => P.length - (intOf i).toNat)
  case atStart => exact ⟨0, Nat.zero_le _, rfl, fun j p hj => by omega⟩
  case round =>
    obtain ⟨k, hk, rfl, HN⟩ := hrel
    by_cases hlt : k < P.length
    · obtain ⟨b, c', e⟩ := H.out.head (by omega)
      cases e
      obtain ⟨y, p, _, hp, _, _, q0, _⟩ := H.out.at k hlt
      have HPk := Lib.hid hp
      clear hp
      by_cases he : p.1 = id
      · have HE := Lib.hid (show posF id P = k by unfold posF; rw [ix_some HN.out HPk.out he])
        have t1 : (p.1 == id) = true := by simpa using he
        clear he
        generalize p.1 = z at q0 t1
        go_wp2
        go_ret
        exact ⟨by rw [HE.out]; rfl, rfl⟩
      · have HN2 := Lib.hid (show ∀ (j : Nat) q, j < k + 1 → P[j]? = some q → q.1 ≠ id from fun j q hj hq => by
          by_cases hjk : j < k
          · exact HN.out j q hjk hq
          · have : j = k := by omega
            subst this
            have e := HPk.out
            rw [hq] at e
            cases e
            exact he)
        have t1 : (p.1 == id) = false := by simpa using he
        clear he
        generalize p.1 = z at q0 t1
        go_wp2
        go_round
        case rel => exact ⟨k + 1, by omega, by go_num, HN2.out⟩
        case measure => simp [intOf]; omega
    · have HE := Lib.hid (show posF id P = -1 by
        unfold posF
        rw [ix_none (fun j p hp => HN.out j p (by have := (List.getElem?_eq_some_iff.1 hp).1; omega) hp)])
      go_wp2
      go_ret
      exact ⟨by rw [HE.out]; rfl, rfl⟩

theorem info3 : (Try.prog.info? 3).map (fun i => (i.zero, i.size, i.bytes)) = some (some (.int .i64 0), 1, 8) := by kernel_rfl
set_option maxHeartbeats 4000000 in
set_option maxRecDepth 100000 in
theorem XIDs (h : XS w g Rs v ys P m) (hP : P.length ≤ 64) :
    Calls Try.prog 26 #[.pointer (some ⟨g, 0, none⟩)] w fun e w' => ∃ A c, e = .returned (.slice A (P.map (·.1)).length c) ∧ (P.map (·.1)).length ≤ c ∧ Kd.C (Kd.int .i64) w' A (P.map (·.1)).length (P.map (·.1)) ∧ Below w.heap.size w w' := by
  obtain ⟨A, c, rfl, hc, _⟩ := h.slice
  have H := Lib.hid h
  clear h
  go_enter Try.func26, Try.ntmps26
  go_wp2
  go_loopw [3, 4] (fun v i wr => ∃ k : Nat, k ≤ P.length ∧ i = .int .i64 k ∧ Hid (Kd.R (Kd.int .i64) 3 wr w.heap.size (fun _ => True) v ((P.map (·.1)).take k)) ∧ Hid (Below w.heap.size w wr)) (fun _ i _ => P.length - (intOf i).toNat)
  case atStart => exact ⟨0, Nat.zero_le _, rfl, Kd.R_nil _ _ _ _ _, Below.refl _ _⟩
  case round =>
    obtain ⟨k, hk, rfl, HRv, HB⟩ := hrel
    have H1 := Lib.hid (H.out.below HB.out)
    have c0 := H1.out.cell0
    have szb := HB.out.size
    by_cases hlt : k < P.length
    · obtain ⟨b, c', e⟩ := H1.out.head (by omega)
      cases e
      obtain ⟨y, p, _, hp, _, _, q0, _⟩ := H1.out.at k hlt
      have HT := Lib.hid (show (P.map (·.1)).take (k + 1) = (P.map (·.1)).take k ++ [p.1] by rw [List.take_add_one]; simp [hp])
      have HK := Lib.hid (show ((P.map (·.1)).take k).length = k by simp; omega)
      clear hp
      generalize p.1 = z at q0 HT
      go_wp2_with (first
        | (at_builtin; refine Kd.R_append (Kd.int .i64) (w0 := w) w.heap.size rfl (.tmp 14) (.tmp 23) 46 3 (.int .i64 0) 8 rfl Try.underlying46 info3 rfl (show 0 < 1 by omega) (by omega) u3 ((P.map (·.1)).take k) z [.int .i64 z] (fun _ => True) (fun _ => False) rfl rfl ?aP ?aK ?aF ?aO ?aB ?aS ?aL ?_; (case aP => exact rfl); (case aK => exact fun k_ hk_ => hk_.elim); (case aF => exact fun _ _ => trivial); (case aO => exact HRv.out); (case aB => exact HB.out); (case aS => exact szb); (case aL => rw [HK.out]; omega); intro v5 w5 ho hb hg hat; have HO5 := Lib.hid ho; have HB5 := Lib.hid hb; clear ho hb hg hat)
        | fail)
      go_roundw
      case rel => exact ⟨k + 1, by omega, by go_num, by rw [HT.out]; exact HO5.out, HB5.out⟩
      case measure => simp [intOf]; omega
    · go_wp2
      go_ret
      obtain rfl : k = P.length := by omega
      have hR := HRv.out
      rw [List.take_of_length_le (by simp)] at hR
      obtain ⟨A2, c2, rfl, hc2, hC2⟩ := Kd.R_reads hR
      exact ⟨A2, c2, rfl, hc2, hC2, HB.out⟩
end
end Go.Proofs.Ytmjbmbhpfckagaa.A
