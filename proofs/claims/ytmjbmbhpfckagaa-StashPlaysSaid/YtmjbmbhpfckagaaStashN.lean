/- StashOrder, walked. -/
import Derived.Test.YtmjbmbhpfckagaaStashM
import Derived.Test.YtmjbmbhpfckagaaStashK
namespace Go.Proofs.Ytmjbmbhpfckagaa.A
open Go.RowKit Go.Maps Go.Sort Go.Shelf Go.Proofs.YtmjbmbhpfckagaaW.PrintWords Go.Proofs.YtmjbmbhpfckagaaW.PrintLast Go.Proofs.Ytmjbmbhpfckagaa.B
set_option linter.unusedVariables false
set_option linter.unusedSimpArgs false

/-- A block as it is copied: its id, and where its bytes lie. -/
def kF : Kd (Int × (Option Addr × Nat × Nat)) := Kd.pair (Kd.int .i64) (Kd.scalar (fun q => Value.slice q.1 q.2.1 q.2.2) (fun _ => rfl))
theorem kF_mkM (w : World) (base : Nat) (ok : Nat → Prop) (i : Int) (A : Option Addr) (n c : Nat) : kF.M w base ok (i, (A, n, c)) [.int .i64 i, .slice A n c] := ⟨[.int .i64 i], [.slice A n c], rfl, rfl, rfl⟩
theorem kF_open {w : World} {y : Int × (Option Addr × Nat × Nat)} {cs : List Value} (h : kF.K w y cs) : cs = [.int .i64 y.1, .slice y.2.1 y.2.2.1 y.2.2.2] := by
  obtain ⟨c1, c2, rfl, h1, h2⟩ := h
  have h1 : c1 = [.int .i64 y.1] := h1
  have h2 : c2 = [.slice y.2.1 y.2.2.1 y.2.2.2] := h2
  rw [h1, h2]
  rfl
/-- Does a copy say what a block is, in a world? -/
def Says (w : World) (y : Int × (Option Addr × Nat × Nat)) (b : S24) : Prop := y.1 = b.f0 ∧ y.2.2.1 = b.f1.length ∧ b.f1.length ≤ y.2.2.2 ∧ Kd.C (Kd.int .u8) w y.2.1 b.f1.length b.f1
theorem C_of_flat {w W : World} {A : Option Addr} {n : Nat} {ys : List (Int × (Option Addr × Nat × Nat))} {bs : List S24} (h : kF.C W A n ys) (hl : ys.length = bs.length) (hs : ∀ (j : Nat) y b, ys[j]? = some y → bs[j]? = some b → Says w y b) (hB : Below w.heap.size w W) : Kd.C k24 W A n bs := by
  obtain ⟨h1, h2, h3⟩ := h
  refine ⟨by rw [← hl]; exact h1, h2, fun h0 => ?_⟩
  obtain ⟨ad, e, h4⟩ := h3 h0
  refine ⟨ad, e, fun j b hb => ?_⟩
  have hj : j < ys.length := by rw [hl]; exact (List.getElem?_eq_some_iff.1 hb).1
  obtain ⟨cs, k1, k2, k3⟩ := h4 j ys[j] (by simp [hj])
  obtain ⟨s1, s2, s3, s4⟩ := hs j ys[j] b (by simp [hj]) hb
  have e2 := kF_open k2
  rw [s1, s2] at e2
  exact ⟨cs, k1, by rw [e2]; exact k24_mk W b s3 (Kd.C_below s4 hB), k3⟩

theorem own_ownI {w w1 : World} {base : Nat} {v : Value} {n : Nat} {xs : List Value} (h : w.ownsRow base 3 1 v n xs) (hb : Below w.heap.size w w1) : w1.ownsRow base 3 1 v n xs := own_move h (fun k hk => hb.block k (own_lt h k hk))
theorem ids_cell {w : World} {base : Nat} {ad : Addr} {c : Nat} {zs : List Int} {n : Nat} (h : w.ownsRow base 3 1 (.slice (some ad) n c) n (zs.map (Value.int .i64))) {j : Nat} (hj : j < n) : w.cell? (ad.add j) = some (.int .i64 (zs.getD j 0)) := by
  obtain ⟨A, c', e, h2⟩ := own_reads_of (d := (0 : Int)) (enc := Value.int .i64) h
  cases e
  obtain ⟨ad', e, hc⟩ := h2.2.2 (by omega)
  cases e
  exact hc j hj
set_option maxHeartbeats 8000000 in
set_option maxRecDepth 100000 in
theorem StashOrder_early (A0 : Option Addr) (c0 : Nat) (l : List S24) (turn : Int) (w : World) (hr0 : Kd.C k24 w A0 l.length l) (hc0 : l.length ≤ c0) (hbig : l.length ≤ 9223372036854775807) (r : Bool) (hF : oublaw9_Few.f 201 l = some r) (hno : r = false ∨ 60 < l.length ∨ mayF [] l = false ∨ turn < 0) :
    Calls Try.prog 6 #[.slice A0 l.length c0, .int .i64 turn] w fun e w' => e = .returned (.bool true) ∧ Below w.heap.size w w' := by
  have HR := Lib.hid hr0
  have HF := Lib.hid hF
  have HBc := Lib.hid (Below.refl w.heap.size w)
  clear hr0 hF
  rcases hM : mayF [] l with _ | _ <;> have HM := Lib.hid hM <;> rcases r with _ | _ <;> by_cases h60 : 60 < l.length <;> by_cases ht : turn < 0
  all_goals
    first
    | (exfalso; rcases hno with h | h | h | h <;> first | omega | exact absurd h (by decide) | (rw [hM] at h; exact absurd h (by decide)))
    | skip
  all_goals
    have t60 : decide (60 < (l.length : Int)) = decide (60 < l.length) := by rw [decide_eq_decide]; omega
    first | rw [decide_eq_true h60] at t60 | rw [decide_eq_false h60] at t60
    have tt : decide (turn < 0) = decide (turn < 0) := rfl
    first | (have tt := decide_eq_true ht) | (have tt := decide_eq_false ht)
    try clear hno
    clear hM h60 ht
    go_enter Try.func6, Try.ntmps6
    go_wp2_with (first
      | (go_at_call 7; refine (first_calls _).mono ?_; rintro e w1 ⟨rfl, hb⟩; replace HBc := Lib.hid (HBc.out.trans (hb.mono HBc.out.size)); clear hb)
      | (go_at_call 8; refine (oublaw9_Few.calls 201 A0 c0 l _ _ (Kd.C_below HR.out HBc.out) hc0 HF.out).mono ?_; rintro e w1 ⟨rfl, hb⟩; replace HBc := Lib.hid (HBc.out.trans (hb.mono HBc.out.size)); clear hb)
      | (go_at_call 9; refine (May_calls A0 c0 l _ (Kd.C_below HR.out HBc.out) hc0 hbig).mono ?_; rintro e w1 ⟨hr, hb⟩; rw [HM.out] at hr; subst hr; replace HBc := Lib.hid (HBc.out.trans (hb.mono HBc.out.size)); clear hb)
      | fail)
    go_ret
    exact ⟨rfl, HBc.out⟩

set_option maxHeartbeats 8000000 in
set_option maxRecDepth 100000 in
theorem StashOrder_main (A0 : Option Addr) (c0 : Nat) (l : List S24) (tn : Nat) (w : World) (hr0 : Kd.C k24 w A0 l.length l) (hc0 : l.length ≤ c0) (h60 : l.length ≤ 60) (hF : oublaw9_Few.f 201 l = some true) (hM : mayF [] l = true) (htn : tn ≤ 9223372036854775807) :
    Calls Try.prog 6 #[.slice A0 l.length c0, .int .i64 tn] w fun e w' => e = .returned (.bool true) ∧ Below w.heap.size w w' := by
  have HR := Lib.hid hr0
  have HF := Lib.hid hF
  have HM := Lib.hid hM
  have HBc := Lib.hid (Below.refl w.heap.size w)
  obtain ⟨P, hP⟩ : ∃ P, l.foldl putP ([], 0) = (P, (l.length : Int)) := ⟨(l.foldl putP ([], 0)).1, Prod.ext rfl (fold_new hM).2.2.1⟩
  have HP := Lib.hid hP
  have hPl : P.length = l.length := by have := (fold_new hM).2.1; rw [hP] at this; exact this
  have HPl := Lib.hid hPl
  have t60 : decide (60 < (l.length : Int)) = false := decide_eq_false (by omega)
  have tt : decide ((tn : Int) < 0) = false := decide_eq_false (by omega)
  clear hr0 hF hM hP hPl
  go_enter Try.func6, Try.ntmps6
  go_wp2_with (first
    | (go_at_call 7; refine (first_calls _).mono ?_; rintro e w1 ⟨rfl, hb⟩; replace HBc := Lib.hid (HBc.out.trans (hb.mono HBc.out.size)); clear hb)
    | (go_at_call 8; refine (oublaw9_Few.calls 201 A0 c0 l _ _ (Kd.C_below HR.out HBc.out) hc0 HF.out).mono ?_; rintro e w2 ⟨rfl, hb⟩; replace HBc := Lib.hid (HBc.out.trans (hb.mono HBc.out.size)); clear hb)
    | (go_at_call 9; refine (May_calls A0 c0 l _ (Kd.C_below HR.out HBc.out) hc0 (by omega)).mono ?_; rintro e w3 ⟨hr, hb⟩; rw [HM.out] at hr; subst hr; replace HBc := Lib.hid (HBc.out.trans (hb.mono HBc.out.size)); clear hb)
    | fail)
  clear t60 tt
  go_loopw [5, 6] (fun v i wr => ∃ (k : Nat) (ys : List (Int × (Option Addr × Nat × Nat))), k ≤ l.length ∧ i = .int .i64 k ∧ Hid (kF.R 24 wr w3.heap.size (fun _ => True) v ys) ∧ Hid (ys.length = k) ∧ Hid (∀ (j : Nat) y b, ys[j]? = some y → (turned l (tn % l.length) k)[j]? = some b → Says w y b) ∧ Hid (Below w3.heap.size w3 wr)) (fun _ i _ => l.length - (intOf i).toNat)
  case atStart => exact ⟨0, [], Nat.zero_le _, rfl, Kd.R_nil _ _ _ _ _, rfl, fun j y b h => by simp at h, Below.refl _ _⟩
  case round =>
    obtain ⟨k, ys, hk, rfl, HRv, HL, HY, HB⟩ := hrel
    have hB3 := Lib.hid (HBc.out.trans (HB.out.mono HBc.out.size))
    by_cases hlt : k < l.length
    · have n0 : ((l.length : Int) == 0) = false := by rw [beq_eq_false_iff_ne]; omega
      have n1 : (0 : Int) < (l.length : Int) := by omega
      obtain ⟨t, ht⟩ : ∃ t, tn % l.length = t := ⟨_, rfl⟩
      have htl : t < l.length := by rw [← ht]; exact Nat.mod_lt _ (by omega)
      obtain ⟨j, hj⟩ : ∃ j, (k + t) % l.length = j := ⟨_, rfl⟩
      have hjl : j < l.length := by rw [← hj]; exact Nat.mod_lt _ (by omega)
      have r1 : (tn : Int) % (l.length : Int) = (t : Int) := by rw [← ht, Int.natCast_emod]
      have r2 : ((k : Int) + (t : Int)) % (l.length : Int) = (j : Int) := by rw [← hj, Int.natCast_emod, Int.natCast_add]
      have r3 : (tn : Int).tmod (l.length : Int) = (t : Int) := by rw [Int.tmod_eq_emod_of_nonneg (by omega), r1]
      have r4 : ((k : Int) + (t : Int)).tmod (l.length : Int) = (j : Int) := by rw [Int.tmod_eq_emod_of_nonneg (by omega), r2]
      obtain ⟨ad, A1, c1, rfl, q0, q1, q2, q3⟩ := C_ads HR.out j hjl
      have hrd : l.getD ((k + tn % l.length) % l.length) ⟨0, []⟩ = rd_T24 l (j : Int) := by rw [ht, hj]; rfl
      generalize rd_T24 l (j : Int) = b at q0 q1 q2 q3 hrd
      obtain ⟨id, xs⟩ := b
      replace q0 := pw_cell_below hB3.out q0
      replace q1 := pw_cell_below hB3.out q1
      have HS := Lib.hid (show ∀ (i : Nat) y b, (ys ++ [(id, (A1, xs.length, c1))])[i]? = some y → (turned l (tn % l.length) (k + 1))[i]? = some b → Says w y b from by
        intro i y b hy hb
        rw [turned_succ, hrd] at hb
        have hl := HL.out
        have hl2 := turned_length l (tn % l.length) k
        by_cases hi : i < k
        · rw [List.getElem?_append_left (by omega)] at hy hb
          exact HY.out i y b hy hb
        · have hi2 : i = k := by
            have := (List.getElem?_eq_some_iff.1 hy).1
            simp at this
            omega
          subst hi2
          rw [List.getElem?_append_right (by omega), hl] at hy
          rw [List.getElem?_append_right (by omega), hl2] at hb
          simp at hy hb
          subst hy hb
          exact ⟨rfl, rfl, q2, q3⟩)
      have szb := HB.out.size
      clear q3 hrd ht hj HY r1 r2
      go_wp2_with (first
        | (at_builtin; refine Kd.R_append kF (w0 := w3) w3.heap.size rfl (.tmp 39) (.tmp 52) 27 24 (.agg #[.int .i64 0, .slice none 0 0]) 32 rfl Try.underlying27 info24 rfl (show 0 < 2 by omega) (by omega) u5 ys (id, (A1, xs.length, c1)) [.int .i64 id, .slice A1 xs.length c1] (fun _ => True) (fun _ => False) rfl rfl ?aP ?aK ?aF ?aO ?aB ?aS ?aL ?_; (case aP => exact kF_mkM _ _ _ _ _ _ _); (case aK => exact fun k_ hk_ => hk_.elim); (case aF => exact fun _ _ => trivial); (case aO => exact HRv.out); (case aB => exact HB.out); (case aS => exact szb); (case aL => rw [HL.out]; omega); intro v5 w5 ho hb hg hat; have HO5 := Lib.hid ho; have HB5 := Lib.hid hb; clear ho hb hg hat)
        | fail)
      go_roundw
      case rel => exact ⟨k + 1, _, by omega, by go_num, HO5.out, by have := HL.out; show (ys ++ _).length = k + 1; simp [this], HS.out, HB5.out⟩
      case measure => simp [intOf]; omega
    · obtain rfl : k = l.length := by omega
      obtain ⟨wo, rfl⟩ : ∃ wo : World, wo = wr := ⟨_, rfl⟩
      obtain ⟨A2, c2, rfl, hc2, hC2⟩ := Kd.R_reads HRv.out
      have hC3 := C_of_flat (w := w) hC2 (HL.out.trans (turned_length _ _ _).symm) HY.out hB3.out
      have hlen : ys.length = l.length := HL.out
      rw [hlen] at hc2 hC3
      have hlt2 : (turned l (tn % l.length) l.length).length = l.length := turned_length _ _ _
      have hperm := turned_perm l (tn % l.length) (by
        rcases Nat.eq_zero_or_pos l.length with h | h
        · exact .inr (List.eq_nil_of_length_eq_zero h)
        · exact .inl (Nat.mod_lt _ h))
      have hP2 := (fold_perm HM.out hperm).trans HP.out
      generalize turned l (tn % l.length) l.length = lm at hC3 hlt2 hP2
      rw [hlen]
      have HC3 := Lib.hid hC3
      have HP2 := Lib.hid hP2
      have HL2 := Lib.hid hlt2
      have HC2 := Lib.hid hc2
      clear hC2 hC3 hc2 hlen hlt2 hperm hP2 HY HL HRv HBc HB
      go_wp2_with fail
      have hN := New_calls A0 c0 l _ (Kd.C_below HR.out hB3.out) hc0 (by omega)
      rw [HP.out] at hN
      refine hN.mono ?_
      clear hN
      rintro e w6 ⟨ga, rfl, ho, hb⟩
      have HOa := Lib.hid (show OS wo.heap.size w6.heap.size w6 ga P (l.length : Int) from ho)
      have HB6 := Lib.hid (hB3.out.trans (hb.mono hB3.out.size))
      have HC6 := Lib.hid (Kd.C_below HC3.out hb)
      have HSZ := Lib.hid (show w.heap.size ≤ wo.heap.size ∧ wo.heap.size ≤ w6.heap.size from ⟨hB3.out.size, hb.size⟩)
      clear ho hb
      go_wp2_with fail
      have hN := New_calls A2 c2 lm w6 (by rw [HL2.out]; exact HC6.out) (by rw [HL2.out]; exact HC2.out) (by rw [HL2.out]; omega)
      rw [HP2.out, HL2.out] at hN
      refine hN.mono ?_
      clear hN
      rintro e w7 ⟨gb, rfl, ho, hb⟩
      have HOb := Lib.hid (show OS w6.heap.size w7.heap.size w7 gb P (l.length : Int) from ho)
      have HB7 := Lib.hid (HB6.out.trans (hb.mono HB6.out.size))
      replace HOa := Lib.hid (HOa.out.below hb)
      clear ho hb HC6 HC3 HC2
      have n0 : ((l.length : Int) != (l.length : Int)) = false := by simp
      go_wp2_with fail
      refine (OS.LenN HOa.out (by rw [HPl.out])).mono ?_
      rintro e w7 ⟨rfl, rfl⟩
      go_wp2_with fail
      refine (OS.Most HOa.out).mono ?_
      rintro e w7 ⟨rfl, rfl⟩
      go_wp2_with fail
      refine (OS.All HOa.out).mono ?_
      rintro e w8 ⟨A3, c3, rfl, hc3, hC3, hb⟩
      have HB8 := Lib.hid (HB7.out.trans (hb.mono HB7.out.size))
      replace HOa := Lib.hid (HOa.out.below hb)
      replace HOb := Lib.hid (HOb.out.below hb)
      have HC8 := Lib.hid hC3
      clear hb hC3
      go_wp2_with fail
      refine (OS.All HOb.out).mono ?_
      rintro e w9 ⟨A4, c4, rfl, hc4, hC4, hb⟩
      have HB9 := Lib.hid (HB8.out.trans (hb.mono HB8.out.size))
      replace HOa := Lib.hid (HOa.out.below hb)
      replace HOb := Lib.hid (HOb.out.below hb)
      have HC9 := Lib.hid (Kd.C_below HC8.out hb)
      have HD9 := Lib.hid hC4
      clear hb hC4
      go_wp2_with fail
      refine (Same_eq (blk P) A3 A4 c3 c4 _ HC9.out HD9.out (by rw [blk_length, HPl.out]; omega)).mono ?_
      rintro e w10 ⟨rfl, hb⟩
      have HB10 := Lib.hid (HB9.out.trans (hb.mono HB9.out.size))
      replace HOa := Lib.hid (HOa.out.below hb)
      replace HOb := Lib.hid (HOb.out.below hb)
      clear hb HC9 HD9 HC8 hc3 hc4
      have HX := Lib.hid (show w.heap.size ≤ wo.heap.size ∧ wo.heap.size ≤ w6.heap.size ∧ w6.heap.size ≤ w10.heap.size from ⟨HSZ.out.1, HSZ.out.2, by have := HOb.out.lt; omega⟩)
      go_wp2_with fail
      refine (OS.IDs HOa.out).mono ?_
      rintro e w11 ⟨v, rfl, hr, hb⟩
      have HB11 := Lib.hid (HB10.out.trans (hb.mono HB10.out.size))
      replace HOa := Lib.hid (HOa.out.below hb)
      replace HOb := Lib.hid (HOb.out.below hb)
      rw [List.length_map] at hr
      obtain ⟨Ai, ci, rfl, _⟩ := own_reads_of (d := (0 : Int)) (enc := Value.int .i64) hr
      have HI := Lib.hid hr
      clear hr hb
      go_wp2_with fail
      go_loopw [10] (fun i wx => ∃ j : Nat, j ≤ P.length ∧ i = .int .i64 j ∧ Hid (OS wo.heap.size w6.heap.size wx ga P (l.length : Int)) ∧ Hid (OS w6.heap.size w7.heap.size wx gb P (l.length : Int)) ∧ Hid (wx.ownsRow w10.heap.size 3 1 (.slice Ai P.length ci) P.length ((P.map (·.1)).map (Value.int .i64))) ∧ Hid (Below w.heap.size w wx)) (fun i _ => P.length - (intOf i).toNat)
      case atStart => exact ⟨0, Nat.zero_le _, rfl, HOa, HOb, HI, HB11⟩
      case round =>
        clear HOa HOb HI HB11
        obtain ⟨j, hj, rfl, HOa, HOb, HI, HBx⟩ := hrel
        have hPl2 : P.length ≤ 60 := by rw [HPl.out]; exact h60
        by_cases hlt : j < P.length
        · obtain ⟨⟨id, xs⟩, hp⟩ : ∃ p, P[j]? = some p := ⟨P[j], by simp [hlt]⟩
          have hmem : (id, xs) ∈ P := List.mem_of_getElem? hp
          have hG := getA_of_mem HOa.out.up _ hmem
          have hpd := put_del HOa.out.up hG
          obtain ⟨hid0, hid1, hxl⟩ := OS.entry HOa.out hmem
          have hidj : (P.map (·.1)).getD j 0 = id := by simp [List.getD_eq_getElem?_getD, hp]
          have HG := Lib.hid (show getA id P = some xs from hG)
          have HPD := Lib.hid (show putA id xs (delA id P) = P from hpd)
          have HEnt := Lib.hid (show 0 ≤ id ∧ id < 64 ∧ xs.length = 37 from ⟨hid0, hid1, hxl⟩)
          have hnd := Lib.hid (show (getA id (delA id P)).isSome = false by rw [getA_del_same]; rfl)
          have HX2 := Lib.hid (show w.heap.size ≤ wo.heap.size ∧ w6.heap.size ≤ w10.heap.size ∧ w10.heap.size ≤ wr.heap.size from ⟨HX.out.1, HX.out.2.2, by
            rcases HI.out.2 with ⟨_, h⟩ | ⟨b, _, _, _, h1, h2, _⟩
            · omega
            · have := (Array.getElem?_eq_some_iff.1 h2).1; omega⟩)
          obtain ⟨Aj, cj, e1, hri⟩ := own_reads_of (d := (0 : Int)) (enc := Value.int .i64) HI.out
          cases e1
          obtain ⟨ad, rfl, hcell⟩ := hri.2.2 (by omega)
          have qa := hcell j hlt
          rw [hidj] at qa
          have HIdj := Lib.hid hidj
          clear hmem hp hG hpd hcell hidj hri hid0 hid1 hxl
          go_wp2_with fail
          refine (OS.Take_some HOa.out id (wf_small ⟨HEnt.out.1, HEnt.out.2.1⟩) xs HG.out).mono ?_
          rintro e w12 ⟨ta, to_, tc, rfl, ho, he, hl, hcc, hta⟩
          have HOa2 := Lib.hid ho
          have HOb2 := Lib.hid (HOb.out.kept he.kept (fun k h1 h2 => by omega))
          have HI2 := Lib.hid (own_move HI.out (fun k hk => he.kept.2 k (own_lt HI.out k hk) (fun h2 => by have := own_base HI.out k hk; have := HX2.out; omega)))
          have HB12 := Lib.hid (HBx.out.trans (Eff.low he HBx.out.size (fun k hk => by have := HX2.out; omega)))
          have HC12 := Lib.hid hcc
          have HSz12 := Lib.hid he.kept.1
          have HL12 := Lib.hid hl
          clear ho he hl hcc hta qa
          have HT0 := Lib.hid (heap_top w12 (.cells #[.int .i64 id, .slice (some ⟨ta, to_, none⟩) xs.length tc] 24 (0, 0)))
          have ab := (Below.refl w12.heap.size w12).alloc (Nat.le_refl _) (.cells #[.int .i64 id, .slice (some ⟨ta, to_, none⟩) xs.length tc] 24 (0, 0))
          have HOa3 := Lib.hid ((HOa2.out.below ab).below (Below.drew' _))
          have HOb3 := Lib.hid ((HOb2.out.below ab).below (Below.drew' _))
          have HB13 := Lib.hid ((HB12.out.trans (ab.mono HB12.out.size)).trans ((Below.drew' _).mono (HB12.out.trans (ab.mono HB12.out.size)).size))
          have HC13 := Lib.hid (Kd.C_below (Kd.C_below HC12.out ab) (Below.drew' _))
          have HI3 := Lib.hid (own_ownI (own_ownI HI2.out ab) (Below.drew' _))
          clear ab
          go_wp2_with fail
          obtain ⟨V, hV⟩ : ∃ V : World, w12.alloc (.cells #[.int .i64 id, .slice (some ⟨ta, to_, none⟩) xs.length tc] 24) = V := ⟨_, rfl⟩
          obtain ⟨B, hBn⟩ : ∃ B : Nat, w12.heap.size = B := ⟨_, rfl⟩
          rw [hV] at HT0 HOa3 HOb3 HB13 HC13 HI3 ⊢
          rw [hBn] at HT0 ⊢
          have HBB := Lib.hid (show w10.heap.size ≤ B from by have := HX2.out; have := (show wr.heap.size ≤ w12.heap.size from HSz12.out); omega)
          clear hV HOa2 HOb2 HI2 HB12 HC12
          have hqa := ids_cell HI3.out hlt
          rw [HIdj.out] at hqa
          have nid : (id != id) = false := by simp
          refine start_ (n := 25) (S := fun w' => w'.cell? ⟨B, 0, none⟩ = some (.int .i64 id) ∧ w'.cell? ⟨B, 1, none⟩ = some (.slice (some ⟨ta, to_, none⟩) xs.length tc) ∧ w'.cell? (ad.add j) = some (.int .i64 id)) (ds := []) #[false, false, false, false, false, false, false, false, false, false, false, false, false, false, false, false, false, false, false, false, false, false, false, false, false] (by kernel_rfl) rfl rfl ⟨cell_at HT0.out 0 rfl, cell_at HT0.out 1 rfl, (HIdj.out ▸ ids_cell HI3.out hlt)⟩ (fun hHeld => ?_)
          refine pure_ (i := 0) (N := some 103) (v := ?_) (a' := ?_) #[true, false, false, false, false, false, false, false, false, false, false, false, false, false, false, false, false, false, false, false, false, false, false, false, false] rfl rfl (by kernel_rfl) (fun _ _ _ h => h) (Or.inl ⟨by rfl, ?_⟩) ?_ ?_
          rotate_left
          · intro w'
            go_simp
            with_reducible rfl
          rotate_left
          · simp only [Act.put, List.setIfInBounds_toArray, List.set_cons_zero, List.set_cons_succ, i64_w, i32_w]
            rfl
          refine pure_ (i := 1) (N := some 104) (v := ?_) (a' := ?_) #[true, true, false, false, false, false, false, false, false, false, false, false, false, false, false, false, false, false, false, false, false, false, false, false, false] rfl rfl (by kernel_rfl) (fun _ _ _ h => h) (Or.inl ⟨by rfl, ?_⟩) ?_ ?_
          rotate_left
          · intro w'
            go_simp
            with_reducible rfl
          rotate_left
          · simp only [Act.put, List.setIfInBounds_toArray, List.set_cons_zero, List.set_cons_succ, i64_w, i32_w]
            rfl
          refine pure_ (i := 2) (N := some 105) (v := ?_) (a' := ?_) #[true, true, true, false, false, false, false, false, false, false, false, false, false, false, false, false, false, false, false, false, false, false, false, false, false] rfl rfl (by kernel_rfl) (fun _ _ _ h => h) (Or.inl ⟨by rfl, ?_⟩) ?_ ?_
          rotate_left
          · intro w'
            go_simp
            with_reducible rfl
          rotate_left
          · simp only [Act.put, List.setIfInBounds_toArray, List.set_cons_zero, List.set_cons_succ, i64_w, i32_w]
            rfl
          refine pure_ (i := 3) (N := some 106) (v := ?_) (a' := ?_) #[true, true, true, true, false, false, false, false, false, false, false, false, false, false, false, false, false, false, false, false, false, false, false, false, false] rfl rfl (by kernel_rfl) (fun _ _ _ h => h) (Or.inl ⟨by rfl, ?_⟩) ?_ ?_
          rotate_left
          · intro w'
            go_simp
            with_reducible rfl
          rotate_left
          · simp only [Act.put, List.setIfInBounds_toArray, List.set_cons_zero, List.set_cons_succ, i64_w, i32_w]
            rfl
          refine pure_ (i := 5) (N := some 108) (v := ?_) (a' := ?_) #[true, true, true, true, false, true, false, false, false, false, false, false, false, false, false, false, false, false, false, false, false, false, false, false, false] rfl rfl (by kernel_rfl) (fun _ _ _ h => h) (Or.inl ⟨by rfl, ?_⟩) ?_ ?_
          rotate_left
          · intro w'
            go_simp
            with_reducible rfl
          rotate_left
          · simp only [Act.put, List.setIfInBounds_toArray, List.set_cons_zero, List.set_cons_succ, i64_w, i32_w]
            rfl
          refine pure_ (i := 6) (N := some 109) (v := ?_) (a' := ?_) #[true, true, true, true, false, true, true, false, false, false, false, false, false, false, false, false, false, false, false, false, false, false, false, false, false] rfl rfl (by kernel_rfl) (fun _ _ _ h => h) (Or.inl ⟨by rfl, ?_⟩) ?_ ?_
          rotate_left
          · intro w'
            go_simp
            with_reducible rfl
          rotate_left
          · simp only [Act.put, List.setIfInBounds_toArray, List.set_cons_zero, List.set_cons_succ, i64_w, i32_w]
            rfl
          refine pure_ (i := 7) (N := some 110) (v := ?_) (a' := ?_) #[true, true, true, true, false, true, true, true, false, false, false, false, false, false, false, false, false, false, false, false, false, false, false, false, false] rfl rfl (by kernel_rfl) (fun _ _ _ h => h) (Or.inl ⟨by rfl, ?_⟩) ?_ ?_
          rotate_left
          · intro w'
            go_simp
            with_reducible rfl
          rotate_left
          · simp only [Act.put, List.setIfInBounds_toArray, List.set_cons_zero, List.set_cons_succ, i64_w, i32_w]
            rfl
          refine take_ (i := 4) (N := some 107) (v := ?_) (a' := ?_) #[true, true, true, true, true, true, true, true, false, false, false, false, false, false, false, false, false, false, false, false, false, false, false, false, false] rfl rfl (by kernel_rfl) (fun _ _ _ h => h) (Or.inl ⟨by rfl, ?_⟩) hHeld ?_ ?_
          rotate_left
          · rintro w' ⟨s0, s1, s2⟩
            go_simp
            with_reducible rfl
          rotate_left
          · simp only [Act.put, List.setIfInBounds_toArray, List.set_cons_zero, List.set_cons_succ, i64_w, i32_w]
            rfl
          refine take_ (i := 8) (N := some 111) (v := ?_) (a' := ?_) #[true, true, true, true, true, true, true, true, true, false, false, false, false, false, false, false, false, false, false, false, false, false, false, false, false] rfl rfl (by kernel_rfl) (fun _ _ _ h => h) (Or.inl ⟨by rfl, ?_⟩) hHeld ?_ ?_
          rotate_left
          · rintro w' ⟨s0, s1, s2⟩
            go_simp
            with_reducible rfl
          rotate_left
          · simp only [Act.put, List.setIfInBounds_toArray, List.set_cons_zero, List.set_cons_succ, i64_w, i32_w]
            rfl
          refine pure_ (i := 9) (N := some 112) (v := ?_) (a' := ?_) #[true, true, true, true, true, true, true, true, true, true, false, false, false, false, false, false, false, false, false, false, false, false, false, false, false] rfl rfl (by kernel_rfl) (fun _ _ _ h => h) (Or.inl ⟨by rfl, ?_⟩) ?_ ?_
          rotate_left
          · intro w'
            go_simp
            with_reducible rfl
          rotate_left
          · simp only [Act.put, List.setIfInBounds_toArray, List.set_cons_zero, List.set_cons_succ, i64_w, i32_w]
            rfl
          refine pure_ (i := 10) (N := some 113) (v := ?_) (a' := ?_) #[true, true, true, true, true, true, true, true, true, true, true, false, false, false, false, false, false, false, false, false, false, false, false, false, false] rfl rfl (by kernel_rfl) (fun _ _ _ h => h) (Or.inl ⟨by rfl, ?_⟩) ?_ ?_
          rotate_left
          · intro w'
            go_simp
            with_reducible rfl
          rotate_left
          · simp only [Act.put, List.setIfInBounds_toArray, List.set_cons_zero, List.set_cons_succ, i64_w, i32_w]
            rfl
          refine pure_ (i := 11) (N := some 114) (v := ?_) (a' := ?_) #[true, true, true, true, true, true, true, true, true, true, true, true, false, false, false, false, false, false, false, false, false, false, false, false, false] rfl rfl (by kernel_rfl) (fun _ _ _ h => h) (Or.inl ⟨by rfl, ?_⟩) ?_ ?_
          rotate_left
          · intro w'
            go_simp
            with_reducible rfl
          rotate_left
          · simp only [Act.put, List.setIfInBounds_toArray, List.set_cons_zero, List.set_cons_succ, i64_w, i32_w]
            rfl
          refine pure_ (i := 12) (N := some 115) (v := ?_) (a' := ?_) #[true, true, true, true, true, true, true, true, true, true, true, true, true, false, false, false, false, false, false, false, false, false, false, false, false] rfl rfl (by kernel_rfl) (fun _ _ _ h => h) (Or.inl ⟨by rfl, ?_⟩) ?_ ?_
          rotate_left
          · intro w'
            go_simp
            with_reducible rfl
          rotate_left
          · simp only [Act.put, List.setIfInBounds_toArray, List.set_cons_zero, List.set_cons_succ, i64_w, i32_w]
            rfl
          refine pure_ (i := 13) (N := some 116) (v := ?_) (a' := ?_) #[true, true, true, true, true, true, true, true, true, true, true, true, true, true, false, false, false, false, false, false, false, false, false, false, false] rfl rfl (by kernel_rfl) (fun _ _ _ h => h) (Or.inl ⟨by rfl, ?_⟩) ?_ ?_
          rotate_left
          · intro w'
            go_simp
            with_reducible rfl
          rotate_left
          · simp only [Act.put, List.setIfInBounds_toArray, List.set_cons_zero, List.set_cons_succ, i64_w, i32_w]
            rfl
          refine pure_ (i := 14) (N := some 117) (v := ?_) (a' := ?_) #[true, true, true, true, true, true, true, true, true, true, true, true, true, true, true, false, false, false, false, false, false, false, false, false, false] rfl rfl (by kernel_rfl) (fun _ _ _ h => h) (Or.inl ⟨by rfl, ?_⟩) ?_ ?_
          rotate_left
          · intro w'
            go_simp
            with_reducible rfl
          rotate_left
          · simp only [Act.put, List.setIfInBounds_toArray, List.set_cons_zero, List.set_cons_succ, i64_w, i32_w]
            rfl
          refine pure_ (i := 15) (N := some 118) (v := ?_) (a' := ?_) #[true, true, true, true, true, true, true, true, true, true, true, true, true, true, true, true, false, false, false, false, false, false, false, false, false] rfl rfl (by kernel_rfl) (fun _ _ _ h => h) (Or.inl ⟨by rfl, ?_⟩) ?_ ?_
          rotate_left
          · intro w'
            go_simp
            with_reducible rfl
          rotate_left
          · simp only [Act.put, List.setIfInBounds_toArray, List.set_cons_zero, List.set_cons_succ, i64_w, i32_w]
            rfl
          refine take_ (i := 16) (N := some 119) (v := ?_) (a' := ?_) #[true, true, true, true, true, true, true, true, true, true, true, true, true, true, true, true, true, false, false, false, false, false, false, false, false] rfl rfl (by kernel_rfl) (fun _ _ _ h => h) (Or.inl ⟨by rfl, ?_⟩) hHeld ?_ ?_
          rotate_left
          · rintro w' ⟨s0, s1, s2⟩
            go_simp
            with_reducible rfl
          rotate_left
          · simp only [Act.put, List.setIfInBounds_toArray, List.set_cons_zero, List.set_cons_succ, i64_w, i32_w]
            rfl
          refine one_ (i := 17) (N := some 120) #[true, true, true, true, true, true, true, true, true, true, true, true, true, true, true, true, true, true, false, false, false, false, false, false, false] rfl rfl (by kernel_rfl) (by decide) (fun K hK => ?_)
          refine goes_ Try.func18 (by kernel_rfl) rfl #[.pointer (some ⟨ga, 0, none⟩), .int .i64 id] (by rfl) rfl rfl (by simp only [List.map_toArray, List.map_cons, List.map_nil]; rfl) ?_
          with_reducible refine (OS.HasN HOa3.out id (wf_small ⟨HEnt.out.1, HEnt.out.2.1⟩) hnd.out).mono ?_
          rintro e w13 ⟨rfl, rfl⟩
          refine ⟨_, rfl, ?_⟩
          refine hK.out _ _ ⟨cell_at HT0.out 0 rfl, cell_at HT0.out 1 rfl, (HIdj.out ▸ ids_cell HI3.out hlt)⟩ (fun hHeld => ?_)
          clear hK K
          refine norm_ (a' := ?_) ?_ ?_
          rotate_left
          · show Act.put _ (some 120) _ = _
            simp only [Act.put, List.setIfInBounds_toArray, List.set_cons_zero, List.set_cons_succ, i64_w, i32_w]
            rfl
          refine pure_ (i := 18) (N := some 121) (v := ?_) (a' := ?_) #[true, true, true, true, true, true, true, true, true, true, true, true, true, true, true, true, true, true, true, false, false, false, false, false, false] rfl rfl (by kernel_rfl) (fun _ _ _ h => h) (Or.inl ⟨by rfl, ?_⟩) ?_ ?_
          rotate_left
          · intro w'
            go_simp
            with_reducible rfl
          rotate_left
          · simp only [Act.put, List.setIfInBounds_toArray, List.set_cons_zero, List.set_cons_succ, i64_w, i32_w]
            rfl
          refine pure_ (i := 19) (N := some 122) (v := ?_) (a' := ?_) #[true, true, true, true, true, true, true, true, true, true, true, true, true, true, true, true, true, true, true, true, false, false, false, false, false] rfl rfl (by kernel_rfl) (fun _ _ _ h => h) (Or.inl ⟨by rfl, ?_⟩) ?_ ?_
          rotate_left
          · intro w'
            go_simp
            with_reducible rfl
          rotate_left
          · simp only [Act.put, List.setIfInBounds_toArray, List.set_cons_zero, List.set_cons_succ, i64_w, i32_w]
            rfl
          refine pure_ (i := 20) (N := some 123) (v := ?_) (a' := ?_) #[true, true, true, true, true, true, true, true, true, true, true, true, true, true, true, true, true, true, true, true, true, false, false, false, false] rfl rfl (by kernel_rfl) (fun _ _ _ h => h) (Or.inl ⟨by rfl, ?_⟩) ?_ ?_
          rotate_left
          · intro w'
            go_simp
            with_reducible rfl
          rotate_left
          · simp only [Act.put, List.setIfInBounds_toArray, List.set_cons_zero, List.set_cons_succ, i64_w, i32_w]
            rfl
          refine take_ (i := 21) (N := some 124) (v := ?_) (a' := ?_) #[true, true, true, true, true, true, true, true, true, true, true, true, true, true, true, true, true, true, true, true, true, true, false, false, false] rfl rfl (by kernel_rfl) (fun _ _ _ h => h) (Or.inl ⟨by rfl, ?_⟩) hHeld ?_ ?_
          rotate_left
          · rintro w' ⟨s0, s1, s2⟩
            go_simp
            with_reducible rfl
          rotate_left
          · simp only [Act.put, List.setIfInBounds_toArray, List.set_cons_zero, List.set_cons_succ, i64_w, i32_w]
            rfl
          refine one_ (i := 22) (N := some 125) #[true, true, true, true, true, true, true, true, true, true, true, true, true, true, true, true, true, true, true, true, true, true, true, false, false] rfl rfl (by kernel_rfl) (by decide) (fun K hK => ?_)
          refine goes_ Try.func12 (by kernel_rfl) rfl #[.pointer (some ⟨ga, 0, none⟩), .agg #[.int .i64 id, .slice (some ⟨ta, to_, none⟩) xs.length tc]] (by rfl) rfl rfl (by simp only [List.map_toArray, List.map_cons, List.map_nil]; rfl) ?_
          with_reducible refine (OS.PutBack HOa3.out (by have := HOa3.out.lt; omega) id _ xs tc HL12.out HC13.out HEnt.out.1 HEnt.out.2.1 HEnt.out.2.2 HPD.out (by rw [HPl.out]; exact Int.le_refl _)).mono ?_
          rintro e w14 ⟨rfl, ho, he⟩
          refine ⟨_, rfl, ?_⟩
          have HOa5 := Lib.hid ho
          have HOb5 := Lib.hid (HOb3.out.kept he.kept (fun k h1 h2 => by omega))
          have HI5 := Lib.hid (own_move HI3.out (fun k hk => he.kept.2 k (own_lt HI3.out k hk) (fun h2 => by have := own_base HI3.out k hk; have := HX2.out; omega)))
          have HB15 := Lib.hid (HB13.out.trans (Eff.low he HB13.out.size (fun k hk => by have := HX2.out; omega)))
          have HT5 := Lib.hid ((he.kept.2 B (Array.getElem?_eq_some_iff.1 HT0.out).1 (fun h2 => by have := HBB.out; have := HX2.out; omega)).trans HT0.out)
          clear ho he
          refine hK.out _ _ ⟨cell_at HT5.out 0 rfl, cell_at HT5.out 1 rfl, (HIdj.out ▸ ids_cell HI5.out hlt)⟩ (fun hHeld => ?_)
          clear hK K
          refine norm_ (a' := ?_) ?_ ?_
          rotate_left
          · show Act.put _ (some 125) _ = _
            simp only [Act.put, List.setIfInBounds_toArray, List.set_cons_zero, List.set_cons_succ, i64_w, i32_w]
            rfl
          refine pure_ (i := 23) (N := some 126) (v := ?_) (a' := ?_) #[true, true, true, true, true, true, true, true, true, true, true, true, true, true, true, true, true, true, true, true, true, true, true, true, false] rfl rfl (by kernel_rfl) (fun _ _ _ h => h) (Or.inl ⟨by rfl, ?_⟩) ?_ ?_
          rotate_left
          · intro w'
            go_simp
            with_reducible rfl
          rotate_left
          · simp only [Act.put, List.setIfInBounds_toArray, List.set_cons_zero, List.set_cons_succ, i64_w, i32_w]
            rfl
          refine pure_ (i := 24) (N := some 127) (v := ?_) (a' := ?_) #[true, true, true, true, true, true, true, true, true, true, true, true, true, true, true, true, true, true, true, true, true, true, true, true, true] rfl rfl (by kernel_rfl) (fun _ _ _ h => h) (Or.inl ⟨by rfl, ?_⟩) ?_ ?_
          rotate_left
          · intro w'
            go_simp
            with_reducible rfl
          rotate_left
          · simp only [Act.put, List.setIfInBounds_toArray, List.set_cons_zero, List.set_cons_succ, i64_w, i32_w]
            rfl
          refine done_ (by kernel_rfl) ?_
          go_wp2_with fail
          subst hBn
          go_roundw
          case rel => exact ⟨j + 1, by omega, by go_num, HOa5.out, HOb5.out, HI5.out, HB15.out⟩
          case measure => simp [intOf]; omega
        · obtain rfl : j = P.length := by omega
          have nl : ((l.length : Int) == (l.length : Int)) = true := by simp
          go_wp2_with fail
          refine (first_calls _).mono ?_
          rintro e w20 ⟨rfl, hb⟩
          have HB20 := Lib.hid (HBx.out.trans (hb.mono HBx.out.size))
          replace HOa := Lib.hid (HOa.out.below hb)
          replace HOb := Lib.hid (HOb.out.below hb)
          clear hb
          go_wp2_with fail
          refine (OS.All HOa.out).mono ?_
          rintro e w21 ⟨A3, c3, rfl, hc3, hC3, hb⟩
          have HB21 := Lib.hid (HB20.out.trans (hb.mono HB20.out.size))
          replace HOa := Lib.hid (HOa.out.below hb)
          replace HOb := Lib.hid (HOb.out.below hb)
          have HC8 := Lib.hid hC3
          clear hb hC3
          go_wp2_with fail
          refine (OS.All HOb.out).mono ?_
          rintro e w22 ⟨A4, c4, rfl, hc4, hC4, hb⟩
          have HB22 := Lib.hid (HB21.out.trans (hb.mono HB21.out.size))
          replace HOa := Lib.hid (HOa.out.below hb)
          have HC9 := Lib.hid (Kd.C_below HC8.out hb)
          have HD9 := Lib.hid hC4
          clear hb hC4
          go_wp2_with fail
          refine (Same_eq (blk P) A3 A4 c3 c4 _ HC9.out HD9.out (by rw [blk_length, HPl.out]; omega)).mono ?_
          rintro e w23 ⟨rfl, hb⟩
          have HB23 := Lib.hid (HB22.out.trans (hb.mono HB22.out.size))
          replace HOa := Lib.hid (HOa.out.below hb)
          clear hb
          go_wp2_with fail
          refine (OS.Most HOa.out).mono ?_
          rintro e w24 ⟨rfl, rfl⟩
          go_wp2_with fail
          go_ret
          exact ⟨rfl, HB23.out⟩

theorem StashOrder_calls (A0 : Option Addr) (c0 : Nat) (l : List S24) (turn : Int) (w : World) (hr0 : Kd.C k24 w A0 l.length l) (hc0 : l.length ≤ c0) (hbig : l.length ≤ 9223372036854775807) (hw : turn ≤ 9223372036854775807) :
    Calls Try.prog 6 #[.slice A0 l.length c0, .int .i64 turn] w fun e w' => e = .returned (.bool true) ∧ Below w.heap.size w w' := by
  obtain ⟨r, hF⟩ := few9_total l
  by_cases h : r = false ∨ 60 < l.length ∨ mayF [] l = false ∨ turn < 0
  · exact StashOrder_early A0 c0 l turn w hr0 hc0 hbig r hF h
  · have h1 : r = true := by cases r with | true => rfl | false => exact absurd (.inl rfl) h
    have h2 : ¬ 60 < l.length := fun e => h (.inr (.inl e))
    have h3 : mayF [] l = true := by cases hm : mayF [] l with | true => rfl | false => exact absurd (.inr (.inr (.inl hm))) h
    have h4 : ¬ turn < 0 := fun e => h (.inr (.inr (.inr e)))
    obtain ⟨tn, rfl⟩ := Int.eq_ofNat_of_zero_le (show 0 ≤ turn by omega)
    subst h1
    exact StashOrder_main A0 c0 l tn w hr0 hc0 (by omega) hF h3 (by omega)
end Go.Proofs.Ytmjbmbhpfckagaa.A
