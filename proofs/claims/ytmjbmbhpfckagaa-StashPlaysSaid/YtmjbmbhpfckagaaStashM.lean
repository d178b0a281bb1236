/- bucket.Same of two that are alike; more on the stash as an object. -/
import Derived.Test.YtmjbmbhpfckagaaStashL
import Derived.Deep.DeepFit
namespace Go.Proofs.Ytmjbmbhpfckagaa.A
open Go.RowKit Go.Maps Go.Sort Go.Shelf Go.Proofs.YtmjbmbhpfckagaaW.PrintWords Go.Proofs.YtmjbmbhpfckagaaW.PrintLast Go.Proofs.Ytmjbmbhpfckagaa.B
set_option linter.unusedVariables false
set_option linter.unusedSimpArgs false

set_option maxHeartbeats 2000000 in
set_option maxRecDepth 100000 in
theorem same_eq (id : Int) (xs : List Int) (A B : Option Addr) (c d : Nat) (w : World) (hA : Kd.C (Kd.int .u8) w A xs.length xs) (hB : Kd.C (Kd.int .u8) w B xs.length xs) :
    Calls Try.prog 36 #[.agg #[.int .i64 id, .slice A xs.length c], .agg #[.int .i64 id, .slice B xs.length d]] w fun e w' => e = .returned (.bool true) ∧ Below w.heap.size w w' := by
  have B2 : Below w.heap.size w ((w.alloc (.cells #[.int .i64 id, .slice A xs.length c] 24)).alloc (.cells #[.int .i64 id, .slice B xs.length d] 24)) := ((Below.refl _ w).alloc (Nat.le_refl _) _).alloc (by simp) _
  have HE := Lib.hid (Try.bytes_Equal (.slice A xs.length c) (.slice B xs.length d) xs xs _ (Kd.C_string Try.underlying22 Try.underlying5 Try.underlying9 (Kd.C_below hA B2)) (Kd.C_string Try.underlying22 Try.underlying5 Try.underlying9 (Kd.C_below hB B2)))
  have HB2 := Lib.hid B2
  clear B2 hA hB
  go_enter Try.func36, Try.ntmps36
  go_wp2_with fail
  refine HE.out.mono ?_
  rintro e w' ⟨rfl, rfl⟩
  simp only [beq_self_eq_true]
  go_wp2_with fail
  go_ret
  exact ⟨rfl, HB2.out⟩

theorem C_ads {w : World} {A : Option Addr} {l : List S24} (h : Kd.C k24 w A l.length l) (j : Nat) (hj : j < l.length) : ∃ ad A1 c1, A = some ad ∧ w.cell? (ad.add (j * 2)) = some (.int .i64 (rd_T24 l (j : Int)).f0) ∧ w.cell? ⟨(ad.add (j * 2)).block, (ad.add (j * 2)).off + 1, none⟩ = some (.slice A1 (rd_T24 l (j : Int)).f1.length c1) ∧ (rd_T24 l (j : Int)).f1.length ≤ c1 ∧ Kd.C (Kd.int .u8) w A1 (rd_T24 l (j : Int)).f1.length (rd_T24 l (j : Int)).f1 := by
  obtain ⟨ad, A1, c1, e, h1, h2, h3, h4⟩ := at_T24 h (j : Int) (by omega) (by omega)
  rw [Int.toNat_natCast] at h1 h2
  exact ⟨ad, A1, c1, e, h1, h2, h3, h4⟩

set_option maxHeartbeats 4000000 in
set_option maxRecDepth 100000 in
theorem EqualFunc_eq (l : List S24) (A B : Option Addr) (c d : Nat) (w : World) (hA : Kd.C k24 w A l.length l) (hB : Kd.C k24 w B l.length l) (hbig : l.length ≤ 9223372036854775807) :
    Calls Try.prog 35 #[.slice A l.length c, .slice B l.length d, .func (.func 36) #[] #[]] w fun e w' => e = .returned (.bool true) ∧ Below w.heap.size w w' := by
  have HA := Lib.hid hA
  have HB := Lib.hid hB
  clear hA hB
  go_enter Try.func35, Try.ntmps35
  go_wp2_with fail
  go_loopw [17] (fun i wr => ∃ k : Nat, k ≤ l.length ∧ i = .int .i64 k ∧ Hid (Below w.heap.size w wr)) (fun i _ => l.length - (intOf i).toNat)
  case atStart => exact ⟨0, Nat.zero_le _, rfl, Below.refl _ _⟩
  case round =>
    obtain ⟨k, hk, rfl, HBr⟩ := hrel
    by_cases hlt : k < l.length
    · obtain ⟨ad, A1, c1, rfl, q0, q1, q2, q3⟩ := C_ads (Kd.C_below HA.out HBr.out) k hlt
      obtain ⟨bd, B1, d1, rfl, r0, r1, r2, r3⟩ := C_ads (Kd.C_below HB.out HBr.out) k hlt
      generalize rd_T24 l (k : Int) = b at q0 q1 q2 q3 r0 r1 r2 r3
      obtain ⟨id, xs⟩ := b
      have HC1 := Lib.hid q3
      have HC2 := Lib.hid r3
      have b1 : Below wr.heap.size wr (wr.alloc (.cells #[.int .i64 id, .slice A1 xs.length c1] 24)) := (Below.refl _ wr).alloc (Nat.le_refl _) _
      have s0 := pw_cell_below b1 r0
      have s1 := pw_cell_below b1 r1
      have HBx := Lib.hid HBr.out.size
      clear q3 r3 b1
      go_wp2_with fail
      refine (same_eq id xs A1 B1 c1 d1 _ (Kd.C_below HC1.out (((Below.refl _ wr).alloc (Nat.le_refl _) _).alloc (by simp) _)) (Kd.C_below HC2.out (((Below.refl _ wr).alloc (Nat.le_refl _) _).alloc (by simp) _))).mono ?_
      rintro e w1 ⟨rfl, hb⟩
      have HB1 := Lib.hid ((HBr.out.trans ((((Below.refl _ wr).alloc (Nat.le_refl _) _).alloc (by simp) _).mono HBr.out.size)).trans (hb.mono (Nat.le_trans HBr.out.size (by simp; omega))))
      clear hb
      go_wp2_with fail
      go_roundw
      case rel => exact ⟨k + 1, by omega, by go_num, HB1.out⟩
      case measure => simp [intOf]; omega
    · go_wp2
      go_ret
      exact ⟨rfl, HBr.out⟩

set_option maxHeartbeats 2000000 in
theorem Same_eq (l : List S24) (A B : Option Addr) (c d : Nat) (w : World) (hA : Kd.C k24 w A l.length l) (hB : Kd.C k24 w B l.length l) (hbig : l.length ≤ 9223372036854775807) :
    Calls Try.prog 29 #[.slice A l.length c, .slice B l.length d] w fun e w' => e = .returned (.bool true) ∧ Below w.heap.size w w' := by
  have H := Lib.hid (EqualFunc_eq l A B c d w hA hB hbig)
  clear hA hB
  go_enter Try.func29, Try.ntmps29
  go_wp2_with fail
  refine H.out.mono ?_
  rintro e w' ⟨rfl, hb⟩
  go_wp2_with fail
  go_ret
  exact ⟨rfl, hb⟩

section
variable {w w1 : World} {base top g : Nat} {P : List (Int × List Int)} {m : Int}
theorem OS.kept {S : Nat → Prop} (h : OS base top w g P m) (hk : Kept w w1 S) (hS : ∀ k, base ≤ k → ¬ S k) : OS base top w1 g P m := by
  obtain ⟨bm, Rs, E, h1, h2, h3, h4, h5, h6, h7, h8⟩ := h
  exact ⟨bm, Rs, E, h1.kept hk (hS g h3) (hS bm h4) (fun k hr => hS k (h7 k hr)), h2, h3, h4, h5, h6, h7, h8⟩
theorem OS.LenN {z : Int} (h : OS base top w g P m) (hz : (P.length : Int) = z) :
    Calls Try.prog 16 #[.pointer (some ⟨g, 0, none⟩)] w fun e w' => e = .returned (.int .i64 z) ∧ w' = w := hz ▸ h.Len
theorem OS.HasN {z : Bool} (h : OS base top w g P m) (id : Int) (wf : (Lit.int .i64 id).wf = true) (hz : (getA id P).isSome = z) :
    Calls Try.prog 18 #[.pointer (some ⟨g, 0, none⟩), .int .i64 id] w fun e w' => e = .returned (.bool z) ∧ w' = w := hz ▸ h.Has id wf
theorem OS.PutBack {P' : List (Int × List Int)} (h : OS base top w g P' m) (hbase : base ≤ w.heap.size) (id : Int) (A : Option Addr) (xs : List Int) (c : Nat) (hx : xs.length ≤ c) (hC : Kd.C (Kd.int .u8) w A xs.length xs) (h0 : 0 ≤ id) (h1 : id < 64) (hl : xs.length = 37) (hp : putA id xs P' = P) (hm : (P.length : Int) ≤ m) :
    Calls Try.prog 12 #[.pointer (some ⟨g, 0, none⟩), .agg #[.int .i64 id, .slice A xs.length c]] w fun e w' => e = .returned (.bool true) ∧ OS base top w' g P m ∧ Eff w w' (fun k => base ≤ k ∧ k < top) := by
  have := h.Put_yes hbase id A xs c hx hC h0 h1 hl
  rw [hp, show max m (P.length : Int) = m by omega] at this
  exact this
theorem OS.entry (h : OS base top w g P m) {p : Int × List Int} (hp : p ∈ P) : 0 ≤ p.1 ∧ p.1 < 64 ∧ p.2.length = 37 := by
  obtain ⟨bm, Rs, E, h1, rfl, _⟩ := h
  obtain ⟨q, hq, rfl⟩ := List.mem_map.1 hp
  have := h1.keys q hq
  exact ⟨this.1, this.2, h1.len q hq⟩
theorem OS.All (h : OS base top w g P m) :
    Calls Try.prog 15 #[.pointer (some ⟨g, 0, none⟩)] w fun e w' => ∃ A c, e = .returned (.slice A (blk P).length c) ∧ (blk P).length ≤ c ∧ Kd.C k24 w' A (blk P).length (blk P) ∧ Below w.heap.size w w' := by
  obtain ⟨bm, Rs, E, h1, rfl, _⟩ := h
  refine (All_calls h1).mono ?_
  rintro e w' ⟨v, rfl, hR, hb⟩
  have e1 : E.map (fun p => (⟨p.1, p.2.2⟩ : S24)) = blk (vw E) := by simp [blk, vw, List.map_map, Function.comp_def]
  rw [e1] at hR
  obtain ⟨A, c, rfl, hc, hC⟩ := Kd.R_reads hR
  exact ⟨A, c, rfl, hc, hC, hb⟩
end
end Go.Proofs.Ytmjbmbhpfckagaa.A
