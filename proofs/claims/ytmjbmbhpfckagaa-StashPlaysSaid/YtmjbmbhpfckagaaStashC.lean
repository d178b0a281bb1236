/- bucket.May, and the stash's Put. -/
import Derived.Test.YtmjbmbhpfckagaaStashB
import Derived.Test.YtmjbmbhpfckagaaBx
namespace Go.Proofs.Ytmjbmbhpfckagaa.A
open Go.RowKit Go.Maps Go.Sort Go.Shelf Go.Proofs.YtmjbmbhpfckagaaW.PrintWords Go.Proofs.Ytmjbmbhpfckagaa.B
set_option linter.unusedVariables false
set_option linter.unusedSimpArgs false

/-- May blocks be, some ids being taken? -/
def mayF : List Int → List S24 → Bool
  | _, [] => true
  | seen, b :: r => if b.f0 < 0 then false else if b.f0 ≥ 64 then false else if b.f0 ∈ seen then false else if b.f1.length = 37 then mayF (b.f0 :: seen) r else false

theorem rd24_drop {l s : List S24} {i : Nat} {a : S24} (h : l.drop i = a :: s) : i < l.length ∧ rd_T24 l (i : Int) = a ∧ l.drop (i + 1) = s := by
  have hi : i < l.length := by
    have := congrArg List.length h
    simp only [List.length_drop, List.length_cons] at this
    omega
  refine ⟨hi, ?_, ?_⟩
  · unfold rd_T24
    rw [Int.toNat_natCast, List.getD_eq_getElem?_getD]
    have : (l.drop i)[0]? = some a := by rw [h]; rfl
    rw [List.getElem?_drop] at this
    rw [show i + 0 = i from rfl] at this
    rw [this]; rfl
  · have := congrArg (List.drop 1) h
    rw [List.drop_drop] at this
    simpa [Nat.add_comm] using this

/-- The ids that were seen, told in an array of bools. -/
def Seen (w : World) (B : Nat) (seen : List Int) : Prop := B < w.heap.size ∧ ∀ j : Nat, j < 64 → w.cell? ⟨B, j, none⟩ = some (.bool (decide ((j : Int) ∈ seen))) ∧ w.frozen? ⟨B, j, none⟩ = false

theorem seen_start (w : World) (t : TypeId) : Seen (w.alloc (.cells (Array.replicate 64 (.bool false)) t)) w.heap.size [] := by
  refine ⟨by simp, fun j hj => ⟨?_, ?_⟩⟩
  · rw [World.cell?_alloc_at _ _ _ _ rfl]
    simp [hj]
  · unfold World.frozen?
    simp only [Option.isSome_none, Bool.false_eq_true, if_false]
    rw [(MapKept.heap_alloc w _).1]
    simp
theorem Seen.alloc {w : World} {B : Nat} {seen : List Int} (h : Seen w B seen) (o : Obj) : Seen (w.alloc o) B seen :=
  ⟨by simp; have := h.1; omega, fun j hj => by
    have e := Below.heap_alloc w o B h.1
    exact ⟨(World.cell?_of_block e).trans (h.2 j hj).1, (World.frozen?_of_block e).trans (h.2 j hj).2⟩⟩
theorem Seen.store {w : World} {B : Nat} {seen : List Int} (h : Seen w B seen) {id : Int} (h0 : 0 ≤ id) (h1 : id < 64) : Seen (w.setCell ⟨B, id.toNat, none⟩ (.bool true)) B (id :: seen) := by
  refine ⟨by simp [World.setCell]; exact h.1, fun j hj => ⟨?_, ?_⟩⟩
  · by_cases e : j = id.toNat
    · subst e
      have hc := (h.2 id.toNat hj).1
      have e2 : ((id.toNat : Nat) : Int) = id := by omega
      rw [e2]
      unfold World.cell? World.setCell at *
      simp only [Array.getElem?_modify, if_true] at hc ⊢
      cases hb : w.heap[B]? with
      | none => simp [hb] at hc
      | some o =>
        cases o with
        | cells cs t fr =>
          simp only [hb, Option.map_some] at hc ⊢
          have hlt : id.toNat < cs.size := by
            by_cases hl : id.toNat < cs.size
            · exact hl
            · simp [hl] at hc
          simp [hlt]
        | _ => simp [hb] at hc
    · have : decide ((j : Int) ∈ id :: seen) = decide ((j : Int) ∈ seen) := by
        rw [decide_eq_decide, List.mem_cons]
        constructor
        · rintro (h | h)
          · omega
          · exact h
        · exact .inr
      rw [this, ← (h.2 j hj).1]
      unfold World.cell? World.setCell
      simp only [Array.getElem?_modify, if_true]
      cases hb : w.heap[B]? with
      | none => rfl
      | some o =>
        cases o with
        | cells cs t fr => simp [Ne.symm e]
        | _ => rfl
  · rw [World.frozen?_setCell]
    exact (h.2 j hj).2

set_option maxHeartbeats 2000000 in
set_option maxRecDepth 100000 in
theorem May_calls (A0 : Option Addr) (c0 : Nat) (l0 : List S24) (w : World) (hr0 : Kd.C k24 w A0 l0.length l0) (hc0 : l0.length ≤ c0) (hbig : l0.length ≤ 9223372036854775807) :
    Calls Try.prog 9 #[.slice A0 l0.length c0] w fun e w' => e = .returned (.bool (mayF [] l0)) ∧ Below w.heap.size w w' := by
  have HR := Lib.hid hr0
  clear hr0
  go_enter Try.func9, Try.ntmps9
  go_wp2
  go_loopw [8] (fun i wr => ∃ (k : Nat) (seen : List Int), k ≤ l0.length ∧ i = .int .i64 k ∧ Hid (mayF [] l0 = mayF seen (l0.drop k)) ∧ Hid (Seen wr w.heap.size seen) ∧ Hid (Below w.heap.size w wr)) (fun i _ => l0.length - (intOf i).toNat)
  case atStart =>
    exact ⟨0, [], Nat.zero_le _, rfl, rfl, seen_start w _, (Below.refl _ w).alloc (Nat.le_refl _) _⟩
  case round =>
    obtain ⟨k, seen, hk, rfl, HE, HS, HB⟩ := hrel
    by_cases hlt : k < l0.length
    · obtain ⟨⟨id, xs⟩, hb⟩ : ∃ b, rd_T24 l0 (k : Int) = b := ⟨_, rfl⟩
      have hd : l0.drop k = ⟨id, xs⟩ :: l0.drop (k + 1) := by
        rw [List.drop_eq_getElem_cons hlt, ← hb]
        congr 1
        unfold rd_T24
        rw [Int.toNat_natCast, List.getD_eq_getElem?_getD, List.getElem?_eq_getElem hlt]
        rfl
      obtain ⟨ad, A1, c1, rfl, q0, q1, l1, g1⟩ := at_T24 (Kd.C_below HR.out HB.out) (k : Int) (by omega) (by omega)
      rw [hb] at q0 q1 l1
      simp only [Int.toNat_natCast] at q0 q1 l1
      have HD := Lib.hid hd
      have sz := HS.out.1
      clear hb hd g1
      have hBw : w.heap.size ≤ wr.heap.size := Nat.le_of_lt sz
      by_cases h0 : id < 0
      · have HV := Lib.hid (show mayF [] l0 = false by rw [HE.out, HD.out]; unfold mayF; rw [if_pos h0])
        have b0 : decide (id < 0) = true := decide_eq_true h0
        clear h0
        go_wp2
        go_ret
        exact ⟨by rw [HV.out]; rfl, HB.out.alloc hBw _⟩
      · have b0 : decide (id < 0) = false := decide_eq_false h0
        by_cases h1 : id ≥ 64
        · have HV := Lib.hid (show mayF [] l0 = false by rw [HE.out, HD.out]; unfold mayF; rw [if_neg h0, if_pos h1])
          have b1 : decide (64 ≤ id) = true := decide_eq_true h1
          clear h0 h1
          go_wp2
          go_ret
          exact ⟨by rw [HV.out]; rfl, HB.out.alloc hBw _⟩
        · have b1 : decide (64 ≤ id) = false := decide_eq_false h1
          have sc := (HS.out.2 id.toNat (by omega)).1
          have sf := (HS.out.2 id.toNat (by omega)).2
          rw [show ((id.toNat : Nat) : Int) = id by omega] at sc
          have bd : 0 ≤ id ∧ id < 64 := by omega
          by_cases h2 : id ∈ seen
          · have HV := Lib.hid (show mayF [] l0 = false by rw [HE.out, HD.out]; unfold mayF; rw [if_neg h0, if_neg h1, if_pos h2])
            rw [decide_eq_true h2] at sc
            obtain ⟨bd0, bd1⟩ := bd
            clear h0 h1 h2
            go_wp2
            go_ret
            exact ⟨by rw [HV.out]; rfl, HB.out.alloc hBw _⟩
          · rw [decide_eq_false h2] at sc
            by_cases h3 : xs.length = 37
            · have HV := Lib.hid (show mayF [] l0 = mayF (id :: seen) (l0.drop (k + 1)) by rw [HE.out, HD.out, mayF.eq_def]; simp only; rw [if_neg h0, if_neg h1, if_neg h2, if_pos h3])
              have HS1 := Lib.hid ((HS.out.store bd.1 bd.2).alloc (.cells #[.int .i64 id, .slice A1 xs.length c1] 24))
              have b3 : ((xs.length : Int) != 37) = false := by rw [h3]; rfl
              obtain ⟨bd0, bd1⟩ := bd
              clear h0 h1 h2 h3
              go_wp2
              go_roundw
              case rel => exact ⟨k + 1, id :: seen, by omega, by go_num, HV.out, HS1.out, (HB.out.setCell (p := ⟨w.heap.size, _, none⟩) (Nat.le_refl _) _).alloc (by simp [World.setCell]; exact hBw) _⟩
              case measure => simp [intOf]; omega
            · have HV := Lib.hid (show mayF [] l0 = false by rw [HE.out, HD.out]; unfold mayF; rw [if_neg h0, if_neg h1, if_neg h2, if_neg h3])
              have b3 : ((xs.length : Int) != 37) = true := by rw [bne_iff_ne]; omega
              obtain ⟨bd0, bd1⟩ := bd
              clear h0 h1 h2 h3
              go_wp2
              go_ret
              exact ⟨by rw [HV.out]; rfl, HB.out.alloc hBw _⟩
    · go_wp2
      go_ret
      have : k = l0.length := by omega
      subst this
      exact ⟨by rw [HE.out, List.drop_length]; rfl, HB.out⟩

/-- A row of one block. -/
theorem C_one {W : World} {B : Nat} {id : Int} {A : Option Addr} {xs : List Int} {c : Nat} (hx : xs.length ≤ c) (hC : Kd.C (Kd.int .u8) W A xs.length xs) (h0 : W.cell? ⟨B, 0, none⟩ = some (.int .i64 id)) (h1 : W.cell? ⟨B, 1, none⟩ = some (.slice A xs.length c)) : Kd.C k24 W (some ⟨B, 0, none⟩) 1 [⟨id, xs⟩] := by
  refine ⟨rfl, by decide, fun _ => ⟨_, rfl, fun j p hj => ?_⟩⟩
  match j, hj with
  | 0, hj =>
    obtain rfl : (⟨id, xs⟩ : S24) = p := by simpa using hj
    refine ⟨_, rfl, k24_mk W ⟨id, xs⟩ hx hC, fun i u hu => ?_⟩
    match i, hu with
    | 0, hu =>
      obtain rfl : Value.int .i64 id = u := by simpa using hu
      exact h0
    | 1, hu =>
      obtain rfl : Value.slice A xs.length c = u := by simpa using hu
      exact h1

theorem cells_top {w : World} {cs : Array Value} {t : TypeId} (j : Nat) {v : Value} (h : cs[j]? = some v) : (w.alloc (.cells cs t)).cell? ⟨w.heap.size, j, none⟩ = some v := by
  simp [World.cell?_alloc_at _ _ _ _ rfl, h]

section
variable {w : World} {g bm : Nat} {Rs : Nat → Prop} {E : List (Int × (Value × List Int))} {m : Int}
set_option maxHeartbeats 2000000 in
set_option maxRecDepth 100000 in
theorem Put_no (id : Int) (A : Option Addr) (xs : List Int) (c : Nat) (hx : xs.length ≤ c) (hC : Kd.C (Kd.int .u8) w A xs.length xs) (hno : mayF [] [⟨id, xs⟩] = false) :
    Calls Try.prog 12 #[.pointer (some ⟨g, 0, none⟩), .agg #[.int .i64 id, .slice A xs.length c]] w fun e w' => e = .returned (.bool false) ∧ Below w.heap.size w w' := by
  have B2 : Below w.heap.size w ((w.alloc (.cells #[.int .i64 id, .slice A xs.length c] 24)).alloc (.cells #[.int .i64 id, .slice A xs.length c] 24)) := ((Below.refl _ w).alloc (Nat.le_refl _) _).alloc (by simp) _
  have HM := Lib.hid (May_calls (some ⟨w.heap.size + 1, 0, none⟩) 1 [⟨id, xs⟩] _ (C_one hx (Kd.C_below hC B2) (by have := cells_top (w := w.alloc (.cells #[.int .i64 id, .slice A xs.length c] 24)) (t := 24) (cs := #[.int .i64 id, .slice A xs.length c]) 0 rfl; first | (simp; done) | simpa using this) (by have := cells_top (w := w.alloc (.cells #[.int .i64 id, .slice A xs.length c] 24)) (t := 24) (cs := #[.int .i64 id, .slice A xs.length c]) 1 rfl; first | (simp; done) | simpa using this)) (by simp) (by simp))
  rw [hno] at HM
  have HB := Lib.hid B2
  clear hC hno B2
  go_enter Try.func12, Try.ntmps12
  go_wp2_with (go_at_call 9; refine HM.out.mono ?_; rintro e w1 ⟨rfl, hb⟩; have HB1 := Lib.hid (HB.out.trans (hb.mono HB.out.size)); clear hb)
  go_ret
  exact ⟨rfl, HB1.out⟩
end
end Go.Proofs.Ytmjbmbhpfckagaa.A
