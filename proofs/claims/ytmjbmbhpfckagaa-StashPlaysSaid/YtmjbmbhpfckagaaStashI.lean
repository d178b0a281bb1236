/- The stash's All: its blocks by rising id, all of them new memory. -/
import Derived.Test.YtmjbmbhpfckagaaStashG
namespace Go.Proofs.Ytmjbmbhpfckagaa.A
open Go.RowKit Go.Maps Go.Sort Go.Shelf Go.Proofs.YtmjbmbhpfckagaaW.PrintWords Go.Proofs.Ytmjbmbhpfckagaa.B
set_option linter.unusedVariables false
set_option linter.unusedSimpArgs false

theorem getA_of_mem {α : Type} : ∀ {l : List (Int × α)}, Up l → ∀ p ∈ l, getA p.1 l = some p.2
  | [], _, p, hp => by simp at hp
  | (j, y) :: r, h, p, hp => by
    obtain ⟨h1, h2⟩ := List.pairwise_cons.1 h
    rcases List.mem_cons.1 hp with rfl | hp
    · exact getA_here _ _ _
    · have h3 : j < p.1 := h1 p hp
      rw [getA_there (by omega)]
      exact getA_of_mem h2 p hp

/-- What All tells of a stash. -/
def blk (P : List (Int × List Int)) : List S24 := P.map fun p => ⟨p.1, p.2⟩
theorem blk_length (P : List (Int × List Int)) : (blk P).length = P.length := List.length_map _
theorem info24 : (Try.prog.info? 24).map (fun i => (i.zero, i.size, i.bytes)) = some (some (.agg #[.int .i64 0, .slice none 0 0]), 2, 32) := by kernel_rfl
theorem wf_small {id : Int} (h : 0 ≤ id ∧ id < 64) : (Lit.int .i64 id).wf = true := by
  simp [Lit.wf, IntKind.min, IntKind.max, IntKind.signed, IntKind.bits]
  omega
theorem below_alloc1 {w : World} {b0 : Nat} {w1 : World} (h : Below b0 w w1) (hb : b0 ≤ w1.heap.size) (o : Obj) : Below b0 w (w1.alloc o) := h.trans (((Below.refl _ w1).alloc (Nat.le_refl _) o).mono hb)

theorem own_ne {α : Type} {d : Kd α} {e base : Nat} {ok : Nat → Prop} {w : World} {v : Value} {xs : List α} (h : d.R e w base ok v xs) {k : Nat} (hk : w.heap.size ≤ k) : some k ≠ v.ownBlock := fun e_ => by
  obtain ⟨inner, ho⟩ := Kd.R_own h
  have := own_lt ho k e_.symm
  omega
section
variable {w : World} {g bm : Nat} {Rs : Nat → Prop} {E : List (Int × (Value × List Int))} {m : Int}
set_option maxHeartbeats 4000000 in
set_option maxRecDepth 100000 in
theorem All_calls (h : St w g bm Rs E m) :
    Calls Try.prog 15 #[.pointer (some ⟨g, 0, none⟩)] w fun e w' => ∃ v, e = .returned v ∧ Kd.R k24 24 w' w.heap.size (fun _ => True) v (E.map fun p => ⟨p.1, p.2.2⟩) ∧ Below w.heap.size w w' := by
  have HS := Lib.hid h
  have hfew := h.few
  clear h
  go_enter Try.func15, Try.ntmps15
  go_wp2_with (first
    | (go_at_call 20; refine (IDs_calls HS.out).mono ?_; rintro e w3 ⟨v, rfl, hr, hb⟩; rw [List.length_map] at hr; obtain ⟨Ai, ci, rfl, hri⟩ := own_reads_of (d := (0 : Int)) (enc := Value.int .i64) hr; have HRi := Lib.hid hri; have HB3 := Lib.hid hb; clear hr hri hb)
    | fail)
  go_loopw [3, 9] (fun v i wr => ∃ k : Nat, k ≤ E.length ∧ i = .int .i64 k ∧ Hid (Kd.R k24 24 wr w3.heap.size (fun _ => True) v ((E.take k).map fun p => ⟨p.1, p.2.2⟩)) ∧ Hid (Below w3.heap.size w3 wr)) (fun _ i _ => E.length - (intOf i).toNat)
  case atStart => exact ⟨0, Nat.zero_le _, rfl, Kd.R_nil _ _ _ _ _, Below.refl _ _⟩
  case round =>
    obtain ⟨k, hk, rfl, HR, HB⟩ := hrel
    have hsz3 := HB3.out.size
    have hszr := HB.out.size
    by_cases hlt : k < E.length
    · obtain ⟨⟨id, rv, xs⟩, hp⟩ : ∃ p, E[k]? = some p := ⟨E[k], by simp [hlt]⟩
      have hmem : (id, rv, xs) ∈ E := List.mem_of_getElem? hp
      have h3 := HS.out.below (HB3.out.trans (HB.out.mono hsz3))
      have wf := wf_small (HS.out.keys _ hmem)
      have hl := look h3 wf
      have c0 := h3.cell0
      obtain ⟨ra, ro, rc, hv, r1, r2, r3, r4, r5⟩ := h3.rows _ hmem
      simp only at hv r1 r5
      have hval : valA id E = .slice (some ⟨ra, ro, none⟩) xs.length rc := by
        unfold valA
        rw [getA_of_mem HS.out.up _ hmem]
        exact hv
      rw [hval] at hl
      have hlen : xs.length = 37 := HS.out.len _ hmem
      have htk : (E.take (k + 1)).map (fun p => (⟨p.1, p.2.2⟩ : S24)) = (E.take k).map (fun p => (⟨p.1, p.2.2⟩ : S24)) ++ [⟨id, xs⟩] := by
        rw [List.take_add_one, hp]
        simp
      have hbig : xs.length ≤ 140737488355328 := by omega
      obtain ⟨adi, rfl, hcell⟩ := HRi.out.2.2 (by omega)
      have qa := pw_cell_below HB.out (hcell k (by omega))
      have hid : (E.map (·.1)).getD k 0 = id := by simp [List.getD_eq_getElem?_getD, hp]
      rw [hid] at qa
      have HC := Lib.hid r5
      have HT := Lib.hid htk
      have hkn : ((E.take k).map fun p => (⟨p.1, p.2.2⟩ : S24)).length = k := by simp; omega
      have HK := Lib.hid hkn
      clear h3 hp hmem r1 r2 r3 r4 r5 hv hval htk hcell hid hlen wf hkn
      go_wp2_with (first
        | (go_at_call 30; with_reducible refine (Clone_calls _ _ xs _ HC.out hbig).mono ?_; rintro e w4 ⟨vc, rfl, hr, _, hb⟩; have HB4 := Lib.hid hb; have HVc := Lib.hid (Kd.R_lower (base' := w3.heap.size) (Kd.R_of_own (h1 := fun _ => rfl) (by simpa [encs] using hr) (ok := fun k_ => wr.heap.size ≤ k_) (fun k_ hk_ => own_base hr k_ hk_)) (by omega)); clear hr hb; obtain ⟨Ac, cc, rfl⟩ := Kd.R_slice HVc.out)
        | (at_builtin; go_loud (refine Kd.R_append k24 (w0 := w3) w3.heap.size rfl (.tmp 13) (.tmp 23) 27 24 (.agg #[.int .i64 0, .slice none 0 0]) 32 rfl Try.underlying27 info24 rfl (show 0 < 2 by omega) (by omega) u3 ((E.take k).map fun p => (⟨p.1, p.2.2⟩ : S24)) ⟨id, xs⟩ [.int .i64 id, .slice Ac xs.length cc] (fun _ => True) (fun k_ => wr.heap.size ≤ k_) rfl rfl ?aP ?aK ?aF ?aO ?aB ?aS ?aL ?_); (case aP => exact k24_mkM _ _ _ ⟨id, xs⟩ HVc.out); (case aK => exact fun k_ hk_ => ⟨trivial, fun e_ => own_ne HR.out hk_ e_⟩); (case aF => exact fun _ _ => trivial); (case aO => exact Kd.R_below HR.out HB4.out); (case aB => exact HB.out.trans (HB4.out.mono hszr)); (case aS => exact Nat.le_trans hszr HB4.out.size); (case aL => rw [HK.out]; omega); intro v5 w5 ho hb hg hat; have HO5 := Lib.hid ho; have HB5 := Lib.hid hb; clear ho hb hg hat)
        | fail)
      go_roundw
      case rel => exact ⟨k + 1, by omega, by go_num, by rw [HT.out]; exact HO5.out, HB5.out⟩
      case measure => simp [intOf]; omega
    · go_wp2
      go_ret
      obtain rfl : k = E.length := by omega
      have hR := HR.out
      rw [List.take_length] at hR
      exact ⟨_, rfl, Kd.R_lower hR hsz3, HB3.out.trans (HB.out.mono hsz3)⟩
end
end Go.Proofs.Ytmjbmbhpfckagaa.A
