/- A row's argument of operations, opened. -/
import Derived.Test.YtmjbmbhpfckagaaStashF
import Derived.WalkKit
import Derived.ProofKit
import Derived.OpenShut
import Derived.ShutString
import Derived.ChangeOld
import Derived.Below
import Derived.SizedLaws
import Derived.Deep.Slices
import Derived.ChangeSame
namespace Go.Proofs.Ytmjbmbhpfckagaa.A
open Go.RowKit Go.Maps Go.Sort Go.Shelf Go.Proofs.YtmjbmbhpfckagaaW.PrintWords Go.Proofs.Ytmjbmbhpfckagaa.B Go.ChangeShapes Go.WideShapes Go.ChangeAt
set_option linter.unusedVariables false
section
variable {H : Type} {enc : TypeId × Value → H} {W : World}
theorem open_int_at {n : Nat} {cs : List Value} {x : DataW H × List MemPlace} (h : DataW.trod enc Try.prog W 0 (fun _ => true) true n 3 cs = some x) : ∃ i, cs = [.int .i64 i] ∧ (Lit.int .i64 i).wf = true := by
  cases n with
  | zero => simp [DataW.trod] at h
  | succ n =>
    unfold DataW.trod at h
    rw [Try.underlying3] at h
    match cs, h with
    | [.int k i], h =>
      by_cases hk : k = .i64 ∧ (Lit.int .i64 i).wf = true
      · obtain ⟨rfl, hw⟩ := hk
        exact ⟨i, rfl, hw⟩
      · simp [hk] at h
theorem open_bytes_at {n : Nat} {cs : List Value} {x : DataW H × List MemPlace} (h : DataW.trod enc Try.prog W 0 (fun _ => true) true n 22 cs = some x) : ∃ A xs c, cs = [.slice A (xs : List Int).length c] ∧ xs.length ≤ c ∧ Kd.C (Kd.int .u8) W A xs.length xs := by
  rcases open_ints Try.underlying22 Try.underlying5 (by kernel_rfl) h with ⟨rfl, _⟩ | ⟨a, len, cap, zs, rfl, _, hl, hm, hz, _, hcell, hwz⟩
  · exact ⟨none, [], 0, rfl, Nat.le_refl _, Kd.C_nil _ _⟩
  · obtain ⟨l, rfl, hr, _, _, hc⟩ := ReadsInt.ofRowC (k := .u8) (w := W) (a := some a) (len := len) (cap := cap) (zs := zs) (.inr ⟨_, rfl, hl, hm, by simpa using hz, hcell, hwz⟩)
    exact ⟨some a, l, cap, rfl, hc, Kd.C_of_reads (d := (0 : Int)) (h1 := fun _ => rfl) hr⟩
theorem open_block_at {n : Nat} {cs : List Value} {x : DataW H × List MemPlace} (h : DataW.trod enc Try.prog W 0 (fun _ => true) true n 24 cs = some x) : ∃ b : S24, k24.K W b cs ∧ (Lit.int .i64 b.f0).wf = true := by
  obtain ⟨y0, y1, m, _, hl, h0, h1⟩ := trod_struct2 Try.underlying24 h
  have c1 : Try.prog.cellsOf 3 = 1 := by kernel_rfl
  have c2 : Try.prog.cellsOf 22 = 1 := by kernel_rfl
  have c3 : Try.prog.cellsOf 24 = 2 := by kernel_rfl
  simp only [c1, c2, c3] at hl h0 h1
  match cs, hl with
  | [v0, v1], _ =>
    obtain ⟨i, e0, hw⟩ := open_int_at h0
    obtain ⟨A, xs, c, e1, hc, hC⟩ := open_bytes_at h1
    simp at e0 e1
    subst e0 e1
    exact ⟨⟨i, xs⟩, k24_mk W ⟨i, xs⟩ hc hC, hw⟩
theorem open_op_at {n : Nat} {cs : List Value} {x : DataW H × List MemPlace} (h : DataW.trod enc Try.prog W 0 (fun _ => true) true n 42 cs = some x) : ∃ b : S42, k42.K W b cs ∧ (Lit.int .i64 b.f1.f0).wf = true := by
  obtain ⟨y0, y1, m, _, hl, h0, h1⟩ := trod_struct2 Try.underlying42 h
  have c1 : Try.prog.cellsOf 3 = 1 := by kernel_rfl
  have c2 : Try.prog.cellsOf 24 = 2 := by kernel_rfl
  have c3 : Try.prog.cellsOf 42 = 3 := by kernel_rfl
  simp only [c1, c2, c3] at hl h0 h1
  match cs, hl with
  | [v0, v1, v2], _ =>
    obtain ⟨i, e0, _⟩ := open_int_at h0
    obtain ⟨b, hb, hw⟩ := open_block_at h1
    obtain ⟨A, c, e1, hc, hC⟩ := k24_open hb
    simp at e0 e1
    obtain ⟨rfl, rfl⟩ := e1
    subst e0
    exact ⟨⟨i, b⟩, k42_mk W ⟨i, b⟩ hc hC, hw⟩
theorem list_of {α : Type} {Q : Nat → α → Prop} : ∀ (n : Nat), (∀ i, i < n → ∃ a, Q i a) → ∃ l : List α, l.length = n ∧ ∀ (i : Nat) a, l[i]? = some a → Q i a
  | 0, _ => ⟨[], rfl, fun i a h => by simp at h⟩
  | n + 1, h => by
    obtain ⟨l, hl, hq⟩ := list_of n (fun i hi => h i (by omega))
    obtain ⟨a, ha⟩ := h n (by omega)
    refine ⟨l ++ [a], by simp [hl], fun i b hb => ?_⟩
    by_cases hi : i < l.length
    · rw [List.getElem?_append_left hi] at hb
      exact hq i b hb
    · have hi2 : i = n := by
        have := (List.getElem?_eq_some_iff.1 hb).1
        simp at this
        omega
      subst hi2
      rw [List.getElem?_append_right (by omega), hl] at hb
      simp at hb
      exact hb ▸ ha
theorem open_ops_at {n : Nat} {cs : List Value} {x : DataW H × List MemPlace} (h : DataW.trod enc Try.prog W 0 (fun _ => true) true n 39 cs = some x) :
    ∃ A l c, cs = [.slice A (l : List S42).length c] ∧ l.length ≤ c ∧ l.length ≤ 9223372036854775807 ∧ Kd.C k42 W A l.length l ∧ ∀ b ∈ l, (Lit.int .i64 b.f1.f0).wf = true := by
  rcases Go.Deep.open_slice Try.underlying39 h with ⟨rfl, _⟩ | ⟨a, len, cap, m, q, D, Pl, rfl, _, hl, hm, hmm, _, hx⟩
  · exact ⟨none, [], 0, rfl, Nat.le_refl _, by simp, Kd.C_nil _ _, by simp⟩
  · have hlm : len ≤ m := by rw [hmm]; split <;> omega
    have c3 : Try.prog.cellsOf 42 = 3 := by kernel_rfl
    obtain ⟨l, rfl, hq⟩ := list_of (Q := fun i (b : S42) => ∃ cs', cs'.length = 3 ∧ k42.K W b cs' ∧ (∀ j u, cs'[j]? = some u → W.cell? (a.add (i * 3 + j)) = some u) ∧ (Lit.int .i64 b.f1.f0).wf = true) len (fun i hi => by
      obtain ⟨cs', h1, h2⟩ := hx i (by omega)
      rw [c3] at h1
      obtain ⟨_, hlen, hcell⟩ := World.cells?_some h1
      obtain ⟨b, hb, hw⟩ := open_op_at h2
      refine ⟨b, cs', hlen, hb, fun j u hu => ?_, hw⟩
      have hj : j < 3 := by have := (List.getElem?_eq_some_iff.1 hu).1; omega
      have := hcell j hj
      rw [hu] at this
      rw [← this]
      congr 1
      unfold Addr.add
      split <;> split <;> split <;> simp_all <;> omega)
    have hbig : l.length ≤ 9223372036854775807 := by unfold maxLen at hm; omega
    refine ⟨some a, l, cap, rfl, hl, hbig, ⟨rfl, hbig, fun _ => ⟨a, rfl, fun j p hj => ?_⟩⟩, fun b hb => ?_⟩
    · obtain ⟨cs', e1, e2, e3, _⟩ := hq j p hj
      exact ⟨cs', e1, e2, e3⟩
    · obtain ⟨i, hi⟩ := List.mem_iff_getElem?.1 hb
      obtain ⟨_, _, _, _, hw⟩ := hq i b hi
      exact hw
end
end Go.Proofs.Ytmjbmbhpfckagaa.A
