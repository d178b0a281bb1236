/- StashPlays holds of every input: after any blocks and any operations the stash has what the document's stash has, and tells it alike. No conditions. -/
import Derived.Test.YtmjbmbhpfckagaaRows
import Derived.Test.YtmjbmbhpfckagaaStashV
import Derived.Test.YtmjbmbhpfckagaaStashP
import Derived.Test.YtmjbmbhpfckagaaWSized
namespace Go.Proofs.Ytmjbmbhpfckagaa.stashPlays
open Go.ChangeShapes Go.WideShapes Go.ChangeAt Go.RowKit
open Go.ChangeMaps (open_string shut_string)
set_option linter.unusedVariables false
theorem own : ownKnob Try.prog.godebug = none := by kernel_rfl
theorem laidOut : laidOutB Try.prog = true := by kernel_rfl
set_option maxRecDepth 100000 in
theorem lifted (os : Os) (started : os.Started) (H : Type) (enc : TypeId × Value → H) :
    ReturnsInHanded {} Try.checked os 5 .any (Rows.stashPlaysSpec.pre6 enc Try.prog Try.f5 Rows.stashPlaysRow.domain false) (Rows.stashPlaysSpec.post enc Try.prog Try.f5 false true false false) := by
  refine returnsInHanded_of_change_sized (C := Try.checked) own started (by kernel_rfl) Try.func5
    (ChangeSpec.witness6 (enc := enc) (C := Try.checked) false ⟨#[], #[.slice none 0 0, .slice none 0 0], []⟩ 8 (by kernel_rfl) (by kernel_rfl) (by kernel_rfl) (by kernel_rfl)) ?_
  intro W base args ds gs before hval0 hW hcnd hsz0 _
  have hval : ∀ (j : Nat) t v, Try.f5.params[j]? = some t → args[j]? = some v → Value.okWide Try.prog W .any base t v := hval0
  have hW' := hW
  obtain ⟨p, q, hA0, hV, rfl, hfz, hnd⟩ := hW
  have hA : DataW.TrodAll enc Try.prog W 0 (fun _ => true) true Try.f5.params.toList args.toList ds p := hA0
  rw [Try.params5] at hA hval
  obtain ⟨v0, vs0, d0, ds0, p0, q0, hargs, rfl, rfl, h0, r0⟩ := trodAll_cons hA
  obtain ⟨v1, vs1, d1, ds1, p1, q1, rfl, rfl, rfl, h1, r1⟩ := trodAll_cons r0
  obtain ⟨rfl, rfl, rfl⟩ := trodAll_nil r1
  obtain rfl : args = #[v0, v1] := by cases args; simp_all
  obtain ⟨rfl, rfl⟩ := trodVars_none hV
  obtain ⟨a0, len0, cap0, rfl⟩ := okWide_slice Try.underlying27 (hval 0 27 v0 rfl rfl)
  obtain ⟨a1, len1, cap1, rfl⟩ := okWide_slice Try.underlying39 (hval 1 39 v1 rfl rfl)
  have k0 := h0
  have k1 := h1
  have lt0 : ∀ x ∈ p0, x.block < W.heap.size := by obtain ⟨m, hm⟩ := k0; exact DataW.trod_lt m _ _ _ hm
  have lt1 : ∀ x ∈ p1, x.block < W.heap.size := by obtain ⟨m, hm⟩ := k1; exact DataW.trod_lt m _ _ _ hm
  obtain ⟨l0, e0, w0, b0, c0⟩ : ∃ l : List B.S24, len0 = l.length ∧ l.length ≤ cap0 ∧ l.length ≤ 9223372036854775807 ∧ Go.Proofs.YtmjbmbhpfckagaaW.PrintWords.Kd.C B.k24 W a0 l.length l := by
    obtain ⟨fuel, hf⟩ := h0
    obtain ⟨A, l, c, e, h1, h2, h3, h4⟩ := A.open_blocks_at hf
    simp [Value.cells] at e
    obtain ⟨rfl, rfl, rfl⟩ := e
    exact ⟨l, rfl, h1, h2, h3⟩
  obtain ⟨l1, e1, w1, b1, c1, f1⟩ : ∃ l : List B.S42, len1 = l.length ∧ l.length ≤ cap1 ∧ l.length ≤ 9223372036854775807 ∧ Go.Proofs.YtmjbmbhpfckagaaW.PrintWords.Kd.C B.k42 W a1 l.length l ∧ ∀ b ∈ l, (Lit.int .i64 b.f1.f0).wf = true := by
    obtain ⟨fuel, hf⟩ := h1
    obtain ⟨A, l, c, e, h1, h2, h3, h4⟩ := A.open_ops_at hf
    simp [Value.cells] at e
    obtain ⟨rfl, rfl, rfl⟩ := e
    exact ⟨l, rfl, h1, h2, h3, h4⟩
  subst e0 e1
  clear hA0 hval0 hsz0
  have main := A.StashPlays_calls a0 cap0 l0 a1 cap1 l1 W c0 w0 b0 c1 w1 b1 f1
  refine main.mono fun e W' ⟨he, bel⟩ => ?_
  subst he
  exact ⟨_, rfl, _, _, _, [], _, [], hW', trodAll_mk1 (shut_bool Try.underlying4 _), (trodAll_cons_mk (Below.trod laidOut (by kernel_rfl) (of_decide_eq_true (by kernel_rfl)) k0 bel lt0) (trodAll_cons_mk (Below.trod laidOut (by kernel_rfl) (of_decide_eq_true (by kernel_rfl)) k1 bel lt1) trodAll_mk0)), rfl, bel.frame _, fun h => by cases h⟩
theorem over : Rows.stashPlaysRow.holds Try.pinned (OpenSpec.ofChange Rows.stashPlaysSpec) :=
  OpenClaim.holds_of_wide 5 Try.f5 rfl rfl rfl rfl rfl rfl rfl ⟨rfl, rfl, rfl, rfl, rfl⟩ rfl rfl rfl rfl rfl (by kernel_rfl) Try.func5 (by kernel_rfl)
    (of_decide_eq_true (by kernel_rfl)) (by unfold Func.isWrapper; first | (rw [if_pos (by decide +kernel)]; kernel_rfl) | (rw [if_neg (by decide +kernel)]; exact ⟨rfl, rfl⟩))
    (fun os started H enc _ => lifted os started H enc)
theorem proved : Rows.StashPlaysSaid := over
#print axioms proved
end Go.Proofs.Ytmjbmbhpfckagaa.stashPlays
namespace Go.Proofs.Ytmjbmbhpfckagaa
/-- The row, under a short name, for the claim. -/
theorem stashPlays_holds : Rows.StashPlaysSaid := stashPlays.proved
end Go.Proofs.Ytmjbmbhpfckagaa
