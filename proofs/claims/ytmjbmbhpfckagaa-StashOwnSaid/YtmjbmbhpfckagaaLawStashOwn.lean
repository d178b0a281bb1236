/- StashOwn holds of every input: what is handed in is not kept, what is handed out is new memory, a block that may not be changes nothing. No conditions. -/
import Derived.Test.YtmjbmbhpfckagaaRows
import Derived.Test.YtmjbmbhpfckagaaStashK
import Derived.Test.YtmjbmbhpfckagaaStashO
import Derived.Test.YtmjbmbhpfckagaaWSized
namespace Go.Proofs.Ytmjbmbhpfckagaa.stashOwn
open Go.ChangeShapes Go.WideShapes Go.ChangeAt Go.RowKit
open Go.ChangeMaps (open_string shut_string)
set_option linter.unusedVariables false
theorem own : ownKnob Try.prog.godebug = none := by kernel_rfl
theorem laidOut : laidOutB Try.prog = true := by kernel_rfl
set_option maxRecDepth 100000 in
theorem lifted (os : Os) (started : os.Started) (H : Type) (enc : TypeId × Value → H) :
    ReturnsInHanded {} Try.checked os 3 .any (Rows.stashOwnSpec.pre6 enc Try.prog Try.f3 Rows.stashOwnRow.domain false) (Rows.stashOwnSpec.post enc Try.prog Try.f3 false true false false) := by
  refine returnsInHanded_of_change_sized (C := Try.checked) own started (by kernel_rfl) Try.func3
    (ChangeSpec.witness6 (enc := enc) (C := Try.checked) false ⟨#[], #[.int .i64 0, .int .u8 0, .agg #[.int .i64 0, .slice none 0 0]], []⟩ 8 (by kernel_rfl) (by kernel_rfl) (by kernel_rfl) (by kernel_rfl)) ?_
  intro W base args ds gs before hval0 hW hcnd hsz0 _
  have hval : ∀ (j : Nat) t v, Try.f3.params[j]? = some t → args[j]? = some v → Value.okWide Try.prog W .any base t v := hval0
  have hW' := hW
  obtain ⟨p, q, hA0, hV, rfl, hfz, hnd⟩ := hW
  have hA : DataW.TrodAll enc Try.prog W 0 (fun _ => true) true Try.f3.params.toList args.toList ds p := hA0
  rw [Try.params3] at hA hval
  obtain ⟨v0, vs0, d0, ds0, p0, q0, hargs, rfl, rfl, h0, r0⟩ := trodAll_cons hA
  obtain ⟨v1, vs1, d1, ds1, p1, q1, rfl, rfl, rfl, h1, r1⟩ := trodAll_cons r0
  obtain ⟨v2, vs2, d2, ds2, p2, q2, rfl, rfl, rfl, h2, r2⟩ := trodAll_cons r1
  obtain ⟨rfl, rfl, rfl⟩ := trodAll_nil r2
  obtain rfl : args = #[v0, v1, v2] := by cases args; simp_all
  obtain ⟨rfl, rfl⟩ := trodVars_none hV
  obtain ⟨n0, rfl⟩ := okWide_int Try.underlying3 (hval 0 3 v0 rfl rfl)
  obtain ⟨n1, rfl⟩ := okWide_int Try.underlying5 (hval 1 5 v1 rfl rfl)
  obtain ⟨cs, rfl, hcs⟩ := okWide_struct Try.underlying24 (hval 2 24 v2 rfl rfl)
  have k0 := h0
  have k1 := h1
  have k2 := h2
  have lt0 : ∀ x ∈ p0, x.block < W.heap.size := by obtain ⟨m, hm⟩ := k0; exact DataW.trod_lt m _ _ _ hm
  have lt1 : ∀ x ∈ p1, x.block < W.heap.size := by obtain ⟨m, hm⟩ := k1; exact DataW.trod_lt m _ _ _ hm
  have lt2 : ∀ x ∈ p2, x.block < W.heap.size := by obtain ⟨m, hm⟩ := k2; exact DataW.trod_lt m _ _ _ hm
  obtain ⟨b, A0, c, hx, hC, hb⟩ : ∃ (b : B.S24) (A : Option Addr) (c : Nat), b.f1.length ≤ c ∧ Go.Proofs.YtmjbmbhpfckagaaW.PrintWords.Kd.C (Go.Proofs.YtmjbmbhpfckagaaW.PrintWords.Kd.int .u8) W A b.f1.length b.f1 ∧ cs = #[.int .i64 b.f0, .slice A b.f1.length c] := by
    obtain ⟨fuel, hf⟩ := h2
    obtain ⟨b, hK, _⟩ := A.open_block_at hf
    obtain ⟨A1, c, e, hx, hC⟩ := B.k24_open hK
    simp [Value.cells] at e
    exact ⟨b, A1, c, hx, hC, by apply Array.ext'; exact e⟩
  subst hb
  clear hA0 hval0 hsz0
  refine (A.StashOwn_calls n0 n1 b.f0 A0 b.f1 c W hx hC).mono fun e W' ⟨he, bel⟩ => ?_
  subst he
  exact ⟨_, rfl, _, _, _, [], _, [], hW', trodAll_mk1 (shut_bool Try.underlying4 _), (trodAll_cons_mk (Below.trod laidOut (by kernel_rfl) (of_decide_eq_true (by kernel_rfl)) k0 bel lt0) (trodAll_cons_mk (Below.trod laidOut (by kernel_rfl) (of_decide_eq_true (by kernel_rfl)) k1 bel lt1) (trodAll_cons_mk (Below.trod laidOut (by kernel_rfl) (of_decide_eq_true (by kernel_rfl)) k2 bel lt2) trodAll_mk0))), rfl, bel.frame _, fun h => by cases h⟩
theorem over : Rows.stashOwnRow.holds Try.pinned (OpenSpec.ofChange Rows.stashOwnSpec) :=
  OpenClaim.holds_of_wide 3 Try.f3 rfl rfl rfl rfl rfl rfl rfl ⟨rfl, rfl, rfl, rfl, rfl⟩ rfl rfl rfl rfl rfl (by kernel_rfl) Try.func3 (by kernel_rfl)
    (of_decide_eq_true (by kernel_rfl)) (by unfold Func.isWrapper; first | (rw [if_pos (by decide +kernel)]; kernel_rfl) | (rw [if_neg (by decide +kernel)]; exact ⟨rfl, rfl⟩))
    (fun os started H enc _ => lifted os started H enc)
theorem proved : Rows.StashOwnSaid := over
#print axioms proved
end Go.Proofs.Ytmjbmbhpfckagaa.stashOwn
namespace Go.Proofs.Ytmjbmbhpfckagaa
/-- The row, under a short name, for the claim. -/
theorem stashOwn_holds : Rows.StashOwnSaid := stashOwn.proved
end Go.Proofs.Ytmjbmbhpfckagaa
