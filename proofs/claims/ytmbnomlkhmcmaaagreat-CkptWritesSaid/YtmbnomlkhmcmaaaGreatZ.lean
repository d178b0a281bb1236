/- CkptWrites holds of every input: the bytes of a whole checkpoint, a delta, a log and a commit are the document's, or why there are none. No conditions. -/
import Derived.Test.YtmbnomlkhmcmaaaGreatZ0
import Derived.Test.YtmbnomlkhmcmaaaGreatZ14
import Derived.Below
import Derived.Deep.Draws
import Derived.Deep.AppendLies
import Derived.Maps.AppendAt
import Derived.OwnWalk
import Derived.Laws.BytesArg
import Derived.Laws.MakeOwn
import Derived.Laws.OwnMore
import Derived.Deep.OwnRows
import Derived.Tactics
import Derived.Lib.ConvBytes
import Derived.Laws.Slices
import Derived.WalkKit
import Derived.KernelRfl
import Derived.RowKit3
import Derived.Deep.LoopGhost
import Derived.Deep.QuietTactic
import Derived.BigQuiet
import Derived.WideLaws
import Derived.Deep.DeepCutAuto
import Derived.Deep.CutBlock
import Derived.Deep.RegionHeld3
import Derived.Laws.Rows
import Derived.Lib.AppendStr
import Derived.ArgAppend
import Derived.Laws.IdiomCopy
import Derived.RowKit
import Derived.OrdersHeld
import Derived.Laws.BitsLemmas
import Derived.Shelf.Small.Strs
import Derived.Shelf.Small.Wraps
import Derived.Shelf.Slices.Turned
import Derived.Ground.Names2Prog
import Derived.Shelf.Slices.Clone
import Derived.Shelf.Bytes.SlSearch0
import Derived.Ground.SlbCloneProg
import Derived.Shelf.Bytes.SlClone
import Derived.Ground.SlbNamesProg
import Derived.Shelf.Bytes.SlJoin
import Derived.Shelf.Bytes.SlEqualAll
import Derived.Shelf.Bytes.Small
import Derived.Test.YtmbnomlkhmcmaaaGreatProg
import Derived.WalkLawsBesides
import Derived.Outline
import Derived.Deep.RegionWith
import Derived.Lib.Hide
import Derived.Laws.CopyOwn
import Derived.Laws.NewBlocks
import Derived.Laws.StructEq
import Derived.Deep.AppendSrc
import Derived.ProofKit
import Derived.OpenShut
import Derived.ShutString
import Derived.ChangeOld
import Derived.SizedLaws
import Derived.Deep.Slices
import Derived.ChangeSame
import Derived.ChangeSlices
import Derived.Test.YtmbnomlkhmcmaaaGreatRows
section
namespace Go.Proofs.YtmbnomlkhmcmaaaGreat.ckptWrites
open Go.ChangeShapes Go.WideShapes Go.ChangeAt Go.RowKit
open Go.ChangeMaps (open_string shut_string)
set_option linter.unusedVariables false
theorem own : ownKnob Tryz.prog.godebug = none := by kernel_rfl
theorem laidOut : laidOutB Tryz.prog = true := by kernel_rfl
set_option maxRecDepth 100000 in
theorem lifted (os : Os) (started : os.Started) (H : Type) (enc : TypeId × Value → H) :
    ReturnsInHanded {} Tryz.checked os 3 .any (Rows.ckptWritesSpec.pre6 enc Tryz.prog Tryz.f3 Rows.ckptWritesRow.domain false) (Rows.ckptWritesSpec.post enc Tryz.prog Tryz.f3 false true false false) := by
  refine returnsInHanded_of_change_sized (C := Tryz.checked) own started (by kernel_rfl) Tryz.func3
    (ChangeSpec.witness6 (enc := enc) (C := Tryz.checked) false ⟨#[], #[.agg #[.int .i64 0, .int .i64 0, .int .i64 0, .int .i64 0, .int .i64 0, .int .i64 0, .int .i64 0, .int .i64 0, .int .i64 0, .int .i64 0, .slice none 0 0], .agg #[.int .i64 0, .int .i64 0, .slice none 0 0, .slice none 0 0, .slice none 0 0, .slice none 0 0], .agg #[.int .i64 0, .int .i64 0, .slice none 0 0, .slice none 0 0, .slice none 0 0, .slice none 0 0], .agg #[.int .i64 0, .int .i64 0, .int .i64 0, .int .i64 0, .int .i64 0]], []⟩ 8 (by kernel_rfl) (by kernel_rfl) (by kernel_rfl) (by kernel_rfl)) ?_
  intro W base args ds gs before hval0 hW hcnd hsz0 _
  have hval : ∀ (j : Nat) t v, Tryz.f3.params[j]? = some t → args[j]? = some v → Value.okWide Tryz.prog W .any base t v := hval0
  have hW' := hW
  obtain ⟨p, q, hA0, hV, rfl, hfz, hnd⟩ := hW
  have hA : DataW.TrodAll enc Tryz.prog W 0 (fun _ => true) true Tryz.f3.params.toList args.toList ds p := hA0
  rw [Tryz.params3] at hA hval
  obtain ⟨v0, vs0, d0, ds0, p0, q0, hargs, rfl, rfl, h0, r0⟩ := trodAll_cons hA
  obtain ⟨v1, vs1, d1, ds1, p1, q1, rfl, rfl, rfl, h1, r1⟩ := trodAll_cons r0
  obtain ⟨v2, vs2, d2, ds2, p2, q2, rfl, rfl, rfl, h2, r2⟩ := trodAll_cons r1
  obtain ⟨v3, vs3, d3, ds3, p3, q3, rfl, rfl, rfl, h3, r3⟩ := trodAll_cons r2
  obtain ⟨rfl, rfl, rfl⟩ := trodAll_nil r3
  obtain rfl : args = #[v0, v1, v2, v3] := by cases args; simp_all
  obtain ⟨rfl, rfl⟩ := trodVars_none hV
  obtain ⟨c0, rfl, _⟩ := okWide_struct Tryz.underlying24 (hval 0 24 v0 rfl rfl)
  obtain ⟨c1, rfl, _⟩ := okWide_struct Tryz.underlying32 (hval 1 32 v1 rfl rfl)
  obtain ⟨c2, rfl, _⟩ := okWide_struct Tryz.underlying37 (hval 2 37 v2 rfl rfl)
  obtain ⟨c3, rfl, _⟩ := okWide_struct Tryz.underlying43 (hval 3 43 v3 rfl rfl)
  have k0 := h0
  have k1 := h1
  have k2 := h2
  have k3 := h3
  have lt0 : ∀ x ∈ p0, x.block < W.heap.size := by obtain ⟨m, hm⟩ := k0; exact DataW.trod_lt m _ _ _ hm
  have lt1 : ∀ x ∈ p1, x.block < W.heap.size := by obtain ⟨m, hm⟩ := k1; exact DataW.trod_lt m _ _ _ hm
  have lt2 : ∀ x ∈ p2, x.block < W.heap.size := by obtain ⟨m, hm⟩ := k2; exact DataW.trod_lt m _ _ _ hm
  have lt3 : ∀ x ∈ p3, x.block < W.heap.size := by obtain ⟨m, hm⟩ := k3; exact DataW.trod_lt m _ _ _ hm
  obtain ⟨y, e0, hy⟩ : ∃ y : A.Ly, c0 = #[.int .i64 y.c0, .int .i64 y.c1, .int .i64 y.c2, .int .i64 y.c3, .int .i64 y.c4, .int .i64 y.c5, .int .i64 y.c6, .int .i64 y.c7, .int .i64 y.c8, .int .i64 y.c9, .slice y.A y.l.length y.cap] ∧ y.R W := by
    obtain ⟨m, hm⟩ := h0
    obtain ⟨y, e, hy⟩ := A.open_config_at hm
    exact ⟨y, by simpa [Value.cells] using e, hy⟩
  obtain ⟨f, e1, hf, f1, f2, f3, f4⟩ : ∃ f : A.Fu, c1 = #[.int .i64 f.s, .int .i64 f.e, .slice f.PA f.P.length f.Pc, .slice f.EA f.E.length f.Ec, .slice f.VA f.V.length f.Vc, .slice f.KA f.K.length f.Kc] ∧ f.R W ∧ f.P.length ≤ f.Pc ∧ f.E.length ≤ f.Ec ∧ f.V.length ≤ f.Vc ∧ f.K.length ≤ f.Kc := by
    obtain ⟨m, hm⟩ := h1
    obtain ⟨f, e, hf⟩ := A.open_full_at hm
    exact ⟨f, by simpa [Value.cells] using e, hf⟩
  obtain ⟨d, e2, hd, g1, g2, g3, g4⟩ : ∃ d : A.De, c2 = #[.int .i64 d.s, .int .i64 d.e, .slice d.LA d.L.length d.Lc, .slice d.PA d.P.length d.Pc, .slice d.DA d.D.length d.Dc, .slice d.KA d.K.length d.Kc] ∧ d.R W ∧ d.L.length ≤ d.Lc ∧ d.P.length ≤ d.Pc ∧ d.D.length ≤ d.Dc ∧ d.K.length ≤ d.Kc := by
    obtain ⟨m, hm⟩ := h2
    obtain ⟨d, e, hd⟩ := A.open_delta_at hm
    exact ⟨d, by simpa [Value.cells] using e, hd⟩
  obtain ⟨g, e3, hg⟩ : ∃ g : A.Lg, c3 = #[.int .i64 g.s, .int .i64 g.i, .int .i64 g.d, .int .i64 g.f, .int .i64 g.t] ∧ (-9223372036854775808 ≤ g.d ∧ g.d ≤ 9223372036854775807) := by
    obtain ⟨m, hm⟩ := h3
    obtain ⟨g, e, hg⟩ := A.open_log_at hm
    exact ⟨g, by simpa [Value.cells] using e, hg⟩
  subst e0 e1 e2 e3
  clear hA0 hval0 hsz0
  refine (A.CkptWrites_call ⟨hy, hf, hd⟩ ⟨f1, f2, f3, f4, g1, g2, g3, g4⟩ hg).mono fun e W' ⟨he, bel⟩ => ?_
  subst he
  exact ⟨_, rfl, _, _, _, [], _, [], hW', trodAll_mk1 (shut_bool Tryz.underlying4 _), (trodAll_cons_mk (Below.trod laidOut (by kernel_rfl) (of_decide_eq_true (by kernel_rfl)) k0 bel lt0) (trodAll_cons_mk (Below.trod laidOut (by kernel_rfl) (of_decide_eq_true (by kernel_rfl)) k1 bel lt1) (trodAll_cons_mk (Below.trod laidOut (by kernel_rfl) (of_decide_eq_true (by kernel_rfl)) k2 bel lt2) (trodAll_cons_mk (Below.trod laidOut (by kernel_rfl) (of_decide_eq_true (by kernel_rfl)) k3 bel lt3) trodAll_mk0)))), rfl, bel.frame _, fun h => by cases h⟩
theorem over : Rows.ckptWritesRow.holds Tryz.pinned (OpenSpec.ofChange Rows.ckptWritesSpec) :=
  OpenClaim.holds_of_wide 3 Tryz.f3 rfl rfl rfl rfl rfl rfl rfl ⟨rfl, rfl, rfl, rfl, rfl⟩ rfl rfl rfl rfl rfl (by kernel_rfl) Tryz.func3 (by kernel_rfl)
    (of_decide_eq_true (by kernel_rfl)) (by unfold Func.isWrapper; first | (rw [if_pos (by decide +kernel)]; kernel_rfl) | (rw [if_neg (by decide +kernel)]; exact ⟨rfl, rfl⟩))
    (fun os started H enc _ => lifted os started H enc)
theorem proved : Rows.CkptWritesSaid := over
end Go.Proofs.YtmbnomlkhmcmaaaGreat.ckptWrites
namespace Go.Proofs.YtmbnomlkhmcmaaaGreat
theorem ckptWrites_holds : Rows.CkptWritesSaid := ckptWrites.proved
end Go.Proofs.YtmbnomlkhmcmaaaGreat
end
