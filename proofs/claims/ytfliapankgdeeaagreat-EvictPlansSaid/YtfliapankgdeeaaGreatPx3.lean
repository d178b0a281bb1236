-- Written by gprint.py (wip/tools), which runs the kit's printer with some contracts given. Lean checks it.
import Derived.Test.YtfliapankgdeeaaGreatProg
import Derived.Below
import Derived.Deep.Draws
import Derived.Deep.AppendLies
import Derived.Maps.AppendAt
import Derived.OwnWalk
import Derived.Laws.BytesArg
import Derived.Laws.MakeOwn
import Derived.Laws.OwnMore
import Derived.Deep.OwnRows
import Derived.Tactics
import Derived.Lib.ConvBytes
import Derived.Laws.Slices
import Derived.WalkKit
import Derived.KernelRfl
import Derived.RowKit3
import Derived.Deep.LoopGhost
import Derived.Deep.QuietTactic
import Derived.BigQuiet
import Derived.WideLaws
import Derived.Deep.DeepCutAuto
import Derived.Deep.CutBlock
import Derived.Deep.RegionHeld3
import Derived.Laws.Rows
import Derived.Lib.AppendStr
import Derived.ArgAppend
import Derived.Laws.IdiomCopy
import Derived.OrdersHeld
import Derived.Laws.BitsLemmas
import Derived.RowKit
import Derived.Test.YtfliapankgdeeaaGreatGSort
import Derived.Test.YtfliapankgdeeaaGreatGx
import Derived.Test.YtfliapankgdeeaaGreatEvM
import Derived.Test.YtfliapankgdeeaaGreatEvQ
import Derived.Test.YtfliapankgdeeaaGreatEvSp
import Derived.Test.YtfliapankgdeeaaGreatWWords
import Derived.Test.YtfliapankgdeeaaGreatWLast
import Derived.Test.YtfliapankgdeeaaGreatWTab
import Derived.Test.YtfliapankgdeeaaGreatWQPut
import Derived.Test.YtfliapankgdeeaaGreatWApart
import Derived.Test.YtfliapankgdeeaaGreatWArr
import Derived.Test.YtfliapankgdeeaaGreatWZeros
import Derived.Test.YtfliapankgdeeaaGreatWFoot
import Derived.Test.YtfliapankgdeeaaGreatWKept
import Derived.Test.YtfliapankgdeeaaGreatWShare
import Derived.Test.YtfliapankgdeeaaGreatWN
import Derived.Test.YtfliapankgdeeaaGreatWEqStruct
import Derived.Test.YtfliapankgdeeaaGreatWRepsOne
import Derived.Test.YtfliapankgdeeaaGreatWGuard
import Derived.Test.YtfliapankgdeeaaGreatWNEv
import Derived.Test.YtfliapankgdeeaaGreatWMore
namespace Go.Proofs.YtfliapankgdeeaaGreat.P
open Go.RowKit Go.Proofs.YtfliapankgdeeaaGreat.G Go.Proofs.YtfliapankgdeeaaGreatW.PrintWords Go.Proofs.YtfliapankgdeeaaGreatW.PrintLast Go.Proofs.YtfliapankgdeeaaGreatW.PrintMore
attribute [local go_sem] max2_int min2_int max_two min_two max_three min_three max_four min_four   -- for this text's walks alone
set_option linter.unusedVariables false
set_option linter.unusedSimpArgs false



def errW : Option Int → Value
 | none => .nilIface
 | some c => .iface 0 (.int .i64 c)
theorem errW_none : errW none = .nilIface := rfl
theorem errW_some (c : Int) : errW (some c) = .iface 0 (.int .i64 c) := rfl

theorem info3 : (Tryz.prog.info? 3).map (fun i => (i.zero, i.size, i.bytes)) = some (some (.int .i64 0), 1, 8) := by kernel_rfl
theorem info35 : (Tryz.prog.info? 35).map (fun i => (i.zero, i.size, i.bytes)) = some (some (.agg #[(.int .i64 0), (.int .i64 0)]), 2, 16) := by kernel_rfl
theorem info58 : (Tryz.prog.info? 58).map (fun i => (i.zero, i.size, i.bytes)) = some (some (.agg #[(.int .i64 0), (.slice none 0 0)]), 2, 32) := by kernel_rfl
-- the values' own types

end Go.Proofs.YtfliapankgdeeaaGreat.P

namespace Go.Proofs.YtfliapankgdeeaaGreat.P
open Go.RowKit Go.Proofs.YtfliapankgdeeaaGreat.G Go.Proofs.YtfliapankgdeeaaGreatW.PrintWords Go.Proofs.YtfliapankgdeeaaGreatW.PrintLast Go.Proofs.YtfliapankgdeeaaGreatW.PrintMore
attribute [local go_sem] max2_int min2_int max_two min_two max_three min_three max_four min_four   -- for this text's walks alone
set_option linter.unusedVariables false
set_option linter.unusedSimpArgs false

theorem eqA35 (d : Nat) (w : World) (x0 y0 : Int) (x1 y1 : Int) :
  (Op.equalIn (d + 2) 35 (.agg #[.int .i64 x0, .int .i64 x1]) (.agg #[.int .i64 y0, .int .i64 y1])).run Tryz.prog w = .ok (x0 == y0 && (x1 == y1)) w := by
 refine eqA_of Tryz.underlying35 (by kernel_rfl) ?_
 refine eqf_cons (by rfl) (by go_simp; rfl) (by go_simp; rfl) (by go_simp) ?_
 exact eqf_last (by rfl) (by go_simp; rfl) (by go_simp; rfl) (by go_simp)
end Go.Proofs.YtfliapankgdeeaaGreat.P

namespace Go.Proofs.YtfliapankgdeeaaGreat.P
open Go.RowKit Go.Proofs.YtfliapankgdeeaaGreat.G Go.Proofs.YtfliapankgdeeaaGreatW.PrintWords Go.Proofs.YtfliapankgdeeaaGreatW.PrintLast Go.Proofs.YtfliapankgdeeaaGreatW.PrintMore
abbrev bs (n m : Nat) : Array Bool := ⟨List.replicate n true ++ List.replicate m false⟩
attribute [local go_sem] max2_int min2_int max_two min_two max_three min_three max_four min_four   -- for this text's walks alone
set_option linter.unusedVariables false
set_option linter.unusedSimpArgs false

/-! ### oubref7_Plan: function 7 -/
mutual
def oubref7_Plan.l0 : Nat → Int → Int → List Int → List (S56) → List Int → Int → Option ((List (S58)) × List Int)
 | 0, _, _, _, _, _, _ => none
 | k + 1, x0, x1, x2, x3, x10, x11 => if x11 < (x3.length : Int) then (if 0 ≤ x11 then (if x10.length < 17592186044416 then (oubref7_Plan.l0 k x0 x1 x2 x3 (x10 ++ [(rd_T56 x3 x11).f0]) (wrap64 (x11 + 1))) else (none)) else (none)) else ((oubref_Sorted.f x10).bind fun t106 => ((oubref7_Union.f k x0 x2).bind fun t109 => (if 0 ≤ (t109.length : Int) then (if ((t109.length : Int) : Int).toNat ≤ 8796093022208 then (oubref7_Plan.l1 k x0 x1 x3 t106 t109 (List.replicate ((t109.length : Int) : Int).toNat z58) x0) else (none)) else (none))))
def oubref7_Plan.l1 : Nat → Int → Int → List (S56) → List Int → List Int → List (S58) → Int → Option ((List (S58)) × List Int)
 | 0, _, _, _, _, _, _, _ => none
 | k + 1, x0, x1, x3, x10, x12, x13, x14 => if x14 ≥ 0 then (oubref7_Plan.l2 k x0 x1 x3 x10 x12 x13 x14 0) else (some (x13, x10))
def oubref7_Plan.l2 : Nat → Int → Int → List (S56) → List Int → List Int → List (S58) → Int → Int → Option ((List (S58)) × List Int)
 | 0, _, _, _, _, _, _, _, _ => none
 | k + 1, x0, x1, x3, x10, x12, x13, x14, x15 => if x15 < (x12.length : Int) then (if 0 ≤ x15 then ((oubref7_Level.f k (rd x12 x15)).bind fun t116 => (if t116 = x14 then (if x15 < (x13.length : Int) then (oubref7_Plan.l3 k x0 x1 x3 x10 x12 (x13.set (x15 : Int).toNat (⟨rd x12 x15, (rd_T58 x13 x15).f1⟩ : S58)) x14 x15 ([] : List Int) 0) else (none)) else (oubref7_Plan.l2 k x0 x1 x3 x10 x12 x13 x14 (wrap64 (x15 + 1))))) else (none)) else (oubref7_Plan.l1 k x0 x1 x3 x10 x12 x13 (wrap64 (x14 - 1)))
def oubref7_Plan.l3 : Nat → Int → Int → List (S56) → List Int → List Int → List (S58) → Int → Int → List Int → Int → Option ((List (S58)) × List Int)
 | 0, _, _, _, _, _, _, _, _, _, _ => none
 | k + 1, x0, x1, x3, x10, x12, x13, x14, x15, x16, x17 => if x17 < (x10.length : Int) then (oubref7_Plan.l4 k x0 x1 x3 x10 x12 x13 x14 x15 x16 x17 0 0) else (oubref7_Plan.l2 k x0 x1 x3 x16 x12 x13 x14 (wrap64 (x15 + 1)))
def oubref7_Plan.l4 : Nat → Int → Int → List (S56) → List Int → List Int → List (S58) → Int → Int → List Int → Int → Int → Int → Option ((List (S58)) × List Int)
 | 0, _, _, _, _, _, _, _, _, _, _, _, _ => none
 | k + 1, x0, x1, x3, x10, x12, x13, x14, x15, x16, x17, x18, x19 => if x19 < (x3.length : Int) then (if 0 ≤ x19 then (if 0 ≤ x17 then (if x17 < (x10.length : Int) then (if ((rd_T56 x3 x19).f0) = (rd x10 x17) then (oubref7_Plan.l4 k x0 x1 x3 x10 x12 x13 x14 x15 x16 x17 ((rd_T56 x3 x19).f1) (wrap64 (x19 + 1))) else (oubref7_Plan.l4 k x0 x1 x3 x10 x12 x13 x14 x15 x16 x17 x18 (wrap64 (x19 + 1)))) else (none)) else (none)) else (none)) else (if 0 ≤ x15 then (if x15 < (x13.length : Int) then (if (((rd_T58 x13 x15).f1).length : Int) < x1 then (if x15 < (x12.length : Int) then ((oubref7_On.f k x0 (rd x12 x15) x18).bind fun t124 => (if t124 = true then (if 0 ≤ x17 then (if x17 < (x10.length : Int) then (if ((rd_T58 x13 x15).f1).length < 17592186044416 then (oubref7_Plan.l3 k x0 x1 x3 x10 x12 (x13.set (x15 : Int).toNat (⟨(rd_T58 x13 x15).f0, (((rd_T58 x13 x15).f1) ++ [rd x10 x17])⟩ : S58)) x14 x15 x16 (wrap64 (x17 + 1))) else (none)) else (none)) else (none)) else (if 0 ≤ x17 then (if x17 < (x10.length : Int) then (if x16.length < 17592186044416 then (oubref7_Plan.l3 k x0 x1 x3 x10 x12 x13 x14 x15 (x16 ++ [rd x10 x17]) (wrap64 (x17 + 1))) else (none)) else (none)) else (none)))) else (none)) else (if 0 ≤ x17 then (if x17 < (x10.length : Int) then (if x16.length < 17592186044416 then (oubref7_Plan.l3 k x0 x1 x3 x10 x12 x13 x14 x15 (x16 ++ [rd x10 x17]) (wrap64 (x17 + 1))) else (none)) else (none)) else (none))) else (none)) else (none))
end
def oubref7_Plan.f (k : Nat) (a0 : Int) (a1 : Int) (l2 : List Int) (l3 : List (S56)) : Option ((List (S58)) × List Int) := (oubref7_MayPlan.f k a0 a1 l2 l3).bind fun t101 => (if t101 = true then (oubref7_Plan.l0 k a0 a1 l2 l3 ([] : List Int) 0) else (some (([] : List (S58)), ([] : List Int))))
theorem oubref7_Plan.mono_l : ∀ k, (∀ y0 y1 y2 y3 y4 y5, LeO (oubref7_Plan.l0 k y0 y1 y2 y3 y4 y5) (oubref7_Plan.l0 (k + 1) y0 y1 y2 y3 y4 y5)) ∧ (∀ y0 y1 y2 y3 y4 y5 y6, LeO (oubref7_Plan.l1 k y0 y1 y2 y3 y4 y5 y6) (oubref7_Plan.l1 (k + 1) y0 y1 y2 y3 y4 y5 y6)) ∧ (∀ y0 y1 y2 y3 y4 y5 y6 y7, LeO (oubref7_Plan.l2 k y0 y1 y2 y3 y4 y5 y6 y7) (oubref7_Plan.l2 (k + 1) y0 y1 y2 y3 y4 y5 y6 y7)) ∧ (∀ y0 y1 y2 y3 y4 y5 y6 y7 y8 y9, LeO (oubref7_Plan.l3 k y0 y1 y2 y3 y4 y5 y6 y7 y8 y9) (oubref7_Plan.l3 (k + 1) y0 y1 y2 y3 y4 y5 y6 y7 y8 y9)) ∧ (∀ y0 y1 y2 y3 y4 y5 y6 y7 y8 y9 y10 y11, LeO (oubref7_Plan.l4 k y0 y1 y2 y3 y4 y5 y6 y7 y8 y9 y10 y11) (oubref7_Plan.l4 (k + 1) y0 y1 y2 y3 y4 y5 y6 y7 y8 y9 y10 y11))
 | 0 => ⟨fun _ _ _ _ _ _ r h => by simp [oubref7_Plan.l0] at h, fun _ _ _ _ _ _ _ r h => by simp [oubref7_Plan.l1] at h, fun _ _ _ _ _ _ _ _ r h => by simp [oubref7_Plan.l2] at h, fun _ _ _ _ _ _ _ _ _ _ r h => by simp [oubref7_Plan.l3] at h, fun _ _ _ _ _ _ _ _ _ _ _ _ r h => by simp [oubref7_Plan.l4] at h⟩
 | k + 1 => by
  obtain ⟨ih0, ih1, ih2, ih3, ih4⟩ := oubref7_Plan.mono_l k
  refine ⟨?_, ?_, ?_, ?_, ?_⟩
  ·intro y0 y1 y2 y3 y4 y5
   unfold oubref7_Plan.l0
   repeat' first
   | (with_reducible exact ih0 _ _ _ _ _ _)
   | (with_reducible exact ih1 _ _ _ _ _ _ _)
   | (with_reducible exact ih2 _ _ _ _ _ _ _ _)
   | (with_reducible exact ih3 _ _ _ _ _ _ _ _ _ _)
   | (with_reducible exact ih4 _ _ _ _ _ _ _ _ _ _ _ _)
   | (with_reducible exact oubref7_Level.mono _ _)
   | (with_reducible exact oubref7_MayPlan.mono _ _ _ _ _)
   | (with_reducible exact oubref7_On.mono _ _ _ _)
   | (with_reducible exact oubref7_Union.mono _ _ _)
   | (with_reducible exact LeO.refl _)
   | (with_reducible exact LeO.none _)
   | (with_reducible refine LeO.ite ?_ ?_)
   | (with_reducible refine LeO.bind ?_ (fun _ => ?_))
   | exact ih0 _ _ _ _ _ _
   | exact ih1 _ _ _ _ _ _ _
   | exact ih2 _ _ _ _ _ _ _ _
   | exact ih3 _ _ _ _ _ _ _ _ _ _
   | exact ih4 _ _ _ _ _ _ _ _ _ _ _ _
   | exact oubref7_Level.mono _ _
   | exact oubref7_MayPlan.mono _ _ _ _ _
   | exact oubref7_On.mono _ _ _ _
   | exact oubref7_Union.mono _ _ _
   | exact LeO.none _
   | refine LeO.ite ?_ ?_
   | refine LeO.bind ?_ (fun _ => ?_)
  ·intro y0 y1 y2 y3 y4 y5 y6
   unfold oubref7_Plan.l1
   repeat' first
   | (with_reducible exact ih0 _ _ _ _ _ _)
   | (with_reducible exact ih1 _ _ _ _ _ _ _)
   | (with_reducible exact ih2 _ _ _ _ _ _ _ _)
   | (with_reducible exact ih3 _ _ _ _ _ _ _ _ _ _)
   | (with_reducible exact ih4 _ _ _ _ _ _ _ _ _ _ _ _)
   | (with_reducible exact oubref7_Level.mono _ _)
   | (with_reducible exact oubref7_MayPlan.mono _ _ _ _ _)
   | (with_reducible exact oubref7_On.mono _ _ _ _)
   | (with_reducible exact oubref7_Union.mono _ _ _)
   | (with_reducible exact LeO.refl _)
   | (with_reducible exact LeO.none _)
   | (with_reducible refine LeO.ite ?_ ?_)
   | (with_reducible refine LeO.bind ?_ (fun _ => ?_))
   | exact ih0 _ _ _ _ _ _
   | exact ih1 _ _ _ _ _ _ _
   | exact ih2 _ _ _ _ _ _ _ _
   | exact ih3 _ _ _ _ _ _ _ _ _ _
   | exact ih4 _ _ _ _ _ _ _ _ _ _ _ _
   | exact oubref7_Level.mono _ _
   | exact oubref7_MayPlan.mono _ _ _ _ _
   | exact oubref7_On.mono _ _ _ _
   | exact oubref7_Union.mono _ _ _
   | exact LeO.none _
   | refine LeO.ite ?_ ?_
   | refine LeO.bind ?_ (fun _ => ?_)
  ·intro y0 y1 y2 y3 y4 y5 y6 y7
   unfold oubref7_Plan.l2
   repeat' first
   | (with_reducible exact ih0 _ _ _ _ _ _)
   | (with_reducible exact ih1 _ _ _ _ _ _ _)
   | (with_reducible exact ih2 _ _ _ _ _ _ _ _)
   | (with_reducible exact ih3 _ _ _ _ _ _ _ _ _ _)
   | (with_reducible exact ih4 _ _ _ _ _ _ _ _ _ _ _ _)
   | (with_reducible exact oubref7_Level.mono _ _)
   | (with_reducible exact oubref7_MayPlan.mono _ _ _ _ _)
   | (with_reducible exact oubref7_On.mono _ _ _ _)
   | (with_reducible exact oubref7_Union.mono _ _ _)
   | (with_reducible exact LeO.refl _)
   | (with_reducible exact LeO.none _)
   | (with_reducible refine LeO.ite ?_ ?_)
   | (with_reducible refine LeO.bind ?_ (fun _ => ?_))
   | exact ih0 _ _ _ _ _ _
   | exact ih1 _ _ _ _ _ _ _
   | exact ih2 _ _ _ _ _ _ _ _
   | exact ih3 _ _ _ _ _ _ _ _ _ _
   | exact ih4 _ _ _ _ _ _ _ _ _ _ _ _
   | exact oubref7_Level.mono _ _
   | exact oubref7_MayPlan.mono _ _ _ _ _
   | exact oubref7_On.mono _ _ _ _
   | exact oubref7_Union.mono _ _ _
   | exact LeO.none _
   | refine LeO.ite ?_ ?_
   | refine LeO.bind ?_ (fun _ => ?_)
  ·intro y0 y1 y2 y3 y4 y5 y6 y7 y8 y9
   unfold oubref7_Plan.l3
   repeat' first
   | (with_reducible exact ih0 _ _ _ _ _ _)
   | (with_reducible exact ih1 _ _ _ _ _ _ _)
   | (with_reducible exact ih2 _ _ _ _ _ _ _ _)
   | (with_reducible exact ih3 _ _ _ _ _ _ _ _ _ _)
   | (with_reducible exact ih4 _ _ _ _ _ _ _ _ _ _ _ _)
   | (with_reducible exact oubref7_Level.mono _ _)
   | (with_reducible exact oubref7_MayPlan.mono _ _ _ _ _)
   | (with_reducible exact oubref7_On.mono _ _ _ _)
   | (with_reducible exact oubref7_Union.mono _ _ _)
   | (with_reducible exact LeO.refl _)
   | (with_reducible exact LeO.none _)
   | (with_reducible refine LeO.ite ?_ ?_)
   | (with_reducible refine LeO.bind ?_ (fun _ => ?_))
   | exact ih0 _ _ _ _ _ _
   | exact ih1 _ _ _ _ _ _ _
   | exact ih2 _ _ _ _ _ _ _ _
   | exact ih3 _ _ _ _ _ _ _ _ _ _
   | exact ih4 _ _ _ _ _ _ _ _ _ _ _ _
   | exact oubref7_Level.mono _ _
   | exact oubref7_MayPlan.mono _ _ _ _ _
   | exact oubref7_On.mono _ _ _ _
   | exact oubref7_Union.mono _ _ _
   | exact LeO.none _
   | refine LeO.ite ?_ ?_
   | refine LeO.bind ?_ (fun _ => ?_)
  ·intro y0 y1 y2 y3 y4 y5 y6 y7 y8 y9 y10 y11
   unfold oubref7_Plan.l4
   repeat' first
   | (with_reducible exact ih0 _ _ _ _ _ _)
   | (with_reducible exact ih1 _ _ _ _ _ _ _)
   | (with_reducible exact ih2 _ _ _ _ _ _ _ _)
   | (with_reducible exact ih3 _ _ _ _ _ _ _ _ _ _)
   | (with_reducible exact ih4 _ _ _ _ _ _ _ _ _ _ _ _)
   | (with_reducible exact oubref7_Level.mono _ _)
   | (with_reducible exact oubref7_MayPlan.mono _ _ _ _ _)
   | (with_reducible exact oubref7_On.mono _ _ _ _)
   | (with_reducible exact oubref7_Union.mono _ _ _)
   | (with_reducible exact LeO.refl _)
   | (with_reducible exact LeO.none _)
   | (with_reducible refine LeO.ite ?_ ?_)
   | (with_reducible refine LeO.bind ?_ (fun _ => ?_))
   | exact ih0 _ _ _ _ _ _
   | exact ih1 _ _ _ _ _ _ _
   | exact ih2 _ _ _ _ _ _ _ _
   | exact ih3 _ _ _ _ _ _ _ _ _ _
   | exact ih4 _ _ _ _ _ _ _ _ _ _ _ _
   | exact oubref7_Level.mono _ _
   | exact oubref7_MayPlan.mono _ _ _ _ _
   | exact oubref7_On.mono _ _ _ _
   | exact oubref7_Union.mono _ _ _
   | exact LeO.none _
   | refine LeO.ite ?_ ?_
   | refine LeO.bind ?_ (fun _ => ?_)
theorem oubref7_Plan.mono : ∀ a0 a1 a2 a3 k, LeO (oubref7_Plan.f k a0 a1 a2 a3) (oubref7_Plan.f (k + 1) a0 a1 a2 a3) := by
 intro a0 a1 a2 a3 k
 obtain ⟨ih0, ih1, ih2, ih3, ih4⟩ := oubref7_Plan.mono_l k
 unfold oubref7_Plan.f
 repeat' first
   | (with_reducible exact ih0 _ _ _ _ _ _)
   | (with_reducible exact ih1 _ _ _ _ _ _ _)
   | (with_reducible exact ih2 _ _ _ _ _ _ _ _)
   | (with_reducible exact ih3 _ _ _ _ _ _ _ _ _ _)
   | (with_reducible exact ih4 _ _ _ _ _ _ _ _ _ _ _ _)
   | (with_reducible exact oubref7_Level.mono _ _)
   | (with_reducible exact oubref7_MayPlan.mono _ _ _ _ _)
   | (with_reducible exact oubref7_On.mono _ _ _ _)
   | (with_reducible exact oubref7_Union.mono _ _ _)
   | (with_reducible exact LeO.refl _)
   | (with_reducible exact LeO.none _)
   | (with_reducible refine LeO.ite ?_ ?_)
   | (with_reducible refine LeO.bind ?_ (fun _ => ?_))
   | exact ih0 _ _ _ _ _ _
   | exact ih1 _ _ _ _ _ _ _
   | exact ih2 _ _ _ _ _ _ _ _
   | exact ih3 _ _ _ _ _ _ _ _ _ _
   | exact ih4 _ _ _ _ _ _ _ _ _ _ _ _
   | exact oubref7_Level.mono _ _
   | exact oubref7_MayPlan.mono _ _ _ _ _
   | exact oubref7_On.mono _ _ _ _
   | exact oubref7_Union.mono _ _ _
   | exact LeO.none _
   | refine LeO.ite ?_ ?_
   | refine LeO.bind ?_ (fun _ => ?_)
def oubref7_Plan.T27 : Bool × List (List Nat × List Nat) := (true, [([], []), ([], []), ([0, 1], [0, 1]), ([2], [2]), ([3], [3]), ([], []), ([], []), ([5, 6], [5, 6]), ([7], [7]), ([4, 8], [4, 8])])
def oubref7_Plan.B27 : List Nat := [0, 0, 3, 7, 15, 0, 0, 96, 224, 511]
theorem oubref7_Plan.tab27 : rtab .any (opsOf Tryz.f7 27) = oubref7_Plan.T27 := by kernel_rfl
theorem oubref7_Plan.bits27 : waitsOk oubref7_Plan.T27.2 oubref7_Plan.B27 = true := by kernel_rfl
def oubref7_Plan.T30 : Bool × List (List Nat × List Nat) := (true, [([], []), ([], []), ([], []), ([], []), ([2, 3], [2, 3]), ([4], [4]), ([5], [5]), ([], []), ([], []), ([7, 8], [7, 8]), ([9], [9]), ([10], [10]), ([6, 11], [6, 11]), ([0, 1, 0, 1, 2, 3, 4, 5, 6, 7, 8, 9, 10, 11, 12], [0, 1]), ([13, 0, 1, 2, 3, 4, 5, 6, 7, 8, 9, 10, 11, 12], [13]), ([14, 12, 12, 0, 1, 2, 3, 4, 5, 6, 7, 8, 9, 10, 11, 12], [12, 14])])
def oubref7_Plan.B30 : List Nat := [0, 0, 0, 0, 12, 28, 60, 0, 0, 384, 896, 1920, 4092, 8191, 16383, 32767]
theorem oubref7_Plan.tab30 : rtab .any (opsOf Tryz.f7 30) = oubref7_Plan.T30 := by kernel_rfl
theorem oubref7_Plan.bits30 : waitsOk oubref7_Plan.T30.2 oubref7_Plan.B30 = true := by kernel_rfl
set_option maxHeartbeats 8000000 in
set_option maxRecDepth 100000 in
theorem oubref7_Plan.calls (k : Nat) (a0 : Int) (a1 : Int) (A2 : Option Addr) (c2 : Nat) (l2 : List Int) (A3 : Option Addr) (c3 : Nat) (l3 : List (S56)) (r1 : List (S58)) (r2 : List Int) (w : World) (hr2 : Kd.C (Kd.int .i64) w A2 l2.length l2) (hc2 : l2.length ≤ c2) (hr3 : Kd.C k56 w A3 l3.length l3) (hc3 : l3.length ≤ c3) (h : oubref7_Plan.f k a0 a1 l2 l3 = some (r1, r2)) :
  Calls Tryz.prog 7 #[.int .i64 a0, .int .i64 a1, .slice A2 l2.length c2, .slice A3 l3.length c3] w fun e w' => ∃ v0_ v1_ : Value, e = .returned (.tuple #[v0_, v1_]) ∧ Kd.S k58 58 w' w.heap.size (fun k_ => some k_ ≠ (v1_ : Value).ownBlock) v0_ r1 ∧ Kd.R (Kd.int .i64) 3 w' w.heap.size (fun _ => True) v1_ r2 ∧ Below w.heap.size w w' := by
 have HR2 := Aside0.mk hr2
 have HC2 := Aside0.mk hc2
 clear hr2 hc2
 have HR3 := Aside0.mk hr3
 have HC3 := Aside0.mk hc3
 clear hr3 hc3
 have HB := Aside0.mk (Below.refl w.heap.size w)
 have H : ((oubref7_MayPlan.f k a0 a1 l2 l3).bind fun t101 => (if t101 = true then (oubref7_Plan.l0 k a0 a1 l2 l3 ([] : List Int) 0) else (some (([] : List (S58)), ([] : List Int))))) = some (r1, r2) := h
 clear h
 replace H := Option.bind_eq_some_iff.mp H
 obtain ⟨t101, A50, H⟩ := H
 replace H : (if t101 = true then (oubref7_Plan.l0 k a0 a1 l2 l3 ([] : List Int) 0) else (some (([] : List (S58)), ([] : List Int)))) = some (r1, r2) := H
 have A5 := Aside0.mk A50
 clear A50
 by_cases c6 : t101 = true
 ·subst c6
  have H1 : (oubref7_Plan.l0 k a0 a1 l2 l3 ([] : List Int) 0) = some (r1, r2) := by rw [if_pos rfl] at H; exact H
  clear H
  have H := H1
  clear H1
  have H' := Aside0.mk H
  clear H
  go_enter Tryz.func7, Tryz.ntmps7
  go_wp2_with (first | ((with_reducible refine gate_callee (f := 26) rfl ?_); refine goesL_ (some 24) rfl rfl Tryz.func26 (by kernel_rfl) rfl #[.int .i64 a0, .int .i64 a1, .slice A2 l2.length c2, .slice A3 l3.length c3] rfl (by (try simp only [List.map_toArray, List.map_cons, List.map_nil]); first | done | rfl | (simp only [List.length_drop, List.length_take]; rfl)) ?_; (with_reducible refine (oubref7_MayPlan.calls k a0 a1 _ _ l2 _ _ l3 true _ ?side1 ?side2 ?side3 ?side4 A5.out).mono ?_); (case side1 => repeat (first | exact HR2.out | (with_reducible refine Kd.C_alloc ?_ _) | (with_reducible refine Kd.C_drewN ?_ _) | (with_reducible refine Kd.C_drew ?_))); (case side2 => exact HC2.out); (case side3 => repeat (first | exact HR3.out | (with_reducible refine Kd.C_alloc ?_ _) | (with_reducible refine Kd.C_drewN ?_ _) | (with_reducible refine Kd.C_drew ?_))); (case side4 => exact HC3.out); rintro e w' ⟨rfl, ⟨nd, rfl⟩⟩; refine ⟨_, rfl, ?_⟩))
  go_loopg [10, 11] k (fun kq v10 v11 w' => ∃ (x10_1 : List Int) (x11_1 : Int), v11 = .int .i64 x11_1 ∧ Aside0 (oubref7_Plan.l0 kq a0 a1 l2 l3 x10_1 x11_1 = some (r1, r2)) ∧ Aside0 (kq ≤ k) ∧ Aside0 (Kd.R (Kd.int .i64) 3 w' w.heap.size (fun _ => True) v10 x10_1) ∧ Aside0 (Below w.heap.size w w'))
  case atStart => exact ⟨(([] : List Int)), (0), (by first | rfl | (simp; done) | (simp [*]; done)), H', ⟨Nat.le_refl _⟩, ⟨by first | exact Kd.R_nil _ _ _ _ _ | exact Kd.N_nil _ _ _ _ _ | exact Kd.V_nil _ _ _ _ _ | exact Kd.Q_nil _ _ _ _ _ | exact Kd.S_nil _ _ _ _ _⟩, ⟨by repeat (first | (with_reducible first | exact HB.out | apply below_alloc | apply pw_below_drewN | apply below_drew1) | exact HB.out)⟩⟩
  case round =>
   clear H'
   try clear c2
   try clear p2
   try clear c3
   try clear c6
   obtain ⟨x10_1, x11_1, rfl, HA, HK1, HO_10, HB⟩ := hrel
   cases gk with
   | zero => exact absurd HA.out (by simp [oubref7_Plan.l0])
   | succ k1 =>
    have H := HA.out
    clear HA
    simp only [oubref7_Plan.l0] at H
    by_cases c7 : x11_1 < (l3.length : Int)
    ·rw [if_pos c7] at H
     have c7b0 : decide (x11_1 < (l3.length : Int)) = true := decide_eq_true c7
     clear c7
     by_cases c8 : 0 ≤ x11_1
     ·rw [if_pos c8] at H
      have c8b0 : decide (0 ≤ x11_1) = true := decide_eq_true c8
      clear c8
      by_cases c9 : x10_1.length < 17592186044416
      ·rw [if_pos c9] at H
       have LMc9 := Aside0.mk c9
       clear c9
       obtain ⟨y103, hy103⟩ : ∃ y_ : List Int, y_ = (x10_1 ++ [(rd_T56 l3 x11_1).f0]) := ⟨_, rfl⟩
       replace H : (oubref7_Plan.l0 k1 a0 a1 l2 l3 y103 (wrap64 (x11_1 + 1))) = some (r1, r2) := by first | (rw [hy103]; with_reducible exact H) | (have H2_ := (Option.bind_some _ _).symm.trans H; rw [hy103]; with_reducible exact H2_) | (have H2_ := (Option.bind_some _ _).symm.trans H; with_reducible exact H2_) | with_reducible exact H | (rw [hy103]; exact H) | exact H
       have Ny103 := Aside0.mk hy103
       clear hy103
       have H' := Aside0.mk H
       clear H
       have p102 : 0 ≤ (x11_1 : Int) := of_decide_eq_true (by first | (with_reducible assumption) | assumption)
       have q102 : x11_1 < (l3.length : Int) := of_decide_eq_true (by first | (with_reducible assumption) | assumption)
       obtain ⟨ad102, e102, hx102_0, hx102_1⟩ := at_T56 HR3.out x11_1 p102 q102
       cases e102
       replace hx102_0 := (HB.out.cell (World.block_lt_of_cell? w _ hx102_0)).trans hx102_0
       replace hx102_1 := (HB.out.cell (World.block_lt_of_cell? w _ hx102_1)).trans hx102_1
       replace p102 := eq_true p102
       replace q102 := eq_true q102
       go_wp2_with (first | ((with_reducible refine gate_builtin (b := .append) (xs := #[.tmp 32, .tmp 38]) rfl ?_); at_builtin; refine Kd.R_append (Kd.int .i64) (w0 := w) w.heap.size rfl (.tmp 32) (.tmp 38) 22 3 (.int .i64 0) 8 rfl Tryz.underlying22 info3 rfl (by decide) (by omega) u10 x10_1 ((rd_T56 l3 x11_1).f0) [.int .i64 ((rd_T56 l3 x11_1).f0)] (fun _ => True) (fun _ => False) rfl rfl ?aP (fun _ hk => hk.elim) ?aF ?aO ?aB ?aS ?aL ?_; (case aP => exact rfl); (case aB => exact (by repeat (first | (with_reducible first | exact HB.out | apply below_alloc | apply pw_below_drewN | apply below_drew1) | exact HB.out))); (case aF => exact (fun _ _ => trivial)); (case aO => exact (by (with_reducible repeat (first | apply Kd.R_alloc | apply Kd.R_drewN | apply Kd.R_drew)); exact HO_10.out)); (case aS => exact (below_size (by repeat (first | (with_reducible first | exact HB.out | apply below_alloc | apply pw_below_drewN | apply below_drew1) | exact HB.out)))); (case aL => have := LMc9.out; omega); intro v104 w10 ho hb hg hat; rw [← Ny103.out] at ho; have n0_ := Aside0.mk (hb); have n1_ := Aside0.mk (ho); clear HB; clear HO_10; have HB := n0_; have HO105 := n1_; clear n0_ n1_; clear ho hb hg hat))
       go_roundg k1
       case measure => have := HK1.out; omega
       case rel => exact ⟨(y103), (wrap64 (x11_1 + 1)), (by first | rfl | (simp; done) | (simp [*]; done)), H', ⟨by have := HK1.out; omega⟩, ⟨by (with_reducible repeat (first | apply Kd.R_alloc | apply Kd.R_drewN | apply Kd.R_drew)); exact HO105.out⟩, ⟨by repeat (first | (with_reducible first | exact HB.out | apply below_alloc | apply pw_below_drewN | apply below_drew1) | exact HB.out)⟩⟩
      ·rw [if_neg c9] at H
       exact absurd H (by simp)
     ·rw [if_neg c8] at H
      exact absurd H (by simp)
    ·rw [if_neg c7] at H
     have c7b0 : decide (x11_1 < (l3.length : Int)) = false := decide_eq_false c7
     clear c7
     replace H := Option.bind_eq_some_iff.mp H
     obtain ⟨t106, A110, H⟩ := H
     replace H : ((oubref7_Union.f k1 a0 l2).bind fun t109 => (if 0 ≤ (t109.length : Int) then (if ((t109.length : Int) : Int).toNat ≤ 8796093022208 then (oubref7_Plan.l1 k1 a0 a1 l3 t106 t109 (List.replicate ((t109.length : Int) : Int).toNat z58) a0) else (none)) else (none))) = some (r1, r2) := H
     have A11 := Aside0.mk A110
     clear A110
     replace H := Option.bind_eq_some_iff.mp H
     obtain ⟨t109, A120, H⟩ := H
     replace H : (if 0 ≤ (t109.length : Int) then (if ((t109.length : Int) : Int).toNat ≤ 8796093022208 then (oubref7_Plan.l1 k1 a0 a1 l3 t106 t109 (List.replicate ((t109.length : Int) : Int).toNat z58) a0) else (none)) else (none)) = some (r1, r2) := H
     have A12 := Aside0.mk A120
     clear A120
     by_cases c13 : 0 ≤ (t109.length : Int)
     ·rw [if_pos c13] at H
      have c13b0 := eq_true c13
      have c13b1 : decide (0 ≤ (t109.length : Int)) = true := decide_eq_true c13
      clear c13
      by_cases c14 : ((t109.length : Int) : Int).toNat ≤ 8796093022208
      ·rw [if_pos c14] at H
       have c14b0 := eq_true c14
       have c14b1 : decide (((t109.length : Int) : Int).toNat ≤ 8796093022208) = true := decide_eq_true c14
       clear c14
       obtain ⟨y112, hy112⟩ : ∃ y_ : List (S58), y_ = (List.replicate ((t109.length : Int) : Int).toNat z58) := ⟨_, rfl⟩
       replace H : (oubref7_Plan.l1 k1 a0 a1 l3 t106 t109 y112 a0) = some (r1, r2) := by first | (rw [hy112]; with_reducible exact H) | (have H2_ := (Option.bind_some _ _).symm.trans H; rw [hy112]; with_reducible exact H2_) | (have H2_ := (Option.bind_some _ _).symm.trans H; with_reducible exact H2_) | with_reducible exact H | (rw [hy112]; exact H) | exact H
       have Ny112 := Aside0.mk hy112
       clear hy112
       have H' := Aside0.mk H
       clear H
       obtain ⟨Ao15, co15, eo15⟩ := Kd.R_slice HO_10.out
       subst eo15
       go_wp2_with (first | ((with_reducible refine gate_callee (f := 27) rfl ?_); refine goesL_ (some 41) rfl rfl Tryz.func27 (by kernel_rfl) rfl #[.slice Ao15 x10_1.length co15] rfl (by (try simp only [List.map_toArray, List.map_cons, List.map_nil]); first | done | rfl | (simp only [List.length_drop, List.length_take]; rfl)) ?_; (with_reducible refine (oubref_Sorted.calls _ _ x10_1 t106 _ ?side1 ?side2 A11.out).mono ?_); (case side1 => repeat (first | exact (Kd.R_reads' HO_10.out).2.2 | (with_reducible refine Kd.C_alloc ?_ _) | (with_reducible refine Kd.C_drewN ?_ _) | (with_reducible refine Kd.C_drew ?_))); (case side2 => exact (Kd.R_reads' HO_10.out).2.1); rintro e w16 ⟨v107, rfl, ho0, hb⟩; refine ⟨_, rfl, ?_⟩; have n0_ := Aside0.mk (Kd.R_elder' (by (with_reducible repeat (first | apply Kd.R_alloc | apply Kd.R_drewN | apply Kd.R_drew)); exact HO_10.out) (Kd.R_base ho0) hb); have n1_ := Aside0.mk (Kd.R_lower (Kd.R_new' ho0 (Kd.R_lt (by (with_reducible repeat (first | apply Kd.R_alloc | apply Kd.R_drewN | apply Kd.R_drew)); exact HO_10.out))) (below_size (by repeat (first | (with_reducible first | exact HB.out | apply below_alloc | apply pw_below_drewN | apply below_drew1) | exact HB.out)))); have n2_ := Aside0.mk (below_step (by repeat (first | (with_reducible first | exact HB.out | apply below_alloc | apply pw_below_drewN | apply below_drew1) | exact HB.out)) hb); clear HO_10; clear HB; have HO_10 := n0_; have HO108 := n1_; have HB := n2_; clear n0_ n1_ n2_; (try clear hb); (try clear hb2); (try clear hk); (try clear hi); (try clear ho0)) | ((with_reducible refine gate_callee (f := 28) rfl ?_); refine goesL_ (some 44) rfl rfl Tryz.func28 (by kernel_rfl) rfl #[.int .i64 a0, .slice A2 l2.length c2] rfl (by (try simp only [List.map_toArray, List.map_cons, List.map_nil]); first | done | rfl | (simp only [List.length_drop, List.length_take]; rfl)) ?_; (with_reducible refine (oubref7_Union.calls k1 a0 _ _ l2 t109 _ ?side1 ?side2 A12.out).mono ?_); (case side1 => repeat (first | exact (Kd.C_below HR2.out HB.out) | (with_reducible refine Kd.C_alloc ?_ _) | (with_reducible refine Kd.C_drewN ?_ _) | (with_reducible refine Kd.C_drew ?_))); (case side2 => exact HC2.out); rintro e w17 ⟨v110, rfl, ho0, hb⟩; refine ⟨_, rfl, ?_⟩; have n0_ := Aside0.mk (Kd.R_elder' (by (with_reducible repeat (first | apply Kd.R_alloc | apply Kd.R_drewN | apply Kd.R_drew)); exact HO_10.out) (Kd.R_base ho0) hb); have n1_ := Aside0.mk (Kd.R_elder' (by (with_reducible repeat (first | apply Kd.R_alloc | apply Kd.R_drewN | apply Kd.R_drew)); exact HO108.out) (Kd.R_base ho0) hb); have n2_ := Aside0.mk (Kd.R_lower (Kd.R_new' (Kd.R_new' ho0 (Kd.R_lt (by (with_reducible repeat (first | apply Kd.R_alloc | apply Kd.R_drewN | apply Kd.R_drew)); exact HO_10.out))) (Kd.R_lt (by (with_reducible repeat (first | apply Kd.R_alloc | apply Kd.R_drewN | apply Kd.R_drew)); exact HO108.out))) (below_size (by repeat (first | (with_reducible first | exact HB.out | apply below_alloc | apply pw_below_drewN | apply below_drew1) | exact HB.out)))); have n3_ := Aside0.mk (below_step (by repeat (first | (with_reducible first | exact HB.out | apply below_alloc | apply pw_below_drewN | apply below_drew1) | exact HB.out)) hb); clear HO_10; clear HO108; clear HB; have HO_10 := n0_; have HO108 := n1_; have HO111 := n2_; have HB := n3_; clear n0_ n1_ n2_ n3_; (try clear hb); (try clear hb2); (try clear hk); (try clear hi); (try clear ho0); obtain ⟨Ao18, co18, eo18⟩ := Kd.R_slice HO111.out; subst eo18) | ((with_reducible refine gate_dst (N := 47) rfl ?_); refine Kd.S_make k58 _ 58 rfl (N := 47) rfl 29 _ _ rfl (t109.length : Int) rfl rfl Tryz.underlying29 (.agg #[(.int .i64 0), (.slice none 0 0)]) 32 info58 rfl (by decide) (by omega) z58 (ok := fun _ => True) (okp := fun _ => True) (k58_mkM _ _ _ z58 (Kd.R_nil _ _ _ _ _)) (fun _ hk => hk) trivial (of_decide_eq_true (by first | (with_reducible assumption) | assumption)) (Nat.le_trans (Nat.mul_le_mul_right _ (of_decide_eq_true (by first | (with_reducible assumption) | assumption) : (t109.length : Int).toNat ≤ 8796093022208)) (by omega)) (Below.refl _ _) (Nat.le_refl _) ?_; intro v113 w19 ho20 hb hg_ hnew_; clear hg_ hnew_; (first | rw [← Ny112.out] at ho20 | (simp only [Int.reduceToNat] at ho20; rw [← Ny112.out] at ho20)); have n0_ := Aside0.mk (Kd.R_below (by (with_reducible repeat (first | apply Kd.R_alloc | apply Kd.R_drewN | apply Kd.R_drew)); exact HO_10.out) hb); have n1_ := Aside0.mk (Kd.R_below (by (with_reducible repeat (first | apply Kd.R_alloc | apply Kd.R_drewN | apply Kd.R_drew)); exact HO108.out) hb); have n2_ := Aside0.mk (Kd.R_below (by (with_reducible repeat (first | apply Kd.R_alloc | apply Kd.R_drewN | apply Kd.R_drew)); exact HO111.out) hb); have n3_ := Aside0.mk (Kd.S_lower (Kd.S_new' (Kd.S_new' (Kd.S_new' ho20 (Kd.R_lt (by (with_reducible repeat (first | apply Kd.R_alloc | apply Kd.R_drewN | apply Kd.R_drew)); exact HO_10.out))) (Kd.R_lt (by (with_reducible repeat (first | apply Kd.R_alloc | apply Kd.R_drewN | apply Kd.R_drew)); exact HO108.out))) (Kd.R_lt (by (with_reducible repeat (first | apply Kd.R_alloc | apply Kd.R_drewN | apply Kd.R_drew)); exact HO111.out))) (below_size (by repeat (first | (with_reducible first | exact HB.out | apply below_alloc | apply pw_below_drewN | apply below_drew1) | exact HB.out)))); have n4_ := Aside0.mk (below_step (by repeat (first | (with_reducible first | exact HB.out | apply below_alloc | apply pw_below_drewN | apply below_drew1) | exact HB.out)) hb); clear HO_10; clear HO108; clear HO111; clear HB; have HO_10 := n0_; have HO108 := n1_; have HO111 := n2_; have HO114 := n3_; have HB := n4_; clear n0_ n1_ n2_ n3_ n4_; clear hb ho20))
       go_loopg [10, 14] k1 (fun kq v10 v14 w' => ∃ (x10_2 : List Int) (x13_2 : List (S58)) (x14_2 : Int), v14 = .int .i64 x14_2 ∧ Aside0 (oubref7_Plan.l1 kq a0 a1 l3 x10_2 t109 x13_2 x14_2 = some (r1, r2)) ∧ Aside0 (kq ≤ k1) ∧ Aside0 (Kd.R (Kd.int .i64) 3 w' w.heap.size (fun k_ => some k_ ≠ ((.slice Ao18 t109.length co18) : Value).ownBlock) v10 x10_2) ∧ Aside0 (Kd.R (Kd.int .i64) 3 w' w.heap.size (fun k_ => some k_ ≠ (v10 : Value).ownBlock) (.slice Ao18 t109.length co18) t109) ∧ Aside0 (Kd.S k58 58 w' w.heap.size (fun k_ => some k_ ≠ (v10 : Value).ownBlock ∧ some k_ ≠ ((.slice Ao18 t109.length co18) : Value).ownBlock) v113 x13_2) ∧ Aside0 (Below w.heap.size w w'))
       case atStart => exact ⟨(t106), (y112), (a0), (by first | rfl | (simp; done) | (simp [*]; done)), H', ⟨Nat.le_refl _⟩, ⟨by (with_reducible repeat (first | apply Kd.R_alloc | apply Kd.R_drewN | apply Kd.R_drew)); exact Kd.R_mono HO108.out (fun _ hk => hk.2)⟩, ⟨by (with_reducible repeat (first | apply Kd.R_alloc | apply Kd.R_drewN | apply Kd.R_drew)); exact Kd.R_mono HO111.out (fun _ hk => hk.2)⟩, ⟨by (with_reducible repeat (first | apply Kd.S_alloc | apply Kd.S_drewN | apply Kd.S_drew)); exact Kd.S_mono HO114.out (fun _ hk => ⟨hk.1.2, hk.2⟩)⟩, ⟨by repeat (first | (with_reducible first | exact HB.out | apply below_alloc | apply pw_below_drewN | apply below_drew1) | exact HB.out)⟩⟩
       case round =>
        clear H'
        try clear c1
        try clear p1
        try clear q1
        try clear hx1
        try clear c2
        try clear p2
        try clear c3
        try clear c6
        try clear p6
        try clear c7
        try clear c7b0
        try clear c8
        try clear c8b0
        try clear c9
        try clear p10
        try clear q10
        try clear hx10
        try clear c13
        try clear c13b0
        try clear c13b1
        try clear c14
        try clear c14b0
        try clear c14b1
        try clear hx102_0
        try clear hx102_1
        try clear p102
        try clear p2
        try clear q102
        obtain ⟨x10_2, x13_2, x14_2, rfl, HA, HK2, HO_10, HO_12, HO_13, HB⟩ := hrel
        cases gk with
        | zero => exact absurd HA.out (by simp [oubref7_Plan.l1])
        | succ k2 =>
         have H := HA.out
         clear HA
         simp only [oubref7_Plan.l1] at H
         by_cases c21 : x14_2 ≥ 0
         ·rw [if_pos c21] at H
          have c21b0 : decide (0 ≤ x14_2) = true := decide_eq_true c21
          clear c21
          have H' := Aside0.mk H
          clear H
          go_wp2
          go_loopg [10, 15] k2 (fun kq v10 v15 w' => ∃ (x10_3 : List Int) (x13_3 : List (S58)) (x15_3 : Int), v15 = .int .i64 x15_3 ∧ Aside0 (oubref7_Plan.l2 kq a0 a1 l3 x10_3 t109 x13_3 x14_2 x15_3 = some (r1, r2)) ∧ Aside0 (kq ≤ k2) ∧ Aside0 (Kd.R (Kd.int .i64) 3 w' w.heap.size (fun k_ => some k_ ≠ ((.slice Ao18 t109.length co18) : Value).ownBlock) v10 x10_3) ∧ Aside0 (Kd.R (Kd.int .i64) 3 w' w.heap.size (fun k_ => some k_ ≠ (v10 : Value).ownBlock) (.slice Ao18 t109.length co18) t109) ∧ Aside0 (Kd.S k58 58 w' w.heap.size (fun k_ => some k_ ≠ (v10 : Value).ownBlock ∧ some k_ ≠ ((.slice Ao18 t109.length co18) : Value).ownBlock) v113 x13_3) ∧ Aside0 (Below w.heap.size w w'))
          case atStart => exact ⟨(x10_2), (x13_2), (0), (by first | rfl | (simp; done) | (simp [*]; done)), H', ⟨Nat.le_refl _⟩, ⟨by (with_reducible repeat (first | apply Kd.R_alloc | apply Kd.R_drewN | apply Kd.R_drew)); exact HO_10.out⟩, ⟨by (with_reducible repeat (first | apply Kd.R_alloc | apply Kd.R_drewN | apply Kd.R_drew)); exact HO_12.out⟩, ⟨by (with_reducible repeat (first | apply Kd.S_alloc | apply Kd.S_drewN | apply Kd.S_drew)); exact HO_13.out⟩, ⟨by repeat (first | (with_reducible first | exact HB.out | apply below_alloc | apply pw_below_drewN | apply below_drew1) | exact HB.out)⟩⟩
          case round =>
           clear H'
           try clear c1
           try clear p1
           try clear q1
           try clear hx1
           try clear c2
           try clear p2
           try clear c3
           try clear c6
           try clear p6
           try clear c7
           try clear c7b0
           try clear c8
           try clear c8b0
           try clear c9
           try clear p10
           try clear q10
           try clear hx10
           try clear c13
           try clear c13b0
           try clear c13b1
           try clear c14
           try clear c14b0
           try clear c14b1
           try clear c21
           try clear c21b0
           try clear hx102_0
           try clear hx102_1
           try clear p1
           try clear p10
           try clear p102
           try clear p2
           try clear p6
           try clear q1
           try clear q10
           try clear q102
           obtain ⟨x10_3, x13_3, x15_3, rfl, HA, HK3, HO_10, HO_12, HO_13, HB⟩ := hrel
           cases gk with
           | zero => exact absurd HA.out (by simp [oubref7_Plan.l2])
           | succ k3 =>
            have H := HA.out
            clear HA
            simp only [oubref7_Plan.l2] at H
            by_cases c22 : x15_3 < (t109.length : Int)
            ·rw [if_pos c22] at H
             have c22b0 : decide (x15_3 < (t109.length : Int)) = true := decide_eq_true c22
             clear c22
             by_cases c23 : 0 ≤ x15_3
             ·rw [if_pos c23] at H
              have c23b0 : decide (0 ≤ x15_3) = true := decide_eq_true c23
              clear c23
              replace H := Option.bind_eq_some_iff.mp H
              obtain ⟨t116, A240, H⟩ := H
              replace H : (if t116 = x14_2 then (if x15_3 < (x13_3.length : Int) then (oubref7_Plan.l3 k3 a0 a1 l3 x10_3 t109 (x13_3.set (x15_3 : Int).toNat (⟨rd t109 x15_3, (rd_T58 x13_3 x15_3).f1⟩ : S58)) x14_2 x15_3 ([] : List Int) 0) else (none)) else (oubref7_Plan.l2 k3 a0 a1 l3 x10_3 t109 x13_3 x14_2 (wrap64 (x15_3 + 1)))) = some (r1, r2) := H
              have A24 := Aside0.mk A240
              clear A240
              by_cases c25 : t116 = x14_2
              ·rw [if_pos c25] at H
               have c25b0 : (t116 == x14_2) = true := beq_iff_eq.mpr c25
               have c25b1 : (t116 != x14_2) = false := bne_eq_false_iff_eq.mpr c25
               clear c25
               by_cases c26 : x15_3 < (x13_3.length : Int)
               ·rw [if_pos c26] at H
                have c26b0 : decide (x15_3 < (x13_3.length : Int)) = true := decide_eq_true c26
                clear c26
                obtain ⟨y118, hy118⟩ : ∃ y_ : List (S58), y_ = (x13_3.set (x15_3 : Int).toNat (⟨rd t109 x15_3, (rd_T58 x13_3 x15_3).f1⟩ : S58)) := ⟨_, rfl⟩
                replace H : (oubref7_Plan.l3 k3 a0 a1 l3 x10_3 t109 y118 x14_2 x15_3 ([] : List Int) 0) = some (r1, r2) := by first | (rw [hy118]; with_reducible exact H) | (have H2_ := (Option.bind_some _ _).symm.trans H; rw [hy118]; with_reducible exact H2_) | (have H2_ := (Option.bind_some _ _).symm.trans H; with_reducible exact H2_) | with_reducible exact H | (rw [hy118]; exact H) | exact H
                have Ny118 := Aside0.mk hy118
                clear hy118
                have H' := Aside0.mk H
                clear H
                have p115 : 0 ≤ (x15_3 : Int) := of_decide_eq_true (by first | (with_reducible assumption) | assumption)
                have q115 : x15_3 < (t109.length : Int) := of_decide_eq_true (by first | (with_reducible assumption) | assumption)
                obtain ⟨ad115, e115, hx115_0⟩ := Kd.at_int (Kd.R_reads' HO_12.out).2.2 x15_3 p115 q115
                cases e115
                replace p115 := eq_true p115
                replace q115 := eq_true q115
                go_wp2_with (first | ((with_reducible refine gate_callee (f := 29) rfl ?_); refine goesL_ (some 63) rfl rfl Tryz.func29 (by kernel_rfl) rfl #[.int .i64 (rd t109 x15_3)] rfl (by (try simp only [List.map_toArray, List.map_cons, List.map_nil]); first | done | rfl | (simp only [List.length_drop, List.length_take]; rfl)) ?_; (with_reducible refine (oubref7_Level.calls k3 (rd t109 x15_3) t116 _ A24.out).mono ?_); rintro e w' ⟨rfl, ⟨nd, rfl⟩⟩; refine ⟨_, rfl, ?_⟩; (try (rw [drewN_self wr]; generalize hq_ : World.drewN wr _ = wr; have n0_ : Aside0 (Kd.R (Kd.int .i64) 3 wr w.heap.size (fun k_ => some k_ ≠ (.slice (some ad115) t109.length co18 : Value).ownBlock) u10 x10_3) := ⟨by rw [← hq_]; exact (by (with_reducible repeat (first | apply Kd.R_alloc | apply Kd.R_drewN | apply Kd.R_drew)); exact HO_10.out)⟩; have n1_ : Aside0 (Kd.R (Kd.int .i64) 3 wr w.heap.size (fun k_ => some k_ ≠ (u10 : Value).ownBlock) (.slice (some ad115) t109.length co18) t109) := ⟨by rw [← hq_]; exact (by (with_reducible repeat (first | apply Kd.R_alloc | apply Kd.R_drewN | apply Kd.R_drew)); exact HO_12.out)⟩; have n2_ : Aside0 (Kd.S k58 58 wr w.heap.size (fun k_ => some k_ ≠ (u10 : Value).ownBlock ∧ some k_ ≠ (.slice (some ad115) t109.length co18 : Value).ownBlock) v113 x13_3) := ⟨by rw [← hq_]; exact (by (with_reducible repeat (first | apply Kd.S_alloc | apply Kd.S_drewN | apply Kd.S_drew)); exact HO_13.out)⟩; have n3_ : Aside0 (Below w.heap.size w wr) := ⟨by rw [← hq_]; exact (by repeat (first | (with_reducible first | exact HB.out | apply below_alloc | apply pw_below_drewN | apply below_drew1) | exact HB.out))⟩; clear HO_10 HO_12 HO_13 HB hq_; have HO_10 := n0_; have HO_12 := n1_; have HO_13 := n2_; have HB := n3_; clear n0_ n1_ n2_ n3_)); have p117 : 0 ≤ (x15_3 : Int) := of_decide_eq_true (by first | (with_reducible assumption) | assumption); have q117 : x15_3 < (t109.length : Int) := of_decide_eq_true (by first | (with_reducible assumption) | assumption); obtain ⟨ad117, e117, hx117_0⟩ := Kd.at_int (Kd.R_reads' HO_12.out).2.2 x15_3 p117 q117; obtain rfl : ad115 = ad117 := (by injection e117); replace p117 := eq_true p117; replace q117 := eq_true q117; have p27 : 0 ≤ (x15_3 : Int) := of_decide_eq_true (by first | (with_reducible assumption) | assumption); have q27 : (x15_3 : Int) < ((x13_3.length : Int) : Int) := of_decide_eq_true (by first | (with_reducible assumption) | assumption); obtain ⟨go27, co27, eo27, gb27, gl27, cl27, HG27⟩ := Kd.S_form HO_13.out (by omega); (first | cases eo27 | (injection eo27 with ea_ en_ ec_; (first | subst ea_ | (injection ea_ with ea_; subst ea_)); subst ec_; clear en_)); have GB27 := Aside0.mk gb27; have GG27 := Aside0.mk HG27; clear gb27 gl27 HG27; obtain ⟨_, ce27, hcl27, hM27, hcc27, hfr27, _, _⟩ := Kd.S_elem HO_13.out z58 (x15_3 : Int) p27 q27; obtain ⟨ve27_1, rfl, ge27_1⟩ := k58_openM hM27; have hx27_0 : wr.cell? ⟨go27, (x15_3 : Int).toNat * 2, none⟩ = some (.int .i64 ((rd_T58 x13_3 x15_3).f0)) := hcc27 0 _ rfl; have hx27_1 : wr.cell? ⟨go27, (x15_3 : Int).toNat * 2 + 1, none⟩ = some (ve27_1) := hcc27 1 _ rfl; have hf27_0 : wr.frozen? ⟨go27, (x15_3 : Int).toNat * 2, none⟩ = false := hfr27 0; have hf27_1 : wr.frozen? ⟨go27, (x15_3 : Int).toNat * 2 + 1, none⟩ = false := hfr27 1; clear hcl27 hcc27 hfr27 hM27; replace p27 := eq_true p27; replace q27 := eq_true q27; have HX28 := Aside0.mk (show Kd.S k58 58 wr w.heap.size (fun k_ => ((fun k_ => some k_ ≠ (u10 : Value).ownBlock ∧ some k_ ≠ (.slice (some ad115) t109.length co18 : Value).ownBlock)) k_ ∧ ¬ ((fun _ => False)) k_) (.slice (some ⟨go27, 0, none⟩) x13_3.length co27) x13_3 from (by (with_reducible repeat (first | apply Kd.S_alloc | apply Kd.S_drewN | apply Kd.S_drew)); exact Kd.S_mono HO_13.out (fun k_ hk => ⟨⟨hk.1, hk.2⟩, fun e_ => e_⟩))); obtain ⟨oki28, ce28, hcl28, hM28, hcc28, hfr28, hoki28, hH28⟩ := Kd.S_elem HX28.out z58 (x15_3 : Int) (of_decide_eq_true (by first | (with_reducible assumption) | assumption)) (by have h_ : (x15_3 : Int) < ((x13_3.length : Int) : Int) := of_decide_eq_true (by first | (with_reducible assumption) | assumption); first | exact h_ | (have e_ := (Kd.S_reads' HO_13.out).1; omega) | simpa using h_); obtain ⟨ve28_1, rfl, ge28_1⟩ := k58_openM hM28; have HP28 := Kd.S_seg hH28 (of_decide_eq_true (by first | (with_reducible assumption) | assumption)) (by have h_ : (x15_3 : Int) < ((x13_3.length : Int) : Int) := of_decide_eq_true (by first | (with_reducible assumption) | assumption); first | exact h_ | (have e_ := (Kd.S_reads' HO_13.out).1; omega) | simpa using h_) (seg := [.int .i64 (rd t109 x15_3)]) (j := 0) (show 1 ≤ 2 from by decide) (x' := (⟨rd t109 x15_3, (rd_T58 x13_3 x15_3).f1⟩ : S58)) (k58_mkM _ _ _ (⟨rd t109 x15_3, (rd_T58 x13_3 x15_3).f1⟩ : S58) (Kd.R_mono ge28_1 (fun _ h_ => Or.inl h_))) (fun _ hk => hk) (fun k_ hk_ => hk_.elim); have hx28_0 := hcc28 0 _ rfl; (try simp only [show (k58).sz = 2 from rfl, Nat.mul_one, Nat.add_zero] at hx28_0); have hf28_0 := hfr28 0; (try simp only [show (k58).sz = 2 from rfl, Nat.mul_one, Nat.add_zero] at hf28_0); clear hcl28 hcc28 hfr28 hM28 hoki28 hH28) | ((with_reducible refine gate_store (t := 3) (p := 73) rfl ?_); refine store_event (t := 3) (p := 73) (v := ?vo_w29) (w1 := (wr.setCell ⟨go27, (x15_3 : Int).toNat * 2, none⟩ (.int .i64 (rd t109 x15_3)))) ?hg ?ho ?hn ?hr ?_; (case ho => rfl); (case hg => rfl); (case hn => rfl); (case hr => first | (go_simp; done) | (go_simp; rfl)); intro w29 hw; have hg : wr.grownBy w29 (some go27) := (by rw [hw]; exact HP28.2); have hp_ : Kd.S k58 58 w29 w.heap.size (fun k_ => some k_ ≠ (u10 : Value).ownBlock ∧ some k_ ≠ (.slice (some ad115) t109.length co18 : Value).ownBlock) (.slice (some ⟨go27, 0, none⟩) x13_3.length co27) y118 := (by rw [hw, Ny118.out]; exact HP28.1); clear HP28; have n0_ := Aside0.mk (Kd.R_over' (v := (.slice (some ⟨go27, 0, none⟩) x13_3.length co27)) (by (with_reducible repeat (first | apply Kd.R_alloc | apply Kd.R_drewN | apply Kd.R_drew)); exact HO_10.out) (Kd.S_typed HO_13.out) (by decide) hg); have n1_ := Aside0.mk (Kd.R_over' (v := (.slice (some ⟨go27, 0, none⟩) x13_3.length co27)) (by (with_reducible repeat (first | apply Kd.R_alloc | apply Kd.R_drewN | apply Kd.R_drew)); exact HO_12.out) (Kd.S_typed HO_13.out) (by decide) hg); have n2_ := Aside0.mk (hp_); have n3_ := Aside0.mk ((by rw [hw]; exact below_set (HB.out) GB27.out : Below w.heap.size w w29)); clear HO_10; clear HO_12; clear HO_13; clear HB; have HO_10 := n0_; have HO_12 := n1_; have HO_13 := n2_; have HB := n3_; clear n0_ n1_ n2_ n3_; clear hg hw hp_))
                go_loopg [16, 17] k3 (fun kq v16 v17 w' => ∃ (x13_4 : List (S58)) (x16_4 : List Int) (x17_4 : Int), v17 = .int .i64 x17_4 ∧ Aside0 (oubref7_Plan.l3 kq a0 a1 l3 x10_3 t109 x13_4 x14_2 x15_3 x16_4 x17_4 = some (r1, r2)) ∧ Aside0 (kq ≤ k3) ∧ Aside0 (Kd.R (Kd.int .i64) 3 w' w.heap.size (fun k_ => some k_ ≠ ((.slice (some ad115) t109.length co18) : Value).ownBlock ∧ some k_ ≠ (v16 : Value).ownBlock) u10 x10_3) ∧ Aside0 (Kd.R (Kd.int .i64) 3 w' w.heap.size (fun k_ => some k_ ≠ (u10 : Value).ownBlock ∧ some k_ ≠ (v16 : Value).ownBlock) (.slice (some ad115) t109.length co18) t109) ∧ Aside0 (Kd.S k58 58 w' w.heap.size (fun k_ => some k_ ≠ (u10 : Value).ownBlock ∧ some k_ ≠ ((.slice (some ad115) t109.length co18) : Value).ownBlock ∧ some k_ ≠ (v16 : Value).ownBlock) (.slice (some ⟨go27, 0, none⟩) x13_3.length co27) x13_4) ∧ Aside0 (Kd.R (Kd.int .i64) 3 w' w.heap.size (fun k_ => some k_ ≠ (u10 : Value).ownBlock ∧ some k_ ≠ ((.slice (some ad115) t109.length co18) : Value).ownBlock) v16 x16_4) ∧ Aside0 (Below w.heap.size w w'))
                case atStart => exact ⟨(y118), (([] : List Int)), (0), (by first | rfl | (simp; done) | (simp [*]; done)), H', ⟨Nat.le_refl _⟩, ⟨by (with_reducible repeat (first | apply Kd.R_alloc | apply Kd.R_drewN | apply Kd.R_drew)); exact Kd.R_mono HO_10.out (fun _ hk => ⟨hk, (by simp [Value.ownBlock])⟩)⟩, ⟨by (with_reducible repeat (first | apply Kd.R_alloc | apply Kd.R_drewN | apply Kd.R_drew)); exact Kd.R_mono HO_12.out (fun _ hk => ⟨hk, (by simp [Value.ownBlock])⟩)⟩, ⟨by (with_reducible repeat (first | apply Kd.S_alloc | apply Kd.S_drewN | apply Kd.S_drew)); exact Kd.S_mono HO_13.out (fun _ hk => ⟨hk.1, ⟨hk.2, (by simp [Value.ownBlock])⟩⟩)⟩, ⟨by first | exact Kd.R_nil _ _ _ _ _ | exact Kd.N_nil _ _ _ _ _ | exact Kd.V_nil _ _ _ _ _ | exact Kd.Q_nil _ _ _ _ _ | exact Kd.S_nil _ _ _ _ _⟩, ⟨by repeat (first | (with_reducible first | exact HB.out | apply below_alloc | apply pw_below_drewN | apply below_drew1) | exact HB.out)⟩⟩
                case round =>
                 clear H'
                 try clear c1
                 try clear p1
                 try clear q1
                 try clear hx1
                 try clear c2
                 try clear p2
                 try clear q2
                 try clear hx2
                 try clear c3
                 try clear c6
                 try clear p6
                 try clear c7
                 try clear c7b0
                 try clear c8
                 try clear c8b0
                 try clear c9
                 try clear p10
                 try clear q10
                 try clear hx10
                 try clear p11
                 try clear q11
                 try clear hx11
                 try clear c13
                 try clear c13b0
                 try clear c13b1
                 try clear c14
                 try clear c14b0
                 try clear c14b1
                 try clear c21
                 try clear c21b0
                 try clear c22
                 try clear c22b0
                 try clear c23
                 try clear c23b0
                 try clear c25
                 try clear c25b0
                 try clear c25b1
                 try clear c26
                 try clear c26b0
                 try clear c27
                 try clear p27
                 try clear q27
                 try clear hx27
                 try clear hf27
                 try clear c28
                 try clear hx28
                 try clear hf28
                 try clear c29
                 try clear hx102_0
                 try clear hx102_1
                 try clear hx115_0
                 try clear hx117_0
                 try clear hx27_0
                 try clear hx27_1
                 try clear hx28_0
                 try clear p1
                 try clear p10
                 try clear p102
                 try clear p115
                 try clear p117
                 try clear p2
                 try clear p27
                 try clear p6
                 try clear q1
                 try clear q10
                 try clear q102
                 try clear q115
                 try clear q117
                 try clear q27
                 obtain ⟨x13_4, x16_4, x17_4, rfl, HA, HK4, HO_10, HO_12, HO_13, HO_16, HB⟩ := hrel
                 have hl13_4 := (Kd.S_reads' HO_13.out).1
                 rw [hl13_4] at HO_13
                 (try simp only [hl13_4])
                 (try simp only [hl13_4] at HO_10)
                 (try simp only [hl13_4] at HO_12)
                 (try simp only [hl13_4] at HO_16)
                 cases gk with
                 | zero => exact absurd HA.out (by simp [oubref7_Plan.l3])
                 | succ k4 =>
                  have H := HA.out
                  clear HA
                  simp only [oubref7_Plan.l3] at H
                  by_cases c30 : x17_4 < (x10_3.length : Int)
                  ·rw [if_pos c30] at H
                   have c30b0 : decide (x17_4 < (x10_3.length : Int)) = true := decide_eq_true c30
                   clear c30
                   have H' := Aside0.mk H
                   clear H
                   obtain ⟨Ao31, co31, eo31⟩ := Kd.R_slice HO_10.out
                   subst eo31
                   go_wp2
                   go_loopg [18, 19] k4 (fun kq v18 v19 w' => ∃ (x18_5 : Int) (x19_5 : Int), v18 = .int .i64 x18_5 ∧ v19 = .int .i64 x19_5 ∧ Aside0 (oubref7_Plan.l4 kq a0 a1 l3 x10_3 t109 x13_4 x14_2 x15_3 x16_4 x17_4 x18_5 x19_5 = some (r1, r2)) ∧ Aside0 (kq ≤ k4) ∧ Aside0 (Kd.R (Kd.int .i64) 3 w' w.heap.size (fun k_ => some k_ ≠ ((.slice (some ad115) t109.length co18) : Value).ownBlock ∧ some k_ ≠ (u16 : Value).ownBlock) (.slice Ao31 x10_3.length co31) x10_3) ∧ Aside0 (Kd.R (Kd.int .i64) 3 w' w.heap.size (fun k_ => some k_ ≠ ((.slice Ao31 x10_3.length co31) : Value).ownBlock ∧ some k_ ≠ (u16 : Value).ownBlock) (.slice (some ad115) t109.length co18) t109) ∧ Aside0 (Kd.S k58 58 w' w.heap.size (fun k_ => some k_ ≠ ((.slice Ao31 x10_3.length co31) : Value).ownBlock ∧ some k_ ≠ ((.slice (some ad115) t109.length co18) : Value).ownBlock ∧ some k_ ≠ (u16 : Value).ownBlock) (.slice (some ⟨go27, 0, none⟩) x13_4.length co27) x13_4) ∧ Aside0 (Kd.R (Kd.int .i64) 3 w' w.heap.size (fun k_ => some k_ ≠ ((.slice Ao31 x10_3.length co31) : Value).ownBlock ∧ some k_ ≠ ((.slice (some ad115) t109.length co18) : Value).ownBlock) u16 x16_4) ∧ Aside0 (Below w.heap.size w w'))
                   case atStart => exact ⟨(0), (0), (by first | rfl | (simp; done) | (simp [*]; done)), (by first | rfl | (simp; done) | (simp [*]; done)), H', ⟨Nat.le_refl _⟩, ⟨by (try simp only [hl13_4]); (with_reducible repeat (first | apply Kd.R_alloc | apply Kd.R_drewN | apply Kd.R_drew)); exact HO_10.out⟩, ⟨by (try simp only [hl13_4]); (with_reducible repeat (first | apply Kd.R_alloc | apply Kd.R_drewN | apply Kd.R_drew)); exact HO_12.out⟩, ⟨by (try simp only [hl13_4]); (with_reducible repeat (first | apply Kd.S_alloc | apply Kd.S_drewN | apply Kd.S_drew)); exact HO_13.out⟩, ⟨by (try simp only [hl13_4]); (with_reducible repeat (first | apply Kd.R_alloc | apply Kd.R_drewN | apply Kd.R_drew)); exact HO_16.out⟩, ⟨by repeat (first | (with_reducible first | exact HB.out | apply below_alloc | apply pw_below_drewN | apply below_drew1) | exact HB.out)⟩⟩
                   case round =>
                    clear H'
                    try clear c1
                    try clear p1
                    try clear q1
                    try clear hx1
                    try clear c2
                    try clear p2
                    try clear q2
                    try clear hx2
                    try clear c3
                    try clear c6
                    try clear p6
                    try clear c7
                    try clear c7b0
                    try clear c8
                    try clear c8b0
                    try clear c9
                    try clear p10
                    try clear q10
                    try clear hx10
                    try clear p11
                    try clear q11
                    try clear hx11
                    try clear c13
                    try clear c13b0
                    try clear c13b1
                    try clear c14
                    try clear c14b0
                    try clear c14b1
                    try clear c21
                    try clear c21b0
                    try clear c22
                    try clear c22b0
                    try clear c23
                    try clear c23b0
                    try clear c25
                    try clear c25b0
                    try clear c25b1
                    try clear c26
                    try clear c26b0
                    try clear c27
                    try clear p27
                    try clear q27
                    try clear hx27
                    try clear hf27
                    try clear c28
                    try clear hx28
                    try clear hf28
                    try clear c29
                    try clear c30
                    try clear c30b0
                    try clear hx102_0
                    try clear hx102_1
                    try clear hx115_0
                    try clear hx117_0
                    try clear hx27_0
                    try clear hx27_1
                    try clear hx28_0
                    try clear p1
                    try clear p10
                    try clear p102
                    try clear p11
                    try clear p115
                    try clear p117
                    try clear p2
                    try clear p27
                    try clear p6
                    try clear q1
                    try clear q10
                    try clear q102
                    try clear q11
                    try clear q115
                    try clear q117
                    try clear q2
                    try clear q27
                    obtain ⟨x18_5, x19_5, rfl, rfl, HA, HK5, HO_10, HO_12, HO_13, HO_16, HB⟩ := hrel
                    cases gk with
                    | zero => exact absurd HA.out (by simp [oubref7_Plan.l4])
                    | succ k5 =>
                     have H := HA.out
                     clear HA
                     simp only [oubref7_Plan.l4] at H
                     by_cases c32 : x19_5 < (l3.length : Int)
                     ·rw [if_pos c32] at H
                      have c32b0 : decide (x19_5 < (l3.length : Int)) = true := decide_eq_true c32
                      clear c32
                      by_cases c33 : 0 ≤ x19_5
                      ·rw [if_pos c33] at H
                       have c33b0 : decide (0 ≤ x19_5) = true := decide_eq_true c33
                       clear c33
                       by_cases c34 : 0 ≤ x17_4
                       ·rw [if_pos c34] at H
                        have c34b0 : decide (0 ≤ x17_4) = true := decide_eq_true c34
                        clear c34
                        by_cases c35 : x17_4 < (x10_3.length : Int)
                        ·rw [if_pos c35] at H
                         have c35b0 : decide (x17_4 < (x10_3.length : Int)) = true := decide_eq_true c35
                         clear c35
                         by_cases c36 : ((rd_T56 l3 x19_5).f0) = (rd x10_3 x17_4)
                         ·rw [if_pos c36] at H
                          have c36b0 : (((rd_T56 l3 x19_5).f0) == (rd x10_3 x17_4)) = true := beq_iff_eq.mpr c36
                          have c36b1 : (((rd_T56 l3 x19_5).f0) != (rd x10_3 x17_4)) = false := bne_eq_false_iff_eq.mpr c36
                          clear c36
                          have H' := Aside0.mk H
                          clear H
                          try go_wp2
                          have n0_ := Aside0.mk (Kd.R_drew HO_10.out)
                          have n1_ := Aside0.mk (Kd.R_drew HO_12.out)
                          have n2_ := Aside0.mk (Kd.S_drew HO_13.out)
                          have n3_ := Aside0.mk (Kd.R_drew HO_16.out)
                          have n4_ := Aside0.mk (below_drew1 HB.out)
                          clear HO_10
                          clear HO_12
                          clear HO_13
                          clear HO_16
                          clear HB
                          have HO_10 := n0_
                          have HO_12 := n1_
                          have HO_13 := n2_
                          have HO_16 := n3_
                          have HB := n4_
                          clear n0_ n1_ n2_ n3_ n4_
                          have p119 : 0 ≤ (x19_5 : Int) := of_decide_eq_true (by first | (with_reducible assumption) | assumption)
                          have q119 : x19_5 < (l3.length : Int) := of_decide_eq_true (by first | (with_reducible assumption) | assumption)
                          obtain ⟨ad119, e119, hx119_0, hx119_1⟩ := at_T56 HR3.out x19_5 p119 q119
                          have hw119_1 := hx119_1
                          have hw119_0 := hx119_0
                          cases e119
                          replace hx119_0 := (HB.out.cell (World.block_lt_of_cell? w _ hx119_0)).trans hx119_0
                          replace hx119_1 := (HB.out.cell (World.block_lt_of_cell? w _ hx119_1)).trans hx119_1
                          replace p119 := eq_true p119
                          replace q119 := eq_true q119
                          have p120 : 0 ≤ (x17_4 : Int) := of_decide_eq_true (by first | (with_reducible assumption) | assumption)
                          have q120 : x17_4 < (x10_3.length : Int) := of_decide_eq_true (by first | (with_reducible assumption) | assumption)
                          obtain ⟨ad120, e120, hx120_0⟩ := Kd.at_int (Kd.R_reads' HO_10.out).2.2 x17_4 p120 q120
                          cases e120
                          replace p120 := eq_true p120
                          replace q120 := eq_true q120
                          refine start_ (n := 10) (S := fun w' => w'.cell? (ad119.add ((x19_5).toNat * 2)) = some (.int .i64 ((rd_T56 l3 x19_5).f0)) ∧ w'.cell? ⟨(ad119.add ((x19_5).toNat * 2)).block, (ad119.add ((x19_5).toNat * 2)).off + 1, none⟩ = some (.int .i64 ((rd_T56 l3 x19_5).f1)) ∧ w'.cell? (ad120.add (x17_4).toNat) = some (.int .i64 (rd x10_3 x17_4))) (ds := []) #[false, false, false, false, false, false, false, false, false, false] (by kernel_rfl) rfl rfl ⟨((HB.out.cell (World.block_lt_of_cell? w _ hw119_0)).trans hw119_0), ((HB.out.cell (World.block_lt_of_cell? w _ hw119_1)).trans hw119_1), hx120_0⟩ (fun hHeld => ?_); refine with_tabW oubref7_Plan.tab27 oubref7_Plan.bits27 (fun HT_ HW_ => ?_)
                          generalize wr.drew = w37 at HO_10 HO_12 HO_13 HO_16 HB hx119_0 hx119_1 hx120_0 hHeld ⊢
                          refine pure_ (i := 0) (N := some 86) (v := ?_) (a' := ?_) (bs 1 9) rfl rfl (any_of HT_.out (by kernel_rfl)) (fun _ _ _ h => h) (Or.inl ⟨by rfl, ?_⟩) ?_ ?_
                          rotate_left
                          ·intro w'
                           go_simp
                           with_reducible rfl
                          rotate_left
                          ·simp only [Act.put, List.setIfInBounds_toArray, List.set_cons_zero, List.set_cons_succ, i64_w, i32_w]
                           rfl
                          refine pure_ (i := 1) (N := some 87) (v := ?_) (a' := ?_) (bs 2 8) rfl rfl (any_of HT_.out (by kernel_rfl)) (fun _ _ _ h => h) (Or.inl ⟨by rfl, ?_⟩) ?_ ?_
                          rotate_left
                          ·intro w'
                           go_simp
                           with_reducible rfl
                          rotate_left
                          ·simp only [Act.put, List.setIfInBounds_toArray, List.set_cons_zero, List.set_cons_succ, i64_w, i32_w]
                           rfl
                          refine pure_ (i := 2) (N := some 88) (v := ?_) (a' := ?_) (bs 3 7) rfl rfl (any_of HT_.out (by kernel_rfl)) (fun _ _ _ h => h) (Or.inl ⟨by rfl, ?_⟩) ?_ ?_
                          rotate_left
                          ·intro w'
                           go_simp
                           with_reducible rfl
                          rotate_left
                          ·simp only [Act.put, List.setIfInBounds_toArray, List.set_cons_zero, List.set_cons_succ, i64_w, i32_w]
                           rfl
                          refine pure_ (i := 3) (N := some 89) (v := ?_) (a' := ?_) (bs 4 6) rfl rfl (any_of HT_.out (by kernel_rfl)) (fun _ _ _ h => h) (Or.inl ⟨by rfl, ?_⟩) ?_ ?_
                          rotate_left
                          ·intro w'
                           go_simp
                           with_reducible rfl
                          rotate_left
                          ·simp only [Act.put, List.setIfInBounds_toArray, List.set_cons_zero, List.set_cons_succ, i64_w, i32_w]
                           rfl
                          refine pure_ (i := 5) (N := some 91) (v := ?_) (a' := ?_) #[true, true, true, true, false, true, false, false, false, false] rfl rfl (any_of HT_.out (by kernel_rfl)) (fun _ _ _ h => h) (Or.inl ⟨by rfl, ?_⟩) ?_ ?_
                          rotate_left
                          ·intro w'
                           go_simp
                           with_reducible rfl
                          rotate_left
                          ·simp only [Act.put, List.setIfInBounds_toArray, List.set_cons_zero, List.set_cons_succ, i64_w, i32_w]
                           rfl
                          refine pure_ (i := 6) (N := some 92) (v := ?_) (a' := ?_) #[true, true, true, true, false, true, true, false, false, false] rfl rfl (any_of HT_.out (by kernel_rfl)) (fun _ _ _ h => h) (Or.inl ⟨by rfl, ?_⟩) ?_ ?_
                          rotate_left
                          ·intro w'
                           go_simp
                           with_reducible rfl
                          rotate_left
                          ·simp only [Act.put, List.setIfInBounds_toArray, List.set_cons_zero, List.set_cons_succ, i64_w, i32_w]
                           rfl
                          refine pure_ (i := 7) (N := some 93) (v := ?_) (a' := ?_) #[true, true, true, true, false, true, true, true, false, false] rfl rfl (any_of HT_.out (by kernel_rfl)) (fun _ _ _ h => h) (Or.inl ⟨by rfl, ?_⟩) ?_ ?_
                          rotate_left
                          ·intro w'
                           go_simp
                           with_reducible rfl
                          rotate_left
                          ·simp only [Act.put, List.setIfInBounds_toArray, List.set_cons_zero, List.set_cons_succ, i64_w, i32_w]
                           rfl
                          refine take_ (i := 4) (N := some 90) (v := ?_) (a' := ?_) (bs 8 2) rfl rfl (take_ofW HT_.out HW_.out (by kernel_rfl)) (fun _ _ _ h => h) (Or.inl ⟨by rfl, ?_⟩) hHeld ?_ ?_
                          rotate_left
                          ·rintro w' ⟨s0, s1, s2⟩
                           go_simp
                           with_reducible rfl
                          rotate_left
                          ·simp only [Act.put, List.setIfInBounds_toArray, List.set_cons_zero, List.set_cons_succ, i64_w, i32_w]
                           rfl
                          refine take_ (i := 8) (N := some 94) (v := ?_) (a' := ?_) (bs 9 1) rfl rfl (take_ofW HT_.out HW_.out (by kernel_rfl)) (fun _ _ _ h => h) (Or.inl ⟨by rfl, ?_⟩) hHeld ?_ ?_
                          rotate_left
                          ·rintro w' ⟨s0, s1, s2⟩
                           go_simp
                           with_reducible rfl
                          rotate_left
                          ·simp only [Act.put, List.setIfInBounds_toArray, List.set_cons_zero, List.set_cons_succ, i64_w, i32_w]
                           rfl
                          refine pure_ (i := 9) (N := some 95) (v := ?_) (a' := ?_) (bs 10 0) rfl rfl (any_of HT_.out (by kernel_rfl)) (fun _ _ _ h => h) (Or.inl ⟨by rfl, ?_⟩) ?_ ?_
                          rotate_left
                          ·intro w'
                           go_simp
                           with_reducible rfl
                          rotate_left
                          ·simp only [Act.put, List.setIfInBounds_toArray, List.set_cons_zero, List.set_cons_succ, i64_w, i32_w]
                           rfl
                          refine done_ (done_of HT_.out (by kernel_rfl)) ?_
                          have p121 : 0 ≤ (x19_5 : Int) := of_decide_eq_true (by first | (with_reducible assumption) | assumption)
                          have q121 : x19_5 < (l3.length : Int) := of_decide_eq_true (by first | (with_reducible assumption) | assumption)
                          obtain ⟨ad121, e121, hx121_0, hx121_1⟩ := at_T56 HR3.out x19_5 p121 q121
                          obtain rfl : ad119 = ad121 := (by injection e121)
                          replace hx121_0 := (HB.out.cell (World.block_lt_of_cell? w _ hx121_0)).trans hx121_0
                          replace hx121_1 := (HB.out.cell (World.block_lt_of_cell? w _ hx121_1)).trans hx121_1
                          replace p121 := eq_true p121
                          replace q121 := eq_true q121
                          try go_wp2
                          go_roundg k5
                          case measure => have := HK1.out; have := HK2.out; have := HK3.out; have := HK4.out; have := HK5.out; omega
                          case rel => exact ⟨((rd_T56 l3 x19_5).f1), (wrap64 (x19_5 + 1)), (by first | rfl | (simp; done) | (simp [*]; done)), (by first | rfl | (simp; done) | (simp [*]; done)), H', ⟨by have := HK1.out; have := HK2.out; have := HK3.out; have := HK4.out; have := HK5.out; omega⟩, ⟨by (try simp only [hl13_4]); (with_reducible repeat (first | apply Kd.R_alloc | apply Kd.R_drewN | apply Kd.R_drew)); exact HO_10.out⟩, ⟨by (try simp only [hl13_4]); (with_reducible repeat (first | apply Kd.R_alloc | apply Kd.R_drewN | apply Kd.R_drew)); exact HO_12.out⟩, ⟨by (try simp only [hl13_4]); (with_reducible repeat (first | apply Kd.S_alloc | apply Kd.S_drewN | apply Kd.S_drew)); exact HO_13.out⟩, ⟨by (try simp only [hl13_4]); (with_reducible repeat (first | apply Kd.R_alloc | apply Kd.R_drewN | apply Kd.R_drew)); exact HO_16.out⟩, ⟨by repeat (first | (with_reducible first | exact HB.out | apply below_alloc | apply pw_below_drewN | apply below_drew1) | exact HB.out)⟩⟩
                         ·rw [if_neg c36] at H
                          have c36b0 : (((rd_T56 l3 x19_5).f0) == (rd x10_3 x17_4)) = false := beq_eq_false_iff_ne.mpr c36
                          have c36b1 : (((rd_T56 l3 x19_5).f0) != (rd x10_3 x17_4)) = true := bne_iff_ne.mpr c36
                          have H' := Aside0.mk H
                          clear H
                          try go_wp2
                          have n0_ := Aside0.mk (Kd.R_drew HO_10.out)
                          have n1_ := Aside0.mk (Kd.R_drew HO_12.out)
                          have n2_ := Aside0.mk (Kd.S_drew HO_13.out)
                          have n3_ := Aside0.mk (Kd.R_drew HO_16.out)
                          have n4_ := Aside0.mk (below_drew1 HB.out)
                          clear HO_10
                          clear HO_12
                          clear HO_13
                          clear HO_16
                          clear HB
                          have HO_10 := n0_
                          have HO_12 := n1_
                          have HO_13 := n2_
                          have HO_16 := n3_
                          have HB := n4_
                          clear n0_ n1_ n2_ n3_ n4_
                          have p119 : 0 ≤ (x19_5 : Int) := of_decide_eq_true (by first | (with_reducible assumption) | assumption)
                          have q119 : x19_5 < (l3.length : Int) := of_decide_eq_true (by first | (with_reducible assumption) | assumption)
                          obtain ⟨ad119, e119, hx119_0, hx119_1⟩ := at_T56 HR3.out x19_5 p119 q119
                          have hw119_1 := hx119_1
                          have hw119_0 := hx119_0
                          cases e119
                          replace hx119_0 := (HB.out.cell (World.block_lt_of_cell? w _ hx119_0)).trans hx119_0
                          replace hx119_1 := (HB.out.cell (World.block_lt_of_cell? w _ hx119_1)).trans hx119_1
                          replace p119 := eq_true p119
                          replace q119 := eq_true q119
                          have p120 : 0 ≤ (x17_4 : Int) := of_decide_eq_true (by first | (with_reducible assumption) | assumption)
                          have q120 : x17_4 < (x10_3.length : Int) := of_decide_eq_true (by first | (with_reducible assumption) | assumption)
                          obtain ⟨ad120, e120, hx120_0⟩ := Kd.at_int (Kd.R_reads' HO_10.out).2.2 x17_4 p120 q120
                          cases e120
                          replace p120 := eq_true p120
                          replace q120 := eq_true q120
                          refine start_ (n := 10) (S := fun w' => w'.cell? (ad119.add ((x19_5).toNat * 2)) = some (.int .i64 ((rd_T56 l3 x19_5).f0)) ∧ w'.cell? ⟨(ad119.add ((x19_5).toNat * 2)).block, (ad119.add ((x19_5).toNat * 2)).off + 1, none⟩ = some (.int .i64 ((rd_T56 l3 x19_5).f1)) ∧ w'.cell? (ad120.add (x17_4).toNat) = some (.int .i64 (rd x10_3 x17_4))) (ds := []) #[false, false, false, false, false, false, false, false, false, false] (by kernel_rfl) rfl rfl ⟨((HB.out.cell (World.block_lt_of_cell? w _ hw119_0)).trans hw119_0), ((HB.out.cell (World.block_lt_of_cell? w _ hw119_1)).trans hw119_1), hx120_0⟩ (fun hHeld => ?_); refine with_tabW oubref7_Plan.tab27 oubref7_Plan.bits27 (fun HT_ HW_ => ?_)
                          generalize wr.drew = w38 at HO_10 HO_12 HO_13 HO_16 HB hx119_0 hx119_1 hx120_0 hHeld ⊢
                          refine pure_ (i := 0) (N := some 86) (v := ?_) (a' := ?_) (bs 1 9) rfl rfl (any_of HT_.out (by kernel_rfl)) (fun _ _ _ h => h) (Or.inl ⟨by rfl, ?_⟩) ?_ ?_
                          rotate_left
                          ·intro w'
                           go_simp
                           with_reducible rfl
                          rotate_left
                          ·simp only [Act.put, List.setIfInBounds_toArray, List.set_cons_zero, List.set_cons_succ, i64_w, i32_w]
                           rfl
                          refine pure_ (i := 1) (N := some 87) (v := ?_) (a' := ?_) (bs 2 8) rfl rfl (any_of HT_.out (by kernel_rfl)) (fun _ _ _ h => h) (Or.inl ⟨by rfl, ?_⟩) ?_ ?_
                          rotate_left
                          ·intro w'
                           go_simp
                           with_reducible rfl
                          rotate_left
                          ·simp only [Act.put, List.setIfInBounds_toArray, List.set_cons_zero, List.set_cons_succ, i64_w, i32_w]
                           rfl
                          refine pure_ (i := 2) (N := some 88) (v := ?_) (a' := ?_) (bs 3 7) rfl rfl (any_of HT_.out (by kernel_rfl)) (fun _ _ _ h => h) (Or.inl ⟨by rfl, ?_⟩) ?_ ?_
                          rotate_left
                          ·intro w'
                           go_simp
                           with_reducible rfl
                          rotate_left
                          ·simp only [Act.put, List.setIfInBounds_toArray, List.set_cons_zero, List.set_cons_succ, i64_w, i32_w]
                           rfl
                          refine pure_ (i := 3) (N := some 89) (v := ?_) (a' := ?_) (bs 4 6) rfl rfl (any_of HT_.out (by kernel_rfl)) (fun _ _ _ h => h) (Or.inl ⟨by rfl, ?_⟩) ?_ ?_
                          rotate_left
                          ·intro w'
                           go_simp
                           with_reducible rfl
                          rotate_left
                          ·simp only [Act.put, List.setIfInBounds_toArray, List.set_cons_zero, List.set_cons_succ, i64_w, i32_w]
                           rfl
                          refine pure_ (i := 5) (N := some 91) (v := ?_) (a' := ?_) #[true, true, true, true, false, true, false, false, false, false] rfl rfl (any_of HT_.out (by kernel_rfl)) (fun _ _ _ h => h) (Or.inl ⟨by rfl, ?_⟩) ?_ ?_
                          rotate_left
                          ·intro w'
                           go_simp
                           with_reducible rfl
                          rotate_left
                          ·simp only [Act.put, List.setIfInBounds_toArray, List.set_cons_zero, List.set_cons_succ, i64_w, i32_w]
                           rfl
                          refine pure_ (i := 6) (N := some 92) (v := ?_) (a' := ?_) #[true, true, true, true, false, true, true, false, false, false] rfl rfl (any_of HT_.out (by kernel_rfl)) (fun _ _ _ h => h) (Or.inl ⟨by rfl, ?_⟩) ?_ ?_
                          rotate_left
                          ·intro w'
                           go_simp
                           with_reducible rfl
                          rotate_left
                          ·simp only [Act.put, List.setIfInBounds_toArray, List.set_cons_zero, List.set_cons_succ, i64_w, i32_w]
                           rfl
                          refine pure_ (i := 7) (N := some 93) (v := ?_) (a' := ?_) #[true, true, true, true, false, true, true, true, false, false] rfl rfl (any_of HT_.out (by kernel_rfl)) (fun _ _ _ h => h) (Or.inl ⟨by rfl, ?_⟩) ?_ ?_
                          rotate_left
                          ·intro w'
                           go_simp
                           with_reducible rfl
                          rotate_left
                          ·simp only [Act.put, List.setIfInBounds_toArray, List.set_cons_zero, List.set_cons_succ, i64_w, i32_w]
                           rfl
                          refine take_ (i := 4) (N := some 90) (v := ?_) (a' := ?_) (bs 8 2) rfl rfl (take_ofW HT_.out HW_.out (by kernel_rfl)) (fun _ _ _ h => h) (Or.inl ⟨by rfl, ?_⟩) hHeld ?_ ?_
                          rotate_left
                          ·rintro w' ⟨s0, s1, s2⟩
                           go_simp
                           with_reducible rfl
                          rotate_left
                          ·simp only [Act.put, List.setIfInBounds_toArray, List.set_cons_zero, List.set_cons_succ, i64_w, i32_w]
                           rfl
                          refine take_ (i := 8) (N := some 94) (v := ?_) (a' := ?_) (bs 9 1) rfl rfl (take_ofW HT_.out HW_.out (by kernel_rfl)) (fun _ _ _ h => h) (Or.inl ⟨by rfl, ?_⟩) hHeld ?_ ?_
                          rotate_left
                          ·rintro w' ⟨s0, s1, s2⟩
                           go_simp
                           with_reducible rfl
                          rotate_left
                          ·simp only [Act.put, List.setIfInBounds_toArray, List.set_cons_zero, List.set_cons_succ, i64_w, i32_w]
                           rfl
                          refine pure_ (i := 9) (N := some 95) (v := ?_) (a' := ?_) (bs 10 0) rfl rfl (any_of HT_.out (by kernel_rfl)) (fun _ _ _ h => h) (Or.inl ⟨by rfl, ?_⟩) ?_ ?_
                          rotate_left
                          ·intro w'
                           go_simp
                           with_reducible rfl
                          rotate_left
                          ·simp only [Act.put, List.setIfInBounds_toArray, List.set_cons_zero, List.set_cons_succ, i64_w, i32_w]
                           rfl
                          refine done_ (done_of HT_.out (by kernel_rfl)) ?_
                          try go_wp2
                          go_roundg k5
                          case measure => have := HK1.out; have := HK2.out; have := HK3.out; have := HK4.out; have := HK5.out; omega
                          case rel => exact ⟨(x18_5), (wrap64 (x19_5 + 1)), (by first | rfl | (simp; done) | (simp [*]; done)), (by first | rfl | (simp; done) | (simp [*]; done)), H', ⟨by have := HK1.out; have := HK2.out; have := HK3.out; have := HK4.out; have := HK5.out; omega⟩, ⟨by (try simp only [hl13_4]); (with_reducible repeat (first | apply Kd.R_alloc | apply Kd.R_drewN | apply Kd.R_drew)); exact HO_10.out⟩, ⟨by (try simp only [hl13_4]); (with_reducible repeat (first | apply Kd.R_alloc | apply Kd.R_drewN | apply Kd.R_drew)); exact HO_12.out⟩, ⟨by (try simp only [hl13_4]); (with_reducible repeat (first | apply Kd.S_alloc | apply Kd.S_drewN | apply Kd.S_drew)); exact HO_13.out⟩, ⟨by (try simp only [hl13_4]); (with_reducible repeat (first | apply Kd.R_alloc | apply Kd.R_drewN | apply Kd.R_drew)); exact HO_16.out⟩, ⟨by repeat (first | (with_reducible first | exact HB.out | apply below_alloc | apply pw_below_drewN | apply below_drew1) | exact HB.out)⟩⟩
                        ·rw [if_neg c35] at H
                         exact absurd H (by simp)
                       ·rw [if_neg c34] at H
                        exact absurd H (by simp)
                      ·rw [if_neg c33] at H
                       exact absurd H (by simp)
                     ·rw [if_neg c32] at H
                      have c32b0 : decide (x19_5 < (l3.length : Int)) = false := decide_eq_false c32
                      clear c32
                      by_cases c39 : 0 ≤ x15_3
                      ·rw [if_pos c39] at H
                       have c39b0 : decide (0 ≤ x15_3) = true := decide_eq_true c39
                       clear c39
                       by_cases c40 : x15_3 < (x13_4.length : Int)
                       ·rw [if_pos c40] at H
                        have c40b0 : decide (x15_3 < (x13_4.length : Int)) = true := decide_eq_true c40
                        clear c40
                        by_cases c41 : (((rd_T58 x13_4 x15_3).f1).length : Int) < a1
                        ·rw [if_pos c41] at H
                         have c41b0 : decide ((((rd_T58 x13_4 x15_3).f1).length : Int) < a1) = true := decide_eq_true c41
                         clear c41
                         by_cases c42 : x15_3 < (t109.length : Int)
                         ·rw [if_pos c42] at H
                          have c42b0 : decide (x15_3 < (t109.length : Int)) = true := decide_eq_true c42
                          clear c42
                          replace H := Option.bind_eq_some_iff.mp H
                          obtain ⟨t124, A430, H⟩ := H
                          replace H : (if t124 = true then (if 0 ≤ x17_4 then (if x17_4 < (x10_3.length : Int) then (if ((rd_T58 x13_4 x15_3).f1).length < 17592186044416 then (oubref7_Plan.l3 k5 a0 a1 l3 x10_3 t109 (x13_4.set (x15_3 : Int).toNat (⟨(rd_T58 x13_4 x15_3).f0, (((rd_T58 x13_4 x15_3).f1) ++ [rd x10_3 x17_4])⟩ : S58)) x14_2 x15_3 x16_4 (wrap64 (x17_4 + 1))) else (none)) else (none)) else (none)) else (if 0 ≤ x17_4 then (if x17_4 < (x10_3.length : Int) then (if x16_4.length < 17592186044416 then (oubref7_Plan.l3 k5 a0 a1 l3 x10_3 t109 x13_4 x14_2 x15_3 (x16_4 ++ [rd x10_3 x17_4]) (wrap64 (x17_4 + 1))) else (none)) else (none)) else (none))) = some (r1, r2) := H
                          have A43 := Aside0.mk A430
                          clear A430
                          by_cases c44 : t124 = true
                          ·subst c44
                           have H1 : (if 0 ≤ x17_4 then (if x17_4 < (x10_3.length : Int) then (if ((rd_T58 x13_4 x15_3).f1).length < 17592186044416 then (oubref7_Plan.l3 k5 a0 a1 l3 x10_3 t109 (x13_4.set (x15_3 : Int).toNat (⟨(rd_T58 x13_4 x15_3).f0, (((rd_T58 x13_4 x15_3).f1) ++ [rd x10_3 x17_4])⟩ : S58)) x14_2 x15_3 x16_4 (wrap64 (x17_4 + 1))) else (none)) else (none)) else (none)) = some (r1, r2) := by rw [if_pos rfl] at H; exact H
                           clear H
                           have H := H1
                           clear H1
                           by_cases c45 : 0 ≤ x17_4
                           ·rw [if_pos c45] at H
                            have c45b0 : decide (0 ≤ x17_4) = true := decide_eq_true c45
                            clear c45
                            by_cases c46 : x17_4 < (x10_3.length : Int)
                            ·rw [if_pos c46] at H
                             have c46b0 : decide (x17_4 < (x10_3.length : Int)) = true := decide_eq_true c46
                             clear c46
                             by_cases c47 : ((rd_T58 x13_4 x15_3).f1).length < 17592186044416
                             ·rw [if_pos c47] at H
                              have LMc47 := Aside0.mk c47
                              clear c47
                              obtain ⟨y127, hy127⟩ : ∃ y_ : List Int, y_ = (((rd_T58 x13_4 x15_3).f1) ++ [rd x10_3 x17_4]) := ⟨_, rfl⟩
                              replace H : (oubref7_Plan.l3 k5 a0 a1 l3 x10_3 t109 (x13_4.set (x15_3 : Int).toNat (⟨(rd_T58 x13_4 x15_3).f0, y127⟩ : S58)) x14_2 x15_3 x16_4 (wrap64 (x17_4 + 1))) = some (r1, r2) := by first | (rw [hy127]; with_reducible exact H) | (have H2_ := (Option.bind_some _ _).symm.trans H; rw [hy127]; with_reducible exact H2_) | (have H2_ := (Option.bind_some _ _).symm.trans H; with_reducible exact H2_) | with_reducible exact H | (rw [hy127]; exact H) | exact H
                              have Ny127 := Aside0.mk hy127
                              clear hy127
                              obtain ⟨y130, hy130⟩ : ∃ y_ : List (S58), y_ = (x13_4.set (x15_3 : Int).toNat (⟨(rd_T58 x13_4 x15_3).f0, y127⟩ : S58)) := ⟨_, rfl⟩
                              replace H : (oubref7_Plan.l3 k5 a0 a1 l3 x10_3 t109 y130 x14_2 x15_3 x16_4 (wrap64 (x17_4 + 1))) = some (r1, r2) := by first | (rw [hy130]; with_reducible exact H) | (have H2_ := (Option.bind_some _ _).symm.trans H; rw [hy130]; with_reducible exact H2_) | (have H2_ := (Option.bind_some _ _).symm.trans H; with_reducible exact H2_) | with_reducible exact H | (rw [hy130]; exact H) | exact H
                              have Ny130 := Aside0.mk hy130
                              clear hy130
                              have H' := Aside0.mk H
                              clear H
                              have p122 : 0 ≤ (x15_3 : Int) := of_decide_eq_true (by first | (with_reducible assumption) | assumption)
                              have q122 : x15_3 < (x13_4.length : Int) := of_decide_eq_true (by first | (with_reducible assumption) | assumption)
                              obtain ⟨ad122, A122_1, c122_1, e122, hx122_0, hx122_1, hl122_1, hi122_1⟩ := at_T58 (Kd.S_reads' HO_13.out).2.2 x15_3 p122 q122
                              obtain rfl : (⟨go27, 0, none⟩ : Addr) = ad122 := (by injection e122)
                              obtain ⟨ce122, hce122, hMe122, hcc122⟩ := Kd.S_get HO_13.out z58 x15_3 p122 (by first | exact q122 | exact of_decide_eq_true (by first | (with_reducible assumption) | assumption) | (have e_ := (Kd.S_reads' HO_13.out).1; omega))
                              obtain ⟨ve122_1, rfl, ge122_1⟩ := k58_openM hMe122
                              have hv122_1 := hcc122 1 _ rfl
                              rw [add_field _ _ 1 (by omega)] at hv122_1
                              replace hv122_1 := Option.some.inj (hv122_1.symm.trans hx122_1)
                              rw [hv122_1] at ge122_1
                              have HL122_1 := Aside0.mk (show Kd.R (Kd.int .i64) 3 _ _ _ _ ((rd_T58 x13_4 x15_3).f1) from ge122_1)
                              clear hv122_1 ge122_1
                              have HX122_1 := Aside0.mk hx122_1
                              clear hcc122 hce122
                              (first | simp only [add_plain] at hx122_0 | simp only [add_at] at hx122_0 | simp only [Addr.add, Nat.zero_add] at hx122_0 | skip)
                              (first | simp only [add_plain] at hx122_1 | simp only [add_at] at hx122_1 | simp only [Addr.add, Nat.zero_add] at hx122_1 | skip)
                              have HR122_1 := Aside0.mk hi122_1
                              have HC122_1 := Aside0.mk hl122_1
                              clear hi122_1 hl122_1
                              replace p122 := eq_true p122
                              replace q122 := eq_true q122
                              have p123 : 0 ≤ (x15_3 : Int) := of_decide_eq_true (by first | (with_reducible assumption) | assumption)
                              have q123 : x15_3 < (t109.length : Int) := of_decide_eq_true (by first | (with_reducible assumption) | assumption)
                              obtain ⟨ad123, e123, hx123_0⟩ := Kd.at_int (Kd.R_reads' HO_12.out).2.2 x15_3 p123 q123
                              obtain rfl : ad115 = ad123 := (by injection e123)
                              replace p123 := eq_true p123
                              replace q123 := eq_true q123
                              try go_wp2_with (first | (go_at_call 30; (with_reducible refine (oubref7_On.calls k5 a0 (rd t109 x15_3) x18_5 true _ A43.out).mono ?_); rintro e w49 ⟨rfl, hb⟩; have n0_ := Aside0.mk (Kd.R_below (by (with_reducible repeat (first | apply Kd.R_alloc | apply Kd.R_drewN | apply Kd.R_drew)); exact HO_10.out) hb); have n1_ := Aside0.mk (Kd.R_below (by (with_reducible repeat (first | apply Kd.R_alloc | apply Kd.R_drewN | apply Kd.R_drew)); exact HO_12.out) hb); have n2_ := Aside0.mk (Kd.S_below (by (with_reducible repeat (first | apply Kd.S_alloc | apply Kd.S_drewN | apply Kd.S_drew)); exact HO_13.out) hb); have n3_ := Aside0.mk (Kd.R_below (by (with_reducible repeat (first | apply Kd.R_alloc | apply Kd.R_drewN | apply Kd.R_drew)); exact HO_16.out) hb); have n4_ := Aside0.mk (Kd.R_below (by (with_reducible repeat (first | apply Kd.R_alloc | apply Kd.R_drewN | apply Kd.R_drew)); exact HL122_1.out) hb); have n5_ := Aside0.mk (Kd.C_below (by repeat (first | (with_reducible exact HR122_1.out) | (with_reducible refine Kd.C_alloc ?_ _) | (with_reducible refine Kd.C_drewN ?_ _) | (with_reducible refine Kd.C_drew ?_) | exact HR122_1.out)) hb); have n6_ := Aside0.mk (pw_cell_below hb HX122_1.out); have n7_ := Aside0.mk (below_step (by repeat (first | (with_reducible first | exact HB.out | apply below_alloc | apply pw_below_drewN | apply below_drew1) | exact HB.out)) hb); clear HO_10; clear HO_12; clear HO_13; clear HO_16; clear HL122_1; clear HR122_1; clear HX122_1; clear HB; have HO_10 := n0_; have HO_12 := n1_; have HO_13 := n2_; have HO_16 := n3_; have HL122_1 := n4_; have HR122_1 := n5_; have HX122_1 := n6_; have HB := n7_; clear n0_ n1_ n2_ n3_ n4_ n5_ n6_ n7_; (try clear hb); (try clear hb2); (try clear hk); (try clear hi)))
                              have n0_ := Aside0.mk (Kd.R_drew HO_10.out)
                              have n1_ := Aside0.mk (Kd.R_drew HO_12.out)
                              have n2_ := Aside0.mk (Kd.S_drew HO_13.out)
                              have n3_ := Aside0.mk (Kd.R_drew HO_16.out)
                              have n4_ := Aside0.mk (Kd.R_drew HL122_1.out)
                              have n5_ := Aside0.mk (Kd.C_drew HR122_1.out)
                              have n6_ := Aside0.mk (below_drew1 HB.out)
                              clear HO_10
                              clear HO_12
                              clear HO_13
                              clear HO_16
                              clear HL122_1
                              clear HR122_1
                              clear HB
                              have HO_10 := n0_
                              have HO_12 := n1_
                              have HO_13 := n2_
                              have HO_16 := n3_
                              have HL122_1 := n4_
                              have HR122_1 := n5_
                              have HB := n6_
                              clear n0_ n1_ n2_ n3_ n4_ n5_ n6_
                              have p125 : 0 ≤ (x15_3 : Int) := of_decide_eq_true (by first | (with_reducible assumption) | assumption)
                              have q125 : x15_3 < (x13_4.length : Int) := of_decide_eq_true (by first | (with_reducible assumption) | assumption)
                              obtain ⟨ad125, A125_1, c125_1, e125, hx125_0, hx125_1, hl125_1, hi125_1⟩ := at_T58 (Kd.S_reads' HO_13.out).2.2 x15_3 p125 q125
                              obtain rfl : (⟨go27, 0, none⟩ : Addr) = ad125 := (by injection e125)
                              obtain ⟨ce125, hce125, hMe125, hcc125⟩ := Kd.S_get HO_13.out z58 x15_3 p125 (by first | exact q125 | exact of_decide_eq_true (by first | (with_reducible assumption) | assumption) | (have e_ := (Kd.S_reads' HO_13.out).1; omega))
                              obtain ⟨ve125_1, rfl, ge125_1⟩ := k58_openM hMe125
                              have hv125_1 := hcc125 1 _ rfl
                              rw [add_field _ _ 1 (by omega)] at hv125_1
                              replace hv125_1 := Option.some.inj (hv125_1.symm.trans hx125_1)
                              rw [hv125_1] at ge125_1
                              have HL125_1 := Aside0.mk (show Kd.R (Kd.int .i64) 3 _ _ _ _ ((rd_T58 x13_4 x15_3).f1) from ge125_1)
                              clear hv125_1 ge125_1
                              have HX125_1 := Aside0.mk hx125_1
                              clear hcc125 hce125
                              (first | simp only [add_plain] at hx125_0 | simp only [add_at] at hx125_0 | simp only [Addr.add, Nat.zero_add] at hx125_0 | skip)
                              (first | simp only [add_plain] at hx125_1 | simp only [add_at] at hx125_1 | simp only [Addr.add, Nat.zero_add] at hx125_1 | skip)
                              have HR125_1 := Aside0.mk hi125_1
                              have HC125_1 := Aside0.mk hl125_1
                              clear hi125_1 hl125_1
                              replace p125 := eq_true p125
                              replace q125 := eq_true q125
                              have p126 : 0 ≤ (x17_4 : Int) := of_decide_eq_true (by first | (with_reducible assumption) | assumption)
                              have q126 : x17_4 < (x10_3.length : Int) := of_decide_eq_true (by first | (with_reducible assumption) | assumption)
                              obtain ⟨ad126, e126, hx126_0⟩ := Kd.at_int (Kd.R_reads' HO_10.out).2.2 x17_4 p126 q126
                              cases e126
                              replace p126 := eq_true p126
                              replace q126 := eq_true q126
                              obtain ⟨oki51, ce51, hcl51, hM51, hcc51, _, _, hH51⟩ := Kd.S_elem HO_13.out z58 (x15_3 : Int) (of_decide_eq_true (by first | (with_reducible assumption) | assumption)) (by have h_ : (x15_3 : Int) < ((x13_4.length : Int) : Int) := of_decide_eq_true (by first | (with_reducible assumption) | assumption); first | exact h_ | (have e_ := (Kd.S_reads' HO_13.out).1; omega) | simpa using h_)
                              obtain ⟨ve51_1, rfl, ge51_1⟩ := k58_openM hM51
                              have hv51 := hcc51 1 _ rfl
                              have hX51 := HX125_1.out
                              (try simp only [add_plain] at hX51)
                              (try simp only [Nat.add_zero] at hv51)
                              replace hv51 := Option.some.inj (hv51.symm.trans hX51)
                              subst hv51
                              clear hX51 hcc51 hcl51
                              have UU51 := Aside0.mk (show Kd.R (Kd.int .i64) 3 _ w.heap.size oki51 (.slice A125_1 ((rd_T58 x13_4 x15_3).f1).length c125_1) ((rd_T58 x13_4 x15_3).f1) from ge51_1)
                              have HH51 := Aside0.mk hH51
                              have HN51 := Aside0.mk (Kd.S_reads' HO_13.out).1
                              clear hH51 ge51_1
                              refine start_ (n := 16) (S := fun w' => w'.cell? ⟨go27, (x15_3).toNat * 2, none⟩ = some (.int .i64 ((rd_T58 x13_4 x15_3).f0)) ∧ w'.cell? ⟨go27, (x15_3).toNat * 2 + 1, none⟩ = some (.slice A125_1 ((rd_T58 x13_4 x15_3).f1).length c125_1) ∧ w'.cell? (ad126.add (x17_4).toNat) = some (.int .i64 (rd x10_3 x17_4))) (ds := [12, 15]) #[false, false, false, false, false, false, false, false, false, false, false, false, false, false, false, false] (by kernel_rfl) rfl rfl ⟨hx125_0, hx125_1, hx126_0⟩ (fun hHeld => ?_); refine with_tabW oubref7_Plan.tab30 oubref7_Plan.bits30 (fun HT_ HW_ => ?_)
                              generalize w49.drew = w50 at HO_10 HO_12 HO_13 HO_16 HL122_1 HR122_1 HB HH51 HL125_1 HR125_1 HX125_1 UU51 hx125_0 hx125_1 hx126_0 hHeld ⊢
                              refine pure_ (i := 0) (N := some 118) (v := ?_) (a' := ?_) (bs 1 15) rfl rfl (any_of HT_.out (by kernel_rfl)) (fun _ _ _ h => h) (Or.inl ⟨by rfl, ?_⟩) ?_ ?_
                              rotate_left
                              ·intro w'
                               go_simp
                               with_reducible rfl
                              rotate_left
                              ·simp only [Act.put, List.setIfInBounds_toArray, List.set_cons_zero, List.set_cons_succ, i64_w, i32_w]
                               rfl
                              refine pure_ (i := 1) (N := some 119) (v := ?_) (a' := ?_) (bs 2 14) rfl rfl (any_of HT_.out (by kernel_rfl)) (fun _ _ _ h => h) (Or.inl ⟨by rfl, ?_⟩) ?_ ?_
                              rotate_left
                              ·intro w'
                               go_simp
                               with_reducible rfl
                              rotate_left
                              ·simp only [Act.put, List.setIfInBounds_toArray, List.set_cons_zero, List.set_cons_succ, i64_w, i32_w]
                               rfl
                              refine pure_ (i := 2) (N := some 120) (v := ?_) (a' := ?_) (bs 3 13) rfl rfl (any_of HT_.out (by kernel_rfl)) (fun _ _ _ h => h) (Or.inl ⟨by rfl, ?_⟩) ?_ ?_
                              rotate_left
                              ·intro w'
                               go_simp
                               with_reducible rfl
                              rotate_left
                              ·simp only [Act.put, List.setIfInBounds_toArray, List.set_cons_zero, List.set_cons_succ, i64_w, i32_w]
                               rfl
                              refine pure_ (i := 3) (N := some 121) (v := ?_) (a' := ?_) (bs 4 12) rfl rfl (any_of HT_.out (by kernel_rfl)) (fun _ _ _ h => h) (Or.inl ⟨by rfl, ?_⟩) ?_ ?_
                              rotate_left
                              ·intro w'
                               go_simp
                               with_reducible rfl
                              rotate_left
                              ·simp only [Act.put, List.setIfInBounds_toArray, List.set_cons_zero, List.set_cons_succ, i64_w, i32_w]
                               rfl
                              refine pure_ (i := 4) (N := some 122) (v := ?_) (a' := ?_) (bs 5 11) rfl rfl (any_of HT_.out (by kernel_rfl)) (fun _ _ _ h => h) (Or.inl ⟨by rfl, ?_⟩) ?_ ?_
                              rotate_left
                              ·intro w'
                               go_simp
                               with_reducible rfl
                              rotate_left
                              ·simp only [Act.put, List.setIfInBounds_toArray, List.set_cons_zero, List.set_cons_succ, i64_w, i32_w]
                               rfl
                              refine pure_ (i := 5) (N := some 123) (v := ?_) (a' := ?_) (bs 6 10) rfl rfl (any_of HT_.out (by kernel_rfl)) (fun _ _ _ h => h) (Or.inl ⟨by rfl, ?_⟩) ?_ ?_
                              rotate_left
                              ·intro w'
                               go_simp
                               with_reducible rfl
                              rotate_left
                              ·simp only [Act.put, List.setIfInBounds_toArray, List.set_cons_zero, List.set_cons_succ, i64_w, i32_w]
                               rfl
                              refine pure_ (i := 7) (N := some 125) (v := ?_) (a' := ?_) #[true, true, true, true, true, true, false, true, false, false, false, false, false, false, false, false] rfl rfl (any_of HT_.out (by kernel_rfl)) (fun _ _ _ h => h) (Or.inl ⟨by rfl, ?_⟩) ?_ ?_
                              rotate_left
                              ·intro w'
                               go_simp
                               with_reducible rfl
                              rotate_left
                              ·simp only [Act.put, List.setIfInBounds_toArray, List.set_cons_zero, List.set_cons_succ, i64_w, i32_w]
                               rfl
                              refine pure_ (i := 8) (N := some 126) (v := ?_) (a' := ?_) #[true, true, true, true, true, true, false, true, true, false, false, false, false, false, false, false] rfl rfl (any_of HT_.out (by kernel_rfl)) (fun _ _ _ h => h) (Or.inl ⟨by rfl, ?_⟩) ?_ ?_
                              rotate_left
                              ·intro w'
                               go_simp
                               with_reducible rfl
                              rotate_left
                              ·simp only [Act.put, List.setIfInBounds_toArray, List.set_cons_zero, List.set_cons_succ, i64_w, i32_w]
                               rfl
                              refine pure_ (i := 9) (N := some 127) (v := ?_) (a' := ?_) #[true, true, true, true, true, true, false, true, true, true, false, false, false, false, false, false] rfl rfl (any_of HT_.out (by kernel_rfl)) (fun _ _ _ h => h) (Or.inl ⟨by rfl, ?_⟩) ?_ ?_
                              rotate_left
                              ·intro w'
                               go_simp
                               with_reducible rfl
                              rotate_left
                              ·simp only [Act.put, List.setIfInBounds_toArray, List.set_cons_zero, List.set_cons_succ, i64_w, i32_w]
                               rfl
                              refine take_ (i := 6) (N := some 124) (v := ?_) (a' := ?_) (bs 10 6) rfl rfl (take_ofW HT_.out HW_.out (by kernel_rfl)) (fun _ _ _ h => h) (Or.inl ⟨by rfl, ?_⟩) hHeld ?_ ?_
                              rotate_left
                              ·rintro w' ⟨s0, s1, s2⟩
                               go_simp
                               with_reducible rfl
                              rotate_left
                              ·simp only [Act.put, List.setIfInBounds_toArray, List.set_cons_zero, List.set_cons_succ, i64_w, i32_w]
                               rfl
                              refine take_ (i := 10) (N := some 128) (v := ?_) (a' := ?_) (bs 11 5) rfl rfl (take_ofW HT_.out HW_.out (by kernel_rfl)) (fun _ _ _ h => h) (Or.inl ⟨by rfl, ?_⟩) hHeld ?_ ?_
                              rotate_left
                              ·rintro w' ⟨s0, s1, s2⟩
                               go_simp
                               with_reducible rfl
                              rotate_left
                              ·simp only [Act.put, List.setIfInBounds_toArray, List.set_cons_zero, List.set_cons_succ, i64_w, i32_w]
                               rfl
                              refine one_ (i := 11) (N := some 129) (bs 12 4) rfl rfl (one_of HT_.out (by kernel_rfl)) (by decide) (fun K hK => ?_)
                              refine value_ (w1 := ?_) (v := ?_) (by rfl) rfl ?_ ?_
                              rotate_left 2
                              ·go_simp
                               constructor
                               ·rfl
                               ·rfl
                              refine hK.out _ _ ⟨(World.cell?_alloc_lt _ _ _ (World.block_lt_of_cell? _ _ (hHeld.1))).trans (hHeld.1), (World.cell?_alloc_lt _ _ _ (World.block_lt_of_cell? _ _ (hHeld.2.1))).trans (hHeld.2.1), (World.cell?_alloc_lt _ _ _ (World.block_lt_of_cell? _ _ (hHeld.2.2))).trans (hHeld.2.2)⟩ (fun hHeld => ?_)
                              clear hK K
                              refine norm_ (a' := ?_) ?_ ?_
                              rotate_left
                              ·show Act.put _ (some 129) _ = _
                               simp only [Act.put, List.setIfInBounds_toArray, List.set_cons_zero, List.set_cons_succ, i64_w, i32_w]
                               rfl
                              refine last_ (i := 12) (N := some 130) (bs 13 3) rfl rfl (one_of HT_.out (by kernel_rfl)) (by decide) (fun K hK => ?_)
                              refine Kd.R_append_step (Kd.int .i64) (w0 := w) w.heap.size (by rfl) (.tmp 124) (.tmp 129) 22 3 (.int .i64 0) 8 rfl Tryz.underlying22 info3 rfl (by decide) (by omega) (.slice A125_1 ((rd_T58 x13_4 x15_3).f1).length c125_1) ((rd_T58 x13_4 x15_3).f1) (rd x10_3 x17_4) [.int .i64 (rd x10_3 x17_4)] (fun k_ => oki51 k_ ∨ ((fun k_ => some k_ ≠ (.slice (some ad126) x10_3.length co31 : Value).ownBlock ∧ some k_ ≠ (.slice (some ad115) t109.length co18 : Value).ownBlock ∧ some k_ ≠ (u16 : Value).ownBlock)) k_ ∧ w50.heap.size ≤ k_) (fun _ => False) rfl rfl ?aP (fun _ hk => hk.elim) ?aF ?aO ?aB ?aS ?aL ?_
                              (case aP => exact rfl)
                              (case aB => exact (by repeat (first | (with_reducible first | exact HB.out | apply below_alloc | apply pw_below_drewN | apply below_drew1) | exact HB.out)))
                              (case aF => exact (fun k_ hk => .inr ⟨⟨Kd.fresh' (Kd.R_lt (by (with_reducible repeat (first | apply Kd.R_alloc | apply Kd.R_drewN | apply Kd.R_drew)); exact HO_10.out)) k_ hk, Kd.fresh' (Kd.R_lt (by (with_reducible repeat (first | apply Kd.R_alloc | apply Kd.R_drewN | apply Kd.R_drew)); exact HO_12.out)) k_ hk, Kd.fresh' (Kd.R_lt (by (with_reducible repeat (first | apply Kd.R_alloc | apply Kd.R_drewN | apply Kd.R_drew)); exact HO_16.out)) k_ hk⟩, hk⟩))
                              (case aO => exact (by (with_reducible repeat (first | apply Kd.R_alloc | apply Kd.R_drewN | apply Kd.R_drew)); exact Kd.R_mono UU51.out (fun _ hk => .inl hk)))
                              (case aS => exact (below_size (by repeat (first | (with_reducible first | exact HB.out | apply below_alloc | apply pw_below_drewN | apply below_drew1) | exact HB.out))))
                              (case aL => have := LMc47.out; omega)
                              intro v128 w52 ho hb hg hat
                              rw [← Ny127.out] at ho
                              have n0_ := Aside0.mk (Kd.R_grown2 (by (with_reducible repeat (first | apply Kd.R_alloc | apply Kd.R_drewN | apply Kd.R_drew)); exact HO_10.out) rfl hg (fun k_ e_ => (HL125_1.out.1 k_ e_).1.1))
                              have n1_ := Aside0.mk (Kd.R_grown2 (by (with_reducible repeat (first | apply Kd.R_alloc | apply Kd.R_drewN | apply Kd.R_drew)); exact HO_12.out) rfl hg (fun k_ e_ => (HL125_1.out.1 k_ e_).1.2.1))
                              have n2_ := Aside0.mk (Kd.R_grown2 (by (with_reducible repeat (first | apply Kd.R_alloc | apply Kd.R_drewN | apply Kd.R_drew)); exact HO_16.out) rfl hg (fun k_ e_ => (HL125_1.out.1 k_ e_).1.2.2))
                              have n3_ := Aside0.mk (hb)
                              have n4_ := Aside0.mk (Kd.H_grown (Kd.H_widen (by repeat (first | exact HH51.out | refine Kd.H_alloc ?_ _ | refine Kd.H_drewN ?_ _ | refine Kd.H_drew ?_))) hg (fun k_ e_ => .inl (UU51.out.1 k_ e_)))
                              have n5_ := Aside0.mk (ho)
                              clear HO_10
                              clear HO_12
                              clear HO_16
                              clear HB
                              clear HH51
                              clear HO_13
                              clear UU51
                              clear HL122_1
                              clear HL125_1
                              have HO_10 := n0_
                              have HO_12 := n1_
                              have HO_16 := n2_
                              have HB := n3_
                              have HH51 := n4_
                              have HO129 := n5_
                              clear n0_ n1_ n2_ n3_ n4_ n5_
                              clear ho hb hg hat
                              have p48 : 0 ≤ (x15_3 : Int) := of_decide_eq_true (by first | (with_reducible assumption) | assumption)
                              have q48 : (x15_3 : Int) < ((x13_4.length : Int) : Int) := of_decide_eq_true (by first | (with_reducible assumption) | assumption)
                              replace p48 := eq_true p48
                              replace q48 := eq_true q48
                              obtain ⟨Ao55, co55, eo55⟩ := Kd.R_slice HO129.out
                              (first | subst eo55 | (injection eo55 with f1_ f2_ f3_; have f4_ := f1_.symm; have f5_ := f3_.symm; clear f1_ f2_ f3_; subst f4_; subst f5_))
                              obtain ⟨_, _, hraw53, _, _, hcc53, _⟩ := Kd.H_raw HH51.out (of_decide_eq_true (by first | (with_reducible assumption) | assumption)) (by have h_ : (x15_3 : Int) < ((x13_4.length : Int) : Int) := of_decide_eq_true (by first | (with_reducible assumption) | assumption); first | exact h_ | (have e_ := (HN51.out); omega) | simpa using h_)
                              obtain ⟨_, hfr53⟩ := Kd.H_at HH51.out (of_decide_eq_true (by first | (with_reducible assumption) | assumption)) (by have h_ : (x15_3 : Int) < ((x13_4.length : Int) : Int) := of_decide_eq_true (by first | (with_reducible assumption) | assumption); first | exact h_ | (have e_ := (HN51.out); omega) | simpa using h_)
                              have hx53_0 := hcc53 1 _ rfl
                              have hf53_0 := hfr53 1
                              (try rw [show (k58).sz = 2 from rfl] at hx53_0)
                              (try rw [show (k58).sz = 2 from rfl] at hf53_0)
                              have HP53 := Kd.S_seg0 HH51.out (of_decide_eq_true (by first | (with_reducible assumption) | assumption)) (by have h_ : (x15_3 : Int) < ((x13_4.length : Int) : Int) := of_decide_eq_true (by first | (with_reducible assumption) | assumption); first | exact h_ | (have e_ := (HN51.out); omega) | simpa using h_) (seg := [.slice Ao55 y127.length co55]) (j := 1) (show 2 ≤ 2 from by decide) (x' := (⟨(rd_T58 x13_4 x15_3).f0, y127⟩ : S58)) (k58_mkM _ _ _ (⟨(rd_T58 x13_4 x15_3).f0, y127⟩ : S58) HO129.out) (fun _ hk => hk)
                              clear hcc53 hfr53
                              have HS53 := HP53.1
                              rw [← Ny130.out] at HS53
                              have HQ53 := Aside0.mk HS53
                              obtain ⟨_, hgg53⟩ := Kd.R_typed hraw53 go27 rfl
                              have GG53_ := Aside0.mk hgg53
                              clear HP53 HS53 hgg53
                              refine hK.out _ _ ?_
                              clear hK K
                              refine norm_ (a' := ?_) ?_ ?_
                              rotate_left
                              ·show Act.put _ (some 130) _ = _
                               simp only [Act.put, List.setIfInBounds_toArray, List.set_cons_zero, List.set_cons_succ, i64_w, i32_w]
                               rfl
                              refine pure_ (i := 13) (N := some 131) (v := ?_) (a' := ?_) (bs 14 2) rfl rfl (any_of HT_.out (by kernel_rfl)) (fun _ _ _ h => h) (Or.inl ⟨by rfl, ?_⟩) ?_ ?_
                              rotate_left
                              ·intro w'
                               go_simp
                               with_reducible rfl
                              rotate_left
                              ·simp only [Act.put, List.setIfInBounds_toArray, List.set_cons_zero, List.set_cons_succ, i64_w, i32_w]
                               rfl
                              refine pure_ (i := 14) (N := some 132) (v := ?_) (a' := ?_) (bs 15 1) rfl rfl (any_of HT_.out (by kernel_rfl)) (fun _ _ _ h => h) (Or.inl ⟨by rfl, ?_⟩) ?_ ?_
                              rotate_left
                              ·intro w'
                               go_simp
                               with_reducible rfl
                              rotate_left
                              ·simp only [Act.put, List.setIfInBounds_toArray, List.set_cons_zero, List.set_cons_succ, i64_w, i32_w]
                               rfl
                              refine last_ (i := 15) (N := none) (bs 16 0) rfl rfl (one_of HT_.out (by kernel_rfl)) (by decide) (fun K hK => ?_)
                              refine skip_ (w1 := ?_) (by rfl) rfl ?_ ?_
                              rotate_left
                              ·go_simp
                               rfl
                              refine hK.out _ _ ?_
                              clear hK K
                              refine done_ (done_of HT_.out (by kernel_rfl)) ?_
                              try go_wp2
                              (try simp only [← hl13_4])
                              go_roundg k5
                              case measure => have := HK1.out; have := HK2.out; have := HK3.out; have := HK4.out; have := HK5.out; omega
                              case rel => exact ⟨(y130), (x16_4), (wrap64 (x17_4 + 1)), (by first | rfl | (simp; done) | (simp [*]; done)), H', ⟨by have := HK1.out; have := HK2.out; have := HK3.out; have := HK4.out; have := HK5.out; omega⟩, ⟨by (try simp only [hl13_4]); (with_reducible repeat (first | apply Kd.R_alloc | apply Kd.R_drewN | apply Kd.R_drew)); exact Kd.R_mono (Kd.R_far (p := ⟨go27, (x15_3 : Int).toNat * 2 + 1, none⟩) (Kd.R_types HO_10.out GG53_.out (by decide)) (fun _ hk => hk.2) (.slice Ao55 y127.length co55)) (fun _ hk => ⟨hk.1.1, hk.1.2⟩)⟩, ⟨by (try simp only [hl13_4]); (with_reducible repeat (first | apply Kd.R_alloc | apply Kd.R_drewN | apply Kd.R_drew)); exact Kd.R_mono (Kd.R_far (p := ⟨go27, (x15_3 : Int).toNat * 2 + 1, none⟩) (Kd.R_types HO_12.out GG53_.out (by decide)) (fun _ hk => hk.2) (.slice Ao55 y127.length co55)) (fun _ hk => ⟨hk.1.1, hk.1.2⟩)⟩, ⟨by (try simp only [hl13_4]); (with_reducible repeat (first | apply Kd.S_alloc | apply Kd.S_drewN | apply Kd.S_drew)); exact HQ53.out⟩, ⟨by (try simp only [hl13_4]); (with_reducible repeat (first | apply Kd.R_alloc | apply Kd.R_drewN | apply Kd.R_drew)); exact Kd.R_mono (Kd.R_far (p := ⟨go27, (x15_3 : Int).toNat * 2 + 1, none⟩) (Kd.R_types HO_16.out GG53_.out (by decide)) (fun _ hk => hk.2) (.slice Ao55 y127.length co55)) (fun _ hk => ⟨hk.1.1, hk.1.2⟩)⟩, ⟨by repeat (first | (with_reducible first | exact HB.out | apply below_alloc | apply pw_below_drewN | apply below_drew1 | refine below_set ?_ GB27.out) | exact HB.out)⟩⟩
                             ·rw [if_neg c47] at H
                              exact absurd H (by simp)
                            ·rw [if_neg c46] at H
                             exact absurd H (by simp)
                           ·rw [if_neg c45] at H
                            exact absurd H (by simp)
                          ·replace c44 := Bool.eq_false_iff.mpr c44
                           subst c44
                           have H1 : (if 0 ≤ x17_4 then (if x17_4 < (x10_3.length : Int) then (if x16_4.length < 17592186044416 then (oubref7_Plan.l3 k5 a0 a1 l3 x10_3 t109 x13_4 x14_2 x15_3 (x16_4 ++ [rd x10_3 x17_4]) (wrap64 (x17_4 + 1))) else (none)) else (none)) else (none)) = some (r1, r2) := by rw [if_neg (show ¬ (false = true) by decide)] at H; exact H
                           clear H
                           have H := H1
                           clear H1
                           by_cases c56 : 0 ≤ x17_4
                           ·rw [if_pos c56] at H
                            have c56b0 : decide (0 ≤ x17_4) = true := decide_eq_true c56
                            clear c56
                            by_cases c57 : x17_4 < (x10_3.length : Int)
                            ·rw [if_pos c57] at H
                             have c57b0 : decide (x17_4 < (x10_3.length : Int)) = true := decide_eq_true c57
                             clear c57
                             by_cases c58 : x16_4.length < 17592186044416
                             ·rw [if_pos c58] at H
                              have LMc58 := Aside0.mk c58
                              clear c58
                              obtain ⟨y132, hy132⟩ : ∃ y_ : List Int, y_ = (x16_4 ++ [rd x10_3 x17_4]) := ⟨_, rfl⟩
                              replace H : (oubref7_Plan.l3 k5 a0 a1 l3 x10_3 t109 x13_4 x14_2 x15_3 y132 (wrap64 (x17_4 + 1))) = some (r1, r2) := by first | (rw [hy132]; with_reducible exact H) | (have H2_ := (Option.bind_some _ _).symm.trans H; rw [hy132]; with_reducible exact H2_) | (have H2_ := (Option.bind_some _ _).symm.trans H; with_reducible exact H2_) | with_reducible exact H | (rw [hy132]; exact H) | exact H
                              have Ny132 := Aside0.mk hy132
                              clear hy132
                              have H' := Aside0.mk H
                              clear H
                              have p122 : 0 ≤ (x15_3 : Int) := of_decide_eq_true (by first | (with_reducible assumption) | assumption)
                              have q122 : x15_3 < (x13_4.length : Int) := of_decide_eq_true (by first | (with_reducible assumption) | assumption)
                              obtain ⟨ad122, A122_1, c122_1, e122, hx122_0, hx122_1, hl122_1, hi122_1⟩ := at_T58 (Kd.S_reads' HO_13.out).2.2 x15_3 p122 q122
                              obtain rfl : (⟨go27, 0, none⟩ : Addr) = ad122 := (by injection e122)
                              obtain ⟨ce122, hce122, hMe122, hcc122⟩ := Kd.S_get HO_13.out z58 x15_3 p122 (by first | exact q122 | exact of_decide_eq_true (by first | (with_reducible assumption) | assumption) | (have e_ := (Kd.S_reads' HO_13.out).1; omega))
                              obtain ⟨ve122_1, rfl, ge122_1⟩ := k58_openM hMe122
                              have hv122_1 := hcc122 1 _ rfl
                              rw [add_field _ _ 1 (by omega)] at hv122_1
                              replace hv122_1 := Option.some.inj (hv122_1.symm.trans hx122_1)
                              rw [hv122_1] at ge122_1
                              have HL122_1 := Aside0.mk (show Kd.R (Kd.int .i64) 3 _ _ _ _ ((rd_T58 x13_4 x15_3).f1) from ge122_1)
                              clear hv122_1 ge122_1
                              have HX122_1 := Aside0.mk hx122_1
                              clear hcc122 hce122
                              (first | simp only [add_plain] at hx122_0 | simp only [add_at] at hx122_0 | simp only [Addr.add, Nat.zero_add] at hx122_0 | skip)
                              (first | simp only [add_plain] at hx122_1 | simp only [add_at] at hx122_1 | simp only [Addr.add, Nat.zero_add] at hx122_1 | skip)
                              have HR122_1 := Aside0.mk hi122_1
                              have HC122_1 := Aside0.mk hl122_1
                              clear hi122_1 hl122_1
                              replace p122 := eq_true p122
                              replace q122 := eq_true q122
                              have p123 : 0 ≤ (x15_3 : Int) := of_decide_eq_true (by first | (with_reducible assumption) | assumption)
                              have q123 : x15_3 < (t109.length : Int) := of_decide_eq_true (by first | (with_reducible assumption) | assumption)
                              obtain ⟨ad123, e123, hx123_0⟩ := Kd.at_int (Kd.R_reads' HO_12.out).2.2 x15_3 p123 q123
                              obtain rfl : ad115 = ad123 := (by injection e123)
                              replace p123 := eq_true p123
                              replace q123 := eq_true q123
                              go_wp2_with (first | (go_at_call 30; (with_reducible refine (oubref7_On.calls k5 a0 (rd t109 x15_3) x18_5 false _ A43.out).mono ?_); rintro e w59 ⟨rfl, hb⟩; have n0_ := Aside0.mk (Kd.R_below (by (with_reducible repeat (first | apply Kd.R_alloc | apply Kd.R_drewN | apply Kd.R_drew)); exact HO_10.out) hb); have n1_ := Aside0.mk (Kd.R_below (by (with_reducible repeat (first | apply Kd.R_alloc | apply Kd.R_drewN | apply Kd.R_drew)); exact HO_12.out) hb); have n2_ := Aside0.mk (Kd.S_below (by (with_reducible repeat (first | apply Kd.S_alloc | apply Kd.S_drewN | apply Kd.S_drew)); exact HO_13.out) hb); have n3_ := Aside0.mk (Kd.R_below (by (with_reducible repeat (first | apply Kd.R_alloc | apply Kd.R_drewN | apply Kd.R_drew)); exact HO_16.out) hb); have n4_ := Aside0.mk (Kd.R_below (by (with_reducible repeat (first | apply Kd.R_alloc | apply Kd.R_drewN | apply Kd.R_drew)); exact HL122_1.out) hb); have n5_ := Aside0.mk (Kd.C_below (by repeat (first | (with_reducible exact HR122_1.out) | (with_reducible refine Kd.C_alloc ?_ _) | (with_reducible refine Kd.C_drewN ?_ _) | (with_reducible refine Kd.C_drew ?_) | exact HR122_1.out)) hb); have n6_ := Aside0.mk (pw_cell_below hb HX122_1.out); have n7_ := Aside0.mk (below_step (by repeat (first | (with_reducible first | exact HB.out | apply below_alloc | apply pw_below_drewN | apply below_drew1) | exact HB.out)) hb); clear HO_10; clear HO_12; clear HO_13; clear HO_16; clear HL122_1; clear HR122_1; clear HX122_1; clear HB; have HO_10 := n0_; have HO_12 := n1_; have HO_13 := n2_; have HO_16 := n3_; have HL122_1 := n4_; have HR122_1 := n5_; have HX122_1 := n6_; have HB := n7_; clear n0_ n1_ n2_ n3_ n4_ n5_ n6_ n7_; (try clear hb); (try clear hb2); (try clear hk); (try clear hi); have p131 : 0 ≤ (x17_4 : Int) := of_decide_eq_true (by first | (with_reducible assumption) | assumption); have q131 : x17_4 < (x10_3.length : Int) := of_decide_eq_true (by first | (with_reducible assumption) | assumption); obtain ⟨ad131, e131, hx131_0⟩ := Kd.at_int (Kd.R_reads' HO_10.out).2.2 x17_4 p131 q131; cases e131; replace p131 := eq_true p131; replace q131 := eq_true q131) | ((with_reducible refine gate_builtin (b := .append) (xs := #[.tmp 133, .tmp 138]) rfl ?_); at_builtin; refine Kd.R_append (Kd.int .i64) (w0 := w) w.heap.size rfl (.tmp 133) (.tmp 138) 22 3 (.int .i64 0) 8 rfl Tryz.underlying22 info3 rfl (by decide) (by omega) u16 x16_4 (rd x10_3 x17_4) [.int .i64 (rd x10_3 x17_4)] (fun k_ => some k_ ≠ (.slice (some ad131) x10_3.length co31 : Value).ownBlock ∧ some k_ ≠ (.slice (some ad115) t109.length co18 : Value).ownBlock) (fun _ => False) rfl rfl ?aP (fun _ hk => hk.elim) ?aF ?aO ?aB ?aS ?aL ?_; (case aP => exact rfl); (case aB => exact (by repeat (first | (with_reducible first | exact HB.out | apply below_alloc | apply pw_below_drewN | apply below_drew1) | exact HB.out))); (case aF => exact (fun k_ hk => ⟨Kd.fresh' (Kd.R_lt (by (with_reducible repeat (first | apply Kd.R_alloc | apply Kd.R_drewN | apply Kd.R_drew)); exact HO_10.out)) k_ hk, Kd.fresh' (Kd.R_lt (by (with_reducible repeat (first | apply Kd.R_alloc | apply Kd.R_drewN | apply Kd.R_drew)); exact HO_12.out)) k_ hk⟩)); (case aO => exact (by (with_reducible repeat (first | apply Kd.R_alloc | apply Kd.R_drewN | apply Kd.R_drew)); exact HO_16.out)); (case aS => exact (below_size (by repeat (first | (with_reducible first | exact HB.out | apply below_alloc | apply pw_below_drewN | apply below_drew1) | exact HB.out)))); (case aL => have := LMc58.out; omega); intro v133 w60 ho hb hg hat; rw [← Ny132.out] at ho; have n0_ := Aside0.mk (Kd.R_after (ok := (fun k_ => some k_ ≠ (.slice (some ad115) t109.length co18 : Value).ownBlock)) (by (with_reducible repeat (first | apply Kd.R_alloc | apply Kd.R_drewN | apply Kd.R_drew)); exact HO_10.out) hg hat); have n1_ := Aside0.mk (Kd.R_after (ok := (fun k_ => some k_ ≠ (.slice (some ad131) x10_3.length co31 : Value).ownBlock)) (by (with_reducible repeat (first | apply Kd.R_alloc | apply Kd.R_drewN | apply Kd.R_drew)); exact HO_12.out) hg hat); have n2_ := Aside0.mk (Kd.S_after (ok := (fun k_ => some k_ ≠ (.slice (some ad131) x10_3.length co31 : Value).ownBlock ∧ some k_ ≠ (.slice (some ad115) t109.length co18 : Value).ownBlock)) (by (with_reducible repeat (first | apply Kd.S_alloc | apply Kd.S_drewN | apply Kd.S_drew)); exact Kd.S_mono HO_13.out (fun _ hk => ⟨⟨hk.1, hk.2.1⟩, hk.2.2⟩)) hg hat); have n3_ := Aside0.mk (Kd.R_after (ok := (fun k_ => some k_ ≠ (.slice (some ad131) x10_3.length co31 : Value).ownBlock ∧ some k_ ≠ (.slice (some ad115) t109.length co18 : Value).ownBlock ∧ some k_ ≠ (.slice (some ⟨go27, 0, none⟩) x13_4.length co27 : Value).ownBlock)) (by (with_reducible repeat (first | apply Kd.R_alloc | apply Kd.R_drewN | apply Kd.R_drew)); exact Kd.R_mono HL122_1.out (fun _ hk => ⟨⟨hk.1.1, ⟨hk.1.2.1, hk.2⟩⟩, hk.1.2.2⟩)) hg hat); have n4_ := Aside0.mk (hb); have n5_ := Aside0.mk (ho); clear HO_10; clear HO_12; clear HO_13; clear HL122_1; clear HB; clear HO_16; have HO_10 := n0_; have HO_12 := n1_; have HO_13 := n2_; have HL122_1 := n3_; have HB := n4_; have HO134 := n5_; clear n0_ n1_ n2_ n3_ n4_ n5_; clear ho hb hg hat))
                              (try simp only [← hl13_4])
                              go_roundg k5
                              case measure => have := HK1.out; have := HK2.out; have := HK3.out; have := HK4.out; have := HK5.out; omega
                              case rel => exact ⟨(x13_4), (y132), (wrap64 (x17_4 + 1)), (by first | rfl | (simp; done) | (simp [*]; done)), H', ⟨by have := HK1.out; have := HK2.out; have := HK3.out; have := HK4.out; have := HK5.out; omega⟩, ⟨by (try simp only [hl13_4]); (with_reducible repeat (first | apply Kd.R_alloc | apply Kd.R_drewN | apply Kd.R_drew)); exact HO_10.out⟩, ⟨by (try simp only [hl13_4]); (with_reducible repeat (first | apply Kd.R_alloc | apply Kd.R_drewN | apply Kd.R_drew)); exact HO_12.out⟩, ⟨by (try simp only [hl13_4]); (with_reducible repeat (first | apply Kd.S_alloc | apply Kd.S_drewN | apply Kd.S_drew)); exact Kd.S_mono HO_13.out (fun _ hk => ⟨hk.1.1, ⟨hk.1.2, hk.2⟩⟩)⟩, ⟨by (try simp only [hl13_4]); (with_reducible repeat (first | apply Kd.R_alloc | apply Kd.R_drewN | apply Kd.R_drew)); exact HO134.out⟩, ⟨by repeat (first | (with_reducible first | exact HB.out | apply below_alloc | apply pw_below_drewN | apply below_drew1) | exact HB.out)⟩⟩
                             ·rw [if_neg c58] at H
                              exact absurd H (by simp)
                            ·rw [if_neg c57] at H
                             exact absurd H (by simp)
                           ·rw [if_neg c56] at H
                            exact absurd H (by simp)
                         ·rw [if_neg c42] at H
                          exact absurd H (by simp)
                        ·rw [if_neg c41] at H
                         have c41b0 : decide ((((rd_T58 x13_4 x15_3).f1).length : Int) < a1) = false := decide_eq_false c41
                         clear c41
                         by_cases c61 : 0 ≤ x17_4
                         ·rw [if_pos c61] at H
                          have c61b0 : decide (0 ≤ x17_4) = true := decide_eq_true c61
                          clear c61
                          by_cases c62 : x17_4 < (x10_3.length : Int)
                          ·rw [if_pos c62] at H
                           have c62b0 : decide (x17_4 < (x10_3.length : Int)) = true := decide_eq_true c62
                           clear c62
                           by_cases c63 : x16_4.length < 17592186044416
                           ·rw [if_pos c63] at H
                            have LMc63 := Aside0.mk c63
                            clear c63
                            obtain ⟨y136, hy136⟩ : ∃ y_ : List Int, y_ = (x16_4 ++ [rd x10_3 x17_4]) := ⟨_, rfl⟩
                            replace H : (oubref7_Plan.l3 k5 a0 a1 l3 x10_3 t109 x13_4 x14_2 x15_3 y136 (wrap64 (x17_4 + 1))) = some (r1, r2) := by first | (rw [hy136]; with_reducible exact H) | (have H2_ := (Option.bind_some _ _).symm.trans H; rw [hy136]; with_reducible exact H2_) | (have H2_ := (Option.bind_some _ _).symm.trans H; with_reducible exact H2_) | with_reducible exact H | (rw [hy136]; exact H) | exact H
                            have Ny136 := Aside0.mk hy136
                            clear hy136
                            have H' := Aside0.mk H
                            clear H
                            have p122 : 0 ≤ (x15_3 : Int) := of_decide_eq_true (by first | (with_reducible assumption) | assumption)
                            have q122 : x15_3 < (x13_4.length : Int) := of_decide_eq_true (by first | (with_reducible assumption) | assumption)
                            obtain ⟨ad122, A122_1, c122_1, e122, hx122_0, hx122_1, hl122_1, hi122_1⟩ := at_T58 (Kd.S_reads' HO_13.out).2.2 x15_3 p122 q122
                            obtain rfl : (⟨go27, 0, none⟩ : Addr) = ad122 := (by injection e122)
                            obtain ⟨ce122, hce122, hMe122, hcc122⟩ := Kd.S_get HO_13.out z58 x15_3 p122 (by first | exact q122 | exact of_decide_eq_true (by first | (with_reducible assumption) | assumption) | (have e_ := (Kd.S_reads' HO_13.out).1; omega))
                            obtain ⟨ve122_1, rfl, ge122_1⟩ := k58_openM hMe122
                            have hv122_1 := hcc122 1 _ rfl
                            rw [add_field _ _ 1 (by omega)] at hv122_1
                            replace hv122_1 := Option.some.inj (hv122_1.symm.trans hx122_1)
                            rw [hv122_1] at ge122_1
                            have HL122_1 := Aside0.mk (show Kd.R (Kd.int .i64) 3 _ _ _ _ ((rd_T58 x13_4 x15_3).f1) from ge122_1)
                            clear hv122_1 ge122_1
                            have HX122_1 := Aside0.mk hx122_1
                            clear hcc122 hce122
                            (first | simp only [add_plain] at hx122_0 | simp only [add_at] at hx122_0 | simp only [Addr.add, Nat.zero_add] at hx122_0 | skip)
                            (first | simp only [add_plain] at hx122_1 | simp only [add_at] at hx122_1 | simp only [Addr.add, Nat.zero_add] at hx122_1 | skip)
                            have HR122_1 := Aside0.mk hi122_1
                            have HC122_1 := Aside0.mk hl122_1
                            clear hi122_1 hl122_1
                            replace p122 := eq_true p122
                            replace q122 := eq_true q122
                            have p135 : 0 ≤ (x17_4 : Int) := of_decide_eq_true (by first | (with_reducible assumption) | assumption)
                            have q135 : x17_4 < (x10_3.length : Int) := of_decide_eq_true (by first | (with_reducible assumption) | assumption)
                            obtain ⟨ad135, e135, hx135_0⟩ := Kd.at_int (Kd.R_reads' HO_10.out).2.2 x17_4 p135 q135
                            cases e135
                            replace p135 := eq_true p135
                            replace q135 := eq_true q135
                            go_wp2_with (first | ((with_reducible refine gate_builtin (b := .append) (xs := #[.tmp 133, .tmp 138]) rfl ?_); at_builtin; refine Kd.R_append (Kd.int .i64) (w0 := w) w.heap.size rfl (.tmp 133) (.tmp 138) 22 3 (.int .i64 0) 8 rfl Tryz.underlying22 info3 rfl (by decide) (by omega) u16 x16_4 (rd x10_3 x17_4) [.int .i64 (rd x10_3 x17_4)] (fun k_ => some k_ ≠ (.slice (some ad135) x10_3.length co31 : Value).ownBlock ∧ some k_ ≠ (.slice (some ad115) t109.length co18 : Value).ownBlock) (fun _ => False) rfl rfl ?aP (fun _ hk => hk.elim) ?aF ?aO ?aB ?aS ?aL ?_; (case aP => exact rfl); (case aB => exact (by repeat (first | (with_reducible first | exact HB.out | apply below_alloc | apply pw_below_drewN | apply below_drew1) | exact HB.out))); (case aF => exact (fun k_ hk => ⟨Kd.fresh' (Kd.R_lt (by (with_reducible repeat (first | apply Kd.R_alloc | apply Kd.R_drewN | apply Kd.R_drew)); exact HO_10.out)) k_ hk, Kd.fresh' (Kd.R_lt (by (with_reducible repeat (first | apply Kd.R_alloc | apply Kd.R_drewN | apply Kd.R_drew)); exact HO_12.out)) k_ hk⟩)); (case aO => exact (by (with_reducible repeat (first | apply Kd.R_alloc | apply Kd.R_drewN | apply Kd.R_drew)); exact HO_16.out)); (case aS => exact (below_size (by repeat (first | (with_reducible first | exact HB.out | apply below_alloc | apply pw_below_drewN | apply below_drew1) | exact HB.out)))); (case aL => have := LMc63.out; omega); intro v137 w64 ho hb hg hat; rw [← Ny136.out] at ho; have n0_ := Aside0.mk (Kd.R_after (ok := (fun k_ => some k_ ≠ (.slice (some ad115) t109.length co18 : Value).ownBlock)) (by (with_reducible repeat (first | apply Kd.R_alloc | apply Kd.R_drewN | apply Kd.R_drew)); exact HO_10.out) hg hat); have n1_ := Aside0.mk (Kd.R_after (ok := (fun k_ => some k_ ≠ (.slice (some ad135) x10_3.length co31 : Value).ownBlock)) (by (with_reducible repeat (first | apply Kd.R_alloc | apply Kd.R_drewN | apply Kd.R_drew)); exact HO_12.out) hg hat); have n2_ := Aside0.mk (Kd.S_after (ok := (fun k_ => some k_ ≠ (.slice (some ad135) x10_3.length co31 : Value).ownBlock ∧ some k_ ≠ (.slice (some ad115) t109.length co18 : Value).ownBlock)) (by (with_reducible repeat (first | apply Kd.S_alloc | apply Kd.S_drewN | apply Kd.S_drew)); exact Kd.S_mono HO_13.out (fun _ hk => ⟨⟨hk.1, hk.2.1⟩, hk.2.2⟩)) hg hat); have n3_ := Aside0.mk (Kd.R_after (ok := (fun k_ => some k_ ≠ (.slice (some ad135) x10_3.length co31 : Value).ownBlock ∧ some k_ ≠ (.slice (some ad115) t109.length co18 : Value).ownBlock ∧ some k_ ≠ (.slice (some ⟨go27, 0, none⟩) x13_4.length co27 : Value).ownBlock)) (by (with_reducible repeat (first | apply Kd.R_alloc | apply Kd.R_drewN | apply Kd.R_drew)); exact Kd.R_mono HL122_1.out (fun _ hk => ⟨⟨hk.1.1, ⟨hk.1.2.1, hk.2⟩⟩, hk.1.2.2⟩)) hg hat); have n4_ := Aside0.mk (hb); have n5_ := Aside0.mk (ho); clear HO_10; clear HO_12; clear HO_13; clear HL122_1; clear HB; clear HO_16; have HO_10 := n0_; have HO_12 := n1_; have HO_13 := n2_; have HL122_1 := n3_; have HB := n4_; have HO138 := n5_; clear n0_ n1_ n2_ n3_ n4_ n5_; clear ho hb hg hat))
                            (try simp only [← hl13_4])
                            go_roundg k5
                            case measure => have := HK1.out; have := HK2.out; have := HK3.out; have := HK4.out; have := HK5.out; omega
                            case rel => exact ⟨(x13_4), (y136), (wrap64 (x17_4 + 1)), (by first | rfl | (simp; done) | (simp [*]; done)), H', ⟨by have := HK1.out; have := HK2.out; have := HK3.out; have := HK4.out; have := HK5.out; omega⟩, ⟨by (try simp only [hl13_4]); (with_reducible repeat (first | apply Kd.R_alloc | apply Kd.R_drewN | apply Kd.R_drew)); exact HO_10.out⟩, ⟨by (try simp only [hl13_4]); (with_reducible repeat (first | apply Kd.R_alloc | apply Kd.R_drewN | apply Kd.R_drew)); exact HO_12.out⟩, ⟨by (try simp only [hl13_4]); (with_reducible repeat (first | apply Kd.S_alloc | apply Kd.S_drewN | apply Kd.S_drew)); exact Kd.S_mono HO_13.out (fun _ hk => ⟨hk.1.1, ⟨hk.1.2, hk.2⟩⟩)⟩, ⟨by (try simp only [hl13_4]); (with_reducible repeat (first | apply Kd.R_alloc | apply Kd.R_drewN | apply Kd.R_drew)); exact HO138.out⟩, ⟨by repeat (first | (with_reducible first | exact HB.out | apply below_alloc | apply pw_below_drewN | apply below_drew1) | exact HB.out)⟩⟩
                           ·rw [if_neg c63] at H
                            exact absurd H (by simp)
                          ·rw [if_neg c62] at H
                           exact absurd H (by simp)
                         ·rw [if_neg c61] at H
                          exact absurd H (by simp)
                       ·rw [if_neg c40] at H
                        exact absurd H (by simp)
                      ·rw [if_neg c39] at H
                       exact absurd H (by simp)
                  ·rw [if_neg c30] at H
                   have c30b0 : decide (x17_4 < (x10_3.length : Int)) = false := decide_eq_false c30
                   clear c30
                   have H' := Aside0.mk H
                   clear H
                   obtain ⟨Ao65, co65, eo65⟩ := Kd.R_slice HO_10.out
                   subst eo65
                   go_wp2
                   (try simp only [← hl13_4])
                   go_roundg k4
                   case measure => have := HK1.out; have := HK2.out; have := HK3.out; have := HK4.out; omega
                   case rel => exact ⟨(x16_4), (x13_4), (wrap64 (x15_3 + 1)), (by first | rfl | (simp; done) | (simp [*]; done)), H', ⟨by have := HK1.out; have := HK2.out; have := HK3.out; have := HK4.out; omega⟩, ⟨by (try simp only [hl13_4]); (with_reducible repeat (first | apply Kd.R_alloc | apply Kd.R_drewN | apply Kd.R_drew)); exact Kd.R_mono HO_16.out (fun _ hk => hk.2)⟩, ⟨by (try simp only [hl13_4]); (with_reducible repeat (first | apply Kd.R_alloc | apply Kd.R_drewN | apply Kd.R_drew)); exact Kd.R_mono HO_12.out (fun _ hk => hk.2)⟩, ⟨by (try simp only [hl13_4]); (with_reducible repeat (first | apply Kd.S_alloc | apply Kd.S_drewN | apply Kd.S_drew)); exact Kd.S_mono HO_13.out (fun _ hk => ⟨hk.2.2, hk.2.1⟩)⟩, ⟨by repeat (first | (with_reducible first | exact HB.out | apply below_alloc | apply pw_below_drewN | apply below_drew1) | exact HB.out)⟩⟩
               ·rw [if_neg c26] at H
                exact absurd H (by simp)
              ·rw [if_neg c25] at H
               have c25b0 : (t116 == x14_2) = false := beq_eq_false_iff_ne.mpr c25
               have c25b1 : (t116 != x14_2) = true := bne_iff_ne.mpr c25
               have H' := Aside0.mk H
               clear H
               have p115 : 0 ≤ (x15_3 : Int) := of_decide_eq_true (by first | (with_reducible assumption) | assumption)
               have q115 : x15_3 < (t109.length : Int) := of_decide_eq_true (by first | (with_reducible assumption) | assumption)
               obtain ⟨ad115, e115, hx115_0⟩ := Kd.at_int (Kd.R_reads' HO_12.out).2.2 x15_3 p115 q115
               cases e115
               replace p115 := eq_true p115
               replace q115 := eq_true q115
               go_wp2_with (first | ((with_reducible refine gate_callee (f := 29) rfl ?_); refine goesL_ (some 63) rfl rfl Tryz.func29 (by kernel_rfl) rfl #[.int .i64 (rd t109 x15_3)] rfl (by (try simp only [List.map_toArray, List.map_cons, List.map_nil]); first | done | rfl | (simp only [List.length_drop, List.length_take]; rfl)) ?_; (with_reducible refine (oubref7_Level.calls k3 (rd t109 x15_3) t116 _ A24.out).mono ?_); rintro e w' ⟨rfl, ⟨nd, rfl⟩⟩; refine ⟨_, rfl, ?_⟩))
               go_roundg k3
               case measure => have := HK1.out; have := HK2.out; have := HK3.out; omega
               case rel => exact ⟨(x10_3), (x13_3), (wrap64 (x15_3 + 1)), (by first | rfl | (simp; done) | (simp [*]; done)), H', ⟨by have := HK1.out; have := HK2.out; have := HK3.out; omega⟩, ⟨by (with_reducible repeat (first | apply Kd.R_alloc | apply Kd.R_drewN | apply Kd.R_drew)); exact HO_10.out⟩, ⟨by (with_reducible repeat (first | apply Kd.R_alloc | apply Kd.R_drewN | apply Kd.R_drew)); exact HO_12.out⟩, ⟨by (with_reducible repeat (first | apply Kd.S_alloc | apply Kd.S_drewN | apply Kd.S_drew)); exact HO_13.out⟩, ⟨by repeat (first | (with_reducible first | exact HB.out | apply below_alloc | apply pw_below_drewN | apply below_drew1) | exact HB.out)⟩⟩
             ·rw [if_neg c23] at H
              exact absurd H (by simp)
            ·rw [if_neg c22] at H
             have c22b0 : decide (x15_3 < (t109.length : Int)) = false := decide_eq_false c22
             clear c22
             have H' := Aside0.mk H
             clear H
             go_wp2
             go_roundg k3
             case measure => have := HK1.out; have := HK2.out; have := HK3.out; omega
             case rel => exact ⟨(x10_3), (x13_3), (wrap64 (x14_2 - 1)), (by first | rfl | (simp; done) | (simp [*]; done)), H', ⟨by have := HK1.out; have := HK2.out; have := HK3.out; omega⟩, ⟨by (with_reducible repeat (first | apply Kd.R_alloc | apply Kd.R_drewN | apply Kd.R_drew)); exact HO_10.out⟩, ⟨by (with_reducible repeat (first | apply Kd.R_alloc | apply Kd.R_drewN | apply Kd.R_drew)); exact HO_12.out⟩, ⟨by (with_reducible repeat (first | apply Kd.S_alloc | apply Kd.S_drewN | apply Kd.S_drew)); exact HO_13.out⟩, ⟨by repeat (first | (with_reducible first | exact HB.out | apply below_alloc | apply pw_below_drewN | apply below_drew1) | exact HB.out)⟩⟩
         ·rw [if_neg c21] at H
          have c21b0 : decide (0 ≤ x14_2) = false := decide_eq_false c21
          clear c21
          simp only [Option.some.injEq, Prod.mk.injEq] at H
          obtain ⟨rfl, rfl⟩ := H
          go_wp2
          go_ret2
          exact ⟨_, _, by first | rfl | (simp [errW_none, errW_some] <;> rfl) | (simp [*, errW_none, errW_some] <;> rfl), by (with_reducible repeat (first | apply Kd.S_alloc | apply Kd.S_drewN | apply Kd.S_drew)); exact Kd.S_mono HO_13.out (fun _ hk => hk.1), by (with_reducible repeat (first | apply Kd.R_alloc | apply Kd.R_drewN | apply Kd.R_drew)); exact Kd.R_mono HO_10.out (fun _ hk => trivial), by repeat (first | (with_reducible first | exact HB.out | apply below_alloc | apply pw_below_drewN | apply below_drew1) | exact HB.out)⟩
      ·rw [if_neg c14] at H
       exact absurd H (by simp)
     ·rw [if_neg c13] at H
      exact absurd H (by simp)
 ·replace c6 := Bool.eq_false_iff.mpr c6
  subst c6
  have H1 : (some (([] : List (S58)), ([] : List Int))) = some (r1, r2) := by rw [if_neg (show ¬ (false = true) by decide)] at H; exact H
  clear H
  have H := H1
  clear H1
  simp only [Option.some.injEq, Prod.mk.injEq] at H
  obtain ⟨rfl, rfl⟩ := H
  go_enter Tryz.func7, Tryz.ntmps7
  go_wp2_with (first | ((with_reducible refine gate_callee (f := 26) rfl ?_); refine goesL_ (some 24) rfl rfl Tryz.func26 (by kernel_rfl) rfl #[.int .i64 a0, .int .i64 a1, .slice A2 l2.length c2, .slice A3 l3.length c3] rfl (by (try simp only [List.map_toArray, List.map_cons, List.map_nil]); first | done | rfl | (simp only [List.length_drop, List.length_take]; rfl)) ?_; (with_reducible refine (oubref7_MayPlan.calls k a0 a1 _ _ l2 _ _ l3 false _ ?side1 ?side2 ?side3 ?side4 A5.out).mono ?_); (case side1 => repeat (first | exact HR2.out | (with_reducible refine Kd.C_alloc ?_ _) | (with_reducible refine Kd.C_drewN ?_ _) | (with_reducible refine Kd.C_drew ?_))); (case side2 => exact HC2.out); (case side3 => repeat (first | exact HR3.out | (with_reducible refine Kd.C_alloc ?_ _) | (with_reducible refine Kd.C_drewN ?_ _) | (with_reducible refine Kd.C_drew ?_))); (case side4 => exact HC3.out); rintro e w' ⟨rfl, ⟨nd, rfl⟩⟩; refine ⟨_, rfl, ?_⟩))
  go_ret2
  exact ⟨_, _, by first | rfl | (simp [errW_none, errW_some] <;> rfl) | (simp [*, errW_none, errW_some] <;> rfl), by first | exact Kd.S_nil _ _ _ _ _ | exact Kd.N_nil _ _ _ _ _ | exact Kd.V_nil _ _ _ _ _ | exact Kd.Q_nil _ _ _ _ _ | exact Kd.R_nil _ _ _ _ _, by first | exact Kd.R_nil _ _ _ _ _ | exact Kd.N_nil _ _ _ _ _ | exact Kd.V_nil _ _ _ _ _ | exact Kd.Q_nil _ _ _ _ _ | exact Kd.S_nil _ _ _ _ _, by repeat (first | (with_reducible first | exact HB.out | apply below_alloc | apply pw_below_drewN | apply below_drew1) | exact HB.out)⟩

end Go.Proofs.YtfliapankgdeeaaGreat.P

namespace Go.Proofs.YtfliapankgdeeaaGreat.P
open Go.RowKit Go.Proofs.YtfliapankgdeeaaGreat.G Go.Proofs.YtfliapankgdeeaaGreatW.PrintWords Go.Proofs.YtfliapankgdeeaaGreatW.PrintLast Go.Proofs.YtfliapankgdeeaaGreatW.PrintMore
attribute [local go_sem] max2_int min2_int max_two min_two max_three min_three max_four min_four   -- for this text's walks alone
set_option linter.unusedVariables false
set_option linter.unusedSimpArgs false

attribute [local go_sem high] eqA35
/-! ### oublaw11_EvictPlans: function 3 -/
mutual
def oublaw11_EvictPlans.j0 : Nat → Int → Int → List Int → List (S35) → Int → Bool → Option (Bool)
 | 0, _, _, _, _, _, _ => none
 | k + 1, x0, x1, x2, x3, x4, x27 => if x27 = true then ((oublaw11_first.f).bind fun t140 => (some t140)) else ((oubref_CopyInts.f x2).bind fun t141 => ((some (([] : List (S35)) : List (S35))).bind fun y144 => (if y144.length + x3.length < 8796093022208 then ((some (y144 ++ x3 : List (S35))).bind fun y147 => ((evict_Plan.f x0 x1 t141 y147).bind fun bt150 => ((oublaw11_items.f k x3).bind fun t156 => ((oubref7_Plan.f k x0 x1 x2 t156).bind fun bt159 => (oublaw11_EvictPlans.l0 k x0 x2 x3 x4 t141 y147 bt150.1 bt150.2 bt159.1 bt159.2 0))))) else (none))))
def oublaw11_EvictPlans.l0 : Nat → Int → List Int → List (S35) → Int → List Int → List (S35) → List (S42) → List Int → List (S58) → List Int → Int → Option (Bool)
 | 0, _, _, _, _, _, _, _, _, _, _, _ => none
 | k + 1, x0, x2, x3, x4, x11, x12, x13, x14, x15, x16, x17 => if x17 < (x3.length : Int) then (if 0 ≤ x17 then (if x17 < (x12.length : Int) then (if (!(((rd_T35 x12 x17).f0) == ((rd_T35 x3 x17).f0)) || (!(((rd_T35 x12 x17).f1) == ((rd_T35 x3 x17).f1)))) = true then (some false) else (oublaw11_EvictPlans.l0 k x0 x2 x3 x4 x11 x12 x13 x14 x15 x16 (wrap64 (x17 + 1)))) else (none)) else (none)) else ((oublaw11_first.f).bind fun t167 => (if t167 = true then ((oublaw11_fills.f k x13).bind fun t168 => ((oubref7_SameFills.f k t168 x15).bind fun t171 => (if t171 = true then ((oubref_Ints.f k x14 x16).bind fun t172 => (if t172 = true then ((evict_Deepest.f k x0 x2 x4).bind fun t173 => ((oubref7_Deepest.f k x0 x2 x4).bind fun t174 => (if t173 = t174 then ((oubref_Ints.f k x11 x2).bind fun t175 => (some t175)) else (some false)))) else (some false))) else (some false)))) else (some false)))
end
def oublaw11_EvictPlans.f (k : Nat) (a0 : Int) (a1 : Int) (l2 : List Int) (l3 : List (S35)) (a4 : Int) : Option (Bool) := (oublaw11_first.f).bind fun t139 => (if t139 = true then (if (l2.length : Int) > 60 then (oublaw11_EvictPlans.j0 k a0 a1 l2 l3 a4 true) else (oublaw11_EvictPlans.j0 k a0 a1 l2 l3 a4 (decide ((l3.length : Int) > 60)))) else (some false))
theorem oublaw11_EvictPlans.mono_l : ∀ k, (∀ y0 y1 y2 y3 y4 y5, LeO (oublaw11_EvictPlans.j0 k y0 y1 y2 y3 y4 y5) (oublaw11_EvictPlans.j0 (k + 1) y0 y1 y2 y3 y4 y5)) ∧ (∀ y0 y1 y2 y3 y4 y5 y6 y7 y8 y9 y10, LeO (oublaw11_EvictPlans.l0 k y0 y1 y2 y3 y4 y5 y6 y7 y8 y9 y10) (oublaw11_EvictPlans.l0 (k + 1) y0 y1 y2 y3 y4 y5 y6 y7 y8 y9 y10))
 | 0 => ⟨fun _ _ _ _ _ _ r h => by simp [oublaw11_EvictPlans.j0] at h, fun _ _ _ _ _ _ _ _ _ _ _ r h => by simp [oublaw11_EvictPlans.l0] at h⟩
 | k + 1 => by
  obtain ⟨ih0, ih1⟩ := oublaw11_EvictPlans.mono_l k
  refine ⟨?_, ?_⟩
  ·intro y0 y1 y2 y3 y4 y5
   unfold oublaw11_EvictPlans.j0
   repeat' first
   | (with_reducible exact ih0 _ _ _ _ _ _)
   | (with_reducible exact ih1 _ _ _ _ _ _ _ _ _ _ _)
   | (with_reducible exact evict_Deepest.mono _ _ _ _)
   | (with_reducible exact oublaw11_fills.mono _ _)
   | (with_reducible exact oublaw11_items.mono _ _)
   | (with_reducible exact oubref7_Deepest.mono _ _ _ _)
   | (with_reducible exact oubref7_Plan.mono _ _ _ _ _)
   | (with_reducible exact oubref7_SameFills.mono _ _ _)
   | (with_reducible exact oubref_Ints.mono _ _ _)
   | (with_reducible exact LeO.refl _)
   | (with_reducible exact LeO.none _)
   | (with_reducible refine LeO.ite ?_ ?_)
   | (with_reducible refine LeO.bind ?_ (fun _ => ?_))
   | exact ih0 _ _ _ _ _ _
   | exact ih1 _ _ _ _ _ _ _ _ _ _ _
   | exact evict_Deepest.mono _ _ _ _
   | exact oublaw11_fills.mono _ _
   | exact oublaw11_items.mono _ _
   | exact oubref7_Deepest.mono _ _ _ _
   | exact oubref7_Plan.mono _ _ _ _ _
   | exact oubref7_SameFills.mono _ _ _
   | exact oubref_Ints.mono _ _ _
   | exact LeO.none _
   | refine LeO.ite ?_ ?_
   | refine LeO.bind ?_ (fun _ => ?_)
  ·intro y0 y1 y2 y3 y4 y5 y6 y7 y8 y9 y10
   unfold oublaw11_EvictPlans.l0
   repeat' first
   | (with_reducible exact ih0 _ _ _ _ _ _)
   | (with_reducible exact ih1 _ _ _ _ _ _ _ _ _ _ _)
   | (with_reducible exact evict_Deepest.mono _ _ _ _)
   | (with_reducible exact oublaw11_fills.mono _ _)
   | (with_reducible exact oublaw11_items.mono _ _)
   | (with_reducible exact oubref7_Deepest.mono _ _ _ _)
   | (with_reducible exact oubref7_Plan.mono _ _ _ _ _)
   | (with_reducible exact oubref7_SameFills.mono _ _ _)
   | (with_reducible exact oubref_Ints.mono _ _ _)
   | (with_reducible exact LeO.refl _)
   | (with_reducible exact LeO.none _)
   | (with_reducible refine LeO.ite ?_ ?_)
   | (with_reducible refine LeO.bind ?_ (fun _ => ?_))
   | exact ih0 _ _ _ _ _ _
   | exact ih1 _ _ _ _ _ _ _ _ _ _ _
   | exact evict_Deepest.mono _ _ _ _
   | exact oublaw11_fills.mono _ _
   | exact oublaw11_items.mono _ _
   | exact oubref7_Deepest.mono _ _ _ _
   | exact oubref7_Plan.mono _ _ _ _ _
   | exact oubref7_SameFills.mono _ _ _
   | exact oubref_Ints.mono _ _ _
   | exact LeO.none _
   | refine LeO.ite ?_ ?_
   | refine LeO.bind ?_ (fun _ => ?_)
theorem oublaw11_EvictPlans.mono : ∀ a0 a1 a2 a3 a4 k, LeO (oublaw11_EvictPlans.f k a0 a1 a2 a3 a4) (oublaw11_EvictPlans.f (k + 1) a0 a1 a2 a3 a4) := by
 intro a0 a1 a2 a3 a4 k
 obtain ⟨ih0, ih1⟩ := oublaw11_EvictPlans.mono_l k
 unfold oublaw11_EvictPlans.f
 repeat' first
   | (with_reducible exact ih0 _ _ _ _ _ _)
   | (with_reducible exact ih1 _ _ _ _ _ _ _ _ _ _ _)
   | (with_reducible exact evict_Deepest.mono _ _ _ _)
   | (with_reducible exact oublaw11_fills.mono _ _)
   | (with_reducible exact oublaw11_items.mono _ _)
   | (with_reducible exact oubref7_Deepest.mono _ _ _ _)
   | (with_reducible exact oubref7_Plan.mono _ _ _ _ _)
   | (with_reducible exact oubref7_SameFills.mono _ _ _)
   | (with_reducible exact oubref_Ints.mono _ _ _)
   | (with_reducible exact LeO.refl _)
   | (with_reducible exact LeO.none _)
   | (with_reducible refine LeO.ite ?_ ?_)
   | (with_reducible refine LeO.bind ?_ (fun _ => ?_))
   | exact ih0 _ _ _ _ _ _
   | exact ih1 _ _ _ _ _ _ _ _ _ _ _
   | exact evict_Deepest.mono _ _ _ _
   | exact oublaw11_fills.mono _ _
   | exact oublaw11_items.mono _ _
   | exact oubref7_Deepest.mono _ _ _ _
   | exact oubref7_Plan.mono _ _ _ _ _
   | exact oubref7_SameFills.mono _ _ _
   | exact oubref_Ints.mono _ _ _
   | exact LeO.none _
   | refine LeO.ite ?_ ?_
   | refine LeO.bind ?_ (fun _ => ?_)
set_option maxHeartbeats 8000000 in
set_option maxRecDepth 100000 in
theorem oublaw11_EvictPlans.calls (k : Nat) (a0 : Int) (a1 : Int) (A2 : Option Addr) (c2 : Nat) (l2 : List Int) (A3 : Option Addr) (c3 : Nat) (l3 : List (S35)) (a4 : Int) (r : Bool) (w : World) (hr2 : Kd.C (Kd.int .i64) w A2 l2.length l2) (hc2 : l2.length ≤ c2) (hr3 : Kd.C k35 w A3 l3.length l3) (hc3 : l3.length ≤ c3) (HT : Aside0 (r = true)) (h : oublaw11_EvictPlans.f k a0 a1 l2 l3 a4 = some r) :
  Calls Tryz.prog 3 #[.int .i64 a0, .int .i64 a1, .slice A2 l2.length c2, .slice A3 l3.length c3, .int .i64 a4] w fun e w' => e = .returned (.bool r) ∧ Below w.heap.size w w' := by
 have hu35 := Tryz.underlying35
 have HR2 := Aside0.mk hr2
 have HC2 := Aside0.mk hc2
 clear hr2 hc2
 have HR3 := Aside0.mk hr3
 have HC3 := Aside0.mk hc3
 clear hr3 hc3
 have HB := Aside0.mk (Below.refl w.heap.size w)
 have H : ((oublaw11_first.f).bind fun t139 => (if t139 = true then (if (l2.length : Int) > 60 then (oublaw11_EvictPlans.j0 k a0 a1 l2 l3 a4 true) else (oublaw11_EvictPlans.j0 k a0 a1 l2 l3 a4 (decide ((l3.length : Int) > 60)))) else (some false))) = some r := h
 clear h
 replace H := Option.bind_eq_some_iff.mp H
 obtain ⟨t139, A60, H⟩ := H
 replace H : (if t139 = true then (if (l2.length : Int) > 60 then (oublaw11_EvictPlans.j0 k a0 a1 l2 l3 a4 true) else (oublaw11_EvictPlans.j0 k a0 a1 l2 l3 a4 (decide ((l3.length : Int) > 60)))) else (some false)) = some r := H
 have A6 := Aside0.mk A60
 clear A60
 by_cases c7 : t139 = true
 ·subst c7
  have H1 : (if (l2.length : Int) > 60 then (oublaw11_EvictPlans.j0 k a0 a1 l2 l3 a4 true) else (oublaw11_EvictPlans.j0 k a0 a1 l2 l3 a4 (decide ((l3.length : Int) > 60)))) = some r := by rw [if_pos rfl] at H; exact H
  clear H
  have H := H1
  clear H1
  have HC8 := Aside0.mk H
  clear H
  go_enter Tryz.func3, Tryz.ntmps3
  go_upto_region 3 with (first | (go_at_call 4; (with_reducible refine (oublaw11_first.calls  true _ A6.out).mono ?_); rintro e w9 ⟨rfl, hb⟩; have n0_ := Aside0.mk (below_step (by repeat (first | (with_reducible first | exact HB.out | apply below_alloc | apply pw_below_drewN | apply below_drew1) | exact HB.out)) hb); clear HB; have HB := n0_; clear n0_; (try clear hb); (try clear hb2); (try clear hk); (try clear hi)))
  repeat (go_quiet (first | (go_at_call 4; (with_reducible refine (oublaw11_first.calls  true _ A6.out).mono ?_); rintro e w9 ⟨rfl, hb⟩; have n0_ := Aside0.mk (below_step (by repeat (first | (with_reducible first | exact HB.out | apply below_alloc | apply pw_below_drewN | apply below_drew1) | exact HB.out)) hb); clear HB; have HB := n0_; clear n0_; (try clear hb); (try clear hb2); (try clear hk); (try clear hi))); go_upto_region 3 with (first | (go_at_call 4; (with_reducible refine (oublaw11_first.calls  true _ A6.out).mono ?_); rintro e w9 ⟨rfl, hb⟩; have n0_ := Aside0.mk (below_step (by repeat (first | (with_reducible first | exact HB.out | apply below_alloc | apply pw_below_drewN | apply below_drew1) | exact HB.out)) hb); clear HB; have HB := n0_; clear n0_; (try clear hb); (try clear hb2); (try clear hk); (try clear hi))))
  (try simp only [Act.put, List.setIfInBounds_toArray, List.set_cons_zero, List.set_cons_succ])
  go_cut [27] (fun v27 wc => ∃ (kq : Nat) (x27_7 : Bool), v27 = .bool x27_7 ∧ Aside0 (oublaw11_EvictPlans.j0 kq a0 a1 l2 l3 a4 x27_7 = some r) ∧ Aside0 (kq ≤ k) ∧ Aside0 (Below w.heap.size w wc))
  case first =>
   have H := HC8.out
   clear HC8
   by_cases c10 : (l2.length : Int) > 60
   ·rw [if_pos c10] at H
    have c10b0 : decide (60 < (l2.length : Int)) = true := decide_eq_true c10
    have c10b1 : decide (60 < l2.length) = true := decide_eq_true (by omega)
    clear c10
    (first | rw [c10b0] | (simp only [i64_w, i32_w]; rw [c10b0]) | skip)
    have H' := Aside0.mk H
    clear H
    go_wp2
    repeat (go_quiet (fail); try go_wp2)
    go_meet
    case rel => exact ⟨_, (true), (by first | rfl | (simp; done) | (simp [*]; done)), H', ⟨by first | omega | exact Nat.le_refl _⟩, ⟨by repeat (first | (with_reducible first | exact HB.out | apply below_alloc | apply pw_below_drewN | apply below_drew1) | exact HB.out)⟩⟩
   ·rw [if_neg c10] at H
    have c10b0 : decide (60 < (l2.length : Int)) = false := decide_eq_false c10
    have c10b1 : decide (60 < l2.length) = false := decide_eq_false (by omega)
    clear c10
    (first | rw [c10b0] | (simp only [i64_w, i32_w]; rw [c10b0]) | skip)
    have H' := Aside0.mk H
    clear H
    go_wp2
    repeat (go_quiet (fail); try go_wp2)
    go_meet
    case rel => exact ⟨_, (decide ((l3.length : Int) > 60)), (by first | rfl | (simp; done) | (simp [*]; done)), H', ⟨by first | omega | exact Nat.le_refl _⟩, ⟨by repeat (first | (with_reducible first | exact HB.out | apply below_alloc | apply pw_below_drewN | apply below_drew1) | exact HB.out)⟩⟩
  case rest =>
   clear HC8
   try clear c1
   try clear c2
   try clear p2
   try clear c3
   try clear c7
   try clear c10
   try clear c10b0
   try clear c10b1
   obtain ⟨kq, x27_7, rfl, HA, HJ7, HB⟩ := hcut
   cases kq with
   | zero => exact absurd HA.out (by simp [oublaw11_EvictPlans.j0])
   | succ kj7 =>
    have H := HA.out
    clear HA
    simp only [oublaw11_EvictPlans.j0] at H
    by_cases c11 : x27_7 = true
    ·subst c11
     have H1 : ((oublaw11_first.f).bind fun t140 => (some t140)) = some r := by rw [if_pos rfl] at H; exact H
     clear H
     have H := H1
     clear H1
     replace H := Option.bind_eq_some_iff.mp H
     obtain ⟨t140, A120, H⟩ := H
     replace H : (some t140) = some r := H
     have A12 := Aside0.mk A120
     clear A120
     obtain rfl := Option.some.inj H
     go_wp2_with (first | (go_at_call 4; (with_reducible refine (oublaw11_first.calls  t140 _ A12.out).mono ?_); rintro e w13 ⟨rfl, hb⟩; have n0_ := Aside0.mk (below_step (by repeat (first | (with_reducible first | exact HB.out | apply below_alloc | apply pw_below_drewN | apply below_drew1) | exact HB.out)) hb); clear HB; have HB := n0_; clear n0_; (try clear hb); (try clear hb2); (try clear hk); (try clear hi)))
     repeat (go_quiet (first | (go_at_call 4; (with_reducible refine (oublaw11_first.calls  t140 _ A12.out).mono ?_); rintro e w13 ⟨rfl, hb⟩; have n0_ := Aside0.mk (below_step (by repeat (first | (with_reducible first | exact HB.out | apply below_alloc | apply pw_below_drewN | apply below_drew1) | exact HB.out)) hb); clear HB; have HB := n0_; clear n0_; (try clear hb); (try clear hb2); (try clear hk); (try clear hi))); try go_wp2_with (first | (go_at_call 4; (with_reducible refine (oublaw11_first.calls  t140 _ A12.out).mono ?_); rintro e w13 ⟨rfl, hb⟩; have n0_ := Aside0.mk (below_step (by repeat (first | (with_reducible first | exact HB.out | apply below_alloc | apply pw_below_drewN | apply below_drew1) | exact HB.out)) hb); clear HB; have HB := n0_; clear n0_; (try clear hb); (try clear hb2); (try clear hk); (try clear hi))))
     go_ret
     exact ⟨by first | rfl | (simp [errW_none, errW_some] <;> rfl) | (simp [*, errW_none, errW_some] <;> rfl), by repeat (first | (with_reducible first | exact HB.out | apply below_alloc | apply pw_below_drewN | apply below_drew1) | exact HB.out)⟩
    ·replace c11 := Bool.eq_false_iff.mpr c11
     subst c11
     have H1 : ((oubref_CopyInts.f l2).bind fun t141 => ((some (([] : List (S35)) : List (S35))).bind fun y144 => (if y144.length + l3.length < 8796093022208 then ((some (y144 ++ l3 : List (S35))).bind fun y147 => ((evict_Plan.f a0 a1 t141 y147).bind fun bt150 => ((oublaw11_items.f kj7 l3).bind fun t156 => ((oubref7_Plan.f kj7 a0 a1 l2 t156).bind fun bt159 => (oublaw11_EvictPlans.l0 kj7 a0 l2 l3 a4 t141 y147 bt150.1 bt150.2 bt159.1 bt159.2 0))))) else (none)))) = some r := by rw [if_neg (show ¬ (false = true) by decide)] at H; exact H
     clear H
     have H := H1
     clear H1
     replace H := Option.bind_eq_some_iff.mp H
     obtain ⟨t141, A140, H⟩ := H
     replace H : ((some (([] : List (S35)) : List (S35))).bind fun y144 => (if y144.length + l3.length < 8796093022208 then ((some (y144 ++ l3 : List (S35))).bind fun y147 => ((evict_Plan.f a0 a1 t141 y147).bind fun bt150 => ((oublaw11_items.f kj7 l3).bind fun t156 => ((oubref7_Plan.f kj7 a0 a1 l2 t156).bind fun bt159 => (oublaw11_EvictPlans.l0 kj7 a0 l2 l3 a4 t141 y147 bt150.1 bt150.2 bt159.1 bt159.2 0))))) else (none))) = some r := H
     have A14 := Aside0.mk A140
     clear A140
     obtain ⟨y144, hy144⟩ : ∃ y_ : List (S35), y_ = (([] : List (S35))) := ⟨_, rfl⟩
     replace H : (if y144.length + l3.length < 8796093022208 then ((some (y144 ++ l3 : List (S35))).bind fun y147 => ((evict_Plan.f a0 a1 t141 y147).bind fun bt150 => ((oublaw11_items.f kj7 l3).bind fun t156 => ((oubref7_Plan.f kj7 a0 a1 l2 t156).bind fun bt159 => (oublaw11_EvictPlans.l0 kj7 a0 l2 l3 a4 t141 y147 bt150.1 bt150.2 bt159.1 bt159.2 0))))) else (none)) = some r := by first | (rw [hy144]; with_reducible exact H) | (have H2_ := (Option.bind_some _ _).symm.trans H; rw [hy144]; with_reducible exact H2_) | (have H2_ := (Option.bind_some _ _).symm.trans H; with_reducible exact H2_) | with_reducible exact H | (rw [hy144]; exact H) | exact H
     have Ny144 := Aside0.mk hy144
     clear hy144
     by_cases c15 : y144.length + l3.length < 8796093022208
     ·rw [if_pos c15] at H
      have LMc15 := Aside0.mk c15
      clear c15
      obtain ⟨y147, hy147⟩ : ∃ y_ : List (S35), y_ = (y144 ++ l3) := ⟨_, rfl⟩
      replace H : ((evict_Plan.f a0 a1 t141 y147).bind fun bt150 => ((oublaw11_items.f kj7 l3).bind fun t156 => ((oubref7_Plan.f kj7 a0 a1 l2 t156).bind fun bt159 => (oublaw11_EvictPlans.l0 kj7 a0 l2 l3 a4 t141 y147 bt150.1 bt150.2 bt159.1 bt159.2 0)))) = some r := by first | (rw [hy147]; with_reducible exact H) | (have H2_ := (Option.bind_some _ _).symm.trans H; rw [hy147]; with_reducible exact H2_) | (have H2_ := (Option.bind_some _ _).symm.trans H; with_reducible exact H2_) | with_reducible exact H | (rw [hy147]; exact H) | exact H
      have Ny147 := Aside0.mk hy147
      clear hy147
      replace H := Option.bind_eq_some_iff.mp H
      obtain ⟨⟨t150, t151⟩, A160, H⟩ := H
      replace H : ((oublaw11_items.f kj7 l3).bind fun t156 => ((oubref7_Plan.f kj7 a0 a1 l2 t156).bind fun bt159 => (oublaw11_EvictPlans.l0 kj7 a0 l2 l3 a4 t141 y147 t150 t151 bt159.1 bt159.2 0))) = some r := H
      have A16 := Aside0.mk A160
      clear A160
      replace H := Option.bind_eq_some_iff.mp H
      obtain ⟨t156, A170, H⟩ := H
      replace H : ((oubref7_Plan.f kj7 a0 a1 l2 t156).bind fun bt159 => (oublaw11_EvictPlans.l0 kj7 a0 l2 l3 a4 t141 y147 t150 t151 bt159.1 bt159.2 0)) = some r := H
      have A17 := Aside0.mk A170
      clear A170
      replace H := Option.bind_eq_some_iff.mp H
      obtain ⟨⟨t159, t160⟩, A180, H⟩ := H
      replace H : (oublaw11_EvictPlans.l0 kj7 a0 l2 l3 a4 t141 y147 t150 t151 t159 t160 0) = some r := H
      have A18 := Aside0.mk A180
      clear A180
      have H' := Aside0.mk H
      clear H
      go_wp2_with (first | (go_at_call 5; (with_reducible refine (oubref_CopyInts.calls _ _ l2 t141 _ ?side1 ?side2 A14.out).mono ?_); (case side1 => repeat (first | exact (Kd.C_below HR2.out HB.out) | (with_reducible refine Kd.C_alloc ?_ _) | (with_reducible refine Kd.C_drewN ?_ _) | (with_reducible refine Kd.C_drew ?_))); (case side2 => exact HC2.out); rintro e w19 ⟨v142, rfl, ho0, hb⟩; have n0_ := Aside0.mk (Kd.R_lower ho0 (below_size (by repeat (first | (with_reducible first | exact HB.out | apply below_alloc | apply pw_below_drewN | apply below_drew1) | exact HB.out)))); have n1_ := Aside0.mk (below_step (by repeat (first | (with_reducible first | exact HB.out | apply below_alloc | apply pw_below_drewN | apply below_drew1) | exact HB.out)) hb); clear HB; have HO143 := n0_; have HB := n1_; clear n0_ n1_; (try clear hb); (try clear hb2); (try clear hk); (try clear hi); (try clear ho0)) | ((with_reducible refine gate_dst (N := 31) rfl ?_); (try (refine gate_guard (by rfl) ?_; dsimp only)); refine Kd.R_lit k35 _ 35 ?hg (N := 31) ?hd (xs := ([] : List (S35))) (inner := []) (ok := fun _ => True) (okp := fun _ => True) ?hr ?hp (fun _ hk => hk) trivial (Below.refl _ _) (Nat.le_refl _) (by simp) ?_; (case hd => rfl); (case hg => rfl); (case hr => first | (go_simp; done) | (go_simp; rfl)); (case hp => exact (Reps.none _ _)); intro v145 w20 ho21 hb hg_ hnew_; clear hg_ hnew_; (first | rw [← Ny144.out] at ho21 | (simp only [Int.reduceToNat] at ho21; rw [← Ny144.out] at ho21)); have n0_ := Aside0.mk (Kd.R_below (by (with_reducible repeat (first | apply Kd.R_alloc | apply Kd.R_drewN | apply Kd.R_drew)); exact HO143.out) hb); have n1_ := Aside0.mk (Kd.R_lower ho21 (below_size (by repeat (first | (with_reducible first | exact HB.out | apply below_alloc | apply pw_below_drewN | apply below_drew1) | exact HB.out)))); have n2_ := Aside0.mk (below_step (by repeat (first | (with_reducible first | exact HB.out | apply below_alloc | apply pw_below_drewN | apply below_drew1) | exact HB.out)) hb); clear HO143; clear HB; have HO143 := n0_; have HO146 := n1_; have HB := n2_; clear n0_ n1_ n2_; clear hb ho21) | ((with_reducible refine gate_builtin (b := .append) (xs := #[.tmp 31, .tmp 32]) rfl ?_); (try (refine gate_guard (by rfl) ?_; dsimp only)); at_builtin; refine Kd.R_append_rows k35 (w0 := w) w.heap.size rfl (.tmp 31) (.tmp 32) 23 35 (.agg #[(.int .i64 0), (.int .i64 0)]) 16 rfl Tryz.underlying23 info35 rfl (by decide) (by omega) v145 y144 l3 _ _ _ (fun _ => True) (fun _ => False) rfl rfl ?aO ?aR (fun _ _ h => h) (fun _ h => h.elim) ?aF ?aB ?aS ?aL ?_; (case aR => repeat (first | exact (Kd.C_below HR3.out HB.out) | (with_reducible refine Kd.C_alloc ?_ _) | (with_reducible refine Kd.C_drewN ?_ _) | (with_reducible refine Kd.C_drew ?_))); (case aB => exact (by repeat (first | (with_reducible first | exact HB.out | apply below_alloc | apply pw_below_drewN | apply below_drew1) | exact HB.out))); (case aF => exact (fun _ _ => trivial)); (case aO => exact (by (with_reducible repeat (first | apply Kd.R_alloc | apply Kd.R_drewN | apply Kd.R_drew)); exact HO146.out)); (case aS => exact (below_size (by repeat (first | (with_reducible first | exact HB.out | apply below_alloc | apply pw_below_drewN | apply below_drew1) | exact HB.out)))); (case aL => have := LMc15.out; omega); intro v148 w22 ho hb hg hat; rw [← Ny147.out] at ho; have n0_ := Aside0.mk (Kd.R_over' (by (with_reducible repeat (first | apply Kd.R_alloc | apply Kd.R_drewN | apply Kd.R_drew)); exact HO143.out) (Kd.R_typed (by (with_reducible repeat (first | apply Kd.R_alloc | apply Kd.R_drewN | apply Kd.R_drew)); exact HO146.out)) (by decide) hg); have n1_ := Aside0.mk (hb); have n2_ := Aside0.mk (ho); clear HO143; clear HB; clear HO146; have HO143 := n0_; have HB := n1_; have HO149 := n2_; clear n0_ n1_ n2_; clear ho hb hg hat; obtain ⟨Ao23, co23, eo23⟩ := Kd.R_slice HO143.out; subst eo23; obtain ⟨Ao24, co24, eo24⟩ := Kd.R_slice HO149.out; subst eo24) | (go_at_call 6; (with_reducible refine (evict_Plan.calls a0 a1 _ _ t141 _ _ y147 t150 t151 _ ?side1 ?side2 ?side3 ?side4 A16.out).mono ?_); (case side1 => repeat (first | exact (Kd.R_reads' HO143.out).2.2 | (with_reducible refine Kd.C_alloc ?_ _) | (with_reducible refine Kd.C_drewN ?_ _) | (with_reducible refine Kd.C_drew ?_))); (case side2 => exact (Kd.R_reads' HO143.out).2.1); (case side3 => repeat (first | exact (Kd.R_reads' HO149.out).2.2 | (with_reducible refine Kd.C_alloc ?_ _) | (with_reducible refine Kd.C_drewN ?_ _) | (with_reducible refine Kd.C_drew ?_))); (case side4 => exact (Kd.R_reads' HO149.out).2.1); rintro e w25 ⟨v152, v154, rfl, ho0, ho1, hb⟩; have n0_ := Aside0.mk (Kd.R_elder' (by (with_reducible repeat (first | apply Kd.R_alloc | apply Kd.R_drewN | apply Kd.R_drew)); exact HO143.out) (Kd.R_base ho1) hb); have n1_ := Aside0.mk (Kd.R_below (by (with_reducible repeat (first | apply Kd.R_alloc | apply Kd.R_drewN | apply Kd.R_drew)); exact HO149.out) hb); have n2_ := Aside0.mk (Kd.N_lower (Kd.N_mono (ok' := fun k_ => some k_ ≠ (v154 : Value).ownBlock ∧ some k_ ≠ (.slice Ao23 t141.length co23 : Value).ownBlock ∧ some k_ ≠ (.slice Ao24 y147.length co24 : Value).ownBlock) (Kd.S_N (Kd.S_bound ho0)) (fun k_ hk_ => ⟨hk_.1, (Kd.fresh' (Kd.R_lt (by (with_reducible repeat (first | apply Kd.R_alloc | apply Kd.R_drewN | apply Kd.R_drew)); exact HO143.out)) k_ hk_.2.1), (Kd.fresh' (Kd.R_lt (by (with_reducible repeat (first | apply Kd.R_alloc | apply Kd.R_drewN | apply Kd.R_drew)); exact HO149.out)) k_ hk_.2.1)⟩)) (below_size (by repeat (first | (with_reducible first | exact HB.out | apply below_alloc | apply pw_below_drewN | apply below_drew1) | exact HB.out)))); have n3_ := Aside0.mk (Kd.R_lower (Kd.R_new' ho1 (Kd.R_lt (by (with_reducible repeat (first | apply Kd.R_alloc | apply Kd.R_drewN | apply Kd.R_drew)); exact HO143.out))) (below_size (by repeat (first | (with_reducible first | exact HB.out | apply below_alloc | apply pw_below_drewN | apply below_drew1) | exact HB.out)))); have n4_ := Aside0.mk (below_step (by repeat (first | (with_reducible first | exact HB.out | apply below_alloc | apply pw_below_drewN | apply below_drew1) | exact HB.out)) hb); clear HO143; clear HO149; clear HB; have HO143 := n0_; have HO149 := n1_; have HO153 := n2_; have HO155 := n3_; have HB := n4_; clear n0_ n1_ n2_ n3_ n4_; (try clear hb); (try clear hb2); (try clear hk); (try clear hi); (try clear ho0); (try clear ho1)) | (go_at_call 8; (with_reducible refine (oublaw11_items.calls kj7 _ _ l3 t156 _ ?side1 ?side2 A17.out).mono ?_); (case side1 => repeat (first | exact (Kd.C_below HR3.out HB.out) | (with_reducible refine Kd.C_alloc ?_ _) | (with_reducible refine Kd.C_drewN ?_ _) | (with_reducible refine Kd.C_drew ?_))); (case side2 => exact HC3.out); rintro e w26 ⟨v157, rfl, ho0, hb⟩; have n0_ := Aside0.mk (Kd.R_below (by (with_reducible repeat (first | apply Kd.R_alloc | apply Kd.R_drewN | apply Kd.R_drew)); exact HO143.out) hb); have n1_ := Aside0.mk (Kd.R_below (by (with_reducible repeat (first | apply Kd.R_alloc | apply Kd.R_drewN | apply Kd.R_drew)); exact HO149.out) hb); have n2_ := Aside0.mk (Kd.N_elder' (by (with_reducible repeat (first | apply Kd.N_alloc | apply Kd.N_drewN | apply Kd.N_drew)); exact HO153.out) (Kd.R_base ho0) hb); have n3_ := Aside0.mk (Kd.R_below (by (with_reducible repeat (first | apply Kd.R_alloc | apply Kd.R_drewN | apply Kd.R_drew)); exact HO155.out) hb); have n4_ := Aside0.mk (Kd.R_lower ho0 (below_size (by repeat (first | (with_reducible first | exact HB.out | apply below_alloc | apply pw_below_drewN | apply below_drew1) | exact HB.out)))); have n5_ := Aside0.mk (below_step (by repeat (first | (with_reducible first | exact HB.out | apply below_alloc | apply pw_below_drewN | apply below_drew1) | exact HB.out)) hb); clear HO143; clear HO149; clear HO153; clear HO155; clear HB; have HO143 := n0_; have HO149 := n1_; have HO153 := n2_; have HO155 := n3_; have HO158 := n4_; have HB := n5_; clear n0_ n1_ n2_ n3_ n4_ n5_; (try clear hb); (try clear hb2); (try clear hk); (try clear hi); (try clear ho0); obtain ⟨Ao27, co27, eo27⟩ := Kd.R_slice HO158.out; subst eo27) | (go_at_call 7; (with_reducible refine (oubref7_Plan.calls kj7 a0 a1 _ _ l2 _ _ t156 t159 t160 _ ?side1 ?side2 ?side3 ?side4 A18.out).mono ?_); (case side1 => repeat (first | exact (Kd.C_below HR2.out HB.out) | (with_reducible refine Kd.C_alloc ?_ _) | (with_reducible refine Kd.C_drewN ?_ _) | (with_reducible refine Kd.C_drew ?_))); (case side2 => exact HC2.out); (case side3 => repeat (first | exact (Kd.R_reads' HO158.out).2.2 | (with_reducible refine Kd.C_alloc ?_ _) | (with_reducible refine Kd.C_drewN ?_ _) | (with_reducible refine Kd.C_drew ?_))); (case side4 => exact (Kd.R_reads' HO158.out).2.1); rintro e w28 ⟨v161, v163, rfl, ho0, ho1, hb⟩; have n0_ := Aside0.mk (Kd.R_elder' (by (with_reducible repeat (first | apply Kd.R_alloc | apply Kd.R_drewN | apply Kd.R_drew)); exact HO143.out) (Kd.R_base ho1) hb); have n1_ := Aside0.mk (Kd.R_below (by (with_reducible repeat (first | apply Kd.R_alloc | apply Kd.R_drewN | apply Kd.R_drew)); exact HO149.out) hb); have n2_ := Aside0.mk (Kd.N_mono (Kd.N_told (Kd.N_told (Kd.N_old (by (with_reducible repeat (first | apply Kd.N_alloc | apply Kd.N_drewN | apply Kd.N_drew)); exact HO153.out) hb) (Kd.S_base ho0)) (Kd.R_base ho1)) (fun _ h_ => h_.1)); have n3_ := Aside0.mk (Kd.R_elder' (by (with_reducible repeat (first | apply Kd.R_alloc | apply Kd.R_drewN | apply Kd.R_drew)); exact HO155.out) (Kd.R_base ho1) hb); have n4_ := Aside0.mk (Kd.R_below (by (with_reducible repeat (first | apply Kd.R_alloc | apply Kd.R_drewN | apply Kd.R_drew)); exact HO158.out) hb); have n5_ := Aside0.mk (Kd.N_lower (Kd.N_mono (ok' := fun k_ => some k_ ≠ (v163 : Value).ownBlock ∧ some k_ ≠ (.slice Ao23 t141.length co23 : Value).ownBlock ∧ some k_ ≠ (.slice Ao24 y147.length co24 : Value).ownBlock ∧ some k_ ≠ (v152 : Value).ownBlock ∧ some k_ ≠ (v154 : Value).ownBlock ∧ some k_ ≠ (.slice Ao27 t156.length co27 : Value).ownBlock) (Kd.S_N (Kd.S_bound ho0)) (fun k_ hk_ => ⟨hk_.1, (Kd.fresh' (Kd.R_lt (by (with_reducible repeat (first | apply Kd.R_alloc | apply Kd.R_drewN | apply Kd.R_drew)); exact HO143.out)) k_ hk_.2.1), (Kd.fresh' (Kd.R_lt (by (with_reducible repeat (first | apply Kd.R_alloc | apply Kd.R_drewN | apply Kd.R_drew)); exact HO149.out)) k_ hk_.2.1), (Kd.fresh' (Kd.N_lt (by (with_reducible repeat (first | apply Kd.N_alloc | apply Kd.N_drewN | apply Kd.N_drew)); exact HO153.out)) k_ hk_.2.1), (Kd.fresh' (Kd.R_lt (by (with_reducible repeat (first | apply Kd.R_alloc | apply Kd.R_drewN | apply Kd.R_drew)); exact HO155.out)) k_ hk_.2.1), (Kd.fresh' (Kd.R_lt (by (with_reducible repeat (first | apply Kd.R_alloc | apply Kd.R_drewN | apply Kd.R_drew)); exact HO158.out)) k_ hk_.2.1)⟩)) (below_size (by repeat (first | (with_reducible first | exact HB.out | apply below_alloc | apply pw_below_drewN | apply below_drew1) | exact HB.out)))); have n6_ := Aside0.mk (Kd.R_lower (Kd.R_new' (Kd.R_new' ho1 (Kd.R_lt (by (with_reducible repeat (first | apply Kd.R_alloc | apply Kd.R_drewN | apply Kd.R_drew)); exact HO143.out))) (Kd.R_lt (by (with_reducible repeat (first | apply Kd.R_alloc | apply Kd.R_drewN | apply Kd.R_drew)); exact HO155.out))) (below_size (by repeat (first | (with_reducible first | exact HB.out | apply below_alloc | apply pw_below_drewN | apply below_drew1) | exact HB.out)))); have n7_ := Aside0.mk (below_step (by repeat (first | (with_reducible first | exact HB.out | apply below_alloc | apply pw_below_drewN | apply below_drew1) | exact HB.out)) hb); clear HO143; clear HO149; clear HO153; clear HO155; clear HO158; clear HB; have HO143 := n0_; have HO149 := n1_; have HO153 := n2_; have HO155 := n3_; have HO158 := n4_; have HO162 := n5_; have HO164 := n6_; have HB := n7_; clear n0_ n1_ n2_ n3_ n4_ n5_ n6_ n7_; (try clear hb); (try clear hb2); (try clear hk); (try clear hi); (try clear ho0); (try clear ho1)))
      go_loopg [17] kj7 (fun kq v17 w' => ∃ (x17_2 : Int), v17 = .int .i64 x17_2 ∧ Aside0 (oublaw11_EvictPlans.l0 kq a0 l2 l3 a4 t141 y147 t150 t151 t159 t160 x17_2 = some r) ∧ Aside0 (kq ≤ kj7) ∧ Aside0 (Kd.R (Kd.int .i64) 3 w' w.heap.size (fun k_ => some k_ ≠ (v154 : Value).ownBlock ∧ some k_ ≠ (v163 : Value).ownBlock) (.slice Ao23 t141.length co23) t141) ∧ Aside0 (Kd.R k35 35 w' w.heap.size (fun _ => True) (.slice Ao24 y147.length co24) y147) ∧ Aside0 (Kd.N k42 42 w' w.heap.size (fun k_ => some k_ ≠ ((.slice Ao23 t141.length co23) : Value).ownBlock ∧ some k_ ≠ ((.slice Ao24 y147.length co24) : Value).ownBlock ∧ some k_ ≠ (v154 : Value).ownBlock ∧ some k_ ≠ (v161 : Value).ownBlock ∧ some k_ ≠ (v163 : Value).ownBlock) v152 t150) ∧ Aside0 (Kd.R (Kd.int .i64) 3 w' w.heap.size (fun k_ => some k_ ≠ ((.slice Ao23 t141.length co23) : Value).ownBlock ∧ some k_ ≠ (v163 : Value).ownBlock) v154 t151) ∧ Aside0 (Kd.N k58 58 w' w.heap.size (fun k_ => some k_ ≠ ((.slice Ao23 t141.length co23) : Value).ownBlock ∧ some k_ ≠ ((.slice Ao24 y147.length co24) : Value).ownBlock ∧ some k_ ≠ (v152 : Value).ownBlock ∧ some k_ ≠ (v154 : Value).ownBlock ∧ some k_ ≠ (v163 : Value).ownBlock) v161 t159) ∧ Aside0 (Kd.R (Kd.int .i64) 3 w' w.heap.size (fun k_ => some k_ ≠ ((.slice Ao23 t141.length co23) : Value).ownBlock ∧ some k_ ≠ (v154 : Value).ownBlock) v163 t160) ∧ Aside0 (Below w.heap.size w w'))
      case atStart => exact ⟨(0), (by first | rfl | (simp; done) | (simp [*]; done)), H', ⟨Nat.le_refl _⟩, ⟨by (with_reducible repeat (first | apply Kd.R_alloc | apply Kd.R_drewN | apply Kd.R_drew)); exact Kd.R_mono HO143.out (fun _ hk => ⟨hk.1.2, hk.2⟩)⟩, ⟨by (with_reducible repeat (first | apply Kd.R_alloc | apply Kd.R_drewN | apply Kd.R_drew)); exact HO149.out⟩, ⟨by (with_reducible repeat (first | apply Kd.N_alloc | apply Kd.N_drewN | apply Kd.N_drew)); exact Kd.N_mono HO153.out (fun _ hk => ⟨hk.1.1.1.2.1, ⟨hk.1.1.1.2.2, ⟨hk.1.1.1.1, ⟨hk.1.2, hk.2⟩⟩⟩⟩)⟩, ⟨by (with_reducible repeat (first | apply Kd.R_alloc | apply Kd.R_drewN | apply Kd.R_drew)); exact Kd.R_mono HO155.out (fun _ hk => ⟨hk.1.2, hk.2⟩)⟩, ⟨by (with_reducible repeat (first | apply Kd.N_alloc | apply Kd.N_drewN | apply Kd.N_drew)); exact Kd.N_mono HO162.out (fun _ hk => ⟨hk.2.1, ⟨hk.2.2.1, ⟨hk.2.2.2.1, ⟨hk.2.2.2.2.1, hk.1⟩⟩⟩⟩)⟩, ⟨by (with_reducible repeat (first | apply Kd.R_alloc | apply Kd.R_drewN | apply Kd.R_drew)); exact Kd.R_mono HO164.out (fun _ hk => ⟨hk.1.2, hk.2⟩)⟩, ⟨by repeat (first | (with_reducible first | exact HB.out | apply below_alloc | apply pw_below_drewN | apply below_drew1) | exact HB.out)⟩⟩
      case round =>
       clear H'
       try clear c1
       try clear c2
       try clear p2
       try clear c3
       try clear c7
       try clear c10
       try clear c10b0
       try clear c10b1
       try clear c11
       try clear c15
       try clear p2
       obtain ⟨x17_2, rfl, HA, HK2, HO_11, HO_12, HO_13, HO_14, HO_15, HO_16, HB⟩ := hrel
       cases gk with
       | zero => exact absurd HA.out (by simp [oublaw11_EvictPlans.l0])
       | succ k2 =>
        have H := HA.out
        clear HA
        simp only [oublaw11_EvictPlans.l0] at H
        by_cases c29 : x17_2 < (l3.length : Int)
        ·rw [if_pos c29] at H
         have c29b0 : decide (x17_2 < (l3.length : Int)) = true := decide_eq_true c29
         clear c29
         by_cases c30 : 0 ≤ x17_2
         ·rw [if_pos c30] at H
          have c30b0 : decide (0 ≤ x17_2) = true := decide_eq_true c30
          clear c30
          by_cases c31 : x17_2 < (y147.length : Int)
          ·rw [if_pos c31] at H
           have c31b0 : decide (x17_2 < (y147.length : Int)) = true := decide_eq_true c31
           clear c31
           by_cases c32 : (!(((rd_T35 y147 x17_2).f0) == ((rd_T35 l3 x17_2).f0)) || (!(((rd_T35 y147 x17_2).f1) == ((rd_T35 l3 x17_2).f1)))) = true
           ·rw [if_pos c32] at H
            have c32b0 : (!(((rd_T35 y147 x17_2).f0) == ((rd_T35 l3 x17_2).f0)) || (!(((rd_T35 y147 x17_2).f1) == ((rd_T35 l3 x17_2).f1)))) = true := c32
            clear c32
            exact absurd (Option.some.inj H) (by rw [HT.out]; decide)
           ·rw [if_neg c32] at H
            have c32b0 : (!(((rd_T35 y147 x17_2).f0) == ((rd_T35 l3 x17_2).f0)) || (!(((rd_T35 y147 x17_2).f1) == ((rd_T35 l3 x17_2).f1)))) = false := by simpa using c32
            clear c32
            have H' := Aside0.mk H
            clear H
            have p165 : 0 ≤ (x17_2 : Int) := of_decide_eq_true (by first | (with_reducible assumption) | assumption)
            have q165 : x17_2 < (y147.length : Int) := of_decide_eq_true (by first | (with_reducible assumption) | assumption)
            obtain ⟨ad165, e165, hx165_0, hx165_1⟩ := at_T35 (Kd.R_reads' HO_12.out).2.2 x17_2 p165 q165
            cases e165
            replace p165 := eq_true p165
            replace q165 := eq_true q165
            have p166 : 0 ≤ (x17_2 : Int) := of_decide_eq_true (by first | (with_reducible assumption) | assumption)
            have q166 : x17_2 < (l3.length : Int) := of_decide_eq_true (by first | (with_reducible assumption) | assumption)
            obtain ⟨ad166, e166, hx166_0, hx166_1⟩ := at_T35 HR3.out x17_2 p166 q166
            cases e166
            replace hx166_0 := (HB.out.cell (World.block_lt_of_cell? w _ hx166_0)).trans hx166_0
            replace hx166_1 := (HB.out.cell (World.block_lt_of_cell? w _ hx166_1)).trans hx166_1
            replace p166 := eq_true p166
            replace q166 := eq_true q166
            go_wp2
            repeat (go_quiet (fail); try go_wp2)
            go_roundg k2
            case measure => have := HJ7.out; have := HK2.out; omega
            case rel => exact ⟨(wrap64 (x17_2 + 1)), (by first | rfl | (simp; done) | (simp [*]; done)), H', ⟨by have := HJ7.out; have := HK2.out; omega⟩, ⟨by (with_reducible repeat (first | apply Kd.R_alloc | apply Kd.R_drewN | apply Kd.R_drew)); exact HO_11.out⟩, ⟨by (with_reducible repeat (first | apply Kd.R_alloc | apply Kd.R_drewN | apply Kd.R_drew)); exact HO_12.out⟩, ⟨by (with_reducible repeat (first | apply Kd.N_alloc | apply Kd.N_drewN | apply Kd.N_drew)); exact HO_13.out⟩, ⟨by (with_reducible repeat (first | apply Kd.R_alloc | apply Kd.R_drewN | apply Kd.R_drew)); exact HO_14.out⟩, ⟨by (with_reducible repeat (first | apply Kd.N_alloc | apply Kd.N_drewN | apply Kd.N_drew)); exact HO_15.out⟩, ⟨by (with_reducible repeat (first | apply Kd.R_alloc | apply Kd.R_drewN | apply Kd.R_drew)); exact HO_16.out⟩, ⟨by repeat (first | (with_reducible first | exact HB.out | apply below_alloc | apply pw_below_drewN | apply below_drew1) | exact HB.out)⟩⟩
          ·rw [if_neg c31] at H
           exact absurd H (by simp)
         ·rw [if_neg c30] at H
          exact absurd H (by simp)
        ·rw [if_neg c29] at H
         have c29b0 : decide (x17_2 < (l3.length : Int)) = false := decide_eq_false c29
         clear c29
         replace H := Option.bind_eq_some_iff.mp H
         obtain ⟨t167, A330, H⟩ := H
         replace H : (if t167 = true then ((oublaw11_fills.f k2 t150).bind fun t168 => ((oubref7_SameFills.f k2 t168 t159).bind fun t171 => (if t171 = true then ((oubref_Ints.f k2 t151 t160).bind fun t172 => (if t172 = true then ((evict_Deepest.f k2 a0 l2 a4).bind fun t173 => ((oubref7_Deepest.f k2 a0 l2 a4).bind fun t174 => (if t173 = t174 then ((oubref_Ints.f k2 t141 l2).bind fun t175 => (some t175)) else (some false)))) else (some false))) else (some false)))) else (some false)) = some r := H
         have A33 := Aside0.mk A330
         clear A330
         by_cases c34 : t167 = true
         ·subst c34
          have H1 : ((oublaw11_fills.f k2 t150).bind fun t168 => ((oubref7_SameFills.f k2 t168 t159).bind fun t171 => (if t171 = true then ((oubref_Ints.f k2 t151 t160).bind fun t172 => (if t172 = true then ((evict_Deepest.f k2 a0 l2 a4).bind fun t173 => ((oubref7_Deepest.f k2 a0 l2 a4).bind fun t174 => (if t173 = t174 then ((oubref_Ints.f k2 t141 l2).bind fun t175 => (some t175)) else (some false)))) else (some false))) else (some false)))) = some r := by rw [if_pos rfl] at H; exact H
          clear H
          have H := H1
          clear H1
          replace H := Option.bind_eq_some_iff.mp H
          obtain ⟨t168, A350, H⟩ := H
          replace H : ((oubref7_SameFills.f k2 t168 t159).bind fun t171 => (if t171 = true then ((oubref_Ints.f k2 t151 t160).bind fun t172 => (if t172 = true then ((evict_Deepest.f k2 a0 l2 a4).bind fun t173 => ((oubref7_Deepest.f k2 a0 l2 a4).bind fun t174 => (if t173 = t174 then ((oubref_Ints.f k2 t141 l2).bind fun t175 => (some t175)) else (some false)))) else (some false))) else (some false))) = some r := H
          have A35 := Aside0.mk A350
          clear A350
          replace H := Option.bind_eq_some_iff.mp H
          obtain ⟨t171, A360, H⟩ := H
          replace H : (if t171 = true then ((oubref_Ints.f k2 t151 t160).bind fun t172 => (if t172 = true then ((evict_Deepest.f k2 a0 l2 a4).bind fun t173 => ((oubref7_Deepest.f k2 a0 l2 a4).bind fun t174 => (if t173 = t174 then ((oubref_Ints.f k2 t141 l2).bind fun t175 => (some t175)) else (some false)))) else (some false))) else (some false)) = some r := H
          have A36 := Aside0.mk A360
          clear A360
          by_cases c37 : t171 = true
          ·subst c37
           have H1 : ((oubref_Ints.f k2 t151 t160).bind fun t172 => (if t172 = true then ((evict_Deepest.f k2 a0 l2 a4).bind fun t173 => ((oubref7_Deepest.f k2 a0 l2 a4).bind fun t174 => (if t173 = t174 then ((oubref_Ints.f k2 t141 l2).bind fun t175 => (some t175)) else (some false)))) else (some false))) = some r := by rw [if_pos rfl] at H; exact H
           clear H
           have H := H1
           clear H1
           replace H := Option.bind_eq_some_iff.mp H
           obtain ⟨t172, A380, H⟩ := H
           replace H : (if t172 = true then ((evict_Deepest.f k2 a0 l2 a4).bind fun t173 => ((oubref7_Deepest.f k2 a0 l2 a4).bind fun t174 => (if t173 = t174 then ((oubref_Ints.f k2 t141 l2).bind fun t175 => (some t175)) else (some false)))) else (some false)) = some r := H
           have A38 := Aside0.mk A380
           clear A380
           by_cases c39 : t172 = true
           ·subst c39
            have H1 : ((evict_Deepest.f k2 a0 l2 a4).bind fun t173 => ((oubref7_Deepest.f k2 a0 l2 a4).bind fun t174 => (if t173 = t174 then ((oubref_Ints.f k2 t141 l2).bind fun t175 => (some t175)) else (some false)))) = some r := by rw [if_pos rfl] at H; exact H
            clear H
            have H := H1
            clear H1
            replace H := Option.bind_eq_some_iff.mp H
            obtain ⟨t173, A400, H⟩ := H
            replace H : ((oubref7_Deepest.f k2 a0 l2 a4).bind fun t174 => (if t173 = t174 then ((oubref_Ints.f k2 t141 l2).bind fun t175 => (some t175)) else (some false))) = some r := H
            have A40 := Aside0.mk A400
            clear A400
            replace H := Option.bind_eq_some_iff.mp H
            obtain ⟨t174, A410, H⟩ := H
            replace H : (if t173 = t174 then ((oubref_Ints.f k2 t141 l2).bind fun t175 => (some t175)) else (some false)) = some r := H
            have A41 := Aside0.mk A410
            clear A410
            by_cases c42 : t173 = t174
            ·rw [if_pos c42] at H
             have c42b0 : (t173 == t174) = true := beq_iff_eq.mpr c42
             have c42b1 : (t173 != t174) = false := bne_eq_false_iff_eq.mpr c42
             clear c42
             replace H := Option.bind_eq_some_iff.mp H
             obtain ⟨t175, A430, H⟩ := H
             replace H : (some t175) = some r := H
             have A43 := Aside0.mk A430
             clear A430
             obtain rfl := Option.some.inj H
             go_wp2_with (first | (go_at_call 4; (with_reducible refine (oublaw11_first.calls  true _ A33.out).mono ?_); rintro e w44 ⟨rfl, hb⟩; have n0_ := Aside0.mk (Kd.R_below (by (with_reducible repeat (first | apply Kd.R_alloc | apply Kd.R_drewN | apply Kd.R_drew)); exact HO_11.out) hb); have n1_ := Aside0.mk (Kd.R_below (by (with_reducible repeat (first | apply Kd.R_alloc | apply Kd.R_drewN | apply Kd.R_drew)); exact HO_12.out) hb); have n2_ := Aside0.mk (Kd.N_below (by (with_reducible repeat (first | apply Kd.N_alloc | apply Kd.N_drewN | apply Kd.N_drew)); exact HO_13.out) hb); have n3_ := Aside0.mk (Kd.R_below (by (with_reducible repeat (first | apply Kd.R_alloc | apply Kd.R_drewN | apply Kd.R_drew)); exact HO_14.out) hb); have n4_ := Aside0.mk (Kd.N_below (by (with_reducible repeat (first | apply Kd.N_alloc | apply Kd.N_drewN | apply Kd.N_drew)); exact HO_15.out) hb); have n5_ := Aside0.mk (Kd.R_below (by (with_reducible repeat (first | apply Kd.R_alloc | apply Kd.R_drewN | apply Kd.R_drew)); exact HO_16.out) hb); have n6_ := Aside0.mk (below_step (by repeat (first | (with_reducible first | exact HB.out | apply below_alloc | apply pw_below_drewN | apply below_drew1) | exact HB.out)) hb); clear HO_11; clear HO_12; clear HO_13; clear HO_14; clear HO_15; clear HO_16; clear HB; have HO_11 := n0_; have HO_12 := n1_; have HO_13 := n2_; have HO_14 := n3_; have HO_15 := n4_; have HO_16 := n5_; have HB := n6_; clear n0_ n1_ n2_ n3_ n4_ n5_ n6_; (try clear hb); (try clear hb2); (try clear hk); (try clear hi); obtain ⟨Ao45, co45, eo45⟩ := Kd.N_slice HO_13.out; subst eo45) | (go_at_call 10; (with_reducible refine (oublaw11_fills.calls k2 (fun k_ => (some k_ ≠ (.slice Ao23 t141.length co23 : Value).ownBlock ∧ (some k_ ≠ (.slice Ao24 y147.length co24 : Value).ownBlock ∧ (some k_ ≠ (v154 : Value).ownBlock ∧ (some k_ ≠ (v161 : Value).ownBlock ∧ some k_ ≠ (v163 : Value).ownBlock))))) _ _ t150 t168 _ ?side1 A35.out).mono ?_); (case side1 => exact Kd.N_V (HO_13.out)); rintro e w46 ⟨v169, rfl, ho0, hb⟩; have n0_ := Aside0.mk (Kd.R_below (by (with_reducible repeat (first | apply Kd.R_alloc | apply Kd.R_drewN | apply Kd.R_drew)); exact HO_11.out) hb); have n1_ := Aside0.mk (Kd.R_below (by (with_reducible repeat (first | apply Kd.R_alloc | apply Kd.R_drewN | apply Kd.R_drew)); exact HO_12.out) hb); have n2_ := Aside0.mk (Kd.N_elder' (by (with_reducible repeat (first | apply Kd.N_alloc | apply Kd.N_drewN | apply Kd.N_drew)); exact HO_13.out) (Kd.N_base ho0) hb); have n3_ := Aside0.mk (Kd.R_below (by (with_reducible repeat (first | apply Kd.R_alloc | apply Kd.R_drewN | apply Kd.R_drew)); exact HO_14.out) hb); have n4_ := Aside0.mk (Kd.N_elder' (by (with_reducible repeat (first | apply Kd.N_alloc | apply Kd.N_drewN | apply Kd.N_drew)); exact HO_15.out) (Kd.N_base ho0) hb); have n5_ := Aside0.mk (Kd.R_below (by (with_reducible repeat (first | apply Kd.R_alloc | apply Kd.R_drewN | apply Kd.R_drew)); exact HO_16.out) hb); have n6_ := Aside0.mk (Kd.N_lower (Kd.N_mono (ok' := fun k_ => some k_ ≠ (.slice Ao23 t141.length co23 : Value).ownBlock ∧ some k_ ≠ (.slice Ao24 y147.length co24 : Value).ownBlock ∧ some k_ ≠ (v154 : Value).ownBlock ∧ some k_ ≠ (v161 : Value).ownBlock ∧ some k_ ≠ (v163 : Value).ownBlock) ho0 (fun k_ hk_ => ⟨Or.elim hk_ (fun hs_ => hs_.1) (fun hn_ => (Kd.fresh' (Kd.R_lt (by (with_reducible repeat (first | apply Kd.R_alloc | apply Kd.R_drewN | apply Kd.R_drew)); exact HO_11.out)) k_ hn_)), Or.elim hk_ (fun hs_ => hs_.2.1) (fun hn_ => (Kd.fresh' (Kd.R_lt (by (with_reducible repeat (first | apply Kd.R_alloc | apply Kd.R_drewN | apply Kd.R_drew)); exact HO_12.out)) k_ hn_)), Or.elim hk_ (fun hs_ => hs_.2.2.1) (fun hn_ => (Kd.fresh' (Kd.R_lt (by (with_reducible repeat (first | apply Kd.R_alloc | apply Kd.R_drewN | apply Kd.R_drew)); exact HO_14.out)) k_ hn_)), Or.elim hk_ (fun hs_ => hs_.2.2.2.1) (fun hn_ => (Kd.fresh' (Kd.N_lt (by (with_reducible repeat (first | apply Kd.N_alloc | apply Kd.N_drewN | apply Kd.N_drew)); exact HO_15.out)) k_ hn_)), Or.elim hk_ (fun hs_ => hs_.2.2.2.2) (fun hn_ => (Kd.fresh' (Kd.R_lt (by (with_reducible repeat (first | apply Kd.R_alloc | apply Kd.R_drewN | apply Kd.R_drew)); exact HO_16.out)) k_ hn_))⟩)) (below_size (by repeat (first | (with_reducible first | exact HB.out | apply below_alloc | apply pw_below_drewN | apply below_drew1) | exact HB.out)))); have n7_ := Aside0.mk (below_step (by repeat (first | (with_reducible first | exact HB.out | apply below_alloc | apply pw_below_drewN | apply below_drew1) | exact HB.out)) hb); clear HO_11; clear HO_12; clear HO_13; clear HO_14; clear HO_15; clear HO_16; clear HB; have HO_11 := n0_; have HO_12 := n1_; have HO_13 := n2_; have HO_14 := n3_; have HO_15 := n4_; have HO_16 := n5_; have HO170 := n6_; have HB := n7_; clear n0_ n1_ n2_ n3_ n4_ n5_ n6_ n7_; (try clear hb); (try clear hb2); (try clear hk); (try clear hi); (try clear ho0); obtain ⟨Ao47, co47, eo47⟩ := Kd.N_slice HO170.out; subst eo47; obtain ⟨Ao48, co48, eo48⟩ := Kd.N_slice HO_15.out; subst eo48) | (go_at_call 9; (with_reducible refine (oubref7_SameFills.calls k2 _ _ t168 _ _ t159 true _ ?side1 ?side2 ?side3 ?side4 A36.out).mono ?_); (case side1 => repeat (first | exact (Kd.N_reads' HO170.out).2.2 | (with_reducible refine Kd.C_alloc ?_ _) | (with_reducible refine Kd.C_drewN ?_ _) | (with_reducible refine Kd.C_drew ?_))); (case side2 => exact (Kd.N_reads' HO170.out).2.1); (case side3 => repeat (first | exact (Kd.N_reads' HO_15.out).2.2 | (with_reducible refine Kd.C_alloc ?_ _) | (with_reducible refine Kd.C_drewN ?_ _) | (with_reducible refine Kd.C_drew ?_))); (case side4 => exact (Kd.N_reads' HO_15.out).2.1); rintro e w' ⟨rfl, ⟨nd, rfl⟩⟩; (try first | exact ⟨rfl, _, World.drewN_drewN _ _ _⟩ | exact ⟨rfl, _, Eq.trans (World.drewN_drewN _ _ _) (congrArg (World.drewN _) (Nat.add_assoc _ _ _))⟩); obtain ⟨Ao49, co49, eo49⟩ := Kd.R_slice HO_14.out; subst eo49; obtain ⟨Ao50, co50, eo50⟩ := Kd.R_slice HO_16.out; subst eo50) | (go_at_call 11; (with_reducible refine (oubref_Ints.calls k2 _ _ t151 _ _ t160 true _ ?side1 ?side2 ?side3 ?side4 A38.out).mono ?_); clear A38; (case side1 => repeat (first | exact (Kd.R_reads' HO_14.out).2.2 | (with_reducible refine Kd.C_alloc ?_ _) | (with_reducible refine Kd.C_drewN ?_ _) | (with_reducible refine Kd.C_drew ?_))); (case side2 => exact (Kd.R_reads' HO_14.out).2.1); (case side3 => repeat (first | exact (Kd.R_reads' HO_16.out).2.2 | (with_reducible refine Kd.C_alloc ?_ _) | (with_reducible refine Kd.C_drewN ?_ _) | (with_reducible refine Kd.C_drew ?_))); (case side4 => exact (Kd.R_reads' HO_16.out).2.1); rintro e w' ⟨rfl, ⟨nd, rfl⟩⟩; (try first | exact ⟨rfl, _, World.drewN_drewN _ _ _⟩ | exact ⟨rfl, _, Eq.trans (World.drewN_drewN _ _ _) (congrArg (World.drewN _) (Nat.add_assoc _ _ _))⟩)) | (go_at_call 12; (with_reducible refine (evict_Deepest.calls k2 a0 _ _ l2 a4 t173 _ ?side1 ?side2 A40.out).mono ?_); (case side1 => repeat (first | exact (Kd.C_below HR2.out (by repeat (first | (with_reducible first | exact HB.out | apply below_alloc | apply pw_below_drewN | apply below_drew1) | exact HB.out))) | (with_reducible refine Kd.C_alloc ?_ _) | (with_reducible refine Kd.C_drewN ?_ _) | (with_reducible refine Kd.C_drew ?_))); (case side2 => exact HC2.out); rintro e w51 ⟨rfl, hb⟩; have n0_ := Aside0.mk (Kd.R_below (by (with_reducible repeat (first | apply Kd.R_alloc | apply Kd.R_drewN | apply Kd.R_drew)); exact HO_11.out) hb); have n1_ := Aside0.mk (Kd.R_below (by (with_reducible repeat (first | apply Kd.R_alloc | apply Kd.R_drewN | apply Kd.R_drew)); exact HO_12.out) hb); have n2_ := Aside0.mk (Kd.N_below (by (with_reducible repeat (first | apply Kd.N_alloc | apply Kd.N_drewN | apply Kd.N_drew)); exact HO_13.out) hb); have n3_ := Aside0.mk (Kd.R_below (by (with_reducible repeat (first | apply Kd.R_alloc | apply Kd.R_drewN | apply Kd.R_drew)); exact HO_14.out) hb); have n4_ := Aside0.mk (Kd.N_below (by (with_reducible repeat (first | apply Kd.N_alloc | apply Kd.N_drewN | apply Kd.N_drew)); exact HO_15.out) hb); have n5_ := Aside0.mk (Kd.R_below (by (with_reducible repeat (first | apply Kd.R_alloc | apply Kd.R_drewN | apply Kd.R_drew)); exact HO_16.out) hb); have n6_ := Aside0.mk (Kd.N_below (by (with_reducible repeat (first | apply Kd.N_alloc | apply Kd.N_drewN | apply Kd.N_drew)); exact HO170.out) hb); have n7_ := Aside0.mk (below_step (by repeat (first | (with_reducible first | exact HB.out | apply below_alloc | apply pw_below_drewN | apply below_drew1) | exact HB.out)) hb); clear HO_11; clear HO_12; clear HO_13; clear HO_14; clear HO_15; clear HO_16; clear HO170; clear HB; have HO_11 := n0_; have HO_12 := n1_; have HO_13 := n2_; have HO_14 := n3_; have HO_15 := n4_; have HO_16 := n5_; have HO170 := n6_; have HB := n7_; clear n0_ n1_ n2_ n3_ n4_ n5_ n6_ n7_; (try clear hb); (try clear hb2); (try clear hk); (try clear hi)) | (go_at_call 13; (with_reducible refine (oubref7_Deepest.calls k2 a0 _ _ l2 a4 t174 _ ?side1 ?side2 A41.out).mono ?_); (case side1 => repeat (first | exact (Kd.C_below HR2.out HB.out) | (with_reducible refine Kd.C_alloc ?_ _) | (with_reducible refine Kd.C_drewN ?_ _) | (with_reducible refine Kd.C_drew ?_))); (case side2 => exact HC2.out); rintro e w52 ⟨rfl, hb⟩; have n0_ := Aside0.mk (Kd.R_below (by (with_reducible repeat (first | apply Kd.R_alloc | apply Kd.R_drewN | apply Kd.R_drew)); exact HO_11.out) hb); have n1_ := Aside0.mk (Kd.R_below (by (with_reducible repeat (first | apply Kd.R_alloc | apply Kd.R_drewN | apply Kd.R_drew)); exact HO_12.out) hb); have n2_ := Aside0.mk (Kd.N_below (by (with_reducible repeat (first | apply Kd.N_alloc | apply Kd.N_drewN | apply Kd.N_drew)); exact HO_13.out) hb); have n3_ := Aside0.mk (Kd.R_below (by (with_reducible repeat (first | apply Kd.R_alloc | apply Kd.R_drewN | apply Kd.R_drew)); exact HO_14.out) hb); have n4_ := Aside0.mk (Kd.N_below (by (with_reducible repeat (first | apply Kd.N_alloc | apply Kd.N_drewN | apply Kd.N_drew)); exact HO_15.out) hb); have n5_ := Aside0.mk (Kd.R_below (by (with_reducible repeat (first | apply Kd.R_alloc | apply Kd.R_drewN | apply Kd.R_drew)); exact HO_16.out) hb); have n6_ := Aside0.mk (Kd.N_below (by (with_reducible repeat (first | apply Kd.N_alloc | apply Kd.N_drewN | apply Kd.N_drew)); exact HO170.out) hb); have n7_ := Aside0.mk (below_step (by repeat (first | (with_reducible first | exact HB.out | apply below_alloc | apply pw_below_drewN | apply below_drew1) | exact HB.out)) hb); clear HO_11; clear HO_12; clear HO_13; clear HO_14; clear HO_15; clear HO_16; clear HO170; clear HB; have HO_11 := n0_; have HO_12 := n1_; have HO_13 := n2_; have HO_14 := n3_; have HO_15 := n4_; have HO_16 := n5_; have HO170 := n6_; have HB := n7_; clear n0_ n1_ n2_ n3_ n4_ n5_ n6_ n7_; (try clear hb); (try clear hb2); (try clear hk); (try clear hi)) | (go_at_call 11; (with_reducible refine (oubref_Ints.calls k2 _ _ t141 _ _ l2 t175 _ ?side1 ?side2 ?side3 ?side4 A43.out).mono ?_); clear A43; (case side1 => repeat (first | exact (Kd.R_reads' HO_11.out).2.2 | (with_reducible refine Kd.C_alloc ?_ _) | (with_reducible refine Kd.C_drewN ?_ _) | (with_reducible refine Kd.C_drew ?_))); (case side2 => exact (Kd.R_reads' HO_11.out).2.1); (case side3 => repeat (first | exact (Kd.C_below HR2.out HB.out) | (with_reducible refine Kd.C_alloc ?_ _) | (with_reducible refine Kd.C_drewN ?_ _) | (with_reducible refine Kd.C_drew ?_))); (case side4 => exact HC2.out); rintro e w' ⟨rfl, ⟨nd, rfl⟩⟩; (try first | exact ⟨rfl, _, World.drewN_drewN _ _ _⟩ | exact ⟨rfl, _, Eq.trans (World.drewN_drewN _ _ _) (congrArg (World.drewN _) (Nat.add_assoc _ _ _))⟩)))
             go_ret
             exact ⟨by first | rfl | (simp [errW_none, errW_some] <;> rfl) | (simp [*, errW_none, errW_some] <;> rfl), by repeat (first | (with_reducible first | exact HB.out | apply below_alloc | apply pw_below_drewN | apply below_drew1) | exact HB.out)⟩
            ·rw [if_neg c42] at H
             have c42b0 : (t173 == t174) = false := beq_eq_false_iff_ne.mpr c42
             have c42b1 : (t173 != t174) = true := bne_iff_ne.mpr c42
             exact absurd (Option.some.inj H) (by rw [HT.out]; decide)
           ·replace c39 := Bool.eq_false_iff.mpr c39
            subst c39
            have H1 : (some false) = some r := by rw [if_neg (show ¬ (false = true) by decide)] at H; exact H
            clear H
            have H := H1
            clear H1
            exact absurd (Option.some.inj H) (by rw [HT.out]; decide)
          ·replace c37 := Bool.eq_false_iff.mpr c37
           subst c37
           have H1 : (some false) = some r := by rw [if_neg (show ¬ (false = true) by decide)] at H; exact H
           clear H
           have H := H1
           clear H1
           exact absurd (Option.some.inj H) (by rw [HT.out]; decide)
         ·replace c34 := Bool.eq_false_iff.mpr c34
          subst c34
          have H1 : (some false) = some r := by rw [if_neg (show ¬ (false = true) by decide)] at H; exact H
          clear H
          have H := H1
          clear H1
          exact absurd (Option.some.inj H) (by rw [HT.out]; decide)
     ·rw [if_neg c15] at H
      exact absurd H (by simp)
 ·replace c7 := Bool.eq_false_iff.mpr c7
  subst c7
  have H1 : (some false) = some r := by rw [if_neg (show ¬ (false = true) by decide)] at H; exact H
  clear H
  have H := H1
  clear H1
  exact absurd (Option.some.inj H) (by rw [HT.out]; decide)

end Go.Proofs.YtfliapankgdeeaaGreat.P
