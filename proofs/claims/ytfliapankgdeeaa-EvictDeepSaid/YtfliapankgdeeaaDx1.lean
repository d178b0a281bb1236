-- Written by gprint.py (wip/tools), which runs the kit's printer with some contracts given. Lean checks it.
import Derived.Test.YtfliapankgdeeaaProg
import Derived.Below
import Derived.Deep.Draws
import Derived.Deep.AppendLies
import Derived.Maps.AppendAt
import Derived.OwnWalk
import Derived.Laws.BytesArg
import Derived.Laws.MakeOwn
import Derived.Laws.OwnMore
import Derived.Deep.OwnRows
import Derived.Tactics
import Derived.Lib.ConvBytes
import Derived.Laws.Slices
import Derived.WalkKit
import Derived.KernelRfl
import Derived.RowKit3
import Derived.Deep.LoopGhost
import Derived.Deep.QuietTactic
import Derived.BigQuiet
import Derived.WideLaws
import Derived.Deep.DeepCutAuto
import Derived.Deep.CutBlock
import Derived.Deep.RegionHeld3
import Derived.Laws.Rows
import Derived.Lib.AppendStr
import Derived.ArgAppend
import Derived.Laws.IdiomCopy
import Derived.OrdersHeld
import Derived.Laws.BitsLemmas
import Derived.RowKit
import Derived.Test.YtfliapankgdeeaaGSort
import Derived.Test.YtfliapankgdeeaaGx
import Derived.Test.YtfliapankgdeeaaEvM
import Derived.Test.YtfliapankgdeeaaEvQ
import Derived.Test.YtfliapankgdeeaaWWords
import Derived.Test.YtfliapankgdeeaaWLast
import Derived.Test.YtfliapankgdeeaaWTab
import Derived.Test.YtfliapankgdeeaaWFour
import Derived.Test.YtfliapankgdeeaaWQPut
import Derived.Test.YtfliapankgdeeaaWApart
import Derived.Test.YtfliapankgdeeaaWArr
import Derived.Test.YtfliapankgdeeaaWZeros
import Derived.Test.YtfliapankgdeeaaWFoot
import Derived.Test.YtfliapankgdeeaaWKept
import Derived.Test.YtfliapankgdeeaaWShare
import Derived.Test.YtfliapankgdeeaaWN
import Derived.Test.YtfliapankgdeeaaWFootNe
import Derived.Test.YtfliapankgdeeaaWAt
import Derived.Test.YtfliapankgdeeaaWEqStruct
import Derived.Test.YtfliapankgdeeaaWRepsOne
import Derived.Test.YtfliapankgdeeaaWInv
import Derived.Test.YtfliapankgdeeaaWInvWords
import Derived.Test.YtfliapankgdeeaaWGuard
import Derived.Test.YtfliapankgdeeaaWNEv
import Derived.Test.YtfliapankgdeeaaWMore
namespace Go.Proofs.Ytfliapankgdeeaa.D
open Go.RowKit Go.Proofs.Ytfliapankgdeeaa.G Go.Proofs.YtfliapankgdeeaaW.PrintWords Go.Proofs.YtfliapankgdeeaaW.PrintLast Go.Proofs.YtfliapankgdeeaaW.PrintMore
attribute [local go_sem] max2_int min2_int max_two min_two max_three min_three max_four min_four   -- for this text's walks alone
set_option linter.unusedVariables false
set_option linter.unusedSimpArgs false



def errW : Option Int → Value
  | none => .nilIface
  | some c => .iface 0 (.int .i64 c)
theorem errW_none : errW none = .nilIface := rfl
theorem errW_some (c : Int) : errW (some c) = .iface 0 (.int .i64 c) := rfl

theorem info39 : (Try.prog.info? 39).map (fun i => (i.zero, i.size, i.bytes)) = some (some (.agg #[(.int .i64 0), (.int .i64 0)]), 2, 16) := by kernel_rfl
-- the values' own types

end Go.Proofs.Ytfliapankgdeeaa.D

namespace Go.Proofs.Ytfliapankgdeeaa.D
open Go.RowKit Go.Proofs.Ytfliapankgdeeaa.G Go.Proofs.YtfliapankgdeeaaW.PrintWords Go.Proofs.YtfliapankgdeeaaW.PrintLast Go.Proofs.YtfliapankgdeeaaW.PrintMore
abbrev bs (n m : Nat) : Array Bool := ⟨List.replicate n true ++ List.replicate m false⟩
attribute [local go_sem] max2_int min2_int max_two min_two max_three min_three max_four min_four   -- for this text's walks alone
set_option linter.unusedVariables false
set_option linter.unusedSimpArgs false

/-! ### oublaw11_EvictDeep: function 4 -/
mutual
def oublaw11_EvictDeep.j0 : Nat → Int → Int → List Int → List (S39) → Int → Bool → Option (Bool)
 | 0, _, _, _, _, _, _ => none
 | k + 1, x0, x1, x2, x3, x4, x42 => if x42 = true then ((oublaw11_first.f).bind fun t106 => (some t106)) else ((evict_Plan.f x0 x1 x2 x3).bind fun bt107 => (oublaw11_EvictDeep.l0 k x0 x1 x2 x3 x4 bt107.1 bt107.2 ([] : List (S39)) 0))
def oublaw11_EvictDeep.l0 : Nat → Int → Int → List Int → List (S39) → Int → List (S36) → List Int → List (S39) → Int → Option (Bool)
 | 0, _, _, _, _, _, _, _, _, _ => none
 | k + 1, x0, x1, x2, x3, x4, x11, x12, x13, x14 => if x14 < (x3.length : Int) then (if (x3.length : Int) = 0 then (none) else (if 0 ≤ (Int.tmod (wrap64 (x14 + (Int.tmod x4 (x3.length : Int)))) (x3.length : Int)) then (if (Int.tmod (wrap64 (x14 + (Int.tmod x4 (x3.length : Int)))) (x3.length : Int)) < (x3.length : Int) then (if x13.length < 8796093022208 then (oublaw11_EvictDeep.l0 k x0 x1 x2 x3 x4 x11 x12 (x13 ++ [(⟨(rd_T39 x3 (Int.tmod (wrap64 (x14 + (Int.tmod x4 (x3.length : Int)))) (x3.length : Int))).f0, (rd_T39 x3 (Int.tmod (wrap64 (x14 + (Int.tmod x4 (x3.length : Int)))) (x3.length : Int))).f1⟩ : S39)]) (wrap64 (x14 + 1))) else (none)) else (none)) else (none))) else ((evict_Plan.f x0 x1 x2 x13).bind fun bt117 => ((oublaw11_fills.f k x11).bind fun t123 => ((oublaw11_fills.f k bt117.1).bind fun t126 => ((oubref7_SameFills.f k t123 t126).bind fun t129 => (if t129 = true then ((oubref_Ints.f k x12 bt117.2).bind fun t130 => (oublaw11_EvictDeep.j2 k x0 x1 x3 x11 (!t130))) else (oublaw11_EvictDeep.j2 k x0 x1 x3 x11 true))))))
def oublaw11_EvictDeep.j2 : Nat → Int → Int → List (S39) → List (S36) → Bool → Option (Bool)
 | 0, _, _, _, _, _ => none
 | k + 1, x0, x1, x3, x11, x92 => if x92 = true then (some false) else (oublaw11_EvictDeep.l1 k x0 x1 x3 x11 0)
def oublaw11_EvictDeep.l1 : Nat → Int → Int → List (S39) → List (S36) → Int → Option (Bool)
 | 0, _, _, _, _, _ => none
 | k + 1, x0, x1, x3, x11, x17 => if x17 < (x3.length : Int) then (oublaw11_EvictDeep.l2 k x0 x1 x3 x11 x17 0) else ((oublaw11_first.f).bind fun t131 => (some t131))
def oublaw11_EvictDeep.l2 : Nat → Int → Int → List (S39) → List (S36) → Int → Int → Option (Bool)
 | 0, _, _, _, _, _, _ => none
 | k + 1, x0, x1, x3, x11, x17, x18 => if x18 < (x11.length : Int) then (if 0 ≤ x18 then (if 0 ≤ x17 then (if x17 < (x3.length : Int) then ((oubref_Has.f k ((rd_T36 x11 x18).f1) ((rd_T39 x3 x17).f0)).bind fun t134 => (if t134 = true then (oublaw11_EvictDeep.l3 k x0 x1 x3 x11 x17 x18 0) else (oublaw11_EvictDeep.l2 k x0 x1 x3 x11 x17 (wrap64 (x18 + 1))))) else (none)) else (none)) else (none)) else (oublaw11_EvictDeep.l1 k x0 x1 x3 x11 (wrap64 (x17 + 1)))
def oublaw11_EvictDeep.l3 : Nat → Int → Int → List (S39) → List (S36) → Int → Int → Int → Option (Bool)
 | 0, _, _, _, _, _, _, _ => none
 | k + 1, x0, x1, x3, x11, x17, x18, x19 => if x19 < (x11.length : Int) then (if 0 ≤ x19 then ((tree_Level.f k ((rd_T36 x11 x19).f0)).bind fun t136 => (if 0 ≤ x18 then (if x18 < (x11.length : Int) then ((tree_Level.f k ((rd_T36 x11 x18).f0)).bind fun t138 => (if t136 > t138 then (if 0 ≤ x17 then (if x17 < (x3.length : Int) then ((tree_On.f k x0 ((rd_T36 x11 x19).f0) ((rd_T39 x3 x17).f1)).bind fun t141 => (if t141 = true then (if (((rd_T36 x11 x19).f1).length : Int) < x1 then (some false) else (oublaw11_EvictDeep.l3 k x0 x1 x3 x11 x17 x18 (wrap64 (x19 + 1)))) else (oublaw11_EvictDeep.l3 k x0 x1 x3 x11 x17 x18 (wrap64 (x19 + 1))))) else (none)) else (none)) else (oublaw11_EvictDeep.l3 k x0 x1 x3 x11 x17 x18 (wrap64 (x19 + 1))))) else (none)) else (none))) else (none)) else (oublaw11_EvictDeep.l2 k x0 x1 x3 x11 x17 (wrap64 (x18 + 1)))
end
def oublaw11_EvictDeep.f (k : Nat) (a0 : Int) (a1 : Int) (l2 : List Int) (l3 : List (S39)) (a4 : Int) : Option (Bool) := (oublaw11_first.f).bind fun t101 => (if t101 = true then (if (l2.length : Int) > 40 then (oublaw11_EvictDeep.j0 k a0 a1 l2 l3 a4 true) else (if (l3.length : Int) > 40 then (oublaw11_EvictDeep.j0 k a0 a1 l2 l3 a4 true) else (if a4 < 0 then (oublaw11_EvictDeep.j0 k a0 a1 l2 l3 a4 true) else ((oublaw11_items.f k l3).bind fun t102 => ((oubref7_MayPlan.f k a0 a1 l2 t102).bind fun t105 => (oublaw11_EvictDeep.j0 k a0 a1 l2 l3 a4 (!t105))))))) else (some false))
theorem oublaw11_EvictDeep.mono_l : ∀ k, (∀ y0 y1 y2 y3 y4 y5, LeO (oublaw11_EvictDeep.j0 k y0 y1 y2 y3 y4 y5) (oublaw11_EvictDeep.j0 (k + 1) y0 y1 y2 y3 y4 y5)) ∧ (∀ y0 y1 y2 y3 y4 y5 y6 y7 y8, LeO (oublaw11_EvictDeep.l0 k y0 y1 y2 y3 y4 y5 y6 y7 y8) (oublaw11_EvictDeep.l0 (k + 1) y0 y1 y2 y3 y4 y5 y6 y7 y8)) ∧ (∀ y0 y1 y2 y3 y4, LeO (oublaw11_EvictDeep.j2 k y0 y1 y2 y3 y4) (oublaw11_EvictDeep.j2 (k + 1) y0 y1 y2 y3 y4)) ∧ (∀ y0 y1 y2 y3 y4, LeO (oublaw11_EvictDeep.l1 k y0 y1 y2 y3 y4) (oublaw11_EvictDeep.l1 (k + 1) y0 y1 y2 y3 y4)) ∧ (∀ y0 y1 y2 y3 y4 y5, LeO (oublaw11_EvictDeep.l2 k y0 y1 y2 y3 y4 y5) (oublaw11_EvictDeep.l2 (k + 1) y0 y1 y2 y3 y4 y5)) ∧ (∀ y0 y1 y2 y3 y4 y5 y6, LeO (oublaw11_EvictDeep.l3 k y0 y1 y2 y3 y4 y5 y6) (oublaw11_EvictDeep.l3 (k + 1) y0 y1 y2 y3 y4 y5 y6))
 | 0 => ⟨fun _ _ _ _ _ _ r h => by simp [oublaw11_EvictDeep.j0] at h, fun _ _ _ _ _ _ _ _ _ r h => by simp [oublaw11_EvictDeep.l0] at h, fun _ _ _ _ _ r h => by simp [oublaw11_EvictDeep.j2] at h, fun _ _ _ _ _ r h => by simp [oublaw11_EvictDeep.l1] at h, fun _ _ _ _ _ _ r h => by simp [oublaw11_EvictDeep.l2] at h, fun _ _ _ _ _ _ _ r h => by simp [oublaw11_EvictDeep.l3] at h⟩
 | k + 1 => by
  obtain ⟨ih0, ih1, ih2, ih3, ih4, ih5⟩ := oublaw11_EvictDeep.mono_l k
  refine ⟨?_, ?_, ?_, ?_, ?_, ?_⟩
  ·intro y0 y1 y2 y3 y4 y5
   unfold oublaw11_EvictDeep.j0
   repeat' first
   | (with_reducible exact ih0 _ _ _ _ _ _)
   | (with_reducible exact ih1 _ _ _ _ _ _ _ _ _)
   | (with_reducible exact ih2 _ _ _ _ _)
   | (with_reducible exact ih3 _ _ _ _ _)
   | (with_reducible exact ih4 _ _ _ _ _ _)
   | (with_reducible exact ih5 _ _ _ _ _ _ _)
   | (with_reducible exact oublaw11_fills.mono _ _)
   | (with_reducible exact oublaw11_items.mono _ _)
   | (with_reducible exact oubref7_MayPlan.mono _ _ _ _ _)
   | (with_reducible exact oubref7_SameFills.mono _ _ _)
   | (with_reducible exact oubref_Has.mono _ _ _)
   | (with_reducible exact oubref_Ints.mono _ _ _)
   | (with_reducible exact tree_Level.mono _ _)
   | (with_reducible exact tree_On.mono _ _ _ _)
   | (with_reducible exact LeO.refl _)
   | (with_reducible exact LeO.none _)
   | (with_reducible refine LeO.ite ?_ ?_)
   | (with_reducible refine LeO.bind ?_ (fun _ => ?_))
   | exact ih0 _ _ _ _ _ _
   | exact ih1 _ _ _ _ _ _ _ _ _
   | exact ih2 _ _ _ _ _
   | exact ih3 _ _ _ _ _
   | exact ih4 _ _ _ _ _ _
   | exact ih5 _ _ _ _ _ _ _
   | exact oublaw11_fills.mono _ _
   | exact oublaw11_items.mono _ _
   | exact oubref7_MayPlan.mono _ _ _ _ _
   | exact oubref7_SameFills.mono _ _ _
   | exact oubref_Has.mono _ _ _
   | exact oubref_Ints.mono _ _ _
   | exact tree_Level.mono _ _
   | exact tree_On.mono _ _ _ _
   | exact LeO.none _
   | refine LeO.ite ?_ ?_
   | refine LeO.bind ?_ (fun _ => ?_)
  ·intro y0 y1 y2 y3 y4 y5 y6 y7 y8
   unfold oublaw11_EvictDeep.l0
   repeat' first
   | (with_reducible exact ih0 _ _ _ _ _ _)
   | (with_reducible exact ih1 _ _ _ _ _ _ _ _ _)
   | (with_reducible exact ih2 _ _ _ _ _)
   | (with_reducible exact ih3 _ _ _ _ _)
   | (with_reducible exact ih4 _ _ _ _ _ _)
   | (with_reducible exact ih5 _ _ _ _ _ _ _)
   | (with_reducible exact oublaw11_fills.mono _ _)
   | (with_reducible exact oublaw11_items.mono _ _)
   | (with_reducible exact oubref7_MayPlan.mono _ _ _ _ _)
   | (with_reducible exact oubref7_SameFills.mono _ _ _)
   | (with_reducible exact oubref_Has.mono _ _ _)
   | (with_reducible exact oubref_Ints.mono _ _ _)
   | (with_reducible exact tree_Level.mono _ _)
   | (with_reducible exact tree_On.mono _ _ _ _)
   | (with_reducible exact LeO.refl _)
   | (with_reducible exact LeO.none _)
   | (with_reducible refine LeO.ite ?_ ?_)
   | (with_reducible refine LeO.bind ?_ (fun _ => ?_))
   | exact ih0 _ _ _ _ _ _
   | exact ih1 _ _ _ _ _ _ _ _ _
   | exact ih2 _ _ _ _ _
   | exact ih3 _ _ _ _ _
   | exact ih4 _ _ _ _ _ _
   | exact ih5 _ _ _ _ _ _ _
   | exact oublaw11_fills.mono _ _
   | exact oublaw11_items.mono _ _
   | exact oubref7_MayPlan.mono _ _ _ _ _
   | exact oubref7_SameFills.mono _ _ _
   | exact oubref_Has.mono _ _ _
   | exact oubref_Ints.mono _ _ _
   | exact tree_Level.mono _ _
   | exact tree_On.mono _ _ _ _
   | exact LeO.none _
   | refine LeO.ite ?_ ?_
   | refine LeO.bind ?_ (fun _ => ?_)
  ·intro y0 y1 y2 y3 y4
   unfold oublaw11_EvictDeep.j2
   repeat' first
   | (with_reducible exact ih0 _ _ _ _ _ _)
   | (with_reducible exact ih1 _ _ _ _ _ _ _ _ _)
   | (with_reducible exact ih2 _ _ _ _ _)
   | (with_reducible exact ih3 _ _ _ _ _)
   | (with_reducible exact ih4 _ _ _ _ _ _)
   | (with_reducible exact ih5 _ _ _ _ _ _ _)
   | (with_reducible exact oublaw11_fills.mono _ _)
   | (with_reducible exact oublaw11_items.mono _ _)
   | (with_reducible exact oubref7_MayPlan.mono _ _ _ _ _)
   | (with_reducible exact oubref7_SameFills.mono _ _ _)
   | (with_reducible exact oubref_Has.mono _ _ _)
   | (with_reducible exact oubref_Ints.mono _ _ _)
   | (with_reducible exact tree_Level.mono _ _)
   | (with_reducible exact tree_On.mono _ _ _ _)
   | (with_reducible exact LeO.refl _)
   | (with_reducible exact LeO.none _)
   | (with_reducible refine LeO.ite ?_ ?_)
   | (with_reducible refine LeO.bind ?_ (fun _ => ?_))
   | exact ih0 _ _ _ _ _ _
   | exact ih1 _ _ _ _ _ _ _ _ _
   | exact ih2 _ _ _ _ _
   | exact ih3 _ _ _ _ _
   | exact ih4 _ _ _ _ _ _
   | exact ih5 _ _ _ _ _ _ _
   | exact oublaw11_fills.mono _ _
   | exact oublaw11_items.mono _ _
   | exact oubref7_MayPlan.mono _ _ _ _ _
   | exact oubref7_SameFills.mono _ _ _
   | exact oubref_Has.mono _ _ _
   | exact oubref_Ints.mono _ _ _
   | exact tree_Level.mono _ _
   | exact tree_On.mono _ _ _ _
   | exact LeO.none _
   | refine LeO.ite ?_ ?_
   | refine LeO.bind ?_ (fun _ => ?_)
  ·intro y0 y1 y2 y3 y4
   unfold oublaw11_EvictDeep.l1
   repeat' first
   | (with_reducible exact ih0 _ _ _ _ _ _)
   | (with_reducible exact ih1 _ _ _ _ _ _ _ _ _)
   | (with_reducible exact ih2 _ _ _ _ _)
   | (with_reducible exact ih3 _ _ _ _ _)
   | (with_reducible exact ih4 _ _ _ _ _ _)
   | (with_reducible exact ih5 _ _ _ _ _ _ _)
   | (with_reducible exact oublaw11_fills.mono _ _)
   | (with_reducible exact oublaw11_items.mono _ _)
   | (with_reducible exact oubref7_MayPlan.mono _ _ _ _ _)
   | (with_reducible exact oubref7_SameFills.mono _ _ _)
   | (with_reducible exact oubref_Has.mono _ _ _)
   | (with_reducible exact oubref_Ints.mono _ _ _)
   | (with_reducible exact tree_Level.mono _ _)
   | (with_reducible exact tree_On.mono _ _ _ _)
   | (with_reducible exact LeO.refl _)
   | (with_reducible exact LeO.none _)
   | (with_reducible refine LeO.ite ?_ ?_)
   | (with_reducible refine LeO.bind ?_ (fun _ => ?_))
   | exact ih0 _ _ _ _ _ _
   | exact ih1 _ _ _ _ _ _ _ _ _
   | exact ih2 _ _ _ _ _
   | exact ih3 _ _ _ _ _
   | exact ih4 _ _ _ _ _ _
   | exact ih5 _ _ _ _ _ _ _
   | exact oublaw11_fills.mono _ _
   | exact oublaw11_items.mono _ _
   | exact oubref7_MayPlan.mono _ _ _ _ _
   | exact oubref7_SameFills.mono _ _ _
   | exact oubref_Has.mono _ _ _
   | exact oubref_Ints.mono _ _ _
   | exact tree_Level.mono _ _
   | exact tree_On.mono _ _ _ _
   | exact LeO.none _
   | refine LeO.ite ?_ ?_
   | refine LeO.bind ?_ (fun _ => ?_)
  ·intro y0 y1 y2 y3 y4 y5
   unfold oublaw11_EvictDeep.l2
   repeat' first
   | (with_reducible exact ih0 _ _ _ _ _ _)
   | (with_reducible exact ih1 _ _ _ _ _ _ _ _ _)
   | (with_reducible exact ih2 _ _ _ _ _)
   | (with_reducible exact ih3 _ _ _ _ _)
   | (with_reducible exact ih4 _ _ _ _ _ _)
   | (with_reducible exact ih5 _ _ _ _ _ _ _)
   | (with_reducible exact oublaw11_fills.mono _ _)
   | (with_reducible exact oublaw11_items.mono _ _)
   | (with_reducible exact oubref7_MayPlan.mono _ _ _ _ _)
   | (with_reducible exact oubref7_SameFills.mono _ _ _)
   | (with_reducible exact oubref_Has.mono _ _ _)
   | (with_reducible exact oubref_Ints.mono _ _ _)
   | (with_reducible exact tree_Level.mono _ _)
   | (with_reducible exact tree_On.mono _ _ _ _)
   | (with_reducible exact LeO.refl _)
   | (with_reducible exact LeO.none _)
   | (with_reducible refine LeO.ite ?_ ?_)
   | (with_reducible refine LeO.bind ?_ (fun _ => ?_))
   | exact ih0 _ _ _ _ _ _
   | exact ih1 _ _ _ _ _ _ _ _ _
   | exact ih2 _ _ _ _ _
   | exact ih3 _ _ _ _ _
   | exact ih4 _ _ _ _ _ _
   | exact ih5 _ _ _ _ _ _ _
   | exact oublaw11_fills.mono _ _
   | exact oublaw11_items.mono _ _
   | exact oubref7_MayPlan.mono _ _ _ _ _
   | exact oubref7_SameFills.mono _ _ _
   | exact oubref_Has.mono _ _ _
   | exact oubref_Ints.mono _ _ _
   | exact tree_Level.mono _ _
   | exact tree_On.mono _ _ _ _
   | exact LeO.none _
   | refine LeO.ite ?_ ?_
   | refine LeO.bind ?_ (fun _ => ?_)
  ·intro y0 y1 y2 y3 y4 y5 y6
   unfold oublaw11_EvictDeep.l3
   repeat' first
   | (with_reducible exact ih0 _ _ _ _ _ _)
   | (with_reducible exact ih1 _ _ _ _ _ _ _ _ _)
   | (with_reducible exact ih2 _ _ _ _ _)
   | (with_reducible exact ih3 _ _ _ _ _)
   | (with_reducible exact ih4 _ _ _ _ _ _)
   | (with_reducible exact ih5 _ _ _ _ _ _ _)
   | (with_reducible exact oublaw11_fills.mono _ _)
   | (with_reducible exact oublaw11_items.mono _ _)
   | (with_reducible exact oubref7_MayPlan.mono _ _ _ _ _)
   | (with_reducible exact oubref7_SameFills.mono _ _ _)
   | (with_reducible exact oubref_Has.mono _ _ _)
   | (with_reducible exact oubref_Ints.mono _ _ _)
   | (with_reducible exact tree_Level.mono _ _)
   | (with_reducible exact tree_On.mono _ _ _ _)
   | (with_reducible exact LeO.refl _)
   | (with_reducible exact LeO.none _)
   | (with_reducible refine LeO.ite ?_ ?_)
   | (with_reducible refine LeO.bind ?_ (fun _ => ?_))
   | exact ih0 _ _ _ _ _ _
   | exact ih1 _ _ _ _ _ _ _ _ _
   | exact ih2 _ _ _ _ _
   | exact ih3 _ _ _ _ _
   | exact ih4 _ _ _ _ _ _
   | exact ih5 _ _ _ _ _ _ _
   | exact oublaw11_fills.mono _ _
   | exact oublaw11_items.mono _ _
   | exact oubref7_MayPlan.mono _ _ _ _ _
   | exact oubref7_SameFills.mono _ _ _
   | exact oubref_Has.mono _ _ _
   | exact oubref_Ints.mono _ _ _
   | exact tree_Level.mono _ _
   | exact tree_On.mono _ _ _ _
   | exact LeO.none _
   | refine LeO.ite ?_ ?_
   | refine LeO.bind ?_ (fun _ => ?_)
theorem oublaw11_EvictDeep.mono : ∀ a0 a1 a2 a3 a4 k, LeO (oublaw11_EvictDeep.f k a0 a1 a2 a3 a4) (oublaw11_EvictDeep.f (k + 1) a0 a1 a2 a3 a4) := by
 intro a0 a1 a2 a3 a4 k
 obtain ⟨ih0, ih1, ih2, ih3, ih4, ih5⟩ := oublaw11_EvictDeep.mono_l k
 unfold oublaw11_EvictDeep.f
 repeat' first
   | (with_reducible exact ih0 _ _ _ _ _ _)
   | (with_reducible exact ih1 _ _ _ _ _ _ _ _ _)
   | (with_reducible exact ih2 _ _ _ _ _)
   | (with_reducible exact ih3 _ _ _ _ _)
   | (with_reducible exact ih4 _ _ _ _ _ _)
   | (with_reducible exact ih5 _ _ _ _ _ _ _)
   | (with_reducible exact oublaw11_fills.mono _ _)
   | (with_reducible exact oublaw11_items.mono _ _)
   | (with_reducible exact oubref7_MayPlan.mono _ _ _ _ _)
   | (with_reducible exact oubref7_SameFills.mono _ _ _)
   | (with_reducible exact oubref_Has.mono _ _ _)
   | (with_reducible exact oubref_Ints.mono _ _ _)
   | (with_reducible exact tree_Level.mono _ _)
   | (with_reducible exact tree_On.mono _ _ _ _)
   | (with_reducible exact LeO.refl _)
   | (with_reducible exact LeO.none _)
   | (with_reducible refine LeO.ite ?_ ?_)
   | (with_reducible refine LeO.bind ?_ (fun _ => ?_))
   | exact ih0 _ _ _ _ _ _
   | exact ih1 _ _ _ _ _ _ _ _ _
   | exact ih2 _ _ _ _ _
   | exact ih3 _ _ _ _ _
   | exact ih4 _ _ _ _ _ _
   | exact ih5 _ _ _ _ _ _ _
   | exact oublaw11_fills.mono _ _
   | exact oublaw11_items.mono _ _
   | exact oubref7_MayPlan.mono _ _ _ _ _
   | exact oubref7_SameFills.mono _ _ _
   | exact oubref_Has.mono _ _ _
   | exact oubref_Ints.mono _ _ _
   | exact tree_Level.mono _ _
   | exact tree_On.mono _ _ _ _
   | exact LeO.none _
   | refine LeO.ite ?_ ?_
   | refine LeO.bind ?_ (fun _ => ?_)
def oublaw11_EvictDeep.T20 : Bool × List (List Nat × List Nat) := (true, [([], []), ([], []), ([0, 1], [0, 1]), ([2], [2]), ([3], [3]), ([], []), ([], []), ([5, 6], [5, 6]), ([7], [7]), ([8], [8]), ([4, 9], [4, 9]), ([10], [10])])
def oublaw11_EvictDeep.B20 : List Nat := [0, 0, 3, 7, 15, 0, 0, 96, 224, 480, 1023, 2047]
theorem oublaw11_EvictDeep.tab20 : rtab .any (opsOf Try.f4 20) = oublaw11_EvictDeep.T20 := by kernel_rfl
theorem oublaw11_EvictDeep.bits20 : waitsOk oublaw11_EvictDeep.T20.2 oublaw11_EvictDeep.B20 = true := by kernel_rfl
def oublaw11_EvictDeep.T24 : Bool × List (List Nat × List Nat) := (true, [([], []), ([], []), ([0, 1], [0, 1]), ([2], [2]), ([3], [3]), ([4], [4]), ([], []), ([], []), ([6, 7], [6, 7]), ([8], [8]), ([9], [9]), ([10, 5], [10]), ([5, 11], [5, 11]), ([12, 11], [12]), ([13], [13]), ([13], [13]), ([13], [13]), ([15, 16, 13], [13, 15, 16]), ([17, 13], [13, 17]), ([18, 13], [13, 18]), ([13], [13]), ([13], [13]), ([20, 21, 13], [13, 20, 21]), ([22, 13], [13, 22]), ([23, 13], [13, 23]), ([14, 19, 24, 13, 13], [13, 14, 19, 24]), ([13, 25], [13, 25]), ([26, 25], [26]), ([27], [27]), ([27], [27]), ([28, 29, 27], [27, 28, 29]), ([30, 27], [27, 30]), ([31, 27], [27, 31]), ([32, 27], [27, 32]), ([27], [27]), ([33, 34, 27], [27, 33, 34]), ([27, 35], [27, 35])])
def oublaw11_EvictDeep.B24 : List Nat := [0, 0, 3, 7, 15, 31, 0, 0, 192, 448, 960, 2047, 4095, 8191, 16383, 16383, 16383, 114687, 245759, 507903, 16383, 16383, 3162111, 7356415, 15745023, 33554431, 67108863, 134217727, 268435455, 268435455, 1073741823, 2147483647, 4294967295, 8589934591, 268435455, 34359738367, 68719476735]
theorem oublaw11_EvictDeep.tab24 : rtab .any (opsOf Try.f4 24) = oublaw11_EvictDeep.T24 := by kernel_rfl
theorem oublaw11_EvictDeep.bits24 : waitsOk oublaw11_EvictDeep.T24.2 oublaw11_EvictDeep.B24 = true := by kernel_rfl
set_option maxHeartbeats 8000000 in
set_option maxRecDepth 100000 in
theorem oublaw11_EvictDeep.calls (k : Nat) (a0 : Int) (a1 : Int) (A2 : Option Addr) (c2 : Nat) (l2 : List Int) (A3 : Option Addr) (c3 : Nat) (l3 : List (S39)) (a4 : Int) (r : Bool) (w : World) (hr2 : Kd.C (Kd.int .i64) w A2 l2.length l2) (hc2 : l2.length ≤ c2) (hr3 : Kd.C k39 w A3 l3.length l3) (hc3 : l3.length ≤ c3) (HT : Aside0 (r = true)) (h : oublaw11_EvictDeep.f k a0 a1 l2 l3 a4 = some r) :
  Calls Try.prog 4 #[.int .i64 a0, .int .i64 a1, .slice A2 l2.length c2, .slice A3 l3.length c3, .int .i64 a4] w fun e w' => e = .returned (.bool r) ∧ Below w.heap.size w w' := by
 have hu39 := Try.underlying39
 have HR2 := Aside0.mk hr2
 have HC2 := Aside0.mk hc2
 clear hr2 hc2
 have HR3 := Aside0.mk hr3
 have HC3 := Aside0.mk hc3
 clear hr3 hc3
 have HB := Aside0.mk (Below.refl w.heap.size w)
 have H : ((oublaw11_first.f).bind fun t101 => (if t101 = true then (if (l2.length : Int) > 40 then (oublaw11_EvictDeep.j0 k a0 a1 l2 l3 a4 true) else (if (l3.length : Int) > 40 then (oublaw11_EvictDeep.j0 k a0 a1 l2 l3 a4 true) else (if a4 < 0 then (oublaw11_EvictDeep.j0 k a0 a1 l2 l3 a4 true) else ((oublaw11_items.f k l3).bind fun t102 => ((oubref7_MayPlan.f k a0 a1 l2 t102).bind fun t105 => (oublaw11_EvictDeep.j0 k a0 a1 l2 l3 a4 (!t105))))))) else (some false))) = some r := h
 clear h
 replace H := Option.bind_eq_some_iff.mp H
 obtain ⟨t101, A60, H⟩ := H
 replace H : (if t101 = true then (if (l2.length : Int) > 40 then (oublaw11_EvictDeep.j0 k a0 a1 l2 l3 a4 true) else (if (l3.length : Int) > 40 then (oublaw11_EvictDeep.j0 k a0 a1 l2 l3 a4 true) else (if a4 < 0 then (oublaw11_EvictDeep.j0 k a0 a1 l2 l3 a4 true) else ((oublaw11_items.f k l3).bind fun t102 => ((oubref7_MayPlan.f k a0 a1 l2 t102).bind fun t105 => (oublaw11_EvictDeep.j0 k a0 a1 l2 l3 a4 (!t105))))))) else (some false)) = some r := H
 have A6 := Aside0.mk A60
 clear A60
 by_cases c7 : t101 = true
 ·subst c7
  have H1 : (if (l2.length : Int) > 40 then (oublaw11_EvictDeep.j0 k a0 a1 l2 l3 a4 true) else (if (l3.length : Int) > 40 then (oublaw11_EvictDeep.j0 k a0 a1 l2 l3 a4 true) else (if a4 < 0 then (oublaw11_EvictDeep.j0 k a0 a1 l2 l3 a4 true) else ((oublaw11_items.f k l3).bind fun t102 => ((oubref7_MayPlan.f k a0 a1 l2 t102).bind fun t105 => (oublaw11_EvictDeep.j0 k a0 a1 l2 l3 a4 (!t105))))))) = some r := by rw [if_pos rfl] at H; exact H
  clear H
  have H := H1
  clear H1
  have HC8 := Aside0.mk H
  clear H
  go_enter Try.func4, Try.ntmps4
  go_upto_region 3 with (first | ((with_reducible refine gate_callee (f := 7) rfl ?_); refine goesL_ (some 20) rfl rfl Try.func7 (by kernel_rfl) rfl #[] rfl (by (try simp only [List.map_toArray, List.map_cons, List.map_nil]); first | done | rfl | (simp only [List.length_drop, List.length_take]; rfl)) ?_; (with_reducible refine (oublaw11_first.calls  true _ A6.out).mono ?_); rintro e w9 ⟨rfl, hb⟩; refine ⟨_, rfl, ?_⟩; have n0_ := Aside0.mk (below_step (by repeat (first | (with_reducible first | exact HB.out | apply below_alloc | apply pw_below_drewN | apply below_drew1) | exact HB.out)) hb); clear HB; have HB := n0_; clear n0_; (try clear hb); (try clear hb2); (try clear hk); (try clear hi)))
  (try simp only [Act.put, List.setIfInBounds_toArray, List.set_cons_zero, List.set_cons_succ])
  go_cut [42] (fun v42 wc => ∃ (kq : Nat) (x42_7 : Bool), v42 = .bool x42_7 ∧ Aside0 (oublaw11_EvictDeep.j0 kq a0 a1 l2 l3 a4 x42_7 = some r) ∧ Aside0 (kq ≤ k) ∧ Aside0 (Below w.heap.size w wc))
  case first =>
   have H := HC8.out
   clear HC8
   by_cases c10 : (l2.length : Int) > 40
   ·rw [if_pos c10] at H
    have c10b0 : decide (40 < (l2.length : Int)) = true := decide_eq_true c10
    have c10b1 : decide (40 < l2.length) = true := decide_eq_true (by omega)
    clear c10
    (first | rw [c10b0] | (simp only [i64_w, i32_w]; rw [c10b0]) | skip)
    have H' := Aside0.mk H
    clear H
    go_wp2
    go_meet
    case rel => exact ⟨_, (true), (by first | rfl | (simp; done) | (simp [*]; done)), H', ⟨by first | omega | exact Nat.le_refl _⟩, ⟨by repeat (first | (with_reducible first | exact HB.out | apply below_alloc | apply pw_below_drewN | apply below_drew1) | exact HB.out)⟩⟩
   ·rw [if_neg c10] at H
    have c10b0 : decide (40 < (l2.length : Int)) = false := decide_eq_false c10
    have c10b1 : decide (40 < l2.length) = false := decide_eq_false (by omega)
    clear c10
    (first | rw [c10b0] | (simp only [i64_w, i32_w]; rw [c10b0]) | skip)
    by_cases c11 : (l3.length : Int) > 40
    ·rw [if_pos c11] at H
     have c11b0 : decide (40 < (l3.length : Int)) = true := decide_eq_true c11
     have c11b1 : decide (40 < l3.length) = true := decide_eq_true (by omega)
     clear c11
     have H' := Aside0.mk H
     clear H
     go_wp2
     go_meet
     case rel => exact ⟨_, (true), (by first | rfl | (simp; done) | (simp [*]; done)), H', ⟨by first | omega | exact Nat.le_refl _⟩, ⟨by repeat (first | (with_reducible first | exact HB.out | apply below_alloc | apply pw_below_drewN | apply below_drew1) | exact HB.out)⟩⟩
    ·rw [if_neg c11] at H
     have c11b0 : decide (40 < (l3.length : Int)) = false := decide_eq_false c11
     have c11b1 : decide (40 < l3.length) = false := decide_eq_false (by omega)
     clear c11
     by_cases c12 : a4 < 0
     ·rw [if_pos c12] at H
      have c12b0 : decide (a4 < 0) = true := decide_eq_true c12
      clear c12
      have H' := Aside0.mk H
      clear H
      go_wp2
      go_meet
      case rel => exact ⟨_, (true), (by first | rfl | (simp; done) | (simp [*]; done)), H', ⟨by first | omega | exact Nat.le_refl _⟩, ⟨by repeat (first | (with_reducible first | exact HB.out | apply below_alloc | apply pw_below_drewN | apply below_drew1) | exact HB.out)⟩⟩
     ·rw [if_neg c12] at H
      have c12b0 : decide (a4 < 0) = false := decide_eq_false c12
      clear c12
      replace H := Option.bind_eq_some_iff.mp H
      obtain ⟨t102, A130, H⟩ := H
      replace H : ((oubref7_MayPlan.f k a0 a1 l2 t102).bind fun t105 => (oublaw11_EvictDeep.j0 k a0 a1 l2 l3 a4 (!t105))) = some r := H
      have A13 := Aside0.mk A130
      clear A130
      replace H := Option.bind_eq_some_iff.mp H
      obtain ⟨t105, A140, H⟩ := H
      replace H : (oublaw11_EvictDeep.j0 k a0 a1 l2 l3 a4 (!t105)) = some r := H
      have A14 := Aside0.mk A140
      clear A140
      have H' := Aside0.mk H
      clear H
      go_wp2_with (first | (go_at_call 9; (with_reducible refine (oublaw11_items.calls k _ _ l3 t102 _ ?side1 ?side2 A13.out).mono ?_); (case side1 => repeat (first | exact (Kd.C_below HR3.out HB.out) | (with_reducible refine Kd.C_alloc ?_ _) | (with_reducible refine Kd.C_drewN ?_ _) | (with_reducible refine Kd.C_drew ?_))); (case side2 => exact HC3.out); rintro e w15 ⟨v103, rfl, ho0, hb⟩; have n0_ := Aside0.mk (Kd.R_lower ho0 (below_size (by repeat (first | (with_reducible first | exact HB.out | apply below_alloc | apply pw_below_drewN | apply below_drew1) | exact HB.out)))); have n1_ := Aside0.mk (below_step (by repeat (first | (with_reducible first | exact HB.out | apply below_alloc | apply pw_below_drewN | apply below_drew1) | exact HB.out)) hb); clear HB; have HO104 := n0_; have HB := n1_; clear n0_ n1_; (try clear hb); (try clear hb2); (try clear hk); (try clear hi); (try clear ho0); obtain ⟨Ao16, co16, eo16⟩ := Kd.R_slice HO104.out; subst eo16) | (go_at_call 8; (with_reducible refine (oubref7_MayPlan.calls k a0 a1 _ _ l2 _ _ t102 t105 _ ?side1 ?side2 ?side3 ?side4 A14.out).mono ?_); (case side1 => repeat (first | exact (Kd.C_below HR2.out HB.out) | (with_reducible refine Kd.C_alloc ?_ _) | (with_reducible refine Kd.C_drewN ?_ _) | (with_reducible refine Kd.C_drew ?_))); (case side2 => exact HC2.out); (case side3 => repeat (first | exact (Kd.R_reads' HO104.out).2.2 | (with_reducible refine Kd.C_alloc ?_ _) | (with_reducible refine Kd.C_drewN ?_ _) | (with_reducible refine Kd.C_drew ?_))); (case side4 => exact (Kd.R_reads' HO104.out).2.1); rintro e w' ⟨rfl, ⟨nd, rfl⟩⟩))
      go_meet
      case rel => exact ⟨_, (!t105), (by first | rfl | (simp; done) | (simp [*]; done)), H', ⟨by first | omega | exact Nat.le_refl _⟩, ⟨by repeat (first | (with_reducible first | exact HB.out | apply below_alloc | apply pw_below_drewN | apply below_drew1) | exact HB.out)⟩⟩
  case rest =>
   clear HC8
   try clear c1
   try clear c2
   try clear p2
   try clear c3
   try clear c4
   try clear c7
   try clear c10
   try clear c10b0
   try clear c10b1
   try clear c11
   try clear c11b0
   try clear c11b1
   try clear c12
   try clear c12b0
   obtain ⟨kq, x42_7, rfl, HA, HJ7, HB⟩ := hcut
   cases kq with
   | zero => exact absurd HA.out (by simp [oublaw11_EvictDeep.j0])
   | succ kj7 =>
    have H := HA.out
    clear HA
    simp only [oublaw11_EvictDeep.j0] at H
    by_cases c17 : x42_7 = true
    ·subst c17
     have H1 : ((oublaw11_first.f).bind fun t106 => (some t106)) = some r := by rw [if_pos rfl] at H; exact H
     clear H
     have H := H1
     clear H1
     replace H := Option.bind_eq_some_iff.mp H
     obtain ⟨t106, A180, H⟩ := H
     replace H : (some t106) = some r := H
     have A18 := Aside0.mk A180
     clear A180
     obtain rfl := Option.some.inj H
     go_wp2_with (first | ((with_reducible refine gate_callee (f := 7) rfl ?_); refine goesL_ (some 43) rfl rfl Try.func7 (by kernel_rfl) rfl #[] rfl (by (try simp only [List.map_toArray, List.map_cons, List.map_nil]); first | done | rfl | (simp only [List.length_drop, List.length_take]; rfl)) ?_; (with_reducible refine (oublaw11_first.calls  t106 _ A18.out).mono ?_); rintro e w19 ⟨rfl, hb⟩; refine ⟨_, rfl, ?_⟩; have n0_ := Aside0.mk (below_step (by repeat (first | (with_reducible first | exact HB.out | apply below_alloc | apply pw_below_drewN | apply below_drew1) | exact HB.out)) hb); clear HB; have HB := n0_; clear n0_; (try clear hb); (try clear hb2); (try clear hk); (try clear hi)))
     go_ret
     exact ⟨by first | rfl | (simp [errW_none, errW_some] <;> rfl) | (simp [*, errW_none, errW_some] <;> rfl), by repeat (first | (with_reducible first | exact HB.out | apply below_alloc | apply pw_below_drewN | apply below_drew1) | exact HB.out)⟩
    ·replace c17 := Bool.eq_false_iff.mpr c17
     subst c17
     have H1 : ((evict_Plan.f a0 a1 l2 l3).bind fun bt107 => (oublaw11_EvictDeep.l0 kj7 a0 a1 l2 l3 a4 bt107.1 bt107.2 ([] : List (S39)) 0)) = some r := by rw [if_neg (show ¬ (false = true) by decide)] at H; exact H
     clear H
     have H := H1
     clear H1
     replace H := Option.bind_eq_some_iff.mp H
     obtain ⟨⟨t107, t108⟩, A200, H⟩ := H
     replace H : (oublaw11_EvictDeep.l0 kj7 a0 a1 l2 l3 a4 t107 t108 ([] : List (S39)) 0) = some r := H
     have A20 := Aside0.mk A200
     clear A200
     have H' := Aside0.mk H
     clear H
     go_wp2_with (first | ((with_reducible refine gate_callee (f := 10) rfl ?_); refine goesL_ (some 49) rfl rfl Try.func10 (by kernel_rfl) rfl #[.int .i64 a0, .int .i64 a1, .slice A2 l2.length c2, .slice A3 l3.length c3] rfl (by (try simp only [List.map_toArray, List.map_cons, List.map_nil]); first | done | rfl | (simp only [List.length_drop, List.length_take]; rfl)) ?_; (with_reducible refine (evict_Plan.calls a0 a1 _ _ l2 _ _ l3 t107 t108 _ ?side1 ?side2 ?side3 ?side4 A20.out).mono ?_); (case side1 => repeat (first | exact (Kd.C_below HR2.out HB.out) | (with_reducible refine Kd.C_alloc ?_ _) | (with_reducible refine Kd.C_drewN ?_ _) | (with_reducible refine Kd.C_drew ?_))); (case side2 => exact HC2.out); (case side3 => repeat (first | exact (Kd.C_below HR3.out HB.out) | (with_reducible refine Kd.C_alloc ?_ _) | (with_reducible refine Kd.C_drewN ?_ _) | (with_reducible refine Kd.C_drew ?_))); (case side4 => exact HC3.out); rintro e w21 ⟨v109, v111, rfl, ho0, ho1, hb⟩; refine ⟨_, rfl, ?_⟩; have n0_ := Aside0.mk (Kd.N_lower (Kd.N_mono (ok' := fun k_ => some k_ ≠ (v111 : Value).ownBlock) (Kd.S_N (Kd.S_bound ho0)) (fun k_ hk_ => hk_.1)) (below_size (by repeat (first | (with_reducible first | exact HB.out | apply below_alloc | apply pw_below_drewN | apply below_drew1) | exact HB.out)))); have n1_ := Aside0.mk (Kd.R_lower ho1 (below_size (by repeat (first | (with_reducible first | exact HB.out | apply below_alloc | apply pw_below_drewN | apply below_drew1) | exact HB.out)))); have n2_ := Aside0.mk (below_step (by repeat (first | (with_reducible first | exact HB.out | apply below_alloc | apply pw_below_drewN | apply below_drew1) | exact HB.out)) hb); clear HB; have HO110 := n0_; have HO112 := n1_; have HB := n2_; clear n0_ n1_ n2_; (try clear hb); (try clear hb2); (try clear hk); (try clear hi); (try clear ho0); (try clear ho1)))
     go_loopg [13, 14] kj7 (fun kq v13 v14 w' => ∃ (x13_2 : List (S39)) (x14_2 : Int), v14 = .int .i64 x14_2 ∧ Aside0 (oublaw11_EvictDeep.l0 kq a0 a1 l2 l3 a4 t107 t108 x13_2 x14_2 = some r) ∧ Aside0 (kq ≤ kj7) ∧ Aside0 (Kd.N k36 36 w' w.heap.size (fun k_ => some k_ ≠ (v111 : Value).ownBlock ∧ some k_ ≠ (v13 : Value).ownBlock) v109 t107) ∧ Aside0 (Kd.R (Kd.int .i64) 3 w' w.heap.size (fun _ => True) v111 t108) ∧ Aside0 (Kd.R k39 39 w' w.heap.size (fun _ => True) v13 x13_2) ∧ Aside0 (Below w.heap.size w w'))
     case atStart => exact ⟨(([] : List (S39))), (0), (by first | rfl | (simp; done) | (simp [*]; done)), H', ⟨Nat.le_refl _⟩, ⟨by (with_reducible repeat (first | apply Kd.N_alloc | apply Kd.N_drewN | apply Kd.N_drew)); exact Kd.N_mono HO110.out (fun _ hk => ⟨hk, (by simp [Value.ownBlock])⟩)⟩, ⟨by (with_reducible repeat (first | apply Kd.R_alloc | apply Kd.R_drewN | apply Kd.R_drew)); exact HO112.out⟩, ⟨by first | exact Kd.R_nil _ _ _ _ _ | exact Kd.N_nil _ _ _ _ _ | exact Kd.V_nil _ _ _ _ _ | exact Kd.Q_nil _ _ _ _ _ | exact Kd.S_nil _ _ _ _ _⟩, ⟨by repeat (first | (with_reducible first | exact HB.out | apply below_alloc | apply pw_below_drewN | apply below_drew1) | exact HB.out)⟩⟩
     case round =>
      clear H'
      try clear c1
      try clear c2
      try clear p2
      try clear c3
      try clear c4
      try clear c7
      try clear c10
      try clear c10b0
      try clear c10b1
      try clear c11
      try clear c11b0
      try clear c11b1
      try clear c12
      try clear c12b0
      try clear c17
      try clear p2
      obtain ⟨x13_2, x14_2, rfl, HA, HK2, HO_11, HO_12, HO_13, HB⟩ := hrel
      cases gk with
      | zero => exact absurd HA.out (by simp [oublaw11_EvictDeep.l0])
      | succ k2 =>
       have H := HA.out
       clear HA
       simp only [oublaw11_EvictDeep.l0] at H
       by_cases c22 : x14_2 < (l3.length : Int)
       ·rw [if_pos c22] at H
        have c22b0 : decide (x14_2 < (l3.length : Int)) = true := decide_eq_true c22
        clear c22
        by_cases c23 : (l3.length : Int) = 0
        ·rw [if_pos c23] at H
         exact absurd H (by simp)
        ·rw [if_neg c23] at H
         have c23b0 : ((l3.length : Int) == 0) = false := beq_eq_false_iff_ne.mpr c23
         have c23b1 : ((l3.length : Int) != 0) = true := bne_iff_ne.mpr c23
         have c23b2 : ¬ (l3 = []) := fun h_ => c23 (by rw [h_]; rfl)
         obtain ⟨ji24, hji24⟩ : ∃ j_ : Int, (Int.tmod (wrap64 (x14_2 + (Int.tmod a4 (l3.length : Int)))) (l3.length : Int)) = j_ := ⟨_, rfl⟩
         replace H : (if 0 ≤ (ji24) then (if (ji24) < (l3.length : Int) then (if x13_2.length < 8796093022208 then (oublaw11_EvictDeep.l0 k2 a0 a1 l2 l3 a4 t107 t108 (x13_2 ++ [(⟨(rd_T39 l3 (ji24)).f0, (rd_T39 l3 (ji24)).f1⟩ : S39)]) (wrap64 (x14_2 + 1))) else (none)) else (none)) else (none)) = some r := by first | (rw [hji24] at H; exact H) | (simp only [hji24] at H ⊢; exact H)
         by_cases c25 : 0 ≤ (ji24)
         ·rw [if_pos c25] at H
          have c25b0 : decide (0 ≤ (ji24)) = true := decide_eq_true c25
          clear c25
          by_cases c26 : (ji24) < (l3.length : Int)
          ·rw [if_pos c26] at H
           have c26b0 : decide ((ji24) < (l3.length : Int)) = true := decide_eq_true c26
           clear c26
           by_cases c27 : x13_2.length < 8796093022208
           ·rw [if_pos c27] at H
            have LMc27 := Aside0.mk c27
            clear c27
            obtain ⟨y114, hy114⟩ : ∃ y_ : List (S39), y_ = (x13_2 ++ [(⟨(rd_T39 l3 (ji24)).f0, (rd_T39 l3 (ji24)).f1⟩ : S39)]) := ⟨_, rfl⟩
            replace H : (oublaw11_EvictDeep.l0 k2 a0 a1 l2 l3 a4 t107 t108 y114 (wrap64 (x14_2 + 1))) = some r := by first | (rw [hy114]; with_reducible exact H) | (have H2_ := (Option.bind_some _ _).symm.trans H; rw [hy114]; with_reducible exact H2_) | (have H2_ := (Option.bind_some _ _).symm.trans H; with_reducible exact H2_) | with_reducible exact H | (rw [hy114]; exact H) | exact H
            have Ny114 := Aside0.mk hy114
            clear hy114
            have H' := Aside0.mk H
            clear H
            have p113 : 0 ≤ ((ji24) : Int) := of_decide_eq_true (by first | (with_reducible assumption) | assumption)
            have q113 : (ji24) < (l3.length : Int) := of_decide_eq_true (by first | (with_reducible assumption) | assumption)
            obtain ⟨ad113, e113, hx113_0, hx113_1⟩ := at_T39 HR3.out (ji24) p113 q113
            cases e113
            replace hx113_0 := (HB.out.cell (World.block_lt_of_cell? w _ hx113_0)).trans hx113_0
            replace hx113_1 := (HB.out.cell (World.block_lt_of_cell? w _ hx113_1)).trans hx113_1
            replace p113 := eq_true p113
            replace q113 := eq_true q113
            go_wp2_with (first | ((with_reducible refine gate_builtin (b := .append) (xs := #[.tmp 58, .tmp 71]) rfl ?_); (try (refine gate_guard (by rfl) ?_; dsimp only)); at_builtin; refine Kd.R_append k39 (w0 := w) w.heap.size rfl (.tmp 58) (.tmp 71) 23 39 (.agg #[(.int .i64 0), (.int .i64 0)]) 16 rfl Try.underlying23 info39 rfl (by decide) (by omega) u13 x13_2 (⟨(rd_T39 l3 (ji24)).f0, (rd_T39 l3 (ji24)).f1⟩ : S39) [.int .i64 ((rd_T39 l3 (ji24)).f0), .int .i64 ((rd_T39 l3 (ji24)).f1)] (fun _ => True) (fun _ => False) rfl rfl ?aP (fun _ hk => hk.elim) ?aF ?aO ?aB ?aS ?aL ?_; (case aP => exact k39_mkM _ _ _ (⟨(rd_T39 l3 (ji24)).f0, (rd_T39 l3 (ji24)).f1⟩ : S39)); (case aB => exact (by repeat (first | (with_reducible first | exact HB.out | apply below_alloc | apply pw_below_drewN | apply below_drew1) | exact HB.out))); (case aF => exact (fun _ _ => trivial)); (case aO => exact (by (with_reducible repeat (first | apply Kd.R_alloc | apply Kd.R_drewN | apply Kd.R_drew)); exact HO_13.out)); (case aS => exact (below_size (by repeat (first | (with_reducible first | exact HB.out | apply below_alloc | apply pw_below_drewN | apply below_drew1) | exact HB.out)))); (case aL => have := LMc27.out; omega); intro v115 w28 ho hb hg hat; rw [← Ny114.out] at ho; have n0_ := Aside0.mk (Kd.N_afterv (ok := (fun k_ => some k_ ≠ (v111 : Value).ownBlock)) (by (with_reducible repeat (first | apply Kd.N_alloc | apply Kd.N_drewN | apply Kd.N_drew)); exact HO_11.out) hg hat); have n1_ := Aside0.mk (Kd.R_over' (by (with_reducible repeat (first | apply Kd.R_alloc | apply Kd.R_drewN | apply Kd.R_drew)); exact HO_12.out) (Kd.R_typed (by (with_reducible repeat (first | apply Kd.R_alloc | apply Kd.R_drewN | apply Kd.R_drew)); exact HO_13.out)) (by decide) hg); have n2_ := Aside0.mk (hb); have n3_ := Aside0.mk (ho); clear HO_11; clear HO_12; clear HB; clear HO_13; have HO_11 := n0_; have HO_12 := n1_; have HB := n2_; have HO116 := n3_; clear n0_ n1_ n2_ n3_; clear ho hb hg hat))
            go_roundg k2
            case measure => have := HJ7.out; have := HK2.out; omega
            case rel => exact ⟨(y114), (wrap64 (x14_2 + 1)), (by first | rfl | (simp; done) | (simp [*]; done)), H', ⟨by have := HJ7.out; have := HK2.out; omega⟩, ⟨by (with_reducible repeat (first | apply Kd.N_alloc | apply Kd.N_drewN | apply Kd.N_drew)); exact HO_11.out⟩, ⟨by (with_reducible repeat (first | apply Kd.R_alloc | apply Kd.R_drewN | apply Kd.R_drew)); exact HO_12.out⟩, ⟨by (with_reducible repeat (first | apply Kd.R_alloc | apply Kd.R_drewN | apply Kd.R_drew)); exact HO116.out⟩, ⟨by repeat (first | (with_reducible first | exact HB.out | apply below_alloc | apply pw_below_drewN | apply below_drew1) | exact HB.out)⟩⟩
           ·rw [if_neg c27] at H
            exact absurd H (by simp)
          ·rw [if_neg c26] at H
           exact absurd H (by simp)
         ·rw [if_neg c25] at H
          exact absurd H (by simp)
       ·rw [if_neg c22] at H
        have c22b0 : decide (x14_2 < (l3.length : Int)) = false := decide_eq_false c22
        clear c22
        replace H := Option.bind_eq_some_iff.mp H
        obtain ⟨⟨t117, t118⟩, A290, H⟩ := H
        replace H : ((oublaw11_fills.f k2 t107).bind fun t123 => ((oublaw11_fills.f k2 t117).bind fun t126 => ((oubref7_SameFills.f k2 t123 t126).bind fun t129 => (if t129 = true then ((oubref_Ints.f k2 t108 t118).bind fun t130 => (oublaw11_EvictDeep.j2 k2 a0 a1 l3 t107 (!t130))) else (oublaw11_EvictDeep.j2 k2 a0 a1 l3 t107 true))))) = some r := H
        have A29 := Aside0.mk A290
        clear A290
        have HC30 := Aside0.mk H
        clear H
        obtain ⟨Ao31, co31, eo31⟩ := Kd.R_slice HO_13.out
        subst eo31
        go_upto_region 12 with (first | ((with_reducible refine gate_callee (f := 10) rfl ?_); refine goesL_ (some 78) rfl rfl Try.func10 (by kernel_rfl) rfl #[.int .i64 a0, .int .i64 a1, .slice A2 l2.length c2, .slice Ao31 x13_2.length co31] rfl (by (try simp only [List.map_toArray, List.map_cons, List.map_nil]); first | done | rfl | (simp only [List.length_drop, List.length_take]; rfl)) ?_; (with_reducible refine (evict_Plan.calls a0 a1 _ _ l2 _ _ x13_2 t117 t118 _ ?side1 ?side2 ?side3 ?side4 A29.out).mono ?_); (case side1 => repeat (first | exact (Kd.C_below HR2.out HB.out) | (with_reducible refine Kd.C_alloc ?_ _) | (with_reducible refine Kd.C_drewN ?_ _) | (with_reducible refine Kd.C_drew ?_))); (case side2 => exact HC2.out); (case side3 => repeat (first | exact (Kd.R_reads' HO_13.out).2.2 | (with_reducible refine Kd.C_alloc ?_ _) | (with_reducible refine Kd.C_drewN ?_ _) | (with_reducible refine Kd.C_drew ?_))); (case side4 => exact (Kd.R_reads' HO_13.out).2.1); rintro e w32 ⟨v119, v121, rfl, ho0, ho1, hb⟩; refine ⟨_, rfl, ?_⟩; have n0_ := Aside0.mk (Kd.N_mono (Kd.N_told (Kd.N_told (Kd.N_old (by (with_reducible repeat (first | apply Kd.N_alloc | apply Kd.N_drewN | apply Kd.N_drew)); exact HO_11.out) hb) (Kd.S_base ho0)) (Kd.R_base ho1)) (fun _ h_ => h_.1)); have n1_ := Aside0.mk (Kd.R_elder' (by (with_reducible repeat (first | apply Kd.R_alloc | apply Kd.R_drewN | apply Kd.R_drew)); exact HO_12.out) (Kd.R_base ho1) hb); have n2_ := Aside0.mk (Kd.R_below (by (with_reducible repeat (first | apply Kd.R_alloc | apply Kd.R_drewN | apply Kd.R_drew)); exact HO_13.out) hb); have n3_ := Aside0.mk (Kd.N_lower (Kd.N_mono (ok' := fun k_ => some k_ ≠ (v121 : Value).ownBlock ∧ some k_ ≠ (v109 : Value).ownBlock ∧ some k_ ≠ (v111 : Value).ownBlock ∧ some k_ ≠ (.slice Ao31 x13_2.length co31 : Value).ownBlock) (Kd.S_N (Kd.S_bound ho0)) (fun k_ hk_ => ⟨hk_.1, (Kd.fresh' (Kd.N_lt (by (with_reducible repeat (first | apply Kd.N_alloc | apply Kd.N_drewN | apply Kd.N_drew)); exact HO_11.out)) k_ hk_.2.1), (Kd.fresh' (Kd.R_lt (by (with_reducible repeat (first | apply Kd.R_alloc | apply Kd.R_drewN | apply Kd.R_drew)); exact HO_12.out)) k_ hk_.2.1), (Kd.fresh' (Kd.R_lt (by (with_reducible repeat (first | apply Kd.R_alloc | apply Kd.R_drewN | apply Kd.R_drew)); exact HO_13.out)) k_ hk_.2.1)⟩)) (below_size (by repeat (first | (with_reducible first | exact HB.out | apply below_alloc | apply pw_below_drewN | apply below_drew1) | exact HB.out)))); have n4_ := Aside0.mk (Kd.R_lower (Kd.R_new' ho1 (Kd.R_lt (by (with_reducible repeat (first | apply Kd.R_alloc | apply Kd.R_drewN | apply Kd.R_drew)); exact HO_12.out))) (below_size (by repeat (first | (with_reducible first | exact HB.out | apply below_alloc | apply pw_below_drewN | apply below_drew1) | exact HB.out)))); have n5_ := Aside0.mk (below_step (by repeat (first | (with_reducible first | exact HB.out | apply below_alloc | apply pw_below_drewN | apply below_drew1) | exact HB.out)) hb); clear HO_11; clear HO_12; clear HO_13; clear HB; have HO_11 := n0_; have HO_12 := n1_; have HO_13 := n2_; have HO120 := n3_; have HO122 := n4_; have HB := n5_; clear n0_ n1_ n2_ n3_ n4_ n5_; (try clear hb); (try clear hb2); (try clear hk); (try clear hi); (try clear ho0); (try clear ho1)))
        (try simp only [Act.put, List.setIfInBounds_toArray, List.set_cons_zero, List.set_cons_succ])
        go_cut [92] (fun v92 wc => ∃ (kq : Nat) (x92_29 : Bool), v92 = .bool x92_29 ∧ Aside0 (oublaw11_EvictDeep.j2 kq a0 a1 l3 t107 x92_29 = some r) ∧ Aside0 (kq ≤ k2) ∧ Aside0 (Kd.N k36 36 wc w.heap.size (fun _ => True) v109 t107) ∧ Aside0 (Below w.heap.size w wc))
        case first =>
         have H := HC30.out
         clear HC30
         replace H := Option.bind_eq_some_iff.mp H
         obtain ⟨t123, A330, H⟩ := H
         replace H : ((oublaw11_fills.f k2 t117).bind fun t126 => ((oubref7_SameFills.f k2 t123 t126).bind fun t129 => (if t129 = true then ((oubref_Ints.f k2 t108 t118).bind fun t130 => (oublaw11_EvictDeep.j2 k2 a0 a1 l3 t107 (!t130))) else (oublaw11_EvictDeep.j2 k2 a0 a1 l3 t107 true)))) = some r := H
         have A33 := Aside0.mk A330
         clear A330
         replace H := Option.bind_eq_some_iff.mp H
         obtain ⟨t126, A340, H⟩ := H
         replace H : ((oubref7_SameFills.f k2 t123 t126).bind fun t129 => (if t129 = true then ((oubref_Ints.f k2 t108 t118).bind fun t130 => (oublaw11_EvictDeep.j2 k2 a0 a1 l3 t107 (!t130))) else (oublaw11_EvictDeep.j2 k2 a0 a1 l3 t107 true))) = some r := H
         have A34 := Aside0.mk A340
         clear A340
         replace H := Option.bind_eq_some_iff.mp H
         obtain ⟨t129, A350, H⟩ := H
         replace H : (if t129 = true then ((oubref_Ints.f k2 t108 t118).bind fun t130 => (oublaw11_EvictDeep.j2 k2 a0 a1 l3 t107 (!t130))) else (oublaw11_EvictDeep.j2 k2 a0 a1 l3 t107 true)) = some r := H
         have A35 := Aside0.mk A350
         clear A350
         by_cases c36 : t129 = true
         ·subst c36
          have H1 : ((oubref_Ints.f k2 t108 t118).bind fun t130 => (oublaw11_EvictDeep.j2 k2 a0 a1 l3 t107 (!t130))) = some r := by rw [if_pos rfl] at H; exact H
          clear H
          have H := H1
          clear H1
          replace H := Option.bind_eq_some_iff.mp H
          obtain ⟨t130, A370, H⟩ := H
          replace H : (oublaw11_EvictDeep.j2 k2 a0 a1 l3 t107 (!t130)) = some r := H
          have A37 := Aside0.mk A370
          clear A370
          have H' := Aside0.mk H
          clear H
          obtain ⟨Ao38, co38, eo38⟩ := Kd.N_slice HO_11.out
          subst eo38
          go_wp2_with (first | ((with_reducible refine gate_callee (f := 18) rfl ?_); refine goesL_ (some 82) rfl rfl Try.func18 (by kernel_rfl) rfl #[.slice Ao38 t107.length co38] rfl (by (try simp only [List.map_toArray, List.map_cons, List.map_nil]); first | done | rfl | (simp only [List.length_drop, List.length_take]; rfl)) ?_; (with_reducible refine (oublaw11_fills.calls k2 (fun k_ => (((some k_ ≠ (v111 : Value).ownBlock ∧ some k_ ≠ (.slice Ao31 x13_2.length co31 : Value).ownBlock) ∧ some k_ ≠ (v119 : Value).ownBlock) ∧ some k_ ≠ (v121 : Value).ownBlock)) _ _ t107 t123 _ ?side1 A33.out).mono ?_); clear A33; (case side1 => exact Kd.N_V (HO_11.out)); rintro e w39 ⟨v124, rfl, ho0, hb⟩; refine ⟨_, rfl, ?_⟩; have n0_ := Aside0.mk (Kd.N_elder' (by (with_reducible repeat (first | apply Kd.N_alloc | apply Kd.N_drewN | apply Kd.N_drew)); exact HO_11.out) (Kd.N_base ho0) hb); have n1_ := Aside0.mk (Kd.R_below (by (with_reducible repeat (first | apply Kd.R_alloc | apply Kd.R_drewN | apply Kd.R_drew)); exact HO_12.out) hb); have n2_ := Aside0.mk (Kd.R_below (by (with_reducible repeat (first | apply Kd.R_alloc | apply Kd.R_drewN | apply Kd.R_drew)); exact HO_13.out) hb); have n3_ := Aside0.mk (Kd.N_elder' (by (with_reducible repeat (first | apply Kd.N_alloc | apply Kd.N_drewN | apply Kd.N_drew)); exact HO120.out) (Kd.N_base ho0) hb); have n4_ := Aside0.mk (Kd.R_below (by (with_reducible repeat (first | apply Kd.R_alloc | apply Kd.R_drewN | apply Kd.R_drew)); exact HO122.out) hb); have n5_ := Aside0.mk (Kd.N_lower (Kd.N_mono (ok' := fun k_ => some k_ ≠ (v111 : Value).ownBlock ∧ some k_ ≠ (.slice Ao31 x13_2.length co31 : Value).ownBlock ∧ some k_ ≠ (v119 : Value).ownBlock ∧ some k_ ≠ (v121 : Value).ownBlock) ho0 (fun k_ hk_ => ⟨Or.elim hk_ (fun hs_ => hs_.1.1.1) (fun hn_ => (Kd.fresh' (Kd.R_lt (by (with_reducible repeat (first | apply Kd.R_alloc | apply Kd.R_drewN | apply Kd.R_drew)); exact HO_12.out)) k_ hn_)), Or.elim hk_ (fun hs_ => hs_.1.1.2) (fun hn_ => (Kd.fresh' (Kd.R_lt (by (with_reducible repeat (first | apply Kd.R_alloc | apply Kd.R_drewN | apply Kd.R_drew)); exact HO_13.out)) k_ hn_)), Or.elim hk_ (fun hs_ => hs_.1.2) (fun hn_ => (Kd.fresh' (Kd.N_lt (by (with_reducible repeat (first | apply Kd.N_alloc | apply Kd.N_drewN | apply Kd.N_drew)); exact HO120.out)) k_ hn_)), Or.elim hk_ (fun hs_ => hs_.2) (fun hn_ => (Kd.fresh' (Kd.R_lt (by (with_reducible repeat (first | apply Kd.R_alloc | apply Kd.R_drewN | apply Kd.R_drew)); exact HO122.out)) k_ hn_))⟩)) (below_size (by repeat (first | (with_reducible first | exact HB.out | apply below_alloc | apply pw_below_drewN | apply below_drew1) | exact HB.out)))); have n6_ := Aside0.mk (below_step (by repeat (first | (with_reducible first | exact HB.out | apply below_alloc | apply pw_below_drewN | apply below_drew1) | exact HB.out)) hb); clear HO_11; clear HO_12; clear HO_13; clear HO120; clear HO122; clear HB; have HO_11 := n0_; have HO_12 := n1_; have HO_13 := n2_; have HO120 := n3_; have HO122 := n4_; have HO125 := n5_; have HB := n6_; clear n0_ n1_ n2_ n3_ n4_ n5_ n6_; (try clear hb); (try clear hb2); (try clear hk); (try clear hi); (try clear ho0); obtain ⟨Ao40, co40, eo40⟩ := Kd.N_slice HO120.out; subst eo40) | ((with_reducible refine gate_callee (f := 18) rfl ?_); refine goesL_ (some 84) rfl rfl Try.func18 (by kernel_rfl) rfl #[.slice Ao40 t117.length co40] rfl (by (try simp only [List.map_toArray, List.map_cons, List.map_nil]); first | done | rfl | (simp only [List.length_drop, List.length_take]; rfl)) ?_; (with_reducible refine (oublaw11_fills.calls k2 (fun k_ => ((some k_ ≠ (v121 : Value).ownBlock ∧ (some k_ ≠ (.slice Ao38 t107.length co38 : Value).ownBlock ∧ (some k_ ≠ (v111 : Value).ownBlock ∧ some k_ ≠ (.slice Ao31 x13_2.length co31 : Value).ownBlock))) ∧ some k_ ≠ (v124 : Value).ownBlock)) _ _ t117 t126 _ ?side1 A34.out).mono ?_); clear A34; (case side1 => exact Kd.N_V (HO120.out)); rintro e w41 ⟨v127, rfl, ho0, hb⟩; refine ⟨_, rfl, ?_⟩; have n0_ := Aside0.mk (Kd.N_elder' (by (with_reducible repeat (first | apply Kd.N_alloc | apply Kd.N_drewN | apply Kd.N_drew)); exact HO_11.out) (Kd.N_base ho0) hb); have n1_ := Aside0.mk (Kd.R_below (by (with_reducible repeat (first | apply Kd.R_alloc | apply Kd.R_drewN | apply Kd.R_drew)); exact HO_12.out) hb); have n2_ := Aside0.mk (Kd.R_below (by (with_reducible repeat (first | apply Kd.R_alloc | apply Kd.R_drewN | apply Kd.R_drew)); exact HO_13.out) hb); have n3_ := Aside0.mk (Kd.N_elder' (by (with_reducible repeat (first | apply Kd.N_alloc | apply Kd.N_drewN | apply Kd.N_drew)); exact HO120.out) (Kd.N_base ho0) hb); have n4_ := Aside0.mk (Kd.R_below (by (with_reducible repeat (first | apply Kd.R_alloc | apply Kd.R_drewN | apply Kd.R_drew)); exact HO122.out) hb); have n5_ := Aside0.mk (Kd.N_elder' (by (with_reducible repeat (first | apply Kd.N_alloc | apply Kd.N_drewN | apply Kd.N_drew)); exact HO125.out) (Kd.N_base ho0) hb); have n6_ := Aside0.mk (Kd.N_lower (Kd.N_mono (ok' := fun k_ => some k_ ≠ (.slice Ao38 t107.length co38 : Value).ownBlock ∧ some k_ ≠ (v111 : Value).ownBlock ∧ some k_ ≠ (.slice Ao31 x13_2.length co31 : Value).ownBlock ∧ some k_ ≠ (v121 : Value).ownBlock ∧ some k_ ≠ (v124 : Value).ownBlock) ho0 (fun k_ hk_ => ⟨Or.elim hk_ (fun hs_ => hs_.1.2.1) (fun hn_ => (Kd.fresh' (Kd.N_lt (by (with_reducible repeat (first | apply Kd.N_alloc | apply Kd.N_drewN | apply Kd.N_drew)); exact HO_11.out)) k_ hn_)), Or.elim hk_ (fun hs_ => hs_.1.2.2.1) (fun hn_ => (Kd.fresh' (Kd.R_lt (by (with_reducible repeat (first | apply Kd.R_alloc | apply Kd.R_drewN | apply Kd.R_drew)); exact HO_12.out)) k_ hn_)), Or.elim hk_ (fun hs_ => hs_.1.2.2.2) (fun hn_ => (Kd.fresh' (Kd.R_lt (by (with_reducible repeat (first | apply Kd.R_alloc | apply Kd.R_drewN | apply Kd.R_drew)); exact HO_13.out)) k_ hn_)), Or.elim hk_ (fun hs_ => hs_.1.1) (fun hn_ => (Kd.fresh' (Kd.R_lt (by (with_reducible repeat (first | apply Kd.R_alloc | apply Kd.R_drewN | apply Kd.R_drew)); exact HO122.out)) k_ hn_)), Or.elim hk_ (fun hs_ => hs_.2) (fun hn_ => (Kd.fresh' (Kd.N_lt (by (with_reducible repeat (first | apply Kd.N_alloc | apply Kd.N_drewN | apply Kd.N_drew)); exact HO125.out)) k_ hn_))⟩)) (below_size (by repeat (first | (with_reducible first | exact HB.out | apply below_alloc | apply pw_below_drewN | apply below_drew1) | exact HB.out)))); have n7_ := Aside0.mk (below_step (by repeat (first | (with_reducible first | exact HB.out | apply below_alloc | apply pw_below_drewN | apply below_drew1) | exact HB.out)) hb); clear HO_11; clear HO_12; clear HO_13; clear HO120; clear HO122; clear HO125; clear HB; have HO_11 := n0_; have HO_12 := n1_; have HO_13 := n2_; have HO120 := n3_; have HO122 := n4_; have HO125 := n5_; have HO128 := n6_; have HB := n7_; clear n0_ n1_ n2_ n3_ n4_ n5_ n6_ n7_; (try clear hb); (try clear hb2); (try clear hk); (try clear hi); (try clear ho0); obtain ⟨Ao42, co42, eo42⟩ := Kd.N_slice HO125.out; subst eo42; obtain ⟨Ao43, co43, eo43⟩ := Kd.N_slice HO128.out; subst eo43) | ((with_reducible refine gate_callee (f := 17) rfl ?_); refine goesL_ (some 85) rfl rfl Try.func17 (by kernel_rfl) rfl #[.slice Ao42 t123.length co42, .slice Ao43 t126.length co43] rfl (by (try simp only [List.map_toArray, List.map_cons, List.map_nil]); first | done | rfl | (simp only [List.length_drop, List.length_take]; rfl)) ?_; (with_reducible refine (oubref7_SameFills.calls k2 _ _ t123 _ _ t126 true _ ?side1 ?side2 ?side3 ?side4 A35.out).mono ?_); (case side1 => repeat (first | exact (Kd.N_reads' HO125.out).2.2 | (with_reducible refine Kd.C_alloc ?_ _) | (with_reducible refine Kd.C_drewN ?_ _) | (with_reducible refine Kd.C_drew ?_))); (case side2 => exact (Kd.N_reads' HO125.out).2.1); (case side3 => repeat (first | exact (Kd.N_reads' HO128.out).2.2 | (with_reducible refine Kd.C_alloc ?_ _) | (with_reducible refine Kd.C_drewN ?_ _) | (with_reducible refine Kd.C_drew ?_))); (case side4 => exact (Kd.N_reads' HO128.out).2.1); rintro e w' ⟨rfl, ⟨nd, rfl⟩⟩; refine ⟨_, rfl, ?_⟩; obtain ⟨Ao44, co44, eo44⟩ := Kd.R_slice HO_12.out; subst eo44; obtain ⟨Ao45, co45, eo45⟩ := Kd.R_slice HO122.out; subst eo45) | (go_at_call 11; (with_reducible refine (oubref_Ints.calls k2 _ _ t108 _ _ t118 t130 _ ?side1 ?side2 ?side3 ?side4 A37.out).mono ?_); (case side1 => repeat (first | exact (Kd.R_reads' HO_12.out).2.2 | (with_reducible refine Kd.C_alloc ?_ _) | (with_reducible refine Kd.C_drewN ?_ _) | (with_reducible refine Kd.C_drew ?_))); (case side2 => exact (Kd.R_reads' HO_12.out).2.1); (case side3 => repeat (first | exact (Kd.R_reads' HO122.out).2.2 | (with_reducible refine Kd.C_alloc ?_ _) | (with_reducible refine Kd.C_drewN ?_ _) | (with_reducible refine Kd.C_drew ?_))); (case side4 => exact (Kd.R_reads' HO122.out).2.1); rintro e w' ⟨rfl, ⟨nd, rfl⟩⟩))
          go_meet
          case rel => exact ⟨_, (!t130), (by first | rfl | (simp; done) | (simp [*]; done)), H', ⟨by have := HJ7.out; have := HK2.out; first | omega | exact Nat.le_refl _⟩, ⟨by (with_reducible repeat (first | apply Kd.N_alloc | apply Kd.N_drewN | apply Kd.N_drew)); exact Kd.N_mono HO_11.out (fun _ hk => trivial)⟩, ⟨by repeat (first | (with_reducible first | exact HB.out | apply below_alloc | apply pw_below_drewN | apply below_drew1) | exact HB.out)⟩⟩
         ·replace c36 := Bool.eq_false_iff.mpr c36
          subst c36
          have H1 : (oublaw11_EvictDeep.j2 k2 a0 a1 l3 t107 true) = some r := by rw [if_neg (show ¬ (false = true) by decide)] at H; exact H
          clear H
          have H := H1
          clear H1
          have H' := Aside0.mk H
          clear H
          obtain ⟨Ao46, co46, eo46⟩ := Kd.N_slice HO_11.out
          subst eo46
          go_wp2_with (first | ((with_reducible refine gate_callee (f := 18) rfl ?_); refine goesL_ (some 82) rfl rfl Try.func18 (by kernel_rfl) rfl #[.slice Ao46 t107.length co46] rfl (by (try simp only [List.map_toArray, List.map_cons, List.map_nil]); first | done | rfl | (simp only [List.length_drop, List.length_take]; rfl)) ?_; (with_reducible refine (oublaw11_fills.calls k2 (fun k_ => (((some k_ ≠ (v111 : Value).ownBlock ∧ some k_ ≠ (.slice Ao31 x13_2.length co31 : Value).ownBlock) ∧ some k_ ≠ (v119 : Value).ownBlock) ∧ some k_ ≠ (v121 : Value).ownBlock)) _ _ t107 t123 _ ?side1 A33.out).mono ?_); clear A33; (case side1 => exact Kd.N_V (HO_11.out)); rintro e w47 ⟨v124, rfl, ho0, hb⟩; refine ⟨_, rfl, ?_⟩; have n0_ := Aside0.mk (Kd.N_elder' (by (with_reducible repeat (first | apply Kd.N_alloc | apply Kd.N_drewN | apply Kd.N_drew)); exact HO_11.out) (Kd.N_base ho0) hb); have n1_ := Aside0.mk (Kd.R_below (by (with_reducible repeat (first | apply Kd.R_alloc | apply Kd.R_drewN | apply Kd.R_drew)); exact HO_12.out) hb); have n2_ := Aside0.mk (Kd.R_below (by (with_reducible repeat (first | apply Kd.R_alloc | apply Kd.R_drewN | apply Kd.R_drew)); exact HO_13.out) hb); have n3_ := Aside0.mk (Kd.N_elder' (by (with_reducible repeat (first | apply Kd.N_alloc | apply Kd.N_drewN | apply Kd.N_drew)); exact HO120.out) (Kd.N_base ho0) hb); have n4_ := Aside0.mk (Kd.R_below (by (with_reducible repeat (first | apply Kd.R_alloc | apply Kd.R_drewN | apply Kd.R_drew)); exact HO122.out) hb); have n5_ := Aside0.mk (Kd.N_lower (Kd.N_mono (ok' := fun k_ => some k_ ≠ (v111 : Value).ownBlock ∧ some k_ ≠ (.slice Ao31 x13_2.length co31 : Value).ownBlock ∧ some k_ ≠ (v119 : Value).ownBlock ∧ some k_ ≠ (v121 : Value).ownBlock) ho0 (fun k_ hk_ => ⟨Or.elim hk_ (fun hs_ => hs_.1.1.1) (fun hn_ => (Kd.fresh' (Kd.R_lt (by (with_reducible repeat (first | apply Kd.R_alloc | apply Kd.R_drewN | apply Kd.R_drew)); exact HO_12.out)) k_ hn_)), Or.elim hk_ (fun hs_ => hs_.1.1.2) (fun hn_ => (Kd.fresh' (Kd.R_lt (by (with_reducible repeat (first | apply Kd.R_alloc | apply Kd.R_drewN | apply Kd.R_drew)); exact HO_13.out)) k_ hn_)), Or.elim hk_ (fun hs_ => hs_.1.2) (fun hn_ => (Kd.fresh' (Kd.N_lt (by (with_reducible repeat (first | apply Kd.N_alloc | apply Kd.N_drewN | apply Kd.N_drew)); exact HO120.out)) k_ hn_)), Or.elim hk_ (fun hs_ => hs_.2) (fun hn_ => (Kd.fresh' (Kd.R_lt (by (with_reducible repeat (first | apply Kd.R_alloc | apply Kd.R_drewN | apply Kd.R_drew)); exact HO122.out)) k_ hn_))⟩)) (below_size (by repeat (first | (with_reducible first | exact HB.out | apply below_alloc | apply pw_below_drewN | apply below_drew1) | exact HB.out)))); have n6_ := Aside0.mk (below_step (by repeat (first | (with_reducible first | exact HB.out | apply below_alloc | apply pw_below_drewN | apply below_drew1) | exact HB.out)) hb); clear HO_11; clear HO_12; clear HO_13; clear HO120; clear HO122; clear HB; have HO_11 := n0_; have HO_12 := n1_; have HO_13 := n2_; have HO120 := n3_; have HO122 := n4_; have HO125 := n5_; have HB := n6_; clear n0_ n1_ n2_ n3_ n4_ n5_ n6_; (try clear hb); (try clear hb2); (try clear hk); (try clear hi); (try clear ho0); obtain ⟨Ao48, co48, eo48⟩ := Kd.N_slice HO120.out; subst eo48) | ((with_reducible refine gate_callee (f := 18) rfl ?_); refine goesL_ (some 84) rfl rfl Try.func18 (by kernel_rfl) rfl #[.slice Ao48 t117.length co48] rfl (by (try simp only [List.map_toArray, List.map_cons, List.map_nil]); first | done | rfl | (simp only [List.length_drop, List.length_take]; rfl)) ?_; (with_reducible refine (oublaw11_fills.calls k2 (fun k_ => ((some k_ ≠ (v121 : Value).ownBlock ∧ (some k_ ≠ (.slice Ao46 t107.length co46 : Value).ownBlock ∧ (some k_ ≠ (v111 : Value).ownBlock ∧ some k_ ≠ (.slice Ao31 x13_2.length co31 : Value).ownBlock))) ∧ some k_ ≠ (v124 : Value).ownBlock)) _ _ t117 t126 _ ?side1 A34.out).mono ?_); clear A34; (case side1 => exact Kd.N_V (HO120.out)); rintro e w49 ⟨v127, rfl, ho0, hb⟩; refine ⟨_, rfl, ?_⟩; have n0_ := Aside0.mk (Kd.N_elder' (by (with_reducible repeat (first | apply Kd.N_alloc | apply Kd.N_drewN | apply Kd.N_drew)); exact HO_11.out) (Kd.N_base ho0) hb); have n1_ := Aside0.mk (Kd.R_below (by (with_reducible repeat (first | apply Kd.R_alloc | apply Kd.R_drewN | apply Kd.R_drew)); exact HO_12.out) hb); have n2_ := Aside0.mk (Kd.R_below (by (with_reducible repeat (first | apply Kd.R_alloc | apply Kd.R_drewN | apply Kd.R_drew)); exact HO_13.out) hb); have n3_ := Aside0.mk (Kd.N_elder' (by (with_reducible repeat (first | apply Kd.N_alloc | apply Kd.N_drewN | apply Kd.N_drew)); exact HO120.out) (Kd.N_base ho0) hb); have n4_ := Aside0.mk (Kd.R_below (by (with_reducible repeat (first | apply Kd.R_alloc | apply Kd.R_drewN | apply Kd.R_drew)); exact HO122.out) hb); have n5_ := Aside0.mk (Kd.N_elder' (by (with_reducible repeat (first | apply Kd.N_alloc | apply Kd.N_drewN | apply Kd.N_drew)); exact HO125.out) (Kd.N_base ho0) hb); have n6_ := Aside0.mk (Kd.N_lower (Kd.N_mono (ok' := fun k_ => some k_ ≠ (.slice Ao46 t107.length co46 : Value).ownBlock ∧ some k_ ≠ (v111 : Value).ownBlock ∧ some k_ ≠ (.slice Ao31 x13_2.length co31 : Value).ownBlock ∧ some k_ ≠ (v121 : Value).ownBlock ∧ some k_ ≠ (v124 : Value).ownBlock) ho0 (fun k_ hk_ => ⟨Or.elim hk_ (fun hs_ => hs_.1.2.1) (fun hn_ => (Kd.fresh' (Kd.N_lt (by (with_reducible repeat (first | apply Kd.N_alloc | apply Kd.N_drewN | apply Kd.N_drew)); exact HO_11.out)) k_ hn_)), Or.elim hk_ (fun hs_ => hs_.1.2.2.1) (fun hn_ => (Kd.fresh' (Kd.R_lt (by (with_reducible repeat (first | apply Kd.R_alloc | apply Kd.R_drewN | apply Kd.R_drew)); exact HO_12.out)) k_ hn_)), Or.elim hk_ (fun hs_ => hs_.1.2.2.2) (fun hn_ => (Kd.fresh' (Kd.R_lt (by (with_reducible repeat (first | apply Kd.R_alloc | apply Kd.R_drewN | apply Kd.R_drew)); exact HO_13.out)) k_ hn_)), Or.elim hk_ (fun hs_ => hs_.1.1) (fun hn_ => (Kd.fresh' (Kd.R_lt (by (with_reducible repeat (first | apply Kd.R_alloc | apply Kd.R_drewN | apply Kd.R_drew)); exact HO122.out)) k_ hn_)), Or.elim hk_ (fun hs_ => hs_.2) (fun hn_ => (Kd.fresh' (Kd.N_lt (by (with_reducible repeat (first | apply Kd.N_alloc | apply Kd.N_drewN | apply Kd.N_drew)); exact HO125.out)) k_ hn_))⟩)) (below_size (by repeat (first | (with_reducible first | exact HB.out | apply below_alloc | apply pw_below_drewN | apply below_drew1) | exact HB.out)))); have n7_ := Aside0.mk (below_step (by repeat (first | (with_reducible first | exact HB.out | apply below_alloc | apply pw_below_drewN | apply below_drew1) | exact HB.out)) hb); clear HO_11; clear HO_12; clear HO_13; clear HO120; clear HO122; clear HO125; clear HB; have HO_11 := n0_; have HO_12 := n1_; have HO_13 := n2_; have HO120 := n3_; have HO122 := n4_; have HO125 := n5_; have HO128 := n6_; have HB := n7_; clear n0_ n1_ n2_ n3_ n4_ n5_ n6_ n7_; (try clear hb); (try clear hb2); (try clear hk); (try clear hi); (try clear ho0); obtain ⟨Ao50, co50, eo50⟩ := Kd.N_slice HO125.out; subst eo50; obtain ⟨Ao51, co51, eo51⟩ := Kd.N_slice HO128.out; subst eo51) | ((with_reducible refine gate_callee (f := 17) rfl ?_); refine goesL_ (some 85) rfl rfl Try.func17 (by kernel_rfl) rfl #[.slice Ao50 t123.length co50, .slice Ao51 t126.length co51] rfl (by (try simp only [List.map_toArray, List.map_cons, List.map_nil]); first | done | rfl | (simp only [List.length_drop, List.length_take]; rfl)) ?_; (with_reducible refine (oubref7_SameFills.calls k2 _ _ t123 _ _ t126 false _ ?side1 ?side2 ?side3 ?side4 A35.out).mono ?_); (case side1 => repeat (first | exact (Kd.N_reads' HO125.out).2.2 | (with_reducible refine Kd.C_alloc ?_ _) | (with_reducible refine Kd.C_drewN ?_ _) | (with_reducible refine Kd.C_drew ?_))); (case side2 => exact (Kd.N_reads' HO125.out).2.1); (case side3 => repeat (first | exact (Kd.N_reads' HO128.out).2.2 | (with_reducible refine Kd.C_alloc ?_ _) | (with_reducible refine Kd.C_drewN ?_ _) | (with_reducible refine Kd.C_drew ?_))); (case side4 => exact (Kd.N_reads' HO128.out).2.1); rintro e w' ⟨rfl, ⟨nd, rfl⟩⟩; refine ⟨_, rfl, ?_⟩))
          go_meet
          case rel => exact ⟨_, (true), (by first | rfl | (simp; done) | (simp [*]; done)), H', ⟨by have := HJ7.out; have := HK2.out; first | omega | exact Nat.le_refl _⟩, ⟨by (with_reducible repeat (first | apply Kd.N_alloc | apply Kd.N_drewN | apply Kd.N_drew)); exact Kd.N_mono HO_11.out (fun _ hk => trivial)⟩, ⟨by repeat (first | (with_reducible first | exact HB.out | apply below_alloc | apply pw_below_drewN | apply below_drew1) | exact HB.out)⟩⟩
        case rest =>
         clear HC30
         try clear c1
         try clear p1
         try clear q1
         try clear hx1
         try clear c2
         try clear p2
         try clear c3
         try clear c4
         try clear p6
         try clear c7
         try clear c10
         try clear c10b0
         try clear c10b1
         try clear c11
         try clear c11b0
         try clear c11b1
         try clear p11
         try clear q11
         try clear hx11
         try clear c12
         try clear c12b0
         try clear c17
         try clear c18
         try clear c22
         try clear c22b0
         try clear c23
         try clear c23b0
         try clear c23b1
         try clear c23b2
         try clear c25
         try clear c25b0
         try clear c26
         try clear c26b0
         try clear c27
         try clear c36
         try clear hx113_0
         try clear hx113_1
         try clear p113
         try clear p2
         try clear q113
         obtain ⟨kq, x92_29, rfl, HA, HJ29, HO_11, HB⟩ := hcut
         cases kq with
         | zero => exact absurd HA.out (by simp [oublaw11_EvictDeep.j2])
         | succ kj29 =>
          have H := HA.out
          clear HA
          simp only [oublaw11_EvictDeep.j2] at H
          by_cases c52 : x92_29 = true
          ·subst c52
           have H1 : (some false) = some r := by rw [if_pos rfl] at H; exact H
           clear H
           have H := H1
           clear H1
           exact absurd (Option.some.inj H) (by rw [HT.out]; decide)
          ·replace c52 := Bool.eq_false_iff.mpr c52
           subst c52
           have H1 : (oublaw11_EvictDeep.l1 kj29 a0 a1 l3 t107 0) = some r := by rw [if_neg (show ¬ (false = true) by decide)] at H; exact H
           clear H
           have H := H1
           clear H1
           have H' := Aside0.mk H
           clear H
           go_wp2
           go_loopg [17] kj29 (fun kq v17 w' => ∃ (x17_4 : Int), v17 = .int .i64 x17_4 ∧ Aside0 (oublaw11_EvictDeep.l1 kq a0 a1 l3 t107 x17_4 = some r) ∧ Aside0 (kq ≤ kj29) ∧ Aside0 (Kd.N k36 36 w' w.heap.size (fun _ => True) v109 t107) ∧ Aside0 (Below w.heap.size w w'))
           case atStart => exact ⟨(0), (by first | rfl | (simp; done) | (simp [*]; done)), H', ⟨Nat.le_refl _⟩, ⟨by (with_reducible repeat (first | apply Kd.N_alloc | apply Kd.N_drewN | apply Kd.N_drew)); exact HO_11.out⟩, ⟨by repeat (first | (with_reducible first | exact HB.out | apply below_alloc | apply pw_below_drewN | apply below_drew1) | exact HB.out)⟩⟩
           case round =>
            clear H'
            try clear c1
            try clear p1
            try clear q1
            try clear hx1
            try clear c2
            try clear p2
            try clear c3
            try clear c4
            try clear c5
            try clear p6
            try clear c7
            try clear c10
            try clear c10b0
            try clear c10b1
            try clear c11
            try clear c11b0
            try clear c11b1
            try clear p11
            try clear q11
            try clear hx11
            try clear c12
            try clear c12b0
            try clear c17
            try clear c18
            try clear c22
            try clear c22b0
            try clear c23
            try clear c23b0
            try clear c23b1
            try clear c23b2
            try clear c25
            try clear c25b0
            try clear c26
            try clear c26b0
            try clear c27
            try clear c36
            try clear c52
            try clear hx113_0
            try clear hx113_1
            try clear p1
            try clear p11
            try clear p113
            try clear p2
            try clear p6
            try clear q1
            try clear q11
            try clear q113
            obtain ⟨x17_4, rfl, HA, HK4, HO_11, HB⟩ := hrel
            cases gk with
            | zero => exact absurd HA.out (by simp [oublaw11_EvictDeep.l1])
            | succ k4 =>
             have H := HA.out
             clear HA
             simp only [oublaw11_EvictDeep.l1] at H
             by_cases c53 : x17_4 < (l3.length : Int)
             ·rw [if_pos c53] at H
              have c53b0 : decide (x17_4 < (l3.length : Int)) = true := decide_eq_true c53
              clear c53
              have H' := Aside0.mk H
              clear H
              go_wp2
              go_loopg [18] k4 (fun kq v18 w' => ∃ (x18_5 : Int), v18 = .int .i64 x18_5 ∧ Aside0 (oublaw11_EvictDeep.l2 kq a0 a1 l3 t107 x17_4 x18_5 = some r) ∧ Aside0 (kq ≤ k4) ∧ Aside0 (Kd.N k36 36 w' w.heap.size (fun _ => True) v109 t107) ∧ Aside0 (Below w.heap.size w w'))
              case atStart => exact ⟨(0), (by first | rfl | (simp; done) | (simp [*]; done)), H', ⟨Nat.le_refl _⟩, ⟨by (with_reducible repeat (first | apply Kd.N_alloc | apply Kd.N_drewN | apply Kd.N_drew)); exact HO_11.out⟩, ⟨by repeat (first | (with_reducible first | exact HB.out | apply below_alloc | apply pw_below_drewN | apply below_drew1) | exact HB.out)⟩⟩
              case round =>
               clear H'
               try clear c1
               try clear p1
               try clear q1
               try clear hx1
               try clear c2
               try clear p2
               try clear c3
               try clear c4
               try clear c5
               try clear p6
               try clear c7
               try clear c10
               try clear c10b0
               try clear c10b1
               try clear c11
               try clear c11b0
               try clear c11b1
               try clear p11
               try clear q11
               try clear hx11
               try clear c12
               try clear c12b0
               try clear c17
               try clear c18
               try clear c22
               try clear c22b0
               try clear c23
               try clear c23b0
               try clear c23b1
               try clear c23b2
               try clear c25
               try clear c25b0
               try clear c26
               try clear c26b0
               try clear c27
               try clear c36
               try clear c52
               try clear c53
               try clear c53b0
               try clear hx113_0
               try clear hx113_1
               try clear p1
               try clear p11
               try clear p113
               try clear p2
               try clear p6
               try clear q1
               try clear q11
               try clear q113
               obtain ⟨x18_5, rfl, HA, HK5, HO_11, HB⟩ := hrel
               cases gk with
               | zero => exact absurd HA.out (by simp [oublaw11_EvictDeep.l2])
               | succ k5 =>
                have H := HA.out
                clear HA
                simp only [oublaw11_EvictDeep.l2] at H
                by_cases c54 : x18_5 < (t107.length : Int)
                ·rw [if_pos c54] at H
                 have c54b0 : decide (x18_5 < (t107.length : Int)) = true := decide_eq_true c54
                 clear c54
                 by_cases c55 : 0 ≤ x18_5
                 ·rw [if_pos c55] at H
                  have c55b0 : decide (0 ≤ x18_5) = true := decide_eq_true c55
                  clear c55
                  by_cases c56 : 0 ≤ x17_4
                  ·rw [if_pos c56] at H
                   have c56b0 : decide (0 ≤ x17_4) = true := decide_eq_true c56
                   clear c56
                   by_cases c57 : x17_4 < (l3.length : Int)
                   ·rw [if_pos c57] at H
                    have c57b0 : decide (x17_4 < (l3.length : Int)) = true := decide_eq_true c57
                    clear c57
                    replace H := Option.bind_eq_some_iff.mp H
                    obtain ⟨t134, A580, H⟩ := H
                    replace H : (if t134 = true then (oublaw11_EvictDeep.l3 k5 a0 a1 l3 t107 x17_4 x18_5 0) else (oublaw11_EvictDeep.l2 k5 a0 a1 l3 t107 x17_4 (wrap64 (x18_5 + 1)))) = some r := H
                    have A58 := Aside0.mk A580
                    clear A580
                    by_cases c59 : t134 = true
                    ·subst c59
                     have H1 : (oublaw11_EvictDeep.l3 k5 a0 a1 l3 t107 x17_4 x18_5 0) = some r := by rw [if_pos rfl] at H; exact H
                     clear H
                     have H := H1
                     clear H1
                     have H' := Aside0.mk H
                     clear H
                     obtain ⟨Ao60, co60, eo60⟩ := Kd.N_slice HO_11.out
                     subst eo60
                     try go_wp2
                     have n0_ := Aside0.mk (Kd.N_drew HO_11.out)
                     have n1_ := Aside0.mk (below_drew1 HB.out)
                     clear HO_11
                     clear HB
                     have HO_11 := n0_
                     have HB := n1_
                     clear n0_ n1_
                     have p132 : 0 ≤ (x18_5 : Int) := of_decide_eq_true (by first | (with_reducible assumption) | assumption)
                     have q132 : x18_5 < (t107.length : Int) := of_decide_eq_true (by first | (with_reducible assumption) | assumption)
                     obtain ⟨ad132, A132_1, c132_1, e132, hx132_0, hx132_1, hl132_1, hi132_1⟩ := at_T36 (Kd.N_reads' HO_11.out).2.2 x18_5 p132 q132
                     cases e132
                     obtain ⟨ce132, hce132, hMe132, hcc132⟩ := Kd.N_get HO_11.out z36 x18_5 p132 (by first | exact q132 | exact of_decide_eq_true (by first | (with_reducible assumption) | assumption) | (have e_ := (Kd.N_reads' HO_11.out).1; omega))
                     obtain ⟨ua132_1, uc132_1, rfl, ul132_1, ge132_1⟩ := k36_openF hMe132
                     have hv132_1 := hcc132 1 _ rfl
                     rw [add_field _ _ 1 (by omega)] at hv132_1
                     replace hv132_1 := Option.some.inj (hv132_1.symm.trans hx132_1)
                     injection hv132_1 with hva_ hvn_ hvc_
                     rw [hva_] at ge132_1
                     rw [hvc_] at ul132_1
                     have HL132_1 := Aside0.mk (show Kd.V (Kd.int .i64) 3 _ w.heap.size _ _ ((rd_T36 t107 x18_5).f1) from Kd.V_mk ul132_1 ge132_1)
                     clear hva_ hvn_ hvc_ ge132_1 ul132_1
                     clear hcc132 hce132
                     have HR132_1 := Aside0.mk hi132_1
                     have HC132_1 := Aside0.mk hl132_1
                     clear hi132_1 hl132_1
                     replace p132 := eq_true p132
                     replace q132 := eq_true q132
                     have p133 : 0 ≤ (x17_4 : Int) := of_decide_eq_true (by first | (with_reducible assumption) | assumption)
                     have q133 : x17_4 < (l3.length : Int) := of_decide_eq_true (by first | (with_reducible assumption) | assumption)
                     obtain ⟨ad133, e133, hx133_0, hx133_1⟩ := at_T39 HR3.out x17_4 p133 q133
                     have hw133_1 := hx133_1
                     have hw133_0 := hx133_0
                     cases e133
                     replace hx133_0 := (HB.out.cell (World.block_lt_of_cell? w _ hx133_0)).trans hx133_0
                     replace hx133_1 := (HB.out.cell (World.block_lt_of_cell? w _ hx133_1)).trans hx133_1
                     replace p133 := eq_true p133
                     replace q133 := eq_true q133
                     refine start_ (n := 12) (S := fun w' => w'.cell? (ad132.add ((x18_5).toNat * 2)) = some (.int .i64 ((rd_T36 t107 x18_5).f0)) ∧ w'.cell? ⟨(ad132.add ((x18_5).toNat * 2)).block, (ad132.add ((x18_5).toNat * 2)).off + 1, none⟩ = some (.slice A132_1 ((rd_T36 t107 x18_5).f1).length c132_1) ∧ w'.cell? (ad133.add ((x17_4).toNat * 2)) = some (.int .i64 ((rd_T39 l3 x17_4).f0)) ∧ w'.cell? ⟨(ad133.add ((x17_4).toNat * 2)).block, (ad133.add ((x17_4).toNat * 2)).off + 1, none⟩ = some (.int .i64 ((rd_T39 l3 x17_4).f1))) (ds := []) #[false, false, false, false, false, false, false, false, false, false, false, false] (by kernel_rfl) rfl rfl ⟨hx132_0, hx132_1, ((HB.out.cell (World.block_lt_of_cell? w _ hw133_0)).trans hw133_0), ((HB.out.cell (World.block_lt_of_cell? w _ hw133_1)).trans hw133_1)⟩ (fun hHeld => ?_); refine with_tabW oublaw11_EvictDeep.tab20 oublaw11_EvictDeep.bits20 (fun HT_ HW_ => ?_)
                     generalize wr.drew = w61 at HO_11 HB HL132_1 HR132_1 hx132_0 hx132_1 hx133_0 hx133_1 hHeld ⊢
                     refine pure_ (i := 0) (N := some 105) (v := ?_) (a' := ?_) (bs 1 11) rfl rfl (any_of HT_.out (by kernel_rfl)) (fun _ _ _ h => h) (Or.inl ⟨by rfl, ?_⟩) ?_ ?_
                     rotate_left
                     ·intro w'
                      go_simp
                      with_reducible rfl
                     rotate_left
                     ·simp only [Act.put, List.setIfInBounds_toArray, List.set_cons_zero, List.set_cons_succ, i64_w, i32_w]
                      rfl
                     refine pure_ (i := 1) (N := some 106) (v := ?_) (a' := ?_) (bs 2 10) rfl rfl (any_of HT_.out (by kernel_rfl)) (fun _ _ _ h => h) (Or.inl ⟨by rfl, ?_⟩) ?_ ?_
                     rotate_left
                     ·intro w'
                      go_simp
                      with_reducible rfl
                     rotate_left
                     ·simp only [Act.put, List.setIfInBounds_toArray, List.set_cons_zero, List.set_cons_succ, i64_w, i32_w]
                      rfl
                     refine pure_ (i := 2) (N := some 107) (v := ?_) (a' := ?_) (bs 3 9) rfl rfl (any_of HT_.out (by kernel_rfl)) (fun _ _ _ h => h) (Or.inl ⟨by rfl, ?_⟩) ?_ ?_
                     rotate_left
                     ·intro w'
                      go_simp
                      with_reducible rfl
                     rotate_left
                     ·simp only [Act.put, List.setIfInBounds_toArray, List.set_cons_zero, List.set_cons_succ, i64_w, i32_w]
                      rfl
                     refine pure_ (i := 3) (N := some 108) (v := ?_) (a' := ?_) (bs 4 8) rfl rfl (any_of HT_.out (by kernel_rfl)) (fun _ _ _ h => h) (Or.inl ⟨by rfl, ?_⟩) ?_ ?_
                     rotate_left
                     ·intro w'
                      go_simp
                      with_reducible rfl
                     rotate_left
                     ·simp only [Act.put, List.setIfInBounds_toArray, List.set_cons_zero, List.set_cons_succ, i64_w, i32_w]
                      rfl
                     refine pure_ (i := 5) (N := some 110) (v := ?_) (a' := ?_) #[true, true, true, true, false, true, false, false, false, false, false, false] rfl rfl (any_of HT_.out (by kernel_rfl)) (fun _ _ _ h => h) (Or.inl ⟨by rfl, ?_⟩) ?_ ?_
                     rotate_left
                     ·intro w'
                      go_simp
                      with_reducible rfl
                     rotate_left
                     ·simp only [Act.put, List.setIfInBounds_toArray, List.set_cons_zero, List.set_cons_succ, i64_w, i32_w]
                      rfl
                     refine pure_ (i := 6) (N := some 111) (v := ?_) (a' := ?_) #[true, true, true, true, false, true, true, false, false, false, false, false] rfl rfl (any_of HT_.out (by kernel_rfl)) (fun _ _ _ h => h) (Or.inl ⟨by rfl, ?_⟩) ?_ ?_
                     rotate_left
                     ·intro w'
                      go_simp
                      with_reducible rfl
                     rotate_left
                     ·simp only [Act.put, List.setIfInBounds_toArray, List.set_cons_zero, List.set_cons_succ, i64_w, i32_w]
                      rfl
                     refine pure_ (i := 7) (N := some 112) (v := ?_) (a' := ?_) #[true, true, true, true, false, true, true, true, false, false, false, false] rfl rfl (any_of HT_.out (by kernel_rfl)) (fun _ _ _ h => h) (Or.inl ⟨by rfl, ?_⟩) ?_ ?_
                     rotate_left
                     ·intro w'
                      go_simp
                      with_reducible rfl
                     rotate_left
                     ·simp only [Act.put, List.setIfInBounds_toArray, List.set_cons_zero, List.set_cons_succ, i64_w, i32_w]
                      rfl
                     refine pure_ (i := 8) (N := some 113) (v := ?_) (a' := ?_) #[true, true, true, true, false, true, true, true, true, false, false, false] rfl rfl (any_of HT_.out (by kernel_rfl)) (fun _ _ _ h => h) (Or.inl ⟨by rfl, ?_⟩) ?_ ?_
                     rotate_left
                     ·intro w'
                      go_simp
                      with_reducible rfl
                     rotate_left
                     ·simp only [Act.put, List.setIfInBounds_toArray, List.set_cons_zero, List.set_cons_succ, i64_w, i32_w]
                      rfl
                     refine take_ (i := 4) (N := some 109) (v := ?_) (a' := ?_) (bs 9 3) rfl rfl (take_ofW HT_.out HW_.out (by kernel_rfl)) (fun _ _ _ h => h) (Or.inl ⟨by rfl, ?_⟩) hHeld ?_ ?_
                     rotate_left
                     ·rintro w' ⟨s0, s1, s2, s3⟩
                      go_simp
                      with_reducible rfl
                     rotate_left
                     ·simp only [Act.put, List.setIfInBounds_toArray, List.set_cons_zero, List.set_cons_succ, i64_w, i32_w]
                      rfl
                     refine take_ (i := 9) (N := some 114) (v := ?_) (a' := ?_) (bs 10 2) rfl rfl (take_ofW HT_.out HW_.out (by kernel_rfl)) (fun _ _ _ h => h) (Or.inl ⟨by rfl, ?_⟩) hHeld ?_ ?_
                     rotate_left
                     ·rintro w' ⟨s0, s1, s2, s3⟩
                      go_simp
                      with_reducible rfl
                     rotate_left
                     ·simp only [Act.put, List.setIfInBounds_toArray, List.set_cons_zero, List.set_cons_succ, i64_w, i32_w]
                      rfl
                     refine one_ (i := 10) (N := some 115) (bs 11 1) rfl rfl (one_of HT_.out (by kernel_rfl)) (by decide) (fun K hK => ?_)
                     refine goes_ Try.func15 (by kernel_rfl) rfl #[.slice A132_1 ((rd_T36 t107 x18_5).f1).length c132_1, .int .i64 ((rd_T39 l3 x17_4).f0)] (by rfl) rfl rfl (by (try simp only [List.map_toArray, List.map_cons, List.map_nil]); first | done | rfl | (simp only [List.length_drop, List.length_take]; rfl)) ?_
                     with_reducible refine (oubref_Has.calls k5 _ _ ((rd_T36 t107 x18_5).f1) ((rd_T39 l3 x17_4).f0) true _ ?side1 ?side2 A58.out).mono ?_
                     (case side1 => repeat (first | exact (by repeat (first | (with_reducible exact HR132_1.out) | (with_reducible refine Kd.C_alloc ?_ _) | (with_reducible refine Kd.C_drewN ?_ _) | (with_reducible refine Kd.C_drew ?_) | exact HR132_1.out)) | (with_reducible refine Kd.C_alloc ?_ _) | (with_reducible refine Kd.C_drewN ?_ _) | (with_reducible refine Kd.C_drew ?_)))
                     (case side2 => exact HC132_1.out)
                     rintro e w' ⟨rfl, ⟨nd, rfl⟩⟩
                     refine ⟨_, rfl, ?_⟩
                     refine hK.out _ _ ⟨hHeld.1, hHeld.2.1, ((HB.out.cell (World.block_lt_of_cell? w _ hw133_0)).trans hw133_0), ((HB.out.cell (World.block_lt_of_cell? w _ hw133_1)).trans hw133_1)⟩ (fun hHeld => ?_)
                     clear hK K
                     refine norm_ (a' := ?_) ?_ ?_
                     rotate_left
                     ·show Act.put _ (some 115) _ = _
                      simp only [Act.put, List.setIfInBounds_toArray, List.set_cons_zero, List.set_cons_succ, i64_w, i32_w]
                      rfl
                     refine pure_ (i := 11) (N := some 116) (v := ?_) (a' := ?_) (bs 12 0) rfl rfl (any_of HT_.out (by kernel_rfl)) (fun _ _ _ h => h) (Or.inl ⟨by rfl, ?_⟩) ?_ ?_
                     rotate_left
                     ·intro w'
                      go_simp
                      with_reducible rfl
                     rotate_left
                     ·simp only [Act.put, List.setIfInBounds_toArray, List.set_cons_zero, List.set_cons_succ, i64_w, i32_w]
                      rfl
                     refine done_ (done_of HT_.out (by kernel_rfl)) ?_
                     try go_wp2
                     go_loopg [19] k5 (fun kq v19 w' => ∃ (x19_6 : Int), v19 = .int .i64 x19_6 ∧ Aside0 (oublaw11_EvictDeep.l3 kq a0 a1 l3 t107 x17_4 x18_5 x19_6 = some r) ∧ Aside0 (kq ≤ k5) ∧ Aside0 (Kd.N k36 36 w' w.heap.size (fun _ => True) (.slice (some ad132) t107.length co60) t107) ∧ Aside0 (Kd.C (Kd.int .i64) w' A132_1 ((rd_T36 t107 x18_5).f1).length ((rd_T36 t107 x18_5).f1)) ∧ Aside0 (Below w.heap.size w w'))
                     case atStart => exact ⟨(0), (by first | rfl | (simp; done) | (simp [*]; done)), H', ⟨Nat.le_refl _⟩, ⟨by (with_reducible repeat (first | apply Kd.N_alloc | apply Kd.N_drewN | apply Kd.N_drew)); exact HO_11.out⟩, ⟨by repeat (first | (with_reducible exact HR132_1.out) | (with_reducible refine Kd.C_alloc ?_ _) | (with_reducible refine Kd.C_drewN ?_ _) | (with_reducible refine Kd.C_drew ?_) | exact HR132_1.out)⟩, ⟨by repeat (first | (with_reducible first | exact HB.out | apply below_alloc | apply pw_below_drewN | apply below_drew1) | exact HB.out)⟩⟩
                     case round =>
                      clear H'
                      try clear c1
                      try clear p1
                      try clear q1
                      try clear hx1
                      try clear c2
                      try clear p2
                      try clear c3
                      try clear c4
                      try clear c5
                      try clear p6
                      try clear c7
                      try clear c10
                      try clear c10b0
                      try clear c10b1
                      try clear c11
                      try clear c11b0
                      try clear c11b1
                      try clear p11
                      try clear q11
                      try clear hx11
                      try clear c12
                      try clear c12b0
                      try clear c13
                      try clear p13
                      try clear q13
                      try clear hx13
                      try clear c15
                      try clear c17
                      try clear c18
                      try clear c22
                      try clear c22b0
                      try clear c23
                      try clear c23b0
                      try clear c23b1
                      try clear c23b2
                      try clear c25
                      try clear c25b0
                      try clear c26
                      try clear c26b0
                      try clear c27
                      try clear c36
                      try clear c52
                      try clear c53
                      try clear c53b0
                      try clear c54
                      try clear c54b0
                      try clear c55
                      try clear c55b0
                      try clear c56
                      try clear c56b0
                      try clear c57
                      try clear c57b0
                      try clear c59
                      try clear hx113_0
                      try clear hx113_1
                      try clear hx132_0
                      try clear hx132_1
                      try clear hx133_0
                      try clear hx133_1
                      try clear p1
                      try clear p11
                      try clear p113
                      try clear p132
                      try clear p133
                      try clear p2
                      try clear p6
                      try clear q1
                      try clear q11
                      try clear q113
                      try clear q132
                      try clear q133
                      obtain ⟨x19_6, rfl, HA, HK6, HO_11, HR132_1, HB⟩ := hrel
                      cases gk with
                      | zero => exact absurd HA.out (by simp [oublaw11_EvictDeep.l3])
                      | succ k6 =>
                       have H := HA.out
                       clear HA
                       simp only [oublaw11_EvictDeep.l3] at H
                       by_cases c62 : x19_6 < (t107.length : Int)
                       ·rw [if_pos c62] at H
                        have c62b0 : decide (x19_6 < (t107.length : Int)) = true := decide_eq_true c62
                        clear c62
                        by_cases c63 : 0 ≤ x19_6
                        ·rw [if_pos c63] at H
                         have c63b0 : decide (0 ≤ x19_6) = true := decide_eq_true c63
                         clear c63
                         replace H := Option.bind_eq_some_iff.mp H
                         obtain ⟨t136, A640, H⟩ := H
                         replace H : (if 0 ≤ x18_5 then (if x18_5 < (t107.length : Int) then ((tree_Level.f k6 ((rd_T36 t107 x18_5).f0)).bind fun t138 => (if t136 > t138 then (if 0 ≤ x17_4 then (if x17_4 < (l3.length : Int) then ((tree_On.f k6 a0 ((rd_T36 t107 x19_6).f0) ((rd_T39 l3 x17_4).f1)).bind fun t141 => (if t141 = true then (if (((rd_T36 t107 x19_6).f1).length : Int) < a1 then (some false) else (oublaw11_EvictDeep.l3 k6 a0 a1 l3 t107 x17_4 x18_5 (wrap64 (x19_6 + 1)))) else (oublaw11_EvictDeep.l3 k6 a0 a1 l3 t107 x17_4 x18_5 (wrap64 (x19_6 + 1))))) else (none)) else (none)) else (oublaw11_EvictDeep.l3 k6 a0 a1 l3 t107 x17_4 x18_5 (wrap64 (x19_6 + 1))))) else (none)) else (none)) = some r := H
                         have A64 := Aside0.mk A640
                         clear A640
                         by_cases c65 : 0 ≤ x18_5
                         ·rw [if_pos c65] at H
                          have c65b0 : decide (0 ≤ x18_5) = true := decide_eq_true c65
                          clear c65
                          by_cases c66 : x18_5 < (t107.length : Int)
                          ·rw [if_pos c66] at H
                           have c66b0 : decide (x18_5 < (t107.length : Int)) = true := decide_eq_true c66
                           clear c66
                           replace H := Option.bind_eq_some_iff.mp H
                           obtain ⟨t138, A670, H⟩ := H
                           replace H : (if t136 > t138 then (if 0 ≤ x17_4 then (if x17_4 < (l3.length : Int) then ((tree_On.f k6 a0 ((rd_T36 t107 x19_6).f0) ((rd_T39 l3 x17_4).f1)).bind fun t141 => (if t141 = true then (if (((rd_T36 t107 x19_6).f1).length : Int) < a1 then (some false) else (oublaw11_EvictDeep.l3 k6 a0 a1 l3 t107 x17_4 x18_5 (wrap64 (x19_6 + 1)))) else (oublaw11_EvictDeep.l3 k6 a0 a1 l3 t107 x17_4 x18_5 (wrap64 (x19_6 + 1))))) else (none)) else (none)) else (oublaw11_EvictDeep.l3 k6 a0 a1 l3 t107 x17_4 x18_5 (wrap64 (x19_6 + 1)))) = some r := H
                           have A67 := Aside0.mk A670
                           clear A670
                           by_cases c68 : t136 > t138
                           ·rw [if_pos c68] at H
                            have c68b0 : decide (t138 < t136) = true := decide_eq_true c68
                            clear c68
                            by_cases c69 : 0 ≤ x17_4
                            ·rw [if_pos c69] at H
                             have c69b0 : decide (0 ≤ x17_4) = true := decide_eq_true c69
                             clear c69
                             by_cases c70 : x17_4 < (l3.length : Int)
                             ·rw [if_pos c70] at H
                              have c70b0 : decide (x17_4 < (l3.length : Int)) = true := decide_eq_true c70
                              clear c70
                              replace H := Option.bind_eq_some_iff.mp H
                              obtain ⟨t141, A710, H⟩ := H
                              replace H : (if t141 = true then (if (((rd_T36 t107 x19_6).f1).length : Int) < a1 then (some false) else (oublaw11_EvictDeep.l3 k6 a0 a1 l3 t107 x17_4 x18_5 (wrap64 (x19_6 + 1)))) else (oublaw11_EvictDeep.l3 k6 a0 a1 l3 t107 x17_4 x18_5 (wrap64 (x19_6 + 1)))) = some r := H
                              have A71 := Aside0.mk A710
                              clear A710
                              by_cases c72 : t141 = true
                              ·subst c72
                               have H1 : (if (((rd_T36 t107 x19_6).f1).length : Int) < a1 then (some false) else (oublaw11_EvictDeep.l3 k6 a0 a1 l3 t107 x17_4 x18_5 (wrap64 (x19_6 + 1)))) = some r := by rw [if_pos rfl] at H; exact H
                               clear H
                               have H := H1
                               clear H1
                               by_cases c73 : (((rd_T36 t107 x19_6).f1).length : Int) < a1
                               ·rw [if_pos c73] at H
                                have c73b0 : decide ((((rd_T36 t107 x19_6).f1).length : Int) < a1) = true := decide_eq_true c73
                                clear c73
                                exact absurd (Option.some.inj H) (by rw [HT.out]; decide)
                               ·rw [if_neg c73] at H
                                have c73b0 : decide ((((rd_T36 t107 x19_6).f1).length : Int) < a1) = false := decide_eq_false c73
                                clear c73
                                have H' := Aside0.mk H
                                clear H
                                try go_wp2
                                have n0_ := Aside0.mk (Kd.N_drew HO_11.out)
                                have n1_ := Aside0.mk (Kd.C_drew HR132_1.out)
                                have n2_ := Aside0.mk (below_drew1 HB.out)
                                clear HO_11
                                clear HR132_1
                                clear HB
                                have HO_11 := n0_
                                have HR132_1 := n1_
                                have HB := n2_
                                clear n0_ n1_ n2_
                                have p135 : 0 ≤ (x19_6 : Int) := of_decide_eq_true (by first | (with_reducible assumption) | assumption)
                                have q135 : x19_6 < (t107.length : Int) := of_decide_eq_true (by first | (with_reducible assumption) | assumption)
                                obtain ⟨ad135, A135_1, c135_1, e135, hx135_0, hx135_1, hl135_1, hi135_1⟩ := at_T36 (Kd.N_reads' HO_11.out).2.2 x19_6 p135 q135
                                obtain rfl : ad132 = ad135 := (by injection e135)
                                obtain ⟨ce135, hce135, hMe135, hcc135⟩ := Kd.N_get HO_11.out z36 x19_6 p135 (by first | exact q135 | exact of_decide_eq_true (by first | (with_reducible assumption) | assumption) | (have e_ := (Kd.N_reads' HO_11.out).1; omega))
                                obtain ⟨ua135_1, uc135_1, rfl, ul135_1, ge135_1⟩ := k36_openF hMe135
                                have hv135_1 := hcc135 1 _ rfl
                                rw [add_field _ _ 1 (by omega)] at hv135_1
                                replace hv135_1 := Option.some.inj (hv135_1.symm.trans hx135_1)
                                injection hv135_1 with hva_ hvn_ hvc_
                                rw [hva_] at ge135_1
                                rw [hvc_] at ul135_1
                                have HL135_1 := Aside0.mk (show Kd.V (Kd.int .i64) 3 _ w.heap.size _ _ ((rd_T36 t107 x19_6).f1) from Kd.V_mk ul135_1 ge135_1)
                                clear hva_ hvn_ hvc_ ge135_1 ul135_1
                                clear hcc135 hce135
                                have HR135_1 := Aside0.mk hi135_1
                                have HC135_1 := Aside0.mk hl135_1
                                clear hi135_1 hl135_1
                                replace p135 := eq_true p135
                                replace q135 := eq_true q135
                                have p137 : 0 ≤ (x18_5 : Int) := of_decide_eq_true (by first | (with_reducible assumption) | assumption)
                                have q137 : x18_5 < (t107.length : Int) := of_decide_eq_true (by first | (with_reducible assumption) | assumption)
                                obtain ⟨ad137, A137_1, c137_1, e137, hx137_0, hx137_1, hl137_1, hi137_1⟩ := at_T36 (Kd.N_reads' HO_11.out).2.2 x18_5 p137 q137
                                obtain rfl : ad132 = ad137 := (by injection e137)
                                obtain ⟨ce137, hce137, hMe137, hcc137⟩ := Kd.N_get HO_11.out z36 x18_5 p137 (by first | exact q137 | exact of_decide_eq_true (by first | (with_reducible assumption) | assumption) | (have e_ := (Kd.N_reads' HO_11.out).1; omega))
                                obtain ⟨ua137_1, uc137_1, rfl, ul137_1, ge137_1⟩ := k36_openF hMe137
                                have hv137_1 := hcc137 1 _ rfl
                                rw [add_field _ _ 1 (by omega)] at hv137_1
                                replace hv137_1 := Option.some.inj (hv137_1.symm.trans hx137_1)
                                injection hv137_1 with hva_ hvn_ hvc_
                                rw [hva_] at ge137_1
                                rw [hvc_] at ul137_1
                                have HL137_1 := Aside0.mk (show Kd.V (Kd.int .i64) 3 _ w.heap.size _ _ ((rd_T36 t107 x18_5).f1) from Kd.V_mk ul137_1 ge137_1)
                                clear hva_ hvn_ hvc_ ge137_1 ul137_1
                                clear hcc137 hce137
                                have HR137_1 := Aside0.mk hi137_1
                                have HC137_1 := Aside0.mk hl137_1
                                clear hi137_1 hl137_1
                                replace p137 := eq_true p137
                                replace q137 := eq_true q137
                                have p139 : 0 ≤ (x19_6 : Int) := of_decide_eq_true (by first | (with_reducible assumption) | assumption)
                                have q139 : x19_6 < (t107.length : Int) := of_decide_eq_true (by first | (with_reducible assumption) | assumption)
                                obtain ⟨ad139, A139_1, c139_1, e139, hx139_0, hx139_1, hl139_1, hi139_1⟩ := at_T36 (Kd.N_reads' HO_11.out).2.2 x19_6 p139 q139
                                obtain rfl : ad132 = ad139 := (by injection e139)
                                obtain ⟨ce139, hce139, hMe139, hcc139⟩ := Kd.N_get HO_11.out z36 x19_6 p139 (by first | exact q139 | exact of_decide_eq_true (by first | (with_reducible assumption) | assumption) | (have e_ := (Kd.N_reads' HO_11.out).1; omega))
                                obtain ⟨ua139_1, uc139_1, rfl, ul139_1, ge139_1⟩ := k36_openF hMe139
                                have hv139_1 := hcc139 1 _ rfl
                                rw [add_field _ _ 1 (by omega)] at hv139_1
                                replace hv139_1 := Option.some.inj (hv139_1.symm.trans hx139_1)
                                injection hv139_1 with hva_ hvn_ hvc_
                                rw [hva_] at ge139_1
                                rw [hvc_] at ul139_1
                                have HL139_1 := Aside0.mk (show Kd.V (Kd.int .i64) 3 _ w.heap.size _ _ ((rd_T36 t107 x19_6).f1) from Kd.V_mk ul139_1 ge139_1)
                                clear hva_ hvn_ hvc_ ge139_1 ul139_1
                                clear hcc139 hce139
                                have HR139_1 := Aside0.mk hi139_1
                                have HC139_1 := Aside0.mk hl139_1
                                clear hi139_1 hl139_1
                                replace p139 := eq_true p139
                                replace q139 := eq_true q139
                                have ea_ := Option.some.inj (hx135_1.symm.trans hx139_1)
                                injection ea_ with ea_ en_ ec_
                                subst ea_
                                subst ec_
                                clear en_
                                have p140 : 0 ≤ (x17_4 : Int) := of_decide_eq_true (by first | (with_reducible assumption) | assumption)
                                have q140 : x17_4 < (l3.length : Int) := of_decide_eq_true (by first | (with_reducible assumption) | assumption)
                                obtain ⟨ad140, e140, hx140_0, hx140_1⟩ := at_T39 HR3.out x17_4 p140 q140
                                have hw140_1 := hx140_1
                                have hw140_0 := hx140_0
                                obtain rfl : ad133 = ad140 := (by injection e140)
                                replace hx140_0 := (HB.out.cell (World.block_lt_of_cell? w _ hx140_0)).trans hx140_0
                                replace hx140_1 := (HB.out.cell (World.block_lt_of_cell? w _ hx140_1)).trans hx140_1
                                replace p140 := eq_true p140
                                replace q140 := eq_true q140
                                have p142 : 0 ≤ (x19_6 : Int) := of_decide_eq_true (by first | (with_reducible assumption) | assumption)
                                have q142 : x19_6 < (t107.length : Int) := of_decide_eq_true (by first | (with_reducible assumption) | assumption)
                                obtain ⟨ad142, A142_1, c142_1, e142, hx142_0, hx142_1, hl142_1, hi142_1⟩ := at_T36 (Kd.N_reads' HO_11.out).2.2 x19_6 p142 q142
                                obtain rfl : ad132 = ad142 := (by injection e142)
                                obtain ⟨ce142, hce142, hMe142, hcc142⟩ := Kd.N_get HO_11.out z36 x19_6 p142 (by first | exact q142 | exact of_decide_eq_true (by first | (with_reducible assumption) | assumption) | (have e_ := (Kd.N_reads' HO_11.out).1; omega))
                                obtain ⟨ua142_1, uc142_1, rfl, ul142_1, ge142_1⟩ := k36_openF hMe142
                                have hv142_1 := hcc142 1 _ rfl
                                rw [add_field _ _ 1 (by omega)] at hv142_1
                                replace hv142_1 := Option.some.inj (hv142_1.symm.trans hx142_1)
                                injection hv142_1 with hva_ hvn_ hvc_
                                rw [hva_] at ge142_1
                                rw [hvc_] at ul142_1
                                have HL142_1 := Aside0.mk (show Kd.V (Kd.int .i64) 3 _ w.heap.size _ _ ((rd_T36 t107 x19_6).f1) from Kd.V_mk ul142_1 ge142_1)
                                clear hva_ hvn_ hvc_ ge142_1 ul142_1
                                clear hcc142 hce142
                                have HR142_1 := Aside0.mk hi142_1
                                have HC142_1 := Aside0.mk hl142_1
                                clear hi142_1 hl142_1
                                replace p142 := eq_true p142
                                replace q142 := eq_true q142
                                refine start_ (n := 37) (S := fun w' => w'.cell? (ad132.add ((x19_6).toNat * 2)) = some (.int .i64 ((rd_T36 t107 x19_6).f0)) ∧ w'.cell? ⟨(ad132.add ((x19_6).toNat * 2)).block, (ad132.add ((x19_6).toNat * 2)).off + 1, none⟩ = some (.slice A135_1 ((rd_T36 t107 x19_6).f1).length c135_1) ∧ w'.cell? (ad132.add ((x18_5).toNat * 2)) = some (.int .i64 ((rd_T36 t107 x18_5).f0)) ∧ w'.cell? ⟨(ad132.add ((x18_5).toNat * 2)).block, (ad132.add ((x18_5).toNat * 2)).off + 1, none⟩ = some (.slice A137_1 ((rd_T36 t107 x18_5).f1).length c137_1) ∧ w'.cell? (ad132.add ((x19_6).toNat * 2)) = some (.int .i64 ((rd_T36 t107 x19_6).f0)) ∧ w'.cell? ⟨(ad132.add ((x19_6).toNat * 2)).block, (ad132.add ((x19_6).toNat * 2)).off + 1, none⟩ = some (.slice A135_1 ((rd_T36 t107 x19_6).f1).length c135_1) ∧ w'.cell? (ad133.add ((x17_4).toNat * 2)) = some (.int .i64 ((rd_T39 l3 x17_4).f0)) ∧ w'.cell? ⟨(ad133.add ((x17_4).toNat * 2)).block, (ad133.add ((x17_4).toNat * 2)).off + 1, none⟩ = some (.int .i64 ((rd_T39 l3 x17_4).f1)) ∧ w'.cell? (ad132.add ((x19_6).toNat * 2)) = some (.int .i64 ((rd_T36 t107 x19_6).f0)) ∧ w'.cell? ⟨(ad132.add ((x19_6).toNat * 2)).block, (ad132.add ((x19_6).toNat * 2)).off + 1, none⟩ = some (.slice A142_1 ((rd_T36 t107 x19_6).f1).length c142_1)) (ds := []) #[false, false, false, false, false, false, false, false, false, false, false, false, false, false, false, false, false, false, false, false, false, false, false, false, false, false, false, false, false, false, false, false, false, false, false, false, false] (by kernel_rfl) rfl rfl ⟨hx135_0, hx135_1, hx137_0, hx137_1, hx139_0, hx139_1, ((HB.out.cell (World.block_lt_of_cell? w _ hw140_0)).trans hw140_0), ((HB.out.cell (World.block_lt_of_cell? w _ hw140_1)).trans hw140_1), hx142_0, hx142_1⟩ (fun hHeld => ?_); refine with_tabW oublaw11_EvictDeep.tab24 oublaw11_EvictDeep.bits24 (fun HT_ HW_ => ?_)
                                generalize wr.drew = w74 at HO_11 HR132_1 HB HL135_1 HL137_1 HL139_1 HL142_1 HR135_1 HR137_1 HR139_1 HR142_1 hx135_0 hx135_1 hx137_0 hx137_1 hx139_0 hx139_1 hx140_0 hx140_1 hx142_0 hx142_1 hHeld ⊢
                                refine pure_ (i := 0) (N := some 123) (v := ?_) (a' := ?_) (bs 1 36) rfl rfl (any_of HT_.out (by kernel_rfl)) (fun _ _ _ h => h) (Or.inl ⟨by rfl, ?_⟩) ?_ ?_
                                rotate_left
                                ·intro w'
                                 go_simp
                                 with_reducible rfl
                                rotate_left
                                ·simp only [Act.put, List.setIfInBounds_toArray, List.set_cons_zero, List.set_cons_succ, i64_w, i32_w]
                                 rfl
                                refine pure_ (i := 1) (N := some 124) (v := ?_) (a' := ?_) (bs 2 35) rfl rfl (any_of HT_.out (by kernel_rfl)) (fun _ _ _ h => h) (Or.inl ⟨by rfl, ?_⟩) ?_ ?_
                                rotate_left
                                ·intro w'
                                 go_simp
                                 with_reducible rfl
                                rotate_left
                                ·simp only [Act.put, List.setIfInBounds_toArray, List.set_cons_zero, List.set_cons_succ, i64_w, i32_w]
                                 rfl
                                refine pure_ (i := 2) (N := some 125) (v := ?_) (a' := ?_) (bs 3 34) rfl rfl (any_of HT_.out (by kernel_rfl)) (fun _ _ _ h => h) (Or.inl ⟨by rfl, ?_⟩) ?_ ?_
                                rotate_left
                                ·intro w'
                                 go_simp
                                 with_reducible rfl
                                rotate_left
                                ·simp only [Act.put, List.setIfInBounds_toArray, List.set_cons_zero, List.set_cons_succ, i64_w, i32_w]
                                 rfl
                                refine pure_ (i := 3) (N := some 126) (v := ?_) (a' := ?_) (bs 4 33) rfl rfl (any_of HT_.out (by kernel_rfl)) (fun _ _ _ h => h) (Or.inl ⟨by rfl, ?_⟩) ?_ ?_
                                rotate_left
                                ·intro w'
                                 go_simp
                                 with_reducible rfl
                                rotate_left
                                ·simp only [Act.put, List.setIfInBounds_toArray, List.set_cons_zero, List.set_cons_succ, i64_w, i32_w]
                                 rfl
                                refine pure_ (i := 6) (N := some 129) (v := ?_) (a' := ?_) #[true, true, true, true, false, false, true, false, false, false, false, false, false, false, false, false, false, false, false, false, false, false, false, false, false, false, false, false, false, false, false, false, false, false, false, false, false] rfl rfl (any_of HT_.out (by kernel_rfl)) (fun _ _ _ h => h) (Or.inl ⟨by rfl, ?_⟩) ?_ ?_
                                rotate_left
                                ·intro w'
                                 go_simp
                                 with_reducible rfl
                                rotate_left
                                ·simp only [Act.put, List.setIfInBounds_toArray, List.set_cons_zero, List.set_cons_succ, i64_w, i32_w]
                                 rfl
                                refine pure_ (i := 7) (N := some 130) (v := ?_) (a' := ?_) #[true, true, true, true, false, false, true, true, false, false, false, false, false, false, false, false, false, false, false, false, false, false, false, false, false, false, false, false, false, false, false, false, false, false, false, false, false] rfl rfl (any_of HT_.out (by kernel_rfl)) (fun _ _ _ h => h) (Or.inl ⟨by rfl, ?_⟩) ?_ ?_
                                rotate_left
                                ·intro w'
                                 go_simp
                                 with_reducible rfl
                                rotate_left
                                ·simp only [Act.put, List.setIfInBounds_toArray, List.set_cons_zero, List.set_cons_succ, i64_w, i32_w]
                                 rfl
                                refine pure_ (i := 8) (N := some 131) (v := ?_) (a' := ?_) #[true, true, true, true, false, false, true, true, true, false, false, false, false, false, false, false, false, false, false, false, false, false, false, false, false, false, false, false, false, false, false, false, false, false, false, false, false] rfl rfl (any_of HT_.out (by kernel_rfl)) (fun _ _ _ h => h) (Or.inl ⟨by rfl, ?_⟩) ?_ ?_
                                rotate_left
                                ·intro w'
                                 go_simp
                                 with_reducible rfl
                                rotate_left
                                ·simp only [Act.put, List.setIfInBounds_toArray, List.set_cons_zero, List.set_cons_succ, i64_w, i32_w]
                                 rfl
                                refine pure_ (i := 9) (N := some 132) (v := ?_) (a' := ?_) #[true, true, true, true, false, false, true, true, true, true, false, false, false, false, false, false, false, false, false, false, false, false, false, false, false, false, false, false, false, false, false, false, false, false, false, false, false] rfl rfl (any_of HT_.out (by kernel_rfl)) (fun _ _ _ h => h) (Or.inl ⟨by rfl, ?_⟩) ?_ ?_
                                rotate_left
                                ·intro w'
                                 go_simp
                                 with_reducible rfl
                                rotate_left
                                ·simp only [Act.put, List.setIfInBounds_toArray, List.set_cons_zero, List.set_cons_succ, i64_w, i32_w]
                                 rfl
                                refine take_ (i := 4) (N := some 127) (v := ?_) (a' := ?_) #[true, true, true, true, true, false, true, true, true, true, false, false, false, false, false, false, false, false, false, false, false, false, false, false, false, false, false, false, false, false, false, false, false, false, false, false, false] rfl rfl (take_ofW HT_.out HW_.out (by kernel_rfl)) (fun _ _ _ h => h) (Or.inl ⟨by rfl, ?_⟩) hHeld ?_ ?_
                                rotate_left
                                ·rintro w' ⟨s0, s1, s2, s3, s4, s5, s6, s7, s8, s9⟩
                                 go_simp
                                 with_reducible rfl
                                rotate_left
                                ·simp only [Act.put, List.setIfInBounds_toArray, List.set_cons_zero, List.set_cons_succ, i64_w, i32_w]
                                 rfl
                                refine take_ (i := 10) (N := some 133) (v := ?_) (a' := ?_) #[true, true, true, true, true, false, true, true, true, true, true, false, false, false, false, false, false, false, false, false, false, false, false, false, false, false, false, false, false, false, false, false, false, false, false, false, false] rfl rfl (take_ofW HT_.out HW_.out (by kernel_rfl)) (fun _ _ _ h => h) (Or.inl ⟨by rfl, ?_⟩) hHeld ?_ ?_
                                rotate_left
                                ·rintro w' ⟨s0, s1, s2, s3, s4, s5, s6, s7, s8, s9⟩
                                 go_simp
                                 with_reducible rfl
                                rotate_left
                                ·simp only [Act.put, List.setIfInBounds_toArray, List.set_cons_zero, List.set_cons_succ, i64_w, i32_w]
                                 rfl
                                refine one_ (i := 5) (N := some 128) (bs 11 26) rfl rfl (one_of HT_.out (by kernel_rfl)) (by decide) (fun K hK => ?_)
                                refine goes_ Try.func19 (by kernel_rfl) rfl #[.int .i64 ((rd_T36 t107 x19_6).f0)] (by rfl) rfl rfl (by (try simp only [List.map_toArray, List.map_cons, List.map_nil]); first | done | rfl | (simp only [List.length_drop, List.length_take]; rfl)) ?_
                                with_reducible refine (tree_Level.calls k6 ((rd_T36 t107 x19_6).f0) t136 _ A64.out).mono ?_
                                rintro e w' ⟨rfl, ⟨nd, rfl⟩⟩
                                refine ⟨_, rfl, ?_⟩
                                refine hK.out _ _ ⟨hHeld.1, hHeld.2.1, hHeld.2.2.1, hHeld.2.2.2.1, hHeld.2.2.2.2.1, hHeld.2.2.2.2.2.1, ((HB.out.cell (World.block_lt_of_cell? w _ hw140_0)).trans hw140_0), ((HB.out.cell (World.block_lt_of_cell? w _ hw140_1)).trans hw140_1), hHeld.2.2.2.2.2.2.2.2.1, hHeld.2.2.2.2.2.2.2.2.2⟩ (fun hHeld => ?_)
                                clear hK K
                                refine norm_ (a' := ?_) ?_ ?_
                                rotate_left
                                ·show Act.put _ (some 128) _ = _
                                 simp only [Act.put, List.setIfInBounds_toArray, List.set_cons_zero, List.set_cons_succ, i64_w, i32_w]
                                 rfl
                                refine one_ (i := 11) (N := some 134) (bs 12 25) rfl rfl (one_of HT_.out (by kernel_rfl)) (by decide) (fun K hK => ?_)
                                refine goes_ Try.func19 (by kernel_rfl) rfl #[.int .i64 ((rd_T36 t107 x18_5).f0)] (by rfl) rfl rfl (by (try simp only [List.map_toArray, List.map_cons, List.map_nil]); first | done | rfl | (simp only [List.length_drop, List.length_take]; rfl)) ?_
                                with_reducible refine (tree_Level.calls k6 ((rd_T36 t107 x18_5).f0) t138 _ A67.out).mono ?_
                                rintro e w' ⟨rfl, ⟨nd, rfl⟩⟩
                                refine ⟨_, rfl, ?_⟩
                                refine hK.out _ _ ⟨hHeld.1, hHeld.2.1, hHeld.2.2.1, hHeld.2.2.2.1, hHeld.2.2.2.2.1, hHeld.2.2.2.2.2.1, ((HB.out.cell (World.block_lt_of_cell? w _ hw140_0)).trans hw140_0), ((HB.out.cell (World.block_lt_of_cell? w _ hw140_1)).trans hw140_1), hHeld.2.2.2.2.2.2.2.2.1, hHeld.2.2.2.2.2.2.2.2.2⟩ (fun hHeld => ?_)
                                clear hK K
                                refine norm_ (a' := ?_) ?_ ?_
                                rotate_left
                                ·show Act.put _ (some 134) _ = _
                                 simp only [Act.put, List.setIfInBounds_toArray, List.set_cons_zero, List.set_cons_succ, i64_w, i32_w]
                                 rfl
                                refine pure_ (i := 12) (N := some 135) (v := ?_) (a' := ?_) (bs 13 24) rfl rfl (any_of HT_.out (by kernel_rfl)) (fun _ _ _ h => h) (Or.inl ⟨by rfl, ?_⟩) ?_ ?_
                                rotate_left
                                ·intro w'
                                 go_simp
                                 with_reducible rfl
                                rotate_left
                                ·simp only [Act.put, List.setIfInBounds_toArray, List.set_cons_zero, List.set_cons_succ, i64_w, i32_w]
                                 rfl
                                refine pure_ (i := 13) (N := some 136) (v := ?_) (a' := ?_) (bs 14 23) rfl rfl (any_of HT_.out (by kernel_rfl)) (fun _ _ _ h => h) (Or.inl ⟨by rfl, ?_⟩) ?_ ?_
                                rotate_left
                                ·intro w'
                                 go_simp
                                 with_reducible rfl
                                rotate_left
                                ·simp only [Act.put, List.setIfInBounds_toArray, List.set_cons_zero, List.set_cons_succ, i64_w, i32_w]
                                 rfl
                                refine pure_ (i := 14) (N := some 137) (v := ?_) (a' := ?_) (bs 15 22) rfl rfl (any_of HT_.out (by kernel_rfl)) (fun _ _ _ h => h) (Or.inl ⟨by rfl, ?_⟩) ?_ ?_
                                rotate_left
                                ·intro w'
                                 go_simp
                                 with_reducible rfl
                                rotate_left
                                ·simp only [Act.put, List.setIfInBounds_toArray, List.set_cons_zero, List.set_cons_succ, i64_w, i32_w]
                                 rfl
                                refine pure_ (i := 15) (N := some 138) (v := ?_) (a' := ?_) (bs 16 21) rfl rfl (any_of HT_.out (by kernel_rfl)) (fun _ _ _ h => h) (Or.inl ⟨by rfl, ?_⟩) ?_ ?_
                                rotate_left
                                ·intro w'
                                 go_simp
                                 with_reducible rfl
                                rotate_left
                                ·simp only [Act.put, List.setIfInBounds_toArray, List.set_cons_zero, List.set_cons_succ, i64_w, i32_w]
                                 rfl
                                refine pure_ (i := 16) (N := some 139) (v := ?_) (a' := ?_) (bs 17 20) rfl rfl (any_of HT_.out (by kernel_rfl)) (fun _ _ _ h => h) (Or.inl ⟨by rfl, ?_⟩) ?_ ?_
                                rotate_left
                                ·intro w'
                                 go_simp
                                 with_reducible rfl
                                rotate_left
                                ·simp only [Act.put, List.setIfInBounds_toArray, List.set_cons_zero, List.set_cons_succ, i64_w, i32_w]
                                 rfl
                                refine pure_ (i := 17) (N := some 140) (v := ?_) (a' := ?_) (bs 18 19) rfl rfl (any_of HT_.out (by kernel_rfl)) (fun _ _ _ h => h) (Or.inl ⟨by rfl, ?_⟩) ?_ ?_
                                rotate_left
                                ·intro w'
                                 go_simp
                                 with_reducible rfl
                                rotate_left
                                ·simp only [Act.put, List.setIfInBounds_toArray, List.set_cons_zero, List.set_cons_succ, i64_w, i32_w]
                                 rfl
                                refine pure_ (i := 18) (N := some 141) (v := ?_) (a' := ?_) (bs 19 18) rfl rfl (any_of HT_.out (by kernel_rfl)) (fun _ _ _ h => h) (Or.inl ⟨by rfl, ?_⟩) ?_ ?_
                                rotate_left
                                ·intro w'
                                 go_simp
                                 with_reducible rfl
                                rotate_left
                                ·simp only [Act.put, List.setIfInBounds_toArray, List.set_cons_zero, List.set_cons_succ, i64_w, i32_w]
                                 rfl
                                refine pure_ (i := 20) (N := some 143) (v := ?_) (a' := ?_) #[true, true, true, true, true, true, true, true, true, true, true, true, true, true, true, true, true, true, true, false, true, false, false, false, false, false, false, false, false, false, false, false, false, false, false, false, false] rfl rfl (any_of HT_.out (by kernel_rfl)) (fun _ _ _ h => h) (Or.inl ⟨by rfl, ?_⟩) ?_ ?_
                                rotate_left
                                ·intro w'
                                 go_simp
                                 with_reducible rfl
                                rotate_left
                                ·simp only [Act.put, List.setIfInBounds_toArray, List.set_cons_zero, List.set_cons_succ, i64_w, i32_w]
                                 rfl
                                refine pure_ (i := 21) (N := some 144) (v := ?_) (a' := ?_) #[true, true, true, true, true, true, true, true, true, true, true, true, true, true, true, true, true, true, true, false, true, true, false, false, false, false, false, false, false, false, false, false, false, false, false, false, false] rfl rfl (any_of HT_.out (by kernel_rfl)) (fun _ _ _ h => h) (Or.inl ⟨by rfl, ?_⟩) ?_ ?_
                                rotate_left
                                ·intro w'
                                 go_simp
                                 with_reducible rfl
                                rotate_left
                                ·simp only [Act.put, List.setIfInBounds_toArray, List.set_cons_zero, List.set_cons_succ, i64_w, i32_w]
                                 rfl
                                refine pure_ (i := 22) (N := some 145) (v := ?_) (a' := ?_) #[true, true, true, true, true, true, true, true, true, true, true, true, true, true, true, true, true, true, true, false, true, true, true, false, false, false, false, false, false, false, false, false, false, false, false, false, false] rfl rfl (any_of HT_.out (by kernel_rfl)) (fun _ _ _ h => h) (Or.inl ⟨by rfl, ?_⟩) ?_ ?_
                                rotate_left
                                ·intro w'
                                 go_simp
                                 with_reducible rfl
                                rotate_left
                                ·simp only [Act.put, List.setIfInBounds_toArray, List.set_cons_zero, List.set_cons_succ, i64_w, i32_w]
                                 rfl
                                refine pure_ (i := 23) (N := some 146) (v := ?_) (a' := ?_) #[true, true, true, true, true, true, true, true, true, true, true, true, true, true, true, true, true, true, true, false, true, true, true, true, false, false, false, false, false, false, false, false, false, false, false, false, false] rfl rfl (any_of HT_.out (by kernel_rfl)) (fun _ _ _ h => h) (Or.inl ⟨by rfl, ?_⟩) ?_ ?_
                                rotate_left
                                ·intro w'
                                 go_simp
                                 with_reducible rfl
                                rotate_left
                                ·simp only [Act.put, List.setIfInBounds_toArray, List.set_cons_zero, List.set_cons_succ, i64_w, i32_w]
                                 rfl
                                refine take_ (i := 19) (N := some 142) (v := ?_) (a' := ?_) (bs 24 13) rfl rfl (take_ofW HT_.out HW_.out (by kernel_rfl)) (fun _ _ _ h => h) (Or.inl ⟨by rfl, ?_⟩) hHeld ?_ ?_
                                rotate_left
                                ·rintro w' ⟨s0, s1, s2, s3, s4, s5, s6, s7, s8, s9⟩
                                 go_simp
                                 with_reducible rfl
                                rotate_left
                                ·simp only [Act.put, List.setIfInBounds_toArray, List.set_cons_zero, List.set_cons_succ, i64_w, i32_w]
                                 rfl
                                refine take_ (i := 24) (N := some 147) (v := ?_) (a' := ?_) (bs 25 12) rfl rfl (take_ofW HT_.out HW_.out (by kernel_rfl)) (fun _ _ _ h => h) (Or.inl ⟨by rfl, ?_⟩) hHeld ?_ ?_
                                rotate_left
                                ·rintro w' ⟨s0, s1, s2, s3, s4, s5, s6, s7, s8, s9⟩
                                 go_simp
                                 with_reducible rfl
                                rotate_left
                                ·simp only [Act.put, List.setIfInBounds_toArray, List.set_cons_zero, List.set_cons_succ, i64_w, i32_w]
                                 rfl
                                refine one_ (i := 25) (N := some 148) (bs 26 11) rfl rfl (one_of HT_.out (by kernel_rfl)) (by decide) (fun K hK => ?_)
                                refine goes_ Try.func16 (by kernel_rfl) rfl #[.int .i64 a0, .int .i64 ((rd_T36 t107 x19_6).f0), .int .i64 ((rd_T39 l3 x17_4).f1)] (by rfl) rfl rfl (by (try simp only [List.map_toArray, List.map_cons, List.map_nil]); first | done | rfl | (simp only [List.length_drop, List.length_take]; rfl)) ?_
                                with_reducible refine (tree_On.calls k6 a0 ((rd_T36 t107 x19_6).f0) ((rd_T39 l3 x17_4).f1) true _ A71.out).mono ?_
                                rintro e w75 ⟨rfl, hb⟩
                                have HS0_ := (hb.cell (World.block_lt_of_cell? _ _ (hHeld.1))).trans (hHeld.1)
                                have HS1_ := (hb.cell (World.block_lt_of_cell? _ _ (hHeld.2.1))).trans (hHeld.2.1)
                                have HS2_ := (hb.cell (World.block_lt_of_cell? _ _ (hHeld.2.2.1))).trans (hHeld.2.2.1)
                                have HS3_ := (hb.cell (World.block_lt_of_cell? _ _ (hHeld.2.2.2.1))).trans (hHeld.2.2.2.1)
                                have HS4_ := (hb.cell (World.block_lt_of_cell? _ _ (hHeld.2.2.2.2.1))).trans (hHeld.2.2.2.2.1)
                                have HS5_ := (hb.cell (World.block_lt_of_cell? _ _ (hHeld.2.2.2.2.2.1))).trans (hHeld.2.2.2.2.2.1)
                                have HS8_ := (hb.cell (World.block_lt_of_cell? _ _ (hHeld.2.2.2.2.2.2.2.2.1))).trans (hHeld.2.2.2.2.2.2.2.2.1)
                                have HS9_ := (hb.cell (World.block_lt_of_cell? _ _ (hHeld.2.2.2.2.2.2.2.2.2))).trans (hHeld.2.2.2.2.2.2.2.2.2)
                                refine ⟨_, rfl, ?_⟩
                                have n0_ := Aside0.mk (Kd.N_below (by (with_reducible repeat (first | apply Kd.N_alloc | apply Kd.N_drewN | apply Kd.N_drew)); exact HO_11.out) hb)
                                have n1_ := Aside0.mk (Kd.V_below (by (with_reducible repeat (first | apply Kd.V_alloc | apply Kd.V_drewN | apply Kd.V_drew)); exact HL135_1.out) hb)
                                have n2_ := Aside0.mk (Kd.V_below (by (with_reducible repeat (first | apply Kd.V_alloc | apply Kd.V_drewN | apply Kd.V_drew)); exact HL137_1.out) hb)
                                have n3_ := Aside0.mk (Kd.V_below (by (with_reducible repeat (first | apply Kd.V_alloc | apply Kd.V_drewN | apply Kd.V_drew)); exact HL139_1.out) hb)
                                have n4_ := Aside0.mk (Kd.C_below (Kd.C_drewN (Kd.C_drewN HR132_1.out _) _) hb)
                                have n5_ := Aside0.mk (Kd.C_below (Kd.C_drewN (Kd.C_drewN HR135_1.out _) _) hb)
                                have n6_ := Aside0.mk (Kd.C_below (Kd.C_drewN (Kd.C_drewN HR137_1.out _) _) hb)
                                have n7_ := Aside0.mk (Kd.C_below (Kd.C_drewN (Kd.C_drewN HR139_1.out _) _) hb)
                                have n8_ := Aside0.mk (below_step (by repeat (first | (with_reducible first | exact HB.out | apply below_alloc | apply pw_below_drewN | apply below_drew1) | exact HB.out)) hb)
                                clear HO_11
                                clear HL135_1
                                clear HL137_1
                                clear HL139_1
                                clear HR132_1
                                clear HR135_1
                                clear HR137_1
                                clear HR139_1
                                clear HB
                                have HO_11 := n0_
                                have HL135_1 := n1_
                                have HL137_1 := n2_
                                have HL139_1 := n3_
                                have HR132_1 := n4_
                                have HR135_1 := n5_
                                have HR137_1 := n6_
                                have HR139_1 := n7_
                                have HB := n8_
                                clear n0_ n1_ n2_ n3_ n4_ n5_ n6_ n7_ n8_
                                (try clear hb)
                                (try clear hb2)
                                (try clear hk)
                                (try clear hi)
                                refine hK.out _ _ ⟨HS0_, HS1_, HS2_, HS3_, HS4_, HS5_, ((HB.out.cell (World.block_lt_of_cell? w _ hw140_0)).trans hw140_0), ((HB.out.cell (World.block_lt_of_cell? w _ hw140_1)).trans hw140_1), HS8_, HS9_⟩ (fun hHeld => ?_)
                                clear hK K
                                refine norm_ (a' := ?_) ?_ ?_
                                rotate_left
                                ·show Act.put _ (some 148) _ = _
                                 simp only [Act.put, List.setIfInBounds_toArray, List.set_cons_zero, List.set_cons_succ, i64_w, i32_w]
                                 rfl
                                refine pure_ (i := 26) (N := some 149) (v := ?_) (a' := ?_) (bs 27 10) rfl rfl (any_of HT_.out (by kernel_rfl)) (fun _ _ _ h => h) (Or.inl ⟨by rfl, ?_⟩) ?_ ?_
                                rotate_left
                                ·intro w'
                                 go_simp
                                 with_reducible rfl
                                rotate_left
                                ·simp only [Act.put, List.setIfInBounds_toArray, List.set_cons_zero, List.set_cons_succ, i64_w, i32_w]
                                 rfl
                                refine pure_ (i := 27) (N := some 150) (v := ?_) (a' := ?_) (bs 28 9) rfl rfl (any_of HT_.out (by kernel_rfl)) (fun _ _ _ h => h) (Or.inl ⟨by rfl, ?_⟩) ?_ ?_
                                rotate_left
                                ·intro w'
                                 go_simp
                                 with_reducible rfl
                                rotate_left
                                ·simp only [Act.put, List.setIfInBounds_toArray, List.set_cons_zero, List.set_cons_succ, i64_w, i32_w]
                                 rfl
                                refine pure_ (i := 28) (N := some 151) (v := ?_) (a' := ?_) (bs 29 8) rfl rfl (any_of HT_.out (by kernel_rfl)) (fun _ _ _ h => h) (Or.inl ⟨by rfl, ?_⟩) ?_ ?_
                                rotate_left
                                ·intro w'
                                 go_simp
                                 with_reducible rfl
                                rotate_left
                                ·simp only [Act.put, List.setIfInBounds_toArray, List.set_cons_zero, List.set_cons_succ, i64_w, i32_w]
                                 rfl
                                refine pure_ (i := 29) (N := some 152) (v := ?_) (a' := ?_) (bs 30 7) rfl rfl (any_of HT_.out (by kernel_rfl)) (fun _ _ _ h => h) (Or.inl ⟨by rfl, ?_⟩) ?_ ?_
                                rotate_left
                                ·intro w'
                                 go_simp
                                 with_reducible rfl
                                rotate_left
                                ·simp only [Act.put, List.setIfInBounds_toArray, List.set_cons_zero, List.set_cons_succ, i64_w, i32_w]
                                 rfl
                                refine pure_ (i := 30) (N := some 153) (v := ?_) (a' := ?_) (bs 31 6) rfl rfl (any_of HT_.out (by kernel_rfl)) (fun _ _ _ h => h) (Or.inl ⟨by rfl, ?_⟩) ?_ ?_
                                rotate_left
                                ·intro w'
                                 go_simp
                                 with_reducible rfl
                                rotate_left
                                ·simp only [Act.put, List.setIfInBounds_toArray, List.set_cons_zero, List.set_cons_succ, i64_w, i32_w]
                                 rfl
                                refine pure_ (i := 31) (N := some 154) (v := ?_) (a' := ?_) (bs 32 5) rfl rfl (any_of HT_.out (by kernel_rfl)) (fun _ _ _ h => h) (Or.inl ⟨by rfl, ?_⟩) ?_ ?_
                                rotate_left
                                ·intro w'
                                 go_simp
                                 with_reducible rfl
                                rotate_left
                                ·simp only [Act.put, List.setIfInBounds_toArray, List.set_cons_zero, List.set_cons_succ, i64_w, i32_w]
                                 rfl
                                refine pure_ (i := 34) (N := some 157) (v := ?_) (a' := ?_) #[true, true, true, true, true, true, true, true, true, true, true, true, true, true, true, true, true, true, true, true, true, true, true, true, true, true, true, true, true, true, true, true, false, false, true, false, false] rfl rfl (any_of HT_.out (by kernel_rfl)) (fun _ _ _ h => h) (Or.inl ⟨by rfl, ?_⟩) ?_ ?_
                                rotate_left
                                ·intro w'
                                 go_simp
                                 with_reducible rfl
                                rotate_left
                                ·simp only [Act.put, List.setIfInBounds_toArray, List.set_cons_zero, List.set_cons_succ, i64_w, i32_w]
                                 rfl
                                refine take_ (i := 32) (N := some 155) (v := ?_) (a' := ?_) #[true, true, true, true, true, true, true, true, true, true, true, true, true, true, true, true, true, true, true, true, true, true, true, true, true, true, true, true, true, true, true, true, true, false, true, false, false] rfl rfl (take_ofW HT_.out HW_.out (by kernel_rfl)) (fun _ _ _ h => h) (Or.inl ⟨by rfl, ?_⟩) hHeld ?_ ?_
                                rotate_left
                                ·rintro w' ⟨s0, s1, s2, s3, s4, s5, s6, s7, s8, s9⟩
                                 go_simp
                                 with_reducible rfl
                                rotate_left
                                ·simp only [Act.put, List.setIfInBounds_toArray, List.set_cons_zero, List.set_cons_succ, i64_w, i32_w]
                                 rfl
                                refine pure_ (i := 33) (N := some 156) (v := ?_) (a' := ?_) (bs 35 2) rfl rfl (any_of HT_.out (by kernel_rfl)) (fun _ _ _ h => h) (Or.inl ⟨by rfl, ?_⟩) ?_ ?_
                                rotate_left
                                ·intro w'
                                 go_simp
                                 with_reducible rfl
                                rotate_left
                                ·simp only [Act.put, List.setIfInBounds_toArray, List.set_cons_zero, List.set_cons_succ, i64_w, i32_w]
                                 rfl
                                refine pure_ (i := 35) (N := some 158) (v := ?_) (a' := ?_) (bs 36 1) rfl rfl (any_of HT_.out (by kernel_rfl)) (fun _ _ _ h => h) (Or.inl ⟨by rfl, ?_⟩) ?_ ?_
                                rotate_left
                                ·intro w'
                                 go_simp
                                 with_reducible rfl
                                rotate_left
                                ·simp only [Act.put, List.setIfInBounds_toArray, List.set_cons_zero, List.set_cons_succ, i64_w, i32_w]
                                 rfl
                                refine pure_ (i := 36) (N := some 159) (v := ?_) (a' := ?_) (bs 37 0) rfl rfl (any_of HT_.out (by kernel_rfl)) (fun _ _ _ h => h) (Or.inl ⟨by rfl, ?_⟩) ?_ ?_
                                rotate_left
                                ·intro w'
                                 go_simp
                                 with_reducible rfl
                                rotate_left
                                ·simp only [Act.put, List.setIfInBounds_toArray, List.set_cons_zero, List.set_cons_succ, i64_w, i32_w]
                                 rfl
                                refine done_ (done_of HT_.out (by kernel_rfl)) ?_
                                try go_wp2
                                go_roundg k6
                                case measure => have := HJ7.out; have := HK2.out; have := HJ29.out; have := HK4.out; have := HK5.out; have := HK6.out; omega
                                case rel => exact ⟨(wrap64 (x19_6 + 1)), (by first | rfl | (simp; done) | (simp [*]; done)), H', ⟨by have := HJ7.out; have := HK2.out; have := HJ29.out; have := HK4.out; have := HK5.out; have := HK6.out; omega⟩, ⟨by (with_reducible repeat (first | apply Kd.N_alloc | apply Kd.N_drewN | apply Kd.N_drew)); exact HO_11.out⟩, ⟨by repeat (first | (with_reducible exact HR132_1.out) | (with_reducible refine Kd.C_alloc ?_ _) | (with_reducible refine Kd.C_drewN ?_ _) | (with_reducible refine Kd.C_drew ?_) | exact HR132_1.out)⟩, ⟨by repeat (first | (with_reducible first | exact HB.out | apply below_alloc | apply pw_below_drewN | apply below_drew1) | exact HB.out)⟩⟩
                              ·replace c72 := Bool.eq_false_iff.mpr c72
                               subst c72
                               have H1 : (oublaw11_EvictDeep.l3 k6 a0 a1 l3 t107 x17_4 x18_5 (wrap64 (x19_6 + 1))) = some r := by rw [if_neg (show ¬ (false = true) by decide)] at H; exact H
                               clear H
                               have H := H1
                               clear H1
                               have H' := Aside0.mk H
                               clear H
                               try go_wp2
                               have n0_ := Aside0.mk (Kd.N_drew HO_11.out)
                               have n1_ := Aside0.mk (Kd.C_drew HR132_1.out)
                               have n2_ := Aside0.mk (below_drew1 HB.out)
                               clear HO_11
                               clear HR132_1
                               clear HB
                               have HO_11 := n0_
                               have HR132_1 := n1_
                               have HB := n2_
                               clear n0_ n1_ n2_
                               have p135 : 0 ≤ (x19_6 : Int) := of_decide_eq_true (by first | (with_reducible assumption) | assumption)
                               have q135 : x19_6 < (t107.length : Int) := of_decide_eq_true (by first | (with_reducible assumption) | assumption)
                               obtain ⟨ad135, A135_1, c135_1, e135, hx135_0, hx135_1, hl135_1, hi135_1⟩ := at_T36 (Kd.N_reads' HO_11.out).2.2 x19_6 p135 q135
                               obtain rfl : ad132 = ad135 := (by injection e135)
                               obtain ⟨ce135, hce135, hMe135, hcc135⟩ := Kd.N_get HO_11.out z36 x19_6 p135 (by first | exact q135 | exact of_decide_eq_true (by first | (with_reducible assumption) | assumption) | (have e_ := (Kd.N_reads' HO_11.out).1; omega))
                               obtain ⟨ua135_1, uc135_1, rfl, ul135_1, ge135_1⟩ := k36_openF hMe135
                               have hv135_1 := hcc135 1 _ rfl
                               rw [add_field _ _ 1 (by omega)] at hv135_1
                               replace hv135_1 := Option.some.inj (hv135_1.symm.trans hx135_1)
                               injection hv135_1 with hva_ hvn_ hvc_
                               rw [hva_] at ge135_1
                               rw [hvc_] at ul135_1
                               have HL135_1 := Aside0.mk (show Kd.V (Kd.int .i64) 3 _ w.heap.size _ _ ((rd_T36 t107 x19_6).f1) from Kd.V_mk ul135_1 ge135_1)
                               clear hva_ hvn_ hvc_ ge135_1 ul135_1
                               clear hcc135 hce135
                               have HR135_1 := Aside0.mk hi135_1
                               have HC135_1 := Aside0.mk hl135_1
                               clear hi135_1 hl135_1
                               replace p135 := eq_true p135
                               replace q135 := eq_true q135
                               have p137 : 0 ≤ (x18_5 : Int) := of_decide_eq_true (by first | (with_reducible assumption) | assumption)
                               have q137 : x18_5 < (t107.length : Int) := of_decide_eq_true (by first | (with_reducible assumption) | assumption)
                               obtain ⟨ad137, A137_1, c137_1, e137, hx137_0, hx137_1, hl137_1, hi137_1⟩ := at_T36 (Kd.N_reads' HO_11.out).2.2 x18_5 p137 q137
                               obtain rfl : ad132 = ad137 := (by injection e137)
                               obtain ⟨ce137, hce137, hMe137, hcc137⟩ := Kd.N_get HO_11.out z36 x18_5 p137 (by first | exact q137 | exact of_decide_eq_true (by first | (with_reducible assumption) | assumption) | (have e_ := (Kd.N_reads' HO_11.out).1; omega))
                               obtain ⟨ua137_1, uc137_1, rfl, ul137_1, ge137_1⟩ := k36_openF hMe137
                               have hv137_1 := hcc137 1 _ rfl
                               rw [add_field _ _ 1 (by omega)] at hv137_1
                               replace hv137_1 := Option.some.inj (hv137_1.symm.trans hx137_1)
                               injection hv137_1 with hva_ hvn_ hvc_
                               rw [hva_] at ge137_1
                               rw [hvc_] at ul137_1
                               have HL137_1 := Aside0.mk (show Kd.V (Kd.int .i64) 3 _ w.heap.size _ _ ((rd_T36 t107 x18_5).f1) from Kd.V_mk ul137_1 ge137_1)
                               clear hva_ hvn_ hvc_ ge137_1 ul137_1
                               clear hcc137 hce137
                               have HR137_1 := Aside0.mk hi137_1
                               have HC137_1 := Aside0.mk hl137_1
                               clear hi137_1 hl137_1
                               replace p137 := eq_true p137
                               replace q137 := eq_true q137
                               have p139 : 0 ≤ (x19_6 : Int) := of_decide_eq_true (by first | (with_reducible assumption) | assumption)
                               have q139 : x19_6 < (t107.length : Int) := of_decide_eq_true (by first | (with_reducible assumption) | assumption)
                               obtain ⟨ad139, A139_1, c139_1, e139, hx139_0, hx139_1, hl139_1, hi139_1⟩ := at_T36 (Kd.N_reads' HO_11.out).2.2 x19_6 p139 q139
                               obtain rfl : ad132 = ad139 := (by injection e139)
                               obtain ⟨ce139, hce139, hMe139, hcc139⟩ := Kd.N_get HO_11.out z36 x19_6 p139 (by first | exact q139 | exact of_decide_eq_true (by first | (with_reducible assumption) | assumption) | (have e_ := (Kd.N_reads' HO_11.out).1; omega))
                               obtain ⟨ua139_1, uc139_1, rfl, ul139_1, ge139_1⟩ := k36_openF hMe139
                               have hv139_1 := hcc139 1 _ rfl
                               rw [add_field _ _ 1 (by omega)] at hv139_1
                               replace hv139_1 := Option.some.inj (hv139_1.symm.trans hx139_1)
                               injection hv139_1 with hva_ hvn_ hvc_
                               rw [hva_] at ge139_1
                               rw [hvc_] at ul139_1
                               have HL139_1 := Aside0.mk (show Kd.V (Kd.int .i64) 3 _ w.heap.size _ _ ((rd_T36 t107 x19_6).f1) from Kd.V_mk ul139_1 ge139_1)
                               clear hva_ hvn_ hvc_ ge139_1 ul139_1
                               clear hcc139 hce139
                               have HR139_1 := Aside0.mk hi139_1
                               have HC139_1 := Aside0.mk hl139_1
                               clear hi139_1 hl139_1
                               replace p139 := eq_true p139
                               replace q139 := eq_true q139
                               have ea_ := Option.some.inj (hx135_1.symm.trans hx139_1)
                               injection ea_ with ea_ en_ ec_
                               subst ea_
                               subst ec_
                               clear en_
                               have p140 : 0 ≤ (x17_4 : Int) := of_decide_eq_true (by first | (with_reducible assumption) | assumption)
                               have q140 : x17_4 < (l3.length : Int) := of_decide_eq_true (by first | (with_reducible assumption) | assumption)
                               obtain ⟨ad140, e140, hx140_0, hx140_1⟩ := at_T39 HR3.out x17_4 p140 q140
                               have hw140_1 := hx140_1
                               have hw140_0 := hx140_0
                               obtain rfl : ad133 = ad140 := (by injection e140)
                               replace hx140_0 := (HB.out.cell (World.block_lt_of_cell? w _ hx140_0)).trans hx140_0
                               replace hx140_1 := (HB.out.cell (World.block_lt_of_cell? w _ hx140_1)).trans hx140_1
                               replace p140 := eq_true p140
                               replace q140 := eq_true q140
                               refine start_ (n := 37) (S := fun w' => w'.cell? (ad132.add ((x19_6).toNat * 2)) = some (.int .i64 ((rd_T36 t107 x19_6).f0)) ∧ w'.cell? ⟨(ad132.add ((x19_6).toNat * 2)).block, (ad132.add ((x19_6).toNat * 2)).off + 1, none⟩ = some (.slice A135_1 ((rd_T36 t107 x19_6).f1).length c135_1) ∧ w'.cell? (ad132.add ((x18_5).toNat * 2)) = some (.int .i64 ((rd_T36 t107 x18_5).f0)) ∧ w'.cell? ⟨(ad132.add ((x18_5).toNat * 2)).block, (ad132.add ((x18_5).toNat * 2)).off + 1, none⟩ = some (.slice A137_1 ((rd_T36 t107 x18_5).f1).length c137_1) ∧ w'.cell? (ad132.add ((x19_6).toNat * 2)) = some (.int .i64 ((rd_T36 t107 x19_6).f0)) ∧ w'.cell? ⟨(ad132.add ((x19_6).toNat * 2)).block, (ad132.add ((x19_6).toNat * 2)).off + 1, none⟩ = some (.slice A135_1 ((rd_T36 t107 x19_6).f1).length c135_1) ∧ w'.cell? (ad133.add ((x17_4).toNat * 2)) = some (.int .i64 ((rd_T39 l3 x17_4).f0)) ∧ w'.cell? ⟨(ad133.add ((x17_4).toNat * 2)).block, (ad133.add ((x17_4).toNat * 2)).off + 1, none⟩ = some (.int .i64 ((rd_T39 l3 x17_4).f1))) (ds := []) #[false, false, false, false, false, false, false, false, false, false, false, false, false, false, false, false, false, false, false, false, false, false, false, false, false, false, false, false, false, false, false, false, false, false, false, false, false] (by kernel_rfl) rfl rfl ⟨hx135_0, hx135_1, hx137_0, hx137_1, hx139_0, hx139_1, ((HB.out.cell (World.block_lt_of_cell? w _ hw140_0)).trans hw140_0), ((HB.out.cell (World.block_lt_of_cell? w _ hw140_1)).trans hw140_1)⟩ (fun hHeld => ?_); refine with_tabW oublaw11_EvictDeep.tab24 oublaw11_EvictDeep.bits24 (fun HT_ HW_ => ?_)
                               generalize wr.drew = w76 at HO_11 HR132_1 HB HL135_1 HL137_1 HL139_1 HR135_1 HR137_1 HR139_1 hx135_0 hx135_1 hx137_0 hx137_1 hx139_0 hx139_1 hx140_0 hx140_1 hHeld ⊢
                               refine pure_ (i := 0) (N := some 123) (v := ?_) (a' := ?_) (bs 1 36) rfl rfl (any_of HT_.out (by kernel_rfl)) (fun _ _ _ h => h) (Or.inl ⟨by rfl, ?_⟩) ?_ ?_
                               rotate_left
                               ·intro w'
                                go_simp
                                with_reducible rfl
                               rotate_left
                               ·simp only [Act.put, List.setIfInBounds_toArray, List.set_cons_zero, List.set_cons_succ, i64_w, i32_w]
                                rfl
                               refine pure_ (i := 1) (N := some 124) (v := ?_) (a' := ?_) (bs 2 35) rfl rfl (any_of HT_.out (by kernel_rfl)) (fun _ _ _ h => h) (Or.inl ⟨by rfl, ?_⟩) ?_ ?_
                               rotate_left
                               ·intro w'
                                go_simp
                                with_reducible rfl
                               rotate_left
                               ·simp only [Act.put, List.setIfInBounds_toArray, List.set_cons_zero, List.set_cons_succ, i64_w, i32_w]
                                rfl
                               refine pure_ (i := 2) (N := some 125) (v := ?_) (a' := ?_) (bs 3 34) rfl rfl (any_of HT_.out (by kernel_rfl)) (fun _ _ _ h => h) (Or.inl ⟨by rfl, ?_⟩) ?_ ?_
                               rotate_left
                               ·intro w'
                                go_simp
                                with_reducible rfl
                               rotate_left
                               ·simp only [Act.put, List.setIfInBounds_toArray, List.set_cons_zero, List.set_cons_succ, i64_w, i32_w]
                                rfl
                               refine pure_ (i := 3) (N := some 126) (v := ?_) (a' := ?_) (bs 4 33) rfl rfl (any_of HT_.out (by kernel_rfl)) (fun _ _ _ h => h) (Or.inl ⟨by rfl, ?_⟩) ?_ ?_
                               rotate_left
                               ·intro w'
                                go_simp
                                with_reducible rfl
                               rotate_left
                               ·simp only [Act.put, List.setIfInBounds_toArray, List.set_cons_zero, List.set_cons_succ, i64_w, i32_w]
                                rfl
                               refine pure_ (i := 6) (N := some 129) (v := ?_) (a' := ?_) #[true, true, true, true, false, false, true, false, false, false, false, false, false, false, false, false, false, false, false, false, false, false, false, false, false, false, false, false, false, false, false, false, false, false, false, false, false] rfl rfl (any_of HT_.out (by kernel_rfl)) (fun _ _ _ h => h) (Or.inl ⟨by rfl, ?_⟩) ?_ ?_
                               rotate_left
                               ·intro w'
                                go_simp
                                with_reducible rfl
                               rotate_left
                               ·simp only [Act.put, List.setIfInBounds_toArray, List.set_cons_zero, List.set_cons_succ, i64_w, i32_w]
                                rfl
                               refine pure_ (i := 7) (N := some 130) (v := ?_) (a' := ?_) #[true, true, true, true, false, false, true, true, false, false, false, false, false, false, false, false, false, false, false, false, false, false, false, false, false, false, false, false, false, false, false, false, false, false, false, false, false] rfl rfl (any_of HT_.out (by kernel_rfl)) (fun _ _ _ h => h) (Or.inl ⟨by rfl, ?_⟩) ?_ ?_
                               rotate_left
                               ·intro w'
                                go_simp
                                with_reducible rfl
                               rotate_left
                               ·simp only [Act.put, List.setIfInBounds_toArray, List.set_cons_zero, List.set_cons_succ, i64_w, i32_w]
                                rfl
                               refine pure_ (i := 8) (N := some 131) (v := ?_) (a' := ?_) #[true, true, true, true, false, false, true, true, true, false, false, false, false, false, false, false, false, false, false, false, false, false, false, false, false, false, false, false, false, false, false, false, false, false, false, false, false] rfl rfl (any_of HT_.out (by kernel_rfl)) (fun _ _ _ h => h) (Or.inl ⟨by rfl, ?_⟩) ?_ ?_
                               rotate_left
                               ·intro w'
                                go_simp
                                with_reducible rfl
                               rotate_left
                               ·simp only [Act.put, List.setIfInBounds_toArray, List.set_cons_zero, List.set_cons_succ, i64_w, i32_w]
                                rfl
                               refine pure_ (i := 9) (N := some 132) (v := ?_) (a' := ?_) #[true, true, true, true, false, false, true, true, true, true, false, false, false, false, false, false, false, false, false, false, false, false, false, false, false, false, false, false, false, false, false, false, false, false, false, false, false] rfl rfl (any_of HT_.out (by kernel_rfl)) (fun _ _ _ h => h) (Or.inl ⟨by rfl, ?_⟩) ?_ ?_
                               rotate_left
                               ·intro w'
                                go_simp
                                with_reducible rfl
                               rotate_left
                               ·simp only [Act.put, List.setIfInBounds_toArray, List.set_cons_zero, List.set_cons_succ, i64_w, i32_w]
                                rfl
                               refine take_ (i := 4) (N := some 127) (v := ?_) (a' := ?_) #[true, true, true, true, true, false, true, true, true, true, false, false, false, false, false, false, false, false, false, false, false, false, false, false, false, false, false, false, false, false, false, false, false, false, false, false, false] rfl rfl (take_ofW HT_.out HW_.out (by kernel_rfl)) (fun _ _ _ h => h) (Or.inl ⟨by rfl, ?_⟩) hHeld ?_ ?_
                               rotate_left
                               ·rintro w' ⟨s0, s1, s2, s3, s4, s5, s6, s7⟩
                                go_simp
                                with_reducible rfl
                               rotate_left
                               ·simp only [Act.put, List.setIfInBounds_toArray, List.set_cons_zero, List.set_cons_succ, i64_w, i32_w]
                                rfl
                               refine take_ (i := 10) (N := some 133) (v := ?_) (a' := ?_) #[true, true, true, true, true, false, true, true, true, true, true, false, false, false, false, false, false, false, false, false, false, false, false, false, false, false, false, false, false, false, false, false, false, false, false, false, false] rfl rfl (take_ofW HT_.out HW_.out (by kernel_rfl)) (fun _ _ _ h => h) (Or.inl ⟨by rfl, ?_⟩) hHeld ?_ ?_
                               rotate_left
                               ·rintro w' ⟨s0, s1, s2, s3, s4, s5, s6, s7⟩
                                go_simp
                                with_reducible rfl
                               rotate_left
                               ·simp only [Act.put, List.setIfInBounds_toArray, List.set_cons_zero, List.set_cons_succ, i64_w, i32_w]
                                rfl
                               refine one_ (i := 5) (N := some 128) (bs 11 26) rfl rfl (one_of HT_.out (by kernel_rfl)) (by decide) (fun K hK => ?_)
                               refine goes_ Try.func19 (by kernel_rfl) rfl #[.int .i64 ((rd_T36 t107 x19_6).f0)] (by rfl) rfl rfl (by (try simp only [List.map_toArray, List.map_cons, List.map_nil]); first | done | rfl | (simp only [List.length_drop, List.length_take]; rfl)) ?_
                               with_reducible refine (tree_Level.calls k6 ((rd_T36 t107 x19_6).f0) t136 _ A64.out).mono ?_
                               rintro e w' ⟨rfl, ⟨nd, rfl⟩⟩
                               refine ⟨_, rfl, ?_⟩
                               refine hK.out _ _ ⟨hHeld.1, hHeld.2.1, hHeld.2.2.1, hHeld.2.2.2.1, hHeld.2.2.2.2.1, hHeld.2.2.2.2.2.1, ((HB.out.cell (World.block_lt_of_cell? w _ hw140_0)).trans hw140_0), ((HB.out.cell (World.block_lt_of_cell? w _ hw140_1)).trans hw140_1)⟩ (fun hHeld => ?_)
                               clear hK K
                               refine norm_ (a' := ?_) ?_ ?_
                               rotate_left
                               ·show Act.put _ (some 128) _ = _
                                simp only [Act.put, List.setIfInBounds_toArray, List.set_cons_zero, List.set_cons_succ, i64_w, i32_w]
                                rfl
                               refine one_ (i := 11) (N := some 134) (bs 12 25) rfl rfl (one_of HT_.out (by kernel_rfl)) (by decide) (fun K hK => ?_)
                               refine goes_ Try.func19 (by kernel_rfl) rfl #[.int .i64 ((rd_T36 t107 x18_5).f0)] (by rfl) rfl rfl (by (try simp only [List.map_toArray, List.map_cons, List.map_nil]); first | done | rfl | (simp only [List.length_drop, List.length_take]; rfl)) ?_
                               with_reducible refine (tree_Level.calls k6 ((rd_T36 t107 x18_5).f0) t138 _ A67.out).mono ?_
                               rintro e w' ⟨rfl, ⟨nd, rfl⟩⟩
                               refine ⟨_, rfl, ?_⟩
                               refine hK.out _ _ ⟨hHeld.1, hHeld.2.1, hHeld.2.2.1, hHeld.2.2.2.1, hHeld.2.2.2.2.1, hHeld.2.2.2.2.2.1, ((HB.out.cell (World.block_lt_of_cell? w _ hw140_0)).trans hw140_0), ((HB.out.cell (World.block_lt_of_cell? w _ hw140_1)).trans hw140_1)⟩ (fun hHeld => ?_)
                               clear hK K
                               refine norm_ (a' := ?_) ?_ ?_
                               rotate_left
                               ·show Act.put _ (some 134) _ = _
                                simp only [Act.put, List.setIfInBounds_toArray, List.set_cons_zero, List.set_cons_succ, i64_w, i32_w]
                                rfl
                               refine pure_ (i := 12) (N := some 135) (v := ?_) (a' := ?_) (bs 13 24) rfl rfl (any_of HT_.out (by kernel_rfl)) (fun _ _ _ h => h) (Or.inl ⟨by rfl, ?_⟩) ?_ ?_
                               rotate_left
                               ·intro w'
                                go_simp
                                with_reducible rfl
                               rotate_left
                               ·simp only [Act.put, List.setIfInBounds_toArray, List.set_cons_zero, List.set_cons_succ, i64_w, i32_w]
                                rfl
                               refine pure_ (i := 13) (N := some 136) (v := ?_) (a' := ?_) (bs 14 23) rfl rfl (any_of HT_.out (by kernel_rfl)) (fun _ _ _ h => h) (Or.inl ⟨by rfl, ?_⟩) ?_ ?_
                               rotate_left
                               ·intro w'
                                go_simp
                                with_reducible rfl
                               rotate_left
                               ·simp only [Act.put, List.setIfInBounds_toArray, List.set_cons_zero, List.set_cons_succ, i64_w, i32_w]
                                rfl
                               refine pure_ (i := 14) (N := some 137) (v := ?_) (a' := ?_) (bs 15 22) rfl rfl (any_of HT_.out (by kernel_rfl)) (fun _ _ _ h => h) (Or.inl ⟨by rfl, ?_⟩) ?_ ?_
                               rotate_left
                               ·intro w'
                                go_simp
                                with_reducible rfl
                               rotate_left
                               ·simp only [Act.put, List.setIfInBounds_toArray, List.set_cons_zero, List.set_cons_succ, i64_w, i32_w]
                                rfl
                               refine pure_ (i := 15) (N := some 138) (v := ?_) (a' := ?_) (bs 16 21) rfl rfl (any_of HT_.out (by kernel_rfl)) (fun _ _ _ h => h) (Or.inl ⟨by rfl, ?_⟩) ?_ ?_
                               rotate_left
                               ·intro w'
                                go_simp
                                with_reducible rfl
                               rotate_left
                               ·simp only [Act.put, List.setIfInBounds_toArray, List.set_cons_zero, List.set_cons_succ, i64_w, i32_w]
                                rfl
                               refine pure_ (i := 16) (N := some 139) (v := ?_) (a' := ?_) (bs 17 20) rfl rfl (any_of HT_.out (by kernel_rfl)) (fun _ _ _ h => h) (Or.inl ⟨by rfl, ?_⟩) ?_ ?_
                               rotate_left
                               ·intro w'
                                go_simp
                                with_reducible rfl
                               rotate_left
                               ·simp only [Act.put, List.setIfInBounds_toArray, List.set_cons_zero, List.set_cons_succ, i64_w, i32_w]
                                rfl
                               refine pure_ (i := 17) (N := some 140) (v := ?_) (a' := ?_) (bs 18 19) rfl rfl (any_of HT_.out (by kernel_rfl)) (fun _ _ _ h => h) (Or.inl ⟨by rfl, ?_⟩) ?_ ?_
                               rotate_left
                               ·intro w'
                                go_simp
                                with_reducible rfl
                               rotate_left
                               ·simp only [Act.put, List.setIfInBounds_toArray, List.set_cons_zero, List.set_cons_succ, i64_w, i32_w]
                                rfl
                               refine pure_ (i := 18) (N := some 141) (v := ?_) (a' := ?_) (bs 19 18) rfl rfl (any_of HT_.out (by kernel_rfl)) (fun _ _ _ h => h) (Or.inl ⟨by rfl, ?_⟩) ?_ ?_
                               rotate_left
                               ·intro w'
                                go_simp
                                with_reducible rfl
                               rotate_left
                               ·simp only [Act.put, List.setIfInBounds_toArray, List.set_cons_zero, List.set_cons_succ, i64_w, i32_w]
                                rfl
                               refine pure_ (i := 20) (N := some 143) (v := ?_) (a' := ?_) #[true, true, true, true, true, true, true, true, true, true, true, true, true, true, true, true, true, true, true, false, true, false, false, false, false, false, false, false, false, false, false, false, false, false, false, false, false] rfl rfl (any_of HT_.out (by kernel_rfl)) (fun _ _ _ h => h) (Or.inl ⟨by rfl, ?_⟩) ?_ ?_
                               rotate_left
                               ·intro w'
                                go_simp
                                with_reducible rfl
                               rotate_left
                               ·simp only [Act.put, List.setIfInBounds_toArray, List.set_cons_zero, List.set_cons_succ, i64_w, i32_w]
                                rfl
                               refine pure_ (i := 21) (N := some 144) (v := ?_) (a' := ?_) #[true, true, true, true, true, true, true, true, true, true, true, true, true, true, true, true, true, true, true, false, true, true, false, false, false, false, false, false, false, false, false, false, false, false, false, false, false] rfl rfl (any_of HT_.out (by kernel_rfl)) (fun _ _ _ h => h) (Or.inl ⟨by rfl, ?_⟩) ?_ ?_
                               rotate_left
                               ·intro w'
                                go_simp
                                with_reducible rfl
                               rotate_left
                               ·simp only [Act.put, List.setIfInBounds_toArray, List.set_cons_zero, List.set_cons_succ, i64_w, i32_w]
                                rfl
                               refine pure_ (i := 22) (N := some 145) (v := ?_) (a' := ?_) #[true, true, true, true, true, true, true, true, true, true, true, true, true, true, true, true, true, true, true, false, true, true, true, false, false, false, false, false, false, false, false, false, false, false, false, false, false] rfl rfl (any_of HT_.out (by kernel_rfl)) (fun _ _ _ h => h) (Or.inl ⟨by rfl, ?_⟩) ?_ ?_
                               rotate_left
                               ·intro w'
                                go_simp
                                with_reducible rfl
                               rotate_left
                               ·simp only [Act.put, List.setIfInBounds_toArray, List.set_cons_zero, List.set_cons_succ, i64_w, i32_w]
                                rfl
                               refine pure_ (i := 23) (N := some 146) (v := ?_) (a' := ?_) #[true, true, true, true, true, true, true, true, true, true, true, true, true, true, true, true, true, true, true, false, true, true, true, true, false, false, false, false, false, false, false, false, false, false, false, false, false] rfl rfl (any_of HT_.out (by kernel_rfl)) (fun _ _ _ h => h) (Or.inl ⟨by rfl, ?_⟩) ?_ ?_
                               rotate_left
                               ·intro w'
                                go_simp
                                with_reducible rfl
                               rotate_left
                               ·simp only [Act.put, List.setIfInBounds_toArray, List.set_cons_zero, List.set_cons_succ, i64_w, i32_w]
                                rfl
                               refine take_ (i := 19) (N := some 142) (v := ?_) (a' := ?_) (bs 24 13) rfl rfl (take_ofW HT_.out HW_.out (by kernel_rfl)) (fun _ _ _ h => h) (Or.inl ⟨by rfl, ?_⟩) hHeld ?_ ?_
                               rotate_left
                               ·rintro w' ⟨s0, s1, s2, s3, s4, s5, s6, s7⟩
                                go_simp
                                with_reducible rfl
                               rotate_left
                               ·simp only [Act.put, List.setIfInBounds_toArray, List.set_cons_zero, List.set_cons_succ, i64_w, i32_w]
                                rfl
                               refine take_ (i := 24) (N := some 147) (v := ?_) (a' := ?_) (bs 25 12) rfl rfl (take_ofW HT_.out HW_.out (by kernel_rfl)) (fun _ _ _ h => h) (Or.inl ⟨by rfl, ?_⟩) hHeld ?_ ?_
                               rotate_left
                               ·rintro w' ⟨s0, s1, s2, s3, s4, s5, s6, s7⟩
                                go_simp
                                with_reducible rfl
                               rotate_left
                               ·simp only [Act.put, List.setIfInBounds_toArray, List.set_cons_zero, List.set_cons_succ, i64_w, i32_w]
                                rfl
                               refine one_ (i := 25) (N := some 148) (bs 26 11) rfl rfl (one_of HT_.out (by kernel_rfl)) (by decide) (fun K hK => ?_)
                               refine goes_ Try.func16 (by kernel_rfl) rfl #[.int .i64 a0, .int .i64 ((rd_T36 t107 x19_6).f0), .int .i64 ((rd_T39 l3 x17_4).f1)] (by rfl) rfl rfl (by (try simp only [List.map_toArray, List.map_cons, List.map_nil]); first | done | rfl | (simp only [List.length_drop, List.length_take]; rfl)) ?_
                               with_reducible refine (tree_On.calls k6 a0 ((rd_T36 t107 x19_6).f0) ((rd_T39 l3 x17_4).f1) false _ A71.out).mono ?_
                               rintro e w77 ⟨rfl, hb⟩
                               have HS0_ := (hb.cell (World.block_lt_of_cell? _ _ (hHeld.1))).trans (hHeld.1)
                               have HS1_ := (hb.cell (World.block_lt_of_cell? _ _ (hHeld.2.1))).trans (hHeld.2.1)
                               have HS2_ := (hb.cell (World.block_lt_of_cell? _ _ (hHeld.2.2.1))).trans (hHeld.2.2.1)
                               have HS3_ := (hb.cell (World.block_lt_of_cell? _ _ (hHeld.2.2.2.1))).trans (hHeld.2.2.2.1)
                               have HS4_ := (hb.cell (World.block_lt_of_cell? _ _ (hHeld.2.2.2.2.1))).trans (hHeld.2.2.2.2.1)
                               have HS5_ := (hb.cell (World.block_lt_of_cell? _ _ (hHeld.2.2.2.2.2.1))).trans (hHeld.2.2.2.2.2.1)
                               refine ⟨_, rfl, ?_⟩
                               have n0_ := Aside0.mk (Kd.N_below (by (with_reducible repeat (first | apply Kd.N_alloc | apply Kd.N_drewN | apply Kd.N_drew)); exact HO_11.out) hb)
                               have n1_ := Aside0.mk (Kd.V_below (by (with_reducible repeat (first | apply Kd.V_alloc | apply Kd.V_drewN | apply Kd.V_drew)); exact HL135_1.out) hb)
                               have n2_ := Aside0.mk (Kd.V_below (by (with_reducible repeat (first | apply Kd.V_alloc | apply Kd.V_drewN | apply Kd.V_drew)); exact HL137_1.out) hb)
                               have n3_ := Aside0.mk (Kd.V_below (by (with_reducible repeat (first | apply Kd.V_alloc | apply Kd.V_drewN | apply Kd.V_drew)); exact HL139_1.out) hb)
                               have n4_ := Aside0.mk (Kd.C_below (Kd.C_drewN (Kd.C_drewN HR132_1.out _) _) hb)
                               have n5_ := Aside0.mk (Kd.C_below (Kd.C_drewN (Kd.C_drewN HR135_1.out _) _) hb)
                               have n6_ := Aside0.mk (Kd.C_below (Kd.C_drewN (Kd.C_drewN HR137_1.out _) _) hb)
                               have n7_ := Aside0.mk (Kd.C_below (Kd.C_drewN (Kd.C_drewN HR139_1.out _) _) hb)
                               have n8_ := Aside0.mk (below_step (by repeat (first | (with_reducible first | exact HB.out | apply below_alloc | apply pw_below_drewN | apply below_drew1) | exact HB.out)) hb)
                               clear HO_11
                               clear HL135_1
                               clear HL137_1
                               clear HL139_1
                               clear HR132_1
                               clear HR135_1
                               clear HR137_1
                               clear HR139_1
                               clear HB
                               have HO_11 := n0_
                               have HL135_1 := n1_
                               have HL137_1 := n2_
                               have HL139_1 := n3_
                               have HR132_1 := n4_
                               have HR135_1 := n5_
                               have HR137_1 := n6_
                               have HR139_1 := n7_
                               have HB := n8_
                               clear n0_ n1_ n2_ n3_ n4_ n5_ n6_ n7_ n8_
                               (try clear hb)
                               (try clear hb2)
                               (try clear hk)
                               (try clear hi)
                               refine hK.out _ _ ⟨HS0_, HS1_, HS2_, HS3_, HS4_, HS5_, ((HB.out.cell (World.block_lt_of_cell? w _ hw140_0)).trans hw140_0), ((HB.out.cell (World.block_lt_of_cell? w _ hw140_1)).trans hw140_1)⟩ (fun hHeld => ?_)
                               clear hK K
                               refine norm_ (a' := ?_) ?_ ?_
                               rotate_left
                               ·show Act.put _ (some 148) _ = _
                                simp only [Act.put, List.setIfInBounds_toArray, List.set_cons_zero, List.set_cons_succ, i64_w, i32_w]
                                rfl
                               refine pure_ (i := 26) (N := some 149) (v := ?_) (a' := ?_) (bs 27 10) rfl rfl (any_of HT_.out (by kernel_rfl)) (fun _ _ _ h => h) (Or.inl ⟨by rfl, ?_⟩) ?_ ?_
                               rotate_left
                               ·intro w'
                                go_simp
                                with_reducible rfl
                               rotate_left
                               ·simp only [Act.put, List.setIfInBounds_toArray, List.set_cons_zero, List.set_cons_succ, i64_w, i32_w]
                                rfl
                               refine pure_ (i := 27) (N := some 150) (v := ?_) (a' := ?_) (bs 28 9) rfl rfl (any_of HT_.out (by kernel_rfl)) (fun _ _ _ h => h) (Or.inl ⟨by rfl, ?_⟩) ?_ ?_
                               rotate_left
                               ·intro w'
                                go_simp
                                with_reducible rfl
                               rotate_left
                               ·simp only [Act.put, List.setIfInBounds_toArray, List.set_cons_zero, List.set_cons_succ, i64_w, i32_w]
                                rfl
                               refine pure_ (i := 28) (N := some 151) (v := undef) (a' := ?_) (bs 29 8) rfl rfl (any_of HT_.out (by kernel_rfl)) (fun _ _ _ h => h) (Or.inr ⟨by rfl, rfl⟩) ?_ ?_
                               rotate_left
                               ·simp only [Act.put, List.setIfInBounds_toArray, List.set_cons_zero, List.set_cons_succ, i64_w, i32_w]
                                rfl
                               refine pure_ (i := 29) (N := some 152) (v := undef) (a' := ?_) (bs 30 7) rfl rfl (any_of HT_.out (by kernel_rfl)) (fun _ _ _ h => h) (Or.inr ⟨by rfl, rfl⟩) ?_ ?_
                               rotate_left
                               ·simp only [Act.put, List.setIfInBounds_toArray, List.set_cons_zero, List.set_cons_succ, i64_w, i32_w]
                                rfl
                               refine pure_ (i := 30) (N := some 153) (v := undef) (a' := ?_) (bs 31 6) rfl rfl (any_of HT_.out (by kernel_rfl)) (fun _ _ _ h => h) (Or.inr ⟨by rfl, rfl⟩) ?_ ?_
                               rotate_left
                               ·simp only [Act.put, List.setIfInBounds_toArray, List.set_cons_zero, List.set_cons_succ, i64_w, i32_w]
                                rfl
                               refine pure_ (i := 31) (N := some 154) (v := undef) (a' := ?_) (bs 32 5) rfl rfl (any_of HT_.out (by kernel_rfl)) (fun _ _ _ h => h) (Or.inr ⟨by rfl, rfl⟩) ?_ ?_
                               rotate_left
                               ·simp only [Act.put, List.setIfInBounds_toArray, List.set_cons_zero, List.set_cons_succ, i64_w, i32_w]
                                rfl
                               refine pure_ (i := 32) (N := some 155) (v := undef) (a' := ?_) (bs 33 4) rfl rfl (any_of HT_.out (by kernel_rfl)) (fun _ _ _ h => h) (Or.inr ⟨by rfl, rfl⟩) ?_ ?_
                               rotate_left
                               ·simp only [Act.put, List.setIfInBounds_toArray, List.set_cons_zero, List.set_cons_succ, i64_w, i32_w]
                                rfl
                               refine pure_ (i := 33) (N := some 156) (v := undef) (a' := ?_) (bs 34 3) rfl rfl (any_of HT_.out (by kernel_rfl)) (fun _ _ _ h => h) (Or.inr ⟨by rfl, rfl⟩) ?_ ?_
                               rotate_left
                               ·simp only [Act.put, List.setIfInBounds_toArray, List.set_cons_zero, List.set_cons_succ, i64_w, i32_w]
                                rfl
                               refine pure_ (i := 34) (N := some 157) (v := undef) (a' := ?_) (bs 35 2) rfl rfl (any_of HT_.out (by kernel_rfl)) (fun _ _ _ h => h) (Or.inr ⟨by rfl, rfl⟩) ?_ ?_
                               rotate_left
                               ·simp only [Act.put, List.setIfInBounds_toArray, List.set_cons_zero, List.set_cons_succ, i64_w, i32_w]
                                rfl
                               refine pure_ (i := 35) (N := some 158) (v := undef) (a' := ?_) (bs 36 1) rfl rfl (any_of HT_.out (by kernel_rfl)) (fun _ _ _ h => h) (Or.inr ⟨by rfl, rfl⟩) ?_ ?_
                               rotate_left
                               ·simp only [Act.put, List.setIfInBounds_toArray, List.set_cons_zero, List.set_cons_succ, i64_w, i32_w]
                                rfl
                               refine pure_ (i := 36) (N := some 159) (v := ?_) (a' := ?_) (bs 37 0) rfl rfl (any_of HT_.out (by kernel_rfl)) (fun _ _ _ h => h) (Or.inl ⟨by rfl, ?_⟩) ?_ ?_
                               rotate_left
                               ·intro w'
                                go_simp
                                with_reducible rfl
                               rotate_left
                               ·simp only [Act.put, List.setIfInBounds_toArray, List.set_cons_zero, List.set_cons_succ, i64_w, i32_w]
                                rfl
                               refine done_ (done_of HT_.out (by kernel_rfl)) ?_
                               try go_wp2
                               go_roundg k6
                               case measure => have := HJ7.out; have := HK2.out; have := HJ29.out; have := HK4.out; have := HK5.out; have := HK6.out; omega
                               case rel => exact ⟨(wrap64 (x19_6 + 1)), (by first | rfl | (simp; done) | (simp [*]; done)), H', ⟨by have := HJ7.out; have := HK2.out; have := HJ29.out; have := HK4.out; have := HK5.out; have := HK6.out; omega⟩, ⟨by (with_reducible repeat (first | apply Kd.N_alloc | apply Kd.N_drewN | apply Kd.N_drew)); exact HO_11.out⟩, ⟨by repeat (first | (with_reducible exact HR132_1.out) | (with_reducible refine Kd.C_alloc ?_ _) | (with_reducible refine Kd.C_drewN ?_ _) | (with_reducible refine Kd.C_drew ?_) | exact HR132_1.out)⟩, ⟨by repeat (first | (with_reducible first | exact HB.out | apply below_alloc | apply pw_below_drewN | apply below_drew1) | exact HB.out)⟩⟩
                             ·rw [if_neg c70] at H
                              exact absurd H (by simp)
                            ·rw [if_neg c69] at H
                             exact absurd H (by simp)
                           ·rw [if_neg c68] at H
                            have c68b0 : decide (t138 < t136) = false := decide_eq_false c68
                            clear c68
                            have H' := Aside0.mk H
                            clear H
                            try go_wp2
                            have n0_ := Aside0.mk (Kd.N_drew HO_11.out)
                            have n1_ := Aside0.mk (Kd.C_drew HR132_1.out)
                            have n2_ := Aside0.mk (below_drew1 HB.out)
                            clear HO_11
                            clear HR132_1
                            clear HB
                            have HO_11 := n0_
                            have HR132_1 := n1_
                            have HB := n2_
                            clear n0_ n1_ n2_
                            have p135 : 0 ≤ (x19_6 : Int) := of_decide_eq_true (by first | (with_reducible assumption) | assumption)
                            have q135 : x19_6 < (t107.length : Int) := of_decide_eq_true (by first | (with_reducible assumption) | assumption)
                            obtain ⟨ad135, A135_1, c135_1, e135, hx135_0, hx135_1, hl135_1, hi135_1⟩ := at_T36 (Kd.N_reads' HO_11.out).2.2 x19_6 p135 q135
                            obtain rfl : ad132 = ad135 := (by injection e135)
                            obtain ⟨ce135, hce135, hMe135, hcc135⟩ := Kd.N_get HO_11.out z36 x19_6 p135 (by first | exact q135 | exact of_decide_eq_true (by first | (with_reducible assumption) | assumption) | (have e_ := (Kd.N_reads' HO_11.out).1; omega))
                            obtain ⟨ua135_1, uc135_1, rfl, ul135_1, ge135_1⟩ := k36_openF hMe135
                            have hv135_1 := hcc135 1 _ rfl
                            rw [add_field _ _ 1 (by omega)] at hv135_1
                            replace hv135_1 := Option.some.inj (hv135_1.symm.trans hx135_1)
                            injection hv135_1 with hva_ hvn_ hvc_
                            rw [hva_] at ge135_1
                            rw [hvc_] at ul135_1
                            have HL135_1 := Aside0.mk (show Kd.V (Kd.int .i64) 3 _ w.heap.size _ _ ((rd_T36 t107 x19_6).f1) from Kd.V_mk ul135_1 ge135_1)
                            clear hva_ hvn_ hvc_ ge135_1 ul135_1
                            clear hcc135 hce135
                            have HR135_1 := Aside0.mk hi135_1
                            have HC135_1 := Aside0.mk hl135_1
                            clear hi135_1 hl135_1
                            replace p135 := eq_true p135
                            replace q135 := eq_true q135
                            have p137 : 0 ≤ (x18_5 : Int) := of_decide_eq_true (by first | (with_reducible assumption) | assumption)
                            have q137 : x18_5 < (t107.length : Int) := of_decide_eq_true (by first | (with_reducible assumption) | assumption)
                            obtain ⟨ad137, A137_1, c137_1, e137, hx137_0, hx137_1, hl137_1, hi137_1⟩ := at_T36 (Kd.N_reads' HO_11.out).2.2 x18_5 p137 q137
                            obtain rfl : ad132 = ad137 := (by injection e137)
                            obtain ⟨ce137, hce137, hMe137, hcc137⟩ := Kd.N_get HO_11.out z36 x18_5 p137 (by first | exact q137 | exact of_decide_eq_true (by first | (with_reducible assumption) | assumption) | (have e_ := (Kd.N_reads' HO_11.out).1; omega))
                            obtain ⟨ua137_1, uc137_1, rfl, ul137_1, ge137_1⟩ := k36_openF hMe137
                            have hv137_1 := hcc137 1 _ rfl
                            rw [add_field _ _ 1 (by omega)] at hv137_1
                            replace hv137_1 := Option.some.inj (hv137_1.symm.trans hx137_1)
                            injection hv137_1 with hva_ hvn_ hvc_
                            rw [hva_] at ge137_1
                            rw [hvc_] at ul137_1
                            have HL137_1 := Aside0.mk (show Kd.V (Kd.int .i64) 3 _ w.heap.size _ _ ((rd_T36 t107 x18_5).f1) from Kd.V_mk ul137_1 ge137_1)
                            clear hva_ hvn_ hvc_ ge137_1 ul137_1
                            clear hcc137 hce137
                            have HR137_1 := Aside0.mk hi137_1
                            have HC137_1 := Aside0.mk hl137_1
                            clear hi137_1 hl137_1
                            replace p137 := eq_true p137
                            replace q137 := eq_true q137
                            refine start_ (n := 37) (S := fun w' => w'.cell? (ad132.add ((x19_6).toNat * 2)) = some (.int .i64 ((rd_T36 t107 x19_6).f0)) ∧ w'.cell? ⟨(ad132.add ((x19_6).toNat * 2)).block, (ad132.add ((x19_6).toNat * 2)).off + 1, none⟩ = some (.slice A135_1 ((rd_T36 t107 x19_6).f1).length c135_1) ∧ w'.cell? (ad132.add ((x18_5).toNat * 2)) = some (.int .i64 ((rd_T36 t107 x18_5).f0)) ∧ w'.cell? ⟨(ad132.add ((x18_5).toNat * 2)).block, (ad132.add ((x18_5).toNat * 2)).off + 1, none⟩ = some (.slice A137_1 ((rd_T36 t107 x18_5).f1).length c137_1)) (ds := []) #[false, false, false, false, false, false, false, false, false, false, false, false, false, false, false, false, false, false, false, false, false, false, false, false, false, false, false, false, false, false, false, false, false, false, false, false, false] (by kernel_rfl) rfl rfl ⟨hx135_0, hx135_1, hx137_0, hx137_1⟩ (fun hHeld => ?_); refine with_tabW oublaw11_EvictDeep.tab24 oublaw11_EvictDeep.bits24 (fun HT_ HW_ => ?_)
                            generalize wr.drew = w78 at HO_11 HR132_1 HB HL135_1 HL137_1 HR135_1 HR137_1 hx135_0 hx135_1 hx137_0 hx137_1 hHeld ⊢
                            refine pure_ (i := 0) (N := some 123) (v := ?_) (a' := ?_) (bs 1 36) rfl rfl (any_of HT_.out (by kernel_rfl)) (fun _ _ _ h => h) (Or.inl ⟨by rfl, ?_⟩) ?_ ?_
                            rotate_left
                            ·intro w'
                             go_simp
                             with_reducible rfl
                            rotate_left
                            ·simp only [Act.put, List.setIfInBounds_toArray, List.set_cons_zero, List.set_cons_succ, i64_w, i32_w]
                             rfl
                            refine pure_ (i := 1) (N := some 124) (v := ?_) (a' := ?_) (bs 2 35) rfl rfl (any_of HT_.out (by kernel_rfl)) (fun _ _ _ h => h) (Or.inl ⟨by rfl, ?_⟩) ?_ ?_
                            rotate_left
                            ·intro w'
                             go_simp
                             with_reducible rfl
                            rotate_left
                            ·simp only [Act.put, List.setIfInBounds_toArray, List.set_cons_zero, List.set_cons_succ, i64_w, i32_w]
                             rfl
                            refine pure_ (i := 2) (N := some 125) (v := ?_) (a' := ?_) (bs 3 34) rfl rfl (any_of HT_.out (by kernel_rfl)) (fun _ _ _ h => h) (Or.inl ⟨by rfl, ?_⟩) ?_ ?_
                            rotate_left
                            ·intro w'
                             go_simp
                             with_reducible rfl
                            rotate_left
                            ·simp only [Act.put, List.setIfInBounds_toArray, List.set_cons_zero, List.set_cons_succ, i64_w, i32_w]
                             rfl
                            refine pure_ (i := 3) (N := some 126) (v := ?_) (a' := ?_) (bs 4 33) rfl rfl (any_of HT_.out (by kernel_rfl)) (fun _ _ _ h => h) (Or.inl ⟨by rfl, ?_⟩) ?_ ?_
                            rotate_left
                            ·intro w'
                             go_simp
                             with_reducible rfl
                            rotate_left
                            ·simp only [Act.put, List.setIfInBounds_toArray, List.set_cons_zero, List.set_cons_succ, i64_w, i32_w]
                             rfl
                            refine pure_ (i := 6) (N := some 129) (v := ?_) (a' := ?_) #[true, true, true, true, false, false, true, false, false, false, false, false, false, false, false, false, false, false, false, false, false, false, false, false, false, false, false, false, false, false, false, false, false, false, false, false, false] rfl rfl (any_of HT_.out (by kernel_rfl)) (fun _ _ _ h => h) (Or.inl ⟨by rfl, ?_⟩) ?_ ?_
                            rotate_left
                            ·intro w'
                             go_simp
                             with_reducible rfl
                            rotate_left
                            ·simp only [Act.put, List.setIfInBounds_toArray, List.set_cons_zero, List.set_cons_succ, i64_w, i32_w]
                             rfl
                            refine pure_ (i := 7) (N := some 130) (v := ?_) (a' := ?_) #[true, true, true, true, false, false, true, true, false, false, false, false, false, false, false, false, false, false, false, false, false, false, false, false, false, false, false, false, false, false, false, false, false, false, false, false, false] rfl rfl (any_of HT_.out (by kernel_rfl)) (fun _ _ _ h => h) (Or.inl ⟨by rfl, ?_⟩) ?_ ?_
                            rotate_left
                            ·intro w'
                             go_simp
                             with_reducible rfl
                            rotate_left
                            ·simp only [Act.put, List.setIfInBounds_toArray, List.set_cons_zero, List.set_cons_succ, i64_w, i32_w]
                             rfl
                            refine pure_ (i := 8) (N := some 131) (v := ?_) (a' := ?_) #[true, true, true, true, false, false, true, true, true, false, false, false, false, false, false, false, false, false, false, false, false, false, false, false, false, false, false, false, false, false, false, false, false, false, false, false, false] rfl rfl (any_of HT_.out (by kernel_rfl)) (fun _ _ _ h => h) (Or.inl ⟨by rfl, ?_⟩) ?_ ?_
                            rotate_left
                            ·intro w'
                             go_simp
                             with_reducible rfl
                            rotate_left
                            ·simp only [Act.put, List.setIfInBounds_toArray, List.set_cons_zero, List.set_cons_succ, i64_w, i32_w]
                             rfl
                            refine pure_ (i := 9) (N := some 132) (v := ?_) (a' := ?_) #[true, true, true, true, false, false, true, true, true, true, false, false, false, false, false, false, false, false, false, false, false, false, false, false, false, false, false, false, false, false, false, false, false, false, false, false, false] rfl rfl (any_of HT_.out (by kernel_rfl)) (fun _ _ _ h => h) (Or.inl ⟨by rfl, ?_⟩) ?_ ?_
                            rotate_left
                            ·intro w'
                             go_simp
                             with_reducible rfl
                            rotate_left
                            ·simp only [Act.put, List.setIfInBounds_toArray, List.set_cons_zero, List.set_cons_succ, i64_w, i32_w]
                             rfl
                            refine take_ (i := 4) (N := some 127) (v := ?_) (a' := ?_) #[true, true, true, true, true, false, true, true, true, true, false, false, false, false, false, false, false, false, false, false, false, false, false, false, false, false, false, false, false, false, false, false, false, false, false, false, false] rfl rfl (take_ofW HT_.out HW_.out (by kernel_rfl)) (fun _ _ _ h => h) (Or.inl ⟨by rfl, ?_⟩) hHeld ?_ ?_
                            rotate_left
                            ·rintro w' ⟨s0, s1, s2, s3⟩
                             go_simp
                             with_reducible rfl
                            rotate_left
                            ·simp only [Act.put, List.setIfInBounds_toArray, List.set_cons_zero, List.set_cons_succ, i64_w, i32_w]
                             rfl
                            refine take_ (i := 10) (N := some 133) (v := ?_) (a' := ?_) #[true, true, true, true, true, false, true, true, true, true, true, false, false, false, false, false, false, false, false, false, false, false, false, false, false, false, false, false, false, false, false, false, false, false, false, false, false] rfl rfl (take_ofW HT_.out HW_.out (by kernel_rfl)) (fun _ _ _ h => h) (Or.inl ⟨by rfl, ?_⟩) hHeld ?_ ?_
                            rotate_left
                            ·rintro w' ⟨s0, s1, s2, s3⟩
                             go_simp
                             with_reducible rfl
                            rotate_left
                            ·simp only [Act.put, List.setIfInBounds_toArray, List.set_cons_zero, List.set_cons_succ, i64_w, i32_w]
                             rfl
                            refine one_ (i := 5) (N := some 128) (bs 11 26) rfl rfl (one_of HT_.out (by kernel_rfl)) (by decide) (fun K hK => ?_)
                            refine goes_ Try.func19 (by kernel_rfl) rfl #[.int .i64 ((rd_T36 t107 x19_6).f0)] (by rfl) rfl rfl (by (try simp only [List.map_toArray, List.map_cons, List.map_nil]); first | done | rfl | (simp only [List.length_drop, List.length_take]; rfl)) ?_
                            with_reducible refine (tree_Level.calls k6 ((rd_T36 t107 x19_6).f0) t136 _ A64.out).mono ?_
                            rintro e w' ⟨rfl, ⟨nd, rfl⟩⟩
                            refine ⟨_, rfl, ?_⟩
                            refine hK.out _ _ ⟨hHeld.1, hHeld.2.1, hHeld.2.2.1, hHeld.2.2.2⟩ (fun hHeld => ?_)
                            clear hK K
                            refine norm_ (a' := ?_) ?_ ?_
                            rotate_left
                            ·show Act.put _ (some 128) _ = _
                             simp only [Act.put, List.setIfInBounds_toArray, List.set_cons_zero, List.set_cons_succ, i64_w, i32_w]
                             rfl
                            refine one_ (i := 11) (N := some 134) (bs 12 25) rfl rfl (one_of HT_.out (by kernel_rfl)) (by decide) (fun K hK => ?_)
                            refine goes_ Try.func19 (by kernel_rfl) rfl #[.int .i64 ((rd_T36 t107 x18_5).f0)] (by rfl) rfl rfl (by (try simp only [List.map_toArray, List.map_cons, List.map_nil]); first | done | rfl | (simp only [List.length_drop, List.length_take]; rfl)) ?_
                            with_reducible refine (tree_Level.calls k6 ((rd_T36 t107 x18_5).f0) t138 _ A67.out).mono ?_
                            rintro e w' ⟨rfl, ⟨nd, rfl⟩⟩
                            refine ⟨_, rfl, ?_⟩
                            refine hK.out _ _ ⟨hHeld.1, hHeld.2.1, hHeld.2.2.1, hHeld.2.2.2⟩ (fun hHeld => ?_)
                            clear hK K
                            refine norm_ (a' := ?_) ?_ ?_
                            rotate_left
                            ·show Act.put _ (some 134) _ = _
                             simp only [Act.put, List.setIfInBounds_toArray, List.set_cons_zero, List.set_cons_succ, i64_w, i32_w]
                             rfl
                            refine pure_ (i := 12) (N := some 135) (v := ?_) (a' := ?_) (bs 13 24) rfl rfl (any_of HT_.out (by kernel_rfl)) (fun _ _ _ h => h) (Or.inl ⟨by rfl, ?_⟩) ?_ ?_
                            rotate_left
                            ·intro w'
                             go_simp
                             with_reducible rfl
                            rotate_left
                            ·simp only [Act.put, List.setIfInBounds_toArray, List.set_cons_zero, List.set_cons_succ, i64_w, i32_w]
                             rfl
                            refine pure_ (i := 13) (N := some 136) (v := ?_) (a' := ?_) (bs 14 23) rfl rfl (any_of HT_.out (by kernel_rfl)) (fun _ _ _ h => h) (Or.inl ⟨by rfl, ?_⟩) ?_ ?_
                            rotate_left
                            ·intro w'
                             go_simp
                             with_reducible rfl
                            rotate_left
                            ·simp only [Act.put, List.setIfInBounds_toArray, List.set_cons_zero, List.set_cons_succ, i64_w, i32_w]
                             rfl
                            refine pure_ (i := 14) (N := some 137) (v := undef) (a' := ?_) (bs 15 22) rfl rfl (any_of HT_.out (by kernel_rfl)) (fun _ _ _ h => h) (Or.inr ⟨by rfl, rfl⟩) ?_ ?_
                            rotate_left
                            ·simp only [Act.put, List.setIfInBounds_toArray, List.set_cons_zero, List.set_cons_succ, i64_w, i32_w]
                             rfl
                            refine pure_ (i := 15) (N := some 138) (v := undef) (a' := ?_) (bs 16 21) rfl rfl (any_of HT_.out (by kernel_rfl)) (fun _ _ _ h => h) (Or.inr ⟨by rfl, rfl⟩) ?_ ?_
                            rotate_left
                            ·simp only [Act.put, List.setIfInBounds_toArray, List.set_cons_zero, List.set_cons_succ, i64_w, i32_w]
                             rfl
                            refine pure_ (i := 16) (N := some 139) (v := undef) (a' := ?_) (bs 17 20) rfl rfl (any_of HT_.out (by kernel_rfl)) (fun _ _ _ h => h) (Or.inr ⟨by rfl, rfl⟩) ?_ ?_
                            rotate_left
                            ·simp only [Act.put, List.setIfInBounds_toArray, List.set_cons_zero, List.set_cons_succ, i64_w, i32_w]
                             rfl
                            refine pure_ (i := 17) (N := some 140) (v := undef) (a' := ?_) (bs 18 19) rfl rfl (any_of HT_.out (by kernel_rfl)) (fun _ _ _ h => h) (Or.inr ⟨by rfl, rfl⟩) ?_ ?_
                            rotate_left
                            ·simp only [Act.put, List.setIfInBounds_toArray, List.set_cons_zero, List.set_cons_succ, i64_w, i32_w]
                             rfl
                            refine pure_ (i := 18) (N := some 141) (v := undef) (a' := ?_) (bs 19 18) rfl rfl (any_of HT_.out (by kernel_rfl)) (fun _ _ _ h => h) (Or.inr ⟨by rfl, rfl⟩) ?_ ?_
                            rotate_left
                            ·simp only [Act.put, List.setIfInBounds_toArray, List.set_cons_zero, List.set_cons_succ, i64_w, i32_w]
                             rfl
                            refine pure_ (i := 19) (N := some 142) (v := undef) (a' := ?_) (bs 20 17) rfl rfl (any_of HT_.out (by kernel_rfl)) (fun _ _ _ h => h) (Or.inr ⟨by rfl, rfl⟩) ?_ ?_
                            rotate_left
                            ·simp only [Act.put, List.setIfInBounds_toArray, List.set_cons_zero, List.set_cons_succ, i64_w, i32_w]
                             rfl
                            refine pure_ (i := 20) (N := some 143) (v := undef) (a' := ?_) (bs 21 16) rfl rfl (any_of HT_.out (by kernel_rfl)) (fun _ _ _ h => h) (Or.inr ⟨by rfl, rfl⟩) ?_ ?_
                            rotate_left
                            ·simp only [Act.put, List.setIfInBounds_toArray, List.set_cons_zero, List.set_cons_succ, i64_w, i32_w]
                             rfl
                            refine pure_ (i := 21) (N := some 144) (v := undef) (a' := ?_) (bs 22 15) rfl rfl (any_of HT_.out (by kernel_rfl)) (fun _ _ _ h => h) (Or.inr ⟨by rfl, rfl⟩) ?_ ?_
                            rotate_left
                            ·simp only [Act.put, List.setIfInBounds_toArray, List.set_cons_zero, List.set_cons_succ, i64_w, i32_w]
                             rfl
                            refine pure_ (i := 22) (N := some 145) (v := undef) (a' := ?_) (bs 23 14) rfl rfl (any_of HT_.out (by kernel_rfl)) (fun _ _ _ h => h) (Or.inr ⟨by rfl, rfl⟩) ?_ ?_
                            rotate_left
                            ·simp only [Act.put, List.setIfInBounds_toArray, List.set_cons_zero, List.set_cons_succ, i64_w, i32_w]
                             rfl
                            refine pure_ (i := 23) (N := some 146) (v := undef) (a' := ?_) (bs 24 13) rfl rfl (any_of HT_.out (by kernel_rfl)) (fun _ _ _ h => h) (Or.inr ⟨by rfl, rfl⟩) ?_ ?_
                            rotate_left
                            ·simp only [Act.put, List.setIfInBounds_toArray, List.set_cons_zero, List.set_cons_succ, i64_w, i32_w]
                             rfl
                            refine pure_ (i := 24) (N := some 147) (v := undef) (a' := ?_) (bs 25 12) rfl rfl (any_of HT_.out (by kernel_rfl)) (fun _ _ _ h => h) (Or.inr ⟨by rfl, rfl⟩) ?_ ?_
                            rotate_left
                            ·simp only [Act.put, List.setIfInBounds_toArray, List.set_cons_zero, List.set_cons_succ, i64_w, i32_w]
                             rfl
                            refine pure_ (i := 25) (N := some 148) (v := undef) (a' := ?_) (bs 26 11) rfl rfl (any_of HT_.out (by kernel_rfl)) (fun _ _ _ h => h) (Or.inr ⟨by rfl, rfl⟩) ?_ ?_
                            rotate_left
                            ·simp only [Act.put, List.setIfInBounds_toArray, List.set_cons_zero, List.set_cons_succ, i64_w, i32_w]
                             rfl
                            refine pure_ (i := 26) (N := some 149) (v := ?_) (a' := ?_) (bs 27 10) rfl rfl (any_of HT_.out (by kernel_rfl)) (fun _ _ _ h => h) (Or.inl ⟨by rfl, ?_⟩) ?_ ?_
                            rotate_left
                            ·intro w'
                             go_simp
                             with_reducible rfl
                            rotate_left
                            ·simp only [Act.put, List.setIfInBounds_toArray, List.set_cons_zero, List.set_cons_succ, i64_w, i32_w]
                             rfl
                            refine pure_ (i := 27) (N := some 150) (v := ?_) (a' := ?_) (bs 28 9) rfl rfl (any_of HT_.out (by kernel_rfl)) (fun _ _ _ h => h) (Or.inl ⟨by rfl, ?_⟩) ?_ ?_
                            rotate_left
                            ·intro w'
                             go_simp
                             with_reducible rfl
                            rotate_left
                            ·simp only [Act.put, List.setIfInBounds_toArray, List.set_cons_zero, List.set_cons_succ, i64_w, i32_w]
                             rfl
                            refine pure_ (i := 28) (N := some 151) (v := undef) (a' := ?_) (bs 29 8) rfl rfl (any_of HT_.out (by kernel_rfl)) (fun _ _ _ h => h) (Or.inr ⟨by rfl, rfl⟩) ?_ ?_
                            rotate_left
                            ·simp only [Act.put, List.setIfInBounds_toArray, List.set_cons_zero, List.set_cons_succ, i64_w, i32_w]
                             rfl
                            refine pure_ (i := 29) (N := some 152) (v := undef) (a' := ?_) (bs 30 7) rfl rfl (any_of HT_.out (by kernel_rfl)) (fun _ _ _ h => h) (Or.inr ⟨by rfl, rfl⟩) ?_ ?_
                            rotate_left
                            ·simp only [Act.put, List.setIfInBounds_toArray, List.set_cons_zero, List.set_cons_succ, i64_w, i32_w]
                             rfl
                            refine pure_ (i := 30) (N := some 153) (v := undef) (a' := ?_) (bs 31 6) rfl rfl (any_of HT_.out (by kernel_rfl)) (fun _ _ _ h => h) (Or.inr ⟨by rfl, rfl⟩) ?_ ?_
                            rotate_left
                            ·simp only [Act.put, List.setIfInBounds_toArray, List.set_cons_zero, List.set_cons_succ, i64_w, i32_w]
                             rfl
                            refine pure_ (i := 31) (N := some 154) (v := undef) (a' := ?_) (bs 32 5) rfl rfl (any_of HT_.out (by kernel_rfl)) (fun _ _ _ h => h) (Or.inr ⟨by rfl, rfl⟩) ?_ ?_
                            rotate_left
                            ·simp only [Act.put, List.setIfInBounds_toArray, List.set_cons_zero, List.set_cons_succ, i64_w, i32_w]
                             rfl
                            refine pure_ (i := 32) (N := some 155) (v := undef) (a' := ?_) (bs 33 4) rfl rfl (any_of HT_.out (by kernel_rfl)) (fun _ _ _ h => h) (Or.inr ⟨by rfl, rfl⟩) ?_ ?_
                            rotate_left
                            ·simp only [Act.put, List.setIfInBounds_toArray, List.set_cons_zero, List.set_cons_succ, i64_w, i32_w]
                             rfl
                            refine pure_ (i := 33) (N := some 156) (v := undef) (a' := ?_) (bs 34 3) rfl rfl (any_of HT_.out (by kernel_rfl)) (fun _ _ _ h => h) (Or.inr ⟨by rfl, rfl⟩) ?_ ?_
                            rotate_left
                            ·simp only [Act.put, List.setIfInBounds_toArray, List.set_cons_zero, List.set_cons_succ, i64_w, i32_w]
                             rfl
                            refine pure_ (i := 34) (N := some 157) (v := undef) (a' := ?_) (bs 35 2) rfl rfl (any_of HT_.out (by kernel_rfl)) (fun _ _ _ h => h) (Or.inr ⟨by rfl, rfl⟩) ?_ ?_
                            rotate_left
                            ·simp only [Act.put, List.setIfInBounds_toArray, List.set_cons_zero, List.set_cons_succ, i64_w, i32_w]
                             rfl
                            refine pure_ (i := 35) (N := some 158) (v := undef) (a' := ?_) (bs 36 1) rfl rfl (any_of HT_.out (by kernel_rfl)) (fun _ _ _ h => h) (Or.inr ⟨by rfl, rfl⟩) ?_ ?_
                            rotate_left
                            ·simp only [Act.put, List.setIfInBounds_toArray, List.set_cons_zero, List.set_cons_succ, i64_w, i32_w]
                             rfl
                            refine pure_ (i := 36) (N := some 159) (v := ?_) (a' := ?_) (bs 37 0) rfl rfl (any_of HT_.out (by kernel_rfl)) (fun _ _ _ h => h) (Or.inl ⟨by rfl, ?_⟩) ?_ ?_
                            rotate_left
                            ·intro w'
                             go_simp
                             with_reducible rfl
                            rotate_left
                            ·simp only [Act.put, List.setIfInBounds_toArray, List.set_cons_zero, List.set_cons_succ, i64_w, i32_w]
                             rfl
                            refine done_ (done_of HT_.out (by kernel_rfl)) ?_
                            try go_wp2
                            go_roundg k6
                            case measure => have := HJ7.out; have := HK2.out; have := HJ29.out; have := HK4.out; have := HK5.out; have := HK6.out; omega
                            case rel => exact ⟨(wrap64 (x19_6 + 1)), (by first | rfl | (simp; done) | (simp [*]; done)), H', ⟨by have := HJ7.out; have := HK2.out; have := HJ29.out; have := HK4.out; have := HK5.out; have := HK6.out; omega⟩, ⟨by (with_reducible repeat (first | apply Kd.N_alloc | apply Kd.N_drewN | apply Kd.N_drew)); exact HO_11.out⟩, ⟨by repeat (first | (with_reducible exact HR132_1.out) | (with_reducible refine Kd.C_alloc ?_ _) | (with_reducible refine Kd.C_drewN ?_ _) | (with_reducible refine Kd.C_drew ?_) | exact HR132_1.out)⟩, ⟨by repeat (first | (with_reducible first | exact HB.out | apply below_alloc | apply pw_below_drewN | apply below_drew1) | exact HB.out)⟩⟩
                          ·rw [if_neg c66] at H
                           exact absurd H (by simp)
                         ·rw [if_neg c65] at H
                          exact absurd H (by simp)
                        ·rw [if_neg c63] at H
                         exact absurd H (by simp)
                       ·rw [if_neg c62] at H
                        have c62b0 : decide (x19_6 < (t107.length : Int)) = false := decide_eq_false c62
                        clear c62
                        have H' := Aside0.mk H
                        clear H
                        go_wp2
                        go_roundg k6
                        case measure => have := HJ7.out; have := HK2.out; have := HJ29.out; have := HK4.out; have := HK5.out; have := HK6.out; omega
                        case rel => exact ⟨(wrap64 (x18_5 + 1)), (by first | rfl | (simp; done) | (simp [*]; done)), H', ⟨by have := HJ7.out; have := HK2.out; have := HJ29.out; have := HK4.out; have := HK5.out; have := HK6.out; omega⟩, ⟨by (with_reducible repeat (first | apply Kd.N_alloc | apply Kd.N_drewN | apply Kd.N_drew)); exact HO_11.out⟩, ⟨by repeat (first | (with_reducible first | exact HB.out | apply below_alloc | apply pw_below_drewN | apply below_drew1) | exact HB.out)⟩⟩
                    ·replace c59 := Bool.eq_false_iff.mpr c59
                     subst c59
                     have H1 : (oublaw11_EvictDeep.l2 k5 a0 a1 l3 t107 x17_4 (wrap64 (x18_5 + 1))) = some r := by rw [if_neg (show ¬ (false = true) by decide)] at H; exact H
                     clear H
                     have H := H1
                     clear H1
                     have H' := Aside0.mk H
                     clear H
                     obtain ⟨Ao79, co79, eo79⟩ := Kd.N_slice HO_11.out
                     subst eo79
                     try go_wp2
                     have n0_ := Aside0.mk (Kd.N_drew HO_11.out)
                     have n1_ := Aside0.mk (below_drew1 HB.out)
                     clear HO_11
                     clear HB
                     have HO_11 := n0_
                     have HB := n1_
                     clear n0_ n1_
                     have p132 : 0 ≤ (x18_5 : Int) := of_decide_eq_true (by first | (with_reducible assumption) | assumption)
                     have q132 : x18_5 < (t107.length : Int) := of_decide_eq_true (by first | (with_reducible assumption) | assumption)
                     obtain ⟨ad132, A132_1, c132_1, e132, hx132_0, hx132_1, hl132_1, hi132_1⟩ := at_T36 (Kd.N_reads' HO_11.out).2.2 x18_5 p132 q132
                     cases e132
                     obtain ⟨ce132, hce132, hMe132, hcc132⟩ := Kd.N_get HO_11.out z36 x18_5 p132 (by first | exact q132 | exact of_decide_eq_true (by first | (with_reducible assumption) | assumption) | (have e_ := (Kd.N_reads' HO_11.out).1; omega))
                     obtain ⟨ua132_1, uc132_1, rfl, ul132_1, ge132_1⟩ := k36_openF hMe132
                     have hv132_1 := hcc132 1 _ rfl
                     rw [add_field _ _ 1 (by omega)] at hv132_1
                     replace hv132_1 := Option.some.inj (hv132_1.symm.trans hx132_1)
                     injection hv132_1 with hva_ hvn_ hvc_
                     rw [hva_] at ge132_1
                     rw [hvc_] at ul132_1
                     have HL132_1 := Aside0.mk (show Kd.V (Kd.int .i64) 3 _ w.heap.size _ _ ((rd_T36 t107 x18_5).f1) from Kd.V_mk ul132_1 ge132_1)
                     clear hva_ hvn_ hvc_ ge132_1 ul132_1
                     clear hcc132 hce132
                     have HR132_1 := Aside0.mk hi132_1
                     have HC132_1 := Aside0.mk hl132_1
                     clear hi132_1 hl132_1
                     replace p132 := eq_true p132
                     replace q132 := eq_true q132
                     have p133 : 0 ≤ (x17_4 : Int) := of_decide_eq_true (by first | (with_reducible assumption) | assumption)
                     have q133 : x17_4 < (l3.length : Int) := of_decide_eq_true (by first | (with_reducible assumption) | assumption)
                     obtain ⟨ad133, e133, hx133_0, hx133_1⟩ := at_T39 HR3.out x17_4 p133 q133
                     have hw133_1 := hx133_1
                     have hw133_0 := hx133_0
                     cases e133
                     replace hx133_0 := (HB.out.cell (World.block_lt_of_cell? w _ hx133_0)).trans hx133_0
                     replace hx133_1 := (HB.out.cell (World.block_lt_of_cell? w _ hx133_1)).trans hx133_1
                     replace p133 := eq_true p133
                     replace q133 := eq_true q133
                     refine start_ (n := 12) (S := fun w' => w'.cell? (ad132.add ((x18_5).toNat * 2)) = some (.int .i64 ((rd_T36 t107 x18_5).f0)) ∧ w'.cell? ⟨(ad132.add ((x18_5).toNat * 2)).block, (ad132.add ((x18_5).toNat * 2)).off + 1, none⟩ = some (.slice A132_1 ((rd_T36 t107 x18_5).f1).length c132_1) ∧ w'.cell? (ad133.add ((x17_4).toNat * 2)) = some (.int .i64 ((rd_T39 l3 x17_4).f0)) ∧ w'.cell? ⟨(ad133.add ((x17_4).toNat * 2)).block, (ad133.add ((x17_4).toNat * 2)).off + 1, none⟩ = some (.int .i64 ((rd_T39 l3 x17_4).f1))) (ds := []) #[false, false, false, false, false, false, false, false, false, false, false, false] (by kernel_rfl) rfl rfl ⟨hx132_0, hx132_1, ((HB.out.cell (World.block_lt_of_cell? w _ hw133_0)).trans hw133_0), ((HB.out.cell (World.block_lt_of_cell? w _ hw133_1)).trans hw133_1)⟩ (fun hHeld => ?_); refine with_tabW oublaw11_EvictDeep.tab20 oublaw11_EvictDeep.bits20 (fun HT_ HW_ => ?_)
                     generalize wr.drew = w80 at HO_11 HB HL132_1 HR132_1 hx132_0 hx132_1 hx133_0 hx133_1 hHeld ⊢
                     refine pure_ (i := 0) (N := some 105) (v := ?_) (a' := ?_) (bs 1 11) rfl rfl (any_of HT_.out (by kernel_rfl)) (fun _ _ _ h => h) (Or.inl ⟨by rfl, ?_⟩) ?_ ?_
                     rotate_left
                     ·intro w'
                      go_simp
                      with_reducible rfl
                     rotate_left
                     ·simp only [Act.put, List.setIfInBounds_toArray, List.set_cons_zero, List.set_cons_succ, i64_w, i32_w]
                      rfl
                     refine pure_ (i := 1) (N := some 106) (v := ?_) (a' := ?_) (bs 2 10) rfl rfl (any_of HT_.out (by kernel_rfl)) (fun _ _ _ h => h) (Or.inl ⟨by rfl, ?_⟩) ?_ ?_
                     rotate_left
                     ·intro w'
                      go_simp
                      with_reducible rfl
                     rotate_left
                     ·simp only [Act.put, List.setIfInBounds_toArray, List.set_cons_zero, List.set_cons_succ, i64_w, i32_w]
                      rfl
                     refine pure_ (i := 2) (N := some 107) (v := ?_) (a' := ?_) (bs 3 9) rfl rfl (any_of HT_.out (by kernel_rfl)) (fun _ _ _ h => h) (Or.inl ⟨by rfl, ?_⟩) ?_ ?_
                     rotate_left
                     ·intro w'
                      go_simp
                      with_reducible rfl
                     rotate_left
                     ·simp only [Act.put, List.setIfInBounds_toArray, List.set_cons_zero, List.set_cons_succ, i64_w, i32_w]
                      rfl
                     refine pure_ (i := 3) (N := some 108) (v := ?_) (a' := ?_) (bs 4 8) rfl rfl (any_of HT_.out (by kernel_rfl)) (fun _ _ _ h => h) (Or.inl ⟨by rfl, ?_⟩) ?_ ?_
                     rotate_left
                     ·intro w'
                      go_simp
                      with_reducible rfl
                     rotate_left
                     ·simp only [Act.put, List.setIfInBounds_toArray, List.set_cons_zero, List.set_cons_succ, i64_w, i32_w]
                      rfl
                     refine pure_ (i := 5) (N := some 110) (v := ?_) (a' := ?_) #[true, true, true, true, false, true, false, false, false, false, false, false] rfl rfl (any_of HT_.out (by kernel_rfl)) (fun _ _ _ h => h) (Or.inl ⟨by rfl, ?_⟩) ?_ ?_
                     rotate_left
                     ·intro w'
                      go_simp
                      with_reducible rfl
                     rotate_left
                     ·simp only [Act.put, List.setIfInBounds_toArray, List.set_cons_zero, List.set_cons_succ, i64_w, i32_w]
                      rfl
                     refine pure_ (i := 6) (N := some 111) (v := ?_) (a' := ?_) #[true, true, true, true, false, true, true, false, false, false, false, false] rfl rfl (any_of HT_.out (by kernel_rfl)) (fun _ _ _ h => h) (Or.inl ⟨by rfl, ?_⟩) ?_ ?_
                     rotate_left
                     ·intro w'
                      go_simp
                      with_reducible rfl
                     rotate_left
                     ·simp only [Act.put, List.setIfInBounds_toArray, List.set_cons_zero, List.set_cons_succ, i64_w, i32_w]
                      rfl
                     refine pure_ (i := 7) (N := some 112) (v := ?_) (a' := ?_) #[true, true, true, true, false, true, true, true, false, false, false, false] rfl rfl (any_of HT_.out (by kernel_rfl)) (fun _ _ _ h => h) (Or.inl ⟨by rfl, ?_⟩) ?_ ?_
                     rotate_left
                     ·intro w'
                      go_simp
                      with_reducible rfl
                     rotate_left
                     ·simp only [Act.put, List.setIfInBounds_toArray, List.set_cons_zero, List.set_cons_succ, i64_w, i32_w]
                      rfl
                     refine pure_ (i := 8) (N := some 113) (v := ?_) (a' := ?_) #[true, true, true, true, false, true, true, true, true, false, false, false] rfl rfl (any_of HT_.out (by kernel_rfl)) (fun _ _ _ h => h) (Or.inl ⟨by rfl, ?_⟩) ?_ ?_
                     rotate_left
                     ·intro w'
                      go_simp
                      with_reducible rfl
                     rotate_left
                     ·simp only [Act.put, List.setIfInBounds_toArray, List.set_cons_zero, List.set_cons_succ, i64_w, i32_w]
                      rfl
                     refine take_ (i := 4) (N := some 109) (v := ?_) (a' := ?_) (bs 9 3) rfl rfl (take_ofW HT_.out HW_.out (by kernel_rfl)) (fun _ _ _ h => h) (Or.inl ⟨by rfl, ?_⟩) hHeld ?_ ?_
                     rotate_left
                     ·rintro w' ⟨s0, s1, s2, s3⟩
                      go_simp
                      with_reducible rfl
                     rotate_left
                     ·simp only [Act.put, List.setIfInBounds_toArray, List.set_cons_zero, List.set_cons_succ, i64_w, i32_w]
                      rfl
                     refine take_ (i := 9) (N := some 114) (v := ?_) (a' := ?_) (bs 10 2) rfl rfl (take_ofW HT_.out HW_.out (by kernel_rfl)) (fun _ _ _ h => h) (Or.inl ⟨by rfl, ?_⟩) hHeld ?_ ?_
                     rotate_left
                     ·rintro w' ⟨s0, s1, s2, s3⟩
                      go_simp
                      with_reducible rfl
                     rotate_left
                     ·simp only [Act.put, List.setIfInBounds_toArray, List.set_cons_zero, List.set_cons_succ, i64_w, i32_w]
                      rfl
                     refine one_ (i := 10) (N := some 115) (bs 11 1) rfl rfl (one_of HT_.out (by kernel_rfl)) (by decide) (fun K hK => ?_)
                     refine goes_ Try.func15 (by kernel_rfl) rfl #[.slice A132_1 ((rd_T36 t107 x18_5).f1).length c132_1, .int .i64 ((rd_T39 l3 x17_4).f0)] (by rfl) rfl rfl (by (try simp only [List.map_toArray, List.map_cons, List.map_nil]); first | done | rfl | (simp only [List.length_drop, List.length_take]; rfl)) ?_
                     with_reducible refine (oubref_Has.calls k5 _ _ ((rd_T36 t107 x18_5).f1) ((rd_T39 l3 x17_4).f0) false _ ?side1 ?side2 A58.out).mono ?_
                     (case side1 => repeat (first | exact (by repeat (first | (with_reducible exact HR132_1.out) | (with_reducible refine Kd.C_alloc ?_ _) | (with_reducible refine Kd.C_drewN ?_ _) | (with_reducible refine Kd.C_drew ?_) | exact HR132_1.out)) | (with_reducible refine Kd.C_alloc ?_ _) | (with_reducible refine Kd.C_drewN ?_ _) | (with_reducible refine Kd.C_drew ?_)))
                     (case side2 => exact HC132_1.out)
                     rintro e w' ⟨rfl, ⟨nd, rfl⟩⟩
                     refine ⟨_, rfl, ?_⟩
                     refine hK.out _ _ ⟨hHeld.1, hHeld.2.1, ((HB.out.cell (World.block_lt_of_cell? w _ hw133_0)).trans hw133_0), ((HB.out.cell (World.block_lt_of_cell? w _ hw133_1)).trans hw133_1)⟩ (fun hHeld => ?_)
                     clear hK K
                     refine norm_ (a' := ?_) ?_ ?_
                     rotate_left
                     ·show Act.put _ (some 115) _ = _
                      simp only [Act.put, List.setIfInBounds_toArray, List.set_cons_zero, List.set_cons_succ, i64_w, i32_w]
                      rfl
                     refine pure_ (i := 11) (N := some 116) (v := ?_) (a' := ?_) (bs 12 0) rfl rfl (any_of HT_.out (by kernel_rfl)) (fun _ _ _ h => h) (Or.inl ⟨by rfl, ?_⟩) ?_ ?_
                     rotate_left
                     ·intro w'
                      go_simp
                      with_reducible rfl
                     rotate_left
                     ·simp only [Act.put, List.setIfInBounds_toArray, List.set_cons_zero, List.set_cons_succ, i64_w, i32_w]
                      rfl
                     refine done_ (done_of HT_.out (by kernel_rfl)) ?_
                     try go_wp2
                     go_roundg k5
                     case measure => have := HJ7.out; have := HK2.out; have := HJ29.out; have := HK4.out; have := HK5.out; omega
                     case rel => exact ⟨(wrap64 (x18_5 + 1)), (by first | rfl | (simp; done) | (simp [*]; done)), H', ⟨by have := HJ7.out; have := HK2.out; have := HJ29.out; have := HK4.out; have := HK5.out; omega⟩, ⟨by (with_reducible repeat (first | apply Kd.N_alloc | apply Kd.N_drewN | apply Kd.N_drew)); exact HO_11.out⟩, ⟨by repeat (first | (with_reducible first | exact HB.out | apply below_alloc | apply pw_below_drewN | apply below_drew1) | exact HB.out)⟩⟩
                   ·rw [if_neg c57] at H
                    exact absurd H (by simp)
                  ·rw [if_neg c56] at H
                   exact absurd H (by simp)
                 ·rw [if_neg c55] at H
                  exact absurd H (by simp)
                ·rw [if_neg c54] at H
                 have c54b0 : decide (x18_5 < (t107.length : Int)) = false := decide_eq_false c54
                 clear c54
                 have H' := Aside0.mk H
                 clear H
                 obtain ⟨Ao81, co81, eo81⟩ := Kd.N_slice HO_11.out
                 subst eo81
                 go_wp2
                 go_roundg k5
                 case measure => have := HJ7.out; have := HK2.out; have := HJ29.out; have := HK4.out; have := HK5.out; omega
                 case rel => exact ⟨(wrap64 (x17_4 + 1)), (by first | rfl | (simp; done) | (simp [*]; done)), H', ⟨by have := HJ7.out; have := HK2.out; have := HJ29.out; have := HK4.out; have := HK5.out; omega⟩, ⟨by (with_reducible repeat (first | apply Kd.N_alloc | apply Kd.N_drewN | apply Kd.N_drew)); exact HO_11.out⟩, ⟨by repeat (first | (with_reducible first | exact HB.out | apply below_alloc | apply pw_below_drewN | apply below_drew1) | exact HB.out)⟩⟩
             ·rw [if_neg c53] at H
              have c53b0 : decide (x17_4 < (l3.length : Int)) = false := decide_eq_false c53
              clear c53
              replace H := Option.bind_eq_some_iff.mp H
              obtain ⟨t131, A820, H⟩ := H
              replace H : (some t131) = some r := H
              have A82 := Aside0.mk A820
              clear A820
              obtain rfl := Option.some.inj H
              go_wp2_with (first | ((with_reducible refine gate_callee (f := 7) rfl ?_); refine goesL_ (some 160) rfl rfl Try.func7 (by kernel_rfl) rfl #[] rfl (by (try simp only [List.map_toArray, List.map_cons, List.map_nil]); first | done | rfl | (simp only [List.length_drop, List.length_take]; rfl)) ?_; (with_reducible refine (oublaw11_first.calls  t131 _ A82.out).mono ?_); rintro e w83 ⟨rfl, hb⟩; refine ⟨_, rfl, ?_⟩; have n0_ := Aside0.mk (Kd.N_below (by (with_reducible repeat (first | apply Kd.N_alloc | apply Kd.N_drewN | apply Kd.N_drew)); exact HO_11.out) hb); have n1_ := Aside0.mk (below_step (by repeat (first | (with_reducible first | exact HB.out | apply below_alloc | apply pw_below_drewN | apply below_drew1) | exact HB.out)) hb); clear HO_11; clear HB; have HO_11 := n0_; have HB := n1_; clear n0_ n1_; (try clear hb); (try clear hb2); (try clear hk); (try clear hi)))
              go_ret
              exact ⟨by first | rfl | (simp [errW_none, errW_some] <;> rfl) | (simp [*, errW_none, errW_some] <;> rfl), by repeat (first | (with_reducible first | exact HB.out | apply below_alloc | apply pw_below_drewN | apply below_drew1) | exact HB.out)⟩
 ·replace c7 := Bool.eq_false_iff.mpr c7
  subst c7
  have H1 : (some false) = some r := by rw [if_neg (show ¬ (false = true) by decide)] at H; exact H
  clear H
  have H := H1
  clear H1
  exact absurd (Option.some.inj H) (by rw [HT.out]; decide)

end Go.Proofs.Ytfliapankgdeeaa.D
