-- Written by gprint.py (wip/tools), which runs the kit's printer with some contracts given. Lean checks it.
import Derived.Test.YtfliapankgdeeaaProg
import Derived.Below
import Derived.Deep.Draws
import Derived.Deep.AppendLies
import Derived.Maps.AppendAt
import Derived.OwnWalk
import Derived.Laws.BytesArg
import Derived.Laws.MakeOwn
import Derived.Laws.OwnMore
import Derived.Deep.OwnRows
import Derived.Tactics
import Derived.Lib.ConvBytes
import Derived.Laws.Slices
import Derived.WalkKit
import Derived.KernelRfl
import Derived.RowKit3
import Derived.Deep.LoopGhost
import Derived.Deep.QuietTactic
import Derived.BigQuiet
import Derived.WideLaws
import Derived.Deep.DeepCutAuto
import Derived.Deep.CutBlock
import Derived.Deep.RegionHeld3
import Derived.Laws.Rows
import Derived.Lib.AppendStr
import Derived.ArgAppend
import Derived.Laws.IdiomCopy
import Derived.OrdersHeld
import Derived.Laws.BitsLemmas
import Derived.RowKit
import Derived.Test.YtfliapankgdeeaaGSort
import Derived.Test.YtfliapankgdeeaaGx
import Derived.Test.YtfliapankgdeeaaEvM
import Derived.Test.YtfliapankgdeeaaEvQ
import Derived.Test.YtfliapankgdeeaaWWords
import Derived.Test.YtfliapankgdeeaaWLast
import Derived.Test.YtfliapankgdeeaaWTab
import Derived.Test.YtfliapankgdeeaaWFour
import Derived.Test.YtfliapankgdeeaaWQPut
import Derived.Test.YtfliapankgdeeaaWApart
import Derived.Test.YtfliapankgdeeaaWArr
import Derived.Test.YtfliapankgdeeaaWZeros
import Derived.Test.YtfliapankgdeeaaWFoot
import Derived.Test.YtfliapankgdeeaaWKept
import Derived.Test.YtfliapankgdeeaaWShare
import Derived.Test.YtfliapankgdeeaaWN
import Derived.Test.YtfliapankgdeeaaWFootNe
import Derived.Test.YtfliapankgdeeaaWAt
import Derived.Test.YtfliapankgdeeaaWEqStruct
import Derived.Test.YtfliapankgdeeaaWRepsOne
import Derived.Test.YtfliapankgdeeaaWInv
import Derived.Test.YtfliapankgdeeaaWInvWords
import Derived.Test.YtfliapankgdeeaaWGuard
import Derived.Test.YtfliapankgdeeaaWNEv
import Derived.Test.YtfliapankgdeeaaWMore
namespace Go.Proofs.Ytfliapankgdeeaa.O
open Go.RowKit Go.Proofs.Ytfliapankgdeeaa.G Go.Proofs.YtfliapankgdeeaaW.PrintWords Go.Proofs.YtfliapankgdeeaaW.PrintLast Go.Proofs.YtfliapankgdeeaaW.PrintMore
attribute [local go_sem] max2_int min2_int max_two min_two max_three min_three max_four min_four   -- for this text's walks alone
set_option linter.unusedVariables false
set_option linter.unusedSimpArgs false



def errW : Option Int → Value
  | none => .nilIface
  | some c => .iface 0 (.int .i64 c)
theorem errW_none : errW none = .nilIface := rfl
theorem errW_some (c : Int) : errW (some c) = .iface 0 (.int .i64 c) := rfl

-- the values' own types
def rd_L1 (xs : List (List Int)) (i : Int) : (List Int) := xs.getD i.toNat ([] : List Int)
theorem at_L1 {w : World} {A : Option Addr} {n : Nat} {xs : List (List Int)} (h : Kd.C (Kd.slice 3 (Kd.int .i64)) w A n xs) (i : Int) (h0 : 0 ≤ i) (h1 : i < n) : ∃ ad A0 c0, A = some ad ∧ w.cell? (ad.add i.toNat) = some (.slice A0 (rd_L1 xs i).length c0) ∧ (rd_L1 xs i).length ≤ c0 ∧ (Kd.int .i64).C w A0 (rd_L1 xs i).length (rd_L1 xs i) := by
  obtain ⟨ad, c, e, _, hK, hc0⟩ := Kd.C_get h ([] : List Int) i h0 h1
  have hc : ∀ j u, c[j]? = some u → w.cell? (ad.add (i.toNat * 1 + j)) = some u := hc0
  obtain ⟨A0, c0, rfl, l0, g0⟩ := hK
  exact ⟨ad, A0, c0, e, by have hq := hc 0 _ rfl; rwa [Nat.mul_one, Nat.add_zero] at hq, l0, g0⟩


end Go.Proofs.Ytfliapankgdeeaa.O
namespace Go.Proofs.Ytfliapankgdeeaa.O
open Go.RowKit Go.Proofs.Ytfliapankgdeeaa.G Go.Proofs.YtfliapankgdeeaaW.PrintWords Go.Proofs.YtfliapankgdeeaaW.PrintLast Go.Proofs.YtfliapankgdeeaaW.PrintMore
attribute [local go_sem] max2_int min2_int max_two min_two max_three min_three max_four min_four   -- for this text's walks alone
set_option linter.unusedVariables false
set_option linter.unusedSimpArgs false

/-! ### oublaw11_EvictOnce: function 3 -/
mutual
def oublaw11_EvictOnce.j0 : Nat → Int → Int → List Int → List (S39) → Bool → Option (Bool)
  | 0, _, _, _, _, _ => none
  | k + 1, x0, x1, x2, x3, x33 => if x33 = true then ((oublaw11_first.f).bind fun t106 => (some t106)) else ((evict_Plan.f x0 x1 x2 x3).bind fun bt107 => ((oublaw11_buckets.f k bt107.1).bind fun t113 => ((tree_Union.f k x0 x2).bind fun t116 => ((oubref_Ints.f k t113 t116).bind fun t119 => (if t119 = true then ((evict_Held.f k bt107.1).bind fun t120 => (oublaw11_EvictOnce.j1 k x0 x1 x3 bt107.1 bt107.2 ((wrap64 (t120 + (bt107.2.length : Int))) != (x3.length : Int)))) else (oublaw11_EvictOnce.j1 k x0 x1 x3 bt107.1 bt107.2 true))))))
def oublaw11_EvictOnce.j1 : Nat → Int → Int → List (S39) → List (S36) → List Int → Bool → Option (Bool)
  | 0, _, _, _, _, _, _ => none
  | k + 1, x0, x1, x3, x9, x10, x59 => if x59 = true then (some false) else (oublaw11_EvictOnce.l0 k x0 x1 x3 x9 x10 0)
def oublaw11_EvictOnce.l0 : Nat → Int → Int → List (S39) → List (S36) → List Int → Int → Option (Bool)
  | 0, _, _, _, _, _, _ => none
  | k + 1, x0, x1, x3, x9, x10, x11 => if x11 < (x3.length : Int) then (oublaw11_EvictOnce.l1 k x0 x1 x3 x9 x10 x11 0 0) else ((oublaw11_first.f).bind fun t121 => (some t121))
def oublaw11_EvictOnce.l1 : Nat → Int → Int → List (S39) → List (S36) → List Int → Int → Int → Int → Option (Bool)
  | 0, _, _, _, _, _, _, _, _ => none
  | k + 1, x0, x1, x3, x9, x10, x11, x12, x13 => if x13 < (x9.length : Int) then (if 0 ≤ x13 then (if (((rd_T36 x9 x13).f1).length : Int) > x1 then (some false) else (if 0 ≤ x11 then (if x11 < (x3.length : Int) then ((oubref_Has.f k ((rd_T36 x9 x13).f1) ((rd_T39 x3 x11).f0)).bind fun t125 => (if t125 = true then ((tree_On.f k x0 ((rd_T36 x9 x13).f0) ((rd_T39 x3 x11).f1)).bind fun t128 => (if t128 = true then (oublaw11_EvictOnce.l1 k x0 x1 x3 x9 x10 x11 (wrap64 (x12 + 1)) (wrap64 (x13 + 1))) else (some false))) else (oublaw11_EvictOnce.l1 k x0 x1 x3 x9 x10 x11 x12 (wrap64 (x13 + 1))))) else (none)) else (none))) else (none)) else (if 0 ≤ x11 then (if x11 < (x3.length : Int) then ((oubref_Has.f k x10 ((rd_T39 x3 x11).f0)).bind fun t130 => (if t130 = true then (oublaw11_EvictOnce.l2 k x0 x1 x3 x9 x10 x11 (wrap64 (x12 + 1)) 0) else (if x12 = 1 then (oublaw11_EvictOnce.l0 k x0 x1 x3 x9 x10 (wrap64 (x11 + 1))) else (some false)))) else (none)) else (none))
def oublaw11_EvictOnce.l2 : Nat → Int → Int → List (S39) → List (S36) → List Int → Int → Int → Int → Option (Bool)
  | 0, _, _, _, _, _, _, _, _ => none
  | k + 1, x0, x1, x3, x9, x10, x11, x12, x14 => if x14 < (x9.length : Int) then (if 0 ≤ x14 then (if 0 ≤ x11 then (if x11 < (x3.length : Int) then ((tree_On.f k x0 ((rd_T36 x9 x14).f0) ((rd_T39 x3 x11).f1)).bind fun t133 => (if t133 = true then (if (((rd_T36 x9 x14).f1).length : Int) < x1 then (some false) else (oublaw11_EvictOnce.l2 k x0 x1 x3 x9 x10 x11 x12 (wrap64 (x14 + 1)))) else (oublaw11_EvictOnce.l2 k x0 x1 x3 x9 x10 x11 x12 (wrap64 (x14 + 1))))) else (none)) else (none)) else (none)) else (if x12 = 1 then (oublaw11_EvictOnce.l0 k x0 x1 x3 x9 x10 (wrap64 (x11 + 1))) else (some false))
end
def oublaw11_EvictOnce.f (k : Nat) (a0 : Int) (a1 : Int) (l2 : List Int) (l3 : List (S39)) : Option (Bool) := (oublaw11_first.f).bind fun t101 => (if t101 = true then (if (l2.length : Int) > 60 then (oublaw11_EvictOnce.j0 k a0 a1 l2 l3 true) else (if (l3.length : Int) > 60 then (oublaw11_EvictOnce.j0 k a0 a1 l2 l3 true) else ((oublaw11_items.f k l3).bind fun t102 => ((oubref7_MayPlan.f k a0 a1 l2 t102).bind fun t105 => (oublaw11_EvictOnce.j0 k a0 a1 l2 l3 (!t105)))))) else (some false))
theorem oublaw11_EvictOnce.mono_l : ∀ k, (∀ y0 y1 y2 y3 y4, LeO (oublaw11_EvictOnce.j0 k y0 y1 y2 y3 y4) (oublaw11_EvictOnce.j0 (k + 1) y0 y1 y2 y3 y4)) ∧ (∀ y0 y1 y2 y3 y4 y5, LeO (oublaw11_EvictOnce.j1 k y0 y1 y2 y3 y4 y5) (oublaw11_EvictOnce.j1 (k + 1) y0 y1 y2 y3 y4 y5)) ∧ (∀ y0 y1 y2 y3 y4 y5, LeO (oublaw11_EvictOnce.l0 k y0 y1 y2 y3 y4 y5) (oublaw11_EvictOnce.l0 (k + 1) y0 y1 y2 y3 y4 y5)) ∧ (∀ y0 y1 y2 y3 y4 y5 y6 y7, LeO (oublaw11_EvictOnce.l1 k y0 y1 y2 y3 y4 y5 y6 y7) (oublaw11_EvictOnce.l1 (k + 1) y0 y1 y2 y3 y4 y5 y6 y7)) ∧ (∀ y0 y1 y2 y3 y4 y5 y6 y7, LeO (oublaw11_EvictOnce.l2 k y0 y1 y2 y3 y4 y5 y6 y7) (oublaw11_EvictOnce.l2 (k + 1) y0 y1 y2 y3 y4 y5 y6 y7))
  | 0 => ⟨fun _ _ _ _ _ r h => by simp [oublaw11_EvictOnce.j0] at h, fun _ _ _ _ _ _ r h => by simp [oublaw11_EvictOnce.j1] at h, fun _ _ _ _ _ _ r h => by simp [oublaw11_EvictOnce.l0] at h, fun _ _ _ _ _ _ _ _ r h => by simp [oublaw11_EvictOnce.l1] at h, fun _ _ _ _ _ _ _ _ r h => by simp [oublaw11_EvictOnce.l2] at h⟩
  | k + 1 => by
    obtain ⟨ih0, ih1, ih2, ih3, ih4⟩ := oublaw11_EvictOnce.mono_l k
    refine ⟨?_, ?_, ?_, ?_, ?_⟩
    · intro y0 y1 y2 y3 y4
      unfold oublaw11_EvictOnce.j0
      repeat' first
      | (with_reducible exact ih0 _ _ _ _ _)
      | (with_reducible exact ih1 _ _ _ _ _ _)
      | (with_reducible exact ih2 _ _ _ _ _ _)
      | (with_reducible exact ih3 _ _ _ _ _ _ _ _)
      | (with_reducible exact ih4 _ _ _ _ _ _ _ _)
      | (with_reducible exact evict_Held.mono _ _)
      | (with_reducible exact oublaw11_buckets.mono _ _)
      | (with_reducible exact oublaw11_items.mono _ _)
      | (with_reducible exact oubref7_MayPlan.mono _ _ _ _ _)
      | (with_reducible exact oubref_Has.mono _ _ _)
      | (with_reducible exact oubref_Ints.mono _ _ _)
      | (with_reducible exact tree_On.mono _ _ _ _)
      | (with_reducible exact tree_Union.mono _ _ _)
      | (with_reducible exact LeO.refl _)
      | (with_reducible exact LeO.none _)
      | (with_reducible refine LeO.ite ?_ ?_)
      | (with_reducible refine LeO.bind ?_ (fun _ => ?_))
      | exact ih0 _ _ _ _ _
      | exact ih1 _ _ _ _ _ _
      | exact ih2 _ _ _ _ _ _
      | exact ih3 _ _ _ _ _ _ _ _
      | exact ih4 _ _ _ _ _ _ _ _
      | exact evict_Held.mono _ _
      | exact oublaw11_buckets.mono _ _
      | exact oublaw11_items.mono _ _
      | exact oubref7_MayPlan.mono _ _ _ _ _
      | exact oubref_Has.mono _ _ _
      | exact oubref_Ints.mono _ _ _
      | exact tree_On.mono _ _ _ _
      | exact tree_Union.mono _ _ _
      | exact LeO.none _
      | refine LeO.ite ?_ ?_
      | refine LeO.bind ?_ (fun _ => ?_)
    · intro y0 y1 y2 y3 y4 y5
      unfold oublaw11_EvictOnce.j1
      repeat' first
      | (with_reducible exact ih0 _ _ _ _ _)
      | (with_reducible exact ih1 _ _ _ _ _ _)
      | (with_reducible exact ih2 _ _ _ _ _ _)
      | (with_reducible exact ih3 _ _ _ _ _ _ _ _)
      | (with_reducible exact ih4 _ _ _ _ _ _ _ _)
      | (with_reducible exact evict_Held.mono _ _)
      | (with_reducible exact oublaw11_buckets.mono _ _)
      | (with_reducible exact oublaw11_items.mono _ _)
      | (with_reducible exact oubref7_MayPlan.mono _ _ _ _ _)
      | (with_reducible exact oubref_Has.mono _ _ _)
      | (with_reducible exact oubref_Ints.mono _ _ _)
      | (with_reducible exact tree_On.mono _ _ _ _)
      | (with_reducible exact tree_Union.mono _ _ _)
      | (with_reducible exact LeO.refl _)
      | (with_reducible exact LeO.none _)
      | (with_reducible refine LeO.ite ?_ ?_)
      | (with_reducible refine LeO.bind ?_ (fun _ => ?_))
      | exact ih0 _ _ _ _ _
      | exact ih1 _ _ _ _ _ _
      | exact ih2 _ _ _ _ _ _
      | exact ih3 _ _ _ _ _ _ _ _
      | exact ih4 _ _ _ _ _ _ _ _
      | exact evict_Held.mono _ _
      | exact oublaw11_buckets.mono _ _
      | exact oublaw11_items.mono _ _
      | exact oubref7_MayPlan.mono _ _ _ _ _
      | exact oubref_Has.mono _ _ _
      | exact oubref_Ints.mono _ _ _
      | exact tree_On.mono _ _ _ _
      | exact tree_Union.mono _ _ _
      | exact LeO.none _
      | refine LeO.ite ?_ ?_
      | refine LeO.bind ?_ (fun _ => ?_)
    · intro y0 y1 y2 y3 y4 y5
      unfold oublaw11_EvictOnce.l0
      repeat' first
      | (with_reducible exact ih0 _ _ _ _ _)
      | (with_reducible exact ih1 _ _ _ _ _ _)
      | (with_reducible exact ih2 _ _ _ _ _ _)
      | (with_reducible exact ih3 _ _ _ _ _ _ _ _)
      | (with_reducible exact ih4 _ _ _ _ _ _ _ _)
      | (with_reducible exact evict_Held.mono _ _)
      | (with_reducible exact oublaw11_buckets.mono _ _)
      | (with_reducible exact oublaw11_items.mono _ _)
      | (with_reducible exact oubref7_MayPlan.mono _ _ _ _ _)
      | (with_reducible exact oubref_Has.mono _ _ _)
      | (with_reducible exact oubref_Ints.mono _ _ _)
      | (with_reducible exact tree_On.mono _ _ _ _)
      | (with_reducible exact tree_Union.mono _ _ _)
      | (with_reducible exact LeO.refl _)
      | (with_reducible exact LeO.none _)
      | (with_reducible refine LeO.ite ?_ ?_)
      | (with_reducible refine LeO.bind ?_ (fun _ => ?_))
      | exact ih0 _ _ _ _ _
      | exact ih1 _ _ _ _ _ _
      | exact ih2 _ _ _ _ _ _
      | exact ih3 _ _ _ _ _ _ _ _
      | exact ih4 _ _ _ _ _ _ _ _
      | exact evict_Held.mono _ _
      | exact oublaw11_buckets.mono _ _
      | exact oublaw11_items.mono _ _
      | exact oubref7_MayPlan.mono _ _ _ _ _
      | exact oubref_Has.mono _ _ _
      | exact oubref_Ints.mono _ _ _
      | exact tree_On.mono _ _ _ _
      | exact tree_Union.mono _ _ _
      | exact LeO.none _
      | refine LeO.ite ?_ ?_
      | refine LeO.bind ?_ (fun _ => ?_)
    · intro y0 y1 y2 y3 y4 y5 y6 y7
      unfold oublaw11_EvictOnce.l1
      repeat' first
      | (with_reducible exact ih0 _ _ _ _ _)
      | (with_reducible exact ih1 _ _ _ _ _ _)
      | (with_reducible exact ih2 _ _ _ _ _ _)
      | (with_reducible exact ih3 _ _ _ _ _ _ _ _)
      | (with_reducible exact ih4 _ _ _ _ _ _ _ _)
      | (with_reducible exact evict_Held.mono _ _)
      | (with_reducible exact oublaw11_buckets.mono _ _)
      | (with_reducible exact oublaw11_items.mono _ _)
      | (with_reducible exact oubref7_MayPlan.mono _ _ _ _ _)
      | (with_reducible exact oubref_Has.mono _ _ _)
      | (with_reducible exact oubref_Ints.mono _ _ _)
      | (with_reducible exact tree_On.mono _ _ _ _)
      | (with_reducible exact tree_Union.mono _ _ _)
      | (with_reducible exact LeO.refl _)
      | (with_reducible exact LeO.none _)
      | (with_reducible refine LeO.ite ?_ ?_)
      | (with_reducible refine LeO.bind ?_ (fun _ => ?_))
      | exact ih0 _ _ _ _ _
      | exact ih1 _ _ _ _ _ _
      | exact ih2 _ _ _ _ _ _
      | exact ih3 _ _ _ _ _ _ _ _
      | exact ih4 _ _ _ _ _ _ _ _
      | exact evict_Held.mono _ _
      | exact oublaw11_buckets.mono _ _
      | exact oublaw11_items.mono _ _
      | exact oubref7_MayPlan.mono _ _ _ _ _
      | exact oubref_Has.mono _ _ _
      | exact oubref_Ints.mono _ _ _
      | exact tree_On.mono _ _ _ _
      | exact tree_Union.mono _ _ _
      | exact LeO.none _
      | refine LeO.ite ?_ ?_
      | refine LeO.bind ?_ (fun _ => ?_)
    · intro y0 y1 y2 y3 y4 y5 y6 y7
      unfold oublaw11_EvictOnce.l2
      repeat' first
      | (with_reducible exact ih0 _ _ _ _ _)
      | (with_reducible exact ih1 _ _ _ _ _ _)
      | (with_reducible exact ih2 _ _ _ _ _ _)
      | (with_reducible exact ih3 _ _ _ _ _ _ _ _)
      | (with_reducible exact ih4 _ _ _ _ _ _ _ _)
      | (with_reducible exact evict_Held.mono _ _)
      | (with_reducible exact oublaw11_buckets.mono _ _)
      | (with_reducible exact oublaw11_items.mono _ _)
      | (with_reducible exact oubref7_MayPlan.mono _ _ _ _ _)
      | (with_reducible exact oubref_Has.mono _ _ _)
      | (with_reducible exact oubref_Ints.mono _ _ _)
      | (with_reducible exact tree_On.mono _ _ _ _)
      | (with_reducible exact tree_Union.mono _ _ _)
      | (with_reducible exact LeO.refl _)
      | (with_reducible exact LeO.none _)
      | (with_reducible refine LeO.ite ?_ ?_)
      | (with_reducible refine LeO.bind ?_ (fun _ => ?_))
      | exact ih0 _ _ _ _ _
      | exact ih1 _ _ _ _ _ _
      | exact ih2 _ _ _ _ _ _
      | exact ih3 _ _ _ _ _ _ _ _
      | exact ih4 _ _ _ _ _ _ _ _
      | exact evict_Held.mono _ _
      | exact oublaw11_buckets.mono _ _
      | exact oublaw11_items.mono _ _
      | exact oubref7_MayPlan.mono _ _ _ _ _
      | exact oubref_Has.mono _ _ _
      | exact oubref_Ints.mono _ _ _
      | exact tree_On.mono _ _ _ _
      | exact tree_Union.mono _ _ _
      | exact LeO.none _
      | refine LeO.ite ?_ ?_
      | refine LeO.bind ?_ (fun _ => ?_)
theorem oublaw11_EvictOnce.mono : ∀ a0 a1 a2 a3 k, LeO (oublaw11_EvictOnce.f k a0 a1 a2 a3) (oublaw11_EvictOnce.f (k + 1) a0 a1 a2 a3) := by
  intro a0 a1 a2 a3 k
  obtain ⟨ih0, ih1, ih2, ih3, ih4⟩ := oublaw11_EvictOnce.mono_l k
  unfold oublaw11_EvictOnce.f
  repeat' first
      | (with_reducible exact ih0 _ _ _ _ _)
      | (with_reducible exact ih1 _ _ _ _ _ _)
      | (with_reducible exact ih2 _ _ _ _ _ _)
      | (with_reducible exact ih3 _ _ _ _ _ _ _ _)
      | (with_reducible exact ih4 _ _ _ _ _ _ _ _)
      | (with_reducible exact evict_Held.mono _ _)
      | (with_reducible exact oublaw11_buckets.mono _ _)
      | (with_reducible exact oublaw11_items.mono _ _)
      | (with_reducible exact oubref7_MayPlan.mono _ _ _ _ _)
      | (with_reducible exact oubref_Has.mono _ _ _)
      | (with_reducible exact oubref_Ints.mono _ _ _)
      | (with_reducible exact tree_On.mono _ _ _ _)
      | (with_reducible exact tree_Union.mono _ _ _)
      | (with_reducible exact LeO.refl _)
      | (with_reducible exact LeO.none _)
      | (with_reducible refine LeO.ite ?_ ?_)
      | (with_reducible refine LeO.bind ?_ (fun _ => ?_))
      | exact ih0 _ _ _ _ _
      | exact ih1 _ _ _ _ _ _
      | exact ih2 _ _ _ _ _ _
      | exact ih3 _ _ _ _ _ _ _ _
      | exact ih4 _ _ _ _ _ _ _ _
      | exact evict_Held.mono _ _
      | exact oublaw11_buckets.mono _ _
      | exact oublaw11_items.mono _ _
      | exact oubref7_MayPlan.mono _ _ _ _ _
      | exact oubref_Has.mono _ _ _
      | exact oubref_Ints.mono _ _ _
      | exact tree_On.mono _ _ _ _
      | exact tree_Union.mono _ _ _
      | exact LeO.none _
      | refine LeO.ite ?_ ?_
      | refine LeO.bind ?_ (fun _ => ?_)
def oublaw11_EvictOnce.T17 : Bool × List (List Nat × List Nat) := (true, [([], []), ([], []), ([0, 1], [0, 1]), ([2], [2]), ([3], [3]), ([], []), ([], []), ([5, 6], [5, 6]), ([7], [7]), ([8], [8]), ([4, 9], [4, 9])])
def oublaw11_EvictOnce.B17 : List Nat := [0, 0, 3, 7, 15, 0, 0, 96, 224, 480, 1023]
theorem oublaw11_EvictOnce.tab17 : rtab .any (opsOf Try.f3 17) = oublaw11_EvictOnce.T17 := by kernel_rfl
theorem oublaw11_EvictOnce.bits17 : waitsOk oublaw11_EvictOnce.T17.2 oublaw11_EvictOnce.B17 = true := by kernel_rfl
def oublaw11_EvictOnce.T19 : Bool × List (List Nat × List Nat) := (true, [([], []), ([], []), ([], []), ([1, 2], [1, 2]), ([3], [3]), ([4], [4]), ([], []), ([], []), ([6, 7], [6, 7]), ([8], [8]), ([9], [9]), ([0, 5, 10], [0, 5, 10]), ([11], [11])])
def oublaw11_EvictOnce.B19 : List Nat := [0, 0, 0, 6, 14, 30, 0, 0, 192, 448, 960, 2047, 4095]
theorem oublaw11_EvictOnce.tab19 : rtab .any (opsOf Try.f3 19) = oublaw11_EvictOnce.T19 := by kernel_rfl
theorem oublaw11_EvictOnce.bits19 : waitsOk oublaw11_EvictOnce.T19.2 oublaw11_EvictOnce.B19 = true := by kernel_rfl
def oublaw11_EvictOnce.T26 : Bool × List (List Nat × List Nat) := (true, [([], []), ([], []), ([], []), ([1, 2], [1, 2]), ([3], [3]), ([4], [4]), ([], []), ([], []), ([6, 7], [6, 7]), ([8], [8]), ([9], [9]), ([0, 5, 10], [0, 5, 10]), ([11, 11], [11]), ([12], [12]), ([12], [12]), ([13, 14, 12], [12, 13, 14]), ([15, 12], [12, 15]), ([16, 12], [12, 16]), ([17, 12], [12, 17]), ([12], [12]), ([18, 19, 12], [12, 18, 19]), ([12, 20], [12, 20])])
def oublaw11_EvictOnce.B26 : List Nat := [0, 0, 0, 6, 14, 30, 0, 0, 192, 448, 960, 2047, 4095, 8191, 8191, 32767, 65535, 131071, 262143, 8191, 1048575, 2097151]
theorem oublaw11_EvictOnce.tab26 : rtab .any (opsOf Try.f3 26) = oublaw11_EvictOnce.T26 := by kernel_rfl
theorem oublaw11_EvictOnce.bits26 : waitsOk oublaw11_EvictOnce.T26.2 oublaw11_EvictOnce.B26 = true := by kernel_rfl
set_option maxHeartbeats 8000000 in
set_option maxRecDepth 100000 in
theorem oublaw11_EvictOnce.calls (k : Nat) (a0 : Int) (a1 : Int) (A2 : Option Addr) (c2 : Nat) (l2 : List Int) (A3 : Option Addr) (c3 : Nat) (l3 : List (S39)) (r : Bool) (w : World) (hr2 : Kd.C (Kd.int .i64) w A2 l2.length l2) (hc2 : l2.length ≤ c2) (hr3 : Kd.C k39 w A3 l3.length l3) (hc3 : l3.length ≤ c3) (HT : Aside0 (r = true)) (h : oublaw11_EvictOnce.f k a0 a1 l2 l3 = some r) :
    Calls Try.prog 3 #[.int .i64 a0, .int .i64 a1, .slice A2 l2.length c2, .slice A3 l3.length c3] w fun e w' => e = .returned (.bool r) ∧ Below w.heap.size w w' := by
  have HR2 := Aside0.mk hr2
  have HC2 := Aside0.mk hc2
  clear hr2 hc2
  have HR3 := Aside0.mk hr3
  have HC3 := Aside0.mk hc3
  clear hr3 hc3
  have HB := Aside0.mk (Below.refl w.heap.size w)
  have H : ((oublaw11_first.f).bind fun t101 => (if t101 = true then (if (l2.length : Int) > 60 then (oublaw11_EvictOnce.j0 k a0 a1 l2 l3 true) else (if (l3.length : Int) > 60 then (oublaw11_EvictOnce.j0 k a0 a1 l2 l3 true) else ((oublaw11_items.f k l3).bind fun t102 => ((oubref7_MayPlan.f k a0 a1 l2 t102).bind fun t105 => (oublaw11_EvictOnce.j0 k a0 a1 l2 l3 (!t105)))))) else (some false))) = some r := h
  clear h
  replace H := Option.bind_eq_some_iff.mp H
  obtain ⟨t101, A50, H⟩ := H
  replace H : (if t101 = true then (if (l2.length : Int) > 60 then (oublaw11_EvictOnce.j0 k a0 a1 l2 l3 true) else (if (l3.length : Int) > 60 then (oublaw11_EvictOnce.j0 k a0 a1 l2 l3 true) else ((oublaw11_items.f k l3).bind fun t102 => ((oubref7_MayPlan.f k a0 a1 l2 t102).bind fun t105 => (oublaw11_EvictOnce.j0 k a0 a1 l2 l3 (!t105)))))) else (some false)) = some r := H
  have A5 := Aside0.mk A50
  clear A50
  by_cases c6 : t101 = true
  · subst c6
    have H1 : (if (l2.length : Int) > 60 then (oublaw11_EvictOnce.j0 k a0 a1 l2 l3 true) else (if (l3.length : Int) > 60 then (oublaw11_EvictOnce.j0 k a0 a1 l2 l3 true) else ((oublaw11_items.f k l3).bind fun t102 => ((oubref7_MayPlan.f k a0 a1 l2 t102).bind fun t105 => (oublaw11_EvictOnce.j0 k a0 a1 l2 l3 (!t105)))))) = some r := by rw [if_pos rfl] at H; exact H
    clear H
    have H := H1
    clear H1
    have HC7 := Aside0.mk H
    clear H
    go_enter Try.func3, Try.ntmps3
    go_upto_region 3 with (first | ((with_reducible refine gate_callee (f := 7) rfl ?_); refine goesL_ (some 15) rfl rfl Try.func7 (by kernel_rfl) rfl #[] rfl (by (try simp only [List.map_toArray, List.map_cons, List.map_nil]); first | done | rfl | (simp only [List.length_drop, List.length_take]; rfl)) ?_; (with_reducible refine (oublaw11_first.calls  true _ A5.out).mono ?_); rintro e w8 ⟨rfl, hb⟩; refine ⟨_, rfl, ?_⟩; have n0_ := Aside0.mk (below_step (by repeat (first | (with_reducible first | exact HB.out | apply below_alloc | apply pw_below_drewN | apply below_drew1) | exact HB.out)) hb); clear HB; have HB := n0_; clear n0_; (try clear hb); (try clear hb2); (try clear hk); (try clear hi)))
    (try simp only [Act.put, List.setIfInBounds_toArray, List.set_cons_zero, List.set_cons_succ])
    go_cut [33] (fun v33 wc => ∃ (kq : Nat) (x33_6 : Bool), v33 = .bool x33_6 ∧ Aside0 (oublaw11_EvictOnce.j0 kq a0 a1 l2 l3 x33_6 = some r) ∧ Aside0 (kq ≤ k) ∧ Aside0 (Below w.heap.size w wc))
    case first =>
      have H := HC7.out
      clear HC7
      by_cases c9 : (l2.length : Int) > 60
      · rw [if_pos c9] at H
        have c9b0 : decide (60 < (l2.length : Int)) = true := decide_eq_true c9
        have c9b1 : decide (60 < l2.length) = true := decide_eq_true (by omega)
        clear c9
        (first | rw [c9b0] | (simp only [i64_w, i32_w]; rw [c9b0]) | skip)
        have H' := Aside0.mk H
        clear H
        go_wp2
        go_meet
        case rel => exact ⟨_, (true), (by first | rfl | (simp; done) | (simp [*]; done)), H', ⟨by first | omega | exact Nat.le_refl _⟩, ⟨by repeat (first | (with_reducible first | exact HB.out | apply below_alloc | apply pw_below_drewN | apply below_drew1) | exact HB.out)⟩⟩
      · rw [if_neg c9] at H
        have c9b0 : decide (60 < (l2.length : Int)) = false := decide_eq_false c9
        have c9b1 : decide (60 < l2.length) = false := decide_eq_false (by omega)
        clear c9
        (first | rw [c9b0] | (simp only [i64_w, i32_w]; rw [c9b0]) | skip)
        by_cases c10 : (l3.length : Int) > 60
        · rw [if_pos c10] at H
          have c10b0 : decide (60 < (l3.length : Int)) = true := decide_eq_true c10
          have c10b1 : decide (60 < l3.length) = true := decide_eq_true (by omega)
          clear c10
          have H' := Aside0.mk H
          clear H
          go_wp2
          go_meet
          case rel => exact ⟨_, (true), (by first | rfl | (simp; done) | (simp [*]; done)), H', ⟨by first | omega | exact Nat.le_refl _⟩, ⟨by repeat (first | (with_reducible first | exact HB.out | apply below_alloc | apply pw_below_drewN | apply below_drew1) | exact HB.out)⟩⟩
        · rw [if_neg c10] at H
          have c10b0 : decide (60 < (l3.length : Int)) = false := decide_eq_false c10
          have c10b1 : decide (60 < l3.length) = false := decide_eq_false (by omega)
          clear c10
          replace H := Option.bind_eq_some_iff.mp H
          obtain ⟨t102, A110, H⟩ := H
          replace H : ((oubref7_MayPlan.f k a0 a1 l2 t102).bind fun t105 => (oublaw11_EvictOnce.j0 k a0 a1 l2 l3 (!t105))) = some r := H
          have A11 := Aside0.mk A110
          clear A110
          replace H := Option.bind_eq_some_iff.mp H
          obtain ⟨t105, A120, H⟩ := H
          replace H : (oublaw11_EvictOnce.j0 k a0 a1 l2 l3 (!t105)) = some r := H
          have A12 := Aside0.mk A120
          clear A120
          have H' := Aside0.mk H
          clear H
          go_wp2_with (first | (go_at_call 9; (with_reducible refine (oublaw11_items.calls k _ _ l3 t102 _ ?side1 ?side2 A11.out).mono ?_); (case side1 => repeat (first | exact (Kd.C_below HR3.out HB.out) | (with_reducible refine Kd.C_alloc ?_ _) | (with_reducible refine Kd.C_drewN ?_ _) | (with_reducible refine Kd.C_drew ?_))); (case side2 => exact HC3.out); rintro e w13 ⟨v103, rfl, ho0, hb⟩; have n0_ := Aside0.mk (Kd.R_lower ho0 (below_size (by repeat (first | (with_reducible first | exact HB.out | apply below_alloc | apply pw_below_drewN | apply below_drew1) | exact HB.out)))); have n1_ := Aside0.mk (below_step (by repeat (first | (with_reducible first | exact HB.out | apply below_alloc | apply pw_below_drewN | apply below_drew1) | exact HB.out)) hb); clear HB; have HO104 := n0_; have HB := n1_; clear n0_ n1_; (try clear hb); (try clear hb2); (try clear hk); (try clear hi); (try clear ho0); obtain ⟨Ao14, co14, eo14⟩ := Kd.R_slice HO104.out; subst eo14) | (go_at_call 8; (with_reducible refine (oubref7_MayPlan.calls k a0 a1 _ _ l2 _ _ t102 t105 _ ?side1 ?side2 ?side3 ?side4 A12.out).mono ?_); (case side1 => repeat (first | exact (Kd.C_below HR2.out HB.out) | (with_reducible refine Kd.C_alloc ?_ _) | (with_reducible refine Kd.C_drewN ?_ _) | (with_reducible refine Kd.C_drew ?_))); (case side2 => exact HC2.out); (case side3 => repeat (first | exact (Kd.R_reads' HO104.out).2.2 | (with_reducible refine Kd.C_alloc ?_ _) | (with_reducible refine Kd.C_drewN ?_ _) | (with_reducible refine Kd.C_drew ?_))); (case side4 => exact (Kd.R_reads' HO104.out).2.1); rintro e w' ⟨rfl, ⟨nd, rfl⟩⟩))
          go_meet
          case rel => exact ⟨_, (!t105), (by first | rfl | (simp; done) | (simp [*]; done)), H', ⟨by first | omega | exact Nat.le_refl _⟩, ⟨by repeat (first | (with_reducible first | exact HB.out | apply below_alloc | apply pw_below_drewN | apply below_drew1) | exact HB.out)⟩⟩
    case rest =>
      clear HC7
      try clear c1
      try clear c2
      try clear p2
      try clear c3
      try clear c6
      try clear c7
      try clear c9
      try clear c9b0
      try clear c9b1
      try clear c10
      try clear c10b0
      try clear c10b1
      obtain ⟨kq, x33_6, rfl, HA, HJ6, HB⟩ := hcut
      cases kq with
      | zero => exact absurd HA.out (by simp [oublaw11_EvictOnce.j0])
      | succ kj6 =>
        have H := HA.out
        clear HA
        simp only [oublaw11_EvictOnce.j0] at H
        by_cases c15 : x33_6 = true
        · subst c15
          have H1 : ((oublaw11_first.f).bind fun t106 => (some t106)) = some r := by rw [if_pos rfl] at H; exact H
          clear H
          have H := H1
          clear H1
          replace H := Option.bind_eq_some_iff.mp H
          obtain ⟨t106, A160, H⟩ := H
          replace H : (some t106) = some r := H
          have A16 := Aside0.mk A160
          clear A160
          obtain rfl := Option.some.inj H
          go_wp2_with (first | ((with_reducible refine gate_callee (f := 7) rfl ?_); refine goesL_ (some 34) rfl rfl Try.func7 (by kernel_rfl) rfl #[] rfl (by (try simp only [List.map_toArray, List.map_cons, List.map_nil]); first | done | rfl | (simp only [List.length_drop, List.length_take]; rfl)) ?_; (with_reducible refine (oublaw11_first.calls  t106 _ A16.out).mono ?_); rintro e w17 ⟨rfl, hb⟩; refine ⟨_, rfl, ?_⟩; have n0_ := Aside0.mk (below_step (by repeat (first | (with_reducible first | exact HB.out | apply below_alloc | apply pw_below_drewN | apply below_drew1) | exact HB.out)) hb); clear HB; have HB := n0_; clear n0_; (try clear hb); (try clear hb2); (try clear hk); (try clear hi)))
          go_ret
          exact ⟨by first | rfl | (simp [errW_none, errW_some] <;> rfl) | (simp [*, errW_none, errW_some] <;> rfl), by repeat (first | (with_reducible first | exact HB.out | apply below_alloc | apply pw_below_drewN | apply below_drew1) | exact HB.out)⟩
        · replace c15 := Bool.eq_false_iff.mpr c15
          subst c15
          have H1 : ((evict_Plan.f a0 a1 l2 l3).bind fun bt107 => ((oublaw11_buckets.f kj6 bt107.1).bind fun t113 => ((tree_Union.f kj6 a0 l2).bind fun t116 => ((oubref_Ints.f kj6 t113 t116).bind fun t119 => (if t119 = true then ((evict_Held.f kj6 bt107.1).bind fun t120 => (oublaw11_EvictOnce.j1 kj6 a0 a1 l3 bt107.1 bt107.2 ((wrap64 (t120 + (bt107.2.length : Int))) != (l3.length : Int)))) else (oublaw11_EvictOnce.j1 kj6 a0 a1 l3 bt107.1 bt107.2 true)))))) = some r := by rw [if_neg (show ¬ (false = true) by decide)] at H; exact H
          clear H
          have H := H1
          clear H1
          replace H := Option.bind_eq_some_iff.mp H
          obtain ⟨⟨t107, t108⟩, A180, H⟩ := H
          replace H : ((oublaw11_buckets.f kj6 t107).bind fun t113 => ((tree_Union.f kj6 a0 l2).bind fun t116 => ((oubref_Ints.f kj6 t113 t116).bind fun t119 => (if t119 = true then ((evict_Held.f kj6 t107).bind fun t120 => (oublaw11_EvictOnce.j1 kj6 a0 a1 l3 t107 t108 ((wrap64 (t120 + (t108.length : Int))) != (l3.length : Int)))) else (oublaw11_EvictOnce.j1 kj6 a0 a1 l3 t107 t108 true))))) = some r := H
          have A18 := Aside0.mk A180
          clear A180
          have HC19 := Aside0.mk H
          clear H
          go_upto_region 6 with (first | ((with_reducible refine gate_callee (f := 10) rfl ?_); refine goesL_ (some 40) rfl rfl Try.func10 (by kernel_rfl) rfl #[.int .i64 a0, .int .i64 a1, .slice A2 l2.length c2, .slice A3 l3.length c3] rfl (by (try simp only [List.map_toArray, List.map_cons, List.map_nil]); first | done | rfl | (simp only [List.length_drop, List.length_take]; rfl)) ?_; (with_reducible refine (evict_Plan.calls a0 a1 _ _ l2 _ _ l3 t107 t108 _ ?side1 ?side2 ?side3 ?side4 A18.out).mono ?_); (case side1 => repeat (first | exact (Kd.C_below HR2.out HB.out) | (with_reducible refine Kd.C_alloc ?_ _) | (with_reducible refine Kd.C_drewN ?_ _) | (with_reducible refine Kd.C_drew ?_))); (case side2 => exact HC2.out); (case side3 => repeat (first | exact (Kd.C_below HR3.out HB.out) | (with_reducible refine Kd.C_alloc ?_ _) | (with_reducible refine Kd.C_drewN ?_ _) | (with_reducible refine Kd.C_drew ?_))); (case side4 => exact HC3.out); rintro e w20 ⟨v109, v111, rfl, ho0, ho1, hb⟩; refine ⟨_, rfl, ?_⟩; have n0_ := Aside0.mk (Kd.S_lower ho0 (below_size (by repeat (first | (with_reducible first | exact HB.out | apply below_alloc | apply pw_below_drewN | apply below_drew1) | exact HB.out)))); have n1_ := Aside0.mk (Kd.R_lower ho1 (below_size (by repeat (first | (with_reducible first | exact HB.out | apply below_alloc | apply pw_below_drewN | apply below_drew1) | exact HB.out)))); have n2_ := Aside0.mk (below_step (by repeat (first | (with_reducible first | exact HB.out | apply below_alloc | apply pw_below_drewN | apply below_drew1) | exact HB.out)) hb); clear HB; have HO110 := n0_; have HO112 := n1_; have HB := n2_; clear n0_ n1_ n2_; (try clear hb); (try clear hb2); (try clear hk); (try clear hi); (try clear ho0); (try clear ho1)))
          (try simp only [Act.put, List.setIfInBounds_toArray, List.set_cons_zero, List.set_cons_succ])
          go_cut [59] (fun v59 wc => ∃ (kq : Nat) (x59_18 : Bool), v59 = .bool x59_18 ∧ Aside0 (oublaw11_EvictOnce.j1 kq a0 a1 l3 t107 t108 x59_18 = some r) ∧ Aside0 (kq ≤ kj6) ∧ Aside0 (Kd.S k36 36 wc w.heap.size (fun k_ => some k_ ≠ (v111 : Value).ownBlock) v109 t107) ∧ Aside0 (Kd.R (Kd.int .i64) 3 wc w.heap.size (fun _ => True) v111 t108) ∧ Aside0 (Below w.heap.size w wc))
          case first =>
            have H := HC19.out
            clear HC19
            replace H := Option.bind_eq_some_iff.mp H
            obtain ⟨t113, A210, H⟩ := H
            replace H : ((tree_Union.f kj6 a0 l2).bind fun t116 => ((oubref_Ints.f kj6 t113 t116).bind fun t119 => (if t119 = true then ((evict_Held.f kj6 t107).bind fun t120 => (oublaw11_EvictOnce.j1 kj6 a0 a1 l3 t107 t108 ((wrap64 (t120 + (t108.length : Int))) != (l3.length : Int)))) else (oublaw11_EvictOnce.j1 kj6 a0 a1 l3 t107 t108 true)))) = some r := H
            have A21 := Aside0.mk A210
            clear A210
            replace H := Option.bind_eq_some_iff.mp H
            obtain ⟨t116, A220, H⟩ := H
            replace H : ((oubref_Ints.f kj6 t113 t116).bind fun t119 => (if t119 = true then ((evict_Held.f kj6 t107).bind fun t120 => (oublaw11_EvictOnce.j1 kj6 a0 a1 l3 t107 t108 ((wrap64 (t120 + (t108.length : Int))) != (l3.length : Int)))) else (oublaw11_EvictOnce.j1 kj6 a0 a1 l3 t107 t108 true))) = some r := H
            have A22 := Aside0.mk A220
            clear A220
            replace H := Option.bind_eq_some_iff.mp H
            obtain ⟨t119, A230, H⟩ := H
            replace H : (if t119 = true then ((evict_Held.f kj6 t107).bind fun t120 => (oublaw11_EvictOnce.j1 kj6 a0 a1 l3 t107 t108 ((wrap64 (t120 + (t108.length : Int))) != (l3.length : Int)))) else (oublaw11_EvictOnce.j1 kj6 a0 a1 l3 t107 t108 true)) = some r := H
            have A23 := Aside0.mk A230
            clear A230
            by_cases c24 : t119 = true
            · subst c24
              have H1 : ((evict_Held.f kj6 t107).bind fun t120 => (oublaw11_EvictOnce.j1 kj6 a0 a1 l3 t107 t108 ((wrap64 (t120 + (t108.length : Int))) != (l3.length : Int)))) = some r := by rw [if_pos rfl] at H; exact H
              clear H
              have H := H1
              clear H1
              replace H := Option.bind_eq_some_iff.mp H
              obtain ⟨t120, A250, H⟩ := H
              replace H : (oublaw11_EvictOnce.j1 kj6 a0 a1 l3 t107 t108 ((wrap64 (t120 + (t108.length : Int))) != (l3.length : Int))) = some r := H
              have A25 := Aside0.mk A250
              clear A250
              have H' := Aside0.mk H
              clear H
              obtain ⟨Ao26, co26, eo26⟩ := Kd.S_slice HO110.out
              subst eo26
              go_wp2_with (first | ((with_reducible refine gate_callee (f := 12) rfl ?_); refine goesL_ (some 44) rfl rfl Try.func12 (by kernel_rfl) rfl #[.slice Ao26 t107.length co26] rfl (by (try simp only [List.map_toArray, List.map_cons, List.map_nil]); first | done | rfl | (simp only [List.length_drop, List.length_take]; rfl)) ?_; (with_reducible refine (oublaw11_buckets.calls kj6 _ _ t107 t113 _ ?side1 ?side2 A21.out).mono ?_); (case side1 => repeat (first | exact (Kd.S_reads' HO110.out).2.2 | (with_reducible refine Kd.C_alloc ?_ _) | (with_reducible refine Kd.C_drewN ?_ _) | (with_reducible refine Kd.C_drew ?_))); (case side2 => exact (Kd.S_reads' HO110.out).2.1); rintro e w27 ⟨v114, rfl, ho0, hb⟩; refine ⟨_, rfl, ?_⟩; have n0_ := Aside0.mk (Kd.S_elder' (by (with_reducible repeat (first | apply Kd.S_alloc | apply Kd.S_drewN | apply Kd.S_drew)); exact HO110.out) (Kd.R_base ho0) hb); have n1_ := Aside0.mk (Kd.R_elder' (by (with_reducible repeat (first | apply Kd.R_alloc | apply Kd.R_drewN | apply Kd.R_drew)); exact HO112.out) (Kd.R_base ho0) hb); have n2_ := Aside0.mk (Kd.R_lower (Kd.R_new' ho0 (Kd.R_lt (by (with_reducible repeat (first | apply Kd.R_alloc | apply Kd.R_drewN | apply Kd.R_drew)); exact HO112.out))) (below_size (by repeat (first | (with_reducible first | exact HB.out | apply below_alloc | apply pw_below_drewN | apply below_drew1) | exact HB.out)))); have n3_ := Aside0.mk (below_step (by repeat (first | (with_reducible first | exact HB.out | apply below_alloc | apply pw_below_drewN | apply below_drew1) | exact HB.out)) hb); clear HO110; clear HO112; clear HB; have HO110 := n0_; have HO112 := n1_; have HO115 := n2_; have HB := n3_; clear n0_ n1_ n2_ n3_; (try clear hb); (try clear hb2); (try clear hk); (try clear hi); (try clear ho0)) | ((with_reducible refine gate_callee (f := 13) rfl ?_); refine goesL_ (some 47) rfl rfl Try.func13 (by kernel_rfl) rfl #[.int .i64 a0, .slice A2 l2.length c2] rfl (by (try simp only [List.map_toArray, List.map_cons, List.map_nil]); first | done | rfl | (simp only [List.length_drop, List.length_take]; rfl)) ?_; (with_reducible refine (tree_Union.calls kj6 a0 _ _ l2 t116 _ ?side1 ?side2 A22.out).mono ?_); (case side1 => repeat (first | exact (Kd.C_below HR2.out HB.out) | (with_reducible refine Kd.C_alloc ?_ _) | (with_reducible refine Kd.C_drewN ?_ _) | (with_reducible refine Kd.C_drew ?_))); (case side2 => exact HC2.out); rintro e w28 ⟨v117, rfl, ho0, hb⟩; refine ⟨_, rfl, ?_⟩; have n0_ := Aside0.mk (Kd.S_elder' (by (with_reducible repeat (first | apply Kd.S_alloc | apply Kd.S_drewN | apply Kd.S_drew)); exact HO110.out) (Kd.R_base ho0) hb); have n1_ := Aside0.mk (Kd.R_elder' (by (with_reducible repeat (first | apply Kd.R_alloc | apply Kd.R_drewN | apply Kd.R_drew)); exact HO112.out) (Kd.R_base ho0) hb); have n2_ := Aside0.mk (Kd.R_elder' (by (with_reducible repeat (first | apply Kd.R_alloc | apply Kd.R_drewN | apply Kd.R_drew)); exact HO115.out) (Kd.R_base ho0) hb); have n3_ := Aside0.mk (Kd.R_lower (Kd.R_new' (Kd.R_new' ho0 (Kd.R_lt (by (with_reducible repeat (first | apply Kd.R_alloc | apply Kd.R_drewN | apply Kd.R_drew)); exact HO112.out))) (Kd.R_lt (by (with_reducible repeat (first | apply Kd.R_alloc | apply Kd.R_drewN | apply Kd.R_drew)); exact HO115.out))) (below_size (by repeat (first | (with_reducible first | exact HB.out | apply below_alloc | apply pw_below_drewN | apply below_drew1) | exact HB.out)))); have n4_ := Aside0.mk (below_step (by repeat (first | (with_reducible first | exact HB.out | apply below_alloc | apply pw_below_drewN | apply below_drew1) | exact HB.out)) hb); clear HO110; clear HO112; clear HO115; clear HB; have HO110 := n0_; have HO112 := n1_; have HO115 := n2_; have HO118 := n3_; have HB := n4_; clear n0_ n1_ n2_ n3_ n4_; (try clear hb); (try clear hb2); (try clear hk); (try clear hi); (try clear ho0); obtain ⟨Ao29, co29, eo29⟩ := Kd.R_slice HO115.out; subst eo29; obtain ⟨Ao30, co30, eo30⟩ := Kd.R_slice HO118.out; subst eo30) | ((with_reducible refine gate_callee (f := 11) rfl ?_); refine goesL_ (some 48) rfl rfl Try.func11 (by kernel_rfl) rfl #[.slice Ao29 t113.length co29, .slice Ao30 t116.length co30] rfl (by (try simp only [List.map_toArray, List.map_cons, List.map_nil]); first | done | rfl | (simp only [List.length_drop, List.length_take]; rfl)) ?_; (with_reducible refine (oubref_Ints.calls kj6 _ _ t113 _ _ t116 true _ ?side1 ?side2 ?side3 ?side4 A23.out).mono ?_); (case side1 => repeat (first | exact (Kd.R_reads' HO115.out).2.2 | (with_reducible refine Kd.C_alloc ?_ _) | (with_reducible refine Kd.C_drewN ?_ _) | (with_reducible refine Kd.C_drew ?_))); (case side2 => exact (Kd.R_reads' HO115.out).2.1); (case side3 => repeat (first | exact (Kd.R_reads' HO118.out).2.2 | (with_reducible refine Kd.C_alloc ?_ _) | (with_reducible refine Kd.C_drewN ?_ _) | (with_reducible refine Kd.C_drew ?_))); (case side4 => exact (Kd.R_reads' HO118.out).2.1); rintro e w' ⟨rfl, ⟨nd, rfl⟩⟩; refine ⟨_, rfl, ?_⟩) | (go_at_call 14; (with_reducible refine (evict_Held.calls kj6 _ _ t107 t120 _ ?side1 ?side2 A25.out).mono ?_); (case side1 => repeat (first | exact (Kd.S_reads' HO110.out).2.2 | (with_reducible refine Kd.C_alloc ?_ _) | (with_reducible refine Kd.C_drewN ?_ _) | (with_reducible refine Kd.C_drew ?_))); (case side2 => exact (Kd.S_reads' HO110.out).2.1); rintro e w31 ⟨rfl, hb⟩; have n0_ := Aside0.mk (Kd.S_below (by (with_reducible repeat (first | apply Kd.S_alloc | apply Kd.S_drewN | apply Kd.S_drew)); exact HO110.out) hb); have n1_ := Aside0.mk (Kd.R_below (by (with_reducible repeat (first | apply Kd.R_alloc | apply Kd.R_drewN | apply Kd.R_drew)); exact HO112.out) hb); have n2_ := Aside0.mk (Kd.R_below (by (with_reducible repeat (first | apply Kd.R_alloc | apply Kd.R_drewN | apply Kd.R_drew)); exact HO115.out) hb); have n3_ := Aside0.mk (Kd.R_below (by (with_reducible repeat (first | apply Kd.R_alloc | apply Kd.R_drewN | apply Kd.R_drew)); exact HO118.out) hb); have n4_ := Aside0.mk (below_step (by repeat (first | (with_reducible first | exact HB.out | apply below_alloc | apply pw_below_drewN | apply below_drew1) | exact HB.out)) hb); clear HO110; clear HO112; clear HO115; clear HO118; clear HB; have HO110 := n0_; have HO112 := n1_; have HO115 := n2_; have HO118 := n3_; have HB := n4_; clear n0_ n1_ n2_ n3_ n4_; (try clear hb); (try clear hb2); (try clear hk); (try clear hi); obtain ⟨Ao32, co32, eo32⟩ := Kd.R_slice HO112.out; subst eo32))
              go_meet
              case rel => exact ⟨_, (((wrap64 (t120 + (t108.length : Int))) != (l3.length : Int))), (by first | rfl | (simp; done) | (simp [*]; done)), H', ⟨by have := HJ6.out; first | omega | exact Nat.le_refl _⟩, ⟨by (with_reducible repeat (first | apply Kd.S_alloc | apply Kd.S_drewN | apply Kd.S_drew)); exact Kd.S_mono HO110.out (fun _ hk => hk.1.1)⟩, ⟨by (with_reducible repeat (first | apply Kd.R_alloc | apply Kd.R_drewN | apply Kd.R_drew)); exact Kd.R_mono HO112.out (fun _ hk => trivial)⟩, ⟨by repeat (first | (with_reducible first | exact HB.out | apply below_alloc | apply pw_below_drewN | apply below_drew1) | exact HB.out)⟩⟩
            · replace c24 := Bool.eq_false_iff.mpr c24
              subst c24
              have H1 : (oublaw11_EvictOnce.j1 kj6 a0 a1 l3 t107 t108 true) = some r := by rw [if_neg (show ¬ (false = true) by decide)] at H; exact H
              clear H
              have H := H1
              clear H1
              have H' := Aside0.mk H
              clear H
              obtain ⟨Ao33, co33, eo33⟩ := Kd.S_slice HO110.out
              subst eo33
              go_wp2_with (first | ((with_reducible refine gate_callee (f := 12) rfl ?_); refine goesL_ (some 44) rfl rfl Try.func12 (by kernel_rfl) rfl #[.slice Ao33 t107.length co33] rfl (by (try simp only [List.map_toArray, List.map_cons, List.map_nil]); first | done | rfl | (simp only [List.length_drop, List.length_take]; rfl)) ?_; (with_reducible refine (oublaw11_buckets.calls kj6 _ _ t107 t113 _ ?side1 ?side2 A21.out).mono ?_); (case side1 => repeat (first | exact (Kd.S_reads' HO110.out).2.2 | (with_reducible refine Kd.C_alloc ?_ _) | (with_reducible refine Kd.C_drewN ?_ _) | (with_reducible refine Kd.C_drew ?_))); (case side2 => exact (Kd.S_reads' HO110.out).2.1); rintro e w34 ⟨v114, rfl, ho0, hb⟩; refine ⟨_, rfl, ?_⟩; have n0_ := Aside0.mk (Kd.S_elder' (by (with_reducible repeat (first | apply Kd.S_alloc | apply Kd.S_drewN | apply Kd.S_drew)); exact HO110.out) (Kd.R_base ho0) hb); have n1_ := Aside0.mk (Kd.R_elder' (by (with_reducible repeat (first | apply Kd.R_alloc | apply Kd.R_drewN | apply Kd.R_drew)); exact HO112.out) (Kd.R_base ho0) hb); have n2_ := Aside0.mk (Kd.R_lower (Kd.R_new' ho0 (Kd.R_lt (by (with_reducible repeat (first | apply Kd.R_alloc | apply Kd.R_drewN | apply Kd.R_drew)); exact HO112.out))) (below_size (by repeat (first | (with_reducible first | exact HB.out | apply below_alloc | apply pw_below_drewN | apply below_drew1) | exact HB.out)))); have n3_ := Aside0.mk (below_step (by repeat (first | (with_reducible first | exact HB.out | apply below_alloc | apply pw_below_drewN | apply below_drew1) | exact HB.out)) hb); clear HO110; clear HO112; clear HB; have HO110 := n0_; have HO112 := n1_; have HO115 := n2_; have HB := n3_; clear n0_ n1_ n2_ n3_; (try clear hb); (try clear hb2); (try clear hk); (try clear hi); (try clear ho0)) | ((with_reducible refine gate_callee (f := 13) rfl ?_); refine goesL_ (some 47) rfl rfl Try.func13 (by kernel_rfl) rfl #[.int .i64 a0, .slice A2 l2.length c2] rfl (by (try simp only [List.map_toArray, List.map_cons, List.map_nil]); first | done | rfl | (simp only [List.length_drop, List.length_take]; rfl)) ?_; (with_reducible refine (tree_Union.calls kj6 a0 _ _ l2 t116 _ ?side1 ?side2 A22.out).mono ?_); (case side1 => repeat (first | exact (Kd.C_below HR2.out HB.out) | (with_reducible refine Kd.C_alloc ?_ _) | (with_reducible refine Kd.C_drewN ?_ _) | (with_reducible refine Kd.C_drew ?_))); (case side2 => exact HC2.out); rintro e w35 ⟨v117, rfl, ho0, hb⟩; refine ⟨_, rfl, ?_⟩; have n0_ := Aside0.mk (Kd.S_elder' (by (with_reducible repeat (first | apply Kd.S_alloc | apply Kd.S_drewN | apply Kd.S_drew)); exact HO110.out) (Kd.R_base ho0) hb); have n1_ := Aside0.mk (Kd.R_elder' (by (with_reducible repeat (first | apply Kd.R_alloc | apply Kd.R_drewN | apply Kd.R_drew)); exact HO112.out) (Kd.R_base ho0) hb); have n2_ := Aside0.mk (Kd.R_elder' (by (with_reducible repeat (first | apply Kd.R_alloc | apply Kd.R_drewN | apply Kd.R_drew)); exact HO115.out) (Kd.R_base ho0) hb); have n3_ := Aside0.mk (Kd.R_lower (Kd.R_new' (Kd.R_new' ho0 (Kd.R_lt (by (with_reducible repeat (first | apply Kd.R_alloc | apply Kd.R_drewN | apply Kd.R_drew)); exact HO112.out))) (Kd.R_lt (by (with_reducible repeat (first | apply Kd.R_alloc | apply Kd.R_drewN | apply Kd.R_drew)); exact HO115.out))) (below_size (by repeat (first | (with_reducible first | exact HB.out | apply below_alloc | apply pw_below_drewN | apply below_drew1) | exact HB.out)))); have n4_ := Aside0.mk (below_step (by repeat (first | (with_reducible first | exact HB.out | apply below_alloc | apply pw_below_drewN | apply below_drew1) | exact HB.out)) hb); clear HO110; clear HO112; clear HO115; clear HB; have HO110 := n0_; have HO112 := n1_; have HO115 := n2_; have HO118 := n3_; have HB := n4_; clear n0_ n1_ n2_ n3_ n4_; (try clear hb); (try clear hb2); (try clear hk); (try clear hi); (try clear ho0); obtain ⟨Ao36, co36, eo36⟩ := Kd.R_slice HO115.out; subst eo36; obtain ⟨Ao37, co37, eo37⟩ := Kd.R_slice HO118.out; subst eo37) | ((with_reducible refine gate_callee (f := 11) rfl ?_); refine goesL_ (some 48) rfl rfl Try.func11 (by kernel_rfl) rfl #[.slice Ao36 t113.length co36, .slice Ao37 t116.length co37] rfl (by (try simp only [List.map_toArray, List.map_cons, List.map_nil]); first | done | rfl | (simp only [List.length_drop, List.length_take]; rfl)) ?_; (with_reducible refine (oubref_Ints.calls kj6 _ _ t113 _ _ t116 false _ ?side1 ?side2 ?side3 ?side4 A23.out).mono ?_); (case side1 => repeat (first | exact (Kd.R_reads' HO115.out).2.2 | (with_reducible refine Kd.C_alloc ?_ _) | (with_reducible refine Kd.C_drewN ?_ _) | (with_reducible refine Kd.C_drew ?_))); (case side2 => exact (Kd.R_reads' HO115.out).2.1); (case side3 => repeat (first | exact (Kd.R_reads' HO118.out).2.2 | (with_reducible refine Kd.C_alloc ?_ _) | (with_reducible refine Kd.C_drewN ?_ _) | (with_reducible refine Kd.C_drew ?_))); (case side4 => exact (Kd.R_reads' HO118.out).2.1); rintro e w' ⟨rfl, ⟨nd, rfl⟩⟩; refine ⟨_, rfl, ?_⟩))
              go_meet
              case rel => exact ⟨_, (true), (by first | rfl | (simp; done) | (simp [*]; done)), H', ⟨by have := HJ6.out; first | omega | exact Nat.le_refl _⟩, ⟨by (with_reducible repeat (first | apply Kd.S_alloc | apply Kd.S_drewN | apply Kd.S_drew)); exact Kd.S_mono HO110.out (fun _ hk => hk.1.1)⟩, ⟨by (with_reducible repeat (first | apply Kd.R_alloc | apply Kd.R_drewN | apply Kd.R_drew)); exact Kd.R_mono HO112.out (fun _ hk => trivial)⟩, ⟨by repeat (first | (with_reducible first | exact HB.out | apply below_alloc | apply pw_below_drewN | apply below_drew1) | exact HB.out)⟩⟩
          case rest =>
            clear HC19
            try clear c1
            try clear c2
            try clear p2
            try clear c3
            try clear c6
            try clear p6
            try clear c7
            try clear c9
            try clear c9b0
            try clear c9b1
            try clear c10
            try clear c10b0
            try clear c10b1
            try clear c11
            try clear c12
            try clear c13
            try clear c15
            try clear c24
            try clear p2
            obtain ⟨kq, x59_18, rfl, HA, HJ18, HO_9, HO_10, HB⟩ := hcut
            cases kq with
            | zero => exact absurd HA.out (by simp [oublaw11_EvictOnce.j1])
            | succ kj18 =>
              have H := HA.out
              clear HA
              simp only [oublaw11_EvictOnce.j1] at H
              by_cases c38 : x59_18 = true
              · subst c38
                have H1 : (some false) = some r := by rw [if_pos rfl] at H; exact H
                clear H
                have H := H1
                clear H1
                exact absurd (Option.some.inj H) (by rw [HT.out]; decide)
              · replace c38 := Bool.eq_false_iff.mpr c38
                subst c38
                have H1 : (oublaw11_EvictOnce.l0 kj18 a0 a1 l3 t107 t108 0) = some r := by rw [if_neg (show ¬ (false = true) by decide)] at H; exact H
                clear H
                have H := H1
                clear H1
                have H' := Aside0.mk H
                clear H
                go_wp2
                go_loopg [11] kj18 (fun kq v11 w' => ∃ (x11_3 : Int), v11 = .int .i64 x11_3 ∧ Aside0 (oublaw11_EvictOnce.l0 kq a0 a1 l3 t107 t108 x11_3 = some r) ∧ Aside0 (kq ≤ kj18) ∧ Aside0 (Kd.S k36 36 w' w.heap.size (fun k_ => some k_ ≠ (v111 : Value).ownBlock) v109 t107) ∧ Aside0 (Kd.R (Kd.int .i64) 3 w' w.heap.size (fun _ => True) v111 t108) ∧ Aside0 (Below w.heap.size w w'))
                case atStart => exact ⟨(0), (by first | rfl | (simp; done) | (simp [*]; done)), H', ⟨Nat.le_refl _⟩, ⟨by (with_reducible repeat (first | apply Kd.S_alloc | apply Kd.S_drewN | apply Kd.S_drew)); exact HO_9.out⟩, ⟨by (with_reducible repeat (first | apply Kd.R_alloc | apply Kd.R_drewN | apply Kd.R_drew)); exact HO_10.out⟩, ⟨by repeat (first | (with_reducible first | exact HB.out | apply below_alloc | apply pw_below_drewN | apply below_drew1) | exact HB.out)⟩⟩
                case round =>
                  clear H'
                  try clear c1
                  try clear c2
                  try clear p2
                  try clear c3
                  try clear c6
                  try clear p6
                  try clear c7
                  try clear c9
                  try clear c9b0
                  try clear c9b1
                  try clear c10
                  try clear c10b0
                  try clear c10b1
                  try clear c11
                  try clear c12
                  try clear c13
                  try clear c15
                  try clear c24
                  try clear c38
                  try clear p2
                  try clear p6
                  obtain ⟨x11_3, rfl, HA, HK3, HO_9, HO_10, HB⟩ := hrel
                  cases gk with
                  | zero => exact absurd HA.out (by simp [oublaw11_EvictOnce.l0])
                  | succ k3 =>
                    have H := HA.out
                    clear HA
                    simp only [oublaw11_EvictOnce.l0] at H
                    by_cases c39 : x11_3 < (l3.length : Int)
                    · rw [if_pos c39] at H
                      have c39b0 : decide (x11_3 < (l3.length : Int)) = true := decide_eq_true c39
                      clear c39
                      have H' := Aside0.mk H
                      clear H
                      go_wp2
                      go_loopg [12, 13] k3 (fun kq v12 v13 w' => ∃ (x12_4 : Int) (x13_4 : Int), v12 = .int .i64 x12_4 ∧ v13 = .int .i64 x13_4 ∧ Aside0 (oublaw11_EvictOnce.l1 kq a0 a1 l3 t107 t108 x11_3 x12_4 x13_4 = some r) ∧ Aside0 (kq ≤ k3) ∧ Aside0 (Kd.S k36 36 w' w.heap.size (fun k_ => some k_ ≠ (v111 : Value).ownBlock) v109 t107) ∧ Aside0 (Kd.R (Kd.int .i64) 3 w' w.heap.size (fun _ => True) v111 t108) ∧ Aside0 (Below w.heap.size w w'))
                      case atStart => exact ⟨(0), (0), (by first | rfl | (simp; done) | (simp [*]; done)), (by first | rfl | (simp; done) | (simp [*]; done)), H', ⟨Nat.le_refl _⟩, ⟨by (with_reducible repeat (first | apply Kd.S_alloc | apply Kd.S_drewN | apply Kd.S_drew)); exact HO_9.out⟩, ⟨by (with_reducible repeat (first | apply Kd.R_alloc | apply Kd.R_drewN | apply Kd.R_drew)); exact HO_10.out⟩, ⟨by repeat (first | (with_reducible first | exact HB.out | apply below_alloc | apply pw_below_drewN | apply below_drew1) | exact HB.out)⟩⟩
                      case round =>
                        clear H'
                        try clear c1
                        try clear c2
                        try clear p2
                        try clear c3
                        try clear c6
                        try clear p6
                        try clear c7
                        try clear c9
                        try clear c9b0
                        try clear c9b1
                        try clear c10
                        try clear c10b0
                        try clear c10b1
                        try clear c11
                        try clear c12
                        try clear c13
                        try clear c15
                        try clear c24
                        try clear c38
                        try clear c39
                        try clear c39b0
                        try clear p2
                        try clear p6
                        obtain ⟨x12_4, x13_4, rfl, rfl, HA, HK4, HO_9, HO_10, HB⟩ := hrel
                        cases gk with
                        | zero => exact absurd HA.out (by simp [oublaw11_EvictOnce.l1])
                        | succ k4 =>
                          have H := HA.out
                          clear HA
                          simp only [oublaw11_EvictOnce.l1] at H
                          by_cases c40 : x13_4 < (t107.length : Int)
                          · rw [if_pos c40] at H
                            have c40b0 : decide (x13_4 < (t107.length : Int)) = true := decide_eq_true c40
                            clear c40
                            by_cases c41 : 0 ≤ x13_4
                            · rw [if_pos c41] at H
                              have c41b0 : decide (0 ≤ x13_4) = true := decide_eq_true c41
                              clear c41
                              by_cases c42 : (((rd_T36 t107 x13_4).f1).length : Int) > a1
                              · rw [if_pos c42] at H
                                have c42b0 : decide (a1 < (((rd_T36 t107 x13_4).f1).length : Int)) = true := decide_eq_true c42
                                clear c42
                                exact absurd (Option.some.inj H) (by rw [HT.out]; decide)
                              · rw [if_neg c42] at H
                                have c42b0 : decide (a1 < (((rd_T36 t107 x13_4).f1).length : Int)) = false := decide_eq_false c42
                                clear c42
                                by_cases c43 : 0 ≤ x11_3
                                · rw [if_pos c43] at H
                                  have c43b0 : decide (0 ≤ x11_3) = true := decide_eq_true c43
                                  clear c43
                                  by_cases c44 : x11_3 < (l3.length : Int)
                                  · rw [if_pos c44] at H
                                    have c44b0 : decide (x11_3 < (l3.length : Int)) = true := decide_eq_true c44
                                    clear c44
                                    replace H := Option.bind_eq_some_iff.mp H
                                    obtain ⟨t125, A450, H⟩ := H
                                    replace H : (if t125 = true then ((tree_On.f k4 a0 ((rd_T36 t107 x13_4).f0) ((rd_T39 l3 x11_3).f1)).bind fun t128 => (if t128 = true then (oublaw11_EvictOnce.l1 k4 a0 a1 l3 t107 t108 x11_3 (wrap64 (x12_4 + 1)) (wrap64 (x13_4 + 1))) else (some false))) else (oublaw11_EvictOnce.l1 k4 a0 a1 l3 t107 t108 x11_3 x12_4 (wrap64 (x13_4 + 1)))) = some r := H
                                    have A45 := Aside0.mk A450
                                    clear A450
                                    by_cases c46 : t125 = true
                                    · subst c46
                                      have H1 : ((tree_On.f k4 a0 ((rd_T36 t107 x13_4).f0) ((rd_T39 l3 x11_3).f1)).bind fun t128 => (if t128 = true then (oublaw11_EvictOnce.l1 k4 a0 a1 l3 t107 t108 x11_3 (wrap64 (x12_4 + 1)) (wrap64 (x13_4 + 1))) else (some false))) = some r := by rw [if_pos rfl] at H; exact H
                                      clear H
                                      have H := H1
                                      clear H1
                                      replace H := Option.bind_eq_some_iff.mp H
                                      obtain ⟨t128, A470, H⟩ := H
                                      replace H : (if t128 = true then (oublaw11_EvictOnce.l1 k4 a0 a1 l3 t107 t108 x11_3 (wrap64 (x12_4 + 1)) (wrap64 (x13_4 + 1))) else (some false)) = some r := H
                                      have A47 := Aside0.mk A470
                                      clear A470
                                      by_cases c48 : t128 = true
                                      · subst c48
                                        have H1 : (oublaw11_EvictOnce.l1 k4 a0 a1 l3 t107 t108 x11_3 (wrap64 (x12_4 + 1)) (wrap64 (x13_4 + 1))) = some r := by rw [if_pos rfl] at H; exact H
                                        clear H
                                        have H := H1
                                        clear H1
                                        have H' := Aside0.mk H
                                        clear H
                                        obtain ⟨Ao49, co49, eo49⟩ := Kd.S_slice HO_9.out
                                        subst eo49
                                        have p122 : 0 ≤ (x13_4 : Int) := of_decide_eq_true (by first | (with_reducible assumption) | assumption)
                                        have q122 : x13_4 < (t107.length : Int) := of_decide_eq_true (by first | (with_reducible assumption) | assumption)
                                        obtain ⟨ad122, A122_1, c122_1, e122, hx122_0, hx122_1, hl122_1, hi122_1⟩ := at_T36 (Kd.S_reads' HO_9.out).2.2 x13_4 p122 q122
                                        cases e122
                                        obtain ⟨ce122, hce122, hMe122, hcc122⟩ := Kd.S_get HO_9.out z36 x13_4 p122 (by first | exact q122 | exact of_decide_eq_true (by first | (with_reducible assumption) | assumption) | (have e_ := (Kd.S_reads' HO_9.out).1; omega))
                                        obtain ⟨ve122_1, rfl, ge122_1⟩ := k36_openM hMe122
                                        have hv122_1 := hcc122 1 _ rfl
                                        rw [add_field _ _ 1 (by omega)] at hv122_1
                                        replace hv122_1 := Option.some.inj (hv122_1.symm.trans hx122_1)
                                        rw [hv122_1] at ge122_1
                                        have HL122_1 := Aside0.mk (show Kd.R (Kd.int .i64) 3 _ _ _ _ ((rd_T36 t107 x13_4).f1) from ge122_1)
                                        clear hv122_1 ge122_1
                                        clear hcc122 hce122
                                        have HR122_1 := Aside0.mk hi122_1
                                        have HC122_1 := Aside0.mk hl122_1
                                        clear hi122_1 hl122_1
                                        replace p122 := eq_true p122
                                        replace q122 := eq_true q122
                                        try go_wp2
                                        have n0_ := Aside0.mk (Kd.S_drew HO_9.out)
                                        have n1_ := Aside0.mk (Kd.R_drew HO_10.out)
                                        have n2_ := Aside0.mk (Kd.R_drew HL122_1.out)
                                        have n3_ := Aside0.mk (Kd.C_drew HR122_1.out)
                                        have n4_ := Aside0.mk (below_drew1 HB.out)
                                        clear HO_9
                                        clear HO_10
                                        clear HL122_1
                                        clear HR122_1
                                        clear HB
                                        have HO_9 := n0_
                                        have HO_10 := n1_
                                        have HL122_1 := n2_
                                        have HR122_1 := n3_
                                        have HB := n4_
                                        clear n0_ n1_ n2_ n3_ n4_
                                        have p123 : 0 ≤ (x13_4 : Int) := of_decide_eq_true (by first | (with_reducible assumption) | assumption)
                                        have q123 : x13_4 < (t107.length : Int) := of_decide_eq_true (by first | (with_reducible assumption) | assumption)
                                        obtain ⟨ad123, A123_1, c123_1, e123, hx123_0, hx123_1, hl123_1, hi123_1⟩ := at_T36 (Kd.S_reads' HO_9.out).2.2 x13_4 p123 q123
                                        obtain rfl : ad122 = ad123 := (by injection e123)
                                        obtain ⟨ce123, hce123, hMe123, hcc123⟩ := Kd.S_get HO_9.out z36 x13_4 p123 (by first | exact q123 | exact of_decide_eq_true (by first | (with_reducible assumption) | assumption) | (have e_ := (Kd.S_reads' HO_9.out).1; omega))
                                        obtain ⟨ve123_1, rfl, ge123_1⟩ := k36_openM hMe123
                                        have hv123_1 := hcc123 1 _ rfl
                                        rw [add_field _ _ 1 (by omega)] at hv123_1
                                        replace hv123_1 := Option.some.inj (hv123_1.symm.trans hx123_1)
                                        rw [hv123_1] at ge123_1
                                        have HL123_1 := Aside0.mk (show Kd.R (Kd.int .i64) 3 _ _ _ _ ((rd_T36 t107 x13_4).f1) from ge123_1)
                                        clear hv123_1 ge123_1
                                        clear hcc123 hce123
                                        have HR123_1 := Aside0.mk hi123_1
                                        have HC123_1 := Aside0.mk hl123_1
                                        clear hi123_1 hl123_1
                                        replace p123 := eq_true p123
                                        replace q123 := eq_true q123
                                        have p124 : 0 ≤ (x11_3 : Int) := of_decide_eq_true (by first | (with_reducible assumption) | assumption)
                                        have q124 : x11_3 < (l3.length : Int) := of_decide_eq_true (by first | (with_reducible assumption) | assumption)
                                        obtain ⟨ad124, e124, hx124_0, hx124_1⟩ := at_T39 HR3.out x11_3 p124 q124
                                        have hw124_1 := hx124_1
                                        have hw124_0 := hx124_0
                                        cases e124
                                        replace hx124_0 := (HB.out.cell (World.block_lt_of_cell? w _ hx124_0)).trans hx124_0
                                        replace hx124_1 := (HB.out.cell (World.block_lt_of_cell? w _ hx124_1)).trans hx124_1
                                        replace p124 := eq_true p124
                                        replace q124 := eq_true q124
                                        refine start_ (n := 11) (S := fun w' => w'.cell? (ad122.add ((x13_4).toNat * 2)) = some (.int .i64 ((rd_T36 t107 x13_4).f0)) ∧ w'.cell? ⟨(ad122.add ((x13_4).toNat * 2)).block, (ad122.add ((x13_4).toNat * 2)).off + 1, none⟩ = some (.slice A123_1 ((rd_T36 t107 x13_4).f1).length c123_1) ∧ w'.cell? (ad124.add ((x11_3).toNat * 2)) = some (.int .i64 ((rd_T39 l3 x11_3).f0)) ∧ w'.cell? ⟨(ad124.add ((x11_3).toNat * 2)).block, (ad124.add ((x11_3).toNat * 2)).off + 1, none⟩ = some (.int .i64 ((rd_T39 l3 x11_3).f1))) (ds := []) #[false, false, false, false, false, false, false, false, false, false, false] (by kernel_rfl) rfl rfl ⟨hx123_0, hx123_1, ((HB.out.cell (World.block_lt_of_cell? w _ hw124_0)).trans hw124_0), ((HB.out.cell (World.block_lt_of_cell? w _ hw124_1)).trans hw124_1)⟩ (fun hHeld => ?_); refine with_tabW oublaw11_EvictOnce.tab17 oublaw11_EvictOnce.bits17 (fun HT_ HW_ => ?_)
                                        generalize wr.drew = w50 at HO_9 HO_10 HL122_1 HR122_1 HB HL123_1 HR123_1 hx123_0 hx123_1 hx124_0 hx124_1 hHeld ⊢
                                        refine pure_ (i := 0) (N := some 80) (v := ?_) (a' := ?_) #[true, false, false, false, false, false, false, false, false, false, false] rfl rfl (any_of HT_.out (by kernel_rfl)) (fun _ _ _ h => h) (Or.inl ⟨by rfl, ?_⟩) ?_ ?_
                                        rotate_left
                                        · intro w'
                                          go_simp
                                          with_reducible rfl
                                        rotate_left
                                        · simp only [Act.put, List.setIfInBounds_toArray, List.set_cons_zero, List.set_cons_succ, i64_w, i32_w]
                                          rfl
                                        refine pure_ (i := 1) (N := some 81) (v := ?_) (a' := ?_) #[true, true, false, false, false, false, false, false, false, false, false] rfl rfl (any_of HT_.out (by kernel_rfl)) (fun _ _ _ h => h) (Or.inl ⟨by rfl, ?_⟩) ?_ ?_
                                        rotate_left
                                        · intro w'
                                          go_simp
                                          with_reducible rfl
                                        rotate_left
                                        · simp only [Act.put, List.setIfInBounds_toArray, List.set_cons_zero, List.set_cons_succ, i64_w, i32_w]
                                          rfl
                                        refine pure_ (i := 2) (N := some 82) (v := ?_) (a' := ?_) #[true, true, true, false, false, false, false, false, false, false, false] rfl rfl (any_of HT_.out (by kernel_rfl)) (fun _ _ _ h => h) (Or.inl ⟨by rfl, ?_⟩) ?_ ?_
                                        rotate_left
                                        · intro w'
                                          go_simp
                                          with_reducible rfl
                                        rotate_left
                                        · simp only [Act.put, List.setIfInBounds_toArray, List.set_cons_zero, List.set_cons_succ, i64_w, i32_w]
                                          rfl
                                        refine pure_ (i := 3) (N := some 83) (v := ?_) (a' := ?_) #[true, true, true, true, false, false, false, false, false, false, false] rfl rfl (any_of HT_.out (by kernel_rfl)) (fun _ _ _ h => h) (Or.inl ⟨by rfl, ?_⟩) ?_ ?_
                                        rotate_left
                                        · intro w'
                                          go_simp
                                          with_reducible rfl
                                        rotate_left
                                        · simp only [Act.put, List.setIfInBounds_toArray, List.set_cons_zero, List.set_cons_succ, i64_w, i32_w]
                                          rfl
                                        refine pure_ (i := 5) (N := some 85) (v := ?_) (a' := ?_) #[true, true, true, true, false, true, false, false, false, false, false] rfl rfl (any_of HT_.out (by kernel_rfl)) (fun _ _ _ h => h) (Or.inl ⟨by rfl, ?_⟩) ?_ ?_
                                        rotate_left
                                        · intro w'
                                          go_simp
                                          with_reducible rfl
                                        rotate_left
                                        · simp only [Act.put, List.setIfInBounds_toArray, List.set_cons_zero, List.set_cons_succ, i64_w, i32_w]
                                          rfl
                                        refine pure_ (i := 6) (N := some 86) (v := ?_) (a' := ?_) #[true, true, true, true, false, true, true, false, false, false, false] rfl rfl (any_of HT_.out (by kernel_rfl)) (fun _ _ _ h => h) (Or.inl ⟨by rfl, ?_⟩) ?_ ?_
                                        rotate_left
                                        · intro w'
                                          go_simp
                                          with_reducible rfl
                                        rotate_left
                                        · simp only [Act.put, List.setIfInBounds_toArray, List.set_cons_zero, List.set_cons_succ, i64_w, i32_w]
                                          rfl
                                        refine pure_ (i := 7) (N := some 87) (v := ?_) (a' := ?_) #[true, true, true, true, false, true, true, true, false, false, false] rfl rfl (any_of HT_.out (by kernel_rfl)) (fun _ _ _ h => h) (Or.inl ⟨by rfl, ?_⟩) ?_ ?_
                                        rotate_left
                                        · intro w'
                                          go_simp
                                          with_reducible rfl
                                        rotate_left
                                        · simp only [Act.put, List.setIfInBounds_toArray, List.set_cons_zero, List.set_cons_succ, i64_w, i32_w]
                                          rfl
                                        refine pure_ (i := 8) (N := some 88) (v := ?_) (a' := ?_) #[true, true, true, true, false, true, true, true, true, false, false] rfl rfl (any_of HT_.out (by kernel_rfl)) (fun _ _ _ h => h) (Or.inl ⟨by rfl, ?_⟩) ?_ ?_
                                        rotate_left
                                        · intro w'
                                          go_simp
                                          with_reducible rfl
                                        rotate_left
                                        · simp only [Act.put, List.setIfInBounds_toArray, List.set_cons_zero, List.set_cons_succ, i64_w, i32_w]
                                          rfl
                                        refine take_ (i := 4) (N := some 84) (v := ?_) (a' := ?_) #[true, true, true, true, true, true, true, true, true, false, false] rfl rfl (take_ofW HT_.out HW_.out (by kernel_rfl)) (fun _ _ _ h => h) (Or.inl ⟨by rfl, ?_⟩) hHeld ?_ ?_
                                        rotate_left
                                        · rintro w' ⟨s0, s1, s2, s3⟩
                                          go_simp
                                          with_reducible rfl
                                        rotate_left
                                        · simp only [Act.put, List.setIfInBounds_toArray, List.set_cons_zero, List.set_cons_succ, i64_w, i32_w]
                                          rfl
                                        refine take_ (i := 9) (N := some 89) (v := ?_) (a' := ?_) #[true, true, true, true, true, true, true, true, true, true, false] rfl rfl (take_ofW HT_.out HW_.out (by kernel_rfl)) (fun _ _ _ h => h) (Or.inl ⟨by rfl, ?_⟩) hHeld ?_ ?_
                                        rotate_left
                                        · rintro w' ⟨s0, s1, s2, s3⟩
                                          go_simp
                                          with_reducible rfl
                                        rotate_left
                                        · simp only [Act.put, List.setIfInBounds_toArray, List.set_cons_zero, List.set_cons_succ, i64_w, i32_w]
                                          rfl
                                        refine one_ (i := 10) (N := some 90) #[true, true, true, true, true, true, true, true, true, true, true] rfl rfl (one_of HT_.out (by kernel_rfl)) (by decide) (fun K hK => ?_)
                                        refine goes_ Try.func15 (by kernel_rfl) rfl #[.slice A123_1 ((rd_T36 t107 x13_4).f1).length c123_1, .int .i64 ((rd_T39 l3 x11_3).f0)] (by rfl) rfl rfl (by (try simp only [List.map_toArray, List.map_cons, List.map_nil]); first | done | rfl | (simp only [List.length_drop, List.length_take]; rfl)) ?_
                                        with_reducible refine (oubref_Has.calls k4 _ _ ((rd_T36 t107 x13_4).f1) ((rd_T39 l3 x11_3).f0) true _ ?side1 ?side2 A45.out).mono ?_
                                        (case side1 => repeat (first | exact (by repeat (first | (with_reducible exact HR123_1.out) | (with_reducible refine Kd.C_alloc ?_ _) | (with_reducible refine Kd.C_drewN ?_ _) | (with_reducible refine Kd.C_drew ?_) | exact HR123_1.out)) | (with_reducible refine Kd.C_alloc ?_ _) | (with_reducible refine Kd.C_drewN ?_ _) | (with_reducible refine Kd.C_drew ?_)))
                                        (case side2 => exact HC123_1.out)
                                        rintro e w' ⟨rfl, ⟨nd, rfl⟩⟩
                                        refine ⟨_, rfl, ?_⟩
                                        refine hK.out _ _ ⟨hHeld.1, hHeld.2.1, ((HB.out.cell (World.block_lt_of_cell? w _ hw124_0)).trans hw124_0), ((HB.out.cell (World.block_lt_of_cell? w _ hw124_1)).trans hw124_1)⟩ (fun hHeld => ?_)
                                        clear hK K
                                        refine norm_ (a' := ?_) ?_ ?_
                                        rotate_left
                                        · show Act.put _ (some 90) _ = _
                                          simp only [Act.put, List.setIfInBounds_toArray, List.set_cons_zero, List.set_cons_succ, i64_w, i32_w]
                                          rfl
                                        refine done_ (done_of HT_.out (by kernel_rfl)) ?_
                                        try go_wp2
                                        (try (rw [drewN_self w50]; generalize hq_ : World.drewN w50 _ = w50; have n0_ : Aside0 (Kd.R (Kd.int .i64) 3 w50 w.heap.size (fun k_ => some k_ ≠ (v111 : Value).ownBlock ∧ some k_ ≠ (.slice (some ad122) t107.length co49 : Value).ownBlock) (.slice A122_1 ((rd_T36 t107 x13_4).f1).length c122_1) ((rd_T36 t107 x13_4).f1)) := ⟨by rw [← hq_]; exact (by (with_reducible repeat (first | apply Kd.R_alloc | apply Kd.R_drewN | apply Kd.R_drew)); exact HL122_1.out)⟩; have n1_ : Aside0 (Kd.R (Kd.int .i64) 3 w50 w.heap.size (fun k_ => some k_ ≠ (v111 : Value).ownBlock ∧ some k_ ≠ (.slice (some ad122) t107.length co49 : Value).ownBlock) (.slice A123_1 ((rd_T36 t107 x13_4).f1).length c123_1) ((rd_T36 t107 x13_4).f1)) := ⟨by rw [← hq_]; exact (by (with_reducible repeat (first | apply Kd.R_alloc | apply Kd.R_drewN | apply Kd.R_drew)); exact HL123_1.out)⟩; have n2_ : Aside0 (Kd.R (Kd.int .i64) 3 w50 w.heap.size (fun _ => True) v111 t108) := ⟨by rw [← hq_]; exact (by (with_reducible repeat (first | apply Kd.R_alloc | apply Kd.R_drewN | apply Kd.R_drew)); exact HO_10.out)⟩; have n3_ : Aside0 (Kd.S k36 36 w50 w.heap.size (fun k_ => some k_ ≠ (v111 : Value).ownBlock) (.slice (some ad122) t107.length co49) t107) := ⟨by rw [← hq_]; exact (by (with_reducible repeat (first | apply Kd.S_alloc | apply Kd.S_drewN | apply Kd.S_drew)); exact HO_9.out)⟩; have n4_ : Aside0 (Below w.heap.size w w50) := ⟨by rw [← hq_]; exact (by repeat (first | (with_reducible first | exact HB.out | apply below_alloc | apply pw_below_drewN | apply below_drew1) | exact HB.out))⟩; have n5_ : Aside0 (Kd.C (Kd.int .i64) w50 A122_1 ((rd_T36 t107 x13_4).f1).length ((rd_T36 t107 x13_4).f1)) := ⟨by rw [← hq_]; exact (by repeat (first | (with_reducible exact HR122_1.out) | (with_reducible refine Kd.C_alloc ?_ _) | (with_reducible refine Kd.C_drewN ?_ _) | (with_reducible refine Kd.C_drew ?_) | exact HR122_1.out))⟩; have n6_ : Aside0 (Kd.C (Kd.int .i64) w50 A123_1 ((rd_T36 t107 x13_4).f1).length ((rd_T36 t107 x13_4).f1)) := ⟨by rw [← hq_]; exact (by repeat (first | (with_reducible exact HR123_1.out) | (with_reducible refine Kd.C_alloc ?_ _) | (with_reducible refine Kd.C_drewN ?_ _) | (with_reducible refine Kd.C_drew ?_) | exact HR123_1.out))⟩; clear HL122_1 HL123_1 HO_10 HO_9 HB HR122_1 HR123_1 hq_; have HL122_1 := n0_; have HL123_1 := n1_; have HO_10 := n2_; have HO_9 := n3_; have HB := n4_; have HR122_1 := n5_; have HR123_1 := n6_; clear n0_ n1_ n2_ n3_ n4_ n5_ n6_))
                                        have n0_ := Aside0.mk (Kd.S_drew HO_9.out)
                                        have n1_ := Aside0.mk (Kd.R_drew HO_10.out)
                                        have n2_ := Aside0.mk (Kd.R_drew HL122_1.out)
                                        have n3_ := Aside0.mk (Kd.R_drew HL123_1.out)
                                        have n4_ := Aside0.mk (Kd.C_drew HR122_1.out)
                                        have n5_ := Aside0.mk (Kd.C_drew HR123_1.out)
                                        have n6_ := Aside0.mk (below_drew1 HB.out)
                                        clear HO_9
                                        clear HO_10
                                        clear HL122_1
                                        clear HL123_1
                                        clear HR122_1
                                        clear HR123_1
                                        clear HB
                                        have HO_9 := n0_
                                        have HO_10 := n1_
                                        have HL122_1 := n2_
                                        have HL123_1 := n3_
                                        have HR122_1 := n4_
                                        have HR123_1 := n5_
                                        have HB := n6_
                                        clear n0_ n1_ n2_ n3_ n4_ n5_ n6_
                                        have p126 : 0 ≤ (x13_4 : Int) := of_decide_eq_true (by first | (with_reducible assumption) | assumption)
                                        have q126 : x13_4 < (t107.length : Int) := of_decide_eq_true (by first | (with_reducible assumption) | assumption)
                                        obtain ⟨ad126, A126_1, c126_1, e126, hx126_0, hx126_1, hl126_1, hi126_1⟩ := at_T36 (Kd.S_reads' HO_9.out).2.2 x13_4 p126 q126
                                        obtain rfl : ad122 = ad126 := (by injection e126)
                                        obtain ⟨ce126, hce126, hMe126, hcc126⟩ := Kd.S_get HO_9.out z36 x13_4 p126 (by first | exact q126 | exact of_decide_eq_true (by first | (with_reducible assumption) | assumption) | (have e_ := (Kd.S_reads' HO_9.out).1; omega))
                                        obtain ⟨ve126_1, rfl, ge126_1⟩ := k36_openM hMe126
                                        have hv126_1 := hcc126 1 _ rfl
                                        rw [add_field _ _ 1 (by omega)] at hv126_1
                                        replace hv126_1 := Option.some.inj (hv126_1.symm.trans hx126_1)
                                        rw [hv126_1] at ge126_1
                                        have HL126_1 := Aside0.mk (show Kd.R (Kd.int .i64) 3 _ _ _ _ ((rd_T36 t107 x13_4).f1) from ge126_1)
                                        clear hv126_1 ge126_1
                                        clear hcc126 hce126
                                        have HR126_1 := Aside0.mk hi126_1
                                        have HC126_1 := Aside0.mk hl126_1
                                        clear hi126_1 hl126_1
                                        replace p126 := eq_true p126
                                        replace q126 := eq_true q126
                                        have p127 : 0 ≤ (x11_3 : Int) := of_decide_eq_true (by first | (with_reducible assumption) | assumption)
                                        have q127 : x11_3 < (l3.length : Int) := of_decide_eq_true (by first | (with_reducible assumption) | assumption)
                                        obtain ⟨ad127, e127, hx127_0, hx127_1⟩ := at_T39 HR3.out x11_3 p127 q127
                                        have hw127_1 := hx127_1
                                        have hw127_0 := hx127_0
                                        obtain rfl : ad124 = ad127 := (by injection e127)
                                        replace hx127_0 := (HB.out.cell (World.block_lt_of_cell? w _ hx127_0)).trans hx127_0
                                        replace hx127_1 := (HB.out.cell (World.block_lt_of_cell? w _ hx127_1)).trans hx127_1
                                        replace p127 := eq_true p127
                                        replace q127 := eq_true q127
                                        refine start_ (n := 13) (S := fun w' => w'.cell? (ad122.add ((x13_4).toNat * 2)) = some (.int .i64 ((rd_T36 t107 x13_4).f0)) ∧ w'.cell? ⟨(ad122.add ((x13_4).toNat * 2)).block, (ad122.add ((x13_4).toNat * 2)).off + 1, none⟩ = some (.slice A126_1 ((rd_T36 t107 x13_4).f1).length c126_1) ∧ w'.cell? (ad124.add ((x11_3).toNat * 2)) = some (.int .i64 ((rd_T39 l3 x11_3).f0)) ∧ w'.cell? ⟨(ad124.add ((x11_3).toNat * 2)).block, (ad124.add ((x11_3).toNat * 2)).off + 1, none⟩ = some (.int .i64 ((rd_T39 l3 x11_3).f1))) (ds := []) #[false, false, false, false, false, false, false, false, false, false, false, false, false] (by kernel_rfl) rfl rfl ⟨hx126_0, hx126_1, ((HB.out.cell (World.block_lt_of_cell? w _ hw127_0)).trans hw127_0), ((HB.out.cell (World.block_lt_of_cell? w _ hw127_1)).trans hw127_1)⟩ (fun hHeld => ?_); refine with_tabW oublaw11_EvictOnce.tab19 oublaw11_EvictOnce.bits19 (fun HT_ HW_ => ?_)
                                        generalize w50.drew = w51 at HO_9 HO_10 HL122_1 HL123_1 HR122_1 HR123_1 HB HL126_1 HR126_1 hx126_0 hx126_1 hx127_0 hx127_1 hHeld ⊢
                                        refine pure_ (i := 0) (N := some 93) (v := ?_) (a' := ?_) #[true, false, false, false, false, false, false, false, false, false, false, false, false] rfl rfl (any_of HT_.out (by kernel_rfl)) (fun _ _ _ h => h) (Or.inl ⟨by rfl, ?_⟩) ?_ ?_
                                        rotate_left
                                        · intro w'
                                          go_simp
                                          with_reducible rfl
                                        rotate_left
                                        · simp only [Act.put, List.setIfInBounds_toArray, List.set_cons_zero, List.set_cons_succ, i64_w, i32_w]
                                          rfl
                                        refine pure_ (i := 1) (N := some 94) (v := ?_) (a' := ?_) #[true, true, false, false, false, false, false, false, false, false, false, false, false] rfl rfl (any_of HT_.out (by kernel_rfl)) (fun _ _ _ h => h) (Or.inl ⟨by rfl, ?_⟩) ?_ ?_
                                        rotate_left
                                        · intro w'
                                          go_simp
                                          with_reducible rfl
                                        rotate_left
                                        · simp only [Act.put, List.setIfInBounds_toArray, List.set_cons_zero, List.set_cons_succ, i64_w, i32_w]
                                          rfl
                                        refine pure_ (i := 2) (N := some 95) (v := ?_) (a' := ?_) #[true, true, true, false, false, false, false, false, false, false, false, false, false] rfl rfl (any_of HT_.out (by kernel_rfl)) (fun _ _ _ h => h) (Or.inl ⟨by rfl, ?_⟩) ?_ ?_
                                        rotate_left
                                        · intro w'
                                          go_simp
                                          with_reducible rfl
                                        rotate_left
                                        · simp only [Act.put, List.setIfInBounds_toArray, List.set_cons_zero, List.set_cons_succ, i64_w, i32_w]
                                          rfl
                                        refine pure_ (i := 3) (N := some 96) (v := ?_) (a' := ?_) #[true, true, true, true, false, false, false, false, false, false, false, false, false] rfl rfl (any_of HT_.out (by kernel_rfl)) (fun _ _ _ h => h) (Or.inl ⟨by rfl, ?_⟩) ?_ ?_
                                        rotate_left
                                        · intro w'
                                          go_simp
                                          with_reducible rfl
                                        rotate_left
                                        · simp only [Act.put, List.setIfInBounds_toArray, List.set_cons_zero, List.set_cons_succ, i64_w, i32_w]
                                          rfl
                                        refine pure_ (i := 4) (N := some 97) (v := ?_) (a' := ?_) #[true, true, true, true, true, false, false, false, false, false, false, false, false] rfl rfl (any_of HT_.out (by kernel_rfl)) (fun _ _ _ h => h) (Or.inl ⟨by rfl, ?_⟩) ?_ ?_
                                        rotate_left
                                        · intro w'
                                          go_simp
                                          with_reducible rfl
                                        rotate_left
                                        · simp only [Act.put, List.setIfInBounds_toArray, List.set_cons_zero, List.set_cons_succ, i64_w, i32_w]
                                          rfl
                                        refine pure_ (i := 6) (N := some 99) (v := ?_) (a' := ?_) #[true, true, true, true, true, false, true, false, false, false, false, false, false] rfl rfl (any_of HT_.out (by kernel_rfl)) (fun _ _ _ h => h) (Or.inl ⟨by rfl, ?_⟩) ?_ ?_
                                        rotate_left
                                        · intro w'
                                          go_simp
                                          with_reducible rfl
                                        rotate_left
                                        · simp only [Act.put, List.setIfInBounds_toArray, List.set_cons_zero, List.set_cons_succ, i64_w, i32_w]
                                          rfl
                                        refine pure_ (i := 7) (N := some 100) (v := ?_) (a' := ?_) #[true, true, true, true, true, false, true, true, false, false, false, false, false] rfl rfl (any_of HT_.out (by kernel_rfl)) (fun _ _ _ h => h) (Or.inl ⟨by rfl, ?_⟩) ?_ ?_
                                        rotate_left
                                        · intro w'
                                          go_simp
                                          with_reducible rfl
                                        rotate_left
                                        · simp only [Act.put, List.setIfInBounds_toArray, List.set_cons_zero, List.set_cons_succ, i64_w, i32_w]
                                          rfl
                                        refine pure_ (i := 8) (N := some 101) (v := ?_) (a' := ?_) #[true, true, true, true, true, false, true, true, true, false, false, false, false] rfl rfl (any_of HT_.out (by kernel_rfl)) (fun _ _ _ h => h) (Or.inl ⟨by rfl, ?_⟩) ?_ ?_
                                        rotate_left
                                        · intro w'
                                          go_simp
                                          with_reducible rfl
                                        rotate_left
                                        · simp only [Act.put, List.setIfInBounds_toArray, List.set_cons_zero, List.set_cons_succ, i64_w, i32_w]
                                          rfl
                                        refine pure_ (i := 9) (N := some 102) (v := ?_) (a' := ?_) #[true, true, true, true, true, false, true, true, true, true, false, false, false] rfl rfl (any_of HT_.out (by kernel_rfl)) (fun _ _ _ h => h) (Or.inl ⟨by rfl, ?_⟩) ?_ ?_
                                        rotate_left
                                        · intro w'
                                          go_simp
                                          with_reducible rfl
                                        rotate_left
                                        · simp only [Act.put, List.setIfInBounds_toArray, List.set_cons_zero, List.set_cons_succ, i64_w, i32_w]
                                          rfl
                                        refine take_ (i := 5) (N := some 98) (v := ?_) (a' := ?_) #[true, true, true, true, true, true, true, true, true, true, false, false, false] rfl rfl (take_ofW HT_.out HW_.out (by kernel_rfl)) (fun _ _ _ h => h) (Or.inl ⟨by rfl, ?_⟩) hHeld ?_ ?_
                                        rotate_left
                                        · rintro w' ⟨s0, s1, s2, s3⟩
                                          go_simp
                                          with_reducible rfl
                                        rotate_left
                                        · simp only [Act.put, List.setIfInBounds_toArray, List.set_cons_zero, List.set_cons_succ, i64_w, i32_w]
                                          rfl
                                        refine take_ (i := 10) (N := some 103) (v := ?_) (a' := ?_) #[true, true, true, true, true, true, true, true, true, true, true, false, false] rfl rfl (take_ofW HT_.out HW_.out (by kernel_rfl)) (fun _ _ _ h => h) (Or.inl ⟨by rfl, ?_⟩) hHeld ?_ ?_
                                        rotate_left
                                        · rintro w' ⟨s0, s1, s2, s3⟩
                                          go_simp
                                          with_reducible rfl
                                        rotate_left
                                        · simp only [Act.put, List.setIfInBounds_toArray, List.set_cons_zero, List.set_cons_succ, i64_w, i32_w]
                                          rfl
                                        refine one_ (i := 11) (N := some 104) #[true, true, true, true, true, true, true, true, true, true, true, true, false] rfl rfl (one_of HT_.out (by kernel_rfl)) (by decide) (fun K hK => ?_)
                                        refine goes_ Try.func16 (by kernel_rfl) rfl #[.int .i64 a0, .int .i64 ((rd_T36 t107 x13_4).f0), .int .i64 ((rd_T39 l3 x11_3).f1)] (by rfl) rfl rfl (by (try simp only [List.map_toArray, List.map_cons, List.map_nil]); first | done | rfl | (simp only [List.length_drop, List.length_take]; rfl)) ?_
                                        with_reducible refine (tree_On.calls k4 a0 ((rd_T36 t107 x13_4).f0) ((rd_T39 l3 x11_3).f1) true _ A47.out).mono ?_
                                        rintro e w52 ⟨rfl, hb⟩
                                        have HS0_ := (hb.cell (World.block_lt_of_cell? _ _ (hHeld.1))).trans (hHeld.1)
                                        have HS1_ := (hb.cell (World.block_lt_of_cell? _ _ (hHeld.2.1))).trans (hHeld.2.1)
                                        refine ⟨_, rfl, ?_⟩
                                        have n0_ := Aside0.mk (Kd.S_below (by (with_reducible repeat (first | apply Kd.S_alloc | apply Kd.S_drewN | apply Kd.S_drew)); exact HO_9.out) hb)
                                        have n1_ := Aside0.mk (Kd.R_below (by (with_reducible repeat (first | apply Kd.R_alloc | apply Kd.R_drewN | apply Kd.R_drew)); exact HO_10.out) hb)
                                        have n2_ := Aside0.mk (Kd.R_below (by (with_reducible repeat (first | apply Kd.R_alloc | apply Kd.R_drewN | apply Kd.R_drew)); exact HL122_1.out) hb)
                                        have n3_ := Aside0.mk (Kd.R_below (by (with_reducible repeat (first | apply Kd.R_alloc | apply Kd.R_drewN | apply Kd.R_drew)); exact HL123_1.out) hb)
                                        have n4_ := Aside0.mk (Kd.R_below (by (with_reducible repeat (first | apply Kd.R_alloc | apply Kd.R_drewN | apply Kd.R_drew)); exact HL126_1.out) hb)
                                        have n5_ := Aside0.mk (Kd.C_below (by repeat (first | (with_reducible exact HR122_1.out) | (with_reducible refine Kd.C_alloc ?_ _) | (with_reducible refine Kd.C_drewN ?_ _) | (with_reducible refine Kd.C_drew ?_) | exact HR122_1.out)) hb)
                                        have n6_ := Aside0.mk (Kd.C_below (by repeat (first | (with_reducible exact HR123_1.out) | (with_reducible refine Kd.C_alloc ?_ _) | (with_reducible refine Kd.C_drewN ?_ _) | (with_reducible refine Kd.C_drew ?_) | exact HR123_1.out)) hb)
                                        have n7_ := Aside0.mk (Kd.C_below (by repeat (first | (with_reducible exact HR126_1.out) | (with_reducible refine Kd.C_alloc ?_ _) | (with_reducible refine Kd.C_drewN ?_ _) | (with_reducible refine Kd.C_drew ?_) | exact HR126_1.out)) hb)
                                        have n8_ := Aside0.mk (below_step (by repeat (first | (with_reducible first | exact HB.out | apply below_alloc | apply pw_below_drewN | apply below_drew1) | exact HB.out)) hb)
                                        clear HO_9
                                        clear HO_10
                                        clear HL122_1
                                        clear HL123_1
                                        clear HL126_1
                                        clear HR122_1
                                        clear HR123_1
                                        clear HR126_1
                                        clear HB
                                        have HO_9 := n0_
                                        have HO_10 := n1_
                                        have HL122_1 := n2_
                                        have HL123_1 := n3_
                                        have HL126_1 := n4_
                                        have HR122_1 := n5_
                                        have HR123_1 := n6_
                                        have HR126_1 := n7_
                                        have HB := n8_
                                        clear n0_ n1_ n2_ n3_ n4_ n5_ n6_ n7_ n8_
                                        (try clear hb)
                                        (try clear hb2)
                                        (try clear hk)
                                        (try clear hi)
                                        refine hK.out _ _ ⟨HS0_, HS1_, ((HB.out.cell (World.block_lt_of_cell? w _ hw127_0)).trans hw127_0), ((HB.out.cell (World.block_lt_of_cell? w _ hw127_1)).trans hw127_1)⟩ (fun hHeld => ?_)
                                        clear hK K
                                        refine norm_ (a' := ?_) ?_ ?_
                                        rotate_left
                                        · show Act.put _ (some 104) _ = _
                                          simp only [Act.put, List.setIfInBounds_toArray, List.set_cons_zero, List.set_cons_succ, i64_w, i32_w]
                                          rfl
                                        refine pure_ (i := 12) (N := some 105) (v := ?_) (a' := ?_) #[true, true, true, true, true, true, true, true, true, true, true, true, true] rfl rfl (any_of HT_.out (by kernel_rfl)) (fun _ _ _ h => h) (Or.inl ⟨by rfl, ?_⟩) ?_ ?_
                                        rotate_left
                                        · intro w'
                                          go_simp
                                          with_reducible rfl
                                        rotate_left
                                        · simp only [Act.put, List.setIfInBounds_toArray, List.set_cons_zero, List.set_cons_succ, i64_w, i32_w]
                                          rfl
                                        refine done_ (done_of HT_.out (by kernel_rfl)) ?_
                                        try go_wp2
                                        go_roundg k4
                                        case measure => have := HJ6.out; have := HJ18.out; have := HK3.out; have := HK4.out; omega
                                        case rel => exact ⟨(wrap64 (x12_4 + 1)), (wrap64 (x13_4 + 1)), (by first | rfl | (simp; done) | (simp [*]; done)), (by first | rfl | (simp; done) | (simp [*]; done)), H', ⟨by have := HJ6.out; have := HJ18.out; have := HK3.out; have := HK4.out; omega⟩, ⟨by (with_reducible repeat (first | apply Kd.S_alloc | apply Kd.S_drewN | apply Kd.S_drew)); exact HO_9.out⟩, ⟨by (with_reducible repeat (first | apply Kd.R_alloc | apply Kd.R_drewN | apply Kd.R_drew)); exact HO_10.out⟩, ⟨by repeat (first | (with_reducible first | exact HB.out | apply below_alloc | apply pw_below_drewN | apply below_drew1) | exact HB.out)⟩⟩
                                      · replace c48 := Bool.eq_false_iff.mpr c48
                                        subst c48
                                        have H1 : (some false) = some r := by rw [if_neg (show ¬ (false = true) by decide)] at H; exact H
                                        clear H
                                        have H := H1
                                        clear H1
                                        exact absurd (Option.some.inj H) (by rw [HT.out]; decide)
                                    · replace c46 := Bool.eq_false_iff.mpr c46
                                      subst c46
                                      have H1 : (oublaw11_EvictOnce.l1 k4 a0 a1 l3 t107 t108 x11_3 x12_4 (wrap64 (x13_4 + 1))) = some r := by rw [if_neg (show ¬ (false = true) by decide)] at H; exact H
                                      clear H
                                      have H := H1
                                      clear H1
                                      have H' := Aside0.mk H
                                      clear H
                                      obtain ⟨Ao53, co53, eo53⟩ := Kd.S_slice HO_9.out
                                      subst eo53
                                      have p122 : 0 ≤ (x13_4 : Int) := of_decide_eq_true (by first | (with_reducible assumption) | assumption)
                                      have q122 : x13_4 < (t107.length : Int) := of_decide_eq_true (by first | (with_reducible assumption) | assumption)
                                      obtain ⟨ad122, A122_1, c122_1, e122, hx122_0, hx122_1, hl122_1, hi122_1⟩ := at_T36 (Kd.S_reads' HO_9.out).2.2 x13_4 p122 q122
                                      cases e122
                                      obtain ⟨ce122, hce122, hMe122, hcc122⟩ := Kd.S_get HO_9.out z36 x13_4 p122 (by first | exact q122 | exact of_decide_eq_true (by first | (with_reducible assumption) | assumption) | (have e_ := (Kd.S_reads' HO_9.out).1; omega))
                                      obtain ⟨ve122_1, rfl, ge122_1⟩ := k36_openM hMe122
                                      have hv122_1 := hcc122 1 _ rfl
                                      rw [add_field _ _ 1 (by omega)] at hv122_1
                                      replace hv122_1 := Option.some.inj (hv122_1.symm.trans hx122_1)
                                      rw [hv122_1] at ge122_1
                                      have HL122_1 := Aside0.mk (show Kd.R (Kd.int .i64) 3 _ _ _ _ ((rd_T36 t107 x13_4).f1) from ge122_1)
                                      clear hv122_1 ge122_1
                                      clear hcc122 hce122
                                      have HR122_1 := Aside0.mk hi122_1
                                      have HC122_1 := Aside0.mk hl122_1
                                      clear hi122_1 hl122_1
                                      replace p122 := eq_true p122
                                      replace q122 := eq_true q122
                                      try go_wp2
                                      have n0_ := Aside0.mk (Kd.S_drew HO_9.out)
                                      have n1_ := Aside0.mk (Kd.R_drew HO_10.out)
                                      have n2_ := Aside0.mk (Kd.R_drew HL122_1.out)
                                      have n3_ := Aside0.mk (Kd.C_drew HR122_1.out)
                                      have n4_ := Aside0.mk (below_drew1 HB.out)
                                      clear HO_9
                                      clear HO_10
                                      clear HL122_1
                                      clear HR122_1
                                      clear HB
                                      have HO_9 := n0_
                                      have HO_10 := n1_
                                      have HL122_1 := n2_
                                      have HR122_1 := n3_
                                      have HB := n4_
                                      clear n0_ n1_ n2_ n3_ n4_
                                      have p123 : 0 ≤ (x13_4 : Int) := of_decide_eq_true (by first | (with_reducible assumption) | assumption)
                                      have q123 : x13_4 < (t107.length : Int) := of_decide_eq_true (by first | (with_reducible assumption) | assumption)
                                      obtain ⟨ad123, A123_1, c123_1, e123, hx123_0, hx123_1, hl123_1, hi123_1⟩ := at_T36 (Kd.S_reads' HO_9.out).2.2 x13_4 p123 q123
                                      obtain rfl : ad122 = ad123 := (by injection e123)
                                      obtain ⟨ce123, hce123, hMe123, hcc123⟩ := Kd.S_get HO_9.out z36 x13_4 p123 (by first | exact q123 | exact of_decide_eq_true (by first | (with_reducible assumption) | assumption) | (have e_ := (Kd.S_reads' HO_9.out).1; omega))
                                      obtain ⟨ve123_1, rfl, ge123_1⟩ := k36_openM hMe123
                                      have hv123_1 := hcc123 1 _ rfl
                                      rw [add_field _ _ 1 (by omega)] at hv123_1
                                      replace hv123_1 := Option.some.inj (hv123_1.symm.trans hx123_1)
                                      rw [hv123_1] at ge123_1
                                      have HL123_1 := Aside0.mk (show Kd.R (Kd.int .i64) 3 _ _ _ _ ((rd_T36 t107 x13_4).f1) from ge123_1)
                                      clear hv123_1 ge123_1
                                      clear hcc123 hce123
                                      have HR123_1 := Aside0.mk hi123_1
                                      have HC123_1 := Aside0.mk hl123_1
                                      clear hi123_1 hl123_1
                                      replace p123 := eq_true p123
                                      replace q123 := eq_true q123
                                      have p124 : 0 ≤ (x11_3 : Int) := of_decide_eq_true (by first | (with_reducible assumption) | assumption)
                                      have q124 : x11_3 < (l3.length : Int) := of_decide_eq_true (by first | (with_reducible assumption) | assumption)
                                      obtain ⟨ad124, e124, hx124_0, hx124_1⟩ := at_T39 HR3.out x11_3 p124 q124
                                      have hw124_1 := hx124_1
                                      have hw124_0 := hx124_0
                                      cases e124
                                      replace hx124_0 := (HB.out.cell (World.block_lt_of_cell? w _ hx124_0)).trans hx124_0
                                      replace hx124_1 := (HB.out.cell (World.block_lt_of_cell? w _ hx124_1)).trans hx124_1
                                      replace p124 := eq_true p124
                                      replace q124 := eq_true q124
                                      refine start_ (n := 11) (S := fun w' => w'.cell? (ad122.add ((x13_4).toNat * 2)) = some (.int .i64 ((rd_T36 t107 x13_4).f0)) ∧ w'.cell? ⟨(ad122.add ((x13_4).toNat * 2)).block, (ad122.add ((x13_4).toNat * 2)).off + 1, none⟩ = some (.slice A123_1 ((rd_T36 t107 x13_4).f1).length c123_1) ∧ w'.cell? (ad124.add ((x11_3).toNat * 2)) = some (.int .i64 ((rd_T39 l3 x11_3).f0)) ∧ w'.cell? ⟨(ad124.add ((x11_3).toNat * 2)).block, (ad124.add ((x11_3).toNat * 2)).off + 1, none⟩ = some (.int .i64 ((rd_T39 l3 x11_3).f1))) (ds := []) #[false, false, false, false, false, false, false, false, false, false, false] (by kernel_rfl) rfl rfl ⟨hx123_0, hx123_1, ((HB.out.cell (World.block_lt_of_cell? w _ hw124_0)).trans hw124_0), ((HB.out.cell (World.block_lt_of_cell? w _ hw124_1)).trans hw124_1)⟩ (fun hHeld => ?_); refine with_tabW oublaw11_EvictOnce.tab17 oublaw11_EvictOnce.bits17 (fun HT_ HW_ => ?_)
                                      generalize wr.drew = w54 at HO_9 HO_10 HL122_1 HR122_1 HB HL123_1 HR123_1 hx123_0 hx123_1 hx124_0 hx124_1 hHeld ⊢
                                      refine pure_ (i := 0) (N := some 80) (v := ?_) (a' := ?_) #[true, false, false, false, false, false, false, false, false, false, false] rfl rfl (any_of HT_.out (by kernel_rfl)) (fun _ _ _ h => h) (Or.inl ⟨by rfl, ?_⟩) ?_ ?_
                                      rotate_left
                                      · intro w'
                                        go_simp
                                        with_reducible rfl
                                      rotate_left
                                      · simp only [Act.put, List.setIfInBounds_toArray, List.set_cons_zero, List.set_cons_succ, i64_w, i32_w]
                                        rfl
                                      refine pure_ (i := 1) (N := some 81) (v := ?_) (a' := ?_) #[true, true, false, false, false, false, false, false, false, false, false] rfl rfl (any_of HT_.out (by kernel_rfl)) (fun _ _ _ h => h) (Or.inl ⟨by rfl, ?_⟩) ?_ ?_
                                      rotate_left
                                      · intro w'
                                        go_simp
                                        with_reducible rfl
                                      rotate_left
                                      · simp only [Act.put, List.setIfInBounds_toArray, List.set_cons_zero, List.set_cons_succ, i64_w, i32_w]
                                        rfl
                                      refine pure_ (i := 2) (N := some 82) (v := ?_) (a' := ?_) #[true, true, true, false, false, false, false, false, false, false, false] rfl rfl (any_of HT_.out (by kernel_rfl)) (fun _ _ _ h => h) (Or.inl ⟨by rfl, ?_⟩) ?_ ?_
                                      rotate_left
                                      · intro w'
                                        go_simp
                                        with_reducible rfl
                                      rotate_left
                                      · simp only [Act.put, List.setIfInBounds_toArray, List.set_cons_zero, List.set_cons_succ, i64_w, i32_w]
                                        rfl
                                      refine pure_ (i := 3) (N := some 83) (v := ?_) (a' := ?_) #[true, true, true, true, false, false, false, false, false, false, false] rfl rfl (any_of HT_.out (by kernel_rfl)) (fun _ _ _ h => h) (Or.inl ⟨by rfl, ?_⟩) ?_ ?_
                                      rotate_left
                                      · intro w'
                                        go_simp
                                        with_reducible rfl
                                      rotate_left
                                      · simp only [Act.put, List.setIfInBounds_toArray, List.set_cons_zero, List.set_cons_succ, i64_w, i32_w]
                                        rfl
                                      refine pure_ (i := 5) (N := some 85) (v := ?_) (a' := ?_) #[true, true, true, true, false, true, false, false, false, false, false] rfl rfl (any_of HT_.out (by kernel_rfl)) (fun _ _ _ h => h) (Or.inl ⟨by rfl, ?_⟩) ?_ ?_
                                      rotate_left
                                      · intro w'
                                        go_simp
                                        with_reducible rfl
                                      rotate_left
                                      · simp only [Act.put, List.setIfInBounds_toArray, List.set_cons_zero, List.set_cons_succ, i64_w, i32_w]
                                        rfl
                                      refine pure_ (i := 6) (N := some 86) (v := ?_) (a' := ?_) #[true, true, true, true, false, true, true, false, false, false, false] rfl rfl (any_of HT_.out (by kernel_rfl)) (fun _ _ _ h => h) (Or.inl ⟨by rfl, ?_⟩) ?_ ?_
                                      rotate_left
                                      · intro w'
                                        go_simp
                                        with_reducible rfl
                                      rotate_left
                                      · simp only [Act.put, List.setIfInBounds_toArray, List.set_cons_zero, List.set_cons_succ, i64_w, i32_w]
                                        rfl
                                      refine pure_ (i := 7) (N := some 87) (v := ?_) (a' := ?_) #[true, true, true, true, false, true, true, true, false, false, false] rfl rfl (any_of HT_.out (by kernel_rfl)) (fun _ _ _ h => h) (Or.inl ⟨by rfl, ?_⟩) ?_ ?_
                                      rotate_left
                                      · intro w'
                                        go_simp
                                        with_reducible rfl
                                      rotate_left
                                      · simp only [Act.put, List.setIfInBounds_toArray, List.set_cons_zero, List.set_cons_succ, i64_w, i32_w]
                                        rfl
                                      refine pure_ (i := 8) (N := some 88) (v := ?_) (a' := ?_) #[true, true, true, true, false, true, true, true, true, false, false] rfl rfl (any_of HT_.out (by kernel_rfl)) (fun _ _ _ h => h) (Or.inl ⟨by rfl, ?_⟩) ?_ ?_
                                      rotate_left
                                      · intro w'
                                        go_simp
                                        with_reducible rfl
                                      rotate_left
                                      · simp only [Act.put, List.setIfInBounds_toArray, List.set_cons_zero, List.set_cons_succ, i64_w, i32_w]
                                        rfl
                                      refine take_ (i := 4) (N := some 84) (v := ?_) (a' := ?_) #[true, true, true, true, true, true, true, true, true, false, false] rfl rfl (take_ofW HT_.out HW_.out (by kernel_rfl)) (fun _ _ _ h => h) (Or.inl ⟨by rfl, ?_⟩) hHeld ?_ ?_
                                      rotate_left
                                      · rintro w' ⟨s0, s1, s2, s3⟩
                                        go_simp
                                        with_reducible rfl
                                      rotate_left
                                      · simp only [Act.put, List.setIfInBounds_toArray, List.set_cons_zero, List.set_cons_succ, i64_w, i32_w]
                                        rfl
                                      refine take_ (i := 9) (N := some 89) (v := ?_) (a' := ?_) #[true, true, true, true, true, true, true, true, true, true, false] rfl rfl (take_ofW HT_.out HW_.out (by kernel_rfl)) (fun _ _ _ h => h) (Or.inl ⟨by rfl, ?_⟩) hHeld ?_ ?_
                                      rotate_left
                                      · rintro w' ⟨s0, s1, s2, s3⟩
                                        go_simp
                                        with_reducible rfl
                                      rotate_left
                                      · simp only [Act.put, List.setIfInBounds_toArray, List.set_cons_zero, List.set_cons_succ, i64_w, i32_w]
                                        rfl
                                      refine one_ (i := 10) (N := some 90) #[true, true, true, true, true, true, true, true, true, true, true] rfl rfl (one_of HT_.out (by kernel_rfl)) (by decide) (fun K hK => ?_)
                                      refine goes_ Try.func15 (by kernel_rfl) rfl #[.slice A123_1 ((rd_T36 t107 x13_4).f1).length c123_1, .int .i64 ((rd_T39 l3 x11_3).f0)] (by rfl) rfl rfl (by (try simp only [List.map_toArray, List.map_cons, List.map_nil]); first | done | rfl | (simp only [List.length_drop, List.length_take]; rfl)) ?_
                                      with_reducible refine (oubref_Has.calls k4 _ _ ((rd_T36 t107 x13_4).f1) ((rd_T39 l3 x11_3).f0) false _ ?side1 ?side2 A45.out).mono ?_
                                      (case side1 => repeat (first | exact (by repeat (first | (with_reducible exact HR123_1.out) | (with_reducible refine Kd.C_alloc ?_ _) | (with_reducible refine Kd.C_drewN ?_ _) | (with_reducible refine Kd.C_drew ?_) | exact HR123_1.out)) | (with_reducible refine Kd.C_alloc ?_ _) | (with_reducible refine Kd.C_drewN ?_ _) | (with_reducible refine Kd.C_drew ?_)))
                                      (case side2 => exact HC123_1.out)
                                      rintro e w' ⟨rfl, ⟨nd, rfl⟩⟩
                                      refine ⟨_, rfl, ?_⟩
                                      refine hK.out _ _ ⟨hHeld.1, hHeld.2.1, ((HB.out.cell (World.block_lt_of_cell? w _ hw124_0)).trans hw124_0), ((HB.out.cell (World.block_lt_of_cell? w _ hw124_1)).trans hw124_1)⟩ (fun hHeld => ?_)
                                      clear hK K
                                      refine norm_ (a' := ?_) ?_ ?_
                                      rotate_left
                                      · show Act.put _ (some 90) _ = _
                                        simp only [Act.put, List.setIfInBounds_toArray, List.set_cons_zero, List.set_cons_succ, i64_w, i32_w]
                                        rfl
                                      refine done_ (done_of HT_.out (by kernel_rfl)) ?_
                                      try go_wp2
                                      go_roundg k4
                                      case measure => have := HJ6.out; have := HJ18.out; have := HK3.out; have := HK4.out; omega
                                      case rel => exact ⟨(x12_4), (wrap64 (x13_4 + 1)), (by first | rfl | (simp; done) | (simp [*]; done)), (by first | rfl | (simp; done) | (simp [*]; done)), H', ⟨by have := HJ6.out; have := HJ18.out; have := HK3.out; have := HK4.out; omega⟩, ⟨by (with_reducible repeat (first | apply Kd.S_alloc | apply Kd.S_drewN | apply Kd.S_drew)); exact HO_9.out⟩, ⟨by (with_reducible repeat (first | apply Kd.R_alloc | apply Kd.R_drewN | apply Kd.R_drew)); exact HO_10.out⟩, ⟨by repeat (first | (with_reducible first | exact HB.out | apply below_alloc | apply pw_below_drewN | apply below_drew1) | exact HB.out)⟩⟩
                                  · rw [if_neg c44] at H
                                    exact absurd H (by simp)
                                · rw [if_neg c43] at H
                                  exact absurd H (by simp)
                            · rw [if_neg c41] at H
                              exact absurd H (by simp)
                          · rw [if_neg c40] at H
                            have c40b0 : decide (x13_4 < (t107.length : Int)) = false := decide_eq_false c40
                            clear c40
                            by_cases c55 : 0 ≤ x11_3
                            · rw [if_pos c55] at H
                              have c55b0 : decide (0 ≤ x11_3) = true := decide_eq_true c55
                              clear c55
                              by_cases c56 : x11_3 < (l3.length : Int)
                              · rw [if_pos c56] at H
                                have c56b0 : decide (x11_3 < (l3.length : Int)) = true := decide_eq_true c56
                                clear c56
                                replace H := Option.bind_eq_some_iff.mp H
                                obtain ⟨t130, A570, H⟩ := H
                                replace H : (if t130 = true then (oublaw11_EvictOnce.l2 k4 a0 a1 l3 t107 t108 x11_3 (wrap64 (x12_4 + 1)) 0) else (if x12_4 = 1 then (oublaw11_EvictOnce.l0 k4 a0 a1 l3 t107 t108 (wrap64 (x11_3 + 1))) else (some false))) = some r := H
                                have A57 := Aside0.mk A570
                                clear A570
                                by_cases c58 : t130 = true
                                · subst c58
                                  have H1 : (oublaw11_EvictOnce.l2 k4 a0 a1 l3 t107 t108 x11_3 (wrap64 (x12_4 + 1)) 0) = some r := by rw [if_pos rfl] at H; exact H
                                  clear H
                                  have H := H1
                                  clear H1
                                  have H' := Aside0.mk H
                                  clear H
                                  obtain ⟨Ao59, co59, eo59⟩ := Kd.S_slice HO_9.out
                                  subst eo59
                                  have p129 : 0 ≤ (x11_3 : Int) := of_decide_eq_true (by first | (with_reducible assumption) | assumption)
                                  have q129 : x11_3 < (l3.length : Int) := of_decide_eq_true (by first | (with_reducible assumption) | assumption)
                                  obtain ⟨ad129, e129, hx129_0, hx129_1⟩ := at_T39 HR3.out x11_3 p129 q129
                                  cases e129
                                  replace hx129_0 := (HB.out.cell (World.block_lt_of_cell? w _ hx129_0)).trans hx129_0
                                  replace hx129_1 := (HB.out.cell (World.block_lt_of_cell? w _ hx129_1)).trans hx129_1
                                  replace p129 := eq_true p129
                                  replace q129 := eq_true q129
                                  obtain ⟨Ao60, co60, eo60⟩ := Kd.R_slice HO_10.out
                                  subst eo60
                                  go_wp2_with (first | ((with_reducible refine gate_callee (f := 15) rfl ?_); refine goesL_ (some 112) rfl rfl Try.func15 (by kernel_rfl) rfl #[.slice Ao60 t108.length co60, .int .i64 ((rd_T39 l3 x11_3).f0)] rfl (by (try simp only [List.map_toArray, List.map_cons, List.map_nil]); first | done | rfl | (simp only [List.length_drop, List.length_take]; rfl)) ?_; (with_reducible refine (oubref_Has.calls k4 _ _ t108 ((rd_T39 l3 x11_3).f0) true _ ?side1 ?side2 A57.out).mono ?_); (case side1 => repeat (first | exact (Kd.R_reads' HO_10.out).2.2 | (with_reducible refine Kd.C_alloc ?_ _) | (with_reducible refine Kd.C_drewN ?_ _) | (with_reducible refine Kd.C_drew ?_))); (case side2 => exact (Kd.R_reads' HO_10.out).2.1); rintro e w' ⟨rfl, ⟨nd, rfl⟩⟩; refine ⟨_, rfl, ?_⟩))
                                  go_loopg [14] k4 (fun kq v14 w' => ∃ (x14_5 : Int), v14 = .int .i64 x14_5 ∧ Aside0 (oublaw11_EvictOnce.l2 kq a0 a1 l3 t107 t108 x11_3 (wrap64 (x12_4 + 1)) x14_5 = some r) ∧ Aside0 (kq ≤ k4) ∧ Aside0 (Kd.S k36 36 w' w.heap.size (fun k_ => some k_ ≠ ((.slice Ao60 t108.length co60) : Value).ownBlock) (.slice Ao59 t107.length co59) t107) ∧ Aside0 (Kd.R (Kd.int .i64) 3 w' w.heap.size (fun _ => True) (.slice Ao60 t108.length co60) t108) ∧ Aside0 (Below w.heap.size w w'))
                                  case atStart => exact ⟨(0), (by first | rfl | (simp; done) | (simp [*]; done)), H', ⟨Nat.le_refl _⟩, ⟨by (with_reducible repeat (first | apply Kd.S_alloc | apply Kd.S_drewN | apply Kd.S_drew)); exact HO_9.out⟩, ⟨by (with_reducible repeat (first | apply Kd.R_alloc | apply Kd.R_drewN | apply Kd.R_drew)); exact HO_10.out⟩, ⟨by repeat (first | (with_reducible first | exact HB.out | apply below_alloc | apply pw_below_drewN | apply below_drew1) | exact HB.out)⟩⟩
                                  case round =>
                                    clear H'
                                    try clear c1
                                    try clear p1
                                    try clear q1
                                    try clear hx1
                                    try clear p2
                                    try clear c4
                                    try clear c5
                                    try clear p6
                                    try clear c12
                                    try clear p12
                                    try clear q12
                                    try clear hx12
                                    try clear c15
                                    try clear c16
                                    try clear c40
                                    try clear c40b0
                                    try clear c41
                                    try clear c43
                                    try clear c44
                                    try clear c46
                                    try clear c48
                                    try clear c55
                                    try clear c55b0
                                    try clear c56
                                    try clear c56b0
                                    try clear c58
                                    try clear hx122_0
                                    try clear hx122_1
                                    try clear hx123_0
                                    try clear hx123_1
                                    try clear hx124_0
                                    try clear hx124_1
                                    try clear hx126_0
                                    try clear hx126_1
                                    try clear hx127_0
                                    try clear hx127_1
                                    try clear hx129_0
                                    try clear hx129_1
                                    try clear p122
                                    try clear p123
                                    try clear p124
                                    try clear p126
                                    try clear p127
                                    try clear p129
                                    try clear q122
                                    try clear q123
                                    try clear q124
                                    try clear q126
                                    try clear q127
                                    try clear q129
                                    obtain ⟨x14_5, rfl, HA, HK5, HO_9, HO_10, HB⟩ := hrel
                                    cases gk with
                                    | zero => exact absurd HA.out (by simp [oublaw11_EvictOnce.l2])
                                    | succ k5 =>
                                      have H := HA.out
                                      clear HA
                                      simp only [oublaw11_EvictOnce.l2] at H
                                      by_cases c61 : x14_5 < (t107.length : Int)
                                      · rw [if_pos c61] at H
                                        have c61b0 : decide (x14_5 < (t107.length : Int)) = true := decide_eq_true c61
                                        clear c61
                                        by_cases c62 : 0 ≤ x14_5
                                        · rw [if_pos c62] at H
                                          have c62b0 : decide (0 ≤ x14_5) = true := decide_eq_true c62
                                          clear c62
                                          by_cases c63 : 0 ≤ x11_3
                                          · rw [if_pos c63] at H
                                            have c63b0 : decide (0 ≤ x11_3) = true := decide_eq_true c63
                                            clear c63
                                            by_cases c64 : x11_3 < (l3.length : Int)
                                            · rw [if_pos c64] at H
                                              have c64b0 : decide (x11_3 < (l3.length : Int)) = true := decide_eq_true c64
                                              clear c64
                                              replace H := Option.bind_eq_some_iff.mp H
                                              obtain ⟨t133, A650, H⟩ := H
                                              replace H : (if t133 = true then (if (((rd_T36 t107 x14_5).f1).length : Int) < a1 then (some false) else (oublaw11_EvictOnce.l2 k5 a0 a1 l3 t107 t108 x11_3 (wrap64 (x12_4 + 1)) (wrap64 (x14_5 + 1)))) else (oublaw11_EvictOnce.l2 k5 a0 a1 l3 t107 t108 x11_3 (wrap64 (x12_4 + 1)) (wrap64 (x14_5 + 1)))) = some r := H
                                              have A65 := Aside0.mk A650
                                              clear A650
                                              by_cases c66 : t133 = true
                                              · subst c66
                                                have H1 : (if (((rd_T36 t107 x14_5).f1).length : Int) < a1 then (some false) else (oublaw11_EvictOnce.l2 k5 a0 a1 l3 t107 t108 x11_3 (wrap64 (x12_4 + 1)) (wrap64 (x14_5 + 1)))) = some r := by rw [if_pos rfl] at H; exact H
                                                clear H
                                                have H := H1
                                                clear H1
                                                by_cases c67 : (((rd_T36 t107 x14_5).f1).length : Int) < a1
                                                · rw [if_pos c67] at H
                                                  have c67b0 : decide ((((rd_T36 t107 x14_5).f1).length : Int) < a1) = true := decide_eq_true c67
                                                  clear c67
                                                  exact absurd (Option.some.inj H) (by rw [HT.out]; decide)
                                                · rw [if_neg c67] at H
                                                  have c67b0 : decide ((((rd_T36 t107 x14_5).f1).length : Int) < a1) = false := decide_eq_false c67
                                                  clear c67
                                                  have H' := Aside0.mk H
                                                  clear H
                                                  try go_wp2
                                                  have n0_ := Aside0.mk (Kd.S_drew HO_9.out)
                                                  have n1_ := Aside0.mk (Kd.R_drew HO_10.out)
                                                  have n2_ := Aside0.mk (below_drew1 HB.out)
                                                  clear HO_9
                                                  clear HO_10
                                                  clear HB
                                                  have HO_9 := n0_
                                                  have HO_10 := n1_
                                                  have HB := n2_
                                                  clear n0_ n1_ n2_
                                                  have p131 : 0 ≤ (x14_5 : Int) := of_decide_eq_true (by first | (with_reducible assumption) | assumption)
                                                  have q131 : x14_5 < (t107.length : Int) := of_decide_eq_true (by first | (with_reducible assumption) | assumption)
                                                  obtain ⟨ad131, A131_1, c131_1, e131, hx131_0, hx131_1, hl131_1, hi131_1⟩ := at_T36 (Kd.S_reads' HO_9.out).2.2 x14_5 p131 q131
                                                  cases e131
                                                  obtain ⟨ce131, hce131, hMe131, hcc131⟩ := Kd.S_get HO_9.out z36 x14_5 p131 (by first | exact q131 | exact of_decide_eq_true (by first | (with_reducible assumption) | assumption) | (have e_ := (Kd.S_reads' HO_9.out).1; omega))
                                                  obtain ⟨ve131_1, rfl, ge131_1⟩ := k36_openM hMe131
                                                  have hv131_1 := hcc131 1 _ rfl
                                                  rw [add_field _ _ 1 (by omega)] at hv131_1
                                                  replace hv131_1 := Option.some.inj (hv131_1.symm.trans hx131_1)
                                                  rw [hv131_1] at ge131_1
                                                  have HL131_1 := Aside0.mk (show Kd.R (Kd.int .i64) 3 _ _ _ _ ((rd_T36 t107 x14_5).f1) from ge131_1)
                                                  clear hv131_1 ge131_1
                                                  clear hcc131 hce131
                                                  have HR131_1 := Aside0.mk hi131_1
                                                  have HC131_1 := Aside0.mk hl131_1
                                                  clear hi131_1 hl131_1
                                                  replace p131 := eq_true p131
                                                  replace q131 := eq_true q131
                                                  have p132 : 0 ≤ (x11_3 : Int) := of_decide_eq_true (by first | (with_reducible assumption) | assumption)
                                                  have q132 : x11_3 < (l3.length : Int) := of_decide_eq_true (by first | (with_reducible assumption) | assumption)
                                                  obtain ⟨ad132, e132, hx132_0, hx132_1⟩ := at_T39 HR3.out x11_3 p132 q132
                                                  have hw132_1 := hx132_1
                                                  have hw132_0 := hx132_0
                                                  obtain rfl : ad129 = ad132 := (by injection e132)
                                                  replace hx132_0 := (HB.out.cell (World.block_lt_of_cell? w _ hx132_0)).trans hx132_0
                                                  replace hx132_1 := (HB.out.cell (World.block_lt_of_cell? w _ hx132_1)).trans hx132_1
                                                  replace p132 := eq_true p132
                                                  replace q132 := eq_true q132
                                                  have p134 : 0 ≤ (x14_5 : Int) := of_decide_eq_true (by first | (with_reducible assumption) | assumption)
                                                  have q134 : x14_5 < (t107.length : Int) := of_decide_eq_true (by first | (with_reducible assumption) | assumption)
                                                  obtain ⟨ad134, A134_1, c134_1, e134, hx134_0, hx134_1, hl134_1, hi134_1⟩ := at_T36 (Kd.S_reads' HO_9.out).2.2 x14_5 p134 q134
                                                  obtain rfl : ad131 = ad134 := (by injection e134)
                                                  obtain ⟨ce134, hce134, hMe134, hcc134⟩ := Kd.S_get HO_9.out z36 x14_5 p134 (by first | exact q134 | exact of_decide_eq_true (by first | (with_reducible assumption) | assumption) | (have e_ := (Kd.S_reads' HO_9.out).1; omega))
                                                  obtain ⟨ve134_1, rfl, ge134_1⟩ := k36_openM hMe134
                                                  have hv134_1 := hcc134 1 _ rfl
                                                  rw [add_field _ _ 1 (by omega)] at hv134_1
                                                  replace hv134_1 := Option.some.inj (hv134_1.symm.trans hx134_1)
                                                  rw [hv134_1] at ge134_1
                                                  have HL134_1 := Aside0.mk (show Kd.R (Kd.int .i64) 3 _ _ _ _ ((rd_T36 t107 x14_5).f1) from ge134_1)
                                                  clear hv134_1 ge134_1
                                                  clear hcc134 hce134
                                                  have HR134_1 := Aside0.mk hi134_1
                                                  have HC134_1 := Aside0.mk hl134_1
                                                  clear hi134_1 hl134_1
                                                  replace p134 := eq_true p134
                                                  replace q134 := eq_true q134
                                                  refine start_ (n := 22) (S := fun w' => w'.cell? (ad131.add ((x14_5).toNat * 2)) = some (.int .i64 ((rd_T36 t107 x14_5).f0)) ∧ w'.cell? ⟨(ad131.add ((x14_5).toNat * 2)).block, (ad131.add ((x14_5).toNat * 2)).off + 1, none⟩ = some (.slice A131_1 ((rd_T36 t107 x14_5).f1).length c131_1) ∧ w'.cell? (ad129.add ((x11_3).toNat * 2)) = some (.int .i64 ((rd_T39 l3 x11_3).f0)) ∧ w'.cell? ⟨(ad129.add ((x11_3).toNat * 2)).block, (ad129.add ((x11_3).toNat * 2)).off + 1, none⟩ = some (.int .i64 ((rd_T39 l3 x11_3).f1)) ∧ w'.cell? (ad131.add ((x14_5).toNat * 2)) = some (.int .i64 ((rd_T36 t107 x14_5).f0)) ∧ w'.cell? ⟨(ad131.add ((x14_5).toNat * 2)).block, (ad131.add ((x14_5).toNat * 2)).off + 1, none⟩ = some (.slice A134_1 ((rd_T36 t107 x14_5).f1).length c134_1)) (ds := []) #[false, false, false, false, false, false, false, false, false, false, false, false, false, false, false, false, false, false, false, false, false, false] (by kernel_rfl) rfl rfl ⟨hx131_0, hx131_1, ((HB.out.cell (World.block_lt_of_cell? w _ hw132_0)).trans hw132_0), ((HB.out.cell (World.block_lt_of_cell? w _ hw132_1)).trans hw132_1), hx134_0, hx134_1⟩ (fun hHeld => ?_); refine with_tabW oublaw11_EvictOnce.tab26 oublaw11_EvictOnce.bits26 (fun HT_ HW_ => ?_)
                                                  generalize wr.drew = w68 at HO_9 HO_10 HB HL131_1 HL134_1 HR131_1 HR134_1 hx131_0 hx131_1 hx132_0 hx132_1 hx134_0 hx134_1 hHeld ⊢
                                                  refine pure_ (i := 0) (N := some 121) (v := ?_) (a' := ?_) #[true, false, false, false, false, false, false, false, false, false, false, false, false, false, false, false, false, false, false, false, false, false] rfl rfl (any_of HT_.out (by kernel_rfl)) (fun _ _ _ h => h) (Or.inl ⟨by rfl, ?_⟩) ?_ ?_
                                                  rotate_left
                                                  · intro w'
                                                    go_simp
                                                    with_reducible rfl
                                                  rotate_left
                                                  · simp only [Act.put, List.setIfInBounds_toArray, List.set_cons_zero, List.set_cons_succ, i64_w, i32_w]
                                                    rfl
                                                  refine pure_ (i := 1) (N := some 122) (v := ?_) (a' := ?_) #[true, true, false, false, false, false, false, false, false, false, false, false, false, false, false, false, false, false, false, false, false, false] rfl rfl (any_of HT_.out (by kernel_rfl)) (fun _ _ _ h => h) (Or.inl ⟨by rfl, ?_⟩) ?_ ?_
                                                  rotate_left
                                                  · intro w'
                                                    go_simp
                                                    with_reducible rfl
                                                  rotate_left
                                                  · simp only [Act.put, List.setIfInBounds_toArray, List.set_cons_zero, List.set_cons_succ, i64_w, i32_w]
                                                    rfl
                                                  refine pure_ (i := 2) (N := some 123) (v := ?_) (a' := ?_) #[true, true, true, false, false, false, false, false, false, false, false, false, false, false, false, false, false, false, false, false, false, false] rfl rfl (any_of HT_.out (by kernel_rfl)) (fun _ _ _ h => h) (Or.inl ⟨by rfl, ?_⟩) ?_ ?_
                                                  rotate_left
                                                  · intro w'
                                                    go_simp
                                                    with_reducible rfl
                                                  rotate_left
                                                  · simp only [Act.put, List.setIfInBounds_toArray, List.set_cons_zero, List.set_cons_succ, i64_w, i32_w]
                                                    rfl
                                                  refine pure_ (i := 3) (N := some 124) (v := ?_) (a' := ?_) #[true, true, true, true, false, false, false, false, false, false, false, false, false, false, false, false, false, false, false, false, false, false] rfl rfl (any_of HT_.out (by kernel_rfl)) (fun _ _ _ h => h) (Or.inl ⟨by rfl, ?_⟩) ?_ ?_
                                                  rotate_left
                                                  · intro w'
                                                    go_simp
                                                    with_reducible rfl
                                                  rotate_left
                                                  · simp only [Act.put, List.setIfInBounds_toArray, List.set_cons_zero, List.set_cons_succ, i64_w, i32_w]
                                                    rfl
                                                  refine pure_ (i := 4) (N := some 125) (v := ?_) (a' := ?_) #[true, true, true, true, true, false, false, false, false, false, false, false, false, false, false, false, false, false, false, false, false, false] rfl rfl (any_of HT_.out (by kernel_rfl)) (fun _ _ _ h => h) (Or.inl ⟨by rfl, ?_⟩) ?_ ?_
                                                  rotate_left
                                                  · intro w'
                                                    go_simp
                                                    with_reducible rfl
                                                  rotate_left
                                                  · simp only [Act.put, List.setIfInBounds_toArray, List.set_cons_zero, List.set_cons_succ, i64_w, i32_w]
                                                    rfl
                                                  refine pure_ (i := 6) (N := some 127) (v := ?_) (a' := ?_) #[true, true, true, true, true, false, true, false, false, false, false, false, false, false, false, false, false, false, false, false, false, false] rfl rfl (any_of HT_.out (by kernel_rfl)) (fun _ _ _ h => h) (Or.inl ⟨by rfl, ?_⟩) ?_ ?_
                                                  rotate_left
                                                  · intro w'
                                                    go_simp
                                                    with_reducible rfl
                                                  rotate_left
                                                  · simp only [Act.put, List.setIfInBounds_toArray, List.set_cons_zero, List.set_cons_succ, i64_w, i32_w]
                                                    rfl
                                                  refine pure_ (i := 7) (N := some 128) (v := ?_) (a' := ?_) #[true, true, true, true, true, false, true, true, false, false, false, false, false, false, false, false, false, false, false, false, false, false] rfl rfl (any_of HT_.out (by kernel_rfl)) (fun _ _ _ h => h) (Or.inl ⟨by rfl, ?_⟩) ?_ ?_
                                                  rotate_left
                                                  · intro w'
                                                    go_simp
                                                    with_reducible rfl
                                                  rotate_left
                                                  · simp only [Act.put, List.setIfInBounds_toArray, List.set_cons_zero, List.set_cons_succ, i64_w, i32_w]
                                                    rfl
                                                  refine pure_ (i := 8) (N := some 129) (v := ?_) (a' := ?_) #[true, true, true, true, true, false, true, true, true, false, false, false, false, false, false, false, false, false, false, false, false, false] rfl rfl (any_of HT_.out (by kernel_rfl)) (fun _ _ _ h => h) (Or.inl ⟨by rfl, ?_⟩) ?_ ?_
                                                  rotate_left
                                                  · intro w'
                                                    go_simp
                                                    with_reducible rfl
                                                  rotate_left
                                                  · simp only [Act.put, List.setIfInBounds_toArray, List.set_cons_zero, List.set_cons_succ, i64_w, i32_w]
                                                    rfl
                                                  refine pure_ (i := 9) (N := some 130) (v := ?_) (a' := ?_) #[true, true, true, true, true, false, true, true, true, true, false, false, false, false, false, false, false, false, false, false, false, false] rfl rfl (any_of HT_.out (by kernel_rfl)) (fun _ _ _ h => h) (Or.inl ⟨by rfl, ?_⟩) ?_ ?_
                                                  rotate_left
                                                  · intro w'
                                                    go_simp
                                                    with_reducible rfl
                                                  rotate_left
                                                  · simp only [Act.put, List.setIfInBounds_toArray, List.set_cons_zero, List.set_cons_succ, i64_w, i32_w]
                                                    rfl
                                                  refine take_ (i := 5) (N := some 126) (v := ?_) (a' := ?_) #[true, true, true, true, true, true, true, true, true, true, false, false, false, false, false, false, false, false, false, false, false, false] rfl rfl (take_ofW HT_.out HW_.out (by kernel_rfl)) (fun _ _ _ h => h) (Or.inl ⟨by rfl, ?_⟩) hHeld ?_ ?_
                                                  rotate_left
                                                  · rintro w' ⟨s0, s1, s2, s3, s4, s5⟩
                                                    go_simp
                                                    with_reducible rfl
                                                  rotate_left
                                                  · simp only [Act.put, List.setIfInBounds_toArray, List.set_cons_zero, List.set_cons_succ, i64_w, i32_w]
                                                    rfl
                                                  refine take_ (i := 10) (N := some 131) (v := ?_) (a' := ?_) #[true, true, true, true, true, true, true, true, true, true, true, false, false, false, false, false, false, false, false, false, false, false] rfl rfl (take_ofW HT_.out HW_.out (by kernel_rfl)) (fun _ _ _ h => h) (Or.inl ⟨by rfl, ?_⟩) hHeld ?_ ?_
                                                  rotate_left
                                                  · rintro w' ⟨s0, s1, s2, s3, s4, s5⟩
                                                    go_simp
                                                    with_reducible rfl
                                                  rotate_left
                                                  · simp only [Act.put, List.setIfInBounds_toArray, List.set_cons_zero, List.set_cons_succ, i64_w, i32_w]
                                                    rfl
                                                  refine one_ (i := 11) (N := some 132) #[true, true, true, true, true, true, true, true, true, true, true, true, false, false, false, false, false, false, false, false, false, false] rfl rfl (one_of HT_.out (by kernel_rfl)) (by decide) (fun K hK => ?_)
                                                  refine goes_ Try.func16 (by kernel_rfl) rfl #[.int .i64 a0, .int .i64 ((rd_T36 t107 x14_5).f0), .int .i64 ((rd_T39 l3 x11_3).f1)] (by rfl) rfl rfl (by (try simp only [List.map_toArray, List.map_cons, List.map_nil]); first | done | rfl | (simp only [List.length_drop, List.length_take]; rfl)) ?_
                                                  with_reducible refine (tree_On.calls k5 a0 ((rd_T36 t107 x14_5).f0) ((rd_T39 l3 x11_3).f1) true _ A65.out).mono ?_
                                                  rintro e w69 ⟨rfl, hb⟩
                                                  have HS0_ := (hb.cell (World.block_lt_of_cell? _ _ (hHeld.1))).trans (hHeld.1)
                                                  have HS1_ := (hb.cell (World.block_lt_of_cell? _ _ (hHeld.2.1))).trans (hHeld.2.1)
                                                  have HS4_ := (hb.cell (World.block_lt_of_cell? _ _ (hHeld.2.2.2.2.1))).trans (hHeld.2.2.2.2.1)
                                                  have HS5_ := (hb.cell (World.block_lt_of_cell? _ _ (hHeld.2.2.2.2.2))).trans (hHeld.2.2.2.2.2)
                                                  refine ⟨_, rfl, ?_⟩
                                                  have n0_ := Aside0.mk (Kd.S_below (by (with_reducible repeat (first | apply Kd.S_alloc | apply Kd.S_drewN | apply Kd.S_drew)); exact HO_9.out) hb)
                                                  have n1_ := Aside0.mk (Kd.R_below (by (with_reducible repeat (first | apply Kd.R_alloc | apply Kd.R_drewN | apply Kd.R_drew)); exact HO_10.out) hb)
                                                  have n2_ := Aside0.mk (Kd.R_below (by (with_reducible repeat (first | apply Kd.R_alloc | apply Kd.R_drewN | apply Kd.R_drew)); exact HL131_1.out) hb)
                                                  have n3_ := Aside0.mk (Kd.C_below (by repeat (first | (with_reducible exact HR131_1.out) | (with_reducible refine Kd.C_alloc ?_ _) | (with_reducible refine Kd.C_drewN ?_ _) | (with_reducible refine Kd.C_drew ?_) | exact HR131_1.out)) hb)
                                                  have n4_ := Aside0.mk (below_step (by repeat (first | (with_reducible first | exact HB.out | apply below_alloc | apply pw_below_drewN | apply below_drew1) | exact HB.out)) hb)
                                                  clear HO_9
                                                  clear HO_10
                                                  clear HL131_1
                                                  clear HR131_1
                                                  clear HB
                                                  have HO_9 := n0_
                                                  have HO_10 := n1_
                                                  have HL131_1 := n2_
                                                  have HR131_1 := n3_
                                                  have HB := n4_
                                                  clear n0_ n1_ n2_ n3_ n4_
                                                  (try clear hb)
                                                  (try clear hb2)
                                                  (try clear hk)
                                                  (try clear hi)
                                                  refine hK.out _ _ ⟨HS0_, HS1_, ((HB.out.cell (World.block_lt_of_cell? w _ hw132_0)).trans hw132_0), ((HB.out.cell (World.block_lt_of_cell? w _ hw132_1)).trans hw132_1), HS4_, HS5_⟩ (fun hHeld => ?_)
                                                  clear hK K
                                                  refine norm_ (a' := ?_) ?_ ?_
                                                  rotate_left
                                                  · show Act.put _ (some 132) _ = _
                                                    simp only [Act.put, List.setIfInBounds_toArray, List.set_cons_zero, List.set_cons_succ, i64_w, i32_w]
                                                    rfl
                                                  refine pure_ (i := 12) (N := some 133) (v := ?_) (a' := ?_) #[true, true, true, true, true, true, true, true, true, true, true, true, true, false, false, false, false, false, false, false, false, false] rfl rfl (any_of HT_.out (by kernel_rfl)) (fun _ _ _ h => h) (Or.inl ⟨by rfl, ?_⟩) ?_ ?_
                                                  rotate_left
                                                  · intro w'
                                                    go_simp
                                                    with_reducible rfl
                                                  rotate_left
                                                  · simp only [Act.put, List.setIfInBounds_toArray, List.set_cons_zero, List.set_cons_succ, i64_w, i32_w]
                                                    rfl
                                                  refine pure_ (i := 13) (N := some 134) (v := ?_) (a' := ?_) #[true, true, true, true, true, true, true, true, true, true, true, true, true, true, false, false, false, false, false, false, false, false] rfl rfl (any_of HT_.out (by kernel_rfl)) (fun _ _ _ h => h) (Or.inl ⟨by rfl, ?_⟩) ?_ ?_
                                                  rotate_left
                                                  · intro w'
                                                    go_simp
                                                    with_reducible rfl
                                                  rotate_left
                                                  · simp only [Act.put, List.setIfInBounds_toArray, List.set_cons_zero, List.set_cons_succ, i64_w, i32_w]
                                                    rfl
                                                  refine pure_ (i := 14) (N := some 135) (v := ?_) (a' := ?_) #[true, true, true, true, true, true, true, true, true, true, true, true, true, true, true, false, false, false, false, false, false, false] rfl rfl (any_of HT_.out (by kernel_rfl)) (fun _ _ _ h => h) (Or.inl ⟨by rfl, ?_⟩) ?_ ?_
                                                  rotate_left
                                                  · intro w'
                                                    go_simp
                                                    with_reducible rfl
                                                  rotate_left
                                                  · simp only [Act.put, List.setIfInBounds_toArray, List.set_cons_zero, List.set_cons_succ, i64_w, i32_w]
                                                    rfl
                                                  refine pure_ (i := 15) (N := some 136) (v := ?_) (a' := ?_) #[true, true, true, true, true, true, true, true, true, true, true, true, true, true, true, true, false, false, false, false, false, false] rfl rfl (any_of HT_.out (by kernel_rfl)) (fun _ _ _ h => h) (Or.inl ⟨by rfl, ?_⟩) ?_ ?_
                                                  rotate_left
                                                  · intro w'
                                                    go_simp
                                                    with_reducible rfl
                                                  rotate_left
                                                  · simp only [Act.put, List.setIfInBounds_toArray, List.set_cons_zero, List.set_cons_succ, i64_w, i32_w]
                                                    rfl
                                                  refine pure_ (i := 16) (N := some 137) (v := ?_) (a' := ?_) #[true, true, true, true, true, true, true, true, true, true, true, true, true, true, true, true, true, false, false, false, false, false] rfl rfl (any_of HT_.out (by kernel_rfl)) (fun _ _ _ h => h) (Or.inl ⟨by rfl, ?_⟩) ?_ ?_
                                                  rotate_left
                                                  · intro w'
                                                    go_simp
                                                    with_reducible rfl
                                                  rotate_left
                                                  · simp only [Act.put, List.setIfInBounds_toArray, List.set_cons_zero, List.set_cons_succ, i64_w, i32_w]
                                                    rfl
                                                  refine pure_ (i := 19) (N := some 140) (v := ?_) (a' := ?_) #[true, true, true, true, true, true, true, true, true, true, true, true, true, true, true, true, true, false, false, true, false, false] rfl rfl (any_of HT_.out (by kernel_rfl)) (fun _ _ _ h => h) (Or.inl ⟨by rfl, ?_⟩) ?_ ?_
                                                  rotate_left
                                                  · intro w'
                                                    go_simp
                                                    with_reducible rfl
                                                  rotate_left
                                                  · simp only [Act.put, List.setIfInBounds_toArray, List.set_cons_zero, List.set_cons_succ, i64_w, i32_w]
                                                    rfl
                                                  refine take_ (i := 17) (N := some 138) (v := ?_) (a' := ?_) #[true, true, true, true, true, true, true, true, true, true, true, true, true, true, true, true, true, true, false, true, false, false] rfl rfl (take_ofW HT_.out HW_.out (by kernel_rfl)) (fun _ _ _ h => h) (Or.inl ⟨by rfl, ?_⟩) hHeld ?_ ?_
                                                  rotate_left
                                                  · rintro w' ⟨s0, s1, s2, s3, s4, s5⟩
                                                    go_simp
                                                    with_reducible rfl
                                                  rotate_left
                                                  · simp only [Act.put, List.setIfInBounds_toArray, List.set_cons_zero, List.set_cons_succ, i64_w, i32_w]
                                                    rfl
                                                  refine pure_ (i := 18) (N := some 139) (v := ?_) (a' := ?_) #[true, true, true, true, true, true, true, true, true, true, true, true, true, true, true, true, true, true, true, true, false, false] rfl rfl (any_of HT_.out (by kernel_rfl)) (fun _ _ _ h => h) (Or.inl ⟨by rfl, ?_⟩) ?_ ?_
                                                  rotate_left
                                                  · intro w'
                                                    go_simp
                                                    with_reducible rfl
                                                  rotate_left
                                                  · simp only [Act.put, List.setIfInBounds_toArray, List.set_cons_zero, List.set_cons_succ, i64_w, i32_w]
                                                    rfl
                                                  refine pure_ (i := 20) (N := some 141) (v := ?_) (a' := ?_) #[true, true, true, true, true, true, true, true, true, true, true, true, true, true, true, true, true, true, true, true, true, false] rfl rfl (any_of HT_.out (by kernel_rfl)) (fun _ _ _ h => h) (Or.inl ⟨by rfl, ?_⟩) ?_ ?_
                                                  rotate_left
                                                  · intro w'
                                                    go_simp
                                                    with_reducible rfl
                                                  rotate_left
                                                  · simp only [Act.put, List.setIfInBounds_toArray, List.set_cons_zero, List.set_cons_succ, i64_w, i32_w]
                                                    rfl
                                                  refine pure_ (i := 21) (N := some 142) (v := ?_) (a' := ?_) #[true, true, true, true, true, true, true, true, true, true, true, true, true, true, true, true, true, true, true, true, true, true] rfl rfl (any_of HT_.out (by kernel_rfl)) (fun _ _ _ h => h) (Or.inl ⟨by rfl, ?_⟩) ?_ ?_
                                                  rotate_left
                                                  · intro w'
                                                    go_simp
                                                    with_reducible rfl
                                                  rotate_left
                                                  · simp only [Act.put, List.setIfInBounds_toArray, List.set_cons_zero, List.set_cons_succ, i64_w, i32_w]
                                                    rfl
                                                  refine done_ (done_of HT_.out (by kernel_rfl)) ?_
                                                  try go_wp2
                                                  go_roundg k5
                                                  case measure => have := HJ6.out; have := HJ18.out; have := HK3.out; have := HK4.out; have := HK5.out; omega
                                                  case rel => exact ⟨(wrap64 (x14_5 + 1)), (by first | rfl | (simp; done) | (simp [*]; done)), H', ⟨by have := HJ6.out; have := HJ18.out; have := HK3.out; have := HK4.out; have := HK5.out; omega⟩, ⟨by (with_reducible repeat (first | apply Kd.S_alloc | apply Kd.S_drewN | apply Kd.S_drew)); exact HO_9.out⟩, ⟨by (with_reducible repeat (first | apply Kd.R_alloc | apply Kd.R_drewN | apply Kd.R_drew)); exact HO_10.out⟩, ⟨by repeat (first | (with_reducible first | exact HB.out | apply below_alloc | apply pw_below_drewN | apply below_drew1) | exact HB.out)⟩⟩
                                              · replace c66 := Bool.eq_false_iff.mpr c66
                                                subst c66
                                                have H1 : (oublaw11_EvictOnce.l2 k5 a0 a1 l3 t107 t108 x11_3 (wrap64 (x12_4 + 1)) (wrap64 (x14_5 + 1))) = some r := by rw [if_neg (show ¬ (false = true) by decide)] at H; exact H
                                                clear H
                                                have H := H1
                                                clear H1
                                                have H' := Aside0.mk H
                                                clear H
                                                try go_wp2
                                                have n0_ := Aside0.mk (Kd.S_drew HO_9.out)
                                                have n1_ := Aside0.mk (Kd.R_drew HO_10.out)
                                                have n2_ := Aside0.mk (below_drew1 HB.out)
                                                clear HO_9
                                                clear HO_10
                                                clear HB
                                                have HO_9 := n0_
                                                have HO_10 := n1_
                                                have HB := n2_
                                                clear n0_ n1_ n2_
                                                have p131 : 0 ≤ (x14_5 : Int) := of_decide_eq_true (by first | (with_reducible assumption) | assumption)
                                                have q131 : x14_5 < (t107.length : Int) := of_decide_eq_true (by first | (with_reducible assumption) | assumption)
                                                obtain ⟨ad131, A131_1, c131_1, e131, hx131_0, hx131_1, hl131_1, hi131_1⟩ := at_T36 (Kd.S_reads' HO_9.out).2.2 x14_5 p131 q131
                                                cases e131
                                                obtain ⟨ce131, hce131, hMe131, hcc131⟩ := Kd.S_get HO_9.out z36 x14_5 p131 (by first | exact q131 | exact of_decide_eq_true (by first | (with_reducible assumption) | assumption) | (have e_ := (Kd.S_reads' HO_9.out).1; omega))
                                                obtain ⟨ve131_1, rfl, ge131_1⟩ := k36_openM hMe131
                                                have hv131_1 := hcc131 1 _ rfl
                                                rw [add_field _ _ 1 (by omega)] at hv131_1
                                                replace hv131_1 := Option.some.inj (hv131_1.symm.trans hx131_1)
                                                rw [hv131_1] at ge131_1
                                                have HL131_1 := Aside0.mk (show Kd.R (Kd.int .i64) 3 _ _ _ _ ((rd_T36 t107 x14_5).f1) from ge131_1)
                                                clear hv131_1 ge131_1
                                                clear hcc131 hce131
                                                have HR131_1 := Aside0.mk hi131_1
                                                have HC131_1 := Aside0.mk hl131_1
                                                clear hi131_1 hl131_1
                                                replace p131 := eq_true p131
                                                replace q131 := eq_true q131
                                                have p132 : 0 ≤ (x11_3 : Int) := of_decide_eq_true (by first | (with_reducible assumption) | assumption)
                                                have q132 : x11_3 < (l3.length : Int) := of_decide_eq_true (by first | (with_reducible assumption) | assumption)
                                                obtain ⟨ad132, e132, hx132_0, hx132_1⟩ := at_T39 HR3.out x11_3 p132 q132
                                                have hw132_1 := hx132_1
                                                have hw132_0 := hx132_0
                                                obtain rfl : ad129 = ad132 := (by injection e132)
                                                replace hx132_0 := (HB.out.cell (World.block_lt_of_cell? w _ hx132_0)).trans hx132_0
                                                replace hx132_1 := (HB.out.cell (World.block_lt_of_cell? w _ hx132_1)).trans hx132_1
                                                replace p132 := eq_true p132
                                                replace q132 := eq_true q132
                                                refine start_ (n := 22) (S := fun w' => w'.cell? (ad131.add ((x14_5).toNat * 2)) = some (.int .i64 ((rd_T36 t107 x14_5).f0)) ∧ w'.cell? ⟨(ad131.add ((x14_5).toNat * 2)).block, (ad131.add ((x14_5).toNat * 2)).off + 1, none⟩ = some (.slice A131_1 ((rd_T36 t107 x14_5).f1).length c131_1) ∧ w'.cell? (ad129.add ((x11_3).toNat * 2)) = some (.int .i64 ((rd_T39 l3 x11_3).f0)) ∧ w'.cell? ⟨(ad129.add ((x11_3).toNat * 2)).block, (ad129.add ((x11_3).toNat * 2)).off + 1, none⟩ = some (.int .i64 ((rd_T39 l3 x11_3).f1))) (ds := []) #[false, false, false, false, false, false, false, false, false, false, false, false, false, false, false, false, false, false, false, false, false, false] (by kernel_rfl) rfl rfl ⟨hx131_0, hx131_1, ((HB.out.cell (World.block_lt_of_cell? w _ hw132_0)).trans hw132_0), ((HB.out.cell (World.block_lt_of_cell? w _ hw132_1)).trans hw132_1)⟩ (fun hHeld => ?_); refine with_tabW oublaw11_EvictOnce.tab26 oublaw11_EvictOnce.bits26 (fun HT_ HW_ => ?_)
                                                generalize wr.drew = w70 at HO_9 HO_10 HB HL131_1 HR131_1 hx131_0 hx131_1 hx132_0 hx132_1 hHeld ⊢
                                                refine pure_ (i := 0) (N := some 121) (v := ?_) (a' := ?_) #[true, false, false, false, false, false, false, false, false, false, false, false, false, false, false, false, false, false, false, false, false, false] rfl rfl (any_of HT_.out (by kernel_rfl)) (fun _ _ _ h => h) (Or.inl ⟨by rfl, ?_⟩) ?_ ?_
                                                rotate_left
                                                · intro w'
                                                  go_simp
                                                  with_reducible rfl
                                                rotate_left
                                                · simp only [Act.put, List.setIfInBounds_toArray, List.set_cons_zero, List.set_cons_succ, i64_w, i32_w]
                                                  rfl
                                                refine pure_ (i := 1) (N := some 122) (v := ?_) (a' := ?_) #[true, true, false, false, false, false, false, false, false, false, false, false, false, false, false, false, false, false, false, false, false, false] rfl rfl (any_of HT_.out (by kernel_rfl)) (fun _ _ _ h => h) (Or.inl ⟨by rfl, ?_⟩) ?_ ?_
                                                rotate_left
                                                · intro w'
                                                  go_simp
                                                  with_reducible rfl
                                                rotate_left
                                                · simp only [Act.put, List.setIfInBounds_toArray, List.set_cons_zero, List.set_cons_succ, i64_w, i32_w]
                                                  rfl
                                                refine pure_ (i := 2) (N := some 123) (v := ?_) (a' := ?_) #[true, true, true, false, false, false, false, false, false, false, false, false, false, false, false, false, false, false, false, false, false, false] rfl rfl (any_of HT_.out (by kernel_rfl)) (fun _ _ _ h => h) (Or.inl ⟨by rfl, ?_⟩) ?_ ?_
                                                rotate_left
                                                · intro w'
                                                  go_simp
                                                  with_reducible rfl
                                                rotate_left
                                                · simp only [Act.put, List.setIfInBounds_toArray, List.set_cons_zero, List.set_cons_succ, i64_w, i32_w]
                                                  rfl
                                                refine pure_ (i := 3) (N := some 124) (v := ?_) (a' := ?_) #[true, true, true, true, false, false, false, false, false, false, false, false, false, false, false, false, false, false, false, false, false, false] rfl rfl (any_of HT_.out (by kernel_rfl)) (fun _ _ _ h => h) (Or.inl ⟨by rfl, ?_⟩) ?_ ?_
                                                rotate_left
                                                · intro w'
                                                  go_simp
                                                  with_reducible rfl
                                                rotate_left
                                                · simp only [Act.put, List.setIfInBounds_toArray, List.set_cons_zero, List.set_cons_succ, i64_w, i32_w]
                                                  rfl
                                                refine pure_ (i := 4) (N := some 125) (v := ?_) (a' := ?_) #[true, true, true, true, true, false, false, false, false, false, false, false, false, false, false, false, false, false, false, false, false, false] rfl rfl (any_of HT_.out (by kernel_rfl)) (fun _ _ _ h => h) (Or.inl ⟨by rfl, ?_⟩) ?_ ?_
                                                rotate_left
                                                · intro w'
                                                  go_simp
                                                  with_reducible rfl
                                                rotate_left
                                                · simp only [Act.put, List.setIfInBounds_toArray, List.set_cons_zero, List.set_cons_succ, i64_w, i32_w]
                                                  rfl
                                                refine pure_ (i := 6) (N := some 127) (v := ?_) (a' := ?_) #[true, true, true, true, true, false, true, false, false, false, false, false, false, false, false, false, false, false, false, false, false, false] rfl rfl (any_of HT_.out (by kernel_rfl)) (fun _ _ _ h => h) (Or.inl ⟨by rfl, ?_⟩) ?_ ?_
                                                rotate_left
                                                · intro w'
                                                  go_simp
                                                  with_reducible rfl
                                                rotate_left
                                                · simp only [Act.put, List.setIfInBounds_toArray, List.set_cons_zero, List.set_cons_succ, i64_w, i32_w]
                                                  rfl
                                                refine pure_ (i := 7) (N := some 128) (v := ?_) (a' := ?_) #[true, true, true, true, true, false, true, true, false, false, false, false, false, false, false, false, false, false, false, false, false, false] rfl rfl (any_of HT_.out (by kernel_rfl)) (fun _ _ _ h => h) (Or.inl ⟨by rfl, ?_⟩) ?_ ?_
                                                rotate_left
                                                · intro w'
                                                  go_simp
                                                  with_reducible rfl
                                                rotate_left
                                                · simp only [Act.put, List.setIfInBounds_toArray, List.set_cons_zero, List.set_cons_succ, i64_w, i32_w]
                                                  rfl
                                                refine pure_ (i := 8) (N := some 129) (v := ?_) (a' := ?_) #[true, true, true, true, true, false, true, true, true, false, false, false, false, false, false, false, false, false, false, false, false, false] rfl rfl (any_of HT_.out (by kernel_rfl)) (fun _ _ _ h => h) (Or.inl ⟨by rfl, ?_⟩) ?_ ?_
                                                rotate_left
                                                · intro w'
                                                  go_simp
                                                  with_reducible rfl
                                                rotate_left
                                                · simp only [Act.put, List.setIfInBounds_toArray, List.set_cons_zero, List.set_cons_succ, i64_w, i32_w]
                                                  rfl
                                                refine pure_ (i := 9) (N := some 130) (v := ?_) (a' := ?_) #[true, true, true, true, true, false, true, true, true, true, false, false, false, false, false, false, false, false, false, false, false, false] rfl rfl (any_of HT_.out (by kernel_rfl)) (fun _ _ _ h => h) (Or.inl ⟨by rfl, ?_⟩) ?_ ?_
                                                rotate_left
                                                · intro w'
                                                  go_simp
                                                  with_reducible rfl
                                                rotate_left
                                                · simp only [Act.put, List.setIfInBounds_toArray, List.set_cons_zero, List.set_cons_succ, i64_w, i32_w]
                                                  rfl
                                                refine take_ (i := 5) (N := some 126) (v := ?_) (a' := ?_) #[true, true, true, true, true, true, true, true, true, true, false, false, false, false, false, false, false, false, false, false, false, false] rfl rfl (take_ofW HT_.out HW_.out (by kernel_rfl)) (fun _ _ _ h => h) (Or.inl ⟨by rfl, ?_⟩) hHeld ?_ ?_
                                                rotate_left
                                                · rintro w' ⟨s0, s1, s2, s3⟩
                                                  go_simp
                                                  with_reducible rfl
                                                rotate_left
                                                · simp only [Act.put, List.setIfInBounds_toArray, List.set_cons_zero, List.set_cons_succ, i64_w, i32_w]
                                                  rfl
                                                refine take_ (i := 10) (N := some 131) (v := ?_) (a' := ?_) #[true, true, true, true, true, true, true, true, true, true, true, false, false, false, false, false, false, false, false, false, false, false] rfl rfl (take_ofW HT_.out HW_.out (by kernel_rfl)) (fun _ _ _ h => h) (Or.inl ⟨by rfl, ?_⟩) hHeld ?_ ?_
                                                rotate_left
                                                · rintro w' ⟨s0, s1, s2, s3⟩
                                                  go_simp
                                                  with_reducible rfl
                                                rotate_left
                                                · simp only [Act.put, List.setIfInBounds_toArray, List.set_cons_zero, List.set_cons_succ, i64_w, i32_w]
                                                  rfl
                                                refine one_ (i := 11) (N := some 132) #[true, true, true, true, true, true, true, true, true, true, true, true, false, false, false, false, false, false, false, false, false, false] rfl rfl (one_of HT_.out (by kernel_rfl)) (by decide) (fun K hK => ?_)
                                                refine goes_ Try.func16 (by kernel_rfl) rfl #[.int .i64 a0, .int .i64 ((rd_T36 t107 x14_5).f0), .int .i64 ((rd_T39 l3 x11_3).f1)] (by rfl) rfl rfl (by (try simp only [List.map_toArray, List.map_cons, List.map_nil]); first | done | rfl | (simp only [List.length_drop, List.length_take]; rfl)) ?_
                                                with_reducible refine (tree_On.calls k5 a0 ((rd_T36 t107 x14_5).f0) ((rd_T39 l3 x11_3).f1) false _ A65.out).mono ?_
                                                rintro e w71 ⟨rfl, hb⟩
                                                have HS0_ := (hb.cell (World.block_lt_of_cell? _ _ (hHeld.1))).trans (hHeld.1)
                                                have HS1_ := (hb.cell (World.block_lt_of_cell? _ _ (hHeld.2.1))).trans (hHeld.2.1)
                                                refine ⟨_, rfl, ?_⟩
                                                have n0_ := Aside0.mk (Kd.S_below (by (with_reducible repeat (first | apply Kd.S_alloc | apply Kd.S_drewN | apply Kd.S_drew)); exact HO_9.out) hb)
                                                have n1_ := Aside0.mk (Kd.R_below (by (with_reducible repeat (first | apply Kd.R_alloc | apply Kd.R_drewN | apply Kd.R_drew)); exact HO_10.out) hb)
                                                have n2_ := Aside0.mk (Kd.R_below (by (with_reducible repeat (first | apply Kd.R_alloc | apply Kd.R_drewN | apply Kd.R_drew)); exact HL131_1.out) hb)
                                                have n3_ := Aside0.mk (Kd.C_below (by repeat (first | (with_reducible exact HR131_1.out) | (with_reducible refine Kd.C_alloc ?_ _) | (with_reducible refine Kd.C_drewN ?_ _) | (with_reducible refine Kd.C_drew ?_) | exact HR131_1.out)) hb)
                                                have n4_ := Aside0.mk (below_step (by repeat (first | (with_reducible first | exact HB.out | apply below_alloc | apply pw_below_drewN | apply below_drew1) | exact HB.out)) hb)
                                                clear HO_9
                                                clear HO_10
                                                clear HL131_1
                                                clear HR131_1
                                                clear HB
                                                have HO_9 := n0_
                                                have HO_10 := n1_
                                                have HL131_1 := n2_
                                                have HR131_1 := n3_
                                                have HB := n4_
                                                clear n0_ n1_ n2_ n3_ n4_
                                                (try clear hb)
                                                (try clear hb2)
                                                (try clear hk)
                                                (try clear hi)
                                                refine hK.out _ _ ⟨HS0_, HS1_, ((HB.out.cell (World.block_lt_of_cell? w _ hw132_0)).trans hw132_0), ((HB.out.cell (World.block_lt_of_cell? w _ hw132_1)).trans hw132_1)⟩ (fun hHeld => ?_)
                                                clear hK K
                                                refine norm_ (a' := ?_) ?_ ?_
                                                rotate_left
                                                · show Act.put _ (some 132) _ = _
                                                  simp only [Act.put, List.setIfInBounds_toArray, List.set_cons_zero, List.set_cons_succ, i64_w, i32_w]
                                                  rfl
                                                refine pure_ (i := 12) (N := some 133) (v := ?_) (a' := ?_) #[true, true, true, true, true, true, true, true, true, true, true, true, true, false, false, false, false, false, false, false, false, false] rfl rfl (any_of HT_.out (by kernel_rfl)) (fun _ _ _ h => h) (Or.inl ⟨by rfl, ?_⟩) ?_ ?_
                                                rotate_left
                                                · intro w'
                                                  go_simp
                                                  with_reducible rfl
                                                rotate_left
                                                · simp only [Act.put, List.setIfInBounds_toArray, List.set_cons_zero, List.set_cons_succ, i64_w, i32_w]
                                                  rfl
                                                refine pure_ (i := 13) (N := some 134) (v := undef) (a' := ?_) #[true, true, true, true, true, true, true, true, true, true, true, true, true, true, false, false, false, false, false, false, false, false] rfl rfl (any_of HT_.out (by kernel_rfl)) (fun _ _ _ h => h) (Or.inr ⟨by rfl, rfl⟩) ?_ ?_
                                                rotate_left
                                                · simp only [Act.put, List.setIfInBounds_toArray, List.set_cons_zero, List.set_cons_succ, i64_w, i32_w]
                                                  rfl
                                                refine pure_ (i := 14) (N := some 135) (v := undef) (a' := ?_) #[true, true, true, true, true, true, true, true, true, true, true, true, true, true, true, false, false, false, false, false, false, false] rfl rfl (any_of HT_.out (by kernel_rfl)) (fun _ _ _ h => h) (Or.inr ⟨by rfl, rfl⟩) ?_ ?_
                                                rotate_left
                                                · simp only [Act.put, List.setIfInBounds_toArray, List.set_cons_zero, List.set_cons_succ, i64_w, i32_w]
                                                  rfl
                                                refine pure_ (i := 15) (N := some 136) (v := undef) (a' := ?_) #[true, true, true, true, true, true, true, true, true, true, true, true, true, true, true, true, false, false, false, false, false, false] rfl rfl (any_of HT_.out (by kernel_rfl)) (fun _ _ _ h => h) (Or.inr ⟨by rfl, rfl⟩) ?_ ?_
                                                rotate_left
                                                · simp only [Act.put, List.setIfInBounds_toArray, List.set_cons_zero, List.set_cons_succ, i64_w, i32_w]
                                                  rfl
                                                refine pure_ (i := 16) (N := some 137) (v := undef) (a' := ?_) #[true, true, true, true, true, true, true, true, true, true, true, true, true, true, true, true, true, false, false, false, false, false] rfl rfl (any_of HT_.out (by kernel_rfl)) (fun _ _ _ h => h) (Or.inr ⟨by rfl, rfl⟩) ?_ ?_
                                                rotate_left
                                                · simp only [Act.put, List.setIfInBounds_toArray, List.set_cons_zero, List.set_cons_succ, i64_w, i32_w]
                                                  rfl
                                                refine pure_ (i := 17) (N := some 138) (v := undef) (a' := ?_) #[true, true, true, true, true, true, true, true, true, true, true, true, true, true, true, true, true, true, false, false, false, false] rfl rfl (any_of HT_.out (by kernel_rfl)) (fun _ _ _ h => h) (Or.inr ⟨by rfl, rfl⟩) ?_ ?_
                                                rotate_left
                                                · simp only [Act.put, List.setIfInBounds_toArray, List.set_cons_zero, List.set_cons_succ, i64_w, i32_w]
                                                  rfl
                                                refine pure_ (i := 18) (N := some 139) (v := undef) (a' := ?_) #[true, true, true, true, true, true, true, true, true, true, true, true, true, true, true, true, true, true, true, false, false, false] rfl rfl (any_of HT_.out (by kernel_rfl)) (fun _ _ _ h => h) (Or.inr ⟨by rfl, rfl⟩) ?_ ?_
                                                rotate_left
                                                · simp only [Act.put, List.setIfInBounds_toArray, List.set_cons_zero, List.set_cons_succ, i64_w, i32_w]
                                                  rfl
                                                refine pure_ (i := 19) (N := some 140) (v := undef) (a' := ?_) #[true, true, true, true, true, true, true, true, true, true, true, true, true, true, true, true, true, true, true, true, false, false] rfl rfl (any_of HT_.out (by kernel_rfl)) (fun _ _ _ h => h) (Or.inr ⟨by rfl, rfl⟩) ?_ ?_
                                                rotate_left
                                                · simp only [Act.put, List.setIfInBounds_toArray, List.set_cons_zero, List.set_cons_succ, i64_w, i32_w]
                                                  rfl
                                                refine pure_ (i := 20) (N := some 141) (v := undef) (a' := ?_) #[true, true, true, true, true, true, true, true, true, true, true, true, true, true, true, true, true, true, true, true, true, false] rfl rfl (any_of HT_.out (by kernel_rfl)) (fun _ _ _ h => h) (Or.inr ⟨by rfl, rfl⟩) ?_ ?_
                                                rotate_left
                                                · simp only [Act.put, List.setIfInBounds_toArray, List.set_cons_zero, List.set_cons_succ, i64_w, i32_w]
                                                  rfl
                                                refine pure_ (i := 21) (N := some 142) (v := ?_) (a' := ?_) #[true, true, true, true, true, true, true, true, true, true, true, true, true, true, true, true, true, true, true, true, true, true] rfl rfl (any_of HT_.out (by kernel_rfl)) (fun _ _ _ h => h) (Or.inl ⟨by rfl, ?_⟩) ?_ ?_
                                                rotate_left
                                                · intro w'
                                                  go_simp
                                                  with_reducible rfl
                                                rotate_left
                                                · simp only [Act.put, List.setIfInBounds_toArray, List.set_cons_zero, List.set_cons_succ, i64_w, i32_w]
                                                  rfl
                                                refine done_ (done_of HT_.out (by kernel_rfl)) ?_
                                                try go_wp2
                                                go_roundg k5
                                                case measure => have := HJ6.out; have := HJ18.out; have := HK3.out; have := HK4.out; have := HK5.out; omega
                                                case rel => exact ⟨(wrap64 (x14_5 + 1)), (by first | rfl | (simp; done) | (simp [*]; done)), H', ⟨by have := HJ6.out; have := HJ18.out; have := HK3.out; have := HK4.out; have := HK5.out; omega⟩, ⟨by (with_reducible repeat (first | apply Kd.S_alloc | apply Kd.S_drewN | apply Kd.S_drew)); exact HO_9.out⟩, ⟨by (with_reducible repeat (first | apply Kd.R_alloc | apply Kd.R_drewN | apply Kd.R_drew)); exact HO_10.out⟩, ⟨by repeat (first | (with_reducible first | exact HB.out | apply below_alloc | apply pw_below_drewN | apply below_drew1) | exact HB.out)⟩⟩
                                            · rw [if_neg c64] at H
                                              exact absurd H (by simp)
                                          · rw [if_neg c63] at H
                                            exact absurd H (by simp)
                                        · rw [if_neg c62] at H
                                          exact absurd H (by simp)
                                      · rw [if_neg c61] at H
                                        have c61b0 : decide (x14_5 < (t107.length : Int)) = false := decide_eq_false c61
                                        clear c61
                                        by_cases c72 : (wrap64 (x12_4 + 1)) = 1
                                        · rw [if_pos c72] at H
                                          have c72b0 : ((wrap64 (x12_4 + 1)) == 1) = true := beq_iff_eq.mpr c72
                                          have c72b1 : ((wrap64 (x12_4 + 1)) != 1) = false := bne_eq_false_iff_eq.mpr c72
                                          clear c72
                                          have H' := Aside0.mk H
                                          clear H
                                          go_wp2
                                          go_roundg k5
                                          case measure => have := HJ6.out; have := HJ18.out; have := HK3.out; have := HK4.out; have := HK5.out; omega
                                          case rel => exact ⟨(wrap64 (x11_3 + 1)), (by first | rfl | (simp; done) | (simp [*]; done)), H', ⟨by have := HJ6.out; have := HJ18.out; have := HK3.out; have := HK4.out; have := HK5.out; omega⟩, ⟨by (with_reducible repeat (first | apply Kd.S_alloc | apply Kd.S_drewN | apply Kd.S_drew)); exact HO_9.out⟩, ⟨by (with_reducible repeat (first | apply Kd.R_alloc | apply Kd.R_drewN | apply Kd.R_drew)); exact HO_10.out⟩, ⟨by repeat (first | (with_reducible first | exact HB.out | apply below_alloc | apply pw_below_drewN | apply below_drew1) | exact HB.out)⟩⟩
                                        · rw [if_neg c72] at H
                                          have c72b0 : ((wrap64 (x12_4 + 1)) == 1) = false := beq_eq_false_iff_ne.mpr c72
                                          have c72b1 : ((wrap64 (x12_4 + 1)) != 1) = true := bne_iff_ne.mpr c72
                                          exact absurd (Option.some.inj H) (by rw [HT.out]; decide)
                                · replace c58 := Bool.eq_false_iff.mpr c58
                                  subst c58
                                  have H1 : (if x12_4 = 1 then (oublaw11_EvictOnce.l0 k4 a0 a1 l3 t107 t108 (wrap64 (x11_3 + 1))) else (some false)) = some r := by rw [if_neg (show ¬ (false = true) by decide)] at H; exact H
                                  clear H
                                  have H := H1
                                  clear H1
                                  by_cases c73 : x12_4 = 1
                                  · rw [if_pos c73] at H
                                    have c73b0 : (x12_4 == 1) = true := beq_iff_eq.mpr c73
                                    have c73b1 : (x12_4 != 1) = false := bne_eq_false_iff_eq.mpr c73
                                    clear c73
                                    have H' := Aside0.mk H
                                    clear H
                                    obtain ⟨Ao74, co74, eo74⟩ := Kd.S_slice HO_9.out
                                    subst eo74
                                    have p129 : 0 ≤ (x11_3 : Int) := of_decide_eq_true (by first | (with_reducible assumption) | assumption)
                                    have q129 : x11_3 < (l3.length : Int) := of_decide_eq_true (by first | (with_reducible assumption) | assumption)
                                    obtain ⟨ad129, e129, hx129_0, hx129_1⟩ := at_T39 HR3.out x11_3 p129 q129
                                    cases e129
                                    replace hx129_0 := (HB.out.cell (World.block_lt_of_cell? w _ hx129_0)).trans hx129_0
                                    replace hx129_1 := (HB.out.cell (World.block_lt_of_cell? w _ hx129_1)).trans hx129_1
                                    replace p129 := eq_true p129
                                    replace q129 := eq_true q129
                                    obtain ⟨Ao75, co75, eo75⟩ := Kd.R_slice HO_10.out
                                    subst eo75
                                    go_wp2_with (first | ((with_reducible refine gate_callee (f := 15) rfl ?_); refine goesL_ (some 112) rfl rfl Try.func15 (by kernel_rfl) rfl #[.slice Ao75 t108.length co75, .int .i64 ((rd_T39 l3 x11_3).f0)] rfl (by (try simp only [List.map_toArray, List.map_cons, List.map_nil]); first | done | rfl | (simp only [List.length_drop, List.length_take]; rfl)) ?_; (with_reducible refine (oubref_Has.calls k4 _ _ t108 ((rd_T39 l3 x11_3).f0) false _ ?side1 ?side2 A57.out).mono ?_); (case side1 => repeat (first | exact (Kd.R_reads' HO_10.out).2.2 | (with_reducible refine Kd.C_alloc ?_ _) | (with_reducible refine Kd.C_drewN ?_ _) | (with_reducible refine Kd.C_drew ?_))); (case side2 => exact (Kd.R_reads' HO_10.out).2.1); rintro e w' ⟨rfl, ⟨nd, rfl⟩⟩; refine ⟨_, rfl, ?_⟩))
                                    go_roundg k4
                                    case measure => have := HJ6.out; have := HJ18.out; have := HK3.out; have := HK4.out; omega
                                    case rel => exact ⟨(wrap64 (x11_3 + 1)), (by first | rfl | (simp; done) | (simp [*]; done)), H', ⟨by have := HJ6.out; have := HJ18.out; have := HK3.out; have := HK4.out; omega⟩, ⟨by (with_reducible repeat (first | apply Kd.S_alloc | apply Kd.S_drewN | apply Kd.S_drew)); exact HO_9.out⟩, ⟨by (with_reducible repeat (first | apply Kd.R_alloc | apply Kd.R_drewN | apply Kd.R_drew)); exact HO_10.out⟩, ⟨by repeat (first | (with_reducible first | exact HB.out | apply below_alloc | apply pw_below_drewN | apply below_drew1) | exact HB.out)⟩⟩
                                  · rw [if_neg c73] at H
                                    have c73b0 : (x12_4 == 1) = false := beq_eq_false_iff_ne.mpr c73
                                    have c73b1 : (x12_4 != 1) = true := bne_iff_ne.mpr c73
                                    exact absurd (Option.some.inj H) (by rw [HT.out]; decide)
                              · rw [if_neg c56] at H
                                exact absurd H (by simp)
                            · rw [if_neg c55] at H
                              exact absurd H (by simp)
                    · rw [if_neg c39] at H
                      have c39b0 : decide (x11_3 < (l3.length : Int)) = false := decide_eq_false c39
                      clear c39
                      replace H := Option.bind_eq_some_iff.mp H
                      obtain ⟨t121, A760, H⟩ := H
                      replace H : (some t121) = some r := H
                      have A76 := Aside0.mk A760
                      clear A760
                      obtain rfl := Option.some.inj H
                      go_wp2_with (first | ((with_reducible refine gate_callee (f := 7) rfl ?_); refine goesL_ (some 145) rfl rfl Try.func7 (by kernel_rfl) rfl #[] rfl (by (try simp only [List.map_toArray, List.map_cons, List.map_nil]); first | done | rfl | (simp only [List.length_drop, List.length_take]; rfl)) ?_; (with_reducible refine (oublaw11_first.calls  t121 _ A76.out).mono ?_); rintro e w77 ⟨rfl, hb⟩; refine ⟨_, rfl, ?_⟩; have n0_ := Aside0.mk (Kd.S_below (by (with_reducible repeat (first | apply Kd.S_alloc | apply Kd.S_drewN | apply Kd.S_drew)); exact HO_9.out) hb); have n1_ := Aside0.mk (Kd.R_below (by (with_reducible repeat (first | apply Kd.R_alloc | apply Kd.R_drewN | apply Kd.R_drew)); exact HO_10.out) hb); have n2_ := Aside0.mk (below_step (by repeat (first | (with_reducible first | exact HB.out | apply below_alloc | apply pw_below_drewN | apply below_drew1) | exact HB.out)) hb); clear HO_9; clear HO_10; clear HB; have HO_9 := n0_; have HO_10 := n1_; have HB := n2_; clear n0_ n1_ n2_; (try clear hb); (try clear hb2); (try clear hk); (try clear hi)))
                      go_ret
                      exact ⟨by first | rfl | (simp [errW_none, errW_some] <;> rfl) | (simp [*, errW_none, errW_some] <;> rfl), by repeat (first | (with_reducible first | exact HB.out | apply below_alloc | apply pw_below_drewN | apply below_drew1) | exact HB.out)⟩
  · replace c6 := Bool.eq_false_iff.mpr c6
    subst c6
    have H1 : (some false) = some r := by rw [if_neg (show ¬ (false = true) by decide)] at H; exact H
    clear H
    have H := H1
    clear H1
    exact absurd (Option.some.inj H) (by rw [HT.out]; decide)

end Go.Proofs.Ytfliapankgdeeaa.O
