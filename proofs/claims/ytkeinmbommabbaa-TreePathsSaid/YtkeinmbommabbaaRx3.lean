-- Written by gprint.py (wip/tools), which runs the kit's printer with some contracts given. Lean checks it.
import Derived.Test.YtkeinmbommabbaaRx0
import Derived.Test.YtkeinmbommabbaaRx1
import Derived.Test.YtkeinmbommabbaaRx2
namespace Go.Proofs.Ytkeinmbommabbaa.R
open Go.RowKit Go.Proofs.Ytkeinmbommabbaa.G Go.Proofs.YtkeinmbommabbaaW.PrintWords Go.Proofs.YtkeinmbommabbaaW.PrintLast Go.Proofs.YtkeinmbommabbaaW.PrintMore
abbrev bs (n m : Nat) : Array Bool := ⟨List.replicate n true ++ List.replicate m false⟩
attribute [local go_sem] max2_int min2_int max_two min_two max_three min_three max_four min_four   -- for this text's walks alone
set_option linter.unusedVariables false
set_option linter.unusedSimpArgs false

/-! ### oublaw7_TreePaths: function 6 -/
mutual
def oublaw7_TreePaths.l0 : Nat → Int → Int → Int → List Int → List Int → List Int → Int → Int → Option (Bool)
 | 0, _, _, _, _, _, _, _, _ => none
 | k + 1, x0, x1, x2, x3, x9, x10, x11, x12 => if x12 ≤ x0 then (if 0 ≤ x12 then (if x12 < (x9.length : Int) then (if x12 < (x10.length : Int) then (if (((rd x9 x12) == (rd x10 x12)) != (decide (x12 ≤ x11))) = true then (some false) else ((tree_Level.f k (rd x9 x12)).bind fun t164 => (if t164 = x12 then (if x12 > 0 then (if 0 ≤ (wrap64 (x12 - 1)) then (if (wrap64 (x12 - 1)) < (x9.length : Int) then (if (wrap64 (Int.tdiv (wrap64 ((rd x9 x12) - 1)) 2)) = (rd x9 (wrap64 (x12 - 1))) then ((tree_On.f k x0 (rd x9 x12) x1).bind fun t168 => (if t168 = true then ((tree_On.f k x0 (rd x10 x12) x1).bind fun t170 => (if (t170 != (decide (x12 ≤ x11))) = true then (some false) else (oublaw7_TreePaths.l0 k x0 x1 x2 x3 x9 x10 x11 (wrap64 (x12 + 1))))) else (some false))) else (some false)) else (none)) else (none)) else ((tree_On.f k x0 (rd x9 x12) x1).bind fun t172 => (if t172 = true then ((tree_On.f k x0 (rd x10 x12) x1).bind fun t174 => (if (t174 != (decide (x12 ≤ x11))) = true then (some false) else (oublaw7_TreePaths.l0 k x0 x1 x2 x3 x9 x10 x11 (wrap64 (x12 + 1))))) else (some false)))) else (some false)))) else (none)) else (none)) else (none)) else ((tree_Buckets.f x0).bind fun t175 => (if 0 ≤ t175 then (if (t175 : Int).toNat ≤ 281474976710656 then (oublaw7_TreePaths.l1 k x0 x1 x2 x3 x11 (List.replicate (t175 : Int).toNat false) 0) else (none)) else (none)))
def oublaw7_TreePaths.l1 : Nat → Int → Int → Int → List Int → Int → List Bool → Int → Option (Bool)
 | 0, _, _, _, _, _, _, _ => none
 | k + 1, x0, x1, x2, x3, x11, x13, x14 => if x14 < (x3.length : Int) then (if 0 ≤ x14 then (if (rd x3 x14) < 0 then ((oublaw7_first.f k).bind fun t180 => (some t180)) else ((tree_Leaves.f x0).bind fun t182 => (if (rd x3 x14) ≥ t182 then ((oublaw7_first.f k).bind fun t183 => (some t183)) else ((tree_Path.f k x0 (rd x3 x14)).bind fun t185 => (oublaw7_TreePaths.l2 k x0 x1 x2 x3 x11 x13 x14 t185 0))))) else (none)) else (oublaw7_TreePaths.l3 k x0 x1 x2 x3 x11 x13 ([] : List Int) 0)
def oublaw7_TreePaths.l2 : Nat → Int → Int → Int → List Int → Int → List Bool → Int → List Int → Int → Option (Bool)
 | 0, _, _, _, _, _, _, _, _, _ => none
 | k + 1, x0, x1, x2, x3, x11, x13, x14, x15, x16 => if x16 < (x15.length : Int) then (if 0 ≤ x16 then (if (rd x15 x16) < 0 then (some false) else (if (rd x15 x16) ≥ (x13.length : Int) then (some false) else (if 0 ≤ (rd x15 x16) then (if (rd x15 x16) < (x13.length : Int) then (oublaw7_TreePaths.l2 k x0 x1 x2 x3 x11 (x13.set ((rd x15 x16) : Int).toNat true) x14 x15 (wrap64 (x16 + 1))) else (none)) else (none)))) else (none)) else (oublaw7_TreePaths.l1 k x0 x1 x2 x3 x11 x13 (wrap64 (x14 + 1)))
def oublaw7_TreePaths.l3 : Nat → Int → Int → Int → List Int → Int → List Bool → List Int → Int → Option (Bool)
 | 0, _, _, _, _, _, _, _, _ => none
 | k + 1, x0, x1, x2, x3, x11, x13, x17, x18 => if x18 < (x13.length : Int) then (if 0 ≤ x18 then (if rdOf false x13 x18 = true then (if x17.length < 17592186044416 then (oublaw7_TreePaths.l3 k x0 x1 x2 x3 x11 x13 (x17 ++ [x18]) (wrap64 (x18 + 1))) else (none)) else (oublaw7_TreePaths.l3 k x0 x1 x2 x3 x11 x13 x17 (wrap64 (x18 + 1)))) else (none)) else ((oublaw7_first.f k).bind fun t196 => (if t196 = true then ((tree_Union.f k x0 x3).bind fun t197 => ((oubref_Ints.f k t197 x17).bind fun t200 => (if t200 = true then (some ((x1 == x2) == (x11 == x0))) else (some false)))) else (some false)))
end
def oublaw7_TreePaths.f (k : Nat) (a0 : Int) (a1 : Int) (a2 : Int) (l3 : List Int) : Option (Bool) := (oublaw7_first.f k).bind fun t142 => (if t142 = true then ((tree_May.f a0).bind fun t143 => (if t143 = true then (if a1 < 0 then ((oublaw7_first.f k).bind fun t144 => (some t144)) else (if a2 < 0 then ((oublaw7_first.f k).bind fun t145 => (some t145)) else ((tree_Leaves.f a0).bind fun t146 => (if a1 ≥ t146 then ((oublaw7_first.f k).bind fun t147 => (some t147)) else ((tree_Leaves.f a0).bind fun t148 => (if a2 ≥ t148 then ((oublaw7_first.f k).bind fun t149 => (some t149)) else (if (l3.length : Int) > 60 then ((oublaw7_first.f k).bind fun t150 => (some t150)) else ((tree_Path.f k a0 a1).bind fun t151 => ((tree_Path.f k a0 a2).bind fun t154 => (if (t151.length : Int) = (wrap64 (a0 + 1)) then (if (t154.length : Int) = (wrap64 (a0 + 1)) then (if 0 < (t151.length : Int) then (if (rd t151 0) = 0 then (if 0 ≤ a0 then (if a0 < (t151.length : Int) then ((tree_Leaves.f a0).bind fun t159 => (if (rd t151 a0) = (wrap64 ((wrap64 (t159 - 1)) + a1)) then ((tree_Shared.f k a0 a1 a2).bind fun t160 => (oublaw7_TreePaths.l0 k a0 a1 a2 l3 t151 t154 t160 0)) else (some false))) else (none)) else (none)) else (some false)) else (none)) else (some false)) else (some false))))))))))) else ((oublaw7_first.f k).bind fun t201 => (some t201)))) else (some false))
theorem oublaw7_TreePaths.mono_l : ∀ k, (∀ y0 y1 y2 y3 y4 y5 y6 y7, LeO (oublaw7_TreePaths.l0 k y0 y1 y2 y3 y4 y5 y6 y7) (oublaw7_TreePaths.l0 (k + 1) y0 y1 y2 y3 y4 y5 y6 y7)) ∧ (∀ y0 y1 y2 y3 y4 y5 y6, LeO (oublaw7_TreePaths.l1 k y0 y1 y2 y3 y4 y5 y6) (oublaw7_TreePaths.l1 (k + 1) y0 y1 y2 y3 y4 y5 y6)) ∧ (∀ y0 y1 y2 y3 y4 y5 y6 y7 y8, LeO (oublaw7_TreePaths.l2 k y0 y1 y2 y3 y4 y5 y6 y7 y8) (oublaw7_TreePaths.l2 (k + 1) y0 y1 y2 y3 y4 y5 y6 y7 y8)) ∧ (∀ y0 y1 y2 y3 y4 y5 y6 y7, LeO (oublaw7_TreePaths.l3 k y0 y1 y2 y3 y4 y5 y6 y7) (oublaw7_TreePaths.l3 (k + 1) y0 y1 y2 y3 y4 y5 y6 y7))
 | 0 => ⟨fun _ _ _ _ _ _ _ _ r h => by simp [oublaw7_TreePaths.l0] at h, fun _ _ _ _ _ _ _ r h => by simp [oublaw7_TreePaths.l1] at h, fun _ _ _ _ _ _ _ _ _ r h => by simp [oublaw7_TreePaths.l2] at h, fun _ _ _ _ _ _ _ _ r h => by simp [oublaw7_TreePaths.l3] at h⟩
 | k + 1 => by
  obtain ⟨ih0, ih1, ih2, ih3⟩ := oublaw7_TreePaths.mono_l k
  refine ⟨?_, ?_, ?_, ?_⟩
  ·intro y0 y1 y2 y3 y4 y5 y6 y7
   unfold oublaw7_TreePaths.l0
   repeat' first
   | (with_reducible exact ih0 _ _ _ _ _ _ _ _)
   | (with_reducible exact ih1 _ _ _ _ _ _ _)
   | (with_reducible exact ih2 _ _ _ _ _ _ _ _ _)
   | (with_reducible exact ih3 _ _ _ _ _ _ _ _)
   | (with_reducible exact oublaw7_first.mono _)
   | (with_reducible exact oubref_Ints.mono _ _ _)
   | (with_reducible exact tree_Level.mono _ _)
   | (with_reducible exact tree_On.mono _ _ _ _)
   | (with_reducible exact tree_Path.mono _ _ _)
   | (with_reducible exact tree_Shared.mono _ _ _ _)
   | (with_reducible exact tree_Union.mono _ _ _)
   | (with_reducible exact LeO.refl _)
   | (with_reducible exact LeO.none _)
   | (with_reducible refine LeO.ite ?_ ?_)
   | (with_reducible refine LeO.bind ?_ (fun _ => ?_))
   | exact ih0 _ _ _ _ _ _ _ _
   | exact ih1 _ _ _ _ _ _ _
   | exact ih2 _ _ _ _ _ _ _ _ _
   | exact ih3 _ _ _ _ _ _ _ _
   | exact oublaw7_first.mono _
   | exact oubref_Ints.mono _ _ _
   | exact tree_Level.mono _ _
   | exact tree_On.mono _ _ _ _
   | exact tree_Path.mono _ _ _
   | exact tree_Shared.mono _ _ _ _
   | exact tree_Union.mono _ _ _
   | exact LeO.none _
   | refine LeO.ite ?_ ?_
   | refine LeO.bind ?_ (fun _ => ?_)
  ·intro y0 y1 y2 y3 y4 y5 y6
   unfold oublaw7_TreePaths.l1
   repeat' first
   | (with_reducible exact ih0 _ _ _ _ _ _ _ _)
   | (with_reducible exact ih1 _ _ _ _ _ _ _)
   | (with_reducible exact ih2 _ _ _ _ _ _ _ _ _)
   | (with_reducible exact ih3 _ _ _ _ _ _ _ _)
   | (with_reducible exact oublaw7_first.mono _)
   | (with_reducible exact oubref_Ints.mono _ _ _)
   | (with_reducible exact tree_Level.mono _ _)
   | (with_reducible exact tree_On.mono _ _ _ _)
   | (with_reducible exact tree_Path.mono _ _ _)
   | (with_reducible exact tree_Shared.mono _ _ _ _)
   | (with_reducible exact tree_Union.mono _ _ _)
   | (with_reducible exact LeO.refl _)
   | (with_reducible exact LeO.none _)
   | (with_reducible refine LeO.ite ?_ ?_)
   | (with_reducible refine LeO.bind ?_ (fun _ => ?_))
   | exact ih0 _ _ _ _ _ _ _ _
   | exact ih1 _ _ _ _ _ _ _
   | exact ih2 _ _ _ _ _ _ _ _ _
   | exact ih3 _ _ _ _ _ _ _ _
   | exact oublaw7_first.mono _
   | exact oubref_Ints.mono _ _ _
   | exact tree_Level.mono _ _
   | exact tree_On.mono _ _ _ _
   | exact tree_Path.mono _ _ _
   | exact tree_Shared.mono _ _ _ _
   | exact tree_Union.mono _ _ _
   | exact LeO.none _
   | refine LeO.ite ?_ ?_
   | refine LeO.bind ?_ (fun _ => ?_)
  ·intro y0 y1 y2 y3 y4 y5 y6 y7 y8
   unfold oublaw7_TreePaths.l2
   repeat' first
   | (with_reducible exact ih0 _ _ _ _ _ _ _ _)
   | (with_reducible exact ih1 _ _ _ _ _ _ _)
   | (with_reducible exact ih2 _ _ _ _ _ _ _ _ _)
   | (with_reducible exact ih3 _ _ _ _ _ _ _ _)
   | (with_reducible exact oublaw7_first.mono _)
   | (with_reducible exact oubref_Ints.mono _ _ _)
   | (with_reducible exact tree_Level.mono _ _)
   | (with_reducible exact tree_On.mono _ _ _ _)
   | (with_reducible exact tree_Path.mono _ _ _)
   | (with_reducible exact tree_Shared.mono _ _ _ _)
   | (with_reducible exact tree_Union.mono _ _ _)
   | (with_reducible exact LeO.refl _)
   | (with_reducible exact LeO.none _)
   | (with_reducible refine LeO.ite ?_ ?_)
   | (with_reducible refine LeO.bind ?_ (fun _ => ?_))
   | exact ih0 _ _ _ _ _ _ _ _
   | exact ih1 _ _ _ _ _ _ _
   | exact ih2 _ _ _ _ _ _ _ _ _
   | exact ih3 _ _ _ _ _ _ _ _
   | exact oublaw7_first.mono _
   | exact oubref_Ints.mono _ _ _
   | exact tree_Level.mono _ _
   | exact tree_On.mono _ _ _ _
   | exact tree_Path.mono _ _ _
   | exact tree_Shared.mono _ _ _ _
   | exact tree_Union.mono _ _ _
   | exact LeO.none _
   | refine LeO.ite ?_ ?_
   | refine LeO.bind ?_ (fun _ => ?_)
  ·intro y0 y1 y2 y3 y4 y5 y6 y7
   unfold oublaw7_TreePaths.l3
   repeat' first
   | (with_reducible exact ih0 _ _ _ _ _ _ _ _)
   | (with_reducible exact ih1 _ _ _ _ _ _ _)
   | (with_reducible exact ih2 _ _ _ _ _ _ _ _ _)
   | (with_reducible exact ih3 _ _ _ _ _ _ _ _)
   | (with_reducible exact oublaw7_first.mono _)
   | (with_reducible exact oubref_Ints.mono _ _ _)
   | (with_reducible exact tree_Level.mono _ _)
   | (with_reducible exact tree_On.mono _ _ _ _)
   | (with_reducible exact tree_Path.mono _ _ _)
   | (with_reducible exact tree_Shared.mono _ _ _ _)
   | (with_reducible exact tree_Union.mono _ _ _)
   | (with_reducible exact LeO.refl _)
   | (with_reducible exact LeO.none _)
   | (with_reducible refine LeO.ite ?_ ?_)
   | (with_reducible refine LeO.bind ?_ (fun _ => ?_))
   | exact ih0 _ _ _ _ _ _ _ _
   | exact ih1 _ _ _ _ _ _ _
   | exact ih2 _ _ _ _ _ _ _ _ _
   | exact ih3 _ _ _ _ _ _ _ _
   | exact oublaw7_first.mono _
   | exact oubref_Ints.mono _ _ _
   | exact tree_Level.mono _ _
   | exact tree_On.mono _ _ _ _
   | exact tree_Path.mono _ _ _
   | exact tree_Shared.mono _ _ _ _
   | exact tree_Union.mono _ _ _
   | exact LeO.none _
   | refine LeO.ite ?_ ?_
   | refine LeO.bind ?_ (fun _ => ?_)
theorem oublaw7_TreePaths.mono : ∀ a0 a1 a2 a3 k, LeO (oublaw7_TreePaths.f k a0 a1 a2 a3) (oublaw7_TreePaths.f (k + 1) a0 a1 a2 a3) := by
 intro a0 a1 a2 a3 k
 obtain ⟨ih0, ih1, ih2, ih3⟩ := oublaw7_TreePaths.mono_l k
 unfold oublaw7_TreePaths.f
 repeat' first
   | (with_reducible exact ih0 _ _ _ _ _ _ _ _)
   | (with_reducible exact ih1 _ _ _ _ _ _ _)
   | (with_reducible exact ih2 _ _ _ _ _ _ _ _ _)
   | (with_reducible exact ih3 _ _ _ _ _ _ _ _)
   | (with_reducible exact oublaw7_first.mono _)
   | (with_reducible exact oubref_Ints.mono _ _ _)
   | (with_reducible exact tree_Level.mono _ _)
   | (with_reducible exact tree_On.mono _ _ _ _)
   | (with_reducible exact tree_Path.mono _ _ _)
   | (with_reducible exact tree_Shared.mono _ _ _ _)
   | (with_reducible exact tree_Union.mono _ _ _)
   | (with_reducible exact LeO.refl _)
   | (with_reducible exact LeO.none _)
   | (with_reducible refine LeO.ite ?_ ?_)
   | (with_reducible refine LeO.bind ?_ (fun _ => ?_))
   | exact ih0 _ _ _ _ _ _ _ _
   | exact ih1 _ _ _ _ _ _ _
   | exact ih2 _ _ _ _ _ _ _ _ _
   | exact ih3 _ _ _ _ _ _ _ _
   | exact oublaw7_first.mono _
   | exact oubref_Ints.mono _ _ _
   | exact tree_Level.mono _ _
   | exact tree_On.mono _ _ _ _
   | exact tree_Path.mono _ _ _
   | exact tree_Shared.mono _ _ _ _
   | exact tree_Union.mono _ _ _
   | exact LeO.none _
   | refine LeO.ite ?_ ?_
   | refine LeO.bind ?_ (fun _ => ?_)
def oublaw7_TreePaths.T6 : Bool × List (List Nat × List Nat) := (true, [([], []), ([0], [0]), ([], []), ([2], [2]), ([1, 3], [1, 3]), ([4], [4]), ([5], [5]), ([6, 5], [5, 6]), ([5], [5]), ([8, 5], [5, 8]), ([7, 9, 5], [5, 7, 9]), ([5, 10], [5, 10]), ([11, 5], [11]), ([12], [12]), ([13, 12], [12, 13]), ([14, 12], [12, 14]), ([15, 12], [12, 15]), ([12, 16], [12, 16]), ([17, 12], [17]), ([18], [18]), ([18], [18]), ([19, 20, 18], [18, 19, 20]), ([21, 18], [18, 21]), ([18], [18]), ([23, 18, 18], [18, 23]), ([24, 18], [18, 24]), ([18], [18]), ([25, 26, 18], [18, 25, 26]), ([22, 27, 18], [18, 22, 27]), ([18, 28], [18, 28])])
def oublaw7_TreePaths.B6 : List Nat := [0, 1, 0, 4, 15, 31, 63, 127, 63, 319, 1023, 2047, 4095, 8191, 16383, 32767, 65535, 131071, 262143, 524287, 524287, 2097151, 4194303, 524287, 8912895, 25690111, 524287, 126353407, 268435455, 536870911]
theorem oublaw7_TreePaths.tab6 : rtab .any (opsOf Try.f6 6) = oublaw7_TreePaths.T6 := by kernel_rfl
theorem oublaw7_TreePaths.bits6 : waitsOk oublaw7_TreePaths.T6.2 oublaw7_TreePaths.B6 = true := by kernel_rfl
def oublaw7_TreePaths.T12 : Bool × List (List Nat × List Nat) := (true, [([], []), ([], []), ([0, 1], [0, 1]), ([2], [2]), ([], []), ([], []), ([4, 5], [4, 5]), ([6], [6]), ([3, 7], [3, 7]), ([], []), ([], []), ([9, 10], [9, 10]), ([8, 11], [8, 11]), ([12], [12]), ([13], [13]), ([13], [13]), ([14, 15, 13], [13, 14, 15]), ([16, 13], [13, 16]), ([17, 13, 13], [13, 17]), ([13], [13]), ([18, 19, 13], [13, 18, 19]), ([13, 20], [13, 20]), ([21, 18], [21]), ([22], [22]), ([23, 22], [22, 23]), ([24, 22, 22], [22, 24]), ([25], [25]), ([25], [25]), ([26, 27, 25], [25, 26, 27]), ([28, 25], [25, 28]), ([29, 25], [25, 29]), ([30, 25], [25, 30]), ([25], [25]), ([25], [25]), ([33, 25], [25, 33]), ([32, 34, 25], [25, 32, 34]), ([35, 25], [25, 35]), ([31, 36, 25], [25, 31, 36]), ([25, 37, 22], [22, 25, 37]), ([22, 38], [22, 38]), ([39, 25], [39]), ([40], [40]), ([40], [40]), ([40], [40]), ([42, 43, 40], [40, 42, 43]), ([44, 40], [40, 44]), ([40], [40]), ([41, 45, 46, 40, 40], [40, 41, 45, 46]), ([47, 40], [40, 47]), ([40, 48], [40, 48]), ([49, 47], [49]), ([50], [50]), ([50], [50]), ([50], [50]), ([52, 53, 50], [50, 52, 53]), ([54, 50], [50, 54]), ([50], [50]), ([51, 55, 56, 50, 50], [50, 51, 55, 56]), ([50], [50]), ([50], [50]), ([58, 59, 50], [50, 58, 59]), ([57, 60, 50], [50, 57, 60]), ([50, 61], [50, 61])])
def oublaw7_TreePaths.B12 : List Nat := [0, 0, 3, 7, 0, 0, 48, 112, 255, 0, 0, 1536, 4095, 8191, 16383, 16383, 65535, 131071, 262143, 16383, 1048575, 2097151, 4194303, 8388607, 16777215, 33554431, 67108863, 67108863, 268435455, 536870911, 1073741823, 2147483647, 67108863, 67108863, 8657043455, 30131879935, 64491618303, 137438953471, 274877906943, 549755813887, 1099511627775, 2199023255551, 2199023255551, 2199023255551, 15393162788863, 32985348833279, 2199023255551, 140737488355327, 281474976710655, 562949953421311, 1125899906842623, 2251799813685247, 2251799813685247, 2251799813685247, 15762598695796735, 33776997205278719, 2251799813685247, 144115188075855871, 2251799813685247, 2251799813685247, 866942928268820479, 2305843009213693951, 4611686018427387903]
theorem oublaw7_TreePaths.tab12 : rtab .any (opsOf Try.f6 12) = oublaw7_TreePaths.T12 := by kernel_rfl
theorem oublaw7_TreePaths.bits12 : waitsOk oublaw7_TreePaths.T12.2 oublaw7_TreePaths.B12 = true := by kernel_rfl
def oublaw7_TreePaths.T18 : Bool × List (List Nat × List Nat) := (true, [([], []), ([], []), ([0, 1], [0, 1]), ([2], [2]), ([3], [3]), ([4], [4]), ([5], [5]), ([5], [5]), ([6, 7, 5], [5, 6, 7]), ([8, 5], [5, 8]), ([5], [5]), ([10, 5, 5], [5, 10]), ([9, 11, 5], [5, 9, 11]), ([5, 12], [5, 12])])
def oublaw7_TreePaths.B18 : List Nat := [0, 0, 3, 7, 15, 31, 63, 63, 255, 511, 63, 1087, 4095, 8191]
theorem oublaw7_TreePaths.tab18 : rtab .any (opsOf Try.f6 18) = oublaw7_TreePaths.T18 := by kernel_rfl
theorem oublaw7_TreePaths.bits18 : waitsOk oublaw7_TreePaths.T18.2 oublaw7_TreePaths.B18 = true := by kernel_rfl
set_option maxHeartbeats 8000000 in
set_option maxRecDepth 100000 in
theorem oublaw7_TreePaths.calls (k : Nat) (a0 : Int) (a1 : Int) (a2 : Int) (A3 : Option Addr) (c3 : Nat) (l3 : List Int) (r : Bool) (w : World) (hr3 : Kd.C (Kd.int .i64) w A3 l3.length l3) (hc3 : l3.length ≤ c3) (HT : Aside0 (r = true)) (h : oublaw7_TreePaths.f k a0 a1 a2 l3 = some r) :
  Calls Try.prog 6 #[.int .i64 a0, .int .i64 a1, .int .i64 a2, .slice A3 l3.length c3] w fun e w' => e = .returned (.bool r) ∧ Below w.heap.size w w' := by
 have HR3 := Aside0.mk hr3
 have HC3 := Aside0.mk hc3
 clear hr3 hc3
 have HB := Aside0.mk (Below.refl w.heap.size w)
 have H : ((oublaw7_first.f k).bind fun t142 => (if t142 = true then ((tree_May.f a0).bind fun t143 => (if t143 = true then (if a1 < 0 then ((oublaw7_first.f k).bind fun t144 => (some t144)) else (if a2 < 0 then ((oublaw7_first.f k).bind fun t145 => (some t145)) else ((tree_Leaves.f a0).bind fun t146 => (if a1 ≥ t146 then ((oublaw7_first.f k).bind fun t147 => (some t147)) else ((tree_Leaves.f a0).bind fun t148 => (if a2 ≥ t148 then ((oublaw7_first.f k).bind fun t149 => (some t149)) else (if (l3.length : Int) > 60 then ((oublaw7_first.f k).bind fun t150 => (some t150)) else ((tree_Path.f k a0 a1).bind fun t151 => ((tree_Path.f k a0 a2).bind fun t154 => (if (t151.length : Int) = (wrap64 (a0 + 1)) then (if (t154.length : Int) = (wrap64 (a0 + 1)) then (if 0 < (t151.length : Int) then (if (rd t151 0) = 0 then (if 0 ≤ a0 then (if a0 < (t151.length : Int) then ((tree_Leaves.f a0).bind fun t159 => (if (rd t151 a0) = (wrap64 ((wrap64 (t159 - 1)) + a1)) then ((tree_Shared.f k a0 a1 a2).bind fun t160 => (oublaw7_TreePaths.l0 k a0 a1 a2 l3 t151 t154 t160 0)) else (some false))) else (none)) else (none)) else (some false)) else (none)) else (some false)) else (some false))))))))))) else ((oublaw7_first.f k).bind fun t201 => (some t201)))) else (some false))) = some r := h
 clear h
 replace H := Option.bind_eq_some_iff.mp H
 obtain ⟨t142, A50, H⟩ := H
 replace H : (if t142 = true then ((tree_May.f a0).bind fun t143 => (if t143 = true then (if a1 < 0 then ((oublaw7_first.f k).bind fun t144 => (some t144)) else (if a2 < 0 then ((oublaw7_first.f k).bind fun t145 => (some t145)) else ((tree_Leaves.f a0).bind fun t146 => (if a1 ≥ t146 then ((oublaw7_first.f k).bind fun t147 => (some t147)) else ((tree_Leaves.f a0).bind fun t148 => (if a2 ≥ t148 then ((oublaw7_first.f k).bind fun t149 => (some t149)) else (if (l3.length : Int) > 60 then ((oublaw7_first.f k).bind fun t150 => (some t150)) else ((tree_Path.f k a0 a1).bind fun t151 => ((tree_Path.f k a0 a2).bind fun t154 => (if (t151.length : Int) = (wrap64 (a0 + 1)) then (if (t154.length : Int) = (wrap64 (a0 + 1)) then (if 0 < (t151.length : Int) then (if (rd t151 0) = 0 then (if 0 ≤ a0 then (if a0 < (t151.length : Int) then ((tree_Leaves.f a0).bind fun t159 => (if (rd t151 a0) = (wrap64 ((wrap64 (t159 - 1)) + a1)) then ((tree_Shared.f k a0 a1 a2).bind fun t160 => (oublaw7_TreePaths.l0 k a0 a1 a2 l3 t151 t154 t160 0)) else (some false))) else (none)) else (none)) else (some false)) else (none)) else (some false)) else (some false))))))))))) else ((oublaw7_first.f k).bind fun t201 => (some t201)))) else (some false)) = some r := H
 have A5 := Aside0.mk A50
 clear A50
 by_cases c6 : t142 = true
 ·subst c6
  have H1 : ((tree_May.f a0).bind fun t143 => (if t143 = true then (if a1 < 0 then ((oublaw7_first.f k).bind fun t144 => (some t144)) else (if a2 < 0 then ((oublaw7_first.f k).bind fun t145 => (some t145)) else ((tree_Leaves.f a0).bind fun t146 => (if a1 ≥ t146 then ((oublaw7_first.f k).bind fun t147 => (some t147)) else ((tree_Leaves.f a0).bind fun t148 => (if a2 ≥ t148 then ((oublaw7_first.f k).bind fun t149 => (some t149)) else (if (l3.length : Int) > 60 then ((oublaw7_first.f k).bind fun t150 => (some t150)) else ((tree_Path.f k a0 a1).bind fun t151 => ((tree_Path.f k a0 a2).bind fun t154 => (if (t151.length : Int) = (wrap64 (a0 + 1)) then (if (t154.length : Int) = (wrap64 (a0 + 1)) then (if 0 < (t151.length : Int) then (if (rd t151 0) = 0 then (if 0 ≤ a0 then (if a0 < (t151.length : Int) then ((tree_Leaves.f a0).bind fun t159 => (if (rd t151 a0) = (wrap64 ((wrap64 (t159 - 1)) + a1)) then ((tree_Shared.f k a0 a1 a2).bind fun t160 => (oublaw7_TreePaths.l0 k a0 a1 a2 l3 t151 t154 t160 0)) else (some false))) else (none)) else (none)) else (some false)) else (none)) else (some false)) else (some false))))))))))) else ((oublaw7_first.f k).bind fun t201 => (some t201)))) = some r := by rw [if_pos rfl] at H; exact H
  clear H
  have H := H1
  clear H1
  replace H := Option.bind_eq_some_iff.mp H
  obtain ⟨t143, A70, H⟩ := H
  replace H : (if t143 = true then (if a1 < 0 then ((oublaw7_first.f k).bind fun t144 => (some t144)) else (if a2 < 0 then ((oublaw7_first.f k).bind fun t145 => (some t145)) else ((tree_Leaves.f a0).bind fun t146 => (if a1 ≥ t146 then ((oublaw7_first.f k).bind fun t147 => (some t147)) else ((tree_Leaves.f a0).bind fun t148 => (if a2 ≥ t148 then ((oublaw7_first.f k).bind fun t149 => (some t149)) else (if (l3.length : Int) > 60 then ((oublaw7_first.f k).bind fun t150 => (some t150)) else ((tree_Path.f k a0 a1).bind fun t151 => ((tree_Path.f k a0 a2).bind fun t154 => (if (t151.length : Int) = (wrap64 (a0 + 1)) then (if (t154.length : Int) = (wrap64 (a0 + 1)) then (if 0 < (t151.length : Int) then (if (rd t151 0) = 0 then (if 0 ≤ a0 then (if a0 < (t151.length : Int) then ((tree_Leaves.f a0).bind fun t159 => (if (rd t151 a0) = (wrap64 ((wrap64 (t159 - 1)) + a1)) then ((tree_Shared.f k a0 a1 a2).bind fun t160 => (oublaw7_TreePaths.l0 k a0 a1 a2 l3 t151 t154 t160 0)) else (some false))) else (none)) else (none)) else (some false)) else (none)) else (some false)) else (some false))))))))))) else ((oublaw7_first.f k).bind fun t201 => (some t201))) = some r := H
  have A7 := Aside0.mk A70
  clear A70
  by_cases c8 : t143 = true
  ·subst c8
   have H1 : (if a1 < 0 then ((oublaw7_first.f k).bind fun t144 => (some t144)) else (if a2 < 0 then ((oublaw7_first.f k).bind fun t145 => (some t145)) else ((tree_Leaves.f a0).bind fun t146 => (if a1 ≥ t146 then ((oublaw7_first.f k).bind fun t147 => (some t147)) else ((tree_Leaves.f a0).bind fun t148 => (if a2 ≥ t148 then ((oublaw7_first.f k).bind fun t149 => (some t149)) else (if (l3.length : Int) > 60 then ((oublaw7_first.f k).bind fun t150 => (some t150)) else ((tree_Path.f k a0 a1).bind fun t151 => ((tree_Path.f k a0 a2).bind fun t154 => (if (t151.length : Int) = (wrap64 (a0 + 1)) then (if (t154.length : Int) = (wrap64 (a0 + 1)) then (if 0 < (t151.length : Int) then (if (rd t151 0) = 0 then (if 0 ≤ a0 then (if a0 < (t151.length : Int) then ((tree_Leaves.f a0).bind fun t159 => (if (rd t151 a0) = (wrap64 ((wrap64 (t159 - 1)) + a1)) then ((tree_Shared.f k a0 a1 a2).bind fun t160 => (oublaw7_TreePaths.l0 k a0 a1 a2 l3 t151 t154 t160 0)) else (some false))) else (none)) else (none)) else (some false)) else (none)) else (some false)) else (some false))))))))))) = some r := by rw [if_pos rfl] at H; exact H
   clear H
   have H := H1
   clear H1
   by_cases c9 : a1 < 0
   ·rw [if_pos c9] at H
    have c9b0 : decide (a1 < 0) = true := decide_eq_true c9
    clear c9
    replace H := Option.bind_eq_some_iff.mp H
    obtain ⟨t144, A100, H⟩ := H
    replace H : (some t144) = some r := H
    have A10 := Aside0.mk A100
    clear A100
    obtain rfl := Option.some.inj H
    go_enter Try.func6, Try.ntmps6
    go_wp2_with (first | ((with_reducible refine gate_callee (f := 8) rfl ?_); refine goesL_ (some 19) rfl rfl Try.func8 (by kernel_rfl) rfl #[] rfl (by (try simp only [List.map_toArray, List.map_cons, List.map_nil]); first | done | rfl | (simp only [List.length_drop, List.length_take]; rfl)) ?_; (with_reducible refine (oublaw7_first.calls k  true _ A5.out).mono ?_); clear A5; rintro e w11 ⟨rfl, hb⟩; refine ⟨_, rfl, ?_⟩; have n0_ := Aside0.mk (below_step (by repeat (first | (with_reducible first | exact HB.out | apply below_alloc | apply pw_below_drewN | apply below_drew1) | exact HB.out)) hb); clear HB; have HB := n0_; clear n0_; (try clear hb); (try clear hb2); (try clear hk); (try clear hi)) | ((with_reducible refine gate_callee (f := 10) rfl ?_); refine goesL_ (some 22) rfl rfl Try.func10 (by kernel_rfl) rfl #[.int .i64 a0] rfl (by (try simp only [List.map_toArray, List.map_cons, List.map_nil]); first | done | rfl | (simp only [List.length_drop, List.length_take]; rfl)) ?_; (with_reducible refine (tree_May.calls a0 true _ A7.out).mono ?_); rintro e w' ⟨rfl, ⟨nd, rfl⟩⟩; refine ⟨_, rfl, ?_⟩) | ((with_reducible refine gate_callee (f := 8) rfl ?_); refine goesL_ (some 49) rfl rfl Try.func8 (by kernel_rfl) rfl #[] rfl (by (try simp only [List.map_toArray, List.map_cons, List.map_nil]); first | done | rfl | (simp only [List.length_drop, List.length_take]; rfl)) ?_; (with_reducible refine (oublaw7_first.calls k  t144 _ A10.out).mono ?_); clear A10; rintro e w12 ⟨rfl, hb⟩; refine ⟨_, rfl, ?_⟩; have n0_ := Aside0.mk (below_step (by repeat (first | (with_reducible first | exact HB.out | apply below_alloc | apply pw_below_drewN | apply below_drew1) | exact HB.out)) hb); clear HB; have HB := n0_; clear n0_; (try clear hb); (try clear hb2); (try clear hk); (try clear hi)))
    go_ret
    exact ⟨by first | rfl | (simp [errW_none, errW_some] <;> rfl) | (simp [*, errW_none, errW_some] <;> rfl), by repeat (first | (with_reducible first | exact HB.out | apply below_alloc | apply pw_below_drewN | apply below_drew1) | exact HB.out)⟩
   ·rw [if_neg c9] at H
    have c9b0 : decide (a1 < 0) = false := decide_eq_false c9
    clear c9
    by_cases c13 : a2 < 0
    ·rw [if_pos c13] at H
     have c13b0 : decide (a2 < 0) = true := decide_eq_true c13
     clear c13
     replace H := Option.bind_eq_some_iff.mp H
     obtain ⟨t145, A140, H⟩ := H
     replace H : (some t145) = some r := H
     have A14 := Aside0.mk A140
     clear A140
     obtain rfl := Option.some.inj H
     go_enter Try.func6, Try.ntmps6
     go_wp2_with (first | ((with_reducible refine gate_callee (f := 8) rfl ?_); refine goesL_ (some 19) rfl rfl Try.func8 (by kernel_rfl) rfl #[] rfl (by (try simp only [List.map_toArray, List.map_cons, List.map_nil]); first | done | rfl | (simp only [List.length_drop, List.length_take]; rfl)) ?_; (with_reducible refine (oublaw7_first.calls k  true _ A5.out).mono ?_); clear A5; rintro e w15 ⟨rfl, hb⟩; refine ⟨_, rfl, ?_⟩; have n0_ := Aside0.mk (below_step (by repeat (first | (with_reducible first | exact HB.out | apply below_alloc | apply pw_below_drewN | apply below_drew1) | exact HB.out)) hb); clear HB; have HB := n0_; clear n0_; (try clear hb); (try clear hb2); (try clear hk); (try clear hi)) | ((with_reducible refine gate_callee (f := 10) rfl ?_); refine goesL_ (some 22) rfl rfl Try.func10 (by kernel_rfl) rfl #[.int .i64 a0] rfl (by (try simp only [List.map_toArray, List.map_cons, List.map_nil]); first | done | rfl | (simp only [List.length_drop, List.length_take]; rfl)) ?_; (with_reducible refine (tree_May.calls a0 true _ A7.out).mono ?_); rintro e w' ⟨rfl, ⟨nd, rfl⟩⟩; refine ⟨_, rfl, ?_⟩) | ((with_reducible refine gate_callee (f := 8) rfl ?_); refine goesL_ (some 49) rfl rfl Try.func8 (by kernel_rfl) rfl #[] rfl (by (try simp only [List.map_toArray, List.map_cons, List.map_nil]); first | done | rfl | (simp only [List.length_drop, List.length_take]; rfl)) ?_; (with_reducible refine (oublaw7_first.calls k  t145 _ A14.out).mono ?_); clear A14; rintro e w16 ⟨rfl, hb⟩; refine ⟨_, rfl, ?_⟩; have n0_ := Aside0.mk (below_step (by repeat (first | (with_reducible first | exact HB.out | apply below_alloc | apply pw_below_drewN | apply below_drew1) | exact HB.out)) hb); clear HB; have HB := n0_; clear n0_; (try clear hb); (try clear hb2); (try clear hk); (try clear hi)))
     go_ret
     exact ⟨by first | rfl | (simp [errW_none, errW_some] <;> rfl) | (simp [*, errW_none, errW_some] <;> rfl), by repeat (first | (with_reducible first | exact HB.out | apply below_alloc | apply pw_below_drewN | apply below_drew1) | exact HB.out)⟩
    ·rw [if_neg c13] at H
     have c13b0 : decide (a2 < 0) = false := decide_eq_false c13
     clear c13
     replace H := Option.bind_eq_some_iff.mp H
     obtain ⟨t146, A170, H⟩ := H
     replace H : (if a1 ≥ t146 then ((oublaw7_first.f k).bind fun t147 => (some t147)) else ((tree_Leaves.f a0).bind fun t148 => (if a2 ≥ t148 then ((oublaw7_first.f k).bind fun t149 => (some t149)) else (if (l3.length : Int) > 60 then ((oublaw7_first.f k).bind fun t150 => (some t150)) else ((tree_Path.f k a0 a1).bind fun t151 => ((tree_Path.f k a0 a2).bind fun t154 => (if (t151.length : Int) = (wrap64 (a0 + 1)) then (if (t154.length : Int) = (wrap64 (a0 + 1)) then (if 0 < (t151.length : Int) then (if (rd t151 0) = 0 then (if 0 ≤ a0 then (if a0 < (t151.length : Int) then ((tree_Leaves.f a0).bind fun t159 => (if (rd t151 a0) = (wrap64 ((wrap64 (t159 - 1)) + a1)) then ((tree_Shared.f k a0 a1 a2).bind fun t160 => (oublaw7_TreePaths.l0 k a0 a1 a2 l3 t151 t154 t160 0)) else (some false))) else (none)) else (none)) else (some false)) else (none)) else (some false)) else (some false)))))))) = some r := H
     have A17 := Aside0.mk A170
     clear A170
     by_cases c18 : a1 ≥ t146
     ·rw [if_pos c18] at H
      have c18b0 : decide (t146 ≤ a1) = true := decide_eq_true c18
      clear c18
      replace H := Option.bind_eq_some_iff.mp H
      obtain ⟨t147, A190, H⟩ := H
      replace H : (some t147) = some r := H
      have A19 := Aside0.mk A190
      clear A190
      obtain rfl := Option.some.inj H
      go_enter Try.func6, Try.ntmps6
      go_wp2_with (first | ((with_reducible refine gate_callee (f := 8) rfl ?_); refine goesL_ (some 19) rfl rfl Try.func8 (by kernel_rfl) rfl #[] rfl (by (try simp only [List.map_toArray, List.map_cons, List.map_nil]); first | done | rfl | (simp only [List.length_drop, List.length_take]; rfl)) ?_; (with_reducible refine (oublaw7_first.calls k  true _ A5.out).mono ?_); clear A5; rintro e w20 ⟨rfl, hb⟩; refine ⟨_, rfl, ?_⟩; have n0_ := Aside0.mk (below_step (by repeat (first | (with_reducible first | exact HB.out | apply below_alloc | apply pw_below_drewN | apply below_drew1) | exact HB.out)) hb); clear HB; have HB := n0_; clear n0_; (try clear hb); (try clear hb2); (try clear hk); (try clear hi)) | ((with_reducible refine gate_callee (f := 10) rfl ?_); refine goesL_ (some 22) rfl rfl Try.func10 (by kernel_rfl) rfl #[.int .i64 a0] rfl (by (try simp only [List.map_toArray, List.map_cons, List.map_nil]); first | done | rfl | (simp only [List.length_drop, List.length_take]; rfl)) ?_; (with_reducible refine (tree_May.calls a0 true _ A7.out).mono ?_); rintro e w' ⟨rfl, ⟨nd, rfl⟩⟩; refine ⟨_, rfl, ?_⟩) | (go_at_call 13; (with_reducible refine (tree_Leaves.calls a0 t146 _ A17.out).mono ?_); rintro e w' ⟨rfl, ⟨nd, rfl⟩⟩) | ((with_reducible refine gate_callee (f := 8) rfl ?_); refine goesL_ (some 49) rfl rfl Try.func8 (by kernel_rfl) rfl #[] rfl (by (try simp only [List.map_toArray, List.map_cons, List.map_nil]); first | done | rfl | (simp only [List.length_drop, List.length_take]; rfl)) ?_; (with_reducible refine (oublaw7_first.calls k  t147 _ A19.out).mono ?_); clear A19; rintro e w21 ⟨rfl, hb⟩; refine ⟨_, rfl, ?_⟩; have n0_ := Aside0.mk (below_step (by repeat (first | (with_reducible first | exact HB.out | apply below_alloc | apply pw_below_drewN | apply below_drew1) | exact HB.out)) hb); clear HB; have HB := n0_; clear n0_; (try clear hb); (try clear hb2); (try clear hk); (try clear hi)))
      go_ret
      exact ⟨by first | rfl | (simp [errW_none, errW_some] <;> rfl) | (simp [*, errW_none, errW_some] <;> rfl), by repeat (first | (with_reducible first | exact HB.out | apply below_alloc | apply pw_below_drewN | apply below_drew1) | exact HB.out)⟩
     ·rw [if_neg c18] at H
      have c18b0 : decide (t146 ≤ a1) = false := decide_eq_false c18
      clear c18
      replace H := Option.bind_eq_some_iff.mp H
      obtain ⟨t148, A220, H⟩ := H
      replace H : (if a2 ≥ t148 then ((oublaw7_first.f k).bind fun t149 => (some t149)) else (if (l3.length : Int) > 60 then ((oublaw7_first.f k).bind fun t150 => (some t150)) else ((tree_Path.f k a0 a1).bind fun t151 => ((tree_Path.f k a0 a2).bind fun t154 => (if (t151.length : Int) = (wrap64 (a0 + 1)) then (if (t154.length : Int) = (wrap64 (a0 + 1)) then (if 0 < (t151.length : Int) then (if (rd t151 0) = 0 then (if 0 ≤ a0 then (if a0 < (t151.length : Int) then ((tree_Leaves.f a0).bind fun t159 => (if (rd t151 a0) = (wrap64 ((wrap64 (t159 - 1)) + a1)) then ((tree_Shared.f k a0 a1 a2).bind fun t160 => (oublaw7_TreePaths.l0 k a0 a1 a2 l3 t151 t154 t160 0)) else (some false))) else (none)) else (none)) else (some false)) else (none)) else (some false)) else (some false)))))) = some r := H
      have A22 := Aside0.mk A220
      clear A220
      by_cases c23 : a2 ≥ t148
      ·rw [if_pos c23] at H
       have c23b0 : decide (t148 ≤ a2) = true := decide_eq_true c23
       clear c23
       replace H := Option.bind_eq_some_iff.mp H
       obtain ⟨t149, A240, H⟩ := H
       replace H : (some t149) = some r := H
       have A24 := Aside0.mk A240
       clear A240
       obtain rfl := Option.some.inj H
       go_enter Try.func6, Try.ntmps6
       go_wp2_with (first | ((with_reducible refine gate_callee (f := 8) rfl ?_); refine goesL_ (some 19) rfl rfl Try.func8 (by kernel_rfl) rfl #[] rfl (by (try simp only [List.map_toArray, List.map_cons, List.map_nil]); first | done | rfl | (simp only [List.length_drop, List.length_take]; rfl)) ?_; (with_reducible refine (oublaw7_first.calls k  true _ A5.out).mono ?_); clear A5; rintro e w25 ⟨rfl, hb⟩; refine ⟨_, rfl, ?_⟩; have n0_ := Aside0.mk (below_step (by repeat (first | (with_reducible first | exact HB.out | apply below_alloc | apply pw_below_drewN | apply below_drew1) | exact HB.out)) hb); clear HB; have HB := n0_; clear n0_; (try clear hb); (try clear hb2); (try clear hk); (try clear hi)) | ((with_reducible refine gate_callee (f := 10) rfl ?_); refine goesL_ (some 22) rfl rfl Try.func10 (by kernel_rfl) rfl #[.int .i64 a0] rfl (by (try simp only [List.map_toArray, List.map_cons, List.map_nil]); first | done | rfl | (simp only [List.length_drop, List.length_take]; rfl)) ?_; (with_reducible refine (tree_May.calls a0 true _ A7.out).mono ?_); rintro e w' ⟨rfl, ⟨nd, rfl⟩⟩; refine ⟨_, rfl, ?_⟩) | (go_at_call 13; (with_reducible refine (tree_Leaves.calls a0 t146 _ A17.out).mono ?_); clear A17; rintro e w' ⟨rfl, ⟨nd, rfl⟩⟩) | (go_at_call 13; (with_reducible refine (tree_Leaves.calls a0 t148 _ A22.out).mono ?_); clear A22; rintro e w' ⟨rfl, ⟨nd, rfl⟩⟩) | ((with_reducible refine gate_callee (f := 8) rfl ?_); refine goesL_ (some 49) rfl rfl Try.func8 (by kernel_rfl) rfl #[] rfl (by (try simp only [List.map_toArray, List.map_cons, List.map_nil]); first | done | rfl | (simp only [List.length_drop, List.length_take]; rfl)) ?_; (with_reducible refine (oublaw7_first.calls k  t149 _ A24.out).mono ?_); clear A24; rintro e w26 ⟨rfl, hb⟩; refine ⟨_, rfl, ?_⟩; have n0_ := Aside0.mk (below_step (by repeat (first | (with_reducible first | exact HB.out | apply below_alloc | apply pw_below_drewN | apply below_drew1) | exact HB.out)) hb); clear HB; have HB := n0_; clear n0_; (try clear hb); (try clear hb2); (try clear hk); (try clear hi)))
       go_ret
       exact ⟨by first | rfl | (simp [errW_none, errW_some] <;> rfl) | (simp [*, errW_none, errW_some] <;> rfl), by repeat (first | (with_reducible first | exact HB.out | apply below_alloc | apply pw_below_drewN | apply below_drew1) | exact HB.out)⟩
      ·rw [if_neg c23] at H
       have c23b0 : decide (t148 ≤ a2) = false := decide_eq_false c23
       clear c23
       by_cases c27 : (l3.length : Int) > 60
       ·rw [if_pos c27] at H
        have c27b0 : decide (60 < (l3.length : Int)) = true := decide_eq_true c27
        have c27b1 : decide (60 < l3.length) = true := decide_eq_true (by omega)
        clear c27
        replace H := Option.bind_eq_some_iff.mp H
        obtain ⟨t150, A280, H⟩ := H
        replace H : (some t150) = some r := H
        have A28 := Aside0.mk A280
        clear A280
        obtain rfl := Option.some.inj H
        go_enter Try.func6, Try.ntmps6
        go_wp2_with (first | ((with_reducible refine gate_callee (f := 8) rfl ?_); refine goesL_ (some 19) rfl rfl Try.func8 (by kernel_rfl) rfl #[] rfl (by (try simp only [List.map_toArray, List.map_cons, List.map_nil]); first | done | rfl | (simp only [List.length_drop, List.length_take]; rfl)) ?_; (with_reducible refine (oublaw7_first.calls k  true _ A5.out).mono ?_); clear A5; rintro e w29 ⟨rfl, hb⟩; refine ⟨_, rfl, ?_⟩; have n0_ := Aside0.mk (below_step (by repeat (first | (with_reducible first | exact HB.out | apply below_alloc | apply pw_below_drewN | apply below_drew1) | exact HB.out)) hb); clear HB; have HB := n0_; clear n0_; (try clear hb); (try clear hb2); (try clear hk); (try clear hi)) | ((with_reducible refine gate_callee (f := 10) rfl ?_); refine goesL_ (some 22) rfl rfl Try.func10 (by kernel_rfl) rfl #[.int .i64 a0] rfl (by (try simp only [List.map_toArray, List.map_cons, List.map_nil]); first | done | rfl | (simp only [List.length_drop, List.length_take]; rfl)) ?_; (with_reducible refine (tree_May.calls a0 true _ A7.out).mono ?_); rintro e w' ⟨rfl, ⟨nd, rfl⟩⟩; refine ⟨_, rfl, ?_⟩) | (go_at_call 13; (with_reducible refine (tree_Leaves.calls a0 t146 _ A17.out).mono ?_); clear A17; rintro e w' ⟨rfl, ⟨nd, rfl⟩⟩) | (go_at_call 13; (with_reducible refine (tree_Leaves.calls a0 t148 _ A22.out).mono ?_); clear A22; rintro e w' ⟨rfl, ⟨nd, rfl⟩⟩) | ((with_reducible refine gate_callee (f := 8) rfl ?_); refine goesL_ (some 49) rfl rfl Try.func8 (by kernel_rfl) rfl #[] rfl (by (try simp only [List.map_toArray, List.map_cons, List.map_nil]); first | done | rfl | (simp only [List.length_drop, List.length_take]; rfl)) ?_; (with_reducible refine (oublaw7_first.calls k  t150 _ A28.out).mono ?_); clear A28; rintro e w30 ⟨rfl, hb⟩; refine ⟨_, rfl, ?_⟩; have n0_ := Aside0.mk (below_step (by repeat (first | (with_reducible first | exact HB.out | apply below_alloc | apply pw_below_drewN | apply below_drew1) | exact HB.out)) hb); clear HB; have HB := n0_; clear n0_; (try clear hb); (try clear hb2); (try clear hk); (try clear hi)))
        go_ret
        exact ⟨by first | rfl | (simp [errW_none, errW_some] <;> rfl) | (simp [*, errW_none, errW_some] <;> rfl), by repeat (first | (with_reducible first | exact HB.out | apply below_alloc | apply pw_below_drewN | apply below_drew1) | exact HB.out)⟩
       ·rw [if_neg c27] at H
        have c27b0 : decide (60 < (l3.length : Int)) = false := decide_eq_false c27
        have c27b1 : decide (60 < l3.length) = false := decide_eq_false (by omega)
        clear c27
        replace H := Option.bind_eq_some_iff.mp H
        obtain ⟨t151, A310, H⟩ := H
        replace H : ((tree_Path.f k a0 a2).bind fun t154 => (if (t151.length : Int) = (wrap64 (a0 + 1)) then (if (t154.length : Int) = (wrap64 (a0 + 1)) then (if 0 < (t151.length : Int) then (if (rd t151 0) = 0 then (if 0 ≤ a0 then (if a0 < (t151.length : Int) then ((tree_Leaves.f a0).bind fun t159 => (if (rd t151 a0) = (wrap64 ((wrap64 (t159 - 1)) + a1)) then ((tree_Shared.f k a0 a1 a2).bind fun t160 => (oublaw7_TreePaths.l0 k a0 a1 a2 l3 t151 t154 t160 0)) else (some false))) else (none)) else (none)) else (some false)) else (none)) else (some false)) else (some false))) = some r := H
        have A31 := Aside0.mk A310
        clear A310
        replace H := Option.bind_eq_some_iff.mp H
        obtain ⟨t154, A320, H⟩ := H
        replace H : (if (t151.length : Int) = (wrap64 (a0 + 1)) then (if (t154.length : Int) = (wrap64 (a0 + 1)) then (if 0 < (t151.length : Int) then (if (rd t151 0) = 0 then (if 0 ≤ a0 then (if a0 < (t151.length : Int) then ((tree_Leaves.f a0).bind fun t159 => (if (rd t151 a0) = (wrap64 ((wrap64 (t159 - 1)) + a1)) then ((tree_Shared.f k a0 a1 a2).bind fun t160 => (oublaw7_TreePaths.l0 k a0 a1 a2 l3 t151 t154 t160 0)) else (some false))) else (none)) else (none)) else (some false)) else (none)) else (some false)) else (some false)) = some r := H
        have A32 := Aside0.mk A320
        clear A320
        by_cases c33 : (t151.length : Int) = (wrap64 (a0 + 1))
        ·rw [if_pos c33] at H
         have c33b0 : ((t151.length : Int) == (wrap64 (a0 + 1))) = true := beq_iff_eq.mpr c33
         have c33b1 : ((t151.length : Int) != (wrap64 (a0 + 1))) = false := bne_eq_false_iff_eq.mpr c33
         clear c33
         by_cases c34 : (t154.length : Int) = (wrap64 (a0 + 1))
         ·rw [if_pos c34] at H
          have c34b0 : ((t154.length : Int) == (wrap64 (a0 + 1))) = true := beq_iff_eq.mpr c34
          have c34b1 : ((t154.length : Int) != (wrap64 (a0 + 1))) = false := bne_eq_false_iff_eq.mpr c34
          clear c34
          by_cases c35 : 0 < (t151.length : Int)
          ·rw [if_pos c35] at H
           have c35b0 : decide (0 < (t151.length : Int)) = true := decide_eq_true c35
           have c35b1 : decide (0 < t151.length) = true := decide_eq_true (by omega)
           clear c35
           by_cases c36 : (rd t151 0) = 0
           ·rw [if_pos c36] at H
            have c36b0 : ((rd t151 0) == 0) = true := beq_iff_eq.mpr c36
            have c36b1 : ((rd t151 0) != 0) = false := bne_eq_false_iff_eq.mpr c36
            clear c36
            by_cases c37 : 0 ≤ a0
            ·rw [if_pos c37] at H
             have c37b0 : decide (0 ≤ a0) = true := decide_eq_true c37
             clear c37
             by_cases c38 : a0 < (t151.length : Int)
             ·rw [if_pos c38] at H
              have c38b0 : decide (a0 < (t151.length : Int)) = true := decide_eq_true c38
              clear c38
              replace H := Option.bind_eq_some_iff.mp H
              obtain ⟨t159, A390, H⟩ := H
              replace H : (if (rd t151 a0) = (wrap64 ((wrap64 (t159 - 1)) + a1)) then ((tree_Shared.f k a0 a1 a2).bind fun t160 => (oublaw7_TreePaths.l0 k a0 a1 a2 l3 t151 t154 t160 0)) else (some false)) = some r := H
              have A39 := Aside0.mk A390
              clear A390
              by_cases c40 : (rd t151 a0) = (wrap64 ((wrap64 (t159 - 1)) + a1))
              ·rw [if_pos c40] at H
               have c40b0 : ((rd t151 a0) == (wrap64 ((wrap64 (t159 - 1)) + a1))) = true := beq_iff_eq.mpr c40
               have c40b1 : ((rd t151 a0) != (wrap64 ((wrap64 (t159 - 1)) + a1))) = false := bne_eq_false_iff_eq.mpr c40
               clear c40
               replace H := Option.bind_eq_some_iff.mp H
               obtain ⟨t160, A410, H⟩ := H
               replace H : (oublaw7_TreePaths.l0 k a0 a1 a2 l3 t151 t154 t160 0) = some r := H
               have A41 := Aside0.mk A410
               clear A410
               have H' := Aside0.mk H
               clear H
               go_enter Try.func6, Try.ntmps6
               try go_wp2_with (first | ((with_reducible refine gate_callee (f := 8) rfl ?_); refine goesL_ (some 19) rfl rfl Try.func8 (by kernel_rfl) rfl #[] rfl (by (try simp only [List.map_toArray, List.map_cons, List.map_nil]); first | done | rfl | (simp only [List.length_drop, List.length_take]; rfl)) ?_; (with_reducible refine (oublaw7_first.calls k  true _ A5.out).mono ?_); rintro e w42 ⟨rfl, hb⟩; refine ⟨_, rfl, ?_⟩; have n0_ := Aside0.mk (below_step (by repeat (first | (with_reducible first | exact HB.out | apply below_alloc | apply pw_below_drewN | apply below_drew1) | exact HB.out)) hb); clear HB; have HB := n0_; clear n0_; (try clear hb); (try clear hb2); (try clear hk); (try clear hi)) | ((with_reducible refine gate_callee (f := 10) rfl ?_); refine goesL_ (some 22) rfl rfl Try.func10 (by kernel_rfl) rfl #[.int .i64 a0] rfl (by (try simp only [List.map_toArray, List.map_cons, List.map_nil]); first | done | rfl | (simp only [List.length_drop, List.length_take]; rfl)) ?_; (with_reducible refine (tree_May.calls a0 true _ A7.out).mono ?_); rintro e w' ⟨rfl, ⟨nd, rfl⟩⟩; refine ⟨_, rfl, ?_⟩) | (go_at_call 13; (with_reducible refine (tree_Leaves.calls a0 t146 _ A17.out).mono ?_); clear A17; rintro e w' ⟨rfl, ⟨nd, rfl⟩⟩) | (go_at_call 13; (with_reducible refine (tree_Leaves.calls a0 t148 _ A22.out).mono ?_); clear A22; rintro e w' ⟨rfl, ⟨nd, rfl⟩⟩) | ((with_reducible refine gate_callee (f := 15) rfl ?_); refine goesL_ (some 52) rfl rfl Try.func15 (by kernel_rfl) rfl #[.int .i64 a0, .int .i64 a1] rfl (by (try simp only [List.map_toArray, List.map_cons, List.map_nil]); first | done | rfl | (simp only [List.length_drop, List.length_take]; rfl)) ?_; (with_reducible refine (tree_Path.calls k a0 a1 t151 _ A31.out).mono ?_); clear A31; rintro e w43 ⟨v152, rfl, ho0, hb⟩; refine ⟨_, rfl, ?_⟩; have n0_ := Aside0.mk (Kd.R_lower ho0 (below_size (by repeat (first | (with_reducible first | exact HB.out | apply below_alloc | apply pw_below_drewN | apply below_drew1) | exact HB.out)))); have n1_ := Aside0.mk (below_step (by repeat (first | (with_reducible first | exact HB.out | apply below_alloc | apply pw_below_drewN | apply below_drew1) | exact HB.out)) hb); clear HB; have HO153 := n0_; have HB := n1_; clear n0_ n1_; (try clear hb); (try clear hb2); (try clear hk); (try clear hi); (try clear ho0)) | ((with_reducible refine gate_callee (f := 15) rfl ?_); refine goesL_ (some 55) rfl rfl Try.func15 (by kernel_rfl) rfl #[.int .i64 a0, .int .i64 a2] rfl (by (try simp only [List.map_toArray, List.map_cons, List.map_nil]); first | done | rfl | (simp only [List.length_drop, List.length_take]; rfl)) ?_; (with_reducible refine (tree_Path.calls k a0 a2 t154 _ A32.out).mono ?_); clear A32; rintro e w44 ⟨v155, rfl, ho0, hb⟩; refine ⟨_, rfl, ?_⟩; have n0_ := Aside0.mk (Kd.R_elder' (by (with_reducible repeat (first | apply Kd.R_alloc | apply Kd.R_drewN | apply Kd.R_drew)); exact HO153.out) (Kd.R_base ho0) hb); have n1_ := Aside0.mk (Kd.R_lower (Kd.R_new' ho0 (Kd.R_lt (by (with_reducible repeat (first | apply Kd.R_alloc | apply Kd.R_drewN | apply Kd.R_drew)); exact HO153.out))) (below_size (by repeat (first | (with_reducible first | exact HB.out | apply below_alloc | apply pw_below_drewN | apply below_drew1) | exact HB.out)))); have n2_ := Aside0.mk (below_step (by repeat (first | (with_reducible first | exact HB.out | apply below_alloc | apply pw_below_drewN | apply below_drew1) | exact HB.out)) hb); clear HO153; clear HB; have HO153 := n0_; have HO156 := n1_; have HB := n2_; clear n0_ n1_ n2_; (try clear hb); (try clear hb2); (try clear hk); (try clear hi); (try clear ho0)))
               have n0_ := Aside0.mk (Kd.R_drew HO153.out)
               have n1_ := Aside0.mk (Kd.R_drew HO156.out)
               have n2_ := Aside0.mk (below_drew1 HB.out)
               clear HO153
               clear HO156
               clear HB
               have HO153 := n0_
               have HO156 := n1_
               have HB := n2_
               clear n0_ n1_ n2_
               obtain ⟨Ao46, co46, eo46⟩ := Kd.R_slice HO153.out
               (first | subst eo46 | (injection eo46 with f1_ f2_ f3_; have f4_ := f1_.symm; have f5_ := f3_.symm; clear f1_ f2_ f3_; subst f4_; subst f5_))
               obtain ⟨Ao47, co47, eo47⟩ := Kd.R_slice HO156.out
               (first | subst eo47 | (injection eo47 with f1_ f2_ f3_; have f4_ := f1_.symm; have f5_ := f3_.symm; clear f1_ f2_ f3_; subst f4_; subst f5_))
               have p157 : 0 ≤ (0 : Int) := (by omega)
               have q157 : 0 < (t151.length : Int) := of_decide_eq_true (by first | (with_reducible assumption) | assumption)
               obtain ⟨ad157, e157, hx157_0⟩ := Kd.at_int (Kd.R_reads' HO153.out).2.2 0 p157 q157
               cases e157
               have qi157 : (0 < t151.length) = True := eq_true (by omega)
               (try rw [show ((0 : Int)).toNat = 0 from rfl] at hx157_0)
               (try rw [Addr.add_zero'] at hx157_0)
               replace p157 := eq_true p157
               replace q157 := eq_true q157
               have p158 : 0 ≤ (a0 : Int) := of_decide_eq_true (by first | (with_reducible assumption) | assumption)
               have q158 : a0 < (t151.length : Int) := of_decide_eq_true (by first | (with_reducible assumption) | assumption)
               obtain ⟨ad158, e158, hx158_0⟩ := Kd.at_int (Kd.R_reads' HO153.out).2.2 a0 p158 q158
               obtain rfl : ad157 = ad158 := (by injection e158)
               replace p158 := eq_true p158
               replace q158 := eq_true q158
               refine start_ (n := 30) (S := fun w' => w'.cell? ad157 = some (.int .i64 (rd t151 0)) ∧ w'.cell? (ad157.add (a0).toNat) = some (.int .i64 (rd t151 a0))) (ds := []) #[false, false, false, false, false, false, false, false, false, false, false, false, false, false, false, false, false, false, false, false, false, false, false, false, false, false, false, false, false, false] (by kernel_rfl) rfl rfl ⟨hx157_0, hx158_0⟩ (fun hHeld => ?_); refine with_tabW oublaw7_TreePaths.tab6 oublaw7_TreePaths.bits6 (fun HT_ HW_ => ?_)
               generalize w44.drew = w45 at HO153 HO156 HB hx157_0 hx158_0 hHeld ⊢
               refine pure_ (i := 0) (N := some 56) (v := ?_) (a' := ?_) (bs 1 29) rfl rfl (any_of HT_.out (by kernel_rfl)) (fun _ _ _ h => h) (Or.inl ⟨by rfl, ?_⟩) ?_ ?_
               rotate_left
               ·intro w'
                go_simp
                with_reducible rfl
               rotate_left
               ·simp only [Act.put, List.setIfInBounds_toArray, List.set_cons_zero, List.set_cons_succ, i64_w, i32_w]
                rfl
               refine pure_ (i := 1) (N := some 57) (v := ?_) (a' := ?_) (bs 2 28) rfl rfl (any_of HT_.out (by kernel_rfl)) (fun _ _ _ h => h) (Or.inl ⟨by rfl, ?_⟩) ?_ ?_
               rotate_left
               ·intro w'
                go_simp
                with_reducible rfl
               rotate_left
               ·simp only [Act.put, List.setIfInBounds_toArray, List.set_cons_zero, List.set_cons_succ, i64_w, i32_w]
                rfl
               refine pure_ (i := 2) (N := some 58) (v := ?_) (a' := ?_) (bs 3 27) rfl rfl (any_of HT_.out (by kernel_rfl)) (fun _ _ _ h => h) (Or.inl ⟨by rfl, ?_⟩) ?_ ?_
               rotate_left
               ·intro w'
                go_simp
                with_reducible rfl
               rotate_left
               ·simp only [Act.put, List.setIfInBounds_toArray, List.set_cons_zero, List.set_cons_succ, i64_w, i32_w]
                rfl
               refine pure_ (i := 3) (N := some 59) (v := ?_) (a' := ?_) (bs 4 26) rfl rfl (any_of HT_.out (by kernel_rfl)) (fun _ _ _ h => h) (Or.inl ⟨by rfl, ?_⟩) ?_ ?_
               rotate_left
               ·intro w'
                go_simp
                with_reducible rfl
               rotate_left
               ·simp only [Act.put, List.setIfInBounds_toArray, List.set_cons_zero, List.set_cons_succ, i64_w, i32_w]
                rfl
               refine pure_ (i := 4) (N := some 60) (v := ?_) (a' := ?_) (bs 5 25) rfl rfl (any_of HT_.out (by kernel_rfl)) (fun _ _ _ h => h) (Or.inl ⟨by rfl, ?_⟩) ?_ ?_
               rotate_left
               ·intro w'
                go_simp
                with_reducible rfl
               rotate_left
               ·simp only [Act.put, List.setIfInBounds_toArray, List.set_cons_zero, List.set_cons_succ, i64_w, i32_w]
                rfl
               refine pure_ (i := 5) (N := some 61) (v := ?_) (a' := ?_) (bs 6 24) rfl rfl (any_of HT_.out (by kernel_rfl)) (fun _ _ _ h => h) (Or.inl ⟨by rfl, ?_⟩) ?_ ?_
               rotate_left
               ·intro w'
                go_simp
                with_reducible rfl
               rotate_left
               ·simp only [Act.put, List.setIfInBounds_toArray, List.set_cons_zero, List.set_cons_succ, i64_w, i32_w]
                rfl
               refine pure_ (i := 6) (N := some 62) (v := ?_) (a' := ?_) (bs 7 23) rfl rfl (any_of HT_.out (by kernel_rfl)) (fun _ _ _ h => h) (Or.inl ⟨by rfl, ?_⟩) ?_ ?_
               rotate_left
               ·intro w'
                go_simp
                with_reducible rfl
               rotate_left
               ·simp only [Act.put, List.setIfInBounds_toArray, List.set_cons_zero, List.set_cons_succ, i64_w, i32_w]
                rfl
               refine pure_ (i := 7) (N := some 63) (v := ?_) (a' := ?_) (bs 8 22) rfl rfl (any_of HT_.out (by kernel_rfl)) (fun _ _ _ h => h) (Or.inl ⟨by rfl, ?_⟩) ?_ ?_
               rotate_left
               ·intro w'
                go_simp
                with_reducible rfl
               rotate_left
               ·simp only [Act.put, List.setIfInBounds_toArray, List.set_cons_zero, List.set_cons_succ, i64_w, i32_w]
                rfl
               refine pure_ (i := 8) (N := some 64) (v := ?_) (a' := ?_) (bs 9 21) rfl rfl (any_of HT_.out (by kernel_rfl)) (fun _ _ _ h => h) (Or.inl ⟨by rfl, ?_⟩) ?_ ?_
               rotate_left
               ·intro w'
                go_simp
                with_reducible rfl
               rotate_left
               ·simp only [Act.put, List.setIfInBounds_toArray, List.set_cons_zero, List.set_cons_succ, i64_w, i32_w]
                rfl
               refine pure_ (i := 9) (N := some 65) (v := ?_) (a' := ?_) (bs 10 20) rfl rfl (any_of HT_.out (by kernel_rfl)) (fun _ _ _ h => h) (Or.inl ⟨by rfl, ?_⟩) ?_ ?_
               rotate_left
               ·intro w'
                go_simp
                with_reducible rfl
               rotate_left
               ·simp only [Act.put, List.setIfInBounds_toArray, List.set_cons_zero, List.set_cons_succ, i64_w, i32_w]
                rfl
               refine pure_ (i := 10) (N := some 66) (v := ?_) (a' := ?_) (bs 11 19) rfl rfl (any_of HT_.out (by kernel_rfl)) (fun _ _ _ h => h) (Or.inl ⟨by rfl, ?_⟩) ?_ ?_
               rotate_left
               ·intro w'
                go_simp
                with_reducible rfl
               rotate_left
               ·simp only [Act.put, List.setIfInBounds_toArray, List.set_cons_zero, List.set_cons_succ, i64_w, i32_w]
                rfl
               refine pure_ (i := 11) (N := some 67) (v := ?_) (a' := ?_) (bs 12 18) rfl rfl (any_of HT_.out (by kernel_rfl)) (fun _ _ _ h => h) (Or.inl ⟨by rfl, ?_⟩) ?_ ?_
               rotate_left
               ·intro w'
                go_simp
                with_reducible rfl
               rotate_left
               ·simp only [Act.put, List.setIfInBounds_toArray, List.set_cons_zero, List.set_cons_succ, i64_w, i32_w]
                rfl
               refine pure_ (i := 12) (N := some 68) (v := ?_) (a' := ?_) (bs 13 17) rfl rfl (any_of HT_.out (by kernel_rfl)) (fun _ _ _ h => h) (Or.inl ⟨by rfl, ?_⟩) ?_ ?_
               rotate_left
               ·intro w'
                go_simp
                with_reducible rfl
               rotate_left
               ·simp only [Act.put, List.setIfInBounds_toArray, List.set_cons_zero, List.set_cons_succ, i64_w, i32_w]
                rfl
               refine pure_ (i := 13) (N := some 69) (v := ?_) (a' := ?_) (bs 14 16) rfl rfl (any_of HT_.out (by kernel_rfl)) (fun _ _ _ h => h) (Or.inl ⟨by rfl, ?_⟩) ?_ ?_
               rotate_left
               ·intro w'
                go_simp
                with_reducible rfl
               rotate_left
               ·simp only [Act.put, List.setIfInBounds_toArray, List.set_cons_zero, List.set_cons_succ, i64_w, i32_w]
                rfl
               refine pure_ (i := 14) (N := some 70) (v := ?_) (a' := ?_) (bs 15 15) rfl rfl (any_of HT_.out (by kernel_rfl)) (fun _ _ _ h => h) (Or.inl ⟨by rfl, ?_⟩) ?_ ?_
               rotate_left
               ·intro w'
                go_simp
                with_reducible rfl
               rotate_left
               ·simp only [Act.put, List.setIfInBounds_toArray, List.set_cons_zero, List.set_cons_succ, i64_w, i32_w]
                rfl
               refine take_ (i := 15) (N := some 71) (v := ?_) (a' := ?_) (bs 16 14) rfl rfl (take_ofW HT_.out HW_.out (by kernel_rfl)) (fun _ _ _ h => h) (Or.inl ⟨by rfl, ?_⟩) hHeld ?_ ?_
               rotate_left
               ·rintro w' ⟨s0, s1⟩
                go_simp
                with_reducible rfl
               rotate_left
               ·simp only [Act.put, List.setIfInBounds_toArray, List.set_cons_zero, List.set_cons_succ, i64_w, i32_w]
                rfl
               refine pure_ (i := 16) (N := some 72) (v := ?_) (a' := ?_) (bs 17 13) rfl rfl (any_of HT_.out (by kernel_rfl)) (fun _ _ _ h => h) (Or.inl ⟨by rfl, ?_⟩) ?_ ?_
               rotate_left
               ·intro w'
                go_simp
                with_reducible rfl
               rotate_left
               ·simp only [Act.put, List.setIfInBounds_toArray, List.set_cons_zero, List.set_cons_succ, i64_w, i32_w]
                rfl
               refine pure_ (i := 17) (N := some 73) (v := ?_) (a' := ?_) (bs 18 12) rfl rfl (any_of HT_.out (by kernel_rfl)) (fun _ _ _ h => h) (Or.inl ⟨by rfl, ?_⟩) ?_ ?_
               rotate_left
               ·intro w'
                go_simp
                with_reducible rfl
               rotate_left
               ·simp only [Act.put, List.setIfInBounds_toArray, List.set_cons_zero, List.set_cons_succ, i64_w, i32_w]
                rfl
               refine pure_ (i := 18) (N := some 74) (v := ?_) (a' := ?_) (bs 19 11) rfl rfl (any_of HT_.out (by kernel_rfl)) (fun _ _ _ h => h) (Or.inl ⟨by rfl, ?_⟩) ?_ ?_
               rotate_left
               ·intro w'
                go_simp
                with_reducible rfl
               rotate_left
               ·simp only [Act.put, List.setIfInBounds_toArray, List.set_cons_zero, List.set_cons_succ, i64_w, i32_w]
                rfl
               refine pure_ (i := 19) (N := some 75) (v := ?_) (a' := ?_) (bs 20 10) rfl rfl (any_of HT_.out (by kernel_rfl)) (fun _ _ _ h => h) (Or.inl ⟨by rfl, ?_⟩) ?_ ?_
               rotate_left
               ·intro w'
                go_simp
                with_reducible rfl
               rotate_left
               ·simp only [Act.put, List.setIfInBounds_toArray, List.set_cons_zero, List.set_cons_succ, i64_w, i32_w]
                rfl
               refine pure_ (i := 20) (N := some 76) (v := ?_) (a' := ?_) (bs 21 9) rfl rfl (any_of HT_.out (by kernel_rfl)) (fun _ _ _ h => h) (Or.inl ⟨by rfl, ?_⟩) ?_ ?_
               rotate_left
               ·intro w'
                go_simp
                with_reducible rfl
               rotate_left
               ·simp only [Act.put, List.setIfInBounds_toArray, List.set_cons_zero, List.set_cons_succ, i64_w, i32_w]
                rfl
               refine pure_ (i := 21) (N := some 77) (v := ?_) (a' := ?_) (bs 22 8) rfl rfl (any_of HT_.out (by kernel_rfl)) (fun _ _ _ h => h) (Or.inl ⟨by rfl, ?_⟩) ?_ ?_
               rotate_left
               ·intro w'
                go_simp
                with_reducible rfl
               rotate_left
               ·simp only [Act.put, List.setIfInBounds_toArray, List.set_cons_zero, List.set_cons_succ, i64_w, i32_w]
                rfl
               refine pure_ (i := 23) (N := some 79) (v := ?_) (a' := ?_) #[true, true, true, true, true, true, true, true, true, true, true, true, true, true, true, true, true, true, true, true, true, true, false, true, false, false, false, false, false, false] rfl rfl (any_of HT_.out (by kernel_rfl)) (fun _ _ _ h => h) (Or.inl ⟨by rfl, ?_⟩) ?_ ?_
               rotate_left
               ·intro w'
                go_simp
                with_reducible rfl
               rotate_left
               ·simp only [Act.put, List.setIfInBounds_toArray, List.set_cons_zero, List.set_cons_succ, i64_w, i32_w]
                rfl
               refine pure_ (i := 26) (N := some 82) (v := ?_) (a' := ?_) #[true, true, true, true, true, true, true, true, true, true, true, true, true, true, true, true, true, true, true, true, true, true, false, true, false, false, true, false, false, false] rfl rfl (any_of HT_.out (by kernel_rfl)) (fun _ _ _ h => h) (Or.inl ⟨by rfl, ?_⟩) ?_ ?_
               rotate_left
               ·intro w'
                go_simp
                with_reducible rfl
               rotate_left
               ·simp only [Act.put, List.setIfInBounds_toArray, List.set_cons_zero, List.set_cons_succ, i64_w, i32_w]
                rfl
               refine take_ (i := 22) (N := some 78) (v := ?_) (a' := ?_) #[true, true, true, true, true, true, true, true, true, true, true, true, true, true, true, true, true, true, true, true, true, true, true, true, false, false, true, false, false, false] rfl rfl (take_ofW HT_.out HW_.out (by kernel_rfl)) (fun _ _ _ h => h) (Or.inl ⟨by rfl, ?_⟩) hHeld ?_ ?_
               rotate_left
               ·rintro w' ⟨s0, s1⟩
                go_simp
                with_reducible rfl
               rotate_left
               ·simp only [Act.put, List.setIfInBounds_toArray, List.set_cons_zero, List.set_cons_succ, i64_w, i32_w]
                rfl
               refine one_ (i := 24) (N := some 80) #[true, true, true, true, true, true, true, true, true, true, true, true, true, true, true, true, true, true, true, true, true, true, true, true, true, false, true, false, false, false] rfl rfl (one_of HT_.out (by kernel_rfl)) (by decide) (fun K hK => ?_)
               refine goes_ Try.func13 (by kernel_rfl) rfl #[.int .i64 a0] (by rfl) rfl rfl (by (try simp only [List.map_toArray, List.map_cons, List.map_nil]); first | done | rfl | (simp only [List.length_drop, List.length_take]; rfl)) ?_
               with_reducible refine (tree_Leaves.calls a0 t159 _ A39.out).mono ?_
               rintro e w' ⟨rfl, ⟨nd, rfl⟩⟩
               refine ⟨_, rfl, ?_⟩
               refine hK.out _ _ ⟨hHeld.1, hHeld.2⟩ (fun hHeld => ?_)
               clear hK K
               refine norm_ (a' := ?_) ?_ ?_
               rotate_left
               ·show Act.put _ (some 80) _ = _
                simp only [Act.put, List.setIfInBounds_toArray, List.set_cons_zero, List.set_cons_succ, i64_w, i32_w]
                rfl
               refine pure_ (i := 25) (N := some 81) (v := ?_) (a' := ?_) (bs 27 3) rfl rfl (any_of HT_.out (by kernel_rfl)) (fun _ _ _ h => h) (Or.inl ⟨by rfl, ?_⟩) ?_ ?_
               rotate_left
               ·intro w'
                go_simp
                with_reducible rfl
               rotate_left
               ·simp only [Act.put, List.setIfInBounds_toArray, List.set_cons_zero, List.set_cons_succ, i64_w, i32_w]
                rfl
               refine pure_ (i := 27) (N := some 83) (v := ?_) (a' := ?_) (bs 28 2) rfl rfl (any_of HT_.out (by kernel_rfl)) (fun _ _ _ h => h) (Or.inl ⟨by rfl, ?_⟩) ?_ ?_
               rotate_left
               ·intro w'
                go_simp
                with_reducible rfl
               rotate_left
               ·simp only [Act.put, List.setIfInBounds_toArray, List.set_cons_zero, List.set_cons_succ, i64_w, i32_w]
                rfl
               refine pure_ (i := 28) (N := some 84) (v := ?_) (a' := ?_) (bs 29 1) rfl rfl (any_of HT_.out (by kernel_rfl)) (fun _ _ _ h => h) (Or.inl ⟨by rfl, ?_⟩) ?_ ?_
               rotate_left
               ·intro w'
                go_simp
                with_reducible rfl
               rotate_left
               ·simp only [Act.put, List.setIfInBounds_toArray, List.set_cons_zero, List.set_cons_succ, i64_w, i32_w]
                rfl
               refine pure_ (i := 29) (N := some 85) (v := ?_) (a' := ?_) (bs 30 0) rfl rfl (any_of HT_.out (by kernel_rfl)) (fun _ _ _ h => h) (Or.inl ⟨by rfl, ?_⟩) ?_ ?_
               rotate_left
               ·intro w'
                go_simp
                with_reducible rfl
               rotate_left
               ·simp only [Act.put, List.setIfInBounds_toArray, List.set_cons_zero, List.set_cons_succ, i64_w, i32_w]
                rfl
               refine done_ (done_of HT_.out (by kernel_rfl)) ?_
               try go_wp2_with (first | ((with_reducible refine gate_callee (f := 21) rfl ?_); refine goesL_ (some 89) rfl rfl Try.func21 (by kernel_rfl) rfl #[.int .i64 a0, .int .i64 a1, .int .i64 a2] rfl (by (try simp only [List.map_toArray, List.map_cons, List.map_nil]); first | done | rfl | (simp only [List.length_drop, List.length_take]; rfl)) ?_; (with_reducible refine (tree_Shared.calls k a0 a1 a2 t160 _ A41.out).mono ?_); rintro e w' ⟨rfl, ⟨nd, rfl⟩⟩; refine ⟨_, rfl, ?_⟩))
               go_loopg [12] k (fun kq v12 w' => ∃ (x12_1 : Int), v12 = .int .i64 x12_1 ∧ Aside0 (oublaw7_TreePaths.l0 kq a0 a1 a2 l3 t151 t154 t160 x12_1 = some r) ∧ Aside0 (kq ≤ k) ∧ Aside0 (Kd.R (Kd.int .i64) 3 w' w.heap.size (fun k_ => some k_ ≠ ((.slice Ao47 t154.length co47) : Value).ownBlock) (.slice (some ad157) t151.length co46) t151) ∧ Aside0 (Kd.R (Kd.int .i64) 3 w' w.heap.size (fun k_ => some k_ ≠ ((.slice (some ad157) t151.length co46) : Value).ownBlock) (.slice Ao47 t154.length co47) t154) ∧ Aside0 (Below w.heap.size w w'))
               case atStart => exact ⟨(0), (by first | rfl | (simp; done) | (simp [*]; done)), H', ⟨Nat.le_refl _⟩, ⟨by (with_reducible repeat (first | apply Kd.R_alloc | apply Kd.R_drewN | apply Kd.R_drew)); exact Kd.R_mono HO153.out (fun _ hk => hk.2)⟩, ⟨by (with_reducible repeat (first | apply Kd.R_alloc | apply Kd.R_drewN | apply Kd.R_drew)); exact Kd.R_mono HO156.out (fun _ hk => hk.2)⟩, ⟨by repeat (first | (with_reducible first | exact HB.out | apply below_alloc | apply pw_below_drewN | apply below_drew1) | exact HB.out)⟩⟩
               case round =>
                clear H'
                try clear c1
                try clear p1
                try clear q1
                try clear hx1
                try clear qi1
                try clear c2
                try clear p2
                try clear c3
                try clear c4
                try clear c6
                try clear p6
                try clear c8
                try clear c9
                try clear c9b0
                try clear c10
                try clear c13
                try clear c13b0
                try clear c15
                try clear p15
                try clear q15
                try clear hx15
                try clear qi15
                try clear c18
                try clear c18b0
                try clear c21
                try clear c23
                try clear c23b0
                try clear c27
                try clear c27b0
                try clear c27b1
                try clear c33
                try clear c33b0
                try clear c33b1
                try clear c34
                try clear c34b0
                try clear c34b1
                try clear c35
                try clear c35b0
                try clear c35b1
                try clear c36
                try clear c36b0
                try clear c36b1
                try clear c37
                try clear c37b0
                try clear c38
                try clear c38b0
                try clear c40
                try clear c40b0
                try clear c40b1
                try clear hx157_0
                try clear hx158_0
                try clear p157
                try clear p158
                try clear q157
                try clear q158
                obtain ⟨x12_1, rfl, HA, HK1, HO_9, HO_10, HB⟩ := hrel
                cases gk with
                | zero => exact absurd HA.out (by simp [oublaw7_TreePaths.l0])
                | succ k1 =>
                 have H := HA.out
                 clear HA
                 simp only [oublaw7_TreePaths.l0] at H
                 by_cases c48 : x12_1 ≤ a0
                 ·rw [if_pos c48] at H
                  have c48b0 : decide (x12_1 ≤ a0) = true := decide_eq_true c48
                  clear c48
                  by_cases c49 : 0 ≤ x12_1
                  ·rw [if_pos c49] at H
                   have c49b0 : decide (0 ≤ x12_1) = true := decide_eq_true c49
                   clear c49
                   by_cases c50 : x12_1 < (t151.length : Int)
                   ·rw [if_pos c50] at H
                    have c50b0 : decide (x12_1 < (t151.length : Int)) = true := decide_eq_true c50
                    clear c50
                    by_cases c51 : x12_1 < (t154.length : Int)
                    ·rw [if_pos c51] at H
                     have c51b0 : decide (x12_1 < (t154.length : Int)) = true := decide_eq_true c51
                     clear c51
                     by_cases c52 : (((rd t151 x12_1) == (rd t154 x12_1)) != (decide (x12_1 ≤ t160))) = true
                     ·rw [if_pos c52] at H
                      have c52b0 : (((rd t151 x12_1) == (rd t154 x12_1)) != (decide (x12_1 ≤ t160))) = true := c52
                      (try (have c52b1 : decide (((rd t151 x12_1) == (rd t154 x12_1)) = (decide (x12_1 ≤ t160))) = false := by simpa using c52))
                      (try (have c52b2 : (((rd t151 x12_1) == (rd t154 x12_1)) == (decide (x12_1 ≤ t160))) = false := by simpa using c52))
                      (try (have c52b3 : ¬ (((rd t151 x12_1) == (rd t154 x12_1)) = (decide (x12_1 ≤ t160))) := by simpa using c52))
                      clear c52
                      exact absurd (Option.some.inj H) (by rw [HT.out]; decide)
                     ·rw [if_neg c52] at H
                      have c52b0 : (((rd t151 x12_1) == (rd t154 x12_1)) != (decide (x12_1 ≤ t160))) = false := by simpa using c52
                      (try (have c52b1 : decide (((rd t151 x12_1) == (rd t154 x12_1)) = (decide (x12_1 ≤ t160))) = true := by simpa using c52))
                      (try (have c52b2 : (((rd t151 x12_1) == (rd t154 x12_1)) == (decide (x12_1 ≤ t160))) = true := by simpa using c52))
                      clear c52
                      replace H := Option.bind_eq_some_iff.mp H
                      obtain ⟨t164, A530, H⟩ := H
                      replace H : (if t164 = x12_1 then (if x12_1 > 0 then (if 0 ≤ (wrap64 (x12_1 - 1)) then (if (wrap64 (x12_1 - 1)) < (t151.length : Int) then (if (wrap64 (Int.tdiv (wrap64 ((rd t151 x12_1) - 1)) 2)) = (rd t151 (wrap64 (x12_1 - 1))) then ((tree_On.f k1 a0 (rd t151 x12_1) a1).bind fun t168 => (if t168 = true then ((tree_On.f k1 a0 (rd t154 x12_1) a1).bind fun t170 => (if (t170 != (decide (x12_1 ≤ t160))) = true then (some false) else (oublaw7_TreePaths.l0 k1 a0 a1 a2 l3 t151 t154 t160 (wrap64 (x12_1 + 1))))) else (some false))) else (some false)) else (none)) else (none)) else ((tree_On.f k1 a0 (rd t151 x12_1) a1).bind fun t172 => (if t172 = true then ((tree_On.f k1 a0 (rd t154 x12_1) a1).bind fun t174 => (if (t174 != (decide (x12_1 ≤ t160))) = true then (some false) else (oublaw7_TreePaths.l0 k1 a0 a1 a2 l3 t151 t154 t160 (wrap64 (x12_1 + 1))))) else (some false)))) else (some false)) = some r := H
                      have A53 := Aside0.mk A530
                      clear A530
                      by_cases c54 : t164 = x12_1
                      ·rw [if_pos c54] at H
                       have c54b0 : (t164 == x12_1) = true := beq_iff_eq.mpr c54
                       have c54b1 : (t164 != x12_1) = false := bne_eq_false_iff_eq.mpr c54
                       clear c54
                       by_cases c55 : x12_1 > 0
                       ·rw [if_pos c55] at H
                        have c55b0 : decide (0 < x12_1) = true := decide_eq_true c55
                        clear c55
                        obtain ⟨ji56, hji56⟩ : ∃ j_ : Int, (wrap64 (x12_1 - 1)) = j_ := ⟨_, rfl⟩
                        replace H : (if 0 ≤ (ji56) then (if (ji56) < (t151.length : Int) then (if (wrap64 (Int.tdiv (wrap64 ((rd t151 x12_1) - 1)) 2)) = (rd t151 (ji56)) then ((tree_On.f k1 a0 (rd t151 x12_1) a1).bind fun t168 => (if t168 = true then ((tree_On.f k1 a0 (rd t154 x12_1) a1).bind fun t170 => (if (t170 != (decide (x12_1 ≤ t160))) = true then (some false) else (oublaw7_TreePaths.l0 k1 a0 a1 a2 l3 t151 t154 t160 (wrap64 (x12_1 + 1))))) else (some false))) else (some false)) else (none)) else (none)) = some r := by first | (rw [hji56] at H; exact H) | (simp only [hji56] at H ⊢; exact H)
                        (try rw [hji56] at A53)
                        have hji56w : (IntKind.i64.wrap (x12_1 - 1)) = ji56 := (i64_w _).trans hji56
                        by_cases c57 : 0 ≤ (ji56)
                        ·rw [if_pos c57] at H
                         have c57b0 : decide (0 ≤ (ji56)) = true := decide_eq_true c57
                         clear c57
                         by_cases c58 : (ji56) < (t151.length : Int)
                         ·rw [if_pos c58] at H
                          have c58b0 : decide ((ji56) < (t151.length : Int)) = true := decide_eq_true c58
                          clear c58
                          by_cases c59 : (wrap64 (Int.tdiv (wrap64 ((rd t151 x12_1) - 1)) 2)) = (rd t151 (ji56))
                          ·rw [if_pos c59] at H
                           have c59b0 : ((wrap64 (Int.tdiv (wrap64 ((rd t151 x12_1) - 1)) 2)) == (rd t151 (ji56))) = true := beq_iff_eq.mpr c59
                           have c59b1 : ((wrap64 (Int.tdiv (wrap64 ((rd t151 x12_1) - 1)) 2)) != (rd t151 (ji56))) = false := bne_eq_false_iff_eq.mpr c59
                           clear c59
                           replace H := Option.bind_eq_some_iff.mp H
                           obtain ⟨t168, A600, H⟩ := H
                           replace H : (if t168 = true then ((tree_On.f k1 a0 (rd t154 x12_1) a1).bind fun t170 => (if (t170 != (decide (x12_1 ≤ t160))) = true then (some false) else (oublaw7_TreePaths.l0 k1 a0 a1 a2 l3 t151 t154 t160 (wrap64 (x12_1 + 1))))) else (some false)) = some r := H
                           have A60 := Aside0.mk A600
                           clear A600
                           by_cases c61 : t168 = true
                           ·subst c61
                            have H1 : ((tree_On.f k1 a0 (rd t154 x12_1) a1).bind fun t170 => (if (t170 != (decide (x12_1 ≤ t160))) = true then (some false) else (oublaw7_TreePaths.l0 k1 a0 a1 a2 l3 t151 t154 t160 (wrap64 (x12_1 + 1))))) = some r := by rw [if_pos rfl] at H; exact H
                            clear H
                            have H := H1
                            clear H1
                            replace H := Option.bind_eq_some_iff.mp H
                            obtain ⟨t170, A620, H⟩ := H
                            replace H : (if (t170 != (decide (x12_1 ≤ t160))) = true then (some false) else (oublaw7_TreePaths.l0 k1 a0 a1 a2 l3 t151 t154 t160 (wrap64 (x12_1 + 1)))) = some r := H
                            have A62 := Aside0.mk A620
                            clear A620
                            by_cases c63 : (t170 != (decide (x12_1 ≤ t160))) = true
                            ·rw [if_pos c63] at H
                             have c63b0 : (t170 != (decide (x12_1 ≤ t160))) = true := c63
                             (try (have c63b1 : decide (t170 = (decide (x12_1 ≤ t160))) = false := by simpa using c63))
                             (try (have c63b2 : (t170 == (decide (x12_1 ≤ t160))) = false := by simpa using c63))
                             (try (have c63b3 : ¬ (t170 = (decide (x12_1 ≤ t160))) := by simpa using c63))
                             clear c63
                             exact absurd (Option.some.inj H) (by rw [HT.out]; decide)
                            ·rw [if_neg c63] at H
                             have c63b0 : (t170 != (decide (x12_1 ≤ t160))) = false := by simpa using c63
                             (try (have c63b1 : decide (t170 = (decide (x12_1 ≤ t160))) = true := by simpa using c63))
                             (try (have c63b2 : (t170 == (decide (x12_1 ≤ t160))) = true := by simpa using c63))
                             clear c63
                             have H' := Aside0.mk H
                             clear H
                             try go_wp2
                             have n0_ := Aside0.mk (Kd.R_drew HO_9.out)
                             have n1_ := Aside0.mk (Kd.R_drew HO_10.out)
                             have n2_ := Aside0.mk (below_drew1 HB.out)
                             clear HO_9
                             clear HO_10
                             clear HB
                             have HO_9 := n0_
                             have HO_10 := n1_
                             have HB := n2_
                             clear n0_ n1_ n2_
                             have p161 : 0 ≤ (x12_1 : Int) := of_decide_eq_true (by first | (with_reducible assumption) | assumption)
                             have q161 : x12_1 < (t151.length : Int) := of_decide_eq_true (by first | (with_reducible assumption) | assumption)
                             obtain ⟨ad161, e161, hx161_0⟩ := Kd.at_int (Kd.R_reads' HO_9.out).2.2 x12_1 p161 q161
                             obtain rfl : ad157 = ad161 := (by injection e161)
                             replace p161 := eq_true p161
                             replace q161 := eq_true q161
                             have p162 : 0 ≤ (x12_1 : Int) := of_decide_eq_true (by first | (with_reducible assumption) | assumption)
                             have q162 : x12_1 < (t154.length : Int) := of_decide_eq_true (by first | (with_reducible assumption) | assumption)
                             obtain ⟨ad162, e162, hx162_0⟩ := Kd.at_int (Kd.R_reads' HO_10.out).2.2 x12_1 p162 q162
                             cases e162
                             replace p162 := eq_true p162
                             replace q162 := eq_true q162
                             have p163 : 0 ≤ (x12_1 : Int) := of_decide_eq_true (by first | (with_reducible assumption) | assumption)
                             have q163 : x12_1 < (t151.length : Int) := of_decide_eq_true (by first | (with_reducible assumption) | assumption)
                             obtain ⟨ad163, e163, hx163_0⟩ := Kd.at_int (Kd.R_reads' HO_9.out).2.2 x12_1 p163 q163
                             obtain rfl : ad157 = ad163 := (by injection e163)
                             replace p163 := eq_true p163
                             replace q163 := eq_true q163
                             have p165 : 0 ≤ (x12_1 : Int) := of_decide_eq_true (by first | (with_reducible assumption) | assumption)
                             have q165 : x12_1 < (t151.length : Int) := of_decide_eq_true (by first | (with_reducible assumption) | assumption)
                             obtain ⟨ad165, e165, hx165_0⟩ := Kd.at_int (Kd.R_reads' HO_9.out).2.2 x12_1 p165 q165
                             obtain rfl : ad157 = ad165 := (by injection e165)
                             replace p165 := eq_true p165
                             replace q165 := eq_true q165
                             have p166 : 0 ≤ ((ji56) : Int) := of_decide_eq_true (by first | (with_reducible assumption) | assumption)
                             have q166 : (ji56) < (t151.length : Int) := of_decide_eq_true (by first | (with_reducible assumption) | assumption)
                             obtain ⟨ad166, e166, hx166_0⟩ := Kd.at_int (Kd.R_reads' HO_9.out).2.2 (ji56) p166 q166
                             obtain rfl : ad157 = ad166 := (by injection e166)
                             replace p166 := eq_true p166
                             replace q166 := eq_true q166
                             have p167 : 0 ≤ (x12_1 : Int) := of_decide_eq_true (by first | (with_reducible assumption) | assumption)
                             have q167 : x12_1 < (t151.length : Int) := of_decide_eq_true (by first | (with_reducible assumption) | assumption)
                             obtain ⟨ad167, e167, hx167_0⟩ := Kd.at_int (Kd.R_reads' HO_9.out).2.2 x12_1 p167 q167
                             obtain rfl : ad157 = ad167 := (by injection e167)
                             replace p167 := eq_true p167
                             replace q167 := eq_true q167
                             have p169 : 0 ≤ (x12_1 : Int) := of_decide_eq_true (by first | (with_reducible assumption) | assumption)
                             have q169 : x12_1 < (t154.length : Int) := of_decide_eq_true (by first | (with_reducible assumption) | assumption)
                             obtain ⟨ad169, e169, hx169_0⟩ := Kd.at_int (Kd.R_reads' HO_10.out).2.2 x12_1 p169 q169
                             obtain rfl : ad162 = ad169 := (by injection e169)
                             replace p169 := eq_true p169
                             replace q169 := eq_true q169
                             refine start_ (n := 63) (S := fun w' => w'.cell? (ad157.add (x12_1).toNat) = some (.int .i64 (rd t151 x12_1)) ∧ w'.cell? (ad162.add (x12_1).toNat) = some (.int .i64 (rd t154 x12_1)) ∧ w'.cell? (ad157.add (x12_1).toNat) = some (.int .i64 (rd t151 x12_1)) ∧ w'.cell? (ad157.add (x12_1).toNat) = some (.int .i64 (rd t151 x12_1)) ∧ w'.cell? (ad157.add ((ji56)).toNat) = some (.int .i64 (rd t151 (ji56))) ∧ w'.cell? (ad157.add (x12_1).toNat) = some (.int .i64 (rd t151 x12_1)) ∧ w'.cell? (ad162.add (x12_1).toNat) = some (.int .i64 (rd t154 x12_1))) (ds := []) #[false, false, false, false, false, false, false, false, false, false, false, false, false, false, false, false, false, false, false, false, false, false, false, false, false, false, false, false, false, false, false, false, false, false, false, false, false, false, false, false, false, false, false, false, false, false, false, false, false, false, false, false, false, false, false, false, false, false, false, false, false, false, false] (by kernel_rfl) rfl rfl ⟨hx161_0, hx162_0, hx163_0, hx165_0, hx166_0, hx167_0, hx169_0⟩ (fun hHeld => ?_); refine with_tabW oublaw7_TreePaths.tab12 oublaw7_TreePaths.bits12 (fun HT_ HW_ => ?_)
                             generalize wr.drew = w64 at HO_9 HO_10 HB hx161_0 hx162_0 hx163_0 hx165_0 hx166_0 hx167_0 hx169_0 hHeld ⊢
                             refine pure_ (i := 0) (N := some 95) (v := ?_) (a' := ?_) (bs 1 62) rfl rfl (any_of HT_.out (by kernel_rfl)) (fun _ _ _ h => h) (Or.inl ⟨by rfl, ?_⟩) ?_ ?_
                             rotate_left
                             ·intro w'
                              go_simp
                              with_reducible rfl
                             rotate_left
                             ·simp only [Act.put, List.setIfInBounds_toArray, List.set_cons_zero, List.set_cons_succ, i64_w, i32_w]
                              rfl
                             refine pure_ (i := 1) (N := some 96) (v := ?_) (a' := ?_) (bs 2 61) rfl rfl (any_of HT_.out (by kernel_rfl)) (fun _ _ _ h => h) (Or.inl ⟨by rfl, ?_⟩) ?_ ?_
                             rotate_left
                             ·intro w'
                              go_simp
                              with_reducible rfl
                             rotate_left
                             ·simp only [Act.put, List.setIfInBounds_toArray, List.set_cons_zero, List.set_cons_succ, i64_w, i32_w]
                              rfl
                             refine pure_ (i := 2) (N := some 97) (v := ?_) (a' := ?_) (bs 3 60) rfl rfl (any_of HT_.out (by kernel_rfl)) (fun _ _ _ h => h) (Or.inl ⟨by rfl, ?_⟩) ?_ ?_
                             rotate_left
                             ·intro w'
                              go_simp
                              with_reducible rfl
                             rotate_left
                             ·simp only [Act.put, List.setIfInBounds_toArray, List.set_cons_zero, List.set_cons_succ, i64_w, i32_w]
                              rfl
                             refine pure_ (i := 4) (N := some 99) (v := ?_) (a' := ?_) #[true, true, true, false, true, false, false, false, false, false, false, false, false, false, false, false, false, false, false, false, false, false, false, false, false, false, false, false, false, false, false, false, false, false, false, false, false, false, false, false, false, false, false, false, false, false, false, false, false, false, false, false, false, false, false, false, false, false, false, false, false, false, false] rfl rfl (any_of HT_.out (by kernel_rfl)) (fun _ _ _ h => h) (Or.inl ⟨by rfl, ?_⟩) ?_ ?_
                             rotate_left
                             ·intro w'
                              go_simp
                              with_reducible rfl
                             rotate_left
                             ·simp only [Act.put, List.setIfInBounds_toArray, List.set_cons_zero, List.set_cons_succ, i64_w, i32_w]
                              rfl
                             refine pure_ (i := 5) (N := some 100) (v := ?_) (a' := ?_) #[true, true, true, false, true, true, false, false, false, false, false, false, false, false, false, false, false, false, false, false, false, false, false, false, false, false, false, false, false, false, false, false, false, false, false, false, false, false, false, false, false, false, false, false, false, false, false, false, false, false, false, false, false, false, false, false, false, false, false, false, false, false, false] rfl rfl (any_of HT_.out (by kernel_rfl)) (fun _ _ _ h => h) (Or.inl ⟨by rfl, ?_⟩) ?_ ?_
                             rotate_left
                             ·intro w'
                              go_simp
                              with_reducible rfl
                             rotate_left
                             ·simp only [Act.put, List.setIfInBounds_toArray, List.set_cons_zero, List.set_cons_succ, i64_w, i32_w]
                              rfl
                             refine pure_ (i := 6) (N := some 101) (v := ?_) (a' := ?_) #[true, true, true, false, true, true, true, false, false, false, false, false, false, false, false, false, false, false, false, false, false, false, false, false, false, false, false, false, false, false, false, false, false, false, false, false, false, false, false, false, false, false, false, false, false, false, false, false, false, false, false, false, false, false, false, false, false, false, false, false, false, false, false] rfl rfl (any_of HT_.out (by kernel_rfl)) (fun _ _ _ h => h) (Or.inl ⟨by rfl, ?_⟩) ?_ ?_
                             rotate_left
                             ·intro w'
                              go_simp
                              with_reducible rfl
                             rotate_left
                             ·simp only [Act.put, List.setIfInBounds_toArray, List.set_cons_zero, List.set_cons_succ, i64_w, i32_w]
                              rfl
                             refine pure_ (i := 9) (N := some 104) (v := ?_) (a' := ?_) #[true, true, true, false, true, true, true, false, false, true, false, false, false, false, false, false, false, false, false, false, false, false, false, false, false, false, false, false, false, false, false, false, false, false, false, false, false, false, false, false, false, false, false, false, false, false, false, false, false, false, false, false, false, false, false, false, false, false, false, false, false, false, false] rfl rfl (any_of HT_.out (by kernel_rfl)) (fun _ _ _ h => h) (Or.inl ⟨by rfl, ?_⟩) ?_ ?_
                             rotate_left
                             ·intro w'
                              go_simp
                              with_reducible rfl
                             rotate_left
                             ·simp only [Act.put, List.setIfInBounds_toArray, List.set_cons_zero, List.set_cons_succ, i64_w, i32_w]
                              rfl
                             refine pure_ (i := 10) (N := some 105) (v := ?_) (a' := ?_) #[true, true, true, false, true, true, true, false, false, true, true, false, false, false, false, false, false, false, false, false, false, false, false, false, false, false, false, false, false, false, false, false, false, false, false, false, false, false, false, false, false, false, false, false, false, false, false, false, false, false, false, false, false, false, false, false, false, false, false, false, false, false, false] rfl rfl (any_of HT_.out (by kernel_rfl)) (fun _ _ _ h => h) (Or.inl ⟨by rfl, ?_⟩) ?_ ?_
                             rotate_left
                             ·intro w'
                              go_simp
                              with_reducible rfl
                             rotate_left
                             ·simp only [Act.put, List.setIfInBounds_toArray, List.set_cons_zero, List.set_cons_succ, i64_w, i32_w]
                              rfl
                             refine pure_ (i := 11) (N := some 106) (v := ?_) (a' := ?_) #[true, true, true, false, true, true, true, false, false, true, true, true, false, false, false, false, false, false, false, false, false, false, false, false, false, false, false, false, false, false, false, false, false, false, false, false, false, false, false, false, false, false, false, false, false, false, false, false, false, false, false, false, false, false, false, false, false, false, false, false, false, false, false] rfl rfl (any_of HT_.out (by kernel_rfl)) (fun _ _ _ h => h) (Or.inl ⟨by rfl, ?_⟩) ?_ ?_
                             rotate_left
                             ·intro w'
                              go_simp
                              with_reducible rfl
                             rotate_left
                             ·simp only [Act.put, List.setIfInBounds_toArray, List.set_cons_zero, List.set_cons_succ, i64_w, i32_w]
                              rfl
                             refine take_ (i := 3) (N := some 98) (v := ?_) (a' := ?_) #[true, true, true, true, true, true, true, false, false, true, true, true, false, false, false, false, false, false, false, false, false, false, false, false, false, false, false, false, false, false, false, false, false, false, false, false, false, false, false, false, false, false, false, false, false, false, false, false, false, false, false, false, false, false, false, false, false, false, false, false, false, false, false] rfl rfl (take_ofW HT_.out HW_.out (by kernel_rfl)) (fun _ _ _ h => h) (Or.inl ⟨by rfl, ?_⟩) hHeld ?_ ?_
                             rotate_left
                             ·rintro w' ⟨s0, s1, s2, s3, s4, s5, s6⟩
                              go_simp
                              with_reducible rfl
                             rotate_left
                             ·simp only [Act.put, List.setIfInBounds_toArray, List.set_cons_zero, List.set_cons_succ, i64_w, i32_w]
                              rfl
                             refine take_ (i := 7) (N := some 102) (v := ?_) (a' := ?_) #[true, true, true, true, true, true, true, true, false, true, true, true, false, false, false, false, false, false, false, false, false, false, false, false, false, false, false, false, false, false, false, false, false, false, false, false, false, false, false, false, false, false, false, false, false, false, false, false, false, false, false, false, false, false, false, false, false, false, false, false, false, false, false] rfl rfl (take_ofW HT_.out HW_.out (by kernel_rfl)) (fun _ _ _ h => h) (Or.inl ⟨by rfl, ?_⟩) hHeld ?_ ?_
                             rotate_left
                             ·rintro w' ⟨s0, s1, s2, s3, s4, s5, s6⟩
                              go_simp
                              with_reducible rfl
                             rotate_left
                             ·simp only [Act.put, List.setIfInBounds_toArray, List.set_cons_zero, List.set_cons_succ, i64_w, i32_w]
                              rfl
                             refine pure_ (i := 8) (N := some 103) (v := ?_) (a' := ?_) (bs 12 51) rfl rfl (any_of HT_.out (by kernel_rfl)) (fun _ _ _ h => h) (Or.inl ⟨by rfl, ?_⟩) ?_ ?_
                             rotate_left
                             ·intro w'
                              go_simp
                              with_reducible rfl
                             rotate_left
                             ·simp only [Act.put, List.setIfInBounds_toArray, List.set_cons_zero, List.set_cons_succ, i64_w, i32_w]
                              rfl
                             refine pure_ (i := 12) (N := some 107) (v := ?_) (a' := ?_) (bs 13 50) rfl rfl (any_of HT_.out (by kernel_rfl)) (fun _ _ _ h => h) (Or.inl ⟨by rfl, ?_⟩) ?_ ?_
                             rotate_left
                             ·intro w'
                              go_simp
                              with_reducible rfl
                             rotate_left
                             ·simp only [Act.put, List.setIfInBounds_toArray, List.set_cons_zero, List.set_cons_succ, i64_w, i32_w]
                              rfl
                             refine pure_ (i := 13) (N := some 108) (v := ?_) (a' := ?_) (bs 14 49) rfl rfl (any_of HT_.out (by kernel_rfl)) (fun _ _ _ h => h) (Or.inl ⟨by rfl, ?_⟩) ?_ ?_
                             rotate_left
                             ·intro w'
                              go_simp
                              with_reducible rfl
                             rotate_left
                             ·simp only [Act.put, List.setIfInBounds_toArray, List.set_cons_zero, List.set_cons_succ, i64_w, i32_w]
                              rfl
                             refine pure_ (i := 14) (N := some 109) (v := ?_) (a' := ?_) (bs 15 48) rfl rfl (any_of HT_.out (by kernel_rfl)) (fun _ _ _ h => h) (Or.inl ⟨by rfl, ?_⟩) ?_ ?_
                             rotate_left
                             ·intro w'
                              go_simp
                              with_reducible rfl
                             rotate_left
                             ·simp only [Act.put, List.setIfInBounds_toArray, List.set_cons_zero, List.set_cons_succ, i64_w, i32_w]
                              rfl
                             refine pure_ (i := 15) (N := some 110) (v := ?_) (a' := ?_) (bs 16 47) rfl rfl (any_of HT_.out (by kernel_rfl)) (fun _ _ _ h => h) (Or.inl ⟨by rfl, ?_⟩) ?_ ?_
                             rotate_left
                             ·intro w'
                              go_simp
                              with_reducible rfl
                             rotate_left
                             ·simp only [Act.put, List.setIfInBounds_toArray, List.set_cons_zero, List.set_cons_succ, i64_w, i32_w]
                              rfl
                             refine pure_ (i := 16) (N := some 111) (v := ?_) (a' := ?_) (bs 17 46) rfl rfl (any_of HT_.out (by kernel_rfl)) (fun _ _ _ h => h) (Or.inl ⟨by rfl, ?_⟩) ?_ ?_
                             rotate_left
                             ·intro w'
                              go_simp
                              with_reducible rfl
                             rotate_left
                             ·simp only [Act.put, List.setIfInBounds_toArray, List.set_cons_zero, List.set_cons_succ, i64_w, i32_w]
                              rfl
                             refine pure_ (i := 19) (N := some 114) (v := ?_) (a' := ?_) #[true, true, true, true, true, true, true, true, true, true, true, true, true, true, true, true, true, false, false, true, false, false, false, false, false, false, false, false, false, false, false, false, false, false, false, false, false, false, false, false, false, false, false, false, false, false, false, false, false, false, false, false, false, false, false, false, false, false, false, false, false, false, false] rfl rfl (any_of HT_.out (by kernel_rfl)) (fun _ _ _ h => h) (Or.inl ⟨by rfl, ?_⟩) ?_ ?_
                             rotate_left
                             ·intro w'
                              go_simp
                              with_reducible rfl
                             rotate_left
                             ·simp only [Act.put, List.setIfInBounds_toArray, List.set_cons_zero, List.set_cons_succ, i64_w, i32_w]
                              rfl
                             refine take_ (i := 17) (N := some 112) (v := ?_) (a' := ?_) #[true, true, true, true, true, true, true, true, true, true, true, true, true, true, true, true, true, true, false, true, false, false, false, false, false, false, false, false, false, false, false, false, false, false, false, false, false, false, false, false, false, false, false, false, false, false, false, false, false, false, false, false, false, false, false, false, false, false, false, false, false, false, false] rfl rfl (take_ofW HT_.out HW_.out (by kernel_rfl)) (fun _ _ _ h => h) (Or.inl ⟨by rfl, ?_⟩) hHeld ?_ ?_
                             rotate_left
                             ·rintro w' ⟨s0, s1, s2, s3, s4, s5, s6⟩
                              go_simp
                              with_reducible rfl
                             rotate_left
                             ·simp only [Act.put, List.setIfInBounds_toArray, List.set_cons_zero, List.set_cons_succ, i64_w, i32_w]
                              rfl
                             refine one_ (i := 18) (N := some 113) (bs 20 43) rfl rfl (one_of HT_.out (by kernel_rfl)) (by decide) (fun K hK => ?_)
                             refine goes_ Try.func17 (by kernel_rfl) rfl #[.int .i64 (rd t151 x12_1)] (by rfl) rfl rfl (by (try simp only [List.map_toArray, List.map_cons, List.map_nil]); first | done | rfl | (simp only [List.length_drop, List.length_take]; rfl)) ?_
                             with_reducible refine (tree_Level.calls k1 (rd t151 x12_1) t164 _ A53.out).mono ?_
                             rintro e w' ⟨rfl, ⟨nd, rfl⟩⟩
                             refine ⟨_, rfl, ?_⟩
                             refine hK.out _ _ ⟨hHeld.1, hHeld.2.1, hHeld.2.2.1, hHeld.2.2.2.1, hHeld.2.2.2.2.1, hHeld.2.2.2.2.2.1, hHeld.2.2.2.2.2.2⟩ (fun hHeld => ?_)
                             clear hK K
                             refine norm_ (a' := ?_) ?_ ?_
                             rotate_left
                             ·show Act.put _ (some 113) _ = _
                              simp only [Act.put, List.setIfInBounds_toArray, List.set_cons_zero, List.set_cons_succ, i64_w, i32_w]
                              rfl
                             refine pure_ (i := 20) (N := some 115) (v := ?_) (a' := ?_) (bs 21 42) rfl rfl (any_of HT_.out (by kernel_rfl)) (fun _ _ _ h => h) (Or.inl ⟨by rfl, ?_⟩) ?_ ?_
                             rotate_left
                             ·intro w'
                              go_simp
                              with_reducible rfl
                             rotate_left
                             ·simp only [Act.put, List.setIfInBounds_toArray, List.set_cons_zero, List.set_cons_succ, i64_w, i32_w]
                              rfl
                             refine pure_ (i := 21) (N := some 116) (v := ?_) (a' := ?_) (bs 22 41) rfl rfl (any_of HT_.out (by kernel_rfl)) (fun _ _ _ h => h) (Or.inl ⟨by rfl, ?_⟩) ?_ ?_
                             rotate_left
                             ·intro w'
                              go_simp
                              with_reducible rfl
                             rotate_left
                             ·simp only [Act.put, List.setIfInBounds_toArray, List.set_cons_zero, List.set_cons_succ, i64_w, i32_w]
                              rfl
                             refine pure_ (i := 22) (N := some 117) (v := ?_) (a' := ?_) (bs 23 40) rfl rfl (any_of HT_.out (by kernel_rfl)) (fun _ _ _ h => h) (Or.inl ⟨by rfl, ?_⟩) ?_ ?_
                             rotate_left
                             ·intro w'
                              go_simp
                              with_reducible rfl
                             rotate_left
                             ·simp only [Act.put, List.setIfInBounds_toArray, List.set_cons_zero, List.set_cons_succ, i64_w, i32_w]
                              rfl
                             refine pure_ (i := 23) (N := some 118) (v := ?_) (a' := ?_) (bs 24 39) rfl rfl (any_of HT_.out (by kernel_rfl)) (fun _ _ _ h => h) (Or.inl ⟨by rfl, ?_⟩) ?_ ?_
                             rotate_left
                             ·intro w'
                              go_simp
                              with_reducible rfl
                             rotate_left
                             ·simp only [Act.put, List.setIfInBounds_toArray, List.set_cons_zero, List.set_cons_succ, i64_w, i32_w]
                              rfl
                             refine pure_ (i := 24) (N := some 119) (v := ?_) (a' := ?_) (bs 25 38) rfl rfl (any_of HT_.out (by kernel_rfl)) (fun _ _ _ h => h) (Or.inl ⟨by rfl, ?_⟩) ?_ ?_
                             rotate_left
                             ·intro w'
                              go_simp
                              with_reducible rfl
                             rotate_left
                             ·simp only [Act.put, List.setIfInBounds_toArray, List.set_cons_zero, List.set_cons_succ, i64_w, i32_w]
                              rfl
                             refine pure_ (i := 25) (N := some 120) (v := ?_) (a' := ?_) (bs 26 37) rfl rfl (any_of HT_.out (by kernel_rfl)) (fun _ _ _ h => h) (Or.inl ⟨by rfl, ?_⟩) ?_ ?_
                             rotate_left
                             ·intro w'
                              go_simp
                              with_reducible rfl
                             rotate_left
                             ·simp only [Act.put, List.setIfInBounds_toArray, List.set_cons_zero, List.set_cons_succ, i64_w, i32_w]
                              rfl
                             refine pure_ (i := 26) (N := some 121) (v := ?_) (a' := ?_) (bs 27 36) rfl rfl (any_of HT_.out (by kernel_rfl)) (fun _ _ _ h => h) (Or.inl ⟨by rfl, ?_⟩) ?_ ?_
                             rotate_left
                             ·intro w'
                              go_simp
                              with_reducible rfl
                             rotate_left
                             ·simp only [Act.put, List.setIfInBounds_toArray, List.set_cons_zero, List.set_cons_succ, i64_w, i32_w]
                              rfl
                             refine pure_ (i := 27) (N := some 122) (v := ?_) (a' := ?_) (bs 28 35) rfl rfl (any_of HT_.out (by kernel_rfl)) (fun _ _ _ h => h) (Or.inl ⟨by rfl, ?_⟩) ?_ ?_
                             rotate_left
                             ·intro w'
                              go_simp
                              with_reducible rfl
                             rotate_left
                             ·simp only [Act.put, List.setIfInBounds_toArray, List.set_cons_zero, List.set_cons_succ, i64_w, i32_w]
                              rfl
                             refine pure_ (i := 28) (N := some 123) (v := ?_) (a' := ?_) (bs 29 34) rfl rfl (any_of HT_.out (by kernel_rfl)) (fun _ _ _ h => h) (Or.inl ⟨by rfl, ?_⟩) ?_ ?_
                             rotate_left
                             ·intro w'
                              go_simp
                              with_reducible rfl
                             rotate_left
                             ·simp only [Act.put, List.setIfInBounds_toArray, List.set_cons_zero, List.set_cons_succ, i64_w, i32_w]
                              rfl
                             refine pure_ (i := 32) (N := some 127) (v := ?_) (a' := ?_) #[true, true, true, true, true, true, true, true, true, true, true, true, true, true, true, true, true, true, true, true, true, true, true, true, true, true, true, true, true, false, false, false, true, false, false, false, false, false, false, false, false, false, false, false, false, false, false, false, false, false, false, false, false, false, false, false, false, false, false, false, false, false, false] rfl rfl (any_of HT_.out (by kernel_rfl)) (fun _ _ _ h => h) (Or.inl ⟨by rfl, ?_⟩) ?_ ?_
                             rotate_left
                             ·intro w'
                              go_simp
                              with_reducible rfl
                             rotate_left
                             ·simp only [Act.put, List.setIfInBounds_toArray, List.set_cons_zero, List.set_cons_succ, i64_w, i32_w]
                              rfl
                             refine pure_ (i := 33) (N := some 128) (v := ?_) (a' := ?_) #[true, true, true, true, true, true, true, true, true, true, true, true, true, true, true, true, true, true, true, true, true, true, true, true, true, true, true, true, true, false, false, false, true, true, false, false, false, false, false, false, false, false, false, false, false, false, false, false, false, false, false, false, false, false, false, false, false, false, false, false, false, false, false] rfl rfl (any_of HT_.out (by kernel_rfl)) (fun _ _ _ h => h) (Or.inl ⟨by rfl, ?_⟩) ?_ ?_
                             rotate_left
                             ·intro w'
                              go_simp
                              with_reducible rfl
                             rotate_left
                             ·simp only [Act.put, List.setIfInBounds_toArray, List.set_cons_zero, List.set_cons_succ, i64_w, i32_w]
                              rfl
                             refine pure_ (i := 34) (N := some 129) (v := ?_) (a' := ?_) #[true, true, true, true, true, true, true, true, true, true, true, true, true, true, true, true, true, true, true, true, true, true, true, true, true, true, true, true, true, false, false, false, true, true, true, false, false, false, false, false, false, false, false, false, false, false, false, false, false, false, false, false, false, false, false, false, false, false, false, false, false, false, false] rfl rfl (any_of HT_.out (by kernel_rfl)) (fun _ _ _ h => h) (Or.inl ⟨by rfl, ?_⟩) ?_ ?_
                             rotate_left
                             ·intro w'
                              go_simp
                              with_reducible rfl
                             rotate_left
                             ·simp only [Act.put, List.setIfInBounds_toArray, List.set_cons_zero, List.set_cons_succ, i64_w, i32_w]
                              rfl
                             refine pure_ (i := 35) (N := some 130) (v := ?_) (a' := ?_) #[true, true, true, true, true, true, true, true, true, true, true, true, true, true, true, true, true, true, true, true, true, true, true, true, true, true, true, true, true, false, false, false, true, true, true, true, false, false, false, false, false, false, false, false, false, false, false, false, false, false, false, false, false, false, false, false, false, false, false, false, false, false, false] rfl rfl (any_of HT_.out (by kernel_rfl)) (fun _ _ _ h => h) (Or.inl ⟨by rfl, ?_⟩) ?_ ?_
                             rotate_left
                             ·intro w'
                              go_simp
                              with_reducible rfl
                             rotate_left
                             ·simp only [Act.put, List.setIfInBounds_toArray, List.set_cons_zero, List.set_cons_succ, i64_w, i32_w]
                              rfl
                             refine take_ (i := 29) (N := some 124) (v := ?_) (a' := ?_) #[true, true, true, true, true, true, true, true, true, true, true, true, true, true, true, true, true, true, true, true, true, true, true, true, true, true, true, true, true, true, false, false, true, true, true, true, false, false, false, false, false, false, false, false, false, false, false, false, false, false, false, false, false, false, false, false, false, false, false, false, false, false, false] rfl rfl (take_ofW HT_.out HW_.out (by kernel_rfl)) (fun _ _ _ h => h) (Or.inl ⟨by rfl, ?_⟩) hHeld ?_ ?_
                             rotate_left
                             ·rintro w' ⟨s0, s1, s2, s3, s4, s5, s6⟩
                              go_simp
                              with_reducible rfl
                             rotate_left
                             ·simp only [Act.put, List.setIfInBounds_toArray, List.set_cons_zero, List.set_cons_succ, i64_w, i32_w]
                              rfl
                             refine pure_ (i := 30) (N := some 125) (v := ?_) (a' := ?_) #[true, true, true, true, true, true, true, true, true, true, true, true, true, true, true, true, true, true, true, true, true, true, true, true, true, true, true, true, true, true, true, false, true, true, true, true, false, false, false, false, false, false, false, false, false, false, false, false, false, false, false, false, false, false, false, false, false, false, false, false, false, false, false] rfl rfl (any_of HT_.out (by kernel_rfl)) (fun _ _ _ h => h) (Or.inl ⟨by rfl, ?_⟩) ?_ ?_
                             rotate_left
                             ·intro w'
                              go_simp
                              with_reducible rfl
                             rotate_left
                             ·simp only [Act.put, List.setIfInBounds_toArray, List.set_cons_zero, List.set_cons_succ, i64_w, i32_w]
                              rfl
                             refine pure_ (i := 31) (N := some 126) (v := ?_) (a' := ?_) (bs 36 27) rfl rfl (any_of HT_.out (by kernel_rfl)) (fun _ _ _ h => h) (Or.inl ⟨by rfl, ?_⟩) ?_ ?_
                             rotate_left
                             ·intro w'
                              go_simp
                              with_reducible rfl
                             rotate_left
                             ·simp only [Act.put, List.setIfInBounds_toArray, List.set_cons_zero, List.set_cons_succ, i64_w, i32_w]
                              rfl
                             refine take_ (i := 36) (N := some 131) (v := ?_) (a' := ?_) (bs 37 26) rfl rfl (take_ofW HT_.out HW_.out (by kernel_rfl)) (fun _ _ _ h => h) (Or.inl ⟨by rfl, ?_⟩) hHeld ?_ ?_
                             rotate_left
                             ·rintro w' ⟨s0, s1, s2, s3, s4, s5, s6⟩
                              go_simp
                              with_reducible rfl
                             rotate_left
                             ·simp only [Act.put, List.setIfInBounds_toArray, List.set_cons_zero, List.set_cons_succ, i64_w, i32_w]
                              rfl
                             refine pure_ (i := 37) (N := some 132) (v := ?_) (a' := ?_) (bs 38 25) rfl rfl (any_of HT_.out (by kernel_rfl)) (fun _ _ _ h => h) (Or.inl ⟨by rfl, ?_⟩) ?_ ?_
                             rotate_left
                             ·intro w'
                              go_simp
                              with_reducible rfl
                             rotate_left
                             ·simp only [Act.put, List.setIfInBounds_toArray, List.set_cons_zero, List.set_cons_succ, i64_w, i32_w]
                              rfl
                             refine pure_ (i := 38) (N := some 133) (v := ?_) (a' := ?_) (bs 39 24) rfl rfl (any_of HT_.out (by kernel_rfl)) (fun _ _ _ h => h) (Or.inl ⟨by rfl, ?_⟩) ?_ ?_
                             rotate_left
                             ·intro w'
                              go_simp
                              with_reducible rfl
                             rotate_left
                             ·simp only [Act.put, List.setIfInBounds_toArray, List.set_cons_zero, List.set_cons_succ, i64_w, i32_w]
                              rfl
                             refine pure_ (i := 39) (N := some 134) (v := ?_) (a' := ?_) (bs 40 23) rfl rfl (any_of HT_.out (by kernel_rfl)) (fun _ _ _ h => h) (Or.inl ⟨by rfl, ?_⟩) ?_ ?_
                             rotate_left
                             ·intro w'
                              go_simp
                              with_reducible rfl
                             rotate_left
                             ·simp only [Act.put, List.setIfInBounds_toArray, List.set_cons_zero, List.set_cons_succ, i64_w, i32_w]
                              rfl
                             refine pure_ (i := 40) (N := some 135) (v := ?_) (a' := ?_) (bs 41 22) rfl rfl (any_of HT_.out (by kernel_rfl)) (fun _ _ _ h => h) (Or.inl ⟨by rfl, ?_⟩) ?_ ?_
                             rotate_left
                             ·intro w'
                              go_simp
                              with_reducible rfl
                             rotate_left
                             ·simp only [Act.put, List.setIfInBounds_toArray, List.set_cons_zero, List.set_cons_succ, i64_w, i32_w]
                              rfl
                             refine pure_ (i := 41) (N := some 136) (v := ?_) (a' := ?_) (bs 42 21) rfl rfl (any_of HT_.out (by kernel_rfl)) (fun _ _ _ h => h) (Or.inl ⟨by rfl, ?_⟩) ?_ ?_
                             rotate_left
                             ·intro w'
                              go_simp
                              with_reducible rfl
                             rotate_left
                             ·simp only [Act.put, List.setIfInBounds_toArray, List.set_cons_zero, List.set_cons_succ, i64_w, i32_w]
                              rfl
                             refine pure_ (i := 42) (N := some 137) (v := ?_) (a' := ?_) (bs 43 20) rfl rfl (any_of HT_.out (by kernel_rfl)) (fun _ _ _ h => h) (Or.inl ⟨by rfl, ?_⟩) ?_ ?_
                             rotate_left
                             ·intro w'
                              go_simp
                              with_reducible rfl
                             rotate_left
                             ·simp only [Act.put, List.setIfInBounds_toArray, List.set_cons_zero, List.set_cons_succ, i64_w, i32_w]
                              rfl
                             refine pure_ (i := 43) (N := some 138) (v := ?_) (a' := ?_) (bs 44 19) rfl rfl (any_of HT_.out (by kernel_rfl)) (fun _ _ _ h => h) (Or.inl ⟨by rfl, ?_⟩) ?_ ?_
                             rotate_left
                             ·intro w'
                              go_simp
                              with_reducible rfl
                             rotate_left
                             ·simp only [Act.put, List.setIfInBounds_toArray, List.set_cons_zero, List.set_cons_succ, i64_w, i32_w]
                              rfl
                             refine pure_ (i := 44) (N := some 139) (v := ?_) (a' := ?_) (bs 45 18) rfl rfl (any_of HT_.out (by kernel_rfl)) (fun _ _ _ h => h) (Or.inl ⟨by rfl, ?_⟩) ?_ ?_
                             rotate_left
                             ·intro w'
                              go_simp
                              with_reducible rfl
                             rotate_left
                             ·simp only [Act.put, List.setIfInBounds_toArray, List.set_cons_zero, List.set_cons_succ, i64_w, i32_w]
                              rfl
                             refine pure_ (i := 46) (N := some 141) (v := ?_) (a' := ?_) #[true, true, true, true, true, true, true, true, true, true, true, true, true, true, true, true, true, true, true, true, true, true, true, true, true, true, true, true, true, true, true, true, true, true, true, true, true, true, true, true, true, true, true, true, true, false, true, false, false, false, false, false, false, false, false, false, false, false, false, false, false, false, false] rfl rfl (any_of HT_.out (by kernel_rfl)) (fun _ _ _ h => h) (Or.inl ⟨by rfl, ?_⟩) ?_ ?_
                             rotate_left
                             ·intro w'
                              go_simp
                              with_reducible rfl
                             rotate_left
                             ·simp only [Act.put, List.setIfInBounds_toArray, List.set_cons_zero, List.set_cons_succ, i64_w, i32_w]
                              rfl
                             refine take_ (i := 45) (N := some 140) (v := ?_) (a' := ?_) (bs 47 16) rfl rfl (take_ofW HT_.out HW_.out (by kernel_rfl)) (fun _ _ _ h => h) (Or.inl ⟨by rfl, ?_⟩) hHeld ?_ ?_
                             rotate_left
                             ·rintro w' ⟨s0, s1, s2, s3, s4, s5, s6⟩
                              go_simp
                              with_reducible rfl
                             rotate_left
                             ·simp only [Act.put, List.setIfInBounds_toArray, List.set_cons_zero, List.set_cons_succ, i64_w, i32_w]
                              rfl
                             refine one_ (i := 47) (N := some 142) (bs 48 15) rfl rfl (one_of HT_.out (by kernel_rfl)) (by decide) (fun K hK => ?_)
                             refine goes_ Try.func19 (by kernel_rfl) rfl #[.int .i64 a0, .int .i64 (rd t151 x12_1), .int .i64 a1] (by rfl) rfl rfl (by (try simp only [List.map_toArray, List.map_cons, List.map_nil]); first | done | rfl | (simp only [List.length_drop, List.length_take]; rfl)) ?_
                             with_reducible refine (tree_On.calls k1 a0 (rd t151 x12_1) a1 true _ A60.out).mono ?_
                             rintro e w65 ⟨rfl, hb⟩
                             have HS0_ := (hb.cell (World.block_lt_of_cell? _ _ (hHeld.1))).trans (hHeld.1)
                             have HS1_ := (hb.cell (World.block_lt_of_cell? _ _ (hHeld.2.1))).trans (hHeld.2.1)
                             have HS2_ := (hb.cell (World.block_lt_of_cell? _ _ (hHeld.2.2.1))).trans (hHeld.2.2.1)
                             have HS3_ := (hb.cell (World.block_lt_of_cell? _ _ (hHeld.2.2.2.1))).trans (hHeld.2.2.2.1)
                             have HS4_ := (hb.cell (World.block_lt_of_cell? _ _ (hHeld.2.2.2.2.1))).trans (hHeld.2.2.2.2.1)
                             have HS5_ := (hb.cell (World.block_lt_of_cell? _ _ (hHeld.2.2.2.2.2.1))).trans (hHeld.2.2.2.2.2.1)
                             have HS6_ := (hb.cell (World.block_lt_of_cell? _ _ (hHeld.2.2.2.2.2.2))).trans (hHeld.2.2.2.2.2.2)
                             refine ⟨_, rfl, ?_⟩
                             have n0_ := Aside0.mk (Kd.R_below (by (with_reducible repeat (first | apply Kd.R_alloc | apply Kd.R_drewN | apply Kd.R_drew)); exact HO_9.out) hb)
                             have n1_ := Aside0.mk (Kd.R_below (by (with_reducible repeat (first | apply Kd.R_alloc | apply Kd.R_drewN | apply Kd.R_drew)); exact HO_10.out) hb)
                             have n2_ := Aside0.mk (below_step (by repeat (first | (with_reducible first | exact HB.out | apply below_alloc | apply pw_below_drewN | apply below_drew1) | exact HB.out)) hb)
                             clear HO_9
                             clear HO_10
                             clear HB
                             have HO_9 := n0_
                             have HO_10 := n1_
                             have HB := n2_
                             clear n0_ n1_ n2_
                             (try clear hb)
                             (try clear hb2)
                             (try clear hk)
                             (try clear hi)
                             refine hK.out _ _ ⟨HS0_, HS1_, HS2_, HS3_, HS4_, HS5_, HS6_⟩ (fun hHeld => ?_)
                             clear hK K
                             refine norm_ (a' := ?_) ?_ ?_
                             rotate_left
                             ·show Act.put _ (some 142) _ = _
                              simp only [Act.put, List.setIfInBounds_toArray, List.set_cons_zero, List.set_cons_succ, i64_w, i32_w]
                              rfl
                             refine pure_ (i := 48) (N := some 143) (v := ?_) (a' := ?_) (bs 49 14) rfl rfl (any_of HT_.out (by kernel_rfl)) (fun _ _ _ h => h) (Or.inl ⟨by rfl, ?_⟩) ?_ ?_
                             rotate_left
                             ·intro w'
                              go_simp
                              with_reducible rfl
                             rotate_left
                             ·simp only [Act.put, List.setIfInBounds_toArray, List.set_cons_zero, List.set_cons_succ, i64_w, i32_w]
                              rfl
                             refine pure_ (i := 49) (N := some 144) (v := ?_) (a' := ?_) (bs 50 13) rfl rfl (any_of HT_.out (by kernel_rfl)) (fun _ _ _ h => h) (Or.inl ⟨by rfl, ?_⟩) ?_ ?_
                             rotate_left
                             ·intro w'
                              go_simp
                              with_reducible rfl
                             rotate_left
                             ·simp only [Act.put, List.setIfInBounds_toArray, List.set_cons_zero, List.set_cons_succ, i64_w, i32_w]
                              rfl
                             refine pure_ (i := 50) (N := some 145) (v := ?_) (a' := ?_) (bs 51 12) rfl rfl (any_of HT_.out (by kernel_rfl)) (fun _ _ _ h => h) (Or.inl ⟨by rfl, ?_⟩) ?_ ?_
                             rotate_left
                             ·intro w'
                              go_simp
                              with_reducible rfl
                             rotate_left
                             ·simp only [Act.put, List.setIfInBounds_toArray, List.set_cons_zero, List.set_cons_succ, i64_w, i32_w]
                              rfl
                             refine pure_ (i := 51) (N := some 146) (v := ?_) (a' := ?_) (bs 52 11) rfl rfl (any_of HT_.out (by kernel_rfl)) (fun _ _ _ h => h) (Or.inl ⟨by rfl, ?_⟩) ?_ ?_
                             rotate_left
                             ·intro w'
                              go_simp
                              with_reducible rfl
                             rotate_left
                             ·simp only [Act.put, List.setIfInBounds_toArray, List.set_cons_zero, List.set_cons_succ, i64_w, i32_w]
                              rfl
                             refine pure_ (i := 52) (N := some 147) (v := ?_) (a' := ?_) (bs 53 10) rfl rfl (any_of HT_.out (by kernel_rfl)) (fun _ _ _ h => h) (Or.inl ⟨by rfl, ?_⟩) ?_ ?_
                             rotate_left
                             ·intro w'
                              go_simp
                              with_reducible rfl
                             rotate_left
                             ·simp only [Act.put, List.setIfInBounds_toArray, List.set_cons_zero, List.set_cons_succ, i64_w, i32_w]
                              rfl
                             refine pure_ (i := 53) (N := some 148) (v := ?_) (a' := ?_) (bs 54 9) rfl rfl (any_of HT_.out (by kernel_rfl)) (fun _ _ _ h => h) (Or.inl ⟨by rfl, ?_⟩) ?_ ?_
                             rotate_left
                             ·intro w'
                              go_simp
                              with_reducible rfl
                             rotate_left
                             ·simp only [Act.put, List.setIfInBounds_toArray, List.set_cons_zero, List.set_cons_succ, i64_w, i32_w]
                              rfl
                             refine pure_ (i := 54) (N := some 149) (v := ?_) (a' := ?_) (bs 55 8) rfl rfl (any_of HT_.out (by kernel_rfl)) (fun _ _ _ h => h) (Or.inl ⟨by rfl, ?_⟩) ?_ ?_
                             rotate_left
                             ·intro w'
                              go_simp
                              with_reducible rfl
                             rotate_left
                             ·simp only [Act.put, List.setIfInBounds_toArray, List.set_cons_zero, List.set_cons_succ, i64_w, i32_w]
                              rfl
                             refine pure_ (i := 56) (N := some 151) (v := ?_) (a' := ?_) #[true, true, true, true, true, true, true, true, true, true, true, true, true, true, true, true, true, true, true, true, true, true, true, true, true, true, true, true, true, true, true, true, true, true, true, true, true, true, true, true, true, true, true, true, true, true, true, true, true, true, true, true, true, true, true, false, true, false, false, false, false, false, false] rfl rfl (any_of HT_.out (by kernel_rfl)) (fun _ _ _ h => h) (Or.inl ⟨by rfl, ?_⟩) ?_ ?_
                             rotate_left
                             ·intro w'
                              go_simp
                              with_reducible rfl
                             rotate_left
                             ·simp only [Act.put, List.setIfInBounds_toArray, List.set_cons_zero, List.set_cons_succ, i64_w, i32_w]
                              rfl
                             refine pure_ (i := 58) (N := some 153) (v := ?_) (a' := ?_) #[true, true, true, true, true, true, true, true, true, true, true, true, true, true, true, true, true, true, true, true, true, true, true, true, true, true, true, true, true, true, true, true, true, true, true, true, true, true, true, true, true, true, true, true, true, true, true, true, true, true, true, true, true, true, true, false, true, false, true, false, false, false, false] rfl rfl (any_of HT_.out (by kernel_rfl)) (fun _ _ _ h => h) (Or.inl ⟨by rfl, ?_⟩) ?_ ?_
                             rotate_left
                             ·intro w'
                              go_simp
                              with_reducible rfl
                             rotate_left
                             ·simp only [Act.put, List.setIfInBounds_toArray, List.set_cons_zero, List.set_cons_succ, i64_w, i32_w]
                              rfl
                             refine pure_ (i := 59) (N := some 154) (v := ?_) (a' := ?_) #[true, true, true, true, true, true, true, true, true, true, true, true, true, true, true, true, true, true, true, true, true, true, true, true, true, true, true, true, true, true, true, true, true, true, true, true, true, true, true, true, true, true, true, true, true, true, true, true, true, true, true, true, true, true, true, false, true, false, true, true, false, false, false] rfl rfl (any_of HT_.out (by kernel_rfl)) (fun _ _ _ h => h) (Or.inl ⟨by rfl, ?_⟩) ?_ ?_
                             rotate_left
                             ·intro w'
                              go_simp
                              with_reducible rfl
                             rotate_left
                             ·simp only [Act.put, List.setIfInBounds_toArray, List.set_cons_zero, List.set_cons_succ, i64_w, i32_w]
                              rfl
                             refine pure_ (i := 60) (N := some 155) (v := ?_) (a' := ?_) #[true, true, true, true, true, true, true, true, true, true, true, true, true, true, true, true, true, true, true, true, true, true, true, true, true, true, true, true, true, true, true, true, true, true, true, true, true, true, true, true, true, true, true, true, true, true, true, true, true, true, true, true, true, true, true, false, true, false, true, true, true, false, false] rfl rfl (any_of HT_.out (by kernel_rfl)) (fun _ _ _ h => h) (Or.inl ⟨by rfl, ?_⟩) ?_ ?_
                             rotate_left
                             ·intro w'
                              go_simp
                              with_reducible rfl
                             rotate_left
                             ·simp only [Act.put, List.setIfInBounds_toArray, List.set_cons_zero, List.set_cons_succ, i64_w, i32_w]
                              rfl
                             refine take_ (i := 55) (N := some 150) (v := ?_) (a' := ?_) #[true, true, true, true, true, true, true, true, true, true, true, true, true, true, true, true, true, true, true, true, true, true, true, true, true, true, true, true, true, true, true, true, true, true, true, true, true, true, true, true, true, true, true, true, true, true, true, true, true, true, true, true, true, true, true, true, true, false, true, true, true, false, false] rfl rfl (take_ofW HT_.out HW_.out (by kernel_rfl)) (fun _ _ _ h => h) (Or.inl ⟨by rfl, ?_⟩) hHeld ?_ ?_
                             rotate_left
                             ·rintro w' ⟨s0, s1, s2, s3, s4, s5, s6⟩
                              go_simp
                              with_reducible rfl
                             rotate_left
                             ·simp only [Act.put, List.setIfInBounds_toArray, List.set_cons_zero, List.set_cons_succ, i64_w, i32_w]
                              rfl
                             refine one_ (i := 57) (N := some 152) (bs 61 2) rfl rfl (one_of HT_.out (by kernel_rfl)) (by decide) (fun K hK => ?_)
                             refine goes_ Try.func19 (by kernel_rfl) rfl #[.int .i64 a0, .int .i64 (rd t154 x12_1), .int .i64 a1] (by rfl) rfl rfl (by (try simp only [List.map_toArray, List.map_cons, List.map_nil]); first | done | rfl | (simp only [List.length_drop, List.length_take]; rfl)) ?_
                             with_reducible refine (tree_On.calls k1 a0 (rd t154 x12_1) a1 t170 _ A62.out).mono ?_
                             rintro e w66 ⟨rfl, hb⟩
                             have HS0_ := (hb.cell (World.block_lt_of_cell? _ _ (hHeld.1))).trans (hHeld.1)
                             have HS1_ := (hb.cell (World.block_lt_of_cell? _ _ (hHeld.2.1))).trans (hHeld.2.1)
                             have HS2_ := (hb.cell (World.block_lt_of_cell? _ _ (hHeld.2.2.1))).trans (hHeld.2.2.1)
                             have HS3_ := (hb.cell (World.block_lt_of_cell? _ _ (hHeld.2.2.2.1))).trans (hHeld.2.2.2.1)
                             have HS4_ := (hb.cell (World.block_lt_of_cell? _ _ (hHeld.2.2.2.2.1))).trans (hHeld.2.2.2.2.1)
                             have HS5_ := (hb.cell (World.block_lt_of_cell? _ _ (hHeld.2.2.2.2.2.1))).trans (hHeld.2.2.2.2.2.1)
                             have HS6_ := (hb.cell (World.block_lt_of_cell? _ _ (hHeld.2.2.2.2.2.2))).trans (hHeld.2.2.2.2.2.2)
                             refine ⟨_, rfl, ?_⟩
                             have n0_ := Aside0.mk (Kd.R_below (by (with_reducible repeat (first | apply Kd.R_alloc | apply Kd.R_drewN | apply Kd.R_drew)); exact HO_9.out) hb)
                             have n1_ := Aside0.mk (Kd.R_below (by (with_reducible repeat (first | apply Kd.R_alloc | apply Kd.R_drewN | apply Kd.R_drew)); exact HO_10.out) hb)
                             have n2_ := Aside0.mk (below_step (by repeat (first | (with_reducible first | exact HB.out | apply below_alloc | apply pw_below_drewN | apply below_drew1) | exact HB.out)) hb)
                             clear HO_9
                             clear HO_10
                             clear HB
                             have HO_9 := n0_
                             have HO_10 := n1_
                             have HB := n2_
                             clear n0_ n1_ n2_
                             (try clear hb)
                             (try clear hb2)
                             (try clear hk)
                             (try clear hi)
                             refine hK.out _ _ ⟨HS0_, HS1_, HS2_, HS3_, HS4_, HS5_, HS6_⟩ (fun hHeld => ?_)
                             clear hK K
                             refine norm_ (a' := ?_) ?_ ?_
                             rotate_left
                             ·show Act.put _ (some 152) _ = _
                              simp only [Act.put, List.setIfInBounds_toArray, List.set_cons_zero, List.set_cons_succ, i64_w, i32_w]
                              rfl
                             refine pure_ (i := 61) (N := some 156) (v := ?_) (a' := ?_) (bs 62 1) rfl rfl (any_of HT_.out (by kernel_rfl)) (fun _ _ _ h => h) (Or.inl ⟨by rfl, ?_⟩) ?_ ?_
                             rotate_left
                             ·intro w'
                              go_simp
                              with_reducible rfl
                             rotate_left
                             ·simp only [Act.put, List.setIfInBounds_toArray, List.set_cons_zero, List.set_cons_succ, i64_w, i32_w]
                              rfl
                             refine pure_ (i := 62) (N := some 157) (v := ?_) (a' := ?_) (bs 63 0) rfl rfl (any_of HT_.out (by kernel_rfl)) (fun _ _ _ h => h) (Or.inl ⟨by rfl, ?_⟩) ?_ ?_
                             rotate_left
                             ·intro w'
                              go_simp
                              with_reducible rfl
                             rotate_left
                             ·simp only [Act.put, List.setIfInBounds_toArray, List.set_cons_zero, List.set_cons_succ, i64_w, i32_w]
                              rfl
                             refine done_ (done_of HT_.out (by kernel_rfl)) ?_
                             try go_wp2
                             go_roundg k1
                             case measure => have := HK1.out; omega
                             case rel => exact ⟨(wrap64 (x12_1 + 1)), (by first | rfl | (simp; done) | (simp [*]; done)), H', ⟨by have := HK1.out; omega⟩, ⟨by (with_reducible repeat (first | apply Kd.R_alloc | apply Kd.R_drewN | apply Kd.R_drew)); exact HO_9.out⟩, ⟨by (with_reducible repeat (first | apply Kd.R_alloc | apply Kd.R_drewN | apply Kd.R_drew)); exact HO_10.out⟩, ⟨by repeat (first | (with_reducible first | exact HB.out | apply below_alloc | apply pw_below_drewN | apply below_drew1) | exact HB.out)⟩⟩
                           ·replace c61 := Bool.eq_false_iff.mpr c61
                            subst c61
                            have H1 : (some false) = some r := by rw [if_neg (show ¬ (false = true) by decide)] at H; exact H
                            clear H
                            have H := H1
                            clear H1
                            exact absurd (Option.some.inj H) (by rw [HT.out]; decide)
                          ·rw [if_neg c59] at H
                           have c59b0 : ((wrap64 (Int.tdiv (wrap64 ((rd t151 x12_1) - 1)) 2)) == (rd t151 (ji56))) = false := beq_eq_false_iff_ne.mpr c59
                           have c59b1 : ((wrap64 (Int.tdiv (wrap64 ((rd t151 x12_1) - 1)) 2)) != (rd t151 (ji56))) = true := bne_iff_ne.mpr c59
                           exact absurd (Option.some.inj H) (by rw [HT.out]; decide)
                         ·rw [if_neg c58] at H
                          exact absurd H (by simp)
                        ·rw [if_neg c57] at H
                         exact absurd H (by simp)
                       ·rw [if_neg c55] at H
                        have c55b0 : decide (0 < x12_1) = false := decide_eq_false c55
                        clear c55
                        replace H := Option.bind_eq_some_iff.mp H
                        obtain ⟨t172, A670, H⟩ := H
                        replace H : (if t172 = true then ((tree_On.f k1 a0 (rd t154 x12_1) a1).bind fun t174 => (if (t174 != (decide (x12_1 ≤ t160))) = true then (some false) else (oublaw7_TreePaths.l0 k1 a0 a1 a2 l3 t151 t154 t160 (wrap64 (x12_1 + 1))))) else (some false)) = some r := H
                        have A67 := Aside0.mk A670
                        clear A670
                        by_cases c68 : t172 = true
                        ·subst c68
                         have H1 : ((tree_On.f k1 a0 (rd t154 x12_1) a1).bind fun t174 => (if (t174 != (decide (x12_1 ≤ t160))) = true then (some false) else (oublaw7_TreePaths.l0 k1 a0 a1 a2 l3 t151 t154 t160 (wrap64 (x12_1 + 1))))) = some r := by rw [if_pos rfl] at H; exact H
                         clear H
                         have H := H1
                         clear H1
                         replace H := Option.bind_eq_some_iff.mp H
                         obtain ⟨t174, A690, H⟩ := H
                         replace H : (if (t174 != (decide (x12_1 ≤ t160))) = true then (some false) else (oublaw7_TreePaths.l0 k1 a0 a1 a2 l3 t151 t154 t160 (wrap64 (x12_1 + 1)))) = some r := H
                         have A69 := Aside0.mk A690
                         clear A690
                         by_cases c70 : (t174 != (decide (x12_1 ≤ t160))) = true
                         ·rw [if_pos c70] at H
                          have c70b0 : (t174 != (decide (x12_1 ≤ t160))) = true := c70
                          (try (have c70b1 : decide (t174 = (decide (x12_1 ≤ t160))) = false := by simpa using c70))
                          (try (have c70b2 : (t174 == (decide (x12_1 ≤ t160))) = false := by simpa using c70))
                          (try (have c70b3 : ¬ (t174 = (decide (x12_1 ≤ t160))) := by simpa using c70))
                          clear c70
                          exact absurd (Option.some.inj H) (by rw [HT.out]; decide)
                         ·rw [if_neg c70] at H
                          have c70b0 : (t174 != (decide (x12_1 ≤ t160))) = false := by simpa using c70
                          (try (have c70b1 : decide (t174 = (decide (x12_1 ≤ t160))) = true := by simpa using c70))
                          (try (have c70b2 : (t174 == (decide (x12_1 ≤ t160))) = true := by simpa using c70))
                          clear c70
                          have H' := Aside0.mk H
                          clear H
                          try go_wp2
                          have n0_ := Aside0.mk (Kd.R_drew HO_9.out)
                          have n1_ := Aside0.mk (Kd.R_drew HO_10.out)
                          have n2_ := Aside0.mk (below_drew1 HB.out)
                          clear HO_9
                          clear HO_10
                          clear HB
                          have HO_9 := n0_
                          have HO_10 := n1_
                          have HB := n2_
                          clear n0_ n1_ n2_
                          have p161 : 0 ≤ (x12_1 : Int) := of_decide_eq_true (by first | (with_reducible assumption) | assumption)
                          have q161 : x12_1 < (t151.length : Int) := of_decide_eq_true (by first | (with_reducible assumption) | assumption)
                          obtain ⟨ad161, e161, hx161_0⟩ := Kd.at_int (Kd.R_reads' HO_9.out).2.2 x12_1 p161 q161
                          obtain rfl : ad157 = ad161 := (by injection e161)
                          replace p161 := eq_true p161
                          replace q161 := eq_true q161
                          have p162 : 0 ≤ (x12_1 : Int) := of_decide_eq_true (by first | (with_reducible assumption) | assumption)
                          have q162 : x12_1 < (t154.length : Int) := of_decide_eq_true (by first | (with_reducible assumption) | assumption)
                          obtain ⟨ad162, e162, hx162_0⟩ := Kd.at_int (Kd.R_reads' HO_10.out).2.2 x12_1 p162 q162
                          cases e162
                          replace p162 := eq_true p162
                          replace q162 := eq_true q162
                          have p163 : 0 ≤ (x12_1 : Int) := of_decide_eq_true (by first | (with_reducible assumption) | assumption)
                          have q163 : x12_1 < (t151.length : Int) := of_decide_eq_true (by first | (with_reducible assumption) | assumption)
                          obtain ⟨ad163, e163, hx163_0⟩ := Kd.at_int (Kd.R_reads' HO_9.out).2.2 x12_1 p163 q163
                          obtain rfl : ad157 = ad163 := (by injection e163)
                          replace p163 := eq_true p163
                          replace q163 := eq_true q163
                          have p171 : 0 ≤ (x12_1 : Int) := of_decide_eq_true (by first | (with_reducible assumption) | assumption)
                          have q171 : x12_1 < (t151.length : Int) := of_decide_eq_true (by first | (with_reducible assumption) | assumption)
                          obtain ⟨ad171, e171, hx171_0⟩ := Kd.at_int (Kd.R_reads' HO_9.out).2.2 x12_1 p171 q171
                          obtain rfl : ad157 = ad171 := (by injection e171)
                          replace p171 := eq_true p171
                          replace q171 := eq_true q171
                          have p173 : 0 ≤ (x12_1 : Int) := of_decide_eq_true (by first | (with_reducible assumption) | assumption)
                          have q173 : x12_1 < (t154.length : Int) := of_decide_eq_true (by first | (with_reducible assumption) | assumption)
                          obtain ⟨ad173, e173, hx173_0⟩ := Kd.at_int (Kd.R_reads' HO_10.out).2.2 x12_1 p173 q173
                          obtain rfl : ad162 = ad173 := (by injection e173)
                          replace p173 := eq_true p173
                          replace q173 := eq_true q173
                          refine start_ (n := 63) (S := fun w' => w'.cell? (ad157.add (x12_1).toNat) = some (.int .i64 (rd t151 x12_1)) ∧ w'.cell? (ad162.add (x12_1).toNat) = some (.int .i64 (rd t154 x12_1)) ∧ w'.cell? (ad157.add (x12_1).toNat) = some (.int .i64 (rd t151 x12_1)) ∧ w'.cell? (ad157.add (x12_1).toNat) = some (.int .i64 (rd t151 x12_1)) ∧ w'.cell? (ad162.add (x12_1).toNat) = some (.int .i64 (rd t154 x12_1))) (ds := []) #[false, false, false, false, false, false, false, false, false, false, false, false, false, false, false, false, false, false, false, false, false, false, false, false, false, false, false, false, false, false, false, false, false, false, false, false, false, false, false, false, false, false, false, false, false, false, false, false, false, false, false, false, false, false, false, false, false, false, false, false, false, false, false] (by kernel_rfl) rfl rfl ⟨hx161_0, hx162_0, hx163_0, hx171_0, hx173_0⟩ (fun hHeld => ?_); refine with_tabW oublaw7_TreePaths.tab12 oublaw7_TreePaths.bits12 (fun HT_ HW_ => ?_)
                          generalize wr.drew = w71 at HO_9 HO_10 HB hx161_0 hx162_0 hx163_0 hx171_0 hx173_0 hHeld ⊢
                          refine pure_ (i := 0) (N := some 95) (v := ?_) (a' := ?_) (bs 1 62) rfl rfl (any_of HT_.out (by kernel_rfl)) (fun _ _ _ h => h) (Or.inl ⟨by rfl, ?_⟩) ?_ ?_
                          rotate_left
                          ·intro w'
                           go_simp
                           with_reducible rfl
                          rotate_left
                          ·simp only [Act.put, List.setIfInBounds_toArray, List.set_cons_zero, List.set_cons_succ, i64_w, i32_w]
                           rfl
                          refine pure_ (i := 1) (N := some 96) (v := ?_) (a' := ?_) (bs 2 61) rfl rfl (any_of HT_.out (by kernel_rfl)) (fun _ _ _ h => h) (Or.inl ⟨by rfl, ?_⟩) ?_ ?_
                          rotate_left
                          ·intro w'
                           go_simp
                           with_reducible rfl
                          rotate_left
                          ·simp only [Act.put, List.setIfInBounds_toArray, List.set_cons_zero, List.set_cons_succ, i64_w, i32_w]
                           rfl
                          refine pure_ (i := 2) (N := some 97) (v := ?_) (a' := ?_) (bs 3 60) rfl rfl (any_of HT_.out (by kernel_rfl)) (fun _ _ _ h => h) (Or.inl ⟨by rfl, ?_⟩) ?_ ?_
                          rotate_left
                          ·intro w'
                           go_simp
                           with_reducible rfl
                          rotate_left
                          ·simp only [Act.put, List.setIfInBounds_toArray, List.set_cons_zero, List.set_cons_succ, i64_w, i32_w]
                           rfl
                          refine pure_ (i := 4) (N := some 99) (v := ?_) (a' := ?_) #[true, true, true, false, true, false, false, false, false, false, false, false, false, false, false, false, false, false, false, false, false, false, false, false, false, false, false, false, false, false, false, false, false, false, false, false, false, false, false, false, false, false, false, false, false, false, false, false, false, false, false, false, false, false, false, false, false, false, false, false, false, false, false] rfl rfl (any_of HT_.out (by kernel_rfl)) (fun _ _ _ h => h) (Or.inl ⟨by rfl, ?_⟩) ?_ ?_
                          rotate_left
                          ·intro w'
                           go_simp
                           with_reducible rfl
                          rotate_left
                          ·simp only [Act.put, List.setIfInBounds_toArray, List.set_cons_zero, List.set_cons_succ, i64_w, i32_w]
                           rfl
                          refine pure_ (i := 5) (N := some 100) (v := ?_) (a' := ?_) #[true, true, true, false, true, true, false, false, false, false, false, false, false, false, false, false, false, false, false, false, false, false, false, false, false, false, false, false, false, false, false, false, false, false, false, false, false, false, false, false, false, false, false, false, false, false, false, false, false, false, false, false, false, false, false, false, false, false, false, false, false, false, false] rfl rfl (any_of HT_.out (by kernel_rfl)) (fun _ _ _ h => h) (Or.inl ⟨by rfl, ?_⟩) ?_ ?_
                          rotate_left
                          ·intro w'
                           go_simp
                           with_reducible rfl
                          rotate_left
                          ·simp only [Act.put, List.setIfInBounds_toArray, List.set_cons_zero, List.set_cons_succ, i64_w, i32_w]
                           rfl
                          refine pure_ (i := 6) (N := some 101) (v := ?_) (a' := ?_) #[true, true, true, false, true, true, true, false, false, false, false, false, false, false, false, false, false, false, false, false, false, false, false, false, false, false, false, false, false, false, false, false, false, false, false, false, false, false, false, false, false, false, false, false, false, false, false, false, false, false, false, false, false, false, false, false, false, false, false, false, false, false, false] rfl rfl (any_of HT_.out (by kernel_rfl)) (fun _ _ _ h => h) (Or.inl ⟨by rfl, ?_⟩) ?_ ?_
                          rotate_left
                          ·intro w'
                           go_simp
                           with_reducible rfl
                          rotate_left
                          ·simp only [Act.put, List.setIfInBounds_toArray, List.set_cons_zero, List.set_cons_succ, i64_w, i32_w]
                           rfl
                          refine pure_ (i := 9) (N := some 104) (v := ?_) (a' := ?_) #[true, true, true, false, true, true, true, false, false, true, false, false, false, false, false, false, false, false, false, false, false, false, false, false, false, false, false, false, false, false, false, false, false, false, false, false, false, false, false, false, false, false, false, false, false, false, false, false, false, false, false, false, false, false, false, false, false, false, false, false, false, false, false] rfl rfl (any_of HT_.out (by kernel_rfl)) (fun _ _ _ h => h) (Or.inl ⟨by rfl, ?_⟩) ?_ ?_
                          rotate_left
                          ·intro w'
                           go_simp
                           with_reducible rfl
                          rotate_left
                          ·simp only [Act.put, List.setIfInBounds_toArray, List.set_cons_zero, List.set_cons_succ, i64_w, i32_w]
                           rfl
                          refine pure_ (i := 10) (N := some 105) (v := ?_) (a' := ?_) #[true, true, true, false, true, true, true, false, false, true, true, false, false, false, false, false, false, false, false, false, false, false, false, false, false, false, false, false, false, false, false, false, false, false, false, false, false, false, false, false, false, false, false, false, false, false, false, false, false, false, false, false, false, false, false, false, false, false, false, false, false, false, false] rfl rfl (any_of HT_.out (by kernel_rfl)) (fun _ _ _ h => h) (Or.inl ⟨by rfl, ?_⟩) ?_ ?_
                          rotate_left
                          ·intro w'
                           go_simp
                           with_reducible rfl
                          rotate_left
                          ·simp only [Act.put, List.setIfInBounds_toArray, List.set_cons_zero, List.set_cons_succ, i64_w, i32_w]
                           rfl
                          refine pure_ (i := 11) (N := some 106) (v := ?_) (a' := ?_) #[true, true, true, false, true, true, true, false, false, true, true, true, false, false, false, false, false, false, false, false, false, false, false, false, false, false, false, false, false, false, false, false, false, false, false, false, false, false, false, false, false, false, false, false, false, false, false, false, false, false, false, false, false, false, false, false, false, false, false, false, false, false, false] rfl rfl (any_of HT_.out (by kernel_rfl)) (fun _ _ _ h => h) (Or.inl ⟨by rfl, ?_⟩) ?_ ?_
                          rotate_left
                          ·intro w'
                           go_simp
                           with_reducible rfl
                          rotate_left
                          ·simp only [Act.put, List.setIfInBounds_toArray, List.set_cons_zero, List.set_cons_succ, i64_w, i32_w]
                           rfl
                          refine take_ (i := 3) (N := some 98) (v := ?_) (a' := ?_) #[true, true, true, true, true, true, true, false, false, true, true, true, false, false, false, false, false, false, false, false, false, false, false, false, false, false, false, false, false, false, false, false, false, false, false, false, false, false, false, false, false, false, false, false, false, false, false, false, false, false, false, false, false, false, false, false, false, false, false, false, false, false, false] rfl rfl (take_ofW HT_.out HW_.out (by kernel_rfl)) (fun _ _ _ h => h) (Or.inl ⟨by rfl, ?_⟩) hHeld ?_ ?_
                          rotate_left
                          ·rintro w' ⟨s0, s1, s2, s3, s4⟩
                           go_simp
                           with_reducible rfl
                          rotate_left
                          ·simp only [Act.put, List.setIfInBounds_toArray, List.set_cons_zero, List.set_cons_succ, i64_w, i32_w]
                           rfl
                          refine take_ (i := 7) (N := some 102) (v := ?_) (a' := ?_) #[true, true, true, true, true, true, true, true, false, true, true, true, false, false, false, false, false, false, false, false, false, false, false, false, false, false, false, false, false, false, false, false, false, false, false, false, false, false, false, false, false, false, false, false, false, false, false, false, false, false, false, false, false, false, false, false, false, false, false, false, false, false, false] rfl rfl (take_ofW HT_.out HW_.out (by kernel_rfl)) (fun _ _ _ h => h) (Or.inl ⟨by rfl, ?_⟩) hHeld ?_ ?_
                          rotate_left
                          ·rintro w' ⟨s0, s1, s2, s3, s4⟩
                           go_simp
                           with_reducible rfl
                          rotate_left
                          ·simp only [Act.put, List.setIfInBounds_toArray, List.set_cons_zero, List.set_cons_succ, i64_w, i32_w]
                           rfl
                          refine pure_ (i := 8) (N := some 103) (v := ?_) (a' := ?_) (bs 12 51) rfl rfl (any_of HT_.out (by kernel_rfl)) (fun _ _ _ h => h) (Or.inl ⟨by rfl, ?_⟩) ?_ ?_
                          rotate_left
                          ·intro w'
                           go_simp
                           with_reducible rfl
                          rotate_left
                          ·simp only [Act.put, List.setIfInBounds_toArray, List.set_cons_zero, List.set_cons_succ, i64_w, i32_w]
                           rfl
                          refine pure_ (i := 12) (N := some 107) (v := ?_) (a' := ?_) (bs 13 50) rfl rfl (any_of HT_.out (by kernel_rfl)) (fun _ _ _ h => h) (Or.inl ⟨by rfl, ?_⟩) ?_ ?_
                          rotate_left
                          ·intro w'
                           go_simp
                           with_reducible rfl
                          rotate_left
                          ·simp only [Act.put, List.setIfInBounds_toArray, List.set_cons_zero, List.set_cons_succ, i64_w, i32_w]
                           rfl
                          refine pure_ (i := 13) (N := some 108) (v := ?_) (a' := ?_) (bs 14 49) rfl rfl (any_of HT_.out (by kernel_rfl)) (fun _ _ _ h => h) (Or.inl ⟨by rfl, ?_⟩) ?_ ?_
                          rotate_left
                          ·intro w'
                           go_simp
                           with_reducible rfl
                          rotate_left
                          ·simp only [Act.put, List.setIfInBounds_toArray, List.set_cons_zero, List.set_cons_succ, i64_w, i32_w]
                           rfl
                          refine pure_ (i := 14) (N := some 109) (v := ?_) (a' := ?_) (bs 15 48) rfl rfl (any_of HT_.out (by kernel_rfl)) (fun _ _ _ h => h) (Or.inl ⟨by rfl, ?_⟩) ?_ ?_
                          rotate_left
                          ·intro w'
                           go_simp
                           with_reducible rfl
                          rotate_left
                          ·simp only [Act.put, List.setIfInBounds_toArray, List.set_cons_zero, List.set_cons_succ, i64_w, i32_w]
                           rfl
                          refine pure_ (i := 15) (N := some 110) (v := ?_) (a' := ?_) (bs 16 47) rfl rfl (any_of HT_.out (by kernel_rfl)) (fun _ _ _ h => h) (Or.inl ⟨by rfl, ?_⟩) ?_ ?_
                          rotate_left
                          ·intro w'
                           go_simp
                           with_reducible rfl
                          rotate_left
                          ·simp only [Act.put, List.setIfInBounds_toArray, List.set_cons_zero, List.set_cons_succ, i64_w, i32_w]
                           rfl
                          refine pure_ (i := 16) (N := some 111) (v := ?_) (a' := ?_) (bs 17 46) rfl rfl (any_of HT_.out (by kernel_rfl)) (fun _ _ _ h => h) (Or.inl ⟨by rfl, ?_⟩) ?_ ?_
                          rotate_left
                          ·intro w'
                           go_simp
                           with_reducible rfl
                          rotate_left
                          ·simp only [Act.put, List.setIfInBounds_toArray, List.set_cons_zero, List.set_cons_succ, i64_w, i32_w]
                           rfl
                          refine pure_ (i := 19) (N := some 114) (v := ?_) (a' := ?_) #[true, true, true, true, true, true, true, true, true, true, true, true, true, true, true, true, true, false, false, true, false, false, false, false, false, false, false, false, false, false, false, false, false, false, false, false, false, false, false, false, false, false, false, false, false, false, false, false, false, false, false, false, false, false, false, false, false, false, false, false, false, false, false] rfl rfl (any_of HT_.out (by kernel_rfl)) (fun _ _ _ h => h) (Or.inl ⟨by rfl, ?_⟩) ?_ ?_
                          rotate_left
                          ·intro w'
                           go_simp
                           with_reducible rfl
                          rotate_left
                          ·simp only [Act.put, List.setIfInBounds_toArray, List.set_cons_zero, List.set_cons_succ, i64_w, i32_w]
                           rfl
                          refine take_ (i := 17) (N := some 112) (v := ?_) (a' := ?_) #[true, true, true, true, true, true, true, true, true, true, true, true, true, true, true, true, true, true, false, true, false, false, false, false, false, false, false, false, false, false, false, false, false, false, false, false, false, false, false, false, false, false, false, false, false, false, false, false, false, false, false, false, false, false, false, false, false, false, false, false, false, false, false] rfl rfl (take_ofW HT_.out HW_.out (by kernel_rfl)) (fun _ _ _ h => h) (Or.inl ⟨by rfl, ?_⟩) hHeld ?_ ?_
                          rotate_left
                          ·rintro w' ⟨s0, s1, s2, s3, s4⟩
                           go_simp
                           with_reducible rfl
                          rotate_left
                          ·simp only [Act.put, List.setIfInBounds_toArray, List.set_cons_zero, List.set_cons_succ, i64_w, i32_w]
                           rfl
                          refine one_ (i := 18) (N := some 113) (bs 20 43) rfl rfl (one_of HT_.out (by kernel_rfl)) (by decide) (fun K hK => ?_)
                          refine goes_ Try.func17 (by kernel_rfl) rfl #[.int .i64 (rd t151 x12_1)] (by rfl) rfl rfl (by (try simp only [List.map_toArray, List.map_cons, List.map_nil]); first | done | rfl | (simp only [List.length_drop, List.length_take]; rfl)) ?_
                          with_reducible refine (tree_Level.calls k1 (rd t151 x12_1) t164 _ A53.out).mono ?_
                          rintro e w' ⟨rfl, ⟨nd, rfl⟩⟩
                          refine ⟨_, rfl, ?_⟩
                          refine hK.out _ _ ⟨hHeld.1, hHeld.2.1, hHeld.2.2.1, hHeld.2.2.2.1, hHeld.2.2.2.2⟩ (fun hHeld => ?_)
                          clear hK K
                          refine norm_ (a' := ?_) ?_ ?_
                          rotate_left
                          ·show Act.put _ (some 113) _ = _
                           simp only [Act.put, List.setIfInBounds_toArray, List.set_cons_zero, List.set_cons_succ, i64_w, i32_w]
                           rfl
                          refine pure_ (i := 20) (N := some 115) (v := ?_) (a' := ?_) (bs 21 42) rfl rfl (any_of HT_.out (by kernel_rfl)) (fun _ _ _ h => h) (Or.inl ⟨by rfl, ?_⟩) ?_ ?_
                          rotate_left
                          ·intro w'
                           go_simp
                           with_reducible rfl
                          rotate_left
                          ·simp only [Act.put, List.setIfInBounds_toArray, List.set_cons_zero, List.set_cons_succ, i64_w, i32_w]
                           rfl
                          refine pure_ (i := 21) (N := some 116) (v := ?_) (a' := ?_) (bs 22 41) rfl rfl (any_of HT_.out (by kernel_rfl)) (fun _ _ _ h => h) (Or.inl ⟨by rfl, ?_⟩) ?_ ?_
                          rotate_left
                          ·intro w'
                           go_simp
                           with_reducible rfl
                          rotate_left
                          ·simp only [Act.put, List.setIfInBounds_toArray, List.set_cons_zero, List.set_cons_succ, i64_w, i32_w]
                           rfl
                          refine pure_ (i := 22) (N := some 117) (v := ?_) (a' := ?_) (bs 23 40) rfl rfl (any_of HT_.out (by kernel_rfl)) (fun _ _ _ h => h) (Or.inl ⟨by rfl, ?_⟩) ?_ ?_
                          rotate_left
                          ·intro w'
                           go_simp
                           with_reducible rfl
                          rotate_left
                          ·simp only [Act.put, List.setIfInBounds_toArray, List.set_cons_zero, List.set_cons_succ, i64_w, i32_w]
                           rfl
                          refine pure_ (i := 23) (N := some 118) (v := ?_) (a' := ?_) (bs 24 39) rfl rfl (any_of HT_.out (by kernel_rfl)) (fun _ _ _ h => h) (Or.inl ⟨by rfl, ?_⟩) ?_ ?_
                          rotate_left
                          ·intro w'
                           go_simp
                           with_reducible rfl
                          rotate_left
                          ·simp only [Act.put, List.setIfInBounds_toArray, List.set_cons_zero, List.set_cons_succ, i64_w, i32_w]
                           rfl
                          refine pure_ (i := 24) (N := some 119) (v := ?_) (a' := ?_) (bs 25 38) rfl rfl (any_of HT_.out (by kernel_rfl)) (fun _ _ _ h => h) (Or.inl ⟨by rfl, ?_⟩) ?_ ?_
                          rotate_left
                          ·intro w'
                           go_simp
                           with_reducible rfl
                          rotate_left
                          ·simp only [Act.put, List.setIfInBounds_toArray, List.set_cons_zero, List.set_cons_succ, i64_w, i32_w]
                           rfl
                          refine pure_ (i := 25) (N := some 120) (v := ?_) (a' := ?_) (bs 26 37) rfl rfl (any_of HT_.out (by kernel_rfl)) (fun _ _ _ h => h) (Or.inl ⟨by rfl, ?_⟩) ?_ ?_
                          rotate_left
                          ·intro w'
                           go_simp
                           with_reducible rfl
                          rotate_left
                          ·simp only [Act.put, List.setIfInBounds_toArray, List.set_cons_zero, List.set_cons_succ, i64_w, i32_w]
                           rfl
                          refine pure_ (i := 26) (N := some 121) (v := undef) (a' := ?_) (bs 27 36) rfl rfl (any_of HT_.out (by kernel_rfl)) (fun _ _ _ h => h) (Or.inr ⟨by rfl, rfl⟩) ?_ ?_
                          rotate_left
                          ·simp only [Act.put, List.setIfInBounds_toArray, List.set_cons_zero, List.set_cons_succ, i64_w, i32_w]
                           rfl
                          refine pure_ (i := 27) (N := some 122) (v := undef) (a' := ?_) (bs 28 35) rfl rfl (any_of HT_.out (by kernel_rfl)) (fun _ _ _ h => h) (Or.inr ⟨by rfl, rfl⟩) ?_ ?_
                          rotate_left
                          ·simp only [Act.put, List.setIfInBounds_toArray, List.set_cons_zero, List.set_cons_succ, i64_w, i32_w]
                           rfl
                          refine pure_ (i := 28) (N := some 123) (v := undef) (a' := ?_) (bs 29 34) rfl rfl (any_of HT_.out (by kernel_rfl)) (fun _ _ _ h => h) (Or.inr ⟨by rfl, rfl⟩) ?_ ?_
                          rotate_left
                          ·simp only [Act.put, List.setIfInBounds_toArray, List.set_cons_zero, List.set_cons_succ, i64_w, i32_w]
                           rfl
                          refine pure_ (i := 29) (N := some 124) (v := undef) (a' := ?_) (bs 30 33) rfl rfl (any_of HT_.out (by kernel_rfl)) (fun _ _ _ h => h) (Or.inr ⟨by rfl, rfl⟩) ?_ ?_
                          rotate_left
                          ·simp only [Act.put, List.setIfInBounds_toArray, List.set_cons_zero, List.set_cons_succ, i64_w, i32_w]
                           rfl
                          refine pure_ (i := 30) (N := some 125) (v := undef) (a' := ?_) (bs 31 32) rfl rfl (any_of HT_.out (by kernel_rfl)) (fun _ _ _ h => h) (Or.inr ⟨by rfl, rfl⟩) ?_ ?_
                          rotate_left
                          ·simp only [Act.put, List.setIfInBounds_toArray, List.set_cons_zero, List.set_cons_succ, i64_w, i32_w]
                           rfl
                          refine pure_ (i := 31) (N := some 126) (v := undef) (a' := ?_) (bs 32 31) rfl rfl (any_of HT_.out (by kernel_rfl)) (fun _ _ _ h => h) (Or.inr ⟨by rfl, rfl⟩) ?_ ?_
                          rotate_left
                          ·simp only [Act.put, List.setIfInBounds_toArray, List.set_cons_zero, List.set_cons_succ, i64_w, i32_w]
                           rfl
                          refine pure_ (i := 32) (N := some 127) (v := undef) (a' := ?_) (bs 33 30) rfl rfl (any_of HT_.out (by kernel_rfl)) (fun _ _ _ h => h) (Or.inr ⟨by rfl, rfl⟩) ?_ ?_
                          rotate_left
                          ·simp only [Act.put, List.setIfInBounds_toArray, List.set_cons_zero, List.set_cons_succ, i64_w, i32_w]
                           rfl
                          refine pure_ (i := 33) (N := some 128) (v := undef) (a' := ?_) (bs 34 29) rfl rfl (any_of HT_.out (by kernel_rfl)) (fun _ _ _ h => h) (Or.inr ⟨by rfl, rfl⟩) ?_ ?_
                          rotate_left
                          ·simp only [Act.put, List.setIfInBounds_toArray, List.set_cons_zero, List.set_cons_succ, i64_w, i32_w]
                           rfl
                          refine pure_ (i := 34) (N := some 129) (v := undef) (a' := ?_) (bs 35 28) rfl rfl (any_of HT_.out (by kernel_rfl)) (fun _ _ _ h => h) (Or.inr ⟨by rfl, rfl⟩) ?_ ?_
                          rotate_left
                          ·simp only [Act.put, List.setIfInBounds_toArray, List.set_cons_zero, List.set_cons_succ, i64_w, i32_w]
                           rfl
                          refine pure_ (i := 35) (N := some 130) (v := undef) (a' := ?_) (bs 36 27) rfl rfl (any_of HT_.out (by kernel_rfl)) (fun _ _ _ h => h) (Or.inr ⟨by rfl, rfl⟩) ?_ ?_
                          rotate_left
                          ·simp only [Act.put, List.setIfInBounds_toArray, List.set_cons_zero, List.set_cons_succ, i64_w, i32_w]
                           rfl
                          refine pure_ (i := 36) (N := some 131) (v := undef) (a' := ?_) (bs 37 26) rfl rfl (any_of HT_.out (by kernel_rfl)) (fun _ _ _ h => h) (Or.inr ⟨by rfl, rfl⟩) ?_ ?_
                          rotate_left
                          ·simp only [Act.put, List.setIfInBounds_toArray, List.set_cons_zero, List.set_cons_succ, i64_w, i32_w]
                           rfl
                          refine pure_ (i := 37) (N := some 132) (v := undef) (a' := ?_) (bs 38 25) rfl rfl (any_of HT_.out (by kernel_rfl)) (fun _ _ _ h => h) (Or.inr ⟨by rfl, rfl⟩) ?_ ?_
                          rotate_left
                          ·simp only [Act.put, List.setIfInBounds_toArray, List.set_cons_zero, List.set_cons_succ, i64_w, i32_w]
                           rfl
                          refine pure_ (i := 38) (N := some 133) (v := ?_) (a' := ?_) (bs 39 24) rfl rfl (any_of HT_.out (by kernel_rfl)) (fun _ _ _ h => h) (Or.inl ⟨by rfl, ?_⟩) ?_ ?_
                          rotate_left
                          ·intro w'
                           go_simp
                           with_reducible rfl
                          rotate_left
                          ·simp only [Act.put, List.setIfInBounds_toArray, List.set_cons_zero, List.set_cons_succ, i64_w, i32_w]
                           rfl
                          refine pure_ (i := 39) (N := some 134) (v := ?_) (a' := ?_) (bs 40 23) rfl rfl (any_of HT_.out (by kernel_rfl)) (fun _ _ _ h => h) (Or.inl ⟨by rfl, ?_⟩) ?_ ?_
                          rotate_left
                          ·intro w'
                           go_simp
                           with_reducible rfl
                          rotate_left
                          ·simp only [Act.put, List.setIfInBounds_toArray, List.set_cons_zero, List.set_cons_succ, i64_w, i32_w]
                           rfl
                          refine pure_ (i := 40) (N := some 135) (v := ?_) (a' := ?_) (bs 41 22) rfl rfl (any_of HT_.out (by kernel_rfl)) (fun _ _ _ h => h) (Or.inl ⟨by rfl, ?_⟩) ?_ ?_
                          rotate_left
                          ·intro w'
                           go_simp
                           with_reducible rfl
                          rotate_left
                          ·simp only [Act.put, List.setIfInBounds_toArray, List.set_cons_zero, List.set_cons_succ, i64_w, i32_w]
                           rfl
                          refine pure_ (i := 41) (N := some 136) (v := ?_) (a' := ?_) (bs 42 21) rfl rfl (any_of HT_.out (by kernel_rfl)) (fun _ _ _ h => h) (Or.inl ⟨by rfl, ?_⟩) ?_ ?_
                          rotate_left
                          ·intro w'
                           go_simp
                           with_reducible rfl
                          rotate_left
                          ·simp only [Act.put, List.setIfInBounds_toArray, List.set_cons_zero, List.set_cons_succ, i64_w, i32_w]
                           rfl
                          refine pure_ (i := 42) (N := some 137) (v := ?_) (a' := ?_) (bs 43 20) rfl rfl (any_of HT_.out (by kernel_rfl)) (fun _ _ _ h => h) (Or.inl ⟨by rfl, ?_⟩) ?_ ?_
                          rotate_left
                          ·intro w'
                           go_simp
                           with_reducible rfl
                          rotate_left
                          ·simp only [Act.put, List.setIfInBounds_toArray, List.set_cons_zero, List.set_cons_succ, i64_w, i32_w]
                           rfl
                          refine pure_ (i := 43) (N := some 138) (v := ?_) (a' := ?_) (bs 44 19) rfl rfl (any_of HT_.out (by kernel_rfl)) (fun _ _ _ h => h) (Or.inl ⟨by rfl, ?_⟩) ?_ ?_
                          rotate_left
                          ·intro w'
                           go_simp
                           with_reducible rfl
                          rotate_left
                          ·simp only [Act.put, List.setIfInBounds_toArray, List.set_cons_zero, List.set_cons_succ, i64_w, i32_w]
                           rfl
                          refine pure_ (i := 44) (N := some 139) (v := ?_) (a' := ?_) (bs 45 18) rfl rfl (any_of HT_.out (by kernel_rfl)) (fun _ _ _ h => h) (Or.inl ⟨by rfl, ?_⟩) ?_ ?_
                          rotate_left
                          ·intro w'
                           go_simp
                           with_reducible rfl
                          rotate_left
                          ·simp only [Act.put, List.setIfInBounds_toArray, List.set_cons_zero, List.set_cons_succ, i64_w, i32_w]
                           rfl
                          refine pure_ (i := 46) (N := some 141) (v := ?_) (a' := ?_) #[true, true, true, true, true, true, true, true, true, true, true, true, true, true, true, true, true, true, true, true, true, true, true, true, true, true, true, true, true, true, true, true, true, true, true, true, true, true, true, true, true, true, true, true, true, false, true, false, false, false, false, false, false, false, false, false, false, false, false, false, false, false, false] rfl rfl (any_of HT_.out (by kernel_rfl)) (fun _ _ _ h => h) (Or.inl ⟨by rfl, ?_⟩) ?_ ?_
                          rotate_left
                          ·intro w'
                           go_simp
                           with_reducible rfl
                          rotate_left
                          ·simp only [Act.put, List.setIfInBounds_toArray, List.set_cons_zero, List.set_cons_succ, i64_w, i32_w]
                           rfl
                          refine take_ (i := 45) (N := some 140) (v := ?_) (a' := ?_) (bs 47 16) rfl rfl (take_ofW HT_.out HW_.out (by kernel_rfl)) (fun _ _ _ h => h) (Or.inl ⟨by rfl, ?_⟩) hHeld ?_ ?_
                          rotate_left
                          ·rintro w' ⟨s0, s1, s2, s3, s4⟩
                           go_simp
                           with_reducible rfl
                          rotate_left
                          ·simp only [Act.put, List.setIfInBounds_toArray, List.set_cons_zero, List.set_cons_succ, i64_w, i32_w]
                           rfl
                          refine one_ (i := 47) (N := some 142) (bs 48 15) rfl rfl (one_of HT_.out (by kernel_rfl)) (by decide) (fun K hK => ?_)
                          refine goes_ Try.func19 (by kernel_rfl) rfl #[.int .i64 a0, .int .i64 (rd t151 x12_1), .int .i64 a1] (by rfl) rfl rfl (by (try simp only [List.map_toArray, List.map_cons, List.map_nil]); first | done | rfl | (simp only [List.length_drop, List.length_take]; rfl)) ?_
                          with_reducible refine (tree_On.calls k1 a0 (rd t151 x12_1) a1 true _ A67.out).mono ?_
                          rintro e w72 ⟨rfl, hb⟩
                          have HS0_ := (hb.cell (World.block_lt_of_cell? _ _ (hHeld.1))).trans (hHeld.1)
                          have HS1_ := (hb.cell (World.block_lt_of_cell? _ _ (hHeld.2.1))).trans (hHeld.2.1)
                          have HS2_ := (hb.cell (World.block_lt_of_cell? _ _ (hHeld.2.2.1))).trans (hHeld.2.2.1)
                          have HS3_ := (hb.cell (World.block_lt_of_cell? _ _ (hHeld.2.2.2.1))).trans (hHeld.2.2.2.1)
                          have HS4_ := (hb.cell (World.block_lt_of_cell? _ _ (hHeld.2.2.2.2))).trans (hHeld.2.2.2.2)
                          refine ⟨_, rfl, ?_⟩
                          have n0_ := Aside0.mk (Kd.R_below (by (with_reducible repeat (first | apply Kd.R_alloc | apply Kd.R_drewN | apply Kd.R_drew)); exact HO_9.out) hb)
                          have n1_ := Aside0.mk (Kd.R_below (by (with_reducible repeat (first | apply Kd.R_alloc | apply Kd.R_drewN | apply Kd.R_drew)); exact HO_10.out) hb)
                          have n2_ := Aside0.mk (below_step (by repeat (first | (with_reducible first | exact HB.out | apply below_alloc | apply pw_below_drewN | apply below_drew1) | exact HB.out)) hb)
                          clear HO_9
                          clear HO_10
                          clear HB
                          have HO_9 := n0_
                          have HO_10 := n1_
                          have HB := n2_
                          clear n0_ n1_ n2_
                          (try clear hb)
                          (try clear hb2)
                          (try clear hk)
                          (try clear hi)
                          refine hK.out _ _ ⟨HS0_, HS1_, HS2_, HS3_, HS4_⟩ (fun hHeld => ?_)
                          clear hK K
                          refine norm_ (a' := ?_) ?_ ?_
                          rotate_left
                          ·show Act.put _ (some 142) _ = _
                           simp only [Act.put, List.setIfInBounds_toArray, List.set_cons_zero, List.set_cons_succ, i64_w, i32_w]
                           rfl
                          refine pure_ (i := 48) (N := some 143) (v := ?_) (a' := ?_) (bs 49 14) rfl rfl (any_of HT_.out (by kernel_rfl)) (fun _ _ _ h => h) (Or.inl ⟨by rfl, ?_⟩) ?_ ?_
                          rotate_left
                          ·intro w'
                           go_simp
                           with_reducible rfl
                          rotate_left
                          ·simp only [Act.put, List.setIfInBounds_toArray, List.set_cons_zero, List.set_cons_succ, i64_w, i32_w]
                           rfl
                          refine pure_ (i := 49) (N := some 144) (v := ?_) (a' := ?_) (bs 50 13) rfl rfl (any_of HT_.out (by kernel_rfl)) (fun _ _ _ h => h) (Or.inl ⟨by rfl, ?_⟩) ?_ ?_
                          rotate_left
                          ·intro w'
                           go_simp
                           with_reducible rfl
                          rotate_left
                          ·simp only [Act.put, List.setIfInBounds_toArray, List.set_cons_zero, List.set_cons_succ, i64_w, i32_w]
                           rfl
                          refine pure_ (i := 50) (N := some 145) (v := ?_) (a' := ?_) (bs 51 12) rfl rfl (any_of HT_.out (by kernel_rfl)) (fun _ _ _ h => h) (Or.inl ⟨by rfl, ?_⟩) ?_ ?_
                          rotate_left
                          ·intro w'
                           go_simp
                           with_reducible rfl
                          rotate_left
                          ·simp only [Act.put, List.setIfInBounds_toArray, List.set_cons_zero, List.set_cons_succ, i64_w, i32_w]
                           rfl
                          refine pure_ (i := 51) (N := some 146) (v := ?_) (a' := ?_) (bs 52 11) rfl rfl (any_of HT_.out (by kernel_rfl)) (fun _ _ _ h => h) (Or.inl ⟨by rfl, ?_⟩) ?_ ?_
                          rotate_left
                          ·intro w'
                           go_simp
                           with_reducible rfl
                          rotate_left
                          ·simp only [Act.put, List.setIfInBounds_toArray, List.set_cons_zero, List.set_cons_succ, i64_w, i32_w]
                           rfl
                          refine pure_ (i := 52) (N := some 147) (v := ?_) (a' := ?_) (bs 53 10) rfl rfl (any_of HT_.out (by kernel_rfl)) (fun _ _ _ h => h) (Or.inl ⟨by rfl, ?_⟩) ?_ ?_
                          rotate_left
                          ·intro w'
                           go_simp
                           with_reducible rfl
                          rotate_left
                          ·simp only [Act.put, List.setIfInBounds_toArray, List.set_cons_zero, List.set_cons_succ, i64_w, i32_w]
                           rfl
                          refine pure_ (i := 53) (N := some 148) (v := ?_) (a' := ?_) (bs 54 9) rfl rfl (any_of HT_.out (by kernel_rfl)) (fun _ _ _ h => h) (Or.inl ⟨by rfl, ?_⟩) ?_ ?_
                          rotate_left
                          ·intro w'
                           go_simp
                           with_reducible rfl
                          rotate_left
                          ·simp only [Act.put, List.setIfInBounds_toArray, List.set_cons_zero, List.set_cons_succ, i64_w, i32_w]
                           rfl
                          refine pure_ (i := 54) (N := some 149) (v := ?_) (a' := ?_) (bs 55 8) rfl rfl (any_of HT_.out (by kernel_rfl)) (fun _ _ _ h => h) (Or.inl ⟨by rfl, ?_⟩) ?_ ?_
                          rotate_left
                          ·intro w'
                           go_simp
                           with_reducible rfl
                          rotate_left
                          ·simp only [Act.put, List.setIfInBounds_toArray, List.set_cons_zero, List.set_cons_succ, i64_w, i32_w]
                           rfl
                          refine pure_ (i := 56) (N := some 151) (v := ?_) (a' := ?_) #[true, true, true, true, true, true, true, true, true, true, true, true, true, true, true, true, true, true, true, true, true, true, true, true, true, true, true, true, true, true, true, true, true, true, true, true, true, true, true, true, true, true, true, true, true, true, true, true, true, true, true, true, true, true, true, false, true, false, false, false, false, false, false] rfl rfl (any_of HT_.out (by kernel_rfl)) (fun _ _ _ h => h) (Or.inl ⟨by rfl, ?_⟩) ?_ ?_
                          rotate_left
                          ·intro w'
                           go_simp
                           with_reducible rfl
                          rotate_left
                          ·simp only [Act.put, List.setIfInBounds_toArray, List.set_cons_zero, List.set_cons_succ, i64_w, i32_w]
                           rfl
                          refine pure_ (i := 58) (N := some 153) (v := ?_) (a' := ?_) #[true, true, true, true, true, true, true, true, true, true, true, true, true, true, true, true, true, true, true, true, true, true, true, true, true, true, true, true, true, true, true, true, true, true, true, true, true, true, true, true, true, true, true, true, true, true, true, true, true, true, true, true, true, true, true, false, true, false, true, false, false, false, false] rfl rfl (any_of HT_.out (by kernel_rfl)) (fun _ _ _ h => h) (Or.inl ⟨by rfl, ?_⟩) ?_ ?_
                          rotate_left
                          ·intro w'
                           go_simp
                           with_reducible rfl
                          rotate_left
                          ·simp only [Act.put, List.setIfInBounds_toArray, List.set_cons_zero, List.set_cons_succ, i64_w, i32_w]
                           rfl
                          refine pure_ (i := 59) (N := some 154) (v := ?_) (a' := ?_) #[true, true, true, true, true, true, true, true, true, true, true, true, true, true, true, true, true, true, true, true, true, true, true, true, true, true, true, true, true, true, true, true, true, true, true, true, true, true, true, true, true, true, true, true, true, true, true, true, true, true, true, true, true, true, true, false, true, false, true, true, false, false, false] rfl rfl (any_of HT_.out (by kernel_rfl)) (fun _ _ _ h => h) (Or.inl ⟨by rfl, ?_⟩) ?_ ?_
                          rotate_left
                          ·intro w'
                           go_simp
                           with_reducible rfl
                          rotate_left
                          ·simp only [Act.put, List.setIfInBounds_toArray, List.set_cons_zero, List.set_cons_succ, i64_w, i32_w]
                           rfl
                          refine pure_ (i := 60) (N := some 155) (v := ?_) (a' := ?_) #[true, true, true, true, true, true, true, true, true, true, true, true, true, true, true, true, true, true, true, true, true, true, true, true, true, true, true, true, true, true, true, true, true, true, true, true, true, true, true, true, true, true, true, true, true, true, true, true, true, true, true, true, true, true, true, false, true, false, true, true, true, false, false] rfl rfl (any_of HT_.out (by kernel_rfl)) (fun _ _ _ h => h) (Or.inl ⟨by rfl, ?_⟩) ?_ ?_
                          rotate_left
                          ·intro w'
                           go_simp
                           with_reducible rfl
                          rotate_left
                          ·simp only [Act.put, List.setIfInBounds_toArray, List.set_cons_zero, List.set_cons_succ, i64_w, i32_w]
                           rfl
                          refine take_ (i := 55) (N := some 150) (v := ?_) (a' := ?_) #[true, true, true, true, true, true, true, true, true, true, true, true, true, true, true, true, true, true, true, true, true, true, true, true, true, true, true, true, true, true, true, true, true, true, true, true, true, true, true, true, true, true, true, true, true, true, true, true, true, true, true, true, true, true, true, true, true, false, true, true, true, false, false] rfl rfl (take_ofW HT_.out HW_.out (by kernel_rfl)) (fun _ _ _ h => h) (Or.inl ⟨by rfl, ?_⟩) hHeld ?_ ?_
                          rotate_left
                          ·rintro w' ⟨s0, s1, s2, s3, s4⟩
                           go_simp
                           with_reducible rfl
                          rotate_left
                          ·simp only [Act.put, List.setIfInBounds_toArray, List.set_cons_zero, List.set_cons_succ, i64_w, i32_w]
                           rfl
                          refine one_ (i := 57) (N := some 152) (bs 61 2) rfl rfl (one_of HT_.out (by kernel_rfl)) (by decide) (fun K hK => ?_)
                          refine goes_ Try.func19 (by kernel_rfl) rfl #[.int .i64 a0, .int .i64 (rd t154 x12_1), .int .i64 a1] (by rfl) rfl rfl (by (try simp only [List.map_toArray, List.map_cons, List.map_nil]); first | done | rfl | (simp only [List.length_drop, List.length_take]; rfl)) ?_
                          with_reducible refine (tree_On.calls k1 a0 (rd t154 x12_1) a1 t174 _ A69.out).mono ?_
                          rintro e w73 ⟨rfl, hb⟩
                          have HS0_ := (hb.cell (World.block_lt_of_cell? _ _ (hHeld.1))).trans (hHeld.1)
                          have HS1_ := (hb.cell (World.block_lt_of_cell? _ _ (hHeld.2.1))).trans (hHeld.2.1)
                          have HS2_ := (hb.cell (World.block_lt_of_cell? _ _ (hHeld.2.2.1))).trans (hHeld.2.2.1)
                          have HS3_ := (hb.cell (World.block_lt_of_cell? _ _ (hHeld.2.2.2.1))).trans (hHeld.2.2.2.1)
                          have HS4_ := (hb.cell (World.block_lt_of_cell? _ _ (hHeld.2.2.2.2))).trans (hHeld.2.2.2.2)
                          refine ⟨_, rfl, ?_⟩
                          have n0_ := Aside0.mk (Kd.R_below (by (with_reducible repeat (first | apply Kd.R_alloc | apply Kd.R_drewN | apply Kd.R_drew)); exact HO_9.out) hb)
                          have n1_ := Aside0.mk (Kd.R_below (by (with_reducible repeat (first | apply Kd.R_alloc | apply Kd.R_drewN | apply Kd.R_drew)); exact HO_10.out) hb)
                          have n2_ := Aside0.mk (below_step (by repeat (first | (with_reducible first | exact HB.out | apply below_alloc | apply pw_below_drewN | apply below_drew1) | exact HB.out)) hb)
                          clear HO_9
                          clear HO_10
                          clear HB
                          have HO_9 := n0_
                          have HO_10 := n1_
                          have HB := n2_
                          clear n0_ n1_ n2_
                          (try clear hb)
                          (try clear hb2)
                          (try clear hk)
                          (try clear hi)
                          refine hK.out _ _ ⟨HS0_, HS1_, HS2_, HS3_, HS4_⟩ (fun hHeld => ?_)
                          clear hK K
                          refine norm_ (a' := ?_) ?_ ?_
                          rotate_left
                          ·show Act.put _ (some 152) _ = _
                           simp only [Act.put, List.setIfInBounds_toArray, List.set_cons_zero, List.set_cons_succ, i64_w, i32_w]
                           rfl
                          refine pure_ (i := 61) (N := some 156) (v := ?_) (a' := ?_) (bs 62 1) rfl rfl (any_of HT_.out (by kernel_rfl)) (fun _ _ _ h => h) (Or.inl ⟨by rfl, ?_⟩) ?_ ?_
                          rotate_left
                          ·intro w'
                           go_simp
                           with_reducible rfl
                          rotate_left
                          ·simp only [Act.put, List.setIfInBounds_toArray, List.set_cons_zero, List.set_cons_succ, i64_w, i32_w]
                           rfl
                          refine pure_ (i := 62) (N := some 157) (v := ?_) (a' := ?_) (bs 63 0) rfl rfl (any_of HT_.out (by kernel_rfl)) (fun _ _ _ h => h) (Or.inl ⟨by rfl, ?_⟩) ?_ ?_
                          rotate_left
                          ·intro w'
                           go_simp
                           with_reducible rfl
                          rotate_left
                          ·simp only [Act.put, List.setIfInBounds_toArray, List.set_cons_zero, List.set_cons_succ, i64_w, i32_w]
                           rfl
                          refine done_ (done_of HT_.out (by kernel_rfl)) ?_
                          try go_wp2
                          go_roundg k1
                          case measure => have := HK1.out; omega
                          case rel => exact ⟨(wrap64 (x12_1 + 1)), (by first | rfl | (simp; done) | (simp [*]; done)), H', ⟨by have := HK1.out; omega⟩, ⟨by (with_reducible repeat (first | apply Kd.R_alloc | apply Kd.R_drewN | apply Kd.R_drew)); exact HO_9.out⟩, ⟨by (with_reducible repeat (first | apply Kd.R_alloc | apply Kd.R_drewN | apply Kd.R_drew)); exact HO_10.out⟩, ⟨by repeat (first | (with_reducible first | exact HB.out | apply below_alloc | apply pw_below_drewN | apply below_drew1) | exact HB.out)⟩⟩
                        ·replace c68 := Bool.eq_false_iff.mpr c68
                         subst c68
                         have H1 : (some false) = some r := by rw [if_neg (show ¬ (false = true) by decide)] at H; exact H
                         clear H
                         have H := H1
                         clear H1
                         exact absurd (Option.some.inj H) (by rw [HT.out]; decide)
                      ·rw [if_neg c54] at H
                       have c54b0 : (t164 == x12_1) = false := beq_eq_false_iff_ne.mpr c54
                       have c54b1 : (t164 != x12_1) = true := bne_iff_ne.mpr c54
                       exact absurd (Option.some.inj H) (by rw [HT.out]; decide)
                    ·rw [if_neg c51] at H
                     exact absurd H (by simp)
                   ·rw [if_neg c50] at H
                    exact absurd H (by simp)
                  ·rw [if_neg c49] at H
                   exact absurd H (by simp)
                 ·rw [if_neg c48] at H
                  have c48b0 : decide (x12_1 ≤ a0) = false := decide_eq_false c48
                  clear c48
                  replace H := Option.bind_eq_some_iff.mp H
                  obtain ⟨t175, A740, H⟩ := H
                  replace H : (if 0 ≤ t175 then (if (t175 : Int).toNat ≤ 281474976710656 then (oublaw7_TreePaths.l1 k1 a0 a1 a2 l3 t160 (List.replicate (t175 : Int).toNat false) 0) else (none)) else (none)) = some r := H
                  have A74 := Aside0.mk A740
                  clear A740
                  by_cases c75 : 0 ≤ t175
                  ·rw [if_pos c75] at H
                   have c75b0 := eq_true c75
                   have c75b1 : decide (0 ≤ t175) = true := decide_eq_true c75
                   clear c75
                   by_cases c76 : (t175 : Int).toNat ≤ 281474976710656
                   ·rw [if_pos c76] at H
                    have c76b0 := eq_true c76
                    have c76b1 : decide ((t175 : Int).toNat ≤ 281474976710656) = true := decide_eq_true c76
                    clear c76
                    obtain ⟨y176, hy176⟩ : ∃ y_ : List Bool, y_ = (List.replicate (t175 : Int).toNat false) := ⟨_, rfl⟩
                    replace H : (oublaw7_TreePaths.l1 k1 a0 a1 a2 l3 t160 y176 0) = some r := by first | (rw [hy176]; with_reducible exact H) | (have H2_ := (Option.bind_some _ _).symm.trans H; rw [hy176]; with_reducible exact H2_) | (have H2_ := (Option.bind_some _ _).symm.trans H; with_reducible exact H2_) | with_reducible exact H | (rw [hy176]; exact H) | exact H
                    have Ny176 := Aside0.mk hy176
                    clear hy176
                    have H' := Aside0.mk H
                    clear H
                    go_wp2_with (first | ((with_reducible refine gate_callee (f := 11) rfl ?_); refine goesL_ (some 159) rfl rfl Try.func11 (by kernel_rfl) rfl #[.int .i64 a0] rfl (by (try simp only [List.map_toArray, List.map_cons, List.map_nil]); first | done | rfl | (simp only [List.length_drop, List.length_take]; rfl)) ?_; (with_reducible refine (tree_Buckets.calls a0 t175 _ A74.out).mono ?_); rintro e w77 ⟨rfl, hb⟩; refine ⟨_, rfl, ?_⟩; have n0_ := Aside0.mk (Kd.R_below (by (with_reducible repeat (first | apply Kd.R_alloc | apply Kd.R_drewN | apply Kd.R_drew)); exact HO_9.out) hb); have n1_ := Aside0.mk (Kd.R_below (by (with_reducible repeat (first | apply Kd.R_alloc | apply Kd.R_drewN | apply Kd.R_drew)); exact HO_10.out) hb); have n2_ := Aside0.mk (below_step (by repeat (first | (with_reducible first | exact HB.out | apply below_alloc | apply pw_below_drewN | apply below_drew1) | exact HB.out)) hb); clear HO_9; clear HO_10; clear HB; have HO_9 := n0_; have HO_10 := n1_; have HB := n2_; clear n0_ n1_ n2_; (try clear hb); (try clear hb2); (try clear hk); (try clear hi)) | ((with_reducible refine gate_dst (N := 160) rfl ?_); (try (refine gate_guard (by rfl) ?_; dsimp only)); refine Kd.R_make Kd.bool _ 4 rfl (N := 160) rfl 36 _ _ rfl t175 rfl rfl Try.underlying36 (.bool false) 1 info4 rfl (by decide) (by omega) false (ok := fun _ => True) (okp := fun _ => True) rfl (fun _ hk => hk) trivial (of_decide_eq_true (by first | (with_reducible assumption) | assumption)) (Nat.le_trans (Nat.mul_le_mul_right _ (of_decide_eq_true (by first | (with_reducible assumption) | assumption) : t175.toNat ≤ 281474976710656)) (by omega)) (Below.refl _ _) (Nat.le_refl _) ?_; intro v177 w78 ho79 hb hg_ hnew_; clear hg_ hnew_; (first | rw [← Ny176.out] at ho79 | (simp only [Int.reduceToNat] at ho79; rw [← Ny176.out] at ho79)); have n0_ := Aside0.mk (Kd.R_below (by (with_reducible repeat (first | apply Kd.R_alloc | apply Kd.R_drewN | apply Kd.R_drew)); exact HO_9.out) hb); have n1_ := Aside0.mk (Kd.R_below (by (with_reducible repeat (first | apply Kd.R_alloc | apply Kd.R_drewN | apply Kd.R_drew)); exact HO_10.out) hb); have n2_ := Aside0.mk (Kd.R_lower ho79 (below_size (by repeat (first | (with_reducible first | exact HB.out | apply below_alloc | apply pw_below_drewN | apply below_drew1) | exact HB.out)))); have n3_ := Aside0.mk (below_step (by repeat (first | (with_reducible first | exact HB.out | apply below_alloc | apply pw_below_drewN | apply below_drew1) | exact HB.out)) hb); clear HO_9; clear HO_10; clear HB; have HO_9 := n0_; have HO_10 := n1_; have HO178 := n2_; have HB := n3_; clear n0_ n1_ n2_ n3_; clear hb ho79))
                    go_loopg [14] k1 (fun kq v14 w' => ∃ (x13_2 : List Bool) (x14_2 : Int), v14 = .int .i64 x14_2 ∧ Aside0 (oublaw7_TreePaths.l1 kq a0 a1 a2 l3 t160 x13_2 x14_2 = some r) ∧ Aside0 (kq ≤ k1) ∧ Aside0 (Kd.R Kd.bool 4 w' w.heap.size (fun _ => True) v177 x13_2) ∧ Aside0 (Below w.heap.size w w'))
                    case atStart => exact ⟨(y176), (0), (by first | rfl | (simp; done) | (simp [*]; done)), H', ⟨Nat.le_refl _⟩, ⟨by (with_reducible repeat (first | apply Kd.R_alloc | apply Kd.R_drewN | apply Kd.R_drew)); exact HO178.out⟩, ⟨by repeat (first | (with_reducible first | exact HB.out | apply below_alloc | apply pw_below_drewN | apply below_drew1) | exact HB.out)⟩⟩
                    case round =>
                     clear H'
                     try clear c1
                     try clear p1
                     try clear q1
                     try clear hx1
                     try clear p2
                     try clear c4
                     try clear c5
                     try clear c6
                     try clear p6
                     try clear c7
                     try clear c11
                     try clear p16
                     try clear q16
                     try clear hx16
                     try clear c17
                     try clear p17
                     try clear q17
                     try clear hx17
                     try clear c19
                     try clear c48
                     try clear c48b0
                     try clear c49
                     try clear c50
                     try clear c51
                     try clear c54
                     try clear c54b0
                     try clear c54b1
                     try clear p64
                     try clear c68
                     try clear c75
                     try clear c75b0
                     try clear c75b1
                     try clear c76
                     try clear c76b0
                     try clear c76b1
                     try clear hx161_0
                     try clear hx162_0
                     try clear hx163_0
                     try clear hx171_0
                     try clear hx173_0
                     try clear p161
                     try clear p162
                     try clear p163
                     try clear p171
                     try clear p173
                     try clear q161
                     try clear q162
                     try clear q163
                     try clear q171
                     try clear q173
                     obtain ⟨x13_2, x14_2, rfl, HA, HK2, HO_13, HB⟩ := hrel
                     cases gk with
                     | zero => exact absurd HA.out (by simp [oublaw7_TreePaths.l1])
                     | succ k2 =>
                      have H := HA.out
                      clear HA
                      simp only [oublaw7_TreePaths.l1] at H
                      by_cases c80 : x14_2 < (l3.length : Int)
                      ·rw [if_pos c80] at H
                       have c80b0 : decide (x14_2 < (l3.length : Int)) = true := decide_eq_true c80
                       clear c80
                       by_cases c81 : 0 ≤ x14_2
                       ·rw [if_pos c81] at H
                        have c81b0 : decide (0 ≤ x14_2) = true := decide_eq_true c81
                        clear c81
                        by_cases c82 : (rd l3 x14_2) < 0
                        ·rw [if_pos c82] at H
                         have c82b0 : decide ((rd l3 x14_2) < 0) = true := decide_eq_true c82
                         clear c82
                         replace H := Option.bind_eq_some_iff.mp H
                         obtain ⟨t180, A830, H⟩ := H
                         replace H : (some t180) = some r := H
                         have A83 := Aside0.mk A830
                         clear A830
                         obtain rfl := Option.some.inj H
                         try go_wp2
                         have n0_ := Aside0.mk (Kd.R_drew HO_13.out)
                         have n1_ := Aside0.mk (below_drew1 HB.out)
                         clear HO_13
                         clear HB
                         have HO_13 := n0_
                         have HB := n1_
                         clear n0_ n1_
                         have p179 : 0 ≤ (x14_2 : Int) := of_decide_eq_true (by first | (with_reducible assumption) | assumption)
                         have q179 : x14_2 < (l3.length : Int) := of_decide_eq_true (by first | (with_reducible assumption) | assumption)
                         obtain ⟨ad179, e179, hx179_0⟩ := Kd.at_int HR3.out x14_2 p179 q179
                         have hw179_0 := hx179_0
                         cases e179
                         replace hx179_0 := (HB.out.cell (World.block_lt_of_cell? w _ hx179_0)).trans hx179_0
                         replace p179 := eq_true p179
                         replace q179 := eq_true q179
                         refine start_ (n := 14) (S := fun w' => w'.cell? (ad179.add (x14_2).toNat) = some (.int .i64 (rd l3 x14_2))) (ds := []) #[false, false, false, false, false, false, false, false, false, false, false, false, false, false] (by kernel_rfl) rfl rfl (((HB.out.cell (World.block_lt_of_cell? w _ hw179_0)).trans hw179_0)) (fun hHeld => ?_); refine with_tabW oublaw7_TreePaths.tab18 oublaw7_TreePaths.bits18 (fun HT_ HW_ => ?_)
                         generalize wr.drew = w84 at HO_13 HB hx179_0 hHeld ⊢
                         refine pure_ (i := 0) (N := some 167) (v := ?_) (a' := ?_) (bs 1 13) rfl rfl (any_of HT_.out (by kernel_rfl)) (fun _ _ _ h => h) (Or.inl ⟨by rfl, ?_⟩) ?_ ?_
                         rotate_left
                         ·intro w'
                          go_simp
                          with_reducible rfl
                         rotate_left
                         ·simp only [Act.put, List.setIfInBounds_toArray, List.set_cons_zero, List.set_cons_succ, i64_w, i32_w]
                          rfl
                         refine pure_ (i := 1) (N := some 168) (v := ?_) (a' := ?_) (bs 2 12) rfl rfl (any_of HT_.out (by kernel_rfl)) (fun _ _ _ h => h) (Or.inl ⟨by rfl, ?_⟩) ?_ ?_
                         rotate_left
                         ·intro w'
                          go_simp
                          with_reducible rfl
                         rotate_left
                         ·simp only [Act.put, List.setIfInBounds_toArray, List.set_cons_zero, List.set_cons_succ, i64_w, i32_w]
                          rfl
                         refine pure_ (i := 2) (N := some 169) (v := ?_) (a' := ?_) (bs 3 11) rfl rfl (any_of HT_.out (by kernel_rfl)) (fun _ _ _ h => h) (Or.inl ⟨by rfl, ?_⟩) ?_ ?_
                         rotate_left
                         ·intro w'
                          go_simp
                          with_reducible rfl
                         rotate_left
                         ·simp only [Act.put, List.setIfInBounds_toArray, List.set_cons_zero, List.set_cons_succ, i64_w, i32_w]
                          rfl
                         refine take_ (i := 3) (N := some 170) (v := ?_) (a' := ?_) (bs 4 10) rfl rfl (take_ofW HT_.out HW_.out (by kernel_rfl)) (fun _ _ _ h => h) (Or.inl ⟨by rfl, ?_⟩) hHeld ?_ ?_
                         rotate_left
                         ·intro w' s0
                          go_simp
                          with_reducible rfl
                         rotate_left
                         ·simp only [Act.put, List.setIfInBounds_toArray, List.set_cons_zero, List.set_cons_succ, i64_w, i32_w]
                          rfl
                         refine pure_ (i := 4) (N := some 171) (v := ?_) (a' := ?_) (bs 5 9) rfl rfl (any_of HT_.out (by kernel_rfl)) (fun _ _ _ h => h) (Or.inl ⟨by rfl, ?_⟩) ?_ ?_
                         rotate_left
                         ·intro w'
                          go_simp
                          with_reducible rfl
                         rotate_left
                         ·simp only [Act.put, List.setIfInBounds_toArray, List.set_cons_zero, List.set_cons_succ, i64_w, i32_w]
                          rfl
                         refine pure_ (i := 5) (N := some 172) (v := ?_) (a' := ?_) (bs 6 8) rfl rfl (any_of HT_.out (by kernel_rfl)) (fun _ _ _ h => h) (Or.inl ⟨by rfl, ?_⟩) ?_ ?_
                         rotate_left
                         ·intro w'
                          go_simp
                          with_reducible rfl
                         rotate_left
                         ·simp only [Act.put, List.setIfInBounds_toArray, List.set_cons_zero, List.set_cons_succ, i64_w, i32_w]
                          rfl
                         refine pure_ (i := 6) (N := some 173) (v := undef) (a' := ?_) (bs 7 7) rfl rfl (any_of HT_.out (by kernel_rfl)) (fun _ _ _ h => h) (Or.inr ⟨by rfl, rfl⟩) ?_ ?_
                         rotate_left
                         ·simp only [Act.put, List.setIfInBounds_toArray, List.set_cons_zero, List.set_cons_succ, i64_w, i32_w]
                          rfl
                         refine pure_ (i := 7) (N := some 174) (v := undef) (a' := ?_) (bs 8 6) rfl rfl (any_of HT_.out (by kernel_rfl)) (fun _ _ _ h => h) (Or.inr ⟨by rfl, rfl⟩) ?_ ?_
                         rotate_left
                         ·simp only [Act.put, List.setIfInBounds_toArray, List.set_cons_zero, List.set_cons_succ, i64_w, i32_w]
                          rfl
                         refine pure_ (i := 8) (N := some 175) (v := undef) (a' := ?_) (bs 9 5) rfl rfl (any_of HT_.out (by kernel_rfl)) (fun _ _ _ h => h) (Or.inr ⟨by rfl, rfl⟩) ?_ ?_
                         rotate_left
                         ·simp only [Act.put, List.setIfInBounds_toArray, List.set_cons_zero, List.set_cons_succ, i64_w, i32_w]
                          rfl
                         refine pure_ (i := 9) (N := some 176) (v := undef) (a' := ?_) (bs 10 4) rfl rfl (any_of HT_.out (by kernel_rfl)) (fun _ _ _ h => h) (Or.inr ⟨by rfl, rfl⟩) ?_ ?_
                         rotate_left
                         ·simp only [Act.put, List.setIfInBounds_toArray, List.set_cons_zero, List.set_cons_succ, i64_w, i32_w]
                          rfl
                         refine pure_ (i := 10) (N := some 177) (v := undef) (a' := ?_) (bs 11 3) rfl rfl (any_of HT_.out (by kernel_rfl)) (fun _ _ _ h => h) (Or.inr ⟨by rfl, rfl⟩) ?_ ?_
                         rotate_left
                         ·simp only [Act.put, List.setIfInBounds_toArray, List.set_cons_zero, List.set_cons_succ, i64_w, i32_w]
                          rfl
                         refine pure_ (i := 11) (N := some 178) (v := undef) (a' := ?_) (bs 12 2) rfl rfl (any_of HT_.out (by kernel_rfl)) (fun _ _ _ h => h) (Or.inr ⟨by rfl, rfl⟩) ?_ ?_
                         rotate_left
                         ·simp only [Act.put, List.setIfInBounds_toArray, List.set_cons_zero, List.set_cons_succ, i64_w, i32_w]
                          rfl
                         refine pure_ (i := 12) (N := some 179) (v := undef) (a' := ?_) (bs 13 1) rfl rfl (any_of HT_.out (by kernel_rfl)) (fun _ _ _ h => h) (Or.inr ⟨by rfl, rfl⟩) ?_ ?_
                         rotate_left
                         ·simp only [Act.put, List.setIfInBounds_toArray, List.set_cons_zero, List.set_cons_succ, i64_w, i32_w]
                          rfl
                         refine pure_ (i := 13) (N := some 180) (v := ?_) (a' := ?_) (bs 14 0) rfl rfl (any_of HT_.out (by kernel_rfl)) (fun _ _ _ h => h) (Or.inl ⟨by rfl, ?_⟩) ?_ ?_
                         rotate_left
                         ·intro w'
                          go_simp
                          with_reducible rfl
                         rotate_left
                         ·simp only [Act.put, List.setIfInBounds_toArray, List.set_cons_zero, List.set_cons_succ, i64_w, i32_w]
                          rfl
                         refine done_ (done_of HT_.out (by kernel_rfl)) ?_
                         try go_wp2_with (first | ((with_reducible refine gate_callee (f := 8) rfl ?_); refine goesL_ (some 181) rfl rfl Try.func8 (by kernel_rfl) rfl #[] rfl (by (try simp only [List.map_toArray, List.map_cons, List.map_nil]); first | done | rfl | (simp only [List.length_drop, List.length_take]; rfl)) ?_; (with_reducible refine (oublaw7_first.calls k2  t180 _ A83.out).mono ?_); rintro e w85 ⟨rfl, hb⟩; refine ⟨_, rfl, ?_⟩; have n0_ := Aside0.mk (Kd.R_below (by (with_reducible repeat (first | apply Kd.R_alloc | apply Kd.R_drewN | apply Kd.R_drew)); exact HO_13.out) hb); have n1_ := Aside0.mk (below_step (by repeat (first | (with_reducible first | exact HB.out | apply below_alloc | apply pw_below_drewN | apply below_drew1) | exact HB.out)) hb); clear HO_13; clear HB; have HO_13 := n0_; have HB := n1_; clear n0_ n1_; (try clear hb); (try clear hb2); (try clear hk); (try clear hi)))
                         go_ret
                         exact ⟨by first | rfl | (simp [errW_none, errW_some] <;> rfl) | (simp [*, errW_none, errW_some] <;> rfl), by repeat (first | (with_reducible first | exact HB.out | apply below_alloc | apply pw_below_drewN | apply below_drew1) | exact HB.out)⟩
                        ·rw [if_neg c82] at H
                         have c82b0 : decide ((rd l3 x14_2) < 0) = false := decide_eq_false c82
                         clear c82
                         replace H := Option.bind_eq_some_iff.mp H
                         obtain ⟨t182, A860, H⟩ := H
                         replace H : (if (rd l3 x14_2) ≥ t182 then ((oublaw7_first.f k2).bind fun t183 => (some t183)) else ((tree_Path.f k2 a0 (rd l3 x14_2)).bind fun t185 => (oublaw7_TreePaths.l2 k2 a0 a1 a2 l3 t160 x13_2 x14_2 t185 0))) = some r := H
                         have A86 := Aside0.mk A860
                         clear A860
                         by_cases c87 : (rd l3 x14_2) ≥ t182
                         ·rw [if_pos c87] at H
                          have c87b0 : decide (t182 ≤ (rd l3 x14_2)) = true := decide_eq_true c87
                          clear c87
                          replace H := Option.bind_eq_some_iff.mp H
                          obtain ⟨t183, A880, H⟩ := H
                          replace H : (some t183) = some r := H
                          have A88 := Aside0.mk A880
                          clear A880
                          obtain rfl := Option.some.inj H
                          try go_wp2
                          have n0_ := Aside0.mk (Kd.R_drew HO_13.out)
                          have n1_ := Aside0.mk (below_drew1 HB.out)
                          clear HO_13
                          clear HB
                          have HO_13 := n0_
                          have HB := n1_
                          clear n0_ n1_
                          have p179 : 0 ≤ (x14_2 : Int) := of_decide_eq_true (by first | (with_reducible assumption) | assumption)
                          have q179 : x14_2 < (l3.length : Int) := of_decide_eq_true (by first | (with_reducible assumption) | assumption)
                          obtain ⟨ad179, e179, hx179_0⟩ := Kd.at_int HR3.out x14_2 p179 q179
                          have hw179_0 := hx179_0
                          cases e179
                          replace hx179_0 := (HB.out.cell (World.block_lt_of_cell? w _ hx179_0)).trans hx179_0
                          replace p179 := eq_true p179
                          replace q179 := eq_true q179
                          have p181 : 0 ≤ (x14_2 : Int) := of_decide_eq_true (by first | (with_reducible assumption) | assumption)
                          have q181 : x14_2 < (l3.length : Int) := of_decide_eq_true (by first | (with_reducible assumption) | assumption)
                          obtain ⟨ad181, e181, hx181_0⟩ := Kd.at_int HR3.out x14_2 p181 q181
                          have hw181_0 := hx181_0
                          obtain rfl : ad179 = ad181 := (by injection e181)
                          replace hx181_0 := (HB.out.cell (World.block_lt_of_cell? w _ hx181_0)).trans hx181_0
                          replace p181 := eq_true p181
                          replace q181 := eq_true q181
                          refine start_ (n := 14) (S := fun w' => w'.cell? (ad179.add (x14_2).toNat) = some (.int .i64 (rd l3 x14_2)) ∧ w'.cell? (ad179.add (x14_2).toNat) = some (.int .i64 (rd l3 x14_2))) (ds := []) #[false, false, false, false, false, false, false, false, false, false, false, false, false, false] (by kernel_rfl) rfl rfl ⟨((HB.out.cell (World.block_lt_of_cell? w _ hw179_0)).trans hw179_0), ((HB.out.cell (World.block_lt_of_cell? w _ hw181_0)).trans hw181_0)⟩ (fun hHeld => ?_); refine with_tabW oublaw7_TreePaths.tab18 oublaw7_TreePaths.bits18 (fun HT_ HW_ => ?_)
                          generalize wr.drew = w89 at HO_13 HB hx179_0 hx181_0 hHeld ⊢
                          refine pure_ (i := 0) (N := some 167) (v := ?_) (a' := ?_) (bs 1 13) rfl rfl (any_of HT_.out (by kernel_rfl)) (fun _ _ _ h => h) (Or.inl ⟨by rfl, ?_⟩) ?_ ?_
                          rotate_left
                          ·intro w'
                           go_simp
                           with_reducible rfl
                          rotate_left
                          ·simp only [Act.put, List.setIfInBounds_toArray, List.set_cons_zero, List.set_cons_succ, i64_w, i32_w]
                           rfl
                          refine pure_ (i := 1) (N := some 168) (v := ?_) (a' := ?_) (bs 2 12) rfl rfl (any_of HT_.out (by kernel_rfl)) (fun _ _ _ h => h) (Or.inl ⟨by rfl, ?_⟩) ?_ ?_
                          rotate_left
                          ·intro w'
                           go_simp
                           with_reducible rfl
                          rotate_left
                          ·simp only [Act.put, List.setIfInBounds_toArray, List.set_cons_zero, List.set_cons_succ, i64_w, i32_w]
                           rfl
                          refine pure_ (i := 2) (N := some 169) (v := ?_) (a' := ?_) (bs 3 11) rfl rfl (any_of HT_.out (by kernel_rfl)) (fun _ _ _ h => h) (Or.inl ⟨by rfl, ?_⟩) ?_ ?_
                          rotate_left
                          ·intro w'
                           go_simp
                           with_reducible rfl
                          rotate_left
                          ·simp only [Act.put, List.setIfInBounds_toArray, List.set_cons_zero, List.set_cons_succ, i64_w, i32_w]
                           rfl
                          refine take_ (i := 3) (N := some 170) (v := ?_) (a' := ?_) (bs 4 10) rfl rfl (take_ofW HT_.out HW_.out (by kernel_rfl)) (fun _ _ _ h => h) (Or.inl ⟨by rfl, ?_⟩) hHeld ?_ ?_
                          rotate_left
                          ·rintro w' ⟨s0, s1⟩
                           go_simp
                           with_reducible rfl
                          rotate_left
                          ·simp only [Act.put, List.setIfInBounds_toArray, List.set_cons_zero, List.set_cons_succ, i64_w, i32_w]
                           rfl
                          refine pure_ (i := 4) (N := some 171) (v := ?_) (a' := ?_) (bs 5 9) rfl rfl (any_of HT_.out (by kernel_rfl)) (fun _ _ _ h => h) (Or.inl ⟨by rfl, ?_⟩) ?_ ?_
                          rotate_left
                          ·intro w'
                           go_simp
                           with_reducible rfl
                          rotate_left
                          ·simp only [Act.put, List.setIfInBounds_toArray, List.set_cons_zero, List.set_cons_succ, i64_w, i32_w]
                           rfl
                          refine pure_ (i := 5) (N := some 172) (v := ?_) (a' := ?_) (bs 6 8) rfl rfl (any_of HT_.out (by kernel_rfl)) (fun _ _ _ h => h) (Or.inl ⟨by rfl, ?_⟩) ?_ ?_
                          rotate_left
                          ·intro w'
                           go_simp
                           with_reducible rfl
                          rotate_left
                          ·simp only [Act.put, List.setIfInBounds_toArray, List.set_cons_zero, List.set_cons_succ, i64_w, i32_w]
                           rfl
                          refine pure_ (i := 6) (N := some 173) (v := ?_) (a' := ?_) (bs 7 7) rfl rfl (any_of HT_.out (by kernel_rfl)) (fun _ _ _ h => h) (Or.inl ⟨by rfl, ?_⟩) ?_ ?_
                          rotate_left
                          ·intro w'
                           go_simp
                           with_reducible rfl
                          rotate_left
                          ·simp only [Act.put, List.setIfInBounds_toArray, List.set_cons_zero, List.set_cons_succ, i64_w, i32_w]
                           rfl
                          refine pure_ (i := 7) (N := some 174) (v := ?_) (a' := ?_) (bs 8 6) rfl rfl (any_of HT_.out (by kernel_rfl)) (fun _ _ _ h => h) (Or.inl ⟨by rfl, ?_⟩) ?_ ?_
                          rotate_left
                          ·intro w'
                           go_simp
                           with_reducible rfl
                          rotate_left
                          ·simp only [Act.put, List.setIfInBounds_toArray, List.set_cons_zero, List.set_cons_succ, i64_w, i32_w]
                           rfl
                          refine pure_ (i := 8) (N := some 175) (v := ?_) (a' := ?_) (bs 9 5) rfl rfl (any_of HT_.out (by kernel_rfl)) (fun _ _ _ h => h) (Or.inl ⟨by rfl, ?_⟩) ?_ ?_
                          rotate_left
                          ·intro w'
                           go_simp
                           with_reducible rfl
                          rotate_left
                          ·simp only [Act.put, List.setIfInBounds_toArray, List.set_cons_zero, List.set_cons_succ, i64_w, i32_w]
                           rfl
                          refine pure_ (i := 10) (N := some 177) (v := ?_) (a' := ?_) #[true, true, true, true, true, true, true, true, true, false, true, false, false, false] rfl rfl (any_of HT_.out (by kernel_rfl)) (fun _ _ _ h => h) (Or.inl ⟨by rfl, ?_⟩) ?_ ?_
                          rotate_left
                          ·intro w'
                           go_simp
                           with_reducible rfl
                          rotate_left
                          ·simp only [Act.put, List.setIfInBounds_toArray, List.set_cons_zero, List.set_cons_succ, i64_w, i32_w]
                           rfl
                          refine take_ (i := 9) (N := some 176) (v := ?_) (a' := ?_) (bs 11 3) rfl rfl (take_ofW HT_.out HW_.out (by kernel_rfl)) (fun _ _ _ h => h) (Or.inl ⟨by rfl, ?_⟩) hHeld ?_ ?_
                          rotate_left
                          ·rintro w' ⟨s0, s1⟩
                           go_simp
                           with_reducible rfl
                          rotate_left
                          ·simp only [Act.put, List.setIfInBounds_toArray, List.set_cons_zero, List.set_cons_succ, i64_w, i32_w]
                           rfl
                          refine one_ (i := 11) (N := some 178) (bs 12 2) rfl rfl (one_of HT_.out (by kernel_rfl)) (by decide) (fun K hK => ?_)
                          refine goes_ Try.func13 (by kernel_rfl) rfl #[.int .i64 a0] (by rfl) rfl rfl (by (try simp only [List.map_toArray, List.map_cons, List.map_nil]); first | done | rfl | (simp only [List.length_drop, List.length_take]; rfl)) ?_
                          with_reducible refine (tree_Leaves.calls a0 t182 _ A86.out).mono ?_
                          rintro e w' ⟨rfl, ⟨nd, rfl⟩⟩
                          refine ⟨_, rfl, ?_⟩
                          refine hK.out _ _ ⟨((HB.out.cell (World.block_lt_of_cell? w _ hw179_0)).trans hw179_0), ((HB.out.cell (World.block_lt_of_cell? w _ hw181_0)).trans hw181_0)⟩ (fun hHeld => ?_)
                          clear hK K
                          refine norm_ (a' := ?_) ?_ ?_
                          rotate_left
                          ·show Act.put _ (some 178) _ = _
                           simp only [Act.put, List.setIfInBounds_toArray, List.set_cons_zero, List.set_cons_succ, i64_w, i32_w]
                           rfl
                          refine pure_ (i := 12) (N := some 179) (v := ?_) (a' := ?_) (bs 13 1) rfl rfl (any_of HT_.out (by kernel_rfl)) (fun _ _ _ h => h) (Or.inl ⟨by rfl, ?_⟩) ?_ ?_
                          rotate_left
                          ·intro w'
                           go_simp
                           with_reducible rfl
                          rotate_left
                          ·simp only [Act.put, List.setIfInBounds_toArray, List.set_cons_zero, List.set_cons_succ, i64_w, i32_w]
                           rfl
                          refine pure_ (i := 13) (N := some 180) (v := ?_) (a' := ?_) (bs 14 0) rfl rfl (any_of HT_.out (by kernel_rfl)) (fun _ _ _ h => h) (Or.inl ⟨by rfl, ?_⟩) ?_ ?_
                          rotate_left
                          ·intro w'
                           go_simp
                           with_reducible rfl
                          rotate_left
                          ·simp only [Act.put, List.setIfInBounds_toArray, List.set_cons_zero, List.set_cons_succ, i64_w, i32_w]
                           rfl
                          refine done_ (done_of HT_.out (by kernel_rfl)) ?_
                          try go_wp2_with (first | ((with_reducible refine gate_callee (f := 8) rfl ?_); refine goesL_ (some 181) rfl rfl Try.func8 (by kernel_rfl) rfl #[] rfl (by (try simp only [List.map_toArray, List.map_cons, List.map_nil]); first | done | rfl | (simp only [List.length_drop, List.length_take]; rfl)) ?_; (with_reducible refine (oublaw7_first.calls k2  t183 _ A88.out).mono ?_); rintro e w90 ⟨rfl, hb⟩; refine ⟨_, rfl, ?_⟩; have n0_ := Aside0.mk (Kd.R_below (by (with_reducible repeat (first | apply Kd.R_alloc | apply Kd.R_drewN | apply Kd.R_drew)); exact HO_13.out) hb); have n1_ := Aside0.mk (below_step (by repeat (first | (with_reducible first | exact HB.out | apply below_alloc | apply pw_below_drewN | apply below_drew1) | exact HB.out)) hb); clear HO_13; clear HB; have HO_13 := n0_; have HB := n1_; clear n0_ n1_; (try clear hb); (try clear hb2); (try clear hk); (try clear hi)))
                          go_ret
                          exact ⟨by first | rfl | (simp [errW_none, errW_some] <;> rfl) | (simp [*, errW_none, errW_some] <;> rfl), by repeat (first | (with_reducible first | exact HB.out | apply below_alloc | apply pw_below_drewN | apply below_drew1) | exact HB.out)⟩
                         ·rw [if_neg c87] at H
                          have c87b0 : decide (t182 ≤ (rd l3 x14_2)) = false := decide_eq_false c87
                          clear c87
                          replace H := Option.bind_eq_some_iff.mp H
                          obtain ⟨t185, A910, H⟩ := H
                          replace H : (oublaw7_TreePaths.l2 k2 a0 a1 a2 l3 t160 x13_2 x14_2 t185 0) = some r := H
                          have A91 := Aside0.mk A910
                          clear A910
                          have H' := Aside0.mk H
                          clear H
                          try go_wp2
                          have n0_ := Aside0.mk (Kd.R_drew HO_13.out)
                          have n1_ := Aside0.mk (below_drew1 HB.out)
                          clear HO_13
                          clear HB
                          have HO_13 := n0_
                          have HB := n1_
                          clear n0_ n1_
                          have p179 : 0 ≤ (x14_2 : Int) := of_decide_eq_true (by first | (with_reducible assumption) | assumption)
                          have q179 : x14_2 < (l3.length : Int) := of_decide_eq_true (by first | (with_reducible assumption) | assumption)
                          obtain ⟨ad179, e179, hx179_0⟩ := Kd.at_int HR3.out x14_2 p179 q179
                          have hw179_0 := hx179_0
                          cases e179
                          replace hx179_0 := (HB.out.cell (World.block_lt_of_cell? w _ hx179_0)).trans hx179_0
                          replace p179 := eq_true p179
                          replace q179 := eq_true q179
                          have p181 : 0 ≤ (x14_2 : Int) := of_decide_eq_true (by first | (with_reducible assumption) | assumption)
                          have q181 : x14_2 < (l3.length : Int) := of_decide_eq_true (by first | (with_reducible assumption) | assumption)
                          obtain ⟨ad181, e181, hx181_0⟩ := Kd.at_int HR3.out x14_2 p181 q181
                          have hw181_0 := hx181_0
                          obtain rfl : ad179 = ad181 := (by injection e181)
                          replace hx181_0 := (HB.out.cell (World.block_lt_of_cell? w _ hx181_0)).trans hx181_0
                          replace p181 := eq_true p181
                          replace q181 := eq_true q181
                          refine start_ (n := 14) (S := fun w' => w'.cell? (ad179.add (x14_2).toNat) = some (.int .i64 (rd l3 x14_2)) ∧ w'.cell? (ad179.add (x14_2).toNat) = some (.int .i64 (rd l3 x14_2))) (ds := []) #[false, false, false, false, false, false, false, false, false, false, false, false, false, false] (by kernel_rfl) rfl rfl ⟨((HB.out.cell (World.block_lt_of_cell? w _ hw179_0)).trans hw179_0), ((HB.out.cell (World.block_lt_of_cell? w _ hw181_0)).trans hw181_0)⟩ (fun hHeld => ?_); refine with_tabW oublaw7_TreePaths.tab18 oublaw7_TreePaths.bits18 (fun HT_ HW_ => ?_)
                          generalize wr.drew = w92 at HO_13 HB hx179_0 hx181_0 hHeld ⊢
                          refine pure_ (i := 0) (N := some 167) (v := ?_) (a' := ?_) (bs 1 13) rfl rfl (any_of HT_.out (by kernel_rfl)) (fun _ _ _ h => h) (Or.inl ⟨by rfl, ?_⟩) ?_ ?_
                          rotate_left
                          ·intro w'
                           go_simp
                           with_reducible rfl
                          rotate_left
                          ·simp only [Act.put, List.setIfInBounds_toArray, List.set_cons_zero, List.set_cons_succ, i64_w, i32_w]
                           rfl
                          refine pure_ (i := 1) (N := some 168) (v := ?_) (a' := ?_) (bs 2 12) rfl rfl (any_of HT_.out (by kernel_rfl)) (fun _ _ _ h => h) (Or.inl ⟨by rfl, ?_⟩) ?_ ?_
                          rotate_left
                          ·intro w'
                           go_simp
                           with_reducible rfl
                          rotate_left
                          ·simp only [Act.put, List.setIfInBounds_toArray, List.set_cons_zero, List.set_cons_succ, i64_w, i32_w]
                           rfl
                          refine pure_ (i := 2) (N := some 169) (v := ?_) (a' := ?_) (bs 3 11) rfl rfl (any_of HT_.out (by kernel_rfl)) (fun _ _ _ h => h) (Or.inl ⟨by rfl, ?_⟩) ?_ ?_
                          rotate_left
                          ·intro w'
                           go_simp
                           with_reducible rfl
                          rotate_left
                          ·simp only [Act.put, List.setIfInBounds_toArray, List.set_cons_zero, List.set_cons_succ, i64_w, i32_w]
                           rfl
                          refine take_ (i := 3) (N := some 170) (v := ?_) (a' := ?_) (bs 4 10) rfl rfl (take_ofW HT_.out HW_.out (by kernel_rfl)) (fun _ _ _ h => h) (Or.inl ⟨by rfl, ?_⟩) hHeld ?_ ?_
                          rotate_left
                          ·rintro w' ⟨s0, s1⟩
                           go_simp
                           with_reducible rfl
                          rotate_left
                          ·simp only [Act.put, List.setIfInBounds_toArray, List.set_cons_zero, List.set_cons_succ, i64_w, i32_w]
                           rfl
                          refine pure_ (i := 4) (N := some 171) (v := ?_) (a' := ?_) (bs 5 9) rfl rfl (any_of HT_.out (by kernel_rfl)) (fun _ _ _ h => h) (Or.inl ⟨by rfl, ?_⟩) ?_ ?_
                          rotate_left
                          ·intro w'
                           go_simp
                           with_reducible rfl
                          rotate_left
                          ·simp only [Act.put, List.setIfInBounds_toArray, List.set_cons_zero, List.set_cons_succ, i64_w, i32_w]
                           rfl
                          refine pure_ (i := 5) (N := some 172) (v := ?_) (a' := ?_) (bs 6 8) rfl rfl (any_of HT_.out (by kernel_rfl)) (fun _ _ _ h => h) (Or.inl ⟨by rfl, ?_⟩) ?_ ?_
                          rotate_left
                          ·intro w'
                           go_simp
                           with_reducible rfl
                          rotate_left
                          ·simp only [Act.put, List.setIfInBounds_toArray, List.set_cons_zero, List.set_cons_succ, i64_w, i32_w]
                           rfl
                          refine pure_ (i := 6) (N := some 173) (v := ?_) (a' := ?_) (bs 7 7) rfl rfl (any_of HT_.out (by kernel_rfl)) (fun _ _ _ h => h) (Or.inl ⟨by rfl, ?_⟩) ?_ ?_
                          rotate_left
                          ·intro w'
                           go_simp
                           with_reducible rfl
                          rotate_left
                          ·simp only [Act.put, List.setIfInBounds_toArray, List.set_cons_zero, List.set_cons_succ, i64_w, i32_w]
                           rfl
                          refine pure_ (i := 7) (N := some 174) (v := ?_) (a' := ?_) (bs 8 6) rfl rfl (any_of HT_.out (by kernel_rfl)) (fun _ _ _ h => h) (Or.inl ⟨by rfl, ?_⟩) ?_ ?_
                          rotate_left
                          ·intro w'
                           go_simp
                           with_reducible rfl
                          rotate_left
                          ·simp only [Act.put, List.setIfInBounds_toArray, List.set_cons_zero, List.set_cons_succ, i64_w, i32_w]
                           rfl
                          refine pure_ (i := 8) (N := some 175) (v := ?_) (a' := ?_) (bs 9 5) rfl rfl (any_of HT_.out (by kernel_rfl)) (fun _ _ _ h => h) (Or.inl ⟨by rfl, ?_⟩) ?_ ?_
                          rotate_left
                          ·intro w'
                           go_simp
                           with_reducible rfl
                          rotate_left
                          ·simp only [Act.put, List.setIfInBounds_toArray, List.set_cons_zero, List.set_cons_succ, i64_w, i32_w]
                           rfl
                          refine pure_ (i := 10) (N := some 177) (v := ?_) (a' := ?_) #[true, true, true, true, true, true, true, true, true, false, true, false, false, false] rfl rfl (any_of HT_.out (by kernel_rfl)) (fun _ _ _ h => h) (Or.inl ⟨by rfl, ?_⟩) ?_ ?_
                          rotate_left
                          ·intro w'
                           go_simp
                           with_reducible rfl
                          rotate_left
                          ·simp only [Act.put, List.setIfInBounds_toArray, List.set_cons_zero, List.set_cons_succ, i64_w, i32_w]
                           rfl
                          refine take_ (i := 9) (N := some 176) (v := ?_) (a' := ?_) (bs 11 3) rfl rfl (take_ofW HT_.out HW_.out (by kernel_rfl)) (fun _ _ _ h => h) (Or.inl ⟨by rfl, ?_⟩) hHeld ?_ ?_
                          rotate_left
                          ·rintro w' ⟨s0, s1⟩
                           go_simp
                           with_reducible rfl
                          rotate_left
                          ·simp only [Act.put, List.setIfInBounds_toArray, List.set_cons_zero, List.set_cons_succ, i64_w, i32_w]
                           rfl
                          refine one_ (i := 11) (N := some 178) (bs 12 2) rfl rfl (one_of HT_.out (by kernel_rfl)) (by decide) (fun K hK => ?_)
                          refine goes_ Try.func13 (by kernel_rfl) rfl #[.int .i64 a0] (by rfl) rfl rfl (by (try simp only [List.map_toArray, List.map_cons, List.map_nil]); first | done | rfl | (simp only [List.length_drop, List.length_take]; rfl)) ?_
                          with_reducible refine (tree_Leaves.calls a0 t182 _ A86.out).mono ?_
                          rintro e w' ⟨rfl, ⟨nd, rfl⟩⟩
                          refine ⟨_, rfl, ?_⟩
                          refine hK.out _ _ ⟨((HB.out.cell (World.block_lt_of_cell? w _ hw179_0)).trans hw179_0), ((HB.out.cell (World.block_lt_of_cell? w _ hw181_0)).trans hw181_0)⟩ (fun hHeld => ?_)
                          clear hK K
                          refine norm_ (a' := ?_) ?_ ?_
                          rotate_left
                          ·show Act.put _ (some 178) _ = _
                           simp only [Act.put, List.setIfInBounds_toArray, List.set_cons_zero, List.set_cons_succ, i64_w, i32_w]
                           rfl
                          refine pure_ (i := 12) (N := some 179) (v := ?_) (a' := ?_) (bs 13 1) rfl rfl (any_of HT_.out (by kernel_rfl)) (fun _ _ _ h => h) (Or.inl ⟨by rfl, ?_⟩) ?_ ?_
                          rotate_left
                          ·intro w'
                           go_simp
                           with_reducible rfl
                          rotate_left
                          ·simp only [Act.put, List.setIfInBounds_toArray, List.set_cons_zero, List.set_cons_succ, i64_w, i32_w]
                           rfl
                          refine pure_ (i := 13) (N := some 180) (v := ?_) (a' := ?_) (bs 14 0) rfl rfl (any_of HT_.out (by kernel_rfl)) (fun _ _ _ h => h) (Or.inl ⟨by rfl, ?_⟩) ?_ ?_
                          rotate_left
                          ·intro w'
                           go_simp
                           with_reducible rfl
                          rotate_left
                          ·simp only [Act.put, List.setIfInBounds_toArray, List.set_cons_zero, List.set_cons_succ, i64_w, i32_w]
                           rfl
                          refine done_ (done_of HT_.out (by kernel_rfl)) ?_
                          have p184 : 0 ≤ (x14_2 : Int) := of_decide_eq_true (by first | (with_reducible assumption) | assumption)
                          have q184 : x14_2 < (l3.length : Int) := of_decide_eq_true (by first | (with_reducible assumption) | assumption)
                          obtain ⟨ad184, e184, hx184_0⟩ := Kd.at_int HR3.out x14_2 p184 q184
                          obtain rfl : ad179 = ad184 := (by injection e184)
                          replace hx184_0 := (HB.out.cell (World.block_lt_of_cell? w _ hx184_0)).trans hx184_0
                          replace p184 := eq_true p184
                          replace q184 := eq_true q184
                          try go_wp2_with (first | ((with_reducible refine gate_callee (f := 15) rfl ?_); refine goesL_ (some 187) rfl rfl Try.func15 (by kernel_rfl) rfl #[.int .i64 a0, .int .i64 (rd l3 x14_2)] rfl (by (try simp only [List.map_toArray, List.map_cons, List.map_nil]); first | done | rfl | (simp only [List.length_drop, List.length_take]; rfl)) ?_; (with_reducible refine (tree_Path.calls k2 a0 (rd l3 x14_2) t185 _ A91.out).mono ?_); rintro e w93 ⟨v186, rfl, ho0, hb⟩; refine ⟨_, rfl, ?_⟩; have n0_ := Aside0.mk (Kd.R_below (by (with_reducible repeat (first | apply Kd.R_alloc | apply Kd.R_drewN | apply Kd.R_drew)); exact HO_13.out) hb); have n1_ := Aside0.mk (Kd.R_lower ho0 (below_size (by repeat (first | (with_reducible first | exact HB.out | apply below_alloc | apply pw_below_drewN | apply below_drew1) | exact HB.out)))); have n2_ := Aside0.mk (below_step (by repeat (first | (with_reducible first | exact HB.out | apply below_alloc | apply pw_below_drewN | apply below_drew1) | exact HB.out)) hb); clear HO_13; clear HB; have HO_13 := n0_; have HO187 := n1_; have HB := n2_; clear n0_ n1_ n2_; (try clear hb); (try clear hb2); (try clear hk); (try clear hi); (try clear ho0)))
                          go_loopg [16] k2 (fun kq v16 w' => ∃ (x13_3 : List Bool) (x16_3 : Int), v16 = .int .i64 x16_3 ∧ Aside0 (oublaw7_TreePaths.l2 kq a0 a1 a2 l3 t160 x13_3 x14_2 t185 x16_3 = some r) ∧ Aside0 (kq ≤ k2) ∧ Aside0 (Kd.R Kd.bool 4 w' w.heap.size (fun _ => True) v177 x13_3) ∧ Aside0 (Kd.R (Kd.int .i64) 3 w' w.heap.size (fun _ => True) v186 t185) ∧ Aside0 (Below w.heap.size w w'))
                          case atStart => exact ⟨(x13_2), (0), (by first | rfl | (simp; done) | (simp [*]; done)), H', ⟨Nat.le_refl _⟩, ⟨by (with_reducible repeat (first | apply Kd.R_alloc | apply Kd.R_drewN | apply Kd.R_drew)); exact HO_13.out⟩, ⟨by (with_reducible repeat (first | apply Kd.R_alloc | apply Kd.R_drewN | apply Kd.R_drew)); exact HO187.out⟩, ⟨by repeat (first | (with_reducible first | exact HB.out | apply below_alloc | apply pw_below_drewN | apply below_drew1) | exact HB.out)⟩⟩
                          case round =>
                           clear H'
                           try clear c1
                           try clear p1
                           try clear q1
                           try clear hx1
                           try clear p2
                           try clear c4
                           try clear c5
                           try clear c6
                           try clear p6
                           try clear c7
                           try clear c8
                           try clear c11
                           try clear c13
                           try clear c15
                           try clear p16
                           try clear q16
                           try clear hx16
                           try clear c17
                           try clear p17
                           try clear q17
                           try clear hx17
                           try clear p18
                           try clear q18
                           try clear hx18
                           try clear c19
                           try clear c48
                           try clear c48b0
                           try clear c49
                           try clear c50
                           try clear c51
                           try clear c54
                           try clear c54b0
                           try clear c54b1
                           try clear p64
                           try clear c68
                           try clear c75
                           try clear c75b0
                           try clear c75b1
                           try clear c76
                           try clear c76b0
                           try clear c76b1
                           try clear c80
                           try clear c80b0
                           try clear c81
                           try clear c81b0
                           try clear c82
                           try clear c82b0
                           try clear c87
                           try clear c87b0
                           try clear hx161_0
                           try clear hx162_0
                           try clear hx163_0
                           try clear hx171_0
                           try clear hx173_0
                           try clear hx179_0
                           try clear hx181_0
                           try clear hx184_0
                           try clear p1
                           try clear p16
                           try clear p161
                           try clear p162
                           try clear p163
                           try clear p17
                           try clear p171
                           try clear p173
                           try clear p179
                           try clear p181
                           try clear p184
                           try clear p2
                           try clear p6
                           try clear p64
                           try clear q1
                           try clear q16
                           try clear q161
                           try clear q162
                           try clear q163
                           try clear q17
                           try clear q171
                           try clear q173
                           try clear q179
                           try clear q181
                           try clear q184
                           obtain ⟨x13_3, x16_3, rfl, HA, HK3, HO_13, HO_15, HB⟩ := hrel
                           cases gk with
                           | zero => exact absurd HA.out (by simp [oublaw7_TreePaths.l2])
                           | succ k3 =>
                            have H := HA.out
                            clear HA
                            simp only [oublaw7_TreePaths.l2] at H
                            by_cases c94 : x16_3 < (t185.length : Int)
                            ·rw [if_pos c94] at H
                             have c94b0 : decide (x16_3 < (t185.length : Int)) = true := decide_eq_true c94
                             clear c94
                             by_cases c95 : 0 ≤ x16_3
                             ·rw [if_pos c95] at H
                              have c95b0 : decide (0 ≤ x16_3) = true := decide_eq_true c95
                              clear c95
                              by_cases c96 : (rd t185 x16_3) < 0
                              ·rw [if_pos c96] at H
                               have c96b0 : decide ((rd t185 x16_3) < 0) = true := decide_eq_true c96
                               clear c96
                               exact absurd (Option.some.inj H) (by rw [HT.out]; decide)
                              ·rw [if_neg c96] at H
                               have c96b0 : decide ((rd t185 x16_3) < 0) = false := decide_eq_false c96
                               clear c96
                               by_cases c97 : (rd t185 x16_3) ≥ (x13_3.length : Int)
                               ·rw [if_pos c97] at H
                                have c97b0 : decide ((x13_3.length : Int) ≤ (rd t185 x16_3)) = true := decide_eq_true c97
                                clear c97
                                exact absurd (Option.some.inj H) (by rw [HT.out]; decide)
                               ·rw [if_neg c97] at H
                                have c97b0 : decide ((x13_3.length : Int) ≤ (rd t185 x16_3)) = false := decide_eq_false c97
                                clear c97
                                by_cases c98 : 0 ≤ (rd t185 x16_3)
                                ·rw [if_pos c98] at H
                                 have c98b0 : decide (0 ≤ (rd t185 x16_3)) = true := decide_eq_true c98
                                 clear c98
                                 by_cases c99 : (rd t185 x16_3) < (x13_3.length : Int)
                                 ·rw [if_pos c99] at H
                                  have c99b0 : decide ((rd t185 x16_3) < (x13_3.length : Int)) = true := decide_eq_true c99
                                  clear c99
                                  obtain ⟨y191, hy191⟩ : ∃ y_ : List Bool, y_ = (x13_3.set ((rd t185 x16_3) : Int).toNat true) := ⟨_, rfl⟩
                                  replace H : (oublaw7_TreePaths.l2 k3 a0 a1 a2 l3 t160 y191 x14_2 t185 (wrap64 (x16_3 + 1))) = some r := by first | (rw [hy191]; with_reducible exact H) | (have H2_ := (Option.bind_some _ _).symm.trans H; rw [hy191]; with_reducible exact H2_) | (have H2_ := (Option.bind_some _ _).symm.trans H; with_reducible exact H2_) | with_reducible exact H | (rw [hy191]; exact H) | exact H
                                  have Ny191 := Aside0.mk hy191
                                  clear hy191
                                  have H' := Aside0.mk H
                                  clear H
                                  obtain ⟨Ao101, co101, eo101⟩ := Kd.R_slice HO_15.out
                                  subst eo101
                                  have p188 : 0 ≤ (x16_3 : Int) := of_decide_eq_true (by first | (with_reducible assumption) | assumption)
                                  have q188 : x16_3 < (t185.length : Int) := of_decide_eq_true (by first | (with_reducible assumption) | assumption)
                                  obtain ⟨ad188, e188, hx188_0⟩ := Kd.at_int (Kd.R_reads' HO_15.out).2.2 x16_3 p188 q188
                                  cases e188
                                  replace p188 := eq_true p188
                                  replace q188 := eq_true q188
                                  have p189 : 0 ≤ (x16_3 : Int) := of_decide_eq_true (by first | (with_reducible assumption) | assumption)
                                  have q189 : x16_3 < (t185.length : Int) := of_decide_eq_true (by first | (with_reducible assumption) | assumption)
                                  obtain ⟨ad189, e189, hx189_0⟩ := Kd.at_int (Kd.R_reads' HO_15.out).2.2 x16_3 p189 q189
                                  obtain rfl : ad188 = ad189 := (by injection e189)
                                  replace p189 := eq_true p189
                                  replace q189 := eq_true q189
                                  obtain ⟨Ao102, co102, eo102⟩ := Kd.R_slice HO_13.out
                                  subst eo102
                                  have p190 : 0 ≤ (x16_3 : Int) := of_decide_eq_true (by first | (with_reducible assumption) | assumption)
                                  have q190 : x16_3 < (t185.length : Int) := of_decide_eq_true (by first | (with_reducible assumption) | assumption)
                                  obtain ⟨ad190, e190, hx190_0⟩ := Kd.at_int (Kd.R_reads' HO_15.out).2.2 x16_3 p190 q190
                                  obtain rfl : ad188 = ad190 := (by injection e190)
                                  replace p190 := eq_true p190
                                  replace q190 := eq_true q190
                                  have p100 : 0 ≤ ((rd t185 x16_3) : Int) := of_decide_eq_true (by first | (with_reducible assumption) | assumption)
                                  have q100 : ((rd t185 x16_3) : Int) < ((x13_3.length : Int) : Int) := of_decide_eq_true (by first | (with_reducible assumption) | assumption)
                                  obtain ⟨go100, co100, eo100, gb100, gl100, cl100, HG100⟩ := Kd.R_form HO_13.out (by omega)
                                  (first | cases eo100 | (injection eo100 with ea_ en_ ec_; (first | subst ea_ | (injection ea_ with ea_; subst ea_)); subst ec_; clear en_))
                                  have GB100 := Aside0.mk gb100
                                  have GG100 := Aside0.mk HG100
                                  clear gb100 gl100 HG100
                                  obtain ⟨hx100_0, hf100_0⟩ := Kd.R_celln false HO_13.out ((rd t185 x16_3) : Int) p100 q100
                                  replace p100 := eq_true p100
                                  replace q100 := eq_true q100
                                  have HP103 := Kd.R_putg HO_13.out ((rd t185 x16_3) : Int) true
                                  go_wp2_with (first | ((with_reducible refine gate_store (t := 4) (p := 213) rfl ?_); refine store_event (t := 4) (p := 213) (v := ?vo_w104) (w1 := (wr.setCell ⟨go100, ((rd t185 x16_3) : Int).toNat, none⟩ (.bool true))) ?hg ?ho ?hn ?hr ?_; (case ho => rfl); (case hg => rfl); (case hn => rfl); (case hr => first | (go_simp; done) | (go_simp; rfl)); intro w104 hw; have hg : wr.grownBy w104 (some go100) := (by rw [hw]; exact HP103.2); have hp_ : Kd.R Kd.bool 4 w104 w.heap.size (fun _ => True) (.slice (some ⟨go100, 0, none⟩) x13_3.length co102) y191 := (by rw [hw, Ny191.out]; exact HP103.1); clear HP103; have n0_ := Aside0.mk (hp_); have n1_ := Aside0.mk (Kd.R_over' (v := (.slice (some ⟨go100, 0, none⟩) x13_3.length co102)) (by (with_reducible repeat (first | apply Kd.R_alloc | apply Kd.R_drewN | apply Kd.R_drew)); exact HO_15.out) (Kd.R_typed HO_13.out) (by decide) hg); have n2_ := Aside0.mk ((by rw [hw]; exact below_set (HB.out) GB100.out : Below w.heap.size w w104)); clear HO_13; clear HO_15; clear HB; have HO_13 := n0_; have HO_15 := n1_; have HB := n2_; clear n0_ n1_ n2_; clear hg hw hp_))
                                  go_roundg k3
                                  case measure => have := HK1.out; have := HK2.out; have := HK3.out; omega
                                  case rel => exact ⟨(y191), (wrap64 (x16_3 + 1)), (by first | rfl | (simp; done) | (simp [*]; done)), H', ⟨by have := HK1.out; have := HK2.out; have := HK3.out; omega⟩, ⟨by (with_reducible repeat (first | apply Kd.R_alloc | apply Kd.R_drewN | apply Kd.R_drew)); exact HO_13.out⟩, ⟨by (with_reducible repeat (first | apply Kd.R_alloc | apply Kd.R_drewN | apply Kd.R_drew)); exact HO_15.out⟩, ⟨by repeat (first | (with_reducible first | exact HB.out | apply below_alloc | apply pw_below_drewN | apply below_drew1) | exact HB.out)⟩⟩
                                 ·rw [if_neg c99] at H
                                  exact absurd H (by simp)
                                ·rw [if_neg c98] at H
                                 exact absurd H (by simp)
                             ·rw [if_neg c95] at H
                              exact absurd H (by simp)
                            ·rw [if_neg c94] at H
                             have c94b0 : decide (x16_3 < (t185.length : Int)) = false := decide_eq_false c94
                             clear c94
                             have H' := Aside0.mk H
                             clear H
                             obtain ⟨Ao105, co105, eo105⟩ := Kd.R_slice HO_15.out
                             subst eo105
                             go_wp2
                             go_roundg k3
                             case measure => have := HK1.out; have := HK2.out; have := HK3.out; omega
                             case rel => exact ⟨(x13_3), (wrap64 (x14_2 + 1)), (by first | rfl | (simp; done) | (simp [*]; done)), H', ⟨by have := HK1.out; have := HK2.out; have := HK3.out; omega⟩, ⟨by (with_reducible repeat (first | apply Kd.R_alloc | apply Kd.R_drewN | apply Kd.R_drew)); exact HO_13.out⟩, ⟨by repeat (first | (with_reducible first | exact HB.out | apply below_alloc | apply pw_below_drewN | apply below_drew1) | exact HB.out)⟩⟩
                       ·rw [if_neg c81] at H
                        exact absurd H (by simp)
                      ·rw [if_neg c80] at H
                       have c80b0 : decide (x14_2 < (l3.length : Int)) = false := decide_eq_false c80
                       clear c80
                       have H' := Aside0.mk H
                       clear H
                       go_wp2
                       go_loopg [17, 18] k2 (fun kq v17 v18 w' => ∃ (x17_3 : List Int) (x18_3 : Int), v18 = .int .i64 x18_3 ∧ Aside0 (oublaw7_TreePaths.l3 kq a0 a1 a2 l3 t160 x13_2 x17_3 x18_3 = some r) ∧ Aside0 (kq ≤ k2) ∧ Aside0 (Kd.R Kd.bool 4 w' w.heap.size (fun _ => True) v177 x13_2) ∧ Aside0 (Kd.R (Kd.int .i64) 3 w' w.heap.size (fun _ => True) v17 x17_3) ∧ Aside0 (Below w.heap.size w w'))
                       case atStart => exact ⟨(([] : List Int)), (0), (by first | rfl | (simp; done) | (simp [*]; done)), H', ⟨Nat.le_refl _⟩, ⟨by (with_reducible repeat (first | apply Kd.R_alloc | apply Kd.R_drewN | apply Kd.R_drew)); exact HO_13.out⟩, ⟨by first | exact Kd.R_nil _ _ _ _ _ | exact Kd.N_nil _ _ _ _ _ | exact Kd.V_nil _ _ _ _ _ | exact Kd.Q_nil _ _ _ _ _ | exact Kd.S_nil _ _ _ _ _⟩, ⟨by repeat (first | (with_reducible first | exact HB.out | apply below_alloc | apply pw_below_drewN | apply below_drew1) | exact HB.out)⟩⟩
                       case round =>
                        clear H'
                        try clear c1
                        try clear p1
                        try clear q1
                        try clear hx1
                        try clear p2
                        try clear c4
                        try clear c5
                        try clear c6
                        try clear p6
                        try clear c7
                        try clear c8
                        try clear c9
                        try clear p10
                        try clear q10
                        try clear hx10
                        try clear hf10
                        try clear c11
                        try clear c13
                        try clear c15
                        try clear p16
                        try clear q16
                        try clear hx16
                        try clear c17
                        try clear p17
                        try clear q17
                        try clear hx17
                        try clear p18
                        try clear q18
                        try clear hx18
                        try clear c19
                        try clear p19
                        try clear q19
                        try clear hx19
                        try clear c48
                        try clear c48b0
                        try clear c49
                        try clear c50
                        try clear c51
                        try clear c54
                        try clear c54b0
                        try clear c54b1
                        try clear p64
                        try clear c68
                        try clear c75
                        try clear c75b0
                        try clear c75b1
                        try clear c76
                        try clear c76b0
                        try clear c76b1
                        try clear c80
                        try clear c80b0
                        try clear c81
                        try clear c81b0
                        try clear c82
                        try clear c82b0
                        try clear c87
                        try clear c87b0
                        try clear c94
                        try clear c94b0
                        try clear c95
                        try clear c95b0
                        try clear c96
                        try clear c96b0
                        try clear c97
                        try clear c97b0
                        try clear c98
                        try clear c98b0
                        try clear c99
                        try clear c99b0
                        try clear p100
                        try clear q100
                        try clear hx100
                        try clear hf100
                        try clear hx100_0
                        try clear hx161_0
                        try clear hx162_0
                        try clear hx163_0
                        try clear hx171_0
                        try clear hx173_0
                        try clear hx179_0
                        try clear hx181_0
                        try clear hx184_0
                        try clear hx188_0
                        try clear hx189_0
                        try clear hx190_0
                        try clear p1
                        try clear p100
                        try clear p16
                        try clear p161
                        try clear p162
                        try clear p163
                        try clear p17
                        try clear p171
                        try clear p173
                        try clear p179
                        try clear p18
                        try clear p181
                        try clear p184
                        try clear p188
                        try clear p189
                        try clear p190
                        try clear p2
                        try clear p6
                        try clear p64
                        try clear q1
                        try clear q100
                        try clear q16
                        try clear q161
                        try clear q162
                        try clear q163
                        try clear q17
                        try clear q171
                        try clear q173
                        try clear q179
                        try clear q18
                        try clear q181
                        try clear q184
                        try clear q188
                        try clear q189
                        try clear q190
                        obtain ⟨x17_3, x18_3, rfl, HA, HK3, HO_13, HO_17, HB⟩ := hrel
                        cases gk with
                        | zero => exact absurd HA.out (by simp [oublaw7_TreePaths.l3])
                        | succ k3 =>
                         have H := HA.out
                         clear HA
                         simp only [oublaw7_TreePaths.l3] at H
                         by_cases c106 : x18_3 < (x13_2.length : Int)
                         ·rw [if_pos c106] at H
                          have c106b0 : decide (x18_3 < (x13_2.length : Int)) = true := decide_eq_true c106
                          clear c106
                          by_cases c107 : 0 ≤ x18_3
                          ·rw [if_pos c107] at H
                           have c107b0 : decide (0 ≤ x18_3) = true := decide_eq_true c107
                           clear c107
                           obtain ⟨bq108, hbq108⟩ : ∃ b_ : Bool, b_ = (rdOf false x13_2 x18_3) := ⟨_, rfl⟩
                           replace H : (if bq108 = true then (if x17_3.length < 17592186044416 then (oublaw7_TreePaths.l3 k3 a0 a1 a2 l3 t160 x13_2 (x17_3 ++ [x18_3]) (wrap64 (x18_3 + 1))) else (none)) else (oublaw7_TreePaths.l3 k3 a0 a1 a2 l3 t160 x13_2 x17_3 (wrap64 (x18_3 + 1)))) = some r := by rw [← hbq108] at H; exact H
                           have Nbq108 := Aside0.mk hbq108
                           clear hbq108
                           by_cases c109 : bq108 = true
                           ·subst c109
                            have H1 : (if x17_3.length < 17592186044416 then (oublaw7_TreePaths.l3 k3 a0 a1 a2 l3 t160 x13_2 (x17_3 ++ [x18_3]) (wrap64 (x18_3 + 1))) else (none)) = some r := by rw [if_pos rfl] at H; exact H
                            clear H
                            have H := H1
                            clear H1
                            by_cases c110 : x17_3.length < 17592186044416
                            ·rw [if_pos c110] at H
                             have LMc110 := Aside0.mk c110
                             clear c110
                             obtain ⟨y193, hy193⟩ : ∃ y_ : List Int, y_ = (x17_3 ++ [x18_3]) := ⟨_, rfl⟩
                             replace H : (oublaw7_TreePaths.l3 k3 a0 a1 a2 l3 t160 x13_2 y193 (wrap64 (x18_3 + 1))) = some r := by first | (rw [hy193]; with_reducible exact H) | (have H2_ := (Option.bind_some _ _).symm.trans H; rw [hy193]; with_reducible exact H2_) | (have H2_ := (Option.bind_some _ _).symm.trans H; with_reducible exact H2_) | with_reducible exact H | (rw [hy193]; exact H) | exact H
                             have Ny193 := Aside0.mk hy193
                             clear hy193
                             have H' := Aside0.mk H
                             clear H
                             obtain ⟨Ao111, co111, eo111⟩ := Kd.R_slice HO_13.out
                             subst eo111
                             have p192 : 0 ≤ (x18_3 : Int) := of_decide_eq_true (by first | (with_reducible assumption) | assumption)
                             have q192 : x18_3 < (x13_2.length : Int) := of_decide_eq_true (by first | (with_reducible assumption) | assumption)
                             obtain ⟨ad192, e192, hx192_0⟩ := Kd.at_bool (Kd.R_reads' HO_13.out).2.2 x18_3 p192 q192
                             (try rw [← Nbq108.out] at hx192_0)
                             cases e192
                             replace p192 := eq_true p192
                             replace q192 := eq_true q192
                             go_wp2_with (first | ((with_reducible refine gate_builtin (b := .append) (xs := #[.tmp 224, .tmp 226]) rfl ?_); (try (refine gate_guard (by rfl) ?_; dsimp only)); at_builtin; refine Kd.R_append (Kd.int .i64) (w0 := w) w.heap.size rfl (.tmp 224) (.tmp 226) 27 3 (.int .i64 0) 8 rfl Try.underlying27 info3 rfl (by decide) (by omega) u17 x17_3 x18_3 [.int .i64 x18_3] (fun _ => True) (fun _ => False) rfl rfl ?aP (fun _ hk => hk.elim) ?aF ?aO ?aB ?aS ?aL ?_; (case aP => exact rfl); (case aB => exact (by repeat (first | (with_reducible first | exact HB.out | apply below_alloc | apply pw_below_drewN | apply below_drew1) | exact HB.out))); (case aF => exact (fun _ _ => trivial)); (case aO => exact (by (with_reducible repeat (first | apply Kd.R_alloc | apply Kd.R_drewN | apply Kd.R_drew)); exact HO_17.out)); (case aS => exact (below_size (by repeat (first | (with_reducible first | exact HB.out | apply below_alloc | apply pw_below_drewN | apply below_drew1) | exact HB.out)))); (case aL => have := LMc110.out; omega); intro v194 w112 ho hb hg hat; rw [← Ny193.out] at ho; have n0_ := Aside0.mk (Kd.R_over' (by (with_reducible repeat (first | apply Kd.R_alloc | apply Kd.R_drewN | apply Kd.R_drew)); exact HO_13.out) (Kd.R_typed (by (with_reducible repeat (first | apply Kd.R_alloc | apply Kd.R_drewN | apply Kd.R_drew)); exact HO_17.out)) (by decide) hg); have n1_ := Aside0.mk (hb); have n2_ := Aside0.mk (ho); clear HO_13; clear HB; clear HO_17; have HO_13 := n0_; have HB := n1_; have HO195 := n2_; clear n0_ n1_ n2_; clear ho hb hg hat))
                             go_roundg k3
                             case measure => have := HK1.out; have := HK2.out; have := HK3.out; omega
                             case rel => exact ⟨(y193), (wrap64 (x18_3 + 1)), (by first | rfl | (simp; done) | (simp [*]; done)), H', ⟨by have := HK1.out; have := HK2.out; have := HK3.out; omega⟩, ⟨by (with_reducible repeat (first | apply Kd.R_alloc | apply Kd.R_drewN | apply Kd.R_drew)); exact HO_13.out⟩, ⟨by (with_reducible repeat (first | apply Kd.R_alloc | apply Kd.R_drewN | apply Kd.R_drew)); exact HO195.out⟩, ⟨by repeat (first | (with_reducible first | exact HB.out | apply below_alloc | apply pw_below_drewN | apply below_drew1) | exact HB.out)⟩⟩
                            ·rw [if_neg c110] at H
                             exact absurd H (by simp)
                           ·replace c109 := Bool.eq_false_iff.mpr c109
                            subst c109
                            have H1 : (oublaw7_TreePaths.l3 k3 a0 a1 a2 l3 t160 x13_2 x17_3 (wrap64 (x18_3 + 1))) = some r := by rw [if_neg (show ¬ (false = true) by decide)] at H; exact H
                            clear H
                            have H := H1
                            clear H1
                            have H' := Aside0.mk H
                            clear H
                            obtain ⟨Ao113, co113, eo113⟩ := Kd.R_slice HO_13.out
                            subst eo113
                            have p192 : 0 ≤ (x18_3 : Int) := of_decide_eq_true (by first | (with_reducible assumption) | assumption)
                            have q192 : x18_3 < (x13_2.length : Int) := of_decide_eq_true (by first | (with_reducible assumption) | assumption)
                            obtain ⟨ad192, e192, hx192_0⟩ := Kd.at_bool (Kd.R_reads' HO_13.out).2.2 x18_3 p192 q192
                            (try rw [← Nbq108.out] at hx192_0)
                            cases e192
                            replace p192 := eq_true p192
                            replace q192 := eq_true q192
                            go_wp2
                            go_roundg k3
                            case measure => have := HK1.out; have := HK2.out; have := HK3.out; omega
                            case rel => exact ⟨(x17_3), (wrap64 (x18_3 + 1)), (by first | rfl | (simp; done) | (simp [*]; done)), H', ⟨by have := HK1.out; have := HK2.out; have := HK3.out; omega⟩, ⟨by (with_reducible repeat (first | apply Kd.R_alloc | apply Kd.R_drewN | apply Kd.R_drew)); exact HO_13.out⟩, ⟨by (with_reducible repeat (first | apply Kd.R_alloc | apply Kd.R_drewN | apply Kd.R_drew)); exact HO_17.out⟩, ⟨by repeat (first | (with_reducible first | exact HB.out | apply below_alloc | apply pw_below_drewN | apply below_drew1) | exact HB.out)⟩⟩
                          ·rw [if_neg c107] at H
                           exact absurd H (by simp)
                         ·rw [if_neg c106] at H
                          have c106b0 : decide (x18_3 < (x13_2.length : Int)) = false := decide_eq_false c106
                          clear c106
                          replace H := Option.bind_eq_some_iff.mp H
                          obtain ⟨t196, A1140, H⟩ := H
                          replace H : (if t196 = true then ((tree_Union.f k3 a0 l3).bind fun t197 => ((oubref_Ints.f k3 t197 x17_3).bind fun t200 => (if t200 = true then (some ((a1 == a2) == (t160 == a0))) else (some false)))) else (some false)) = some r := H
                          have A114 := Aside0.mk A1140
                          clear A1140
                          by_cases c115 : t196 = true
                          ·subst c115
                           have H1 : ((tree_Union.f k3 a0 l3).bind fun t197 => ((oubref_Ints.f k3 t197 x17_3).bind fun t200 => (if t200 = true then (some ((a1 == a2) == (t160 == a0))) else (some false)))) = some r := by rw [if_pos rfl] at H; exact H
                           clear H
                           have H := H1
                           clear H1
                           replace H := Option.bind_eq_some_iff.mp H
                           obtain ⟨t197, A1160, H⟩ := H
                           replace H : ((oubref_Ints.f k3 t197 x17_3).bind fun t200 => (if t200 = true then (some ((a1 == a2) == (t160 == a0))) else (some false))) = some r := H
                           have A116 := Aside0.mk A1160
                           clear A1160
                           replace H := Option.bind_eq_some_iff.mp H
                           obtain ⟨t200, A1170, H⟩ := H
                           replace H : (if t200 = true then (some ((a1 == a2) == (t160 == a0))) else (some false)) = some r := H
                           have A117 := Aside0.mk A1170
                           clear A1170
                           by_cases c118 : t200 = true
                           ·subst c118
                            have H1 : (some ((a1 == a2) == (t160 == a0))) = some r := by rw [if_pos rfl] at H; exact H
                            clear H
                            have H := H1
                            clear H1
                            obtain rfl := Option.some.inj H
                            obtain ⟨Ao119, co119, eo119⟩ := Kd.R_slice HO_13.out
                            subst eo119
                            go_wp2_with (first | ((with_reducible refine gate_callee (f := 8) rfl ?_); refine goesL_ (some 228) rfl rfl Try.func8 (by kernel_rfl) rfl #[] rfl (by (try simp only [List.map_toArray, List.map_cons, List.map_nil]); first | done | rfl | (simp only [List.length_drop, List.length_take]; rfl)) ?_; (with_reducible refine (oublaw7_first.calls k3  true _ A114.out).mono ?_); rintro e w120 ⟨rfl, hb⟩; refine ⟨_, rfl, ?_⟩; have n0_ := Aside0.mk (Kd.R_below (by (with_reducible repeat (first | apply Kd.R_alloc | apply Kd.R_drewN | apply Kd.R_drew)); exact HO_13.out) hb); have n1_ := Aside0.mk (Kd.R_below (by (with_reducible repeat (first | apply Kd.R_alloc | apply Kd.R_drewN | apply Kd.R_drew)); exact HO_17.out) hb); have n2_ := Aside0.mk (below_step (by repeat (first | (with_reducible first | exact HB.out | apply below_alloc | apply pw_below_drewN | apply below_drew1) | exact HB.out)) hb); clear HO_13; clear HO_17; clear HB; have HO_13 := n0_; have HO_17 := n1_; have HB := n2_; clear n0_ n1_ n2_; (try clear hb); (try clear hb2); (try clear hk); (try clear hi)) | (go_at_call 24; (with_reducible refine (tree_Union.calls k3 a0 _ _ l3 t197 _ ?side1 ?side2 A116.out).mono ?_); (case side1 => repeat (first | exact (Kd.C_below HR3.out HB.out) | (with_reducible refine Kd.C_alloc ?_ _) | (with_reducible refine Kd.C_drewN ?_ _) | (with_reducible refine Kd.C_drew ?_))); (case side2 => exact HC3.out); rintro e w121 ⟨v198, rfl, ho0, hb⟩; have n0_ := Aside0.mk (Kd.R_below (by (with_reducible repeat (first | apply Kd.R_alloc | apply Kd.R_drewN | apply Kd.R_drew)); exact HO_13.out) hb); have n1_ := Aside0.mk (Kd.R_elder' (by (with_reducible repeat (first | apply Kd.R_alloc | apply Kd.R_drewN | apply Kd.R_drew)); exact HO_17.out) (Kd.R_base ho0) hb); have n2_ := Aside0.mk (Kd.R_lower (Kd.R_new' ho0 (Kd.R_lt (by (with_reducible repeat (first | apply Kd.R_alloc | apply Kd.R_drewN | apply Kd.R_drew)); exact HO_17.out))) (below_size (by repeat (first | (with_reducible first | exact HB.out | apply below_alloc | apply pw_below_drewN | apply below_drew1) | exact HB.out)))); have n3_ := Aside0.mk (below_step (by repeat (first | (with_reducible first | exact HB.out | apply below_alloc | apply pw_below_drewN | apply below_drew1) | exact HB.out)) hb); clear HO_13; clear HO_17; clear HB; have HO_13 := n0_; have HO_17 := n1_; have HO199 := n2_; have HB := n3_; clear n0_ n1_ n2_ n3_; (try clear hb); (try clear hb2); (try clear hk); (try clear hi); (try clear ho0); obtain ⟨Ao122, co122, eo122⟩ := Kd.R_slice HO199.out; subst eo122; obtain ⟨Ao123, co123, eo123⟩ := Kd.R_slice HO_17.out; subst eo123) | (go_at_call 14; (with_reducible refine (oubref_Ints.calls k3 _ _ t197 _ _ x17_3 true _ ?side1 ?side2 ?side3 ?side4 A117.out).mono ?_); (case side1 => repeat (first | exact (Kd.R_reads' HO199.out).2.2 | (with_reducible refine Kd.C_alloc ?_ _) | (with_reducible refine Kd.C_drewN ?_ _) | (with_reducible refine Kd.C_drew ?_))); (case side2 => exact (Kd.R_reads' HO199.out).2.1); (case side3 => repeat (first | exact (Kd.R_reads' HO_17.out).2.2 | (with_reducible refine Kd.C_alloc ?_ _) | (with_reducible refine Kd.C_drewN ?_ _) | (with_reducible refine Kd.C_drew ?_))); (case side4 => exact (Kd.R_reads' HO_17.out).2.1); rintro e w' ⟨rfl, ⟨nd, rfl⟩⟩))
                            go_ret
                            exact ⟨by first | rfl | (simp [errW_none, errW_some] <;> rfl) | (simp [*, errW_none, errW_some] <;> rfl), by repeat (first | (with_reducible first | exact HB.out | apply below_alloc | apply pw_below_drewN | apply below_drew1) | exact HB.out)⟩
                           ·replace c118 := Bool.eq_false_iff.mpr c118
                            subst c118
                            have H1 : (some false) = some r := by rw [if_neg (show ¬ (false = true) by decide)] at H; exact H
                            clear H
                            have H := H1
                            clear H1
                            exact absurd (Option.some.inj H) (by rw [HT.out]; decide)
                          ·replace c115 := Bool.eq_false_iff.mpr c115
                           subst c115
                           have H1 : (some false) = some r := by rw [if_neg (show ¬ (false = true) by decide)] at H; exact H
                           clear H
                           have H := H1
                           clear H1
                           exact absurd (Option.some.inj H) (by rw [HT.out]; decide)
                   ·rw [if_neg c76] at H
                    exact absurd H (by simp)
                  ·rw [if_neg c75] at H
                   exact absurd H (by simp)
              ·rw [if_neg c40] at H
               have c40b0 : ((rd t151 a0) == (wrap64 ((wrap64 (t159 - 1)) + a1))) = false := beq_eq_false_iff_ne.mpr c40
               have c40b1 : ((rd t151 a0) != (wrap64 ((wrap64 (t159 - 1)) + a1))) = true := bne_iff_ne.mpr c40
               exact absurd (Option.some.inj H) (by rw [HT.out]; decide)
             ·rw [if_neg c38] at H
              exact absurd H (by simp)
            ·rw [if_neg c37] at H
             exact absurd H (by simp)
           ·rw [if_neg c36] at H
            have c36b0 : ((rd t151 0) == 0) = false := beq_eq_false_iff_ne.mpr c36
            have c36b1 : ((rd t151 0) != 0) = true := bne_iff_ne.mpr c36
            exact absurd (Option.some.inj H) (by rw [HT.out]; decide)
          ·rw [if_neg c35] at H
           exact absurd H (by simp)
         ·rw [if_neg c34] at H
          have c34b0 : ((t154.length : Int) == (wrap64 (a0 + 1))) = false := beq_eq_false_iff_ne.mpr c34
          have c34b1 : ((t154.length : Int) != (wrap64 (a0 + 1))) = true := bne_iff_ne.mpr c34
          exact absurd (Option.some.inj H) (by rw [HT.out]; decide)
        ·rw [if_neg c33] at H
         have c33b0 : ((t151.length : Int) == (wrap64 (a0 + 1))) = false := beq_eq_false_iff_ne.mpr c33
         have c33b1 : ((t151.length : Int) != (wrap64 (a0 + 1))) = true := bne_iff_ne.mpr c33
         exact absurd (Option.some.inj H) (by rw [HT.out]; decide)
  ·replace c8 := Bool.eq_false_iff.mpr c8
   subst c8
   have H1 : ((oublaw7_first.f k).bind fun t201 => (some t201)) = some r := by rw [if_neg (show ¬ (false = true) by decide)] at H; exact H
   clear H
   have H := H1
   clear H1
   replace H := Option.bind_eq_some_iff.mp H
   obtain ⟨t201, A1240, H⟩ := H
   replace H : (some t201) = some r := H
   have A124 := Aside0.mk A1240
   clear A1240
   obtain rfl := Option.some.inj H
   go_enter Try.func6, Try.ntmps6
   go_wp2_with (first | ((with_reducible refine gate_callee (f := 8) rfl ?_); refine goesL_ (some 19) rfl rfl Try.func8 (by kernel_rfl) rfl #[] rfl (by (try simp only [List.map_toArray, List.map_cons, List.map_nil]); first | done | rfl | (simp only [List.length_drop, List.length_take]; rfl)) ?_; (with_reducible refine (oublaw7_first.calls k  true _ A5.out).mono ?_); clear A5; rintro e w125 ⟨rfl, hb⟩; refine ⟨_, rfl, ?_⟩; have n0_ := Aside0.mk (below_step (by repeat (first | (with_reducible first | exact HB.out | apply below_alloc | apply pw_below_drewN | apply below_drew1) | exact HB.out)) hb); clear HB; have HB := n0_; clear n0_; (try clear hb); (try clear hb2); (try clear hk); (try clear hi)) | ((with_reducible refine gate_callee (f := 10) rfl ?_); refine goesL_ (some 22) rfl rfl Try.func10 (by kernel_rfl) rfl #[.int .i64 a0] rfl (by (try simp only [List.map_toArray, List.map_cons, List.map_nil]); first | done | rfl | (simp only [List.length_drop, List.length_take]; rfl)) ?_; (with_reducible refine (tree_May.calls a0 false _ A7.out).mono ?_); rintro e w' ⟨rfl, ⟨nd, rfl⟩⟩; refine ⟨_, rfl, ?_⟩) | ((with_reducible refine gate_callee (f := 8) rfl ?_); refine goesL_ (some 49) rfl rfl Try.func8 (by kernel_rfl) rfl #[] rfl (by (try simp only [List.map_toArray, List.map_cons, List.map_nil]); first | done | rfl | (simp only [List.length_drop, List.length_take]; rfl)) ?_; (with_reducible refine (oublaw7_first.calls k  t201 _ A124.out).mono ?_); clear A124; rintro e w126 ⟨rfl, hb⟩; refine ⟨_, rfl, ?_⟩; have n0_ := Aside0.mk (below_step (by repeat (first | (with_reducible first | exact HB.out | apply below_alloc | apply pw_below_drewN | apply below_drew1) | exact HB.out)) hb); clear HB; have HB := n0_; clear n0_; (try clear hb); (try clear hb2); (try clear hk); (try clear hi)))
   go_ret
   exact ⟨by first | rfl | (simp [errW_none, errW_some] <;> rfl) | (simp [*, errW_none, errW_some] <;> rfl), by repeat (first | (with_reducible first | exact HB.out | apply below_alloc | apply pw_below_drewN | apply below_drew1) | exact HB.out)⟩
 ·replace c6 := Bool.eq_false_iff.mpr c6
  subst c6
  have H1 : (some false) = some r := by rw [if_neg (show ¬ (false = true) by decide)] at H; exact H
  clear H
  have H := H1
  clear H1
  exact absurd (Option.some.inj H) (by rw [HT.out]; decide)

/-- THE ONE PURE STATEMENT of oublaw7_TreePaths: yours. -/
def oublaw7_TreePaths.Pure : Prop := ∀ (a0 : Int) (a1 : Int) (a2 : Int) (l3 : List Int), (Lit.int .i64 a0).wf = true → (Lit.int .i64 a1).wf = true → (Lit.int .i64 a2).wf = true → l3.length ≤ maxLen → l3.length * 8 ≤ 140737488351232 → (∀ x ∈ l3, (Lit.int .i64 x).wf = true) → ∃ k, oublaw7_TreePaths.f k a0 a1 a2 l3 = some true
theorem oublaw7_TreePaths.walk (P : oublaw7_TreePaths.Pure) (a0 : Int) (a1 : Int) (a2 : Int) (a3 : Option Addr) (len3 cap3 : Nat) (z3 : List Int) (w : World) (w0 : (Lit.int .i64 a0).wf = true) (w1 : (Lit.int .i64 a1).wf = true) (w2 : (Lit.int .i64 a2).wf = true) (w3 : (a3 = none ∧ len3 = 0 ∧ cap3 = 0 ∧ z3 = []) ∨ ∃ x, a3 = some x ∧ len3 ≤ cap3 ∧ cap3 ≤ maxLen ∧ z3.length = cap3 ∧ (∀ i, i < z3.length → w.cell? (x.add i) = some (.int .i64 (z3.getD i 0))) ∧ ∀ n ∈ z3, (Lit.int .i64 n).wf = true) (y3 : len3 * 8 ≤ 140737488351232) :
  Calls Try.prog 6 #[.int .i64 a0, .int .i64 a1, .int .i64 a2, .slice a3 len3 cap3] w fun e w' => e = .returned (.bool true) ∧ Below w.heap.size w w' := by
 obtain ⟨l3, rfl, hr3, hm3, hw3, hc3⟩ := ReadsInt.ofRowC w3
 obtain ⟨k, h⟩ := P a0 a1 a2 l3 w0 w1 w2 hm3 y3 hw3
 refine (oublaw7_TreePaths.calls k a0 a1 a2 _ _ l3 true w (Kd.C_of_reads (d := (0 : Int)) (h1 := fun _ => rfl) hr3) hc3 ⟨rfl⟩ h).mono ?_
 rintro e w' ⟨rfl, hd⟩
 exact ⟨rfl, hd⟩

end Go.Proofs.Ytkeinmbommabbaa.R
