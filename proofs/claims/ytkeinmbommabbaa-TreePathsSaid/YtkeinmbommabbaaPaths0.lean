/- Facts on all pairs of leaves of all trees, reckoned; and the loops of the law TreePaths. -/
import Derived.Test.YtkeinmbommabbaaBase7R
namespace Go.Proofs.Ytkeinmbommabbaa.B7P
open Go.RowKit Go.Proofs.Ytkeinmbommabbaa.R Go.Proofs.YtkeinmbommabbaaW.PrintWords Go.Proofs.YtkeinmbommabbaaW.PrintLast Go.Proofs.Ytkeinmbommabbaa.B7R

/-- What holds of each level of two paths, s being what they share. -/
def levelB (h a b : Nat) (s : Int) (i : Nat) : Bool :=
  let p := pathOf h a
  let q := pathOf h b
  decide (((rd p i == rd q i) != decide ((i : Int) ≤ s)) = false) && decide (tree_Level.f 20 (rd p i) = some (i : Int)) && decide ((i : Int) > 0 → wrap64 (Int.tdiv (wrap64 (rd p i - 1)) 2) = rd p (i - 1 : Int)) &&
    decide (rd p i ∈ p) && decide ((decide (rd q i ∈ p) != decide ((i : Int) ≤ s)) = false)
def pairB (h a b : Nat) : Bool :=
  match tree_Shared.f 20 (h : Int) (a : Int) (b : Int) with
  | some s => ((List.range (h + 1)).all fun i => levelB h a b s i) && decide (((a : Int) == (b : Int)) == (s == (h : Int)))
  | none => false
theorem pairs_all : ((List.range 7).all fun h => (List.range (2 ^ h)).all fun a => (List.range (2 ^ h)).all fun b => pairB h a b) = true := by decide +kernel
theorem heads_all : ((List.range 7).all fun h => (List.range (2 ^ h)).all fun a => decide ((pathOf h a).length = h + 1) && decide (rd (pathOf h a) 0 = 0) && decide (rd (pathOf h a) (h : Int) = wrap64 (wrap64 (((2 ^ h : Nat) : Int) - 1) + (a : Int)))) = true := by decide +kernel

end Go.Proofs.Ytkeinmbommabbaa.B7P
