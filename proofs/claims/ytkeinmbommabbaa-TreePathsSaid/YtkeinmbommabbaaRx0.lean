-- Written by gprint.py (wip/tools), which runs the kit's printer with some contracts given. Lean checks it.
import Derived.Test.YtkeinmbommabbaaProg
import Derived.Below
import Derived.Deep.Draws
import Derived.Deep.AppendLies
import Derived.Maps.AppendAt
import Derived.OwnWalk
import Derived.Laws.BytesArg
import Derived.Laws.MakeOwn
import Derived.Laws.OwnMore
import Derived.Deep.OwnRows
import Derived.Tactics
import Derived.Lib.ConvBytes
import Derived.Laws.Slices
import Derived.WalkKit
import Derived.KernelRfl
import Derived.RowKit3
import Derived.Deep.LoopGhost
import Derived.Deep.QuietTactic
import Derived.BigQuiet
import Derived.WideLaws
import Derived.Deep.DeepCutAuto
import Derived.Deep.CutBlock
import Derived.Deep.RegionHeld3
import Derived.Laws.Rows
import Derived.Lib.AppendStr
import Derived.ArgAppend
import Derived.Laws.IdiomCopy
import Derived.OrdersHeld
import Derived.Laws.BitsLemmas
import Derived.RowKit
import Derived.Test.YtkeinmbommabbaaGSort
import Derived.Test.YtkeinmbommabbaaWWords
import Derived.Test.YtkeinmbommabbaaWLast
import Derived.Test.YtkeinmbommabbaaWTab
import Derived.Test.YtkeinmbommabbaaWFour
import Derived.Test.YtkeinmbommabbaaWQPut
import Derived.Test.YtkeinmbommabbaaWApart
import Derived.Test.YtkeinmbommabbaaWArr
import Derived.Test.YtkeinmbommabbaaWZeros
import Derived.Test.YtkeinmbommabbaaWFoot
import Derived.Test.YtkeinmbommabbaaWKept
import Derived.Test.YtkeinmbommabbaaWShare
import Derived.Test.YtkeinmbommabbaaWN
import Derived.Test.YtkeinmbommabbaaWFootNe
import Derived.Test.YtkeinmbommabbaaWAt
import Derived.Test.YtkeinmbommabbaaWEqStruct
import Derived.Test.YtkeinmbommabbaaWRepsOne
import Derived.Test.YtkeinmbommabbaaWInv
import Derived.Test.YtkeinmbommabbaaWInvWords
import Derived.Test.YtkeinmbommabbaaWGuard
import Derived.Test.YtkeinmbommabbaaWNEv
import Derived.Test.YtkeinmbommabbaaWMore
namespace Go.Proofs.Ytkeinmbommabbaa.R
open Go.RowKit Go.Proofs.Ytkeinmbommabbaa.G Go.Proofs.YtkeinmbommabbaaW.PrintWords Go.Proofs.YtkeinmbommabbaaW.PrintLast Go.Proofs.YtkeinmbommabbaaW.PrintMore
attribute [local go_sem] max2_int min2_int max_two min_two max_three min_three max_four min_four   -- for this text's walks alone
set_option linter.unusedVariables false
set_option linter.unusedSimpArgs false



def errW : Option Int → Value
  | none => .nilIface
  | some c => .iface 0 (.int .i64 c)
theorem errW_none : errW none = .nilIface := rfl
theorem errW_some (c : Int) : errW (some c) = .iface 0 (.int .i64 c) := rfl

theorem info3 : (Try.prog.info? 3).map (fun i => (i.zero, i.size, i.bytes)) = some (some (.int .i64 0), 1, 8) := by kernel_rfl
theorem info4 : (Try.prog.info? 4).map (fun i => (i.zero, i.size, i.bytes)) = some (some (.bool false), 1, 1) := by kernel_rfl
-- the values' own types

end Go.Proofs.Ytkeinmbommabbaa.R
