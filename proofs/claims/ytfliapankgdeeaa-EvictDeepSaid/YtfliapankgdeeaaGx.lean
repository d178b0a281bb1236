-- Written by gprint.py (wip/tools), which runs the kit's printer with some contracts given. Lean checks it.
import Derived.Test.YtfliapankgdeeaaGx0
import Derived.Test.YtfliapankgdeeaaGx1
import Derived.Test.YtfliapankgdeeaaGx2
import Derived.Test.YtfliapankgdeeaaGx3
import Derived.Test.YtfliapankgdeeaaGx4
import Derived.Test.YtfliapankgdeeaaGx5
namespace Go.Proofs.Ytfliapankgdeeaa.G
open Go.RowKit Go.Proofs.Ytfliapankgdeeaa.G Go.Proofs.YtfliapankgdeeaaW.PrintWords Go.Proofs.YtfliapankgdeeaaW.PrintLast Go.Proofs.YtfliapankgdeeaaW.PrintMore
attribute [local go_sem] max2_int min2_int max_two min_two max_three min_three max_four min_four   -- for this text's walks alone
set_option linter.unusedVariables false
set_option linter.unusedSimpArgs false

end Go.Proofs.Ytfliapankgdeeaa.G
