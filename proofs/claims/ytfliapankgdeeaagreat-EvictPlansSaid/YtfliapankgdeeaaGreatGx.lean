-- Written by gprint.py (wip/tools), which runs the kit's printer with some contracts given. Lean checks it.
import Derived.Test.YtfliapankgdeeaaGreatGx0
import Derived.Test.YtfliapankgdeeaaGreatGx1
import Derived.Test.YtfliapankgdeeaaGreatGx2
import Derived.Test.YtfliapankgdeeaaGreatGx3
import Derived.Test.YtfliapankgdeeaaGreatGx4
import Derived.Test.YtfliapankgdeeaaGreatGx5
import Derived.Test.YtfliapankgdeeaaGreatGx6
namespace Go.Proofs.YtfliapankgdeeaaGreat.G
open Go.RowKit Go.Proofs.YtfliapankgdeeaaGreat.G Go.Proofs.YtfliapankgdeeaaGreatW.PrintWords Go.Proofs.YtfliapankgdeeaaGreatW.PrintLast Go.Proofs.YtfliapankgdeeaaGreatW.PrintMore
attribute [local go_sem] max2_int min2_int max_two min_two max_three min_three max_four min_four   -- for this text's walks alone
set_option linter.unusedVariables false
set_option linter.unusedSimpArgs false

end Go.Proofs.YtfliapankgdeeaaGreat.G
