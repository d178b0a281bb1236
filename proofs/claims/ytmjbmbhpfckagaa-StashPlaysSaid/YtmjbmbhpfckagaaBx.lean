-- Written by gprint.py (wip/tools), which runs the kit's printer with some contracts given. Lean checks it.
import Derived.Test.YtmjbmbhpfckagaaBx0
import Derived.Test.YtmjbmbhpfckagaaBx1
import Derived.Test.YtmjbmbhpfckagaaBx2
import Derived.Test.YtmjbmbhpfckagaaBx3
namespace Go.Proofs.Ytmjbmbhpfckagaa.B
open Go.RowKit Go.Proofs.YtmjbmbhpfckagaaW.PrintWords Go.Proofs.YtmjbmbhpfckagaaW.PrintLast Go.Proofs.YtmjbmbhpfckagaaW.PrintMore
attribute [local go_sem] max2_int min2_int max_two min_two max_three min_three max_four min_four   -- for this text's walks alone
set_option linter.unusedVariables false
set_option linter.unusedSimpArgs false

end Go.Proofs.Ytmjbmbhpfckagaa.B
