/- YtmbpgnmhfmcbmaaDoor: Go functions as plain Lean functions, and that the calls come to them; written by a program of this session (wip/tools/mkprint.py). -/
import Derived.Test.YtmbpgnmhfmcbmaaDoorPAx0
import Derived.Test.YtmbpgnmhfmcbmaaDoorPAx1
import Derived.Test.YtmbpgnmhfmcbmaaDoorPAx2
import Derived.Test.YtmbpgnmhfmcbmaaDoorPAx3
import Derived.Test.YtmbpgnmhfmcbmaaDoorPAx4
import Derived.Test.YtmbpgnmhfmcbmaaDoorPAx5
import Derived.Test.YtmbpgnmhfmcbmaaDoorPAx6
namespace Go.Proofs.YtmbpgnmhfmcbmaaDoor.PA
open Go.RowKit Go.Proofs.YtmbpgnmhfmcbmaaDoorW.PrintWords Go.Proofs.YtmbpgnmhfmcbmaaDoorW.PrintLast Go.Proofs.YtmbpgnmhfmcbmaaDoorW.PrintMore
attribute [local go_sem] max2_int min2_int max_two min_two max_three min_three max_four min_four   -- for this text's walks alone
set_option linter.unusedVariables false
set_option linter.unusedSimpArgs false

end Go.Proofs.YtmbpgnmhfmcbmaaDoor.PA
