/- Ytjolaegjdfajbaa: Go functions as plain Lean functions, and that the calls come to them; written by a program of this session (wip/tools/mkprint.py). -/
import Derived.Test.YtjolaegjdfajbaaPAx0
import Derived.Test.YtjolaegjdfajbaaPAx1
import Derived.Test.YtjolaegjdfajbaaPAx2
import Derived.Test.YtjolaegjdfajbaaPAx3
import Derived.Test.YtjolaegjdfajbaaPAx4
import Derived.Test.YtjolaegjdfajbaaPAx5
import Derived.Test.YtjolaegjdfajbaaPAx6
import Derived.Test.YtjolaegjdfajbaaPAx7
import Derived.Test.YtjolaegjdfajbaaPAx8
import Derived.Test.YtjolaegjdfajbaaPAx9
namespace Go.Proofs.Ytjolaegjdfajbaa.PA
open Go.RowKit Go.Proofs.YtjolaegjdfajbaaW.PrintWords Go.Proofs.YtjolaegjdfajbaaW.PrintLast Go.Proofs.YtjolaegjdfajbaaW.PrintMore
attribute [local go_sem] max2_int min2_int max_two min_two max_three min_three max_four min_four   -- for this text's walks alone
set_option linter.unusedVariables false
set_option linter.unusedSimpArgs false

end Go.Proofs.Ytjolaegjdfajbaa.PA
