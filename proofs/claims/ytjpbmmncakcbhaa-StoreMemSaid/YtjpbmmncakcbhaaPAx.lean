/- Ytjpbmmncakcbhaa: Go functions as plain Lean functions, and that the calls come to them; written by a program of this session (wip/tools/mkprint.py). -/
import Derived.Test.YtjpbmmncakcbhaaPAx0
import Derived.Test.YtjpbmmncakcbhaaPAx1
import Derived.Test.YtjpbmmncakcbhaaPAx2
import Derived.Test.YtjpbmmncakcbhaaPAx3
namespace Go.Proofs.Ytjpbmmncakcbhaa.PA
open Go.RowKit Go.Proofs.YtjpbmmncakcbhaaW.PrintWords Go.Proofs.YtjpbmmncakcbhaaW.PrintLast Go.Proofs.YtjpbmmncakcbhaaW.PrintMore
attribute [local go_sem] max2_int min2_int max_two min_two max_three min_three max_four min_four   -- for this text's walks alone
set_option linter.unusedVariables false
set_option linter.unusedSimpArgs false

end Go.Proofs.Ytjpbmmncakcbhaa.PA
