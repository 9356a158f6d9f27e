/- Walks and rows of the law PairHeight, written by the session's own driver over the print: that the program's calls come to what plain functions say. -/
import Derived.Test.YtncelpakoikbeaaPPairHeightx0
import Derived.Test.YtncelpakoikbeaaPPairHeightx1
import Derived.Test.YtncelpakoikbeaaPPairHeightx2
import Derived.Test.YtncelpakoikbeaaPPairHeightx3
namespace Go.Proofs.Ytncelpakoikbeaa.PPairHeight
open Go.RowKit Go.Proofs.YtncelpakoikbeaaW.PrintWords Go.Proofs.YtncelpakoikbeaaW.PrintLast Go.Proofs.YtncelpakoikbeaaW.PrintMore
attribute [local go_sem] max2_int min2_int max_two min_two max_three min_three max_four min_four   -- for this text's walks alone
set_option linter.unusedVariables false
set_option linter.unusedSimpArgs false

end Go.Proofs.Ytncelpakoikbeaa.PPairHeight
