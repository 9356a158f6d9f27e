/- Walks and rows of the law PairTells, written by the session's own driver over the print: that the program's calls come to what plain functions say. -/
import Derived.Test.YtncelpakoikbeaaPPairTellsx0
import Derived.Test.YtncelpakoikbeaaPPairTellsx1
import Derived.Test.YtncelpakoikbeaaPPairTellsx2
import Derived.Test.YtncelpakoikbeaaPPairTellsx3
import Derived.Test.YtncelpakoikbeaaPPairTellsx4
import Derived.Test.YtncelpakoikbeaaPPairTellsx5
namespace Go.Proofs.Ytncelpakoikbeaa.PPairTells
open Go.RowKit Go.Proofs.YtncelpakoikbeaaW.PrintWords Go.Proofs.YtncelpakoikbeaaW.PrintLast Go.Proofs.YtncelpakoikbeaaW.PrintMore
attribute [local go_sem] max2_int min2_int max_two min_two max_three min_three max_four min_four   -- for this text's walks alone
set_option linter.unusedVariables false
set_option linter.unusedSimpArgs false

end Go.Proofs.Ytncelpakoikbeaa.PPairTells
