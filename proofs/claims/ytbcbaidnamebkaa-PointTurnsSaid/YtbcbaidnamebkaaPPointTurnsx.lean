/- Walks and rows of the law PointTurns, written by the session's own driver over the print: that the program's calls come to what plain functions say. -/
import Derived.Test.YtbcbaidnamebkaaPPointTurnsx0
import Derived.Test.YtbcbaidnamebkaaPPointTurnsx1
import Derived.Test.YtbcbaidnamebkaaPPointTurnsx2
import Derived.Test.YtbcbaidnamebkaaPPointTurnsx3
import Derived.Test.YtbcbaidnamebkaaPPointTurnsx4
import Derived.Test.YtbcbaidnamebkaaPPointTurnsx5
import Derived.Test.YtbcbaidnamebkaaPPointTurnsx6
namespace Go.Proofs.Ytbcbaidnamebkaa.PPointTurns
open Go.RowKit Go.Proofs.YtbcbaidnamebkaaW.PrintWords Go.Proofs.YtbcbaidnamebkaaW.PrintLast Go.Proofs.YtbcbaidnamebkaaW.PrintMore
attribute [local go_sem] max2_int min2_int max_two min_two max_three min_three max_four min_four   -- for this text's walks alone
set_option linter.unusedVariables false
set_option linter.unusedSimpArgs false

end Go.Proofs.Ytbcbaidnamebkaa.PPointTurns
