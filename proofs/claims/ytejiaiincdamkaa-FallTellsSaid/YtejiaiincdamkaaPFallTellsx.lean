-- Written by this session's own driver (wip/xprint) over the kit's print; Lean checks it.
import Derived.Test.YtejiaiincdamkaaPFallTellsx0
import Derived.Test.YtejiaiincdamkaaPFallTellsx1
import Derived.Test.YtejiaiincdamkaaPFallTellsx2
import Derived.Test.YtejiaiincdamkaaPFallTellsx3
import Derived.Test.YtejiaiincdamkaaPFallTellsx4
import Derived.Test.YtejiaiincdamkaaPFallTellsx5
import Derived.Test.YtejiaiincdamkaaPFallTellsx6
import Derived.Test.YtejiaiincdamkaaPFallTellsx7
import Derived.Test.YtejiaiincdamkaaPFallTellsx8
namespace Go.Proofs.Ytejiaiincdamkaa.PFallTells
open Go.RowKit Go.Proofs.YtejiaiincdamkaaW.PrintWords Go.Proofs.YtejiaiincdamkaaW.PrintLast Go.Proofs.YtejiaiincdamkaaW.PrintMore
attribute [local go_sem] max2_int min2_int max_two min_two max_three min_three max_four min_four   -- for this text's walks alone
set_option linter.unusedVariables false
set_option linter.unusedSimpArgs false

end Go.Proofs.Ytejiaiincdamkaa.PFallTells
