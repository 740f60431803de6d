-- Printed by a program of this claim's own out of the translation.
import Derived.Test.YtipefhadafildaaQAx0
import Derived.Test.YtipefhadafildaaQAx1
import Derived.Test.YtipefhadafildaaQAx2
import Derived.Test.YtipefhadafildaaQAx3
namespace Go.Proofs.Ytipefhadafildaa.QA
open Go.Proofs.Ytipefhadafildaa.Own
open Go.RowKit Go.Proofs.YtipefhadafildaaW.PrintWords Go.Proofs.YtipefhadafildaaW.PrintLast Go.Proofs.YtipefhadafildaaW.PrintMore
attribute [local go_sem] max2_int min2_int max_two min_two max_three min_three max_four min_four   -- for this text's walks alone
set_option linter.unusedVariables false
set_option linter.unusedSimpArgs false

end Go.Proofs.Ytipefhadafildaa.QA
