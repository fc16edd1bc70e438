-- laid by a program of this session (its print of the translation over its own contracts)
import Derived.Test.YtedmbkhjpbdkjaaDoorXT0
import Derived.Test.YtedmbkhjpbdkjaaDoorXT1
namespace Go.Proofs.YtedmbkhjpbdkjaaDoor.XT
open Go.Proofs.YtedmbkhjpbdkjaaDoor.GivenT
open Go.RowKit Go.Proofs.YtedmbkhjpbdkjaaDoorW.PrintWords Go.Proofs.YtedmbkhjpbdkjaaDoorW.PrintLast Go.Proofs.YtedmbkhjpbdkjaaDoorW.PrintMore
attribute [local go_sem] max2_int min2_int max_two min_two max_three min_three max_four min_four   -- for this text's walks alone
set_option linter.unusedVariables false
set_option linter.unusedSimpArgs false

end Go.Proofs.YtedmbkhjpbdkjaaDoor.XT
