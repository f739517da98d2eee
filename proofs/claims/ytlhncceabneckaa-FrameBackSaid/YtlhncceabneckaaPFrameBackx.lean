-- written for this claim by a program of this session (wip/print-own.sh)
import Derived.Test.YtlhncceabneckaaPFrameBackx0
import Derived.Test.YtlhncceabneckaaPFrameBackx1
import Derived.Test.YtlhncceabneckaaPFrameBackx2
import Derived.Test.YtlhncceabneckaaPFrameBackx3
namespace Go.Proofs.Ytlhncceabneckaa.PFrameBack
open Go.RowKit Go.Proofs.YtlhncceabneckaaW.PrintWords Go.Proofs.YtlhncceabneckaaW.PrintLast Go.Proofs.YtlhncceabneckaaW.PrintMore
attribute [local go_sem] max2_int min2_int max_two min_two max_three min_three max_four min_four   -- for this text's walks alone
set_option linter.unusedVariables false
set_option linter.unusedSimpArgs false

end Go.Proofs.Ytlhncceabneckaa.PFrameBack
