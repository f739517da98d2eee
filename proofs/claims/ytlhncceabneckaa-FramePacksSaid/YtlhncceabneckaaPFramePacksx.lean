-- written for this claim by a program of this session (wip/print-own.sh)
import Derived.Test.YtlhncceabneckaaPFramePacksx0
import Derived.Test.YtlhncceabneckaaPFramePacksx1
import Derived.Test.YtlhncceabneckaaPFramePacksx2
import Derived.Test.YtlhncceabneckaaPFramePacksx3
import Derived.Test.YtlhncceabneckaaPFramePacksx4
import Derived.Test.YtlhncceabneckaaPFramePacksx5
namespace Go.Proofs.Ytlhncceabneckaa.PFramePacks
open Go.RowKit Go.Proofs.YtlhncceabneckaaW.PrintWords Go.Proofs.YtlhncceabneckaaW.PrintLast Go.Proofs.YtlhncceabneckaaW.PrintMore
attribute [local go_sem] max2_int min2_int max_two min_two max_three min_three max_four min_four   -- for this text's walks alone
set_option linter.unusedVariables false
set_option linter.unusedSimpArgs false

end Go.Proofs.Ytlhncceabneckaa.PFramePacks
