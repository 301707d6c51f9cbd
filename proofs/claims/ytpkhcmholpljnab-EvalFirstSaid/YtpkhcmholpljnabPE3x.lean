/- A text of a claim: it proves what its last theorem states, for every input that the given row speaks of; conditions of ours: none. Written by this claim's own program (wip/tools/xprint.py) over the kit's printer. -/
import Derived.Test.YtpkhcmholpljnabPE3x0
import Derived.Test.YtpkhcmholpljnabPE3x1
import Derived.Test.YtpkhcmholpljnabPE3x2
import Derived.Test.YtpkhcmholpljnabPE3x3
import Derived.Test.YtpkhcmholpljnabPE3x4
namespace Go.Proofs.Ytpkhcmholpljnab.PE3
open Go.RowKit Go.Proofs.YtpkhcmholpljnabW.PrintWords Go.Proofs.YtpkhcmholpljnabW.PrintLast Go.Proofs.YtpkhcmholpljnabW.PrintMore
attribute [local go_sem] max2_int min2_int max_two min_two max_three min_three max_four min_four   -- for this text's walks alone
set_option linter.unusedVariables false
set_option linter.unusedSimpArgs false

end Go.Proofs.Ytpkhcmholpljnab.PE3
