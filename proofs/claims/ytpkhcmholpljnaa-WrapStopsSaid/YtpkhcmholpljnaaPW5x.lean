-- Printed by this claim's own program (wip/tools/xprint.py) over the kit's printer.
import Derived.Test.YtpkhcmholpljnaaPW5x0
import Derived.Test.YtpkhcmholpljnaaPW5x1
import Derived.Test.YtpkhcmholpljnaaPW5x2
import Derived.Test.YtpkhcmholpljnaaPW5x3
import Derived.Test.YtpkhcmholpljnaaPW5x4
namespace Go.Proofs.Ytpkhcmholpljnaa.PW5
open Go.RowKit Go.Proofs.YtpkhcmholpljnaaW.PrintWords Go.Proofs.YtpkhcmholpljnaaW.PrintLast Go.Proofs.YtpkhcmholpljnaaW.PrintMore
attribute [local go_sem] max2_int min2_int max_two min_two max_three min_three max_four min_four   -- for this text's walks alone
set_option linter.unusedVariables false
set_option linter.unusedSimpArgs false

end Go.Proofs.Ytpkhcmholpljnaa.PW5
