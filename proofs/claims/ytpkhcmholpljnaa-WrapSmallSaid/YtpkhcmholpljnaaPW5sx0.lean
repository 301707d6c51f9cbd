/- A text of a claim: it proves what its last theorem states, for every input that the given row speaks of; conditions of ours: none. Written by this claim's own program (wip/tools/xprint.py) over the kit's printer. -/
import Derived.Test.YtpkhcmholpljnaaProg
import Derived.Below
import Derived.Deep.Draws
import Derived.Deep.AppendLies
import Derived.Maps.AppendAt
import Derived.OwnWalk
import Derived.Laws.BytesArg
import Derived.Laws.MakeOwn
import Derived.Laws.OwnMore
import Derived.Deep.OwnRows
import Derived.Tactics
import Derived.Lib.ConvBytes
import Derived.Laws.Slices
import Derived.WalkKit
import Derived.KernelRfl
import Derived.RowKit3
import Derived.Deep.LoopGhost
import Derived.Deep.QuietTactic
import Derived.BigQuiet
import Derived.WideLaws
import Derived.Deep.DeepCutAuto
import Derived.Deep.CutBlock
import Derived.Deep.RegionHeld3
import Derived.Laws.Rows
import Derived.Lib.AppendStr
import Derived.ArgAppend
import Derived.Laws.IdiomCopy
import Derived.OrdersHeld
import Derived.Laws.BitsLemmas
import Derived.RowKit
import Derived.Test.YtpkhcmholpljnaaWWords
import Derived.Test.YtpkhcmholpljnaaWLast
import Derived.Test.YtpkhcmholpljnaaWTab
import Derived.Test.YtpkhcmholpljnaaWFour
import Derived.Test.YtpkhcmholpljnaaWQPut
import Derived.Test.YtpkhcmholpljnaaWApart
import Derived.Test.YtpkhcmholpljnaaWArr
import Derived.Test.YtpkhcmholpljnaaWZeros
import Derived.Test.YtpkhcmholpljnaaWFoot
import Derived.Test.YtpkhcmholpljnaaWKept
import Derived.Test.YtpkhcmholpljnaaWShare
import Derived.Test.YtpkhcmholpljnaaWN
import Derived.Test.YtpkhcmholpljnaaWFootNe
import Derived.Test.YtpkhcmholpljnaaWAt
import Derived.Test.YtpkhcmholpljnaaWEqStruct
import Derived.Test.YtpkhcmholpljnaaWRepsOne
import Derived.Test.YtpkhcmholpljnaaWInv
import Derived.Test.YtpkhcmholpljnaaWInvWords
import Derived.Test.YtpkhcmholpljnaaWGuard
import Derived.Test.YtpkhcmholpljnaaWNEv
import Derived.Test.YtpkhcmholpljnaaWMore
namespace Go.Proofs.Ytpkhcmholpljnaa.PW5s
open Go.RowKit Go.Proofs.YtpkhcmholpljnaaW.PrintWords Go.Proofs.YtpkhcmholpljnaaW.PrintLast Go.Proofs.YtpkhcmholpljnaaW.PrintMore
attribute [local go_sem] max2_int min2_int max_two min_two max_three min_three max_four min_four   -- for this text's walks alone
set_option linter.unusedVariables false
set_option linter.unusedSimpArgs false



def errW : Option Int → Value
  | none => .nilIface
  | some c => .iface 0 (.int .i64 c)
theorem errW_none : errW none = .nilIface := rfl
theorem errW_some (c : Int) : errW (some c) = .iface 0 (.int .i64 c) := rfl

-- the values' own types

end Go.Proofs.Ytpkhcmholpljnaa.PW5s
