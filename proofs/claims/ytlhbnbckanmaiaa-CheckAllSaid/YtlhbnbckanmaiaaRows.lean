/-
  NARROWER THAN 'FOR EVERY INPUT', by the rows' own cells (each row's printed sentence says how): CheckAll: loops.
  DERIVED. THE GIVEN ROWS OF THIS SEAT. 6 by the template 'for every input the law returns true; each argument reads behind the call as it read before'; 0 by the template 'total and deterministic' (their statements: YtlhbnbckanmaiaaTotals.lean).
  GIVEN WITH THE SEED: the statements are not yours to turn. If you find one false, say at which input.
  Laid BY PROGRAM, IN A SANDBOX (cutbox-rows.mjs): the forced cells as the released guide's own fill.sh prints them over the translation c86221ac997b37f8… (all of the seat's roots in one cut). By AI agents, Wed Nov 11 2026. No macro, syntax, notation, axiom, sorry.
-/
import Derived.Test.YtlhbnbckanmaiaaChecked
import GoSem.Claim
import GoSem.ClaimJoined
import GoSem.ClaimMapViews
import Derived.JoinedTies
import Derived.KernelRfl
namespace Go.Proofs.Ytlhbnbckanmaiaa
/- THE CELL 'sum', in the pinned program and in every row, IS THE sha256 OF THE DUMP (.gsa) THAT YtlhbnbckanmaiaaProg.lean LOADS. Nothing in Lean hashes anything: it is a label: what it is worth is what the hold of that sum in a sandbox is worth. -/
noncomputable def Try.pinned : Pinned := { name := "ytlhbnbckanmaiaa", sum := "c86221ac997b37f85f52d645308fd1d7f8bef653f8448fdcb7003e4d65d7bf91", checked := Try.checked }
namespace Rows
def none {H : Type} : Left H := { results := [], args := [] }

/-- 'withelaw9.CheckAll': WHATEVER THE INPUT: true; the input reads as it did. -/
def checkAllSpec : ChangeSpec := { name := "checkAll", fn := fun _ => fun
  | [d] => { results := [.lit (.bool true)], args := [d] }
  | _ => none }
def checkAllRow : OpenClaim := { program := "ytlhbnbckanmaiaa", sum := "c86221ac997b37f85f52d645308fd1d7f8bef653f8448fdcb7003e4d65d7bf91", func := "withe/withelaw9.CheckAll", spec := "checkAll", unfollowed := true, recurses := true, loops := true, apart := false }
def CheckAllSaid : Prop := checkAllRow.holds Try.pinned (OpenSpec.ofChange checkAllSpec)

/-- ITS FALSE NEIGHBOUR: 'it returns false'. Refute it at one input. -/
def checkAllWrong : ChangeSpec := { name := "checkAll", fn := fun _ => fun
  | [d] => { results := [.lit (.bool false)], args := [d] }
  | _ => none }
def CheckAllWrongFalsely : Prop := checkAllRow.holds Try.pinned (OpenSpec.ofChange checkAllWrong)

/-- 'withelaw9.CheckText': WHATEVER THE INPUT: true; the input reads as it did. -/
def checkTextSpec : ChangeSpec := { name := "checkText", fn := fun _ => fun
  | [d] => { results := [.lit (.bool true)], args := [d] }
  | _ => none }
def checkTextRow : OpenClaim := { program := "ytlhbnbckanmaiaa", sum := "c86221ac997b37f85f52d645308fd1d7f8bef653f8448fdcb7003e4d65d7bf91", func := "withe/withelaw9.CheckText", spec := "checkText", unfollowed := true, recurses := true, apart := false }
def CheckTextSaid : Prop := checkTextRow.holds Try.pinned (OpenSpec.ofChange checkTextSpec)

/-- ITS FALSE NEIGHBOUR: 'it returns false'. Refute it at one input. -/
def checkTextWrong : ChangeSpec := { name := "checkText", fn := fun _ => fun
  | [d] => { results := [.lit (.bool false)], args := [d] }
  | _ => none }
def CheckTextWrongFalsely : Prop := checkTextRow.holds Try.pinned (OpenSpec.ofChange checkTextWrong)

/-- 'withelaw9.CheckMade': WHATEVER THE INPUT: true; the input reads as it did. -/
def checkMadeSpec : ChangeSpec := { name := "checkMade", fn := fun _ => fun
  | [d] => { results := [.lit (.bool true)], args := [d] }
  | _ => none }
def checkMadeRow : OpenClaim := { program := "ytlhbnbckanmaiaa", sum := "c86221ac997b37f85f52d645308fd1d7f8bef653f8448fdcb7003e4d65d7bf91", func := "withe/withelaw9.CheckMade", spec := "checkMade", unfollowed := true, recurses := true, apart := false }
def CheckMadeSaid : Prop := checkMadeRow.holds Try.pinned (OpenSpec.ofChange checkMadeSpec)

/-- ITS FALSE NEIGHBOUR: 'it returns false'. Refute it at one input. -/
def checkMadeWrong : ChangeSpec := { name := "checkMade", fn := fun _ => fun
  | [d] => { results := [.lit (.bool false)], args := [d] }
  | _ => none }
def CheckMadeWrongFalsely : Prop := checkMadeRow.holds Try.pinned (OpenSpec.ofChange checkMadeWrong)

/-- 'withelaw9.CheckInits': WHATEVER THE INPUT: true; the input reads as it did. -/
def checkInitsSpec : ChangeSpec := { name := "checkInits", fn := fun _ => fun
  | [d1, d2, d3] => { results := [.lit (.bool true)], args := [d1, d2, d3] }
  | _ => none }
def checkInitsRow : OpenClaim := { program := "ytlhbnbckanmaiaa", sum := "c86221ac997b37f85f52d645308fd1d7f8bef653f8448fdcb7003e4d65d7bf91", func := "withe/withelaw9.CheckInits", spec := "checkInits", unfollowed := true, recurses := true, apart := false }
def CheckInitsSaid : Prop := checkInitsRow.holds Try.pinned (OpenSpec.ofChange checkInitsSpec)

/-- ITS FALSE NEIGHBOUR: 'it returns false'. Refute it at one input. -/
def checkInitsWrong : ChangeSpec := { name := "checkInits", fn := fun _ => fun
  | [d1, d2, d3] => { results := [.lit (.bool false)], args := [d1, d2, d3] }
  | _ => none }
def CheckInitsWrongFalsely : Prop := checkInitsRow.holds Try.pinned (OpenSpec.ofChange checkInitsWrong)

/-- 'withelaw9.CheckStmts': WHATEVER THE INPUT: true; the input reads as it did. -/
def checkStmtsSpec : ChangeSpec := { name := "checkStmts", fn := fun _ => fun
  | [d1, d2] => { results := [.lit (.bool true)], args := [d1, d2] }
  | _ => none }
def checkStmtsRow : OpenClaim := { program := "ytlhbnbckanmaiaa", sum := "c86221ac997b37f85f52d645308fd1d7f8bef653f8448fdcb7003e4d65d7bf91", func := "withe/withelaw9.CheckStmts", spec := "checkStmts", unfollowed := true, recurses := true, apart := false }
def CheckStmtsSaid : Prop := checkStmtsRow.holds Try.pinned (OpenSpec.ofChange checkStmtsSpec)

/-- ITS FALSE NEIGHBOUR: 'it returns false'. Refute it at one input. -/
def checkStmtsWrong : ChangeSpec := { name := "checkStmts", fn := fun _ => fun
  | [d1, d2] => { results := [.lit (.bool false)], args := [d1, d2] }
  | _ => none }
def CheckStmtsWrongFalsely : Prop := checkStmtsRow.holds Try.pinned (OpenSpec.ofChange checkStmtsWrong)

/-- 'withelaw9.CheckLimits': WHATEVER THE INPUT: true; the input reads as it did. -/
def checkLimitsSpec : ChangeSpec := { name := "checkLimits", fn := fun _ => fun
  | [d1, d2, d3, d4] => { results := [.lit (.bool true)], args := [d1, d2, d3, d4] }
  | _ => none }
def checkLimitsRow : OpenClaim := { program := "ytlhbnbckanmaiaa", sum := "c86221ac997b37f85f52d645308fd1d7f8bef653f8448fdcb7003e4d65d7bf91", func := "withe/withelaw9.CheckLimits", spec := "checkLimits", unfollowed := true, recurses := true, apart := false }
def CheckLimitsSaid : Prop := checkLimitsRow.holds Try.pinned (OpenSpec.ofChange checkLimitsSpec)

/-- ITS FALSE NEIGHBOUR: 'it returns false'. Refute it at one input. -/
def checkLimitsWrong : ChangeSpec := { name := "checkLimits", fn := fun _ => fun
  | [d1, d2, d3, d4] => { results := [.lit (.bool false)], args := [d1, d2, d3, d4] }
  | _ => none }
def CheckLimitsWrongFalsely : Prop := checkLimitsRow.holds Try.pinned (OpenSpec.ofChange checkLimitsWrong)

/- THE SECOND FORM. 'bulk': how many values and letters a reading holds, each counted each time it is reached (what is shared counts as often as it is met; a slice's spare places count too). A statement '..UptoSaid' is the law's where the arguments, and the package variables that the reading takes, are together of bulk at most 1048576: NARROWER than '..Said'. Prove '..Said' where nothing that the law and all that it calls make is longer than what came in: it says more and counts as full. Else prove '..UptoSaid'. A law counts once. -/
mutual
def uptoBulk {H : Type} : DataW H → Nat
  | .lit (.string bytes) => bytes.length + 1
  | .lit _ => 1
  | .nil => 1
  | .ptr d => uptoBulk d + 1
  | .slice elems spare => uptoBulkAll elems + uptoBulkAll spare + 1
  | .agg parts => uptoBulkAll parts + 1
  | .iface _ d => uptoBulk d + 1
  | .map entries => uptoBulkEntries entries + 1
  | .held _ => 1
def uptoBulkAll {H : Type} : List (DataW H) → Nat
  | [] => 0
  | d :: r => uptoBulk d + uptoBulkAll r
def uptoBulkEntries {H : Type} : List (Lit × DataW H) → Nat
  | [] => 0
  | x :: r => uptoBulkEntry x + uptoBulkEntries r
def uptoBulkEntry {H : Type} : Lit × DataW H → Nat
  | (.string bytes, d) => bytes.length + uptoBulk d + 1
  | (_, d) => uptoBulk d + 1
 end
def uptoSmall : (H : Type) → List (DataW H) → Bool := fun _ ds => decide (uptoBulkAll ds ≤ 1048576)
def OpenSpec.upto (s : _root_.Go.ChangeSpec) : _root_.Go.OpenSpec := { _root_.Go.OpenSpec.ofChange s with cond := some uptoSmall }

/-- 'withelaw9.CheckAll', WHERE WHAT IT READS IS OF BULK AT MOST 1048576: true; the input reads as it did. -/
def checkAllUptoRow : OpenClaim := { program := "ytlhbnbckanmaiaa", sum := "c86221ac997b37f85f52d645308fd1d7f8bef653f8448fdcb7003e4d65d7bf91", func := "withe/withelaw9.CheckAll", spec := "checkAll", unfollowed := true, recurses := true, loops := true, apart := false, narrowed := true }
def CheckAllUptoSaid : Prop := checkAllUptoRow.holds Try.pinned (OpenSpec.upto checkAllSpec)

/-- 'withelaw9.CheckText', WHERE WHAT IT READS IS OF BULK AT MOST 1048576: true; the input reads as it did. -/
def checkTextUptoRow : OpenClaim := { program := "ytlhbnbckanmaiaa", sum := "c86221ac997b37f85f52d645308fd1d7f8bef653f8448fdcb7003e4d65d7bf91", func := "withe/withelaw9.CheckText", spec := "checkText", unfollowed := true, recurses := true, apart := false, narrowed := true }
def CheckTextUptoSaid : Prop := checkTextUptoRow.holds Try.pinned (OpenSpec.upto checkTextSpec)

/-- 'withelaw9.CheckMade', WHERE WHAT IT READS IS OF BULK AT MOST 1048576: true; the input reads as it did. -/
def checkMadeUptoRow : OpenClaim := { program := "ytlhbnbckanmaiaa", sum := "c86221ac997b37f85f52d645308fd1d7f8bef653f8448fdcb7003e4d65d7bf91", func := "withe/withelaw9.CheckMade", spec := "checkMade", unfollowed := true, recurses := true, apart := false, narrowed := true }
def CheckMadeUptoSaid : Prop := checkMadeUptoRow.holds Try.pinned (OpenSpec.upto checkMadeSpec)

/-- 'withelaw9.CheckInits', WHERE WHAT IT READS IS OF BULK AT MOST 1048576: true; the input reads as it did. -/
def checkInitsUptoRow : OpenClaim := { program := "ytlhbnbckanmaiaa", sum := "c86221ac997b37f85f52d645308fd1d7f8bef653f8448fdcb7003e4d65d7bf91", func := "withe/withelaw9.CheckInits", spec := "checkInits", unfollowed := true, recurses := true, apart := false, narrowed := true }
def CheckInitsUptoSaid : Prop := checkInitsUptoRow.holds Try.pinned (OpenSpec.upto checkInitsSpec)

/-- 'withelaw9.CheckStmts', WHERE WHAT IT READS IS OF BULK AT MOST 1048576: true; the input reads as it did. -/
def checkStmtsUptoRow : OpenClaim := { program := "ytlhbnbckanmaiaa", sum := "c86221ac997b37f85f52d645308fd1d7f8bef653f8448fdcb7003e4d65d7bf91", func := "withe/withelaw9.CheckStmts", spec := "checkStmts", unfollowed := true, recurses := true, apart := false, narrowed := true }
def CheckStmtsUptoSaid : Prop := checkStmtsUptoRow.holds Try.pinned (OpenSpec.upto checkStmtsSpec)

/-- 'withelaw9.CheckLimits', WHERE WHAT IT READS IS OF BULK AT MOST 1048576: true; the input reads as it did. -/
def checkLimitsUptoRow : OpenClaim := { program := "ytlhbnbckanmaiaa", sum := "c86221ac997b37f85f52d645308fd1d7f8bef653f8448fdcb7003e4d65d7bf91", func := "withe/withelaw9.CheckLimits", spec := "checkLimits", unfollowed := true, recurses := true, apart := false, narrowed := true }
def CheckLimitsUptoSaid : Prop := checkLimitsUptoRow.holds Try.pinned (OpenSpec.upto checkLimitsSpec)

end Rows
end Go.Proofs.Ytlhbnbckanmaiaa
