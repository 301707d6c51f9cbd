/-
  NARROWER THAN 'FOR EVERY INPUT', by the rows' own cells (each row's printed sentence says how): EvalAll: loops.
  DERIVED. THE GIVEN ROWS OF THIS SEAT. 6 by the template 'for every input the law returns true; each argument reads behind the call as it read before'; 0 by the template 'total and deterministic' (their statements: YtpkhcmholpljnaaTotals.lean).
  GIVEN WITH THE SEED: the statements are not yours to turn. If you find one false, say at which input.
  Laid BY PROGRAM, IN A SANDBOX (cutbox-rows.mjs): the forced cells as the released guide's own fill.sh prints them over the translation 5571b3930504c493… (all of the seat's roots in one cut). By AI agents, Wed Nov 11 2026. No macro, syntax, notation, axiom, sorry.
-/
import Derived.Test.YtpkhcmholpljnaaChecked
import GoSem.Claim
import GoSem.ClaimJoined
import GoSem.ClaimMapViews
import Derived.JoinedTies
import Derived.KernelRfl
namespace Go.Proofs.Ytpkhcmholpljnaa
/- THE CELL 'sum', in the pinned program and in every row, IS THE sha256 OF THE DUMP (.gsa) THAT YtpkhcmholpljnaaProg.lean LOADS. Nothing in Lean hashes anything: it is a label: what it is worth is what the hold of that sum in a sandbox is worth. -/
noncomputable def Try.pinned : Pinned := { name := "ytpkhcmholpljnaa", sum := "5571b3930504c4939a5988a10cee08039e46927d344d0cdfdacd86b66eced1e7", checked := Try.checked }
namespace Rows
def none {H : Type} : Left H := { results := [], args := [] }

/-- 'withelaw5.WrapAll': WHATEVER THE INPUT: true; the input reads as it did. -/
def wrapAllSpec : ChangeSpec := { name := "wrapAll", fn := fun _ => fun
  | [d1, d2, d3] => { results := [.lit (.bool true)], args := [d1, d2, d3] }
  | _ => none }
def wrapAllRow : OpenClaim := { program := "ytpkhcmholpljnaa", sum := "5571b3930504c4939a5988a10cee08039e46927d344d0cdfdacd86b66eced1e7", func := "withe/withelaw5.WrapAll", spec := "wrapAll", unfollowed := true, recurses := true, apart := false }
def WrapAllSaid : Prop := wrapAllRow.holds Try.pinned (OpenSpec.ofChange wrapAllSpec)

/-- ITS FALSE NEIGHBOUR: 'it returns false'. Refute it at one input. -/
def wrapAllWrong : ChangeSpec := { name := "wrapAll", fn := fun _ => fun
  | [d1, d2, d3] => { results := [.lit (.bool false)], args := [d1, d2, d3] }
  | _ => none }
def WrapAllWrongFalsely : Prop := wrapAllRow.holds Try.pinned (OpenSpec.ofChange wrapAllWrong)

/-- 'withelaw5.WrapRing': WHATEVER THE INPUT: true; the input reads as it did. -/
def wrapRingSpec : ChangeSpec := { name := "wrapRing", fn := fun _ => fun
  | [d1, d2, d3, d4] => { results := [.lit (.bool true)], args := [d1, d2, d3, d4] }
  | _ => none }
def wrapRingRow : OpenClaim := { program := "ytpkhcmholpljnaa", sum := "5571b3930504c4939a5988a10cee08039e46927d344d0cdfdacd86b66eced1e7", func := "withe/withelaw5.WrapRing", spec := "wrapRing", unfollowed := true, recurses := true, apart := false }
def WrapRingSaid : Prop := wrapRingRow.holds Try.pinned (OpenSpec.ofChange wrapRingSpec)

/-- ITS FALSE NEIGHBOUR: 'it returns false'. Refute it at one input. -/
def wrapRingWrong : ChangeSpec := { name := "wrapRing", fn := fun _ => fun
  | [d1, d2, d3, d4] => { results := [.lit (.bool false)], args := [d1, d2, d3, d4] }
  | _ => none }
def WrapRingWrongFalsely : Prop := wrapRingRow.holds Try.pinned (OpenSpec.ofChange wrapRingWrong)

/-- 'withelaw5.WrapStops': WHATEVER THE INPUT: true; the input reads as it did. -/
def wrapStopsSpec : ChangeSpec := { name := "wrapStops", fn := fun _ => fun
  | [d1, d2, d3, d4] => { results := [.lit (.bool true)], args := [d1, d2, d3, d4] }
  | _ => none }
def wrapStopsRow : OpenClaim := { program := "ytpkhcmholpljnaa", sum := "5571b3930504c4939a5988a10cee08039e46927d344d0cdfdacd86b66eced1e7", func := "withe/withelaw5.WrapStops", spec := "wrapStops", unfollowed := true, recurses := true, apart := false }
def WrapStopsSaid : Prop := wrapStopsRow.holds Try.pinned (OpenSpec.ofChange wrapStopsSpec)

/-- ITS FALSE NEIGHBOUR: 'it returns false'. Refute it at one input. -/
def wrapStopsWrong : ChangeSpec := { name := "wrapStops", fn := fun _ => fun
  | [d1, d2, d3, d4] => { results := [.lit (.bool false)], args := [d1, d2, d3, d4] }
  | _ => none }
def WrapStopsWrongFalsely : Prop := wrapStopsRow.holds Try.pinned (OpenSpec.ofChange wrapStopsWrong)

/-- 'withelaw5.WrapSmall': WHATEVER THE INPUT: true; the input reads as it did. -/
def wrapSmallSpec : ChangeSpec := { name := "wrapSmall", fn := fun _ => fun
  | [d1, d2, d3] => { results := [.lit (.bool true)], args := [d1, d2, d3] }
  | _ => none }
def wrapSmallRow : OpenClaim := { program := "ytpkhcmholpljnaa", sum := "5571b3930504c4939a5988a10cee08039e46927d344d0cdfdacd86b66eced1e7", func := "withe/withelaw5.WrapSmall", spec := "wrapSmall", unfollowed := true, recurses := true, apart := false }
def WrapSmallSaid : Prop := wrapSmallRow.holds Try.pinned (OpenSpec.ofChange wrapSmallSpec)

/-- ITS FALSE NEIGHBOUR: 'it returns false'. Refute it at one input. -/
def wrapSmallWrong : ChangeSpec := { name := "wrapSmall", fn := fun _ => fun
  | [d1, d2, d3] => { results := [.lit (.bool false)], args := [d1, d2, d3] }
  | _ => none }
def WrapSmallWrongFalsely : Prop := wrapSmallRow.holds Try.pinned (OpenSpec.ofChange wrapSmallWrong)

/-- 'withelaw10.EvalAll': WHATEVER THE INPUT: true; the input reads as it did. -/
def evalAllSpec : ChangeSpec := { name := "evalAll", fn := fun _ => fun
  | [d1, d2, d3, d4] => { results := [.lit (.bool true)], args := [d1, d2, d3, d4] }
  | _ => none }
def evalAllRow : OpenClaim := { program := "ytpkhcmholpljnaa", sum := "5571b3930504c4939a5988a10cee08039e46927d344d0cdfdacd86b66eced1e7", func := "withe/withelaw10.EvalAll", spec := "evalAll", unfollowed := true, recurses := true, loops := true, apart := false }
def EvalAllSaid : Prop := evalAllRow.holds Try.pinned (OpenSpec.ofChange evalAllSpec)

/-- ITS FALSE NEIGHBOUR: 'it returns false'. Refute it at one input. -/
def evalAllWrong : ChangeSpec := { name := "evalAll", fn := fun _ => fun
  | [d1, d2, d3, d4] => { results := [.lit (.bool false)], args := [d1, d2, d3, d4] }
  | _ => none }
def EvalAllWrongFalsely : Prop := evalAllRow.holds Try.pinned (OpenSpec.ofChange evalAllWrong)

/-- 'withelaw10.EvalMade': WHATEVER THE INPUT: true; the input reads as it did. -/
def evalMadeSpec : ChangeSpec := { name := "evalMade", fn := fun _ => fun
  | [d1, d2, d3, d4] => { results := [.lit (.bool true)], args := [d1, d2, d3, d4] }
  | _ => none }
def evalMadeRow : OpenClaim := { program := "ytpkhcmholpljnaa", sum := "5571b3930504c4939a5988a10cee08039e46927d344d0cdfdacd86b66eced1e7", func := "withe/withelaw10.EvalMade", spec := "evalMade", unfollowed := true, recurses := true, apart := false }
def EvalMadeSaid : Prop := evalMadeRow.holds Try.pinned (OpenSpec.ofChange evalMadeSpec)

/-- ITS FALSE NEIGHBOUR: 'it returns false'. Refute it at one input. -/
def evalMadeWrong : ChangeSpec := { name := "evalMade", fn := fun _ => fun
  | [d1, d2, d3, d4] => { results := [.lit (.bool false)], args := [d1, d2, d3, d4] }
  | _ => none }
def EvalMadeWrongFalsely : Prop := evalMadeRow.holds Try.pinned (OpenSpec.ofChange evalMadeWrong)

/- THE SECOND FORM. 'bulk': how many values and letters a reading holds, each counted each time it is reached (what is shared counts as often as it is met; a slice's spare places count too). A statement '..UptoSaid' is the law's where the arguments, and the package variables that the reading takes, are together of bulk at most 1048576: NARROWER than '..Said'. Prove '..Said' where nothing that the law and all that it calls make is longer than what came in: it says more and counts as full. Else prove '..UptoSaid'. A law counts once. -/
mutual
def uptoBulk {H : Type} : DataW H → Nat
  | .lit (.string bytes) => bytes.length + 1
  | .lit _ => 1
  | .nil => 1
  | .ptr d => uptoBulk d + 1
  | .slice elems spare => uptoBulkAll elems + uptoBulkAll spare + 1
  | .agg parts => uptoBulkAll parts + 1
  | .iface _ d => uptoBulk d + 1
  | .map entries => uptoBulkEntries entries + 1
  | .held _ => 1
def uptoBulkAll {H : Type} : List (DataW H) → Nat
  | [] => 0
  | d :: r => uptoBulk d + uptoBulkAll r
def uptoBulkEntries {H : Type} : List (Lit × DataW H) → Nat
  | [] => 0
  | x :: r => uptoBulkEntry x + uptoBulkEntries r
def uptoBulkEntry {H : Type} : Lit × DataW H → Nat
  | (.string bytes, d) => bytes.length + uptoBulk d + 1
  | (_, d) => uptoBulk d + 1
 end
def uptoSmall : (H : Type) → List (DataW H) → Bool := fun _ ds => decide (uptoBulkAll ds ≤ 1048576)
def OpenSpec.upto (s : _root_.Go.ChangeSpec) : _root_.Go.OpenSpec := { _root_.Go.OpenSpec.ofChange s with cond := some uptoSmall }

/-- 'withelaw5.WrapAll', WHERE WHAT IT READS IS OF BULK AT MOST 1048576: true; the input reads as it did. -/
def wrapAllUptoRow : OpenClaim := { program := "ytpkhcmholpljnaa", sum := "5571b3930504c4939a5988a10cee08039e46927d344d0cdfdacd86b66eced1e7", func := "withe/withelaw5.WrapAll", spec := "wrapAll", unfollowed := true, recurses := true, apart := false, narrowed := true }
def WrapAllUptoSaid : Prop := wrapAllUptoRow.holds Try.pinned (OpenSpec.upto wrapAllSpec)

/-- 'withelaw5.WrapRing', WHERE WHAT IT READS IS OF BULK AT MOST 1048576: true; the input reads as it did. -/
def wrapRingUptoRow : OpenClaim := { program := "ytpkhcmholpljnaa", sum := "5571b3930504c4939a5988a10cee08039e46927d344d0cdfdacd86b66eced1e7", func := "withe/withelaw5.WrapRing", spec := "wrapRing", unfollowed := true, recurses := true, apart := false, narrowed := true }
def WrapRingUptoSaid : Prop := wrapRingUptoRow.holds Try.pinned (OpenSpec.upto wrapRingSpec)

/-- 'withelaw5.WrapStops', WHERE WHAT IT READS IS OF BULK AT MOST 1048576: true; the input reads as it did. -/
def wrapStopsUptoRow : OpenClaim := { program := "ytpkhcmholpljnaa", sum := "5571b3930504c4939a5988a10cee08039e46927d344d0cdfdacd86b66eced1e7", func := "withe/withelaw5.WrapStops", spec := "wrapStops", unfollowed := true, recurses := true, apart := false, narrowed := true }
def WrapStopsUptoSaid : Prop := wrapStopsUptoRow.holds Try.pinned (OpenSpec.upto wrapStopsSpec)

/-- 'withelaw5.WrapSmall', WHERE WHAT IT READS IS OF BULK AT MOST 1048576: true; the input reads as it did. -/
def wrapSmallUptoRow : OpenClaim := { program := "ytpkhcmholpljnaa", sum := "5571b3930504c4939a5988a10cee08039e46927d344d0cdfdacd86b66eced1e7", func := "withe/withelaw5.WrapSmall", spec := "wrapSmall", unfollowed := true, recurses := true, apart := false, narrowed := true }
def WrapSmallUptoSaid : Prop := wrapSmallUptoRow.holds Try.pinned (OpenSpec.upto wrapSmallSpec)

/-- 'withelaw10.EvalAll', WHERE WHAT IT READS IS OF BULK AT MOST 1048576: true; the input reads as it did. -/
def evalAllUptoRow : OpenClaim := { program := "ytpkhcmholpljnaa", sum := "5571b3930504c4939a5988a10cee08039e46927d344d0cdfdacd86b66eced1e7", func := "withe/withelaw10.EvalAll", spec := "evalAll", unfollowed := true, recurses := true, loops := true, apart := false, narrowed := true }
def EvalAllUptoSaid : Prop := evalAllUptoRow.holds Try.pinned (OpenSpec.upto evalAllSpec)

/-- 'withelaw10.EvalMade', WHERE WHAT IT READS IS OF BULK AT MOST 1048576: true; the input reads as it did. -/
def evalMadeUptoRow : OpenClaim := { program := "ytpkhcmholpljnaa", sum := "5571b3930504c4939a5988a10cee08039e46927d344d0cdfdacd86b66eced1e7", func := "withe/withelaw10.EvalMade", spec := "evalMade", unfollowed := true, recurses := true, apart := false, narrowed := true }
def EvalMadeUptoSaid : Prop := evalMadeUptoRow.holds Try.pinned (OpenSpec.upto evalMadeSpec)

end Rows
end Go.Proofs.Ytpkhcmholpljnaa
