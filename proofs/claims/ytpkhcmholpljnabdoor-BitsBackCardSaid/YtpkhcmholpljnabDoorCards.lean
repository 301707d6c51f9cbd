/-
  DERIVED. GIVEN WITH THE SEED: THE CARDS: each row of YtpkhcmholpljnabDoorRows.lean that lists a variable, with what it lists TIED to the program's text (the seventh form; the later family's looks); each row that meets fmt, with fmt's text TOLD by the authors' own Lean function (tested against real Go, not proved from fmt's source: count such statements apart). THE CARD IS WHAT COUNTS. Prove the row's statement (the work); the ties are given (YtpkhcmholpljnabDoorTie.lean); close each card by the builder's one call (the guide's Derived/Test/ToyasCard.lean, 'card_holds'). Laid BY PROGRAM, IN A SANDBOX (cutbox-door.mjs). By AI agents, Wed Nov 11 2026. No macro, syntax, notation, axiom, sorry.
-/
import Derived.Test.YtpkhcmholpljnabDoorRows
import GoSem.ClaimSeven
namespace Go.Proofs.YtpkhcmholpljnabDoor
namespace Rows

/-- THE TIED CARD OF 'withelaw1.BitsAll'. -/
def bitsAllCard : Claim7 := { stood := { row := bitsAllRow, standIns := [], harness := (true, "386cd4cc3c5125947ed6103bc03c10b21c55f66c15efb82a7103d6738bee1c78"), looks := false }, kinds := [], alts := [], laidByText := true, laidKinds := [.data], laidTests := true, laidLooks := .later }
def BitsAllCardSaid : Prop := Claim7.holds Tryd.pinned (.plain (OpenSpec.ofChange bitsAllSpec)) bitsAllCard

/-- THE TIED CARD OF 'withelaw1.BitsBack'. -/
def bitsBackCard : Claim7 := { stood := { row := bitsBackRow, standIns := [], harness := (true, "386cd4cc3c5125947ed6103bc03c10b21c55f66c15efb82a7103d6738bee1c78"), looks := false }, kinds := [], alts := [], laidByText := true, laidKinds := [.data], laidTests := true, laidLooks := .later }
def BitsBackCardSaid : Prop := Claim7.holds Tryd.pinned (.plain (OpenSpec.ofChange bitsBackSpec)) bitsBackCard

/-- THE TIED CARD OF 'withelaw1.BitsOne'. -/
def bitsOneCard : Claim7 := { stood := { row := bitsOneRow, standIns := [], harness := (true, "386cd4cc3c5125947ed6103bc03c10b21c55f66c15efb82a7103d6738bee1c78"), looks := false }, kinds := [], alts := [], laidByText := true, laidKinds := [.data], laidTests := true, laidLooks := .later }
def BitsOneCardSaid : Prop := Claim7.holds Tryd.pinned (.plain (OpenSpec.ofChange bitsOneSpec)) bitsOneCard

/-- THE TIED CARD OF 'withelaw1.BitsRanges'. -/
def bitsRangesCard : Claim7 := { stood := { row := bitsRangesRow, standIns := [], harness := (true, "386cd4cc3c5125947ed6103bc03c10b21c55f66c15efb82a7103d6738bee1c78"), looks := false }, kinds := [], alts := [], laidByText := true, laidKinds := [.data], laidTests := true, laidLooks := .later }
def BitsRangesCardSaid : Prop := Claim7.holds Tryd.pinned (.plain (OpenSpec.ofChange bitsRangesSpec)) bitsRangesCard

/-- THE TIED CARD OF 'withelaw1.BitsWithin'. -/
def bitsWithinCard : Claim7 := { stood := { row := bitsWithinRow, standIns := [], harness := (true, "386cd4cc3c5125947ed6103bc03c10b21c55f66c15efb82a7103d6738bee1c78"), looks := false }, kinds := [], alts := [], laidByText := true, laidKinds := [.data], laidTests := true, laidLooks := .later }
def BitsWithinCardSaid : Prop := Claim7.holds Tryd.pinned (.plain (OpenSpec.ofChange bitsWithinSpec)) bitsWithinCard

/-- THE SECOND FORM's CARD OF 'withelaw1.BitsAll'. -/
def bitsAllUptoCard : Claim7 := { stood := { row := bitsAllUptoRow, standIns := [], harness := (true, "386cd4cc3c5125947ed6103bc03c10b21c55f66c15efb82a7103d6738bee1c78"), looks := false }, kinds := [], alts := [], laidByText := true, laidKinds := [.data], laidTests := true, laidLooks := .later }
def BitsAllUptoCardSaid : Prop := Claim7.holds Tryd.pinned (.plain (OpenSpec.upto bitsAllSpec)) bitsAllUptoCard

/-- THE SECOND FORM's CARD OF 'withelaw1.BitsBack'. -/
def bitsBackUptoCard : Claim7 := { stood := { row := bitsBackUptoRow, standIns := [], harness := (true, "386cd4cc3c5125947ed6103bc03c10b21c55f66c15efb82a7103d6738bee1c78"), looks := false }, kinds := [], alts := [], laidByText := true, laidKinds := [.data], laidTests := true, laidLooks := .later }
def BitsBackUptoCardSaid : Prop := Claim7.holds Tryd.pinned (.plain (OpenSpec.upto bitsBackSpec)) bitsBackUptoCard

/-- THE SECOND FORM's CARD OF 'withelaw1.BitsOne'. -/
def bitsOneUptoCard : Claim7 := { stood := { row := bitsOneUptoRow, standIns := [], harness := (true, "386cd4cc3c5125947ed6103bc03c10b21c55f66c15efb82a7103d6738bee1c78"), looks := false }, kinds := [], alts := [], laidByText := true, laidKinds := [.data], laidTests := true, laidLooks := .later }
def BitsOneUptoCardSaid : Prop := Claim7.holds Tryd.pinned (.plain (OpenSpec.upto bitsOneSpec)) bitsOneUptoCard

/-- THE SECOND FORM's CARD OF 'withelaw1.BitsRanges'. -/
def bitsRangesUptoCard : Claim7 := { stood := { row := bitsRangesUptoRow, standIns := [], harness := (true, "386cd4cc3c5125947ed6103bc03c10b21c55f66c15efb82a7103d6738bee1c78"), looks := false }, kinds := [], alts := [], laidByText := true, laidKinds := [.data], laidTests := true, laidLooks := .later }
def BitsRangesUptoCardSaid : Prop := Claim7.holds Tryd.pinned (.plain (OpenSpec.upto bitsRangesSpec)) bitsRangesUptoCard

/-- THE SECOND FORM's CARD OF 'withelaw1.BitsWithin'. -/
def bitsWithinUptoCard : Claim7 := { stood := { row := bitsWithinUptoRow, standIns := [], harness := (true, "386cd4cc3c5125947ed6103bc03c10b21c55f66c15efb82a7103d6738bee1c78"), looks := false }, kinds := [], alts := [], laidByText := true, laidKinds := [.data], laidTests := true, laidLooks := .later }
def BitsWithinUptoCardSaid : Prop := Claim7.holds Tryd.pinned (.plain (OpenSpec.upto bitsWithinSpec)) bitsWithinUptoCard
end Rows
end Go.Proofs.YtpkhcmholpljnabDoor
