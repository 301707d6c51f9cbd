/- A text of a claim (ours): the table math/bits.deBruijn64tab in a world that meets the row's condition; a world that meets it. -/
import Derived.Test.YtpkhcmholpljnabDoorRows
import Derived.Test.YtpkhcmholpljnabDoorPB1x1
import Derived.Lib.LaidTab
import Derived.Deep.DeepLaidRun
import Derived.Handed
namespace Go.Proofs.YtpkhcmholpljnabDoor.Tab64
open Go Go.RowKit
theorem tG : Tryd.prog.globalNamed "math/bits.deBruijn64tab" = some 0 := by kernel_rfl
noncomputable def tT : Nat := ((Tryd.prog.globals[0]?).map (·.type)).getD 0
theorem tGT : (Tryd.prog.globals[0]?).map (·.type) = some tT := by kernel_rfl
noncomputable def tE : Nat := match Tryd.prog.underlying tT with | some (.array _ e) => e | _ => 0
theorem tU : Tryd.prog.underlying tT = some (.array 64 tE) := by kernel_rfl
theorem tUE : Tryd.prog.underlying tE = some (.int .u8) := by kernel_rfl
theorem tCE : Tryd.prog.cellsOf tE = 1 := by kernel_rfl
theorem tCT : Tryd.prog.cellsOf tT = 64 := by kernel_rfl
def tab : List Int := (Lib.deBruijn64tab : List Nat).map Int.ofNat
theorem tab_eq : (Rows.laid_math_bits_deBruijn64tab : DataW Unit) = Lib.tabData .u8 tab := rfl

theorem tab_of_laid {W : World} (h : laidMet Tryd.prog [("math/bits.deBruijn64tab", Rows.laid_math_bits_deBruijn64tab)] W) : PB1.TabW W := by
  have ht : Lib.TabIs Tryd.prog W "math/bits.deBruijn64tab" .u8 tab := Lib.tabIs_of_head tG tGT tU tUE tCE tCT h
  intro j hj
  have h1 := ht.cell tG j hj
  exact h1.trans (by
    have e : tab.getD j 0 = ((Lib.deBruijn64tab.getD j 0 : Nat) : Int) := by
      have : ∀ j : Fin 64, tab.getD j.1 0 = ((Lib.deBruijn64tab.getD j.1 0 : Nat) : Int) := by decide
      exact this ⟨j, hj⟩
    first | (rw [e]) | (simp only [List.getD_eq_getElem?_getD] at e ⊢; rw [e]) | (rw [← e]; simp [List.getD_eq_getElem?_getD]))

/-- A world that meets the condition: the settled one, the table laid. -/
noncomputable def laidWorld (os : Os) : World :=
  { World.holding Tryd.prog os ⟨#[], #[], []⟩ with heap := (World.holding Tryd.prog os ⟨#[], #[], []⟩).heap.modify 0 fun
      | .cells _ t frozen => .cells (tab.map fun z => Value.int .u8 z).toArray t frozen
      | o => o }
set_option maxRecDepth 100000 in
theorem laidWorld_met (os : Os) (args : Array Value) : laidMet Tryd.prog [("math/bits.deBruijn64tab", Rows.laid_math_bits_deBruijn64tab)] ((laidWorld os).forCall (fun _ _ => 0) ⟨#[], args, []⟩).memory :=
  laidMet_of_run3 8 (by kernel_rfl) (by kernel_rfl) (by kernel_rfl)
end Go.Proofs.YtpkhcmholpljnabDoor.Tab64
