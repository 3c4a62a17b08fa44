/-
  What the rows' list gives (the table strings.asciiSpace), and the world that shows that a call fits: the heap that the program's own initialisers leave.
-/
import Derived.Test.YtapkfblkghoknaaDoorNext
import Derived.Test.YtapkfblkghoknaaDoorRows
import Derived.Deep.DeepHandedRow
import Derived.Deep.DeepWitnessRowRef
import Derived.Lib.LaidTab
import Derived.LaidMore
import Derived.ProofKit
import Derived.Stop.Joined
import Derived.Stop.LaidErr
namespace Go.Proofs.YtapkfblkghoknaaDoor
open Go.ChangeShapes Go.WideShapes Go.ChangeAt Go.RowKit

theorem Tryd.own : ownKnob Tryd.prog.godebug = none := by kernel_rfl
theorem Tryd.laidOut : laidOutB Tryd.prog = true := by kernel_rfl
def laidL : List (String × DataW Unit) := [("unicode.White_Space", Rows.laid_unicode_White_Space), ("strings.asciiSpace", Rows.laid_strings_asciiSpace)]
theorem Tryd.door_met (os : Os) (args : Array Value) : laidMet Tryd.prog laidL ((World.doorLaid Tryd.prog 33 os).forCall (fun _ _ => 0) ⟨#[], args, []⟩).memory :=
  laidMet_of_run' 8 (by kernel_rfl) (by kernel_rfl)

theorem Tryd.gSpace : Tryd.prog.globalNamed "strings.asciiSpace" = some 0 := by kernel_rfl
theorem Tryd.gSpaceType : (Tryd.prog.globals[0]?).map (·.type) = some 62 := by kernel_rfl
theorem Tryd.cells5' : Tryd.prog.cellsOf 5 = 1 := by kernel_rfl
theorem Tryd.cells62 : Tryd.prog.cellsOf 62 = 256 := by kernel_rfl
theorem space_datum : (Rows.laid_strings_asciiSpace : DataW Unit) = Lib.tabData .u8 Lib.asciiSpaceTab := by kernel_rfl
theorem Tryd.tab_of_laid {W : World} (h : laidMetH Tryd.prog laidL W) : Tab W := by
  have h1 : laidMet Tryd.prog laidL W := h
  have h2 := laidMet.tail h1
  rw [space_datum] at h2
  exact Lib.tabIs_of_head Tryd.gSpace Tryd.gSpaceType Tryd.underlying62 Tryd.underlying5 Tryd.cells5' Tryd.cells62 h2

end Go.Proofs.YtapkfblkghoknaaDoor
