/- What the rows list: the library's tables, as start-up code lays them; what that gives a walk; a world that meets it. -/
import Derived.Test.YtfdobpmmgmnfnaaDoorRows
import Derived.Test.YtfdobpmmgmnfnaaDoorKey3
import Derived.Stop.LaidErr
import Derived.LaidMore
import Derived.LaidLaws
import Derived.Stop.Joined
namespace Go.Proofs.YtfdobpmmgmnfnaaDoor
open Go Go.RowKit Go.ChangeShapes Go.WideShapes

abbrev laidL : List (String × DataW Unit) := [("unicode.White_Space", Rows.laid_unicode_White_Space), ("strings.asciiSpace", Rows.laid_strings_asciiSpace)]
theorem door_met (os : Os) (args : Array Value) : laidMetH Tryd.prog laidL ((World.doorLaid Tryd.prog 33 os).forCall (fun _ _ => 0) ⟨#[], args, []⟩).memory :=
  laidMetH_of_parts3 (fuel := 8) (laidMet_of_run' 8 (by kernel_rfl) (by kernel_rfl)) (by kernel_rfl) (by kernel_rfl)
theorem tab_data : (Rows.laid_strings_asciiSpace : DataW Unit) = Lib.tabData .u8 Lib.asciiSpaceTab := by kernel_rfl
theorem tab_type : (Tryd.prog.globals[0]?).map (·.type) = some 75 := by kernel_rfl
theorem tab_of_laid {W : World} (h : laidMetH Tryd.prog laidL W) : Tab W := by
  rw [MakeChecks.laidMetH_plain _ _ _ (by kernel_rfl)] at h
  have h2 := h.tail
  rw [tab_data] at h2
  exact Lib.tabIs_of_head tab_named tab_type Tryd.underlying75 Tryd.underlying5 (by kernel_rfl) (by kernel_rfl) h2
end Go.Proofs.YtfdobpmmgmnfnaaDoor
