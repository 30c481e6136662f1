/-
  The condition of the rows that list the three number tables: a world that meets it.
-/
import Derived.Test.YtlihmomopofdnaaDoorFrame
import Derived.LaidLaws
import Derived.LaidHandle
import Derived.ChangeVars
import Derived.JoinedOf
import Derived.Stop.Joined
import Derived.Lay
import Derived.MakeChecks
namespace Go.Proofs.YtlihmomopofdnaaDoor
open Go.ChangeShapes Go.WideShapes Go.ChangeAt Go.RowKit
set_option linter.unusedVariables false

def laidL : List (String × DataW Unit) := [("math/bits.deBruijn32tab", Rows.laid_math_bits_deBruijn32tab), ("math/bits.deBruijn64tab", Rows.laid_math_bits_deBruijn64tab), ("internal/strconv.uint64pow10", Rows.laid_internal_strconv_uint64pow10)]
noncomputable def laidWorld (os : Os) : World := World.laidAll Tryd.prog os laidL
theorem laidWorld_os (os : Os) : (laidWorld os).os = os := World.laidAll_os _ _ _
theorem laidWorld_met (os : Os) (args : Array Value) : laidMetH Tryd.prog laidL ((laidWorld os).forCall (fun _ _ => 0) ⟨#[], args, []⟩).memory := by
  rw [MakeChecks.laidMetH_plain _ _ _ (by kernel_rfl)]
  exact laidMet_laidAll _ (by kernel_rfl) (by kernel_rfl)
end Go.Proofs.YtlihmomopofdnaaDoor
