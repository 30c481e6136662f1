/-
  The walk of the program's StoreApply.
-/
import Derived.Test.YtlihmomopofdnaaGreatDoorBindW
import Derived.Test.YtlihmomopofdnaaGreatDoorPrsI
namespace Go.Proofs.YtlihmomopofdnaaGreatDoor
open Go.RowKit Go.Maps Go.WideMaps
set_option linter.unusedVariables false

def applyS (ps : List (ByteArray × Int)) (op : Int) (key : ByteArray) (val exp : Int) : List (ByteArray × Int) × Bool := if storeOk ps = true then applyP ps op key val exp else ([], false)
def RetApply (w : World) (z : List (ByteArray × Int) × Bool) (e : Ending) (w' : World) : Prop := ∃ v, e = .returned (.tuple #[v, .bool z.2]) ∧ PrsO w' w.heap.size w'.heap.size v z.1 ∧ Below w.heap.size w w'

end Go.Proofs.YtlihmomopofdnaaGreatDoor
