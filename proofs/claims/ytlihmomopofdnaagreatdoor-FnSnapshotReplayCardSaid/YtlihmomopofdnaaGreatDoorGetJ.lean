/-
  The walk of the program's StoreGet: a look-up in the map that readStore made.
-/
import Derived.Test.YtlihmomopofdnaaGreatDoorGetI
namespace Go.Proofs.YtlihmomopofdnaaGreatDoor
open Go.RowKit Go.Maps Go.WideMaps
set_option linter.unusedVariables false

end Go.Proofs.YtlihmomopofdnaaGreatDoor
