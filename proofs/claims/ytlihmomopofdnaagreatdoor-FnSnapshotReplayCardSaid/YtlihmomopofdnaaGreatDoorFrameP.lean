/-
  From a reading of a law's pairs to the plain sentences of the walks.
-/
import Derived.Test.YtlihmomopofdnaaGreatDoorFrameR
import Derived.Test.YtlihmomopofdnaaGreatDoorPair
namespace Go.Proofs.YtlihmomopofdnaaGreatDoor
open Go.ChangeShapes Go.WideShapes Go.ChangeAt Go.RowKit
set_option linter.unusedVariables false
set_option maxRecDepth 100000

section
variable {H : Type} {enc : TypeId × Value → H} {W : World} {base : Nat} {v : Value} {d : DataW H} {p : List MemPlace}
def FitP (e : ByteArray × Int) : Prop := e.1.size ≤ maxLen ∧ I64 e.2
end
theorem fit_size {es : List (ByteArray × Int)} (h : ∀ e ∈ es, FitP e) : ∀ k, k < es.length → (pk es k).size ≤ maxLen := fun k hk => by
  have hm : es.getD k (ByteArray.empty, 0) ∈ es := by
    rw [List.getD_eq_getElem?_getD, List.getElem?_eq_getElem hk]
    exact List.getElem_mem hk
  exact (h _ hm).1
end Go.Proofs.YtlihmomopofdnaaGreatDoor
