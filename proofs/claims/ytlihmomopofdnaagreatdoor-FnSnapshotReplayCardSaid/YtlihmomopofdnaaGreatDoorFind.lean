/-
  The first pair with a key.
-/
import Derived.Test.YtlihmomopofdnaaGreatDoorStoreS
import Derived.OwnWalk
namespace Go.Proofs.YtlihmomopofdnaaGreatDoor
open Go.RowKit
set_option linter.unusedVariables false

/-- the first pair with the key -/
def findP (ps : List (ByteArray × Int)) (key : ByteArray) : Int × Bool := match ps.find? (fun p => p.1.toList == key.toList) with | some p => (p.2, true) | none => (0, false)
theorem findP_at {ps : List (ByteArray × Int)} {key : ByteArray} {k : Nat} (hk : k < ps.length) (h : ((pk ps k).toList == key.toList) = true) (hb : ∀ j, j < k → ((pk ps j).toList == key.toList) = false) : findP ps key = (pv ps k, true) := by
  have e : ps.find? (fun p => p.1.toList == key.toList) = some (pk ps k, pv ps k) := by
    rw [List.find?_eq_some_iff_getElem]
    have e1 : ps[k] = (pk ps k, pv ps k) := Option.some.inj ((List.getElem?_eq_getElem hk).symm.trans (ps_get hk))
    refine ⟨h, k, hk, e1, fun j hj => ?_⟩
    have e2 : ps[j] = (pk ps j, pv ps j) := Option.some.inj ((List.getElem?_eq_getElem (by omega)).symm.trans (ps_get (by omega)))
    rw [e2, hb j hj]
    rfl
  unfold findP
  rw [e]
theorem findP_none {ps : List (ByteArray × Int)} {key : ByteArray} (hb : ∀ j, j < ps.length → ((pk ps j).toList == key.toList) = false) : findP ps key = (0, false) := by
  have e : ps.find? (fun p => p.1.toList == key.toList) = none := by
    rw [List.find?_eq_none]
    intro x hx
    obtain ⟨j, hj, e⟩ := List.getElem_of_mem hx
    have e2 : ps[j] = (pk ps j, pv ps j) := Option.some.inj ((List.getElem?_eq_getElem hj).symm.trans (ps_get hj))
    rw [← e, e2, hb j hj]
    simp
  unfold findP
  rw [e]

def getP (ps : List (ByteArray × Int)) (key : ByteArray) : Int × Bool := if storeOk ps then findP ps key else (0, false)
end Go.Proofs.YtlihmomopofdnaaGreatDoor
