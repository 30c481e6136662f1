/-
  The walks of the exact laws' own small functions on pairs: copied, equal, measured.
-/
import Derived.Test.YtlihmomopofdnaaGreatDoorPair
import Derived.Deep.RegionHeld3
namespace Go.Proofs.YtlihmomopofdnaaGreatDoor
open Go.RowKit
set_option linter.unusedVariables false

theorem pair_cells {w : World} {b o : Nat} {x : ByteArray × Int} (h : ∀ j u, (encP.enc x)[j]? = some u → w.cell? ⟨b, o + j, none⟩ = some u) : w.cell? ⟨b, o, none⟩ = some (.string x.1) ∧ w.cell? ⟨b, o + 1, none⟩ = some (.int .i64 x.2) :=
  ⟨h 0 _ rfl, h 1 _ rfl⟩
/-- the first k elements agree -/
def eqToE (xs ys : List (ByteArray × Int)) (k : Nat) : Prop := ∀ j, j < k → xs[j]? = ys[j]?
theorem eqToE_zero (xs ys : List (ByteArray × Int)) : eqToE xs ys 0 := fun j h => absurd h (by omega)
theorem eqToE_set {xs ys : List (ByteArray × Int)} {k : Nat} {x : ByteArray × Int} (hl : xs.length = ys.length) (hk : k < xs.length) (h : eqToE xs ys k) (e : ys[k]? = some x) : eqToE (xs.set k x) ys (k + 1) := fun j hj => by
  by_cases c : k = j
  · subst c; rw [List.getElem?_set_self hk, e]
  · rw [List.getElem?_set_ne c]; exact h j (by omega)
theorem eq_of_eqToE {xs ys : List (ByteArray × Int)} (hl : xs.length = ys.length) {k : Nat} (hk : ¬ k < xs.length) (h : eqToE xs ys k) : xs = ys := by
  refine List.ext_getElem? fun j => ?_
  by_cases hj : j < xs.length
  · exact h j (by omega)
  · rw [List.getElem?_eq_none (by omega), List.getElem?_eq_none (by omega)]

def RetPrs (w : World) (es : List (ByteArray × Int)) (e : Ending) (w' : World) : Prop := ∃ v, e = .returned v ∧ PrsO w' w.heap.size w'.heap.size v es ∧ Below w.heap.size w w'

/-! ### measured -/
def RetSz (w : World) (n : Nat) (e : Ending) (w' : World) : Prop := ∃ m : Int, e = .returned (.int .i64 m) ∧ (m = -1 ∨ (0 ≤ m ∧ n ≤ 1048576 ∧ m ≤ 1048576)) ∧ Below w.heap.size w w'
end Go.Proofs.YtlihmomopofdnaaGreatDoor
