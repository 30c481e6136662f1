/-
  The walk of the reference's StoreDecode.
-/
import Derived.Test.YtlihmomopofdnaaGreatDoorDecS
namespace Go.Proofs.YtlihmomopofdnaaGreatDoor
open Go.RowKit
set_option linter.unusedVariables false

def RetDec (t : ByteArray) (w : World) (e : Ending) (w' : World) : Prop := ∃ v ps ok, e = .returned (.tuple #[v, .bool ok]) ∧ IsDec t ps ok ∧ PrsO w' w.heap.size w'.heap.size v ps ∧ Below w.heap.size w w'
theorem prso_form {w : World} {lo hi : Nat} {v : Value} {ps : List (ByteArray × Int)} (h : PrsO w lo hi v ps) : ∃ a c, v = .slice a ps.length c := by
  obtain ⟨_, _, a, c, hv, _⟩ := Own.sl h
  exact ⟨a, c, hv⟩
theorem cut_run (t : ByteArray) (i : Nat) (z : Int) (hz : z = (i : Int)) (hi : i < t.size) (w : World) : (Instr.slice 9 (.string t) (some (.int .i64 z)) (some (.int .i64 (z + 1))) none).run Tryz.prog w = .ok (.string (t.extract i (i + 1))) w := by
  subst hz
  rw [run_slice_string w 9 t .i64 .i64 _ _ Tryz.underlying9 (by omega) (by omega) (by omega)]
  have e1 : ((i : Int)).toNat = i := by omega
  have e2 : ((i : Int) + 1).toNat = i + 1 := by omega
  rw [e1, e2]

end Go.Proofs.YtlihmomopofdnaaGreatDoor
