/-
  The walks of the reference's l32Num and StoreDecode.
-/
import Derived.Test.YtlihmomopofdnaaGreatDoorDec
import Derived.Test.YtlihmomopofdnaaGreatDoorEncW
import Derived.Lib.IndexBytes
namespace Go.Proofs.YtlihmomopofdnaaGreatDoor
open Go.RowKit
set_option linter.unusedVariables false

theorem idx_at {t : ByteArray} (i : Nat) (z : Int) (hz : z = (i : Int)) (hi : i < t.size) (w : World) : (Instr.index 9 (.string t) (.int .i64 z)).run Tryz.prog w = .ok (.int .u8 ((bt t i).toNat : Int)) w := by
  subst hz
  rw [run_index_string w 9 t .i64 _ Tryz.underlying9, dif_pos ⟨by omega, by omega⟩]
  have e : ((i : Int)).toNat = i := by omega
  simp only [e]
  have hb : bt t i = t[i] := by
    unfold bt
    rw [List.getD_eq_getElem?_getD, Lib.data_getElem? t i hi]
    rfl
  rw [hb]
theorem valK_le (t : ByteArray) (i : Nat) : ∀ k, (∀ j, j < k → isD (bt t (i + j)) = true) → valK t i k + 1 ≤ 10 ^ k
  | 0, _ => Nat.le_refl _
  | k + 1, h => by
    have ih := valK_le t i k fun j hj => h j (by omega)
    have hd := h k (Nat.lt_succ_self _)
    unfold isD at hd
    rw [Bool.and_eq_true, decide_eq_true_eq, decide_eq_true_eq] at hd
    unfold valK
    rw [Nat.pow_succ]
    omega

end Go.Proofs.YtlihmomopofdnaaGreatDoor
