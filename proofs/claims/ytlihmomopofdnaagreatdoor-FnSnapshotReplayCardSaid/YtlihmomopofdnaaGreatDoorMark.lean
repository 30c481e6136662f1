/-
  The walks of the exact laws' markText, markPairS, heldPairS, szCommand, toCommand.
-/
import Derived.Test.YtlihmomopofdnaaGreatDoorPairU
import Derived.Test.YtlihmomopofdnaaGreatDoorDraw
import Derived.Laws.BytesArg
namespace Go.Proofs.YtlihmomopofdnaaGreatDoor
open Go.RowKit
set_option linter.unusedVariables false

/-- the digits of a mark -/
def dig (d : Nat) : ByteArray := ⟨#[UInt8.ofNat (48 + d)]⟩
def digs : Nat → Nat → ByteArray → ByteArray
  | 0, _, acc => acc
  | f + 1, k, acc => if k = 0 then acc else digs f (k / 10) (dig (k % 10) ++ acc)
def mtext (k : Nat) : ByteArray := if k = 0 then ⟨#[109, 48]⟩ else ⟨#[109]⟩ ++ digs 20 k ⟨#[]⟩
theorem dig_run (d : Nat) (w : World) : (convert 22 9 (.slice (some ⟨w.heap.size, 0, none⟩) 1 1)).run Tryz.prog (w.alloc (.cells #[.int .u8 (48 + (d : Int))] 5)) = .ok (.string (dig d)) (w.alloc (.cells #[.int .u8 (48 + (d : Int))] 5)) := by
  have := run_convert_bytes_arg (P := Tryz.prog) (w.alloc (.cells #[.int .u8 (48 + (d : Int))] 5)) 22 5 Tryz.underlying22 Tryz.underlying5 w.heap.size 0 1 1 [48 + (d : Int)] rfl (fun i hi => by
    obtain rfl : i = 0 := by omega
    rw [World.cell?_alloc_at _ _ _ _ rfl]
    rfl) 9 Tryz.underlying9
  rw [this]
  have e : strOfNums [48 + (d : Int)] = dig d := by
    unfold strOfNums dig
    have : (48 + (d : Int)).toNat = 48 + d := by omega
    simp [this]
  rw [e]

/-- the marks: the text of k, the number k + 1 in the first pair, and so on -/
def marksP (k : Int) (n : Nat) : List (ByteArray × Int) := (List.range n).map fun (i : Nat) => (mtext (k + 2 * (i : Int)).toNat, k + 2 * (i : Int) + 1)
theorem marksP_len (k : Int) (n : Nat) : (marksP k n).length = n := by simp [marksP]
theorem marksP_get {k : Int} {n j : Nat} (h : j < n) : (marksP k n)[j]? = some (mtext (k + 2 * (j : Int)).toNat, k + 2 * (j : Int) + 1) := by simp [marksP, h]

end Go.Proofs.YtlihmomopofdnaaGreatDoor
