/-
  The walks of the exact laws' own small functions on transactions: marked, held.
-/
import Derived.Test.YtocinffmdciihaaDoorTxnE
import Derived.Test.YtocinffmdciihaaDoorUtilM
namespace Go.Proofs.YtocinffmdciihaaDoor
open Go.RowKit
set_option linter.unusedVariables false

set_option maxHeartbeats 400000 in
theorem markTxn_any (rc : Int) (v : Value) (xs : List Int) (k0 : Int) (w : World) {lo hi : Nat} (h : IntsO w lo hi v xs) (hn : xs.length ≤ 1048576) (h0 : 0 ≤ k0) (h1 : k0 + xs.length ≤ 9223372036854775807) :
    Calls Tryd.prog 34 #[.agg #[.int .i64 rc, v], .int .i64 k0] w fun e w' => e = .returned (.int .i64 (k0 + xs.length)) ∧ IntsO w' lo hi v (marks k0 xs.length) ∧ Keep lo hi w w' := by
  have hb1 : Below w.heap.size w (w.alloc (.cells #[.int .i64 rc, v] 25)) := (Below.refl _ _).alloc (Nat.le_refl _) _
  go_enter Tryd.func34, Tryd.ntmps34
  go_wp2_with fail
  refine (markIntS_any _ xs k0 _ (IntsO.below h hb1) h0 h1).mono ?_
  rintro e w2 ⟨rfl, hm, hk⟩
  go_wp2_with fail
  go_ret
  exact ⟨rfl, hm, (Keep.of_below hb1 _ _).trans hk⟩
set_option maxHeartbeats 400000 in
theorem heldTxn_any (rc : Int) (v : Value) (n : Nat) (k0 : Int) (w : World) {lo hi : Nat} (h : Ints w lo hi v (marks k0 n)) (h0 : 0 ≤ k0) (h1 : k0 + n ≤ 9223372036854775807) :
    Calls Tryd.prog 35 #[.agg #[.int .i64 rc, v], .int .i64 k0] w fun e w' => e = .returned (.int .i64 (k0 + n)) ∧ Below w.heap.size w w' := by
  have hb1 : Below w.heap.size w (w.alloc (.cells #[.int .i64 rc, v] 25)) := (Below.refl _ _).alloc (Nat.le_refl _) _
  have hlt : ¬ (k0 + (n : Int) < 0) := by omega
  go_enter Tryd.func35, Tryd.ntmps35
  go_wp2_with fail
  refine (heldIntS_any _ n k0 _ (h.below hb1) h0 h1).mono ?_
  rintro e w2 ⟨rfl, rfl⟩
  go_wp2_with fail
  go_ret
  exact ⟨rfl, hb1⟩
end Go.Proofs.YtocinffmdciihaaDoor
