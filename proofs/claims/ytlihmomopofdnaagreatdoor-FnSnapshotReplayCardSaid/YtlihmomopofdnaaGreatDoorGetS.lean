/-
  The walk of the reference's l32Get.
-/
import Derived.Test.YtlihmomopofdnaaGreatDoorFind
import Derived.OwnWalk
namespace Go.Proofs.YtlihmomopofdnaaGreatDoor
open Go.RowKit
set_option linter.unusedVariables false

set_option maxHeartbeats 1000000 in
theorem l32Get_any (v : Value) (ps : List (ByteArray × Int)) (key : ByteArray) (w : World) {lo hi : Nat} (h : Prs w lo hi v ps) (m : Int) (r : Bool) (hr : findP ps key = (m, r)) :
    Calls Tryz.prog 31 #[v, .string key] w fun e w' => e = .returned (.tuple #[.int .i64 m, .bool r]) ∧ w = w' := by
  obtain ⟨a, cap, rfl, hn, hcell⟩ := h.open
  have HR := Lib.hid hr; clear hr
  go_enter Tryz.func31, Tryz.ntmps31
  go_wp2_with fail
  go_loop [6] (fun i => ∃ k : Nat, k ≤ ps.length ∧ i = .int .i64 k ∧ ∀ j, j < k → ((pk ps j).toList == key.toList) = false) (fun i => ps.length - (intOf i).toNat)
  case atStart => exact ⟨0, Nat.zero_le _, rfl, fun j hj => absurd hj (by omega)⟩
  case round =>
    obtain ⟨k, hk, rfl, hc⟩ := hrel
    have HC := Lib.hid hc; clear hc
    by_cases hlt : k < ps.length
    · obtain ⟨b, o, _, _, hi', c0, c1⟩ := hcell k hlt
      have hix := hi' k rfl
      clear hi' hcell
      cases hp : ((pk ps k).toList == key.toList)
      · have HS : Hid (∀ j, j < k + 1 → ((pk ps j).toList == key.toList) = false) := fun j hj => by
          by_cases e : j = k
          · subst e; exact hp
          · exact HC.out j (by omega)
        go_wp2_with fail
        go_round
        case rel => exact ⟨k + 1, by omega, by go_num, HS.out⟩
        case measure => simp [intOf]; omega
      · have HS := Lib.hid (findP_at hlt hp HC.out)
        go_wp2_with fail
        go_ret2
        have e := HS.out.symm.trans HR.out
        cases e
        exact ⟨rfl, rfl⟩
    · have HS := Lib.hid (findP_none (ps := ps) (key := key) fun j hj => HC.out j (by omega))
      clear hcell
      go_wp2_with fail
      go_ret2
      have e := HS.out.symm.trans HR.out
      cases e
      exact ⟨rfl, rfl⟩

end Go.Proofs.YtlihmomopofdnaaGreatDoor
