/-
  The walk of the reference's l32Get.
-/
import Derived.Test.YtpkhkmehpijngaaStoreS
import Derived.OwnWalk
namespace Go.Proofs.Ytpkhkmehpijngaa
open Go.RowKit
set_option linter.unusedVariables false

/-- the first pair with the key -/
def findP (ps : List (ByteArray × Int)) (key : ByteArray) : Int × Bool := match ps.find? (fun p => p.1.toList == key.toList) with | some p => (p.2, true) | none => (0, false)
theorem findP_at {ps : List (ByteArray × Int)} {key : ByteArray} {k : Nat} (hk : k < ps.length) (h : ((pk ps k).toList == key.toList) = true) (hb : ∀ j, j < k → ((pk ps j).toList == key.toList) = false) : findP ps key = (pv ps k, true) := by
  have e : ps.find? (fun p => p.1.toList == key.toList) = some (pk ps k, pv ps k) := by
    rw [List.find?_eq_some_iff_getElem]
    have e1 : ps[k] = (pk ps k, pv ps k) := Option.some.inj ((List.getElem?_eq_getElem hk).symm.trans (ps_get hk))
    refine ⟨h, k, hk, e1, fun j hj => ?_⟩
    have e2 : ps[j] = (pk ps j, pv ps j) := Option.some.inj ((List.getElem?_eq_getElem (by omega)).symm.trans (ps_get (by omega)))
    rw [e2, hb j hj]
    rfl
  unfold findP
  rw [e]
theorem findP_none {ps : List (ByteArray × Int)} {key : ByteArray} (hb : ∀ j, j < ps.length → ((pk ps j).toList == key.toList) = false) : findP ps key = (0, false) := by
  have e : ps.find? (fun p => p.1.toList == key.toList) = none := by
    rw [List.find?_eq_none]
    intro x hx
    obtain ⟨j, hj, e⟩ := List.getElem_of_mem hx
    have e2 : ps[j] = (pk ps j, pv ps j) := Option.some.inj ((List.getElem?_eq_getElem hj).symm.trans (ps_get hj))
    rw [← e, e2, hb j hj]
    simp
  unfold findP
  rw [e]

set_option maxHeartbeats 1000000 in
theorem l32Get_any (v : Value) (ps : List (ByteArray × Int)) (key : ByteArray) (w : World) {lo hi : Nat} (h : Prs w lo hi v ps) (m : Int) (r : Bool) (hr : findP ps key = (m, r)) :
    Calls Try.prog 57 #[v, .string key] w fun e w' => e = .returned (.tuple #[.int .i64 m, .bool r]) ∧ w = w' := by
  obtain ⟨a, cap, rfl, hn, hcell⟩ := h.open
  have HR := Lib.hid hr; clear hr
  go_enter Try.func57, Try.ntmps57
  go_wp2_with fail
  go_loop [6] (fun i => ∃ k : Nat, k ≤ ps.length ∧ i = .int .i64 k ∧ ∀ j, j < k → ((pk ps j).toList == key.toList) = false) (fun i => ps.length - (intOf i).toNat)
  case atStart => exact ⟨0, Nat.zero_le _, rfl, fun j hj => absurd hj (by omega)⟩
  case round =>
    obtain ⟨k, hk, rfl, hc⟩ := hrel
    have HC := Lib.hid hc; clear hc
    by_cases hlt : k < ps.length
    · obtain ⟨b, o, _, _, hi', c0, c1⟩ := hcell k hlt
      have hix := hi' k rfl
      clear hi' hcell
      cases hp : ((pk ps k).toList == key.toList)
      · have HS : Hid (∀ j, j < k + 1 → ((pk ps j).toList == key.toList) = false) := fun j hj => by
          by_cases e : j = k
          · subst e; exact hp
          · exact HC.out j (by omega)
        go_wp2_with fail
        go_round
        case rel => exact ⟨k + 1, by omega, by go_num, HS.out⟩
        case measure => simp [intOf]; omega
      · have HS := Lib.hid (findP_at hlt hp HC.out)
        go_wp2_with fail
        go_ret2
        have e := HS.out.symm.trans HR.out
        cases e
        exact ⟨rfl, rfl⟩
    · have HS := Lib.hid (findP_none (ps := ps) (key := key) fun j hj => HC.out j (by omega))
      clear hcell
      go_wp2_with fail
      go_ret2
      have e := HS.out.symm.trans HR.out
      cases e
      exact ⟨rfl, rfl⟩

def getP (ps : List (ByteArray × Int)) (key : ByteArray) : Int × Bool := if storeOk ps then findP ps key else (0, false)
end Go.Proofs.Ytpkhkmehpijngaa
