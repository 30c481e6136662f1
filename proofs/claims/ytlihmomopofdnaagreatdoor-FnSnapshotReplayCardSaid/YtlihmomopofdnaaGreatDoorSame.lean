/-
  The walks of the laws' samePairs and keyOf.
-/
import Derived.Test.YtlihmomopofdnaaGreatDoorPair
namespace Go.Proofs.YtlihmomopofdnaaGreatDoor
open Go.RowKit
set_option linter.unusedVariables false

set_option maxRecDepth 100000 in
set_option maxHeartbeats 4000000 in
theorem samePairs_same (v1 v2 : Value) (es : List (ByteArray × Int)) (w : World) {l1 h1 l2 h2 : Nat} (i1 : Prs w l1 h1 v1 es) (i2 : Prs w l2 h2 v2 es) :
    Calls Tryz.prog 7 #[v1, v2] w fun e w' => e = .returned (.bool true) ∧ ∃ n, w' = w.drewN n := by
  obtain ⟨a1, c1, hv1, hn, hc1⟩ := i1.open
  obtain ⟨a2, c2, hv2, _, hc2⟩ := i2.open
  subst hv1
  subst hv2
  have HC1 := Lib.hid hc1
  have HC2 := Lib.hid hc2
  clear hc1 hc2
  have hll : ((es.length : Int) != (es.length : Int)) = false := by simp
  go_enter Tryz.func7, Tryz.ntmps7
  go_wp2_with fail
  go_loopw [5] (fun i wr => ∃ k : Nat, k ≤ es.length ∧ i = .int .i64 k ∧ ∃ n, wr = w.drewN n) (fun i _ => es.length - (intOf i).toNat)
  case atStart => exact ⟨0, Nat.zero_le _, rfl, 0, rfl⟩
  case round =>
    obtain ⟨k, hk, rfl, hw⟩ := hrel
    have HW := Lib.hid hw
    by_cases hlt : k < es.length
    · obtain ⟨b, o, _, _, hi', c0, c1⟩ := HC1.out k hlt
      obtain ⟨b', o', _, _, hj', e0, e1⟩ := HC2.out k hlt
      have hix := hi' k rfl
      have hjx := hj' k rfl
      have d0 : wr.cell? ⟨b, o, none⟩ = some (.string (pk es k)) := by obtain ⟨n, rfl⟩ := hw; exact c0
      have d1 : wr.cell? ⟨b, o + 1, none⟩ = some (.int .i64 (pv es k)) := by obtain ⟨n, rfl⟩ := hw; exact c1
      have f0 : wr.cell? ⟨b', o', none⟩ = some (.string (pk es k)) := by obtain ⟨n, rfl⟩ := hw; exact e0
      have f1 : wr.cell? ⟨b', o' + 1, none⟩ = some (.int .i64 (pv es k)) := by obtain ⟨n, rfl⟩ := hw; exact e1
      clear hi' hj' c0 c1 e0 e1 hw
      go_wp2_with fail
      go_quiet (fail)
      go_wp2_with fail
      go_roundw
      case rel => exact ⟨k + 1, by omega, by go_num, drawn_more HW.out _⟩
      case measure => simp [intOf]; omega
    · clear hw
      go_wp2_with fail
      go_ret
      exact ⟨rfl, HW.out⟩

def letter (k : Nat) : ByteArray := ⟨#[UInt8.ofNat (97 + k)]⟩
end Go.Proofs.YtlihmomopofdnaaGreatDoor
