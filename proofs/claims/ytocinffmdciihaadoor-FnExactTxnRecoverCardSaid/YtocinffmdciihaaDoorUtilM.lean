/-
  The walks of the laws' markIntS and heldIntS.
-/
import Derived.Test.YtocinffmdciihaaDoorUtilA
namespace Go.Proofs.YtocinffmdciihaaDoor
open Go.RowKit
set_option linter.unusedVariables false

/-- the numbers k, k + 1, .. -/
def marks (k : Int) (n : Nat) : List Int := (List.range n).map fun (i : Nat) => k + (i : Int)
theorem marks_len (k : Int) (n : Nat) : (marks k n).length = n := by simp [marks]
theorem nth_marks {k : Int} {n j : Nat} (h : j < n) : nth (marks k n) j = k + j := by simp [nth, marks, List.getD, h]

set_option maxHeartbeats 1000000 in
theorem markIntS_any (v : Value) (xs : List Int) (k0 : Int) (w : World) {lo hi : Nat} (h : IntsO w lo hi v xs) (h0 : 0 ≤ k0) (h1 : k0 + xs.length ≤ 9223372036854775807) :
    Calls Tryd.prog 60 #[v, .int .i64 k0] w fun e w' => e = .returned (.int .i64 (k0 + xs.length)) ∧ IntsO w' lo hi v (marks k0 xs.length) ∧ Keep lo hi w w' := by
  obtain ⟨a, cap, rfl, hn, hcell⟩ := h.open
  go_enter Tryd.func60, Tryd.ntmps60
  go_wp2
  go_loopw [1, 5] (fun q i wr => ∃ k : Nat, k ≤ xs.length ∧ i = .int .i64 k ∧ q = .int .i64 (k0 + k) ∧ Keep lo hi w wr ∧
      ∃ ys, ys.length = xs.length ∧ eqTo ys (marks k0 xs.length) k ∧ IntsO wr lo hi (.slice a xs.length cap) ys) (fun _ i _ => xs.length - (intOf i).toNat)
  case atStart => exact ⟨0, Nat.zero_le _, rfl, by simp, Keep.refl _ _ _, xs, rfl, eqTo_zero _ _, h⟩
  case round =>
    obtain ⟨k, hk, rfl, rfl, hkp, ys, hy, hc, hO⟩ := hrel
    have HC := Lib.hid hc; clear hc
    have HY := Lib.hid hy; clear hy
    by_cases hlt : k < xs.length
    · obtain ⟨p, hp1, hp2, hi, hst⟩ := hcell k hlt
      have hix := hi k rfl
      obtain ⟨hkc, hfz, hset⟩ := hst wr ys HY.out hO
      have hO' := hset (k0 + k)
      have hkp' := keep_setCell hkp hp1 hp2 (.int .i64 (k0 + k))
      have HS : Hid (eqTo (ys.set k (k0 + k)) (marks k0 xs.length) (k + 1)) := by
        intro j hj
        rw [nth_set]
        by_cases e : k = j
        · subst e; rw [if_pos ⟨rfl, by rw [HY.out]; exact hlt⟩, nth_marks hlt]
        · rw [if_neg (fun x => e x.1)]; exact HC.out j (by omega)
      have HL : Hid ((ys.set k (k0 + k)).length = xs.length) := by show _ = _; rw [List.length_set]; exact HY.out
      clear hst hset hcell hi
      go_wp2
      go_roundw
      case rel => exact ⟨k + 1, by omega, by go_num, by go_num, hkp', _, HL.out, HS.out, hO'⟩
      case measure => simp [intOf]; omega
    · have hke : k = xs.length := by omega
      have HM : Hid (ys = marks k0 xs.length) := nth_ext (by rw [HY.out, marks_len]) fun j hj => HC.out j (by have := HY.out; omega)
      have HE := Lib.hid hke; clear hke
      go_wp2
      go_ret
      have hO2 := hO
      rw [HM.out] at hO2
      exact ⟨ret_int (by rw [HE.out]), hO2, hkp⟩

set_option maxHeartbeats 1000000 in
theorem heldIntS_any (v : Value) (n : Nat) (k0 : Int) (w : World) {lo hi : Nat} (h : Ints w lo hi v (marks k0 n)) (h0 : 0 ≤ k0) (h1 : k0 + n ≤ 9223372036854775807) :
    Calls Tryd.prog 61 #[v, .int .i64 k0] w fun e w' => e = .returned (.int .i64 (k0 + n)) ∧ w = w' := by
  obtain ⟨a, cap, rfl, hn, hcell⟩ := h.open
  rw [marks_len] at hcell hn
  rw [marks_len]
  go_enter Tryd.func61, Tryd.ntmps61
  go_wp2
  go_loop [1, 5] (fun q i => ∃ k : Nat, k ≤ n ∧ i = .int .i64 k ∧ q = .int .i64 (k0 + k)) (fun _ i => n - (intOf i).toNat)
  case atStart => exact ⟨0, Nat.zero_le _, rfl, by simp⟩
  case round =>
    obtain ⟨k, hk, rfl, rfl⟩ := hrel
    by_cases hlt : k < n
    · obtain ⟨p, hi, hkc⟩ := hcell k hlt
      rw [nth_marks hlt] at hkc
      have hix := hi k rfl
      have hb3 : (k0 + (k : Int) == k0 + (k : Int)) = true := by simp
      clear hi hcell
      go_wp2
      go_round
      case rel => exact ⟨k + 1, by omega, by go_num, by go_num⟩
      case measure => simp [intOf]; omega
    · have HE : Hid (k = n) := by show k = n; omega
      go_wp2
      go_ret
      exact ⟨ret_int (by rw [HE.out]), rfl⟩

end Go.Proofs.YtocinffmdciihaaDoor
