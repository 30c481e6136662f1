/-
  The walk of the law's copy of a slice of ints.
-/
import Derived.Test.YtocinffmdciihaaDoorUtilA
namespace Go.Proofs.YtocinffmdciihaaDoor
open Go.RowKit
set_option linter.unusedVariables false

set_option maxHeartbeats 1000000 in
theorem toIntS_any (v : Value) (xs : List Int) (w : World) {lo hi : Nat} (h : Ints w lo hi v xs) (hx : xs.length ≤ 1048576) :
    Calls Tryd.prog 58 #[v] w (RetInts w xs) := by
  obtain ⟨a, cap, rfl, hn, hcell⟩ := h.open
  go_enter Tryd.func58, Tryd.ntmps58
  go_wp2_with (at_make; refine wpl_make elInt rfl _ _ rfl .i64 .i64 _ _ xs.length rfl rfl rfl rfl (by omega) (by unfold maxLen; omega) ?_; intro w1 hown hgr)
  have hO1 : IntsO w1 w.heap.size w1.heap.size (.slice (some ⟨w.heap.size, 0, none⟩) xs.length xs.length) (List.replicate xs.length 0) := by
    have e : (Value.int .i64 0).cells = #[.int .i64 0] := rfl
    rw [Nat.mul_one, e, toList_madeCells_one] at hown
    unfold IntsO
    rw [List.map_replicate, List.length_replicate]
    exact hown
  clear hown
  have hsz := hgr.size
  obtain ⟨a2, c2, hv2, _, hcell2⟩ := hO1.open
  rw [List.length_replicate] at hv2 hcell2
  cases hv2
  go_wp2
  go_loopw [4] (fun i wr => ∃ k : Nat, k ≤ xs.length ∧ i = .int .i64 k ∧ Keep w.heap.size w1.heap.size w1 wr ∧
      ∃ ys, ys.length = xs.length ∧ eqTo ys xs k ∧ IntsO wr w.heap.size w1.heap.size (.slice (some ⟨w.heap.size, 0, none⟩) xs.length xs.length) ys) (fun i _ => xs.length - (intOf i).toNat)
  case atStart => exact ⟨0, Nat.zero_le _, rfl, Keep.refl _ _ _, _, List.length_replicate .., eqTo_zero _ _, hO1⟩
  case round =>
    obtain ⟨k, hk, rfl, hkp, ys, hy, hc, hO⟩ := hrel
    have HC := Lib.hid hc; clear hc
    have HY := Lib.hid hy; clear hy
    by_cases hlt : k < xs.length
    · obtain ⟨p, hp1, hp2, hi, hst⟩ := hcell2 k hlt
      obtain ⟨q, hj, hkd0⟩ := hcell k hlt
      have hix := hi k rfl
      have hiy := hj k rfl
      obtain ⟨hkc, hfz, hset⟩ := hst wr ys HY.out hO
      have hkd : wr.cell? q = some (.int .i64 (nth xs k)) := (hkp.below (Nat.le_refl _) hsz).cell (lt_of_cell hkd0) |>.trans (hgr.cell (lt_of_cell hkd0)) |>.trans hkd0
      have hO' := hset (nth xs k)
      have hkp' := keep_setCell hkp hp1 hp2 (.int .i64 (nth xs k))
      have HS : Hid (eqTo (ys.set k (nth xs k)) xs (k + 1)) := by
        intro j hj
        rw [nth_set]
        by_cases e : k = j
        · subst e; rw [if_pos ⟨rfl, by rw [HY.out]; exact hlt⟩]
        · rw [if_neg (fun x => e x.1)]; exact HC.out j (by omega)
      have HL : Hid ((ys.set k (nth xs k)).length = xs.length) := by show _ = _; rw [List.length_set]; exact HY.out
      clear hst hset hcell hcell2 hi hj hkd0
      go_wp2
      go_roundw
      case rel => exact ⟨k + 1, by omega, by go_num, hkp', _, HL.out, HS.out, hO'⟩
      case measure => simp [intOf]; omega
    · have HM : Hid (ys = xs) := nth_ext HY.out fun j hj => HC.out j (by have := HY.out; omega)
      go_wp2
      go_ret
      have hO2 := hO
      rw [HM.out] at hO2
      exact ⟨_, rfl, IntsO.wide hO2 (Nat.le_refl _) hkp.size (Nat.le_refl _), hgr.trans (hkp.below (Nat.le_refl _) hsz)⟩
end Go.Proofs.YtocinffmdciihaaDoor
