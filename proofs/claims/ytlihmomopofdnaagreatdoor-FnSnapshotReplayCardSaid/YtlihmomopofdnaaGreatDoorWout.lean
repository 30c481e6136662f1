/-
  The walk of the reference's l32Without.
-/
import Derived.Test.YtlihmomopofdnaaGreatDoorApp
namespace Go.Proofs.YtlihmomopofdnaaGreatDoor
open Go.RowKit
set_option linter.unusedVariables false

theorem without_step {ps : List (ByteArray × Int)} {k : Nat} (h : k < ps.length) (key : ByteArray) : withoutP (ps.take (k + 1)) key = if ((pk ps k).toList == key.toList) = true then withoutP (ps.take k) key else withoutP (ps.take k) key ++ [(pk ps k, pv ps k)] := by
  unfold withoutP
  rw [List.take_succ_eq_append_getElem h, List.filter_append, get_eq h, List.filter_cons, List.filter_nil]
  cases (pk ps k).toList == key.toList <;> simp

set_option maxRecDepth 100000 in
set_option maxHeartbeats 8000000 in
theorem l32Without_any (v : Value) (ps : List (ByteArray × Int)) (key : ByteArray) (w : World) {lo hi : Nat} (h : Prs w lo hi v ps) (hx : ps.length ≤ 1048576) :
    Calls Tryz.prog 32 #[v, .string key] w (RetPairs w (withoutP ps key)) := by
  obtain ⟨a, cap, rfl, hn, hcell⟩ := h.open
  have HCELL := Lib.hid hcell; clear hcell
  have HW : Hid (PrsO (w.alloc (.cells #[] 52)) w.heap.size (w.alloc (.cells #[] 52)).heap.size (.slice (some ⟨w.heap.size, 0, none⟩) 0 0) []) := Lib.hid (RecsO.empty _ _ (Nat.le_refl _))
  go_enter Tryz.func32, Tryz.ntmps32
  go_wp2_with fail
  go_loopw [5, 6] (fun out i wr => ∃ (k : Nat) (acc : List (ByteArray × Int)), k ≤ ps.length ∧ i = .int .i64 k ∧ Hid (withoutP (ps.take k) key = acc) ∧ acc.length ≤ k ∧ PrsO wr w.heap.size wr.heap.size out acc ∧ Below w.heap.size w wr) (fun _ i _ => ps.length - (intOf i).toNat)
  case atStart => exact ⟨0, [], Nat.zero_le _, rfl, Lib.hid rfl, by simp, HW.out, (Below.refl _ _).alloc (Nat.le_refl _) _⟩
  case round =>
    obtain ⟨k, acc, hk, rfl, HA, hal, hO, hbr⟩ := hrel
    obtain ⟨_, _, ao, co, hvo, _⟩ := Own.sl hO
    subst hvo
    have hsr := hbr.size
    by_cases hlt : k < ps.length
    · obtain ⟨b, o, _, _, hi', c0, c1⟩ := HCELL.out k hlt
      have hix := hi' k rfl
      have d0 := below_cell hbr c0
      have d1 := below_cell hbr c1
      have HST := Lib.hid (without_step hlt key)
      have HO := Lib.hid hO
      have HBR := Lib.hid hbr
      clear hi' c0 c1 hO hbr
      cases hq : ((pk ps k).toList == key.toList)
      · have HN := Lib.hid (show withoutP (ps.take (k + 1)) key = acc ++ [(pk ps k, pv ps k)] by rw [HST.out, hq, if_neg (by simp), HA.out])
        go_wp2_with (at_builtin; refine wpl_append elPair rfl _ _ rfl rfl (PrsO.below HO.out ((Below.refl _ _).alloc (Nat.le_refl _) _)) hsr ⟨wr.heap.size, 0, none⟩ 1 1 [.string (pk ps k), .int .i64 (pv ps k)] rfl rfl (cell_two_new _ _ _ _) (pair_one _ _) (by omega) (by unfold maxLen; omega) ?_; intro v2 w3 hown2 hk2)
        have HO2 : Hid (PrsO w3 w.heap.size w3.heap.size v2 (acc ++ [(pk ps k, pv ps k)])) := Lib.hid (by
          unfold PrsO RecsO
          rw [List.length_append, flat_append, flat_one]
          exact hown2)
        have HK2 := Lib.hid ((HBR.out.trans (((Below.refl wr.heap.size wr).alloc (Nat.le_refl _) _).mono hsr)).trans (hk2.below (B := w.heap.size) (Nat.le_refl _) (Nat.le_trans hsr (by simp))))
        have HAL := Lib.hid (show (acc ++ [(pk ps k, pv ps k)]).length ≤ k + 1 by rw [List.length_append]; exact Nat.succ_le_succ hal)
        clear hown2 hk2 hix d0 d1 hq
        go_wp2_with fail
        go_roundw
        case rel => exact ⟨k + 1, _, by omega, by go_num, HN, HAL.out, HO2.out, HK2.out⟩
        case measure => simp [intOf]; omega
      · have HN := Lib.hid (show withoutP (ps.take (k + 1)) key = acc by rw [HST.out, hq, if_pos rfl, HA.out])
        go_wp2_with fail
        go_roundw
        case rel => exact ⟨k + 1, _, by omega, by go_num, HN, by omega, HO.out, HBR.out⟩
        case measure => simp [intOf]; omega
    · obtain rfl : k = ps.length := by omega
      have HE := Lib.hid (show withoutP ps key = acc by have := HA.out; rwa [List.take_length] at this)
      go_wp2_with fail
      go_ret
      exact ⟨_, rfl, by rw [HE.out]; exact hO, hbr⟩
end Go.Proofs.YtlihmomopofdnaaGreatDoor
