/-
  The walks of the program's own functions on member sets.
-/
import Derived.Test.YtgipgfhnkkpdkaaSetW
namespace Go.Proofs.Ytgipgfhnkkpdkaa
open Go.RowKit
set_option linter.unusedVariables false

set_option maxHeartbeats 400000 in
theorem has_any (c m : Int) (w : World) (h0 : 0 ≤ c) (h1 : c < 64) (r : Bool) (hr : (inB m 1 6 && hasM c m) = r) :
    Calls Try.prog 64 #[.int .u64 c, .int .i64 m] w fun e w' => e = .returned (.bool r) ∧ w = w' := by
  have HB := Lib.hid hr; clear hr
  by_cases e : inB m 1 6 = true
  · obtain ⟨g1, g2⟩ := inB_true e
    have E1 := Lib.hid e; clear e
    go_enter Try.func64, Try.ntmps64
    go_wp2_with (go_at_call 83; refine (isMember_any _ _ true E1.out).mono ?_; rintro e w' ⟨rfl, rfl⟩)
    go_ret
    exact ⟨ret_bool (by rw [← HB.out, E1.out]; rfl), rfl⟩
  · have E1 := Lib.hid (show inB m 1 6 = false by simpa using e); clear e
    go_enter Try.func64, Try.ntmps64
    go_wp2_with (go_at_call 83; refine (isMember_any _ _ false E1.out).mono ?_; rintro e w' ⟨rfl, rfl⟩)
    go_ret
    exact ⟨ret_bool (by rw [← HB.out, E1.out]; rfl), rfl⟩

set_option maxHeartbeats 400000 in
theorem with_any (c m : Int) (w : World) (h0 : 0 ≤ c) (h1 : c < 64) (h2 : 1 ≤ m) (h3 : m ≤ 6) :
    Calls Try.prog 84 #[.int .u64 c, .int .i64 m] w fun e w' => e = .returned (.int .u64 (withM c m)) ∧ w = w' := by
  go_enter Try.func84, Try.ntmps84
  go_wp2
  go_ret
  exact ⟨ret_int (by rfl), rfl⟩

set_option maxHeartbeats 400000 in
theorem within_any (c d : Int) (w : World) (r : Bool) (hr : (bits .andNot .u64 c d == 0) = r) :
    Calls Try.prog 81 #[.int .u64 c, .int .u64 d] w fun e w' => e = .returned (.bool r) ∧ w = w' := by
  have HB := Lib.hid hr; clear hr
  go_enter Try.func81, Try.ntmps81
  go_wp2
  go_ret
  exact ⟨ret_bool HB.out, rfl⟩

set_option maxHeartbeats 1000000 in
theorem readSet_any (v : Value) (xs : List Int) (w : World) {lo hi : Nat} (h : Ints w lo hi v xs) (c : Int) (r : Bool) (hc : crewR xs = c) (hr : setValid xs = r) :
    Calls Try.prog 63 #[v] w fun e w' => e = .returned (.tuple #[.int .u64 c, .bool r]) ∧ w = w' := by
  obtain ⟨a, cap, rfl, hn, hcell⟩ := h.open
  have HB := Lib.hid hr; clear hr
  have HK := Lib.hid hc; clear hc
  go_enter Try.func63, Try.ntmps63
  go_wp2
  go_loop [4, 9] (fun q i => ∃ k : Nat, k ≤ xs.length ∧ i = .int .i64 k ∧ validTo xs k = true ∧ q = .int .u64 (crewTo xs k)) (fun _ i => xs.length - (intOf i).toNat)
  case atStart => exact ⟨0, Nat.zero_le _, rfl, rfl, rfl⟩
  case round =>
    obtain ⟨k, hk, rfl, hc, rfl⟩ := hrel
    have HC := Lib.hid hc; clear hc
    obtain ⟨s0, s1⟩ := crewTo_six k HC.out
    by_cases hlt : k < xs.length
    · obtain ⟨p, hi, hkc⟩ := hcell k hlt
      have hix := hi k rfl
      clear hi
      rcases stepOk_cases xs k _ rfl with ⟨e1, e2⟩ | ⟨e1, e2, e3⟩ | ⟨e1, e2, e3, e4⟩ | ⟨e1, e2, e3, e4⟩
      · have HS := Lib.hid (valid_stop hlt e2); clear e2
        have E1 := Lib.hid e1; clear e1 hcell
        go_wp2_with (go_at_call 83; refine (isMember_any _ _ false E1.out).mono ?_; rintro e w' ⟨rfl, rfl⟩)
        go_ret2
        exact ⟨ret_crew ((crewR_no HS.out).symm.trans HK.out) (HS.out.symm.trans HB.out), rfl⟩
      · obtain ⟨g1, g2⟩ := inB_true e1
        have HS := Lib.hid (validTo_step HC.out e3); clear e3
        have E1 := Lib.hid e1; clear e1 hcell
        have hg : decide ((0 : Int) < (k : Int)) = false := by simp [e2]
        have hgn : decide (0 < k) = false := by simp [e2]
        have E2 := Lib.hid e2; clear e2
        go_wp2_with (first
          | (go_at_call 83; refine (isMember_any _ _ true E1.out).mono ?_; rintro e w' ⟨rfl, rfl⟩)
          | (go_at_call 84; refine (with_any _ _ _ s0 s1 g1 g2).mono ?_; rintro e w' ⟨rfl, rfl⟩))
        go_round
        case rel => exact ⟨k + 1, by omega, by go_num, HS.out, rfl⟩
        case measure => simp [intOf]; omega
      · have HS := Lib.hid (valid_stop hlt e4); clear e4
        have E1 := Lib.hid e1; clear e1
        obtain ⟨q, hj, hkd⟩ := hcell (k - 1) (by omega)
        have hiy := hj ((k : Int) - 1) (by omega)
        clear hj
        have hg : decide ((0 : Int) < (k : Int)) = true := by simp; omega
        have hgn : decide (0 < k) = true := by simp; omega
        have hd : decide (nth xs k ≤ nth xs (k - 1)) = true := by simpa using e3
        clear hcell
        go_wp2_with (go_at_call 83; refine (isMember_any _ _ true E1.out).mono ?_; rintro e w' ⟨rfl, rfl⟩)
        go_ret2
        exact ⟨ret_crew ((crewR_no HS.out).symm.trans HK.out) (HS.out.symm.trans HB.out), rfl⟩
      · obtain ⟨g1, g2⟩ := inB_true e1
        have HS := Lib.hid (validTo_step HC.out e4); clear e4
        have E1 := Lib.hid e1; clear e1
        obtain ⟨q, hj, hkd⟩ := hcell (k - 1) (by omega)
        have hiy := hj ((k : Int) - 1) (by omega)
        clear hj
        have hg : decide ((0 : Int) < (k : Int)) = true := by simp; omega
        have hgn : decide (0 < k) = true := by simp; omega
        have hd : decide (nth xs k ≤ nth xs (k - 1)) = false := by simp; omega
        clear hcell
        go_wp2_with (first
          | (go_at_call 83; refine (isMember_any _ _ true E1.out).mono ?_; rintro e w' ⟨rfl, rfl⟩)
          | (go_at_call 84; refine (with_any _ _ _ s0 s1 g1 g2).mono ?_; rintro e w' ⟨rfl, rfl⟩))
        go_round
        case rel => exact ⟨k + 1, by omega, by go_num, HS.out, rfl⟩
        case measure => simp [intOf]; omega
    · have hB' := Lib.hid (valid_end hk hlt HC.out)
      have hK := Lib.hid (show crewTo xs k = crewR xs by rw [crewR_yes hB'.out]; congr 1; omega)
      go_wp2
      go_ret2
      exact ⟨ret_crew (hK.out.trans HK.out) (hB'.out.symm.trans HB.out), rfl⟩

set_option maxHeartbeats 1000000 in
theorem members_any (c : Int) (w : World) (hs : Six c) (xs : List Int) (hx : membersOf c = xs) :
    Calls Try.prog 68 #[.int .u64 c] w (RetInts w xs) := by
  obtain ⟨s0, s1⟩ := hs
  have HX := Lib.hid hx; clear hx
  go_enter Try.func68, Try.ntmps68
  go_wp2
  go_loopw [3, 4] (fun q i wr => ∃ k : Nat, k ≤ 6 ∧ i = .int .i64 (k + 1) ∧ IntsO wr w.heap.size wr.heap.size q (memTo c k) ∧ Below w.heap.size w wr) (fun _ i _ => 7 - (intOf i).toNat)
  case atStart => exact ⟨0, by omega, rfl, IntsO.nil _ _ _ (Nat.le_refl _), Below.refl _ _⟩
  case round =>
    obtain ⟨k, hk, rfl, hown, hb⟩ := hrel
    by_cases hlt : k < 6
    · have hin : inB ((k : Int) + 1) 1 6 = true := inB_mk (by omega) (by omega)
      have hl := memTo_len c k
      have hsz := hb.size
      by_cases hh : hasM c (k + 1) = true
      · have HH := Lib.hid (show (inB ((k : Int) + 1) 1 6 && hasM c (k + 1)) = true by rw [hin, hh]; rfl)
        have HM := Lib.hid (show memTo c (k + 1) = memTo c k ++ [((k : Int) + 1)] by simp [memTo, hh])
        clear hh hin
        go_wp2_with (first
          | (go_at_call 64; refine (has_any _ _ _ s0 s1 true HH.out).mono ?_; rintro e w' ⟨rfl, rfl⟩)
          | (at_builtin; refine wpl_append elInt rfl _ _ rfl rfl (Own.below hown ((Below.refl _ _).alloc (Nat.le_refl _) _)) hsz ⟨wr.heap.size, 0, none⟩ 1 1 [.int .i64 (k + 1)] rfl rfl (cell_one_new _ _ _) (ints_oneCell .i64 [(k : Int) + 1]) (by omega) (by unfold maxLen; omega) ?_; intro v' w1 hown1 hk1))
        have hb1 : Below w.heap.size w w1 := (hb.alloc hsz _).trans (hk1.below (Nat.le_refl _) (by simp; omega))
        have hown2 : IntsO w1 w.heap.size w1.heap.size v' (memTo c (k + 1)) := by rw [HM.out]; unfold IntsO; simpa using hown1
        clear hown1 hown hk1
        go_wp2
        go_roundw
        case rel => exact ⟨k + 1, by omega, by go_num, hown2, hb1⟩
        case measure => simp [intOf]; omega
      · have HH := Lib.hid (show (inB ((k : Int) + 1) 1 6 && hasM c (k + 1)) = false by rw [hin]; simpa using hh)
        have HM := Lib.hid (show memTo c (k + 1) = memTo c k by simp [memTo, hh])
        clear hh hin
        go_wp2_with (go_at_call 64; refine (has_any _ _ _ s0 s1 false HH.out).mono ?_; rintro e w' ⟨rfl, rfl⟩)
        go_roundw
        case rel => exact ⟨k + 1, by omega, by go_num, by rw [HM.out]; exact hown, hb⟩
        case measure => simp [intOf]; omega
    · have hk6 : k = 6 := by omega
      subst hk6
      go_wp2
      go_ret
      exact ⟨_, rfl, by rw [← HX.out]; exact hown, hb⟩
end Go.Proofs.Ytgipgfhnkkpdkaa
