/-
  The walks of the small functions on member sets: each returns what the plain function of XSetD says, and makes or changes nothing.
-/
import Derived.Test.YtgipgfhnkkpdkaaSetD
namespace Go.Proofs.Ytgipgfhnkkpdkaa
open Go.RowKit
set_option linter.unusedVariables false

set_option maxHeartbeats 400000 in
theorem l6In_any (n lo hi : Int) (w : World) (r : Bool) (hr : inB n lo hi = r) :
    Calls Try.prog 65 #[.int .i64 n, .int .i64 lo, .int .i64 hi] w fun e w' => e = .returned (.bool r) ∧ w = w' := by
  subst hr
  by_cases h1 : lo ≤ n <;> by_cases h2 : n ≤ hi
  all_goals
    have HB := Lib.hid (show inB n lo hi = (decide (lo ≤ n) && decide (n ≤ hi)) from rfl)
    go_enter Try.func65, Try.ntmps65
    go_wp2
    go_ret
    exact ⟨by rw [HB.out]; simp [h1, h2], rfl⟩

set_option maxHeartbeats 400000 in
theorem isMember_any (n : Int) (w : World) (r : Bool) (hr : inB n 1 6 = r) :
    Calls Try.prog 83 #[.int .i64 n] w fun e w' => e = .returned (.bool r) ∧ w = w' := by
  subst hr
  by_cases h1 : 1 ≤ n <;> by_cases h2 : n ≤ 6
  all_goals
    have HB := Lib.hid (show inB n 1 6 = (decide (1 ≤ n) && decide (n ≤ 6)) from rfl)
    go_enter Try.func83, Try.ntmps83
    go_wp2
    go_ret
    exact ⟨by rw [HB.out]; simp [h1, h2], rfl⟩

set_option maxHeartbeats 400000 in
theorem l1Contains_any (v : Value) (xs : List Int) (m : Int) (w : World) {lo hi : Nat} (h : Ints w lo hi v xs) (r : Bool) (hr : xs.contains m = r) :
    Calls Try.prog 62 #[v, .int .i64 m] w fun e w' => e = .returned (.bool r) ∧ w = w' := by
  obtain ⟨a, cap, rfl, hn, hcell⟩ := h.open
  have HB := Lib.hid hr; clear hr
  go_enter Try.func62, Try.ntmps62
  go_wp2
  go_loop [5] (fun i => ∃ k : Nat, k ≤ xs.length ∧ i = .int .i64 k ∧ (xs.take k).contains m = false) (fun i => xs.length - (intOf i).toNat)
  case atStart => exact ⟨0, Nat.zero_le _, rfl, rfl⟩
  case round =>
    obtain ⟨k, hk, rfl, hc⟩ := hrel
    have HC := Lib.hid hc; clear hc
    by_cases hlt : k < xs.length
    · obtain ⟨p, hi, hkc⟩ := hcell k hlt
      have hix := hi k rfl
      clear hi hcell
      have hs := take_succ_contains xs k m hlt
      by_cases he : (nth xs k == m) = true
      · have hT := Lib.hid (contains_of_nth hlt he); clear hs
        go_wp2
        go_ret
        exact ⟨ret_bool (hT.out.symm.trans HB.out), rfl⟩
      · have he' : (nth xs k == m) = false := by simpa using he
        have HS := Lib.hid (show (xs.take (k + 1)).contains m = false by rw [hs, HC.out, he']; rfl); clear hs he
        go_wp2
        go_round
        case rel => exact ⟨k + 1, by omega, by go_num, HS.out⟩
        case measure => simp [intOf]; omega
    · have hB' := Lib.hid (show r = false by rw [← HB.out, ← HC.out, take_all hlt])
      go_wp2
      go_ret
      exact ⟨ret_bool hB'.out.symm, rfl⟩

set_option maxHeartbeats 1000000 in
theorem specSetValid_any (v : Value) (xs : List Int) (w : World) {lo hi : Nat} (h : Ints w lo hi v xs) (r : Bool) (hr : setValid xs = r) :
    Calls Try.prog 34 #[v] w fun e w' => e = .returned (.bool r) ∧ ∃ n, w' = w.drewN n := by
  obtain ⟨a, cap, rfl, hn, hcell⟩ := h.open
  have HB := Lib.hid hr; clear hr
  go_enter Try.func34, Try.ntmps34
  go_wp2
  go_loopw [3] (fun i wr => ∃ k : Nat, k ≤ xs.length ∧ i = .int .i64 k ∧ validTo xs k = true ∧ ∃ n, wr = w.drewN n) (fun i _ => xs.length - (intOf i).toNat)
  case atStart => exact ⟨0, Nat.zero_le _, rfl, rfl, 0, rfl⟩
  case round =>
    obtain ⟨k, hk, rfl, hc, hw⟩ := hrel
    have HW := Lib.hid hw; clear hw
    have HC := Lib.hid hc; clear hc
    by_cases hlt : k < xs.length
    · obtain ⟨p, hi, hkc0⟩ := hcell k hlt
      have hix := hi k rfl
      have hkc : wr.cell? p = some (.int .i64 (nth xs k)) := by obtain ⟨n, rfl⟩ := HW.out; exact hkc0
      clear hi hkc0
      rcases stepOk_cases xs k _ rfl with ⟨e1, e2⟩ | ⟨e1, e2, e3⟩ | ⟨e1, e2, e3, e4⟩ | ⟨e1, e2, e3, e4⟩
      · have HS := Lib.hid (valid_stop hlt e2); clear e2
        have E1 := Lib.hid e1; clear e1
        go_wp2
        go_quiet ((go_at_call 65; exact quietS (l6In_any _ _ _ _ false E1.out)))
        go_wp2
        go_ret
        exact ⟨ret_bool (HS.out.symm.trans HB.out), drawn_more HW.out _⟩
      · have HS := Lib.hid (validTo_step HC.out e3); clear e3
        have E1 := Lib.hid e1; clear e1
        have hg : decide ((0 : Int) < (k : Int)) = false := by simp [e2]
        have hgn : decide (0 < k) = false := by simp [e2]
        have E2 := Lib.hid e2; clear e2
        go_wp2
        go_quiet ((go_at_call 65; exact quietS (l6In_any _ _ _ _ true E1.out)))
        go_wp2
        go_roundw
        case rel => exact ⟨k + 1, by omega, by go_num, HS.out, drawn_more HW.out _⟩
        case measure => simp [intOf]; omega
      · have HS := Lib.hid (valid_stop hlt e4); clear e4
        have E1 := Lib.hid e1; clear e1
        obtain ⟨q, hj, hkd0⟩ := hcell (k - 1) (by omega)
        have hiy := hj ((k : Int) - 1) (by omega)
        have hkd : wr.cell? q = some (.int .i64 (nth xs (k - 1))) := by obtain ⟨n, rfl⟩ := HW.out; exact hkd0
        clear hj hkd0
        have hg : decide ((0 : Int) < (k : Int)) = true := by simp; omega
        have hgn : decide (0 < k) = true := by simp; omega
        have hd : decide (nth xs k ≤ nth xs (k - 1)) = true := by simpa using e3
        go_wp2
        go_quiet ((go_at_call 65; exact quietS (l6In_any _ _ _ _ true E1.out)))
        go_wp2
        go_ret
        exact ⟨ret_bool (HS.out.symm.trans HB.out), drawn_more HW.out _⟩
      · have HS := Lib.hid (validTo_step HC.out e4); clear e4
        have E1 := Lib.hid e1; clear e1
        obtain ⟨q, hj, hkd0⟩ := hcell (k - 1) (by omega)
        have hiy := hj ((k : Int) - 1) (by omega)
        have hkd : wr.cell? q = some (.int .i64 (nth xs (k - 1))) := by obtain ⟨n, rfl⟩ := HW.out; exact hkd0
        clear hj hkd0
        have hg : decide ((0 : Int) < (k : Int)) = true := by simp; omega
        have hgn : decide (0 < k) = true := by simp; omega
        have hd : decide (nth xs k ≤ nth xs (k - 1)) = false := by simp; omega
        go_wp2
        go_quiet ((go_at_call 65; exact quietS (l6In_any _ _ _ _ true E1.out)))
        go_wp2
        go_roundw
        case rel => exact ⟨k + 1, by omega, by go_num, HS.out, drawn_more HW.out _⟩
        case measure => simp [intOf]; omega
    · have hB' := Lib.hid (show r = true by rw [← HB.out]; exact valid_end hk hlt HC.out)
      go_wp2
      go_ret
      exact ⟨ret_bool hB'.out.symm, HW.out⟩
end Go.Proofs.Ytgipgfhnkkpdkaa
