/-
  The walks of the reference's functions on member sets.
-/
import Derived.Test.YtgipgfhnkkpdkaaSetW
namespace Go.Proofs.Ytgipgfhnkkpdkaa
open Go.RowKit
set_option linter.unusedVariables false

set_option maxHeartbeats 400000 in
theorem specContains_any (v1 : Value) (xs : List Int) (m : Int) (w : World) {l1 h1 : Nat} (i1 : Ints w l1 h1 v1 xs) (r : Bool) (hr : (setValid xs && xs.contains m) = r) :
    Calls Try.prog 25 #[v1, .int .i64 m] w fun e w' => e = .returned (.bool r) ∧ ∃ n, w' = w.drewN n := by
  have HR := Lib.hid hr; clear hr
  cases hv : setValid xs
  · have HV := Lib.hid hv; clear hv
    go_enter Try.func25, Try.ntmps25
    go_wp2_with fail
    refine (specSetValid_any _ xs _ i1 false HV.out).mono ?_
    rintro e w1 ⟨rfl, hw1⟩
    go_wp2_with fail
    go_ret
    exact ⟨ret_bool (by rw [← HR.out, HV.out]; rfl), hw1⟩
  · have HV := Lib.hid hv; clear hv
    go_enter Try.func25, Try.ntmps25
    go_wp2_with fail
    refine (specSetValid_any _ xs _ i1 true HV.out).mono ?_
    rintro e w1 ⟨rfl, hw1⟩
    go_wp2_with fail
    refine (l1Contains_any _ xs _ _ (i1.below (drawn_below hw1)) r (by rw [← HR.out, HV.out]; rfl)).mono ?_
    rintro e w' ⟨rfl, rfl⟩
    go_wp2_with fail
    go_ret
    exact ⟨rfl, hw1⟩

set_option maxHeartbeats 1000000 in
theorem l1Union_any (v1 v2 : Value) (xs ys zs : List Int) (w : World) {l1 h1 l2 h2 : Nat} (i1 : Ints w l1 h1 v1 xs) (i2 : Ints w l2 h2 v2 ys) (hz : uniTo xs ys 6 = zs) :
    Calls Try.prog 78 #[v1, v2] w (RetInts w zs) := by
  have HZ := Lib.hid hz; clear hz
  go_enter Try.func78, Try.ntmps78
  go_wp2_with fail
  go_loopw [5, 6] (fun q i wr => ∃ k : Nat, k ≤ 6 ∧ i = .int .i64 (k + 1) ∧ IntsO wr w.heap.size wr.heap.size q (uniTo xs ys k) ∧ Below w.heap.size w wr) (fun _ i _ => 7 - (intOf i).toNat)
  case atStart => exact ⟨0, by omega, rfl, IntsO.empty _ _ (Nat.le_refl _), (Below.refl _ _).alloc (Nat.le_refl _) _⟩
  case round =>
    obtain ⟨k, hk, rfl, hown, hb⟩ := hrel
    by_cases hlt : k < 6
    · have hl := uniTo_len xs ys k
      have hsz := hb.size
      have j1 := i1.below hb
      have j2 := i2.below hb
      cases hh : (xs.contains ((k : Int) + 1) || ys.contains ((k : Int) + 1))
      · have HM := Lib.hid (show uniTo xs ys (k + 1) = uniTo xs ys k by simp only [uniTo, hh, Bool.false_eq_true, if_false])
        rw [Bool.or_eq_false_iff] at hh
        have H1 := Lib.hid hh.1
        have H2 := Lib.hid hh.2
        clear hh
        go_wp2_with fail
        refine (l1Contains_any _ xs _ _ j1 false H1.out).mono ?_
        rintro e w' ⟨rfl, rfl⟩
        go_wp2_with fail
        refine (l1Contains_any _ ys _ _ j2 false H2.out).mono ?_
        rintro e w' ⟨rfl, rfl⟩
        go_wp2_with fail
        go_roundw
        case rel => exact ⟨k + 1, by omega, by go_num, by rw [HM.out]; exact hown, hb⟩
        case measure => simp [intOf]; omega
      · have HM := Lib.hid (show uniTo xs ys (k + 1) = uniTo xs ys k ++ [((k : Int) + 1)] by simp only [uniTo, hh, if_true])
        have hd : xs.contains ((k : Int) + 1) = true ∨ (xs.contains ((k : Int) + 1) = false ∧ ys.contains ((k : Int) + 1) = true) := by
          cases h1 : xs.contains ((k : Int) + 1)
          · right; rw [h1] at hh; exact ⟨rfl, hh⟩
          · left; rfl
        clear hh
        rcases hd with h1 | ⟨h1, h2⟩
        · have H1 := Lib.hid h1
          clear h1
          go_wp2_with fail
          refine (l1Contains_any _ xs _ _ j1 true H1.out).mono ?_
          rintro e w' ⟨rfl, rfl⟩
          go_wp2_with (at_builtin; refine wpl_append elInt rfl _ _ rfl rfl (Own.below hown ((Below.refl _ _).alloc (Nat.le_refl _) _)) hsz ⟨wr.heap.size, 0, none⟩ 1 1 [.int .i64 (k + 1)] rfl rfl (cell_one_new _ _ _) (ints_oneCell .i64 [(k : Int) + 1]) (by omega) (by unfold maxLen; omega) ?_; intro v' w1 hown1 hk1)
          have hb1 : Below w.heap.size w w1 := (hb.alloc hsz _).trans (hk1.below (Nat.le_refl _) (by simp; omega))
          have hown2 : IntsO w1 w.heap.size w1.heap.size v' (uniTo xs ys (k + 1)) := by rw [HM.out]; unfold IntsO; simpa using hown1
          clear hown1 hown hk1 hb j1 j2
          go_wp2_with fail
          go_roundw
          case rel => exact ⟨k + 1, by omega, by go_num, hown2, hb1⟩
          case measure => simp [intOf]; omega
        · have H1 := Lib.hid h1
          have H2 := Lib.hid h2
          clear h1 h2
          go_wp2_with fail
          refine (l1Contains_any _ xs _ _ j1 false H1.out).mono ?_
          rintro e w' ⟨rfl, rfl⟩
          go_wp2_with fail
          refine (l1Contains_any _ ys _ _ j2 true H2.out).mono ?_
          rintro e w' ⟨rfl, rfl⟩
          go_wp2_with (at_builtin; refine wpl_append elInt rfl _ _ rfl rfl (Own.below hown ((Below.refl _ _).alloc (Nat.le_refl _) _)) hsz ⟨wr.heap.size, 0, none⟩ 1 1 [.int .i64 (k + 1)] rfl rfl (cell_one_new _ _ _) (ints_oneCell .i64 [(k : Int) + 1]) (by omega) (by unfold maxLen; omega) ?_; intro v' w1 hown1 hk1)
          have hb1 : Below w.heap.size w w1 := (hb.alloc hsz _).trans (hk1.below (Nat.le_refl _) (by simp; omega))
          have hown2 : IntsO w1 w.heap.size w1.heap.size v' (uniTo xs ys (k + 1)) := by rw [HM.out]; unfold IntsO; simpa using hown1
          clear hown1 hown hk1 hb j1 j2
          go_wp2_with fail
          go_roundw
          case rel => exact ⟨k + 1, by omega, by go_num, hown2, hb1⟩
          case measure => simp [intOf]; omega
    · have hk6 : k = 6 := by omega
      subst hk6
      go_wp2_with fail
      go_ret
      exact ⟨_, rfl, by rw [← HZ.out]; exact hown, hb⟩
end Go.Proofs.Ytgipgfhnkkpdkaa
