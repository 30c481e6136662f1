/-
  Contracts of the laws' own helpers on member sets.
-/
import Derived.Test.YtgipgfhnkkpdkaaSetQ
import Derived.Test.YtgipgfhnkkpdkaaDrawT
import Derived.Test.YtgipgfhnkkpdkaaUtil
namespace Go.Proofs.Ytgipgfhnkkpdkaa
open Go.RowKit
set_option linter.unusedVariables false

set_option maxHeartbeats 1000000 in
theorem setOf_any (n : Int) (w : World) (h0 : 0 ≤ n) (h1 : n ≤ 1048576) (m : Int) (hm : n * 37 % 64 = m) :
    Calls Try.prog 51 #[.int .i64 n] w (RetInts w (bitsTo m 6)) := by
  have hin : inB m 0 63 = true := inB_mk (by omega) (by omega)
  have HI := Lib.hid hin; clear hin
  have HM := Lib.hid hm; clear hm
  have HX := Lib.hid (show ofMaskL m = bitsTo m 6 by rw [ofMask_same]; simp [ofMaskS, HI.out])
  go_enter Try.func51, Try.ntmps51
  go_wp2_with fail
  rw [HM.out]
  refine (implSetOfMask_any m _ _ true HX.out HI.out).mono ?_
  rintro e w1 ⟨v, rfl, ho, hb⟩
  go_wp2_with fail
  go_ret
  exact ⟨_, rfl, ho, hb⟩

set_option maxHeartbeats 1000000 in
theorem specSetMask_any (v1 : Value) (xs : List Int) (w : World) {l1 h1 : Nat} (i1 : Ints w l1 h1 v1 xs) (m : Int) (hm : maskS xs = m) :
    Calls Try.prog 50 #[v1] w fun e w' => e = .returned (.int .i64 m) ∧ ∃ n, w' = w.drewN n := by
  have HM := Lib.hid hm; clear hm
  cases hv : setValid xs
  · have HV := Lib.hid hv; clear hv
    have HR := Lib.hid (show (-1 : Int) = m by rw [← HM.out]; simp [maskS, HV.out])
    go_enter Try.func50, Try.ntmps50
    go_wp2_with fail
    refine (specSetValid_any _ xs _ i1 false HV.out).mono ?_
    rintro e w1 ⟨rfl, hw1⟩
    go_wp2_with fail
    go_ret
    exact ⟨ret_int HR.out, hw1⟩
  · have HV := Lib.hid hv; clear hv
    have HR := Lib.hid (show maskL xs = m by rw [← HM.out]; simp [maskS, HV.out])
    have hs := valid_small HV.out
    have HS := Lib.hid hs.1
    have hl := hs.2
    clear hs
    go_enter Try.func50, Try.ntmps50
    go_wp2_with fail
    refine (specSetValid_any _ xs _ i1 true HV.out).mono ?_
    rintro e w1 ⟨rfl, hw1⟩
    go_wp2_with fail
    refine (l1Mask_any _ xs _ (i1.below (drawn_below hw1)) HS.out (by omega) _ HR.out).mono ?_
    rintro e w' ⟨rfl, rfl⟩
    go_wp2_with fail
    go_ret
    exact ⟨rfl, hw1⟩

/-! ### how often a member occurs -/
def countTo (xs : List Int) (m : Int) : Nat → Int
  | 0 => 0
  | k + 1 => if nth xs k == m then countTo xs m k + 1 else countTo xs m k
def count (xs : List Int) (m : Int) : Int := countTo xs m xs.length
theorem countTo_range (xs : List Int) (m : Int) (k : Nat) : 0 ≤ countTo xs m k ∧ countTo xs m k ≤ k := by
  induction k with
  | zero => simp [countTo]
  | succ k ih =>
    unfold countTo
    split <;> omega
theorem countTo_none {xs : List Int} {m : Int} (h : m ∉ xs) (k : Nat) (hk : k ≤ xs.length) : countTo xs m k = 0 := by
  induction k with
  | zero => rfl
  | succ k ih =>
    unfold countTo
    rw [if_neg (fun e => h (by rw [← beq_iff_eq.1 e]; exact nth_mem (by omega)))]
    exact ih (by omega)
theorem count_valid {xs : List Int} (h : setValid xs = true) {m : Int} : count xs m = if xs.contains m then 1 else 0 := by
  by_cases hm : m ∈ xs
  · have key : ∀ xs ∈ subs 6, ∀ m ∈ xs, count xs m = 1 := by decide +kernel
    rw [key xs (valid_mem h) m hm, List.contains_eq_mem]
    simp [hm]
  · rw [count, countTo_none hm _ (Nat.le_refl _), List.contains_eq_mem]
    simp [hm]
end Go.Proofs.Ytgipgfhnkkpdkaa
