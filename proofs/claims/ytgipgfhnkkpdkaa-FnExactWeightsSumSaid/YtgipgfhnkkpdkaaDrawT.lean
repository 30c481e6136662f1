/-
  The walks of the reference's draws for the statements on member sets.
-/
import Derived.Test.YtgipgfhnkkpdkaaDrawS
namespace Go.Proofs.Ytgipgfhnkkpdkaa
open Go.RowKit
set_option linter.unusedVariables false

def RetSets2 (w : World) (e : Ending) (w' : World) : Prop :=
  ∃ v1 v2 xs ys, e = .returned (.tuple #[v1, v2]) ∧ Ints w' w.heap.size w'.heap.size v1 xs ∧ Ints w' w.heap.size w'.heap.size v2 ys ∧ Tiny xs ∧ Tiny ys ∧ Below w.heap.size w w'
def RetSets1 (w : World) (e : Ending) (w' : World) : Prop :=
  ∃ v1 xs, e = .returned v1 ∧ Ints w' w.heap.size w'.heap.size v1 xs ∧ Tiny xs ∧ Below w.heap.size w w'
def RetSetI (w : World) (e : Ending) (w' : World) : Prop :=
  ∃ v1 xs m, e = .returned (.tuple #[v1, .int .i64 m]) ∧ Ints w' w.heap.size w'.heap.size v1 xs ∧ Tiny xs ∧ -1 ≤ m ∧ m ≤ 7 ∧ Below w.heap.size w w'
def RetNum (lo hi : Int) (w : World) (e : Ending) (w' : World) : Prop := ∃ m, e = .returned (.int .i64 m) ∧ lo ≤ m ∧ m ≤ hi ∧ Below w.heap.size w w'

set_option maxHeartbeats 1000000 in
theorem DrawSetOfMask_any (v : Value) (n : Nat) (w : World) {lo hi : Nat} (h : Bytes w lo hi v n) :
    Calls Try.prog 41 #[v] w (RetNum (-2) (68 - 1 - 2) w) := by
  go_enter Try.func41, Try.ntmps41
  go_wp2_with fail
  refine (open_any v n _ h).mono ?_
  rintro e w1 ⟨rfl, hr1, hb1, hs1⟩
  go_wp2_with fail
  refine (pick_any _ 0 68 _ hr1 (by omega) (by omega)).mono ?_
  rintro e w2 ⟨m, rfl, m0, m1, hr2, hk2⟩
  go_wp2_with fail
  go_ret
  exact ⟨_, rfl, by omega, by omega, hb1.trans (hk2.below (Nat.le_refl _) (by omega))⟩

set_option maxHeartbeats 1000000 in
theorem DrawCommandOfValue_any (v : Value) (n : Nat) (w : World) {lo hi : Nat} (h : Bytes w lo hi v n) :
    Calls Try.prog 23 #[v] w (RetNum (-1) (102 - 1 - 1) w) := by
  go_enter Try.func23, Try.ntmps23
  go_wp2_with fail
  refine (open_any v n _ h).mono ?_
  rintro e w1 ⟨rfl, hr1, hb1, hs1⟩
  go_wp2_with fail
  refine (pick_any _ 0 102 _ hr1 (by omega) (by omega)).mono ?_
  rintro e w2 ⟨m, rfl, m0, m1, hr2, hk2⟩
  go_wp2_with fail
  go_ret
  exact ⟨_, rfl, by omega, by omega, hb1.trans (hk2.below (Nat.le_refl _) (by omega))⟩

set_option maxHeartbeats 1000000 in
theorem DrawSetMask_any (v : Value) (n : Nat) (w : World) {lo hi : Nat} (h : Bytes w lo hi v n) :
    Calls Try.prog 49 #[v] w (RetSets1 w) := by
  go_enter Try.func49, Try.ntmps49
  go_wp2_with fail
  refine (open_any v n _ h).mono ?_
  rintro e w1 ⟨rfl, hr1, hb1, hs1⟩
  go_wp2_with fail
  refine (l91Set_any _ 0 _ hr1 (by omega)).mono ?_
  rintro e w2 ⟨v1, xs, rfl, ho1, ht1, hr2, hk2⟩
  have hs2 := hk2.size
  have hb2 := hb1.trans (hk2.below (Nat.le_refl _) (by omega))
  go_wp2_with fail
  go_ret
  exact ⟨_, xs, rfl, ho1.ints.wide (by omega) (Nat.le_refl _) (Nat.le_refl _), ht1, hb2⟩

set_option maxHeartbeats 1000000 in
theorem DrawSetContains_any (v : Value) (n : Nat) (w : World) {lo hi : Nat} (h : Bytes w lo hi v n) :
    Calls Try.prog 33 #[v] w (RetSetI w) := by
  go_enter Try.func33, Try.ntmps33
  go_wp2_with fail
  refine (open_any v n _ h).mono ?_
  rintro e w1 ⟨rfl, hr1, hb1, hs1⟩
  go_wp2_with fail
  refine (l91Set_any _ 0 _ hr1 (by omega)).mono ?_
  rintro e w2 ⟨v1, xs, rfl, ho1, ht1, hr2, hk2⟩
  have hs2 := hk2.size
  have hb2 := hb1.trans (hk2.below (Nat.le_refl _) (by omega))
  go_wp2_with fail
  refine (pick_any _ (0 + 3) 9 _ hr2 (by omega) (by omega)).mono ?_
  rintro e w3 ⟨m, rfl, m0, m1, hr3, hk3⟩
  have hs3 := hk3.size
  go_wp2_with fail
  go_ret2
  exact ⟨_, xs, _, rfl, (ho1.ints.keep hk3 (.inr (by omega))).wide (by omega) (by omega) (Nat.le_refl _), ht1, by omega, by omega, hb2.trans (hk3.below (Nat.le_refl _) (by omega))⟩

set_option maxHeartbeats 1000000 in
theorem DrawSetUnion_any (v : Value) (n : Nat) (w : World) {lo hi : Nat} (h : Bytes w lo hi v n) :
    Calls Try.prog 52 #[v] w (RetSets2 w) := by
  go_enter Try.func52, Try.ntmps52
  go_wp2_with fail
  refine (open_any v n _ h).mono ?_
  rintro e w1 ⟨rfl, hr1, hb1, hs1⟩
  go_wp2_with fail
  refine (l91Set_any _ 0 _ hr1 (by omega)).mono ?_
  rintro e w2 ⟨v1, xs, rfl, ho1, ht1, hr2, hk2⟩
  have hs2 := hk2.size
  have hb2 := hb1.trans (hk2.below (Nat.le_refl _) (by omega))
  go_wp2_with fail
  refine (l91Set_any _ (0 + 3) _ hr2 (by omega)).mono ?_
  rintro e w3 ⟨v2, ys, rfl, ho2, ht2, hr3, hk3⟩
  have hs3 := hk3.size
  go_wp2_with fail
  go_ret2
  exact ⟨_, _, xs, ys, rfl, (ho1.ints.keep hk3 (.inr (by omega))).wide (by omega) (by omega) (Nat.le_refl _), ho2.ints.wide (by omega) (Nat.le_refl _) (Nat.le_refl _), ht1, ht2, hb2.trans (hk3.below (Nat.le_refl _) (by omega))⟩

set_option maxHeartbeats 1000000 in
theorem DrawSetMinus_any (v : Value) (n : Nat) (w : World) {lo hi : Nat} (h : Bytes w lo hi v n) :
    Calls Try.prog 53 #[v] w (RetSets2 w) := by
  go_enter Try.func53, Try.ntmps53
  go_wp2_with fail
  refine (DrawSetUnion_any v n _ h).mono ?_
  rintro e w1 ⟨v1, v2, xs, ys, rfl, r⟩
  go_wp2_with fail
  go_ret2
  exact ⟨_, _, xs, ys, rfl, r⟩

theorem tiny_inter {xs ys : List Int} (h : Tiny xs) : Tiny (interL xs ys) := by
  unfold interL
  split
  · exact ⟨Nat.le_trans (List.length_filter_le _ _) h.1, fun x hx => h.2 x (List.mem_filter.1 hx).1⟩
  · exact ⟨by simp, by simp⟩

set_option maxHeartbeats 1000000 in
theorem DrawSetSubset_any (v : Value) (n : Nat) (w : World) {lo hi : Nat} (h : Bytes w lo hi v n) :
    Calls Try.prog 54 #[v] w (RetSets2 w) := by
  go_enter Try.func54, Try.ntmps54
  go_wp2_with fail
  refine (open_any v n _ h).mono ?_
  rintro e w1 ⟨rfl, hr1, hb1, hs1⟩
  go_wp2_with fail
  refine (l91Set_any _ 0 _ hr1 (by omega)).mono ?_
  rintro e w2 ⟨v1, xs, rfl, ho1, ht1, hr2, hk2⟩
  have hs2 := hk2.size
  have hb2 := hb1.trans (hk2.below (Nat.le_refl _) (by omega))
  go_wp2_with fail
  refine (l91Set_any _ (0 + 3) _ hr2 (by omega)).mono ?_
  rintro e w3 ⟨v2, ys, rfl, ho2, ht2, hr3, hk3⟩
  have hs3 := hk3.size
  have hb3 := hb2.trans (hk3.below (Nat.le_refl _) (by omega))
  have i1 := (ho1.ints.keep hk3 (.inr (by omega))).wide (lo' := w.heap.size) (hi' := w3.heap.size) (by omega) (by omega) (Nat.le_refl _)
  have i2 := ho2.ints.wide (lo' := w.heap.size) (hi' := w3.heap.size) (by omega) (Nat.le_refl _) (Nat.le_refl _)
  go_wp2_with fail
  refine (pick_any _ (0 + 3 + 3) 2 _ hr3 (by omega) (by omega)).mono ?_
  rintro e w4 ⟨c, rfl, c0, c1, hr4, hk4⟩
  have hs4 := hk4.size
  have hb4 := hb3.trans (hk4.below (Nat.le_refl _) (by omega))
  have j1 := ((ho1.ints.keep hk3 (.inr (by omega))).keep hk4 (.inr (by omega))).wide (lo' := w.heap.size) (hi' := w4.heap.size) (by omega) (by omega) (Nat.le_refl _)
  have j2 := (ho2.ints.keep hk4 (.inr (by omega))).wide (lo' := w.heap.size) (hi' := w4.heap.size) (by omega) (by omega) (Nat.le_refl _)
  by_cases hc : c = 0
  · subst hc
    have hlen := ht1.1
    go_wp2_with fail
    refine (specSetIntersect_any _ _ xs ys _ _ j1 j2 rfl (by omega)).mono ?_
    rintro e w5 ⟨v3, rfl, ho5, hb5⟩
    have hs5 := hb5.size
    go_wp2_with fail
    go_ret2
    exact ⟨_, _, _, ys, rfl, ho5.ints.wide (by omega) (Nat.le_refl _) (Nat.le_refl _), (j2.below hb5).wide (Nat.le_refl _) (by omega) (Nat.le_refl _), tiny_inter ht1, ht2, below_step hb4 hb5 (by omega)⟩
  · have hcf : (c == 0) = false := by rw [beq_eq_false_iff_ne]; exact hc
    go_wp2_with fail
    go_ret2
    exact ⟨_, _, xs, ys, rfl, j1, j2, ht1, ht2, hb4⟩
end Go.Proofs.Ytgipgfhnkkpdkaa
