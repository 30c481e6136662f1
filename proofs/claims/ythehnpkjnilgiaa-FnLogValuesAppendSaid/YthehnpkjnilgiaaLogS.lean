/-
  The walks of the reference's draws DrawLogOpen and DrawLogConfig.
-/
import Derived.Test.YthehnpkjnilgiaaLogR
import Derived.OwnWalk
namespace Go.Proofs.Ythehnpkjnilgiaa
open Go.RowKit
set_option linter.unusedVariables false

set_option maxHeartbeats 1000000 in
theorem DrawLogOpen_any (v : Value) (n : Nat) (w : World) {lo hi : Nat} (h : Bytes w lo hi v n) :
    Calls Try.prog 21 #[v] w fun e w' => ∃ s es m, e = .returned (.tuple #[s, .int .i64 m]) ∧ Ents w' w.heap.size w'.heap.size s es ∧ es.length ≤ 8 ∧ 1 ≤ m ∧ m ≤ 4 ∧ Below w.heap.size w w' := by
  go_enter Try.func21, Try.ntmps21
  go_wp2_with fail
  refine (open_any v n _ h).mono ?_
  rintro e w1 ⟨rfl, hr1, hb1, hs1⟩
  go_wp2_with fail
  refine (l92Log_any _ 0 _ hr1 (by omega)).mono ?_
  rintro e w2 ⟨s, es, m, rfl, ho, hl, m0, m1, hr2, hk2⟩
  have hs2 := hk2.size
  have hb2 := hb1.trans (hk2.below (Nat.le_refl _) (by omega))
  go_wp2_with fail
  go_ret2
  exact ⟨_, es, _, rfl, ho.ents.wide (by omega) (Nat.le_refl _) (Nat.le_refl _), hl, m0, m1, hb2⟩

set_option maxHeartbeats 1000000 in
theorem DrawLogConfig_any (v : Value) (n : Nat) (w : World) {lo hi : Nat} (h : Bytes w lo hi v n) :
    Calls Try.prog 10 #[v] w fun e w' => ∃ s es m t, e = .returned (.tuple #[s, .int .i64 m, .int .i64 t]) ∧ Ents w' w.heap.size w'.heap.size s es ∧ es.length ≤ 8 ∧ 1 ≤ m ∧ m ≤ 4 ∧ -1 ≤ t ∧ t ≤ 20 ∧ Below w.heap.size w w' := by
  go_enter Try.func10, Try.ntmps10
  go_wp2_with fail
  refine (open_any v n _ h).mono ?_
  rintro e w1 ⟨rfl, hr1, hb1, hs1⟩
  go_wp2_with fail
  refine (l92Log_any _ 0 _ hr1 (by omega)).mono ?_
  rintro e w2 ⟨s, es, m, rfl, ho, hl, m0, m1, hr2, hk2⟩
  have hs2 := hk2.size
  have hb2 := hb1.trans (hk2.below (Nat.le_refl _) (by omega))
  obtain ⟨a, cap, hse, hn, _⟩ := ho.ents.open
  subst hse
  go_wp2_with fail
  refine (pick_any _ _ _ _ hr2 (by omega) (by omega)).mono ?_
  rintro e w3 ⟨y, rfl, y0, y1, hr3, hk3⟩
  have hs3 := hk3.size
  go_wp2_with fail
  go_ret3
  exact ⟨_, es, _, _, rfl, (ho.ents.keep hk3 (.inr (by omega))).wide (by omega) hs3 (Nat.le_refl _), hl, m0, m1, by omega, by omega, hb2.trans (hk3.below (Nat.le_refl _) (by omega))⟩
end Go.Proofs.Ythehnpkjnilgiaa
