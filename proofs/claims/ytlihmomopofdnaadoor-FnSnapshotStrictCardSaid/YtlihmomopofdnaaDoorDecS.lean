/-
  The walks of the reference's l32Num and StoreDecode.
-/
import Derived.Test.YtlihmomopofdnaaDoorDec
import Derived.Test.YtlihmomopofdnaaDoorEncW
import Derived.Lib.IndexBytes
namespace Go.Proofs.YtlihmomopofdnaaDoor
open Go.RowKit
set_option linter.unusedVariables false

theorem idx_at {t : ByteArray} (i : Nat) (z : Int) (hz : z = (i : Int)) (hi : i < t.size) (w : World) : (Instr.index 9 (.string t) (.int .i64 z)).run Tryd.prog w = .ok (.int .u8 ((bt t i).toNat : Int)) w := by
  subst hz
  rw [run_index_string w 9 t .i64 _ Tryd.underlying9, dif_pos ⟨by omega, by omega⟩]
  have e : ((i : Int)).toNat = i := by omega
  simp only [e]
  have hb : bt t i = t[i] := by
    unfold bt
    rw [List.getD_eq_getElem?_getD, Lib.data_getElem? t i hi]
    rfl
  rw [hb]
theorem valK_le (t : ByteArray) (i : Nat) : ∀ k, (∀ j, j < k → isD (bt t (i + j)) = true) → valK t i k + 1 ≤ 10 ^ k
  | 0, _ => Nat.le_refl _
  | k + 1, h => by
    have ih := valK_le t i k fun j hj => h j (by omega)
    have hd := h k (Nat.lt_succ_self _)
    unfold isD at hd
    rw [Bool.and_eq_true, decide_eq_true_eq, decide_eq_true_eq] at hd
    unfold valK
    rw [Nat.pow_succ]
    omega

set_option maxRecDepth 100000 in
set_option maxHeartbeats 4000000 in
theorem l32Num_any (t : ByteArray) (i : Nat) (w : World) (hi : i ≤ t.size) (ht : t.size ≤ 1048576) :
    Calls Tryd.prog 23 #[.string t, .int .i64 i] w fun e w' => ∃ k, StopK t i k ∧ i + k ≤ t.size ∧ valK t i k ≤ 99 ∧ e = .returned (.tuple #[.int .i64 (valK t i k : Nat), .int .i64 ((i + k : Nat) : Int)]) ∧ Below w.heap.size w w' := by
  have hw2 : IntKind.i64.wrap ((i : Int) + 2) = (i : Int) + 2 := wrap_i64 (by omega) (by omega)
  go_enter Tryd.func23, Tryd.ntmps23
  go_wp2_with fail
  go_loopw [1, 6] (fun a n wr => ∃ (k x p : Nat), k ≤ 2 ∧ Hid (p = i + k) ∧ i ≤ p ∧ p ≤ t.size ∧ a = .int .i64 p ∧ n = .int .i64 x ∧ Hid (x = valK t i k) ∧ x ≤ 99 ∧ Hid (∀ j, j < k → isD (bt t (i + j)) = true) ∧ Below w.heap.size w wr) (fun a _ _ => i + 2 - (intOf a).toNat)
  case atStart => exact ⟨0, 0, i, by omega, Lib.hid rfl, Nat.le_refl _, hi, rfl, rfl, Lib.hid rfl, by omega, Lib.hid (fun j hj => absurd hj (by omega)), Below.refl _ _⟩
  case round =>
    obtain ⟨k, x, p, hk, HP, hip, hpt, rfl, rfl, HX, hx, HD, hb⟩ := hrel
    by_cases c1 : p < t.size
    · by_cases c2 : p < i + 2
      · have hix := idx_at (t := t) p p rfl c1
        have hp := HP.out
        obtain ⟨b, hbb⟩ : ∃ b : Nat, (bt t p).toNat = b := ⟨_, rfl⟩
        have hb8 : b < 256 := by rw [← hbb]; exact (bt t p).toNat_lt
        rw [hbb] at hix
        have HBB := Lib.hid hbb
        clear hbb
        by_cases c3 : 48 ≤ b
        · by_cases c4 : b ≤ 57
          · have e3 : ¬ ((b : Int) < 48) := by omega
            have e3' : (48 : Int) ≤ (b : Int) := by omega
            have e4 : (b : Int) ≤ 57 := by omega
            have e2 : (p : Int) < (i : Int) + 2 := by omega
            have e1 : (p : Int) < (t.size : Int) := by omega
            have hs1 : IntKind.u8.wrap ((b : Int) - 48) = (b : Int) - 48 := by
              have : b = 48 ∨ b = 49 ∨ b = 50 ∨ b = 51 ∨ b = 52 ∨ b = 53 ∨ b = 54 ∨ b = 55 ∨ b = 56 ∨ b = 57 := by omega
              rcases this with rfl | rfl | rfl | rfl | rfl | rfl | rfl | rfl | rfl | rfl <;> rfl
            have hs2 : IntKind.i64.wrap ((b : Int) - 48) = (b : Int) - 48 := wrap_i64 (by omega) (by omega)
            have hs3 : IntKind.i64.wrap (10 * (x : Int)) = 10 * (x : Int) := wrap_i64 (by omega) (by omega)
            have hs4 : IntKind.i64.wrap (10 * (x : Int) + ((b : Int) - 48)) = 10 * (x : Int) + ((b : Int) - 48) := wrap_i64 (by omega) (by omega)
            have hs5 : IntKind.i64.wrap ((p : Int) + 1) = (p : Int) + 1 := wrap_i64 (by omega) (by omega)
            have HD2 : Hid (∀ j, j < k + 1 → isD (bt t (i + j)) = true) := Lib.hid fun j hj => by
              rcases Nat.lt_or_ge j k with h | h
              · exact HD.out j h
              · obtain rfl : j = k := by omega
                rw [← hp]
                exact isD_mk (by rw [HBB.out]; exact c3) (by rw [HBB.out]; exact c4)
            have HX2 := Lib.hid (show 10 * x + (b - 48) = valK t i (k + 1) by unfold valK; rw [← hp, HBB.out, HX.out])
            have hx2 := valK_le t i (k + 1) HD2.out
            have hx3 : 10 * x + (b - 48) ≤ 99 := by
              rw [HX2.out]
              have : k = 0 ∨ k = 1 := by omega
              rcases this with rfl | rfl
              · have : valK t i (0 + 1) + 1 ≤ 10 := hx2
                omega
              · have : valK t i (1 + 1) + 1 ≤ 100 := hx2
                omega
            have HX3 := Lib.hid hx3
            have HP2 := Lib.hid (show p + 1 = i + (k + 1) by omega)
            have HK := Lib.hid (show k + 1 ≤ 2 by omega)
            clear hx2 hx3 hp
            go_wp2_with fail
            go_roundw
            case rel => exact ⟨k + 1, 10 * x + (b - 48), p + 1, HK.out, HP2, by omega, by omega, by go_num, by congr 1; omega, HX2, HX3.out, HD2, hb⟩
            case measure => simp [intOf]; omega
          · have e3 : (48 : Int) ≤ (b : Int) := by omega
            have e4 : ¬ (b : Int) ≤ 57 := by omega
            have e2 : (p : Int) < (i : Int) + 2 := by omega
            have e1 : (p : Int) < (t.size : Int) := by omega
            have HS : Hid (StopK t i k) := Lib.hid ⟨hk, HD.out, .inr (.inr (by rw [← hp]; exact isD_hi (by rw [HBB.out]; exact c4)))⟩
            clear hp
            go_wp2_with fail
            go_ret2
            exact ⟨k, HS.out, by rw [← HP.out]; exact hpt, by rw [← HX.out]; exact hx, by have hpz : (i : Int) + (k : Int) = (p : Int) := (by have := HP.out; omega); simp only [hpz, ← HX.out]; rfl, hb⟩
        · have e3 : ¬ (48 : Int) ≤ (b : Int) := by omega
          have e2 : (p : Int) < (i : Int) + 2 := by omega
          have e1 : (p : Int) < (t.size : Int) := by omega
          have HS : Hid (StopK t i k) := Lib.hid ⟨hk, HD.out, .inr (.inr (by rw [← hp]; exact isD_lo (by rw [HBB.out]; exact c3)))⟩
          clear hp
          go_wp2_with fail
          go_ret2
          exact ⟨k, HS.out, by rw [← HP.out]; exact hpt, by rw [← HX.out]; exact hx, by have hpz : (i : Int) + (k : Int) = (p : Int) := (by have := HP.out; omega); simp only [hpz, ← HX.out]; rfl, hb⟩
      · have e2 : ¬ (p : Int) < (i : Int) + 2 := by omega
        have e1 : (p : Int) < (t.size : Int) := by omega
        have HS : Hid (StopK t i k) := Lib.hid ⟨hk, HD.out, .inl (by have := HP.out; omega)⟩
        go_wp2_with fail
        go_ret2
        exact ⟨k, HS.out, by rw [← HP.out]; exact hpt, by rw [← HX.out]; exact hx, by have hpz : (i : Int) + (k : Int) = (p : Int) := (by have := HP.out; omega); simp only [hpz, ← HX.out]; rfl, hb⟩
    · have e1 : ¬ (p : Int) < (t.size : Int) := by omega
      have HS : Hid (StopK t i k) := Lib.hid ⟨hk, HD.out, .inr (.inl (by rw [← HP.out]; omega))⟩
      go_wp2_with fail
      go_ret2
      exact ⟨k, HS.out, by rw [← HP.out]; exact hpt, by rw [← HX.out]; exact hx, by have hpz : (i : Int) + (k : Int) = (p : Int) := (by have := HP.out; omega); simp only [hpz, ← HX.out]; rfl, hb⟩
end Go.Proofs.YtlihmomopofdnaaDoor
