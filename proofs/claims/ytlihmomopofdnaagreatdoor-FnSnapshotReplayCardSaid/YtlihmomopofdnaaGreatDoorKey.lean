/-
  Keys and values of a store: the walks of isKey, isValue (the program's), l32Key, l21Value (the reference's).
-/
import Derived.Test.YtlihmomopofdnaaGreatDoorStr
namespace Go.Proofs.YtlihmomopofdnaaGreatDoor
open Go.RowKit
set_option linter.unusedVariables false

def lt (a b : ByteArray) : Bool := Op.bytesLess a.toList b.toList
def isK (s : ByteArray) : Bool := s.size == 1 && (!Op.bytesLess s.toList [97] && (Op.bytesLess s.toList [102] || s.toList == [102]))
def isV (v : Int) : Bool := inB v 1 99

theorem one_byte {s : ByteArray} (h : s.size = 1) : ∃ c, s = ⟨#[c]⟩ := by
  obtain ⟨⟨l⟩⟩ := s
  match l, h with
  | [c], _ => exact ⟨c, rfl⟩
theorem key_of (c : UInt8) : isK ⟨#[c]⟩ = decide (0 ≤ Lib.indexByte [97, 98, 99, 100, 101, 102] c) := by
  have h : ∀ n : Fin 256, isK ⟨#[UInt8.ofNat n.val]⟩ = decide (0 ≤ Lib.indexByte [97, 98, 99, 100, 101, 102] (UInt8.ofNat n.val)) := by decide +kernel
  have := h ⟨c.toNat, c.toNat_lt⟩
  simpa using this

set_option maxHeartbeats 400000 in
theorem isKey_any (s : ByteArray) (w : World) (r : Bool) (hr : isK s = r) :
    Calls Tryz.prog 33 #[.string s] w fun e w' => e = .returned (.bool r) ∧ w = w' := by
  by_cases h : s.size = 1
  · obtain ⟨c, rfl⟩ := one_byte h
    rw [key_of] at hr
    have HR := Lib.hid hr; clear hr
    have hb : (((⟨#[c]⟩ : ByteArray).size : Int) == 1) = true := by rw [h]; rfl
    clear h
    go_enter Tryz.func33, Tryz.ntmps33
    go_wp2_with fail
    refine (strings_Contains_one _ c _).mono ?_
    rintro e w' ⟨rfl, rfl⟩
    go_wp2_with fail
    go_ret
    exact ⟨ret_bool HR.out, rfl⟩
  · have hb : ((s.size : Int) == 1) = false := by rw [beq_eq_false_iff_ne]; omega
    have HR := Lib.hid (show false = r by rw [← hr]; unfold isK; rw [beq_eq_false_iff_ne.2 h]; rfl); clear hr h
    go_enter Tryz.func33, Tryz.ntmps33
    go_wp2_with fail
    go_ret
    exact ⟨ret_bool HR.out, rfl⟩

set_option maxHeartbeats 400000 in
theorem l32Key_any (s : ByteArray) (w : World) (r : Bool) (hr : isK s = r) :
    Calls Tryz.prog 19 #[.string s] w fun e w' => e = .returned (.bool r) ∧ w = w' := by
  by_cases h : s.size = 1
  · have hb : ((s.size : Int) == 1) = true := by rw [h]; rfl
    have hk : (!Op.bytesLess s.toList [97] && (Op.bytesLess s.toList [102] || s.toList == [102])) = r := by
      rw [← hr]; unfold isK; rw [h]; rfl
    clear hr h
    cases h1 : Op.bytesLess s.toList [97]
    · have HR := Lib.hid (show (Op.bytesLess s.toList [102] || s.toList == [102]) = r by rw [← hk, h1]; rfl); clear hk
      go_enter Tryz.func19, Tryz.ntmps19
      go_wp2_with fail
      go_ret
      exact ⟨ret_bool HR.out, rfl⟩
    · have HR := Lib.hid (show false = r by rw [← hk, h1]; rfl); clear hk
      go_enter Tryz.func19, Tryz.ntmps19
      go_wp2_with fail
      go_ret
      exact ⟨ret_bool HR.out, rfl⟩
  · have hb : ((s.size : Int) == 1) = false := by rw [beq_eq_false_iff_ne]; omega
    have HR := Lib.hid (show false = r by rw [← hr]; unfold isK; rw [beq_eq_false_iff_ne.2 h]; rfl); clear hr h
    go_enter Tryz.func19, Tryz.ntmps19
    go_wp2_with fail
    go_ret
    exact ⟨ret_bool HR.out, rfl⟩

set_option maxHeartbeats 400000 in
theorem isValue_any (v : Int) (w : World) (r : Bool) (hr : isV v = r) :
    Calls Tryz.prog 34 #[.int .i64 v] w fun e w' => e = .returned (.bool r) ∧ w = w' := by
  subst hr
  by_cases h1 : 1 ≤ v <;> by_cases h2 : v ≤ 99
  all_goals
    have HB := Lib.hid (show isV v = (decide (1 ≤ v) && decide (v ≤ 99)) from rfl)
    go_enter Tryz.func34, Tryz.ntmps34
    go_wp2
    go_ret
    exact ⟨by rw [HB.out]; simp [h1, h2], rfl⟩
set_option maxHeartbeats 400000 in
theorem l6In_any (n lo hi : Int) (w : World) (r : Bool) (hr : inB n lo hi = r) :
    Calls Tryz.prog 40 #[.int .i64 n, .int .i64 lo, .int .i64 hi] w fun e w' => e = .returned (.bool r) ∧ w = w' := by
  subst hr
  by_cases h1 : lo ≤ n <;> by_cases h2 : n ≤ hi
  all_goals
    have HB := Lib.hid (show inB n lo hi = (decide (lo ≤ n) && decide (n ≤ hi)) from rfl)
    go_enter Tryz.func40, Tryz.ntmps40
    go_wp2
    go_ret
    exact ⟨by rw [HB.out]; simp [h1, h2], rfl⟩
set_option maxHeartbeats 400000 in
theorem l21Value_any (v : Int) (w : World) (r : Bool) (hr : isV v = r) :
    Calls Tryz.prog 20 #[.int .i64 v] w fun e w' => e = .returned (.bool r) ∧ w = w' := by
  have HR := Lib.hid (show inB v 1 99 = r from hr); clear hr
  go_enter Tryz.func20, Tryz.ntmps20
  go_wp2_with fail
  refine (l6In_any v 1 99 _ r HR.out).mono ?_
  rintro e w' ⟨rfl, rfl⟩
  go_wp2_with fail
  go_ret
  exact ⟨rfl, rfl⟩
end Go.Proofs.YtlihmomopofdnaaGreatDoor
