/-
  The walks of the functions that make a command of a value.
-/
import Derived.Test.YtgipgfhnkkpdkaaSetW
import Derived.Test.YtgipgfhnkkpdkaaDrawT
namespace Go.Proofs.Ytgipgfhnkkpdkaa
open Go.RowKit
set_option linter.unusedVariables false

set_option maxHeartbeats 400000 in
theorem isValue_any (n : Int) (w : World) (r : Bool) (hr : inB n 1 99 = r) :
    Calls Try.prog 59 #[.int .i64 n] w fun e w' => e = .returned (.bool r) ∧ w = w' := by
  subst hr
  by_cases h1 : 1 ≤ n <;> by_cases h2 : n ≤ 99
  all_goals
    have HB := Lib.hid (show inB n 1 99 = (decide (1 ≤ n) && decide (n ≤ 99)) from rfl)
    go_enter Try.func59, Try.ntmps59
    go_wp2
    go_ret
    exact ⟨by rw [HB.out]; simp [h1, h2], rfl⟩
set_option maxHeartbeats 400000 in
theorem l21Value_any (n : Int) (w : World) (r : Bool) (hr : inB n 1 99 = r) :
    Calls Try.prog 57 #[.int .i64 n] w fun e w' => e = .returned (.bool r) ∧ w = w' := by
  have HR := Lib.hid hr; clear hr
  go_enter Try.func57, Try.ntmps57
  go_wp2_with fail
  refine (l6In_any _ _ _ _ r HR.out).mono ?_
  rintro e w' ⟨rfl, rfl⟩
  go_wp2_with fail
  go_ret
  exact ⟨rfl, rfl⟩

theorem bcell {W w1 : World} (hb : Below W.heap.size W w1) : (∀ b o, b < W.heap.size → w1.cell? ⟨b, o, none⟩ = W.cell? ⟨b, o, none⟩) ∧ (∀ b o, b < W.heap.size → w1.frozen? ⟨b, o, none⟩ = W.frozen? ⟨b, o, none⟩) :=
  ⟨fun b o h => hb.cell (p := ⟨b, o, none⟩) h, fun b o h => hb.frozen (p := ⟨b, o, none⟩) h⟩

/-- the letter of a place -/
def letters : ByteArray := ⟨#[97, 98, 99, 100, 101, 102]⟩
def keyAt (a : Int) : ByteArray := letters.extract a.toNat (a + 1).toNat
def cmdV (op : Int) (key : ByteArray) (val ex : Int) : Value := .agg #[.int .i64 op, .string key, .int .i64 val, .int .i64 ex]
/-- what a value stands for -/
def opOf (v : Int) : Int := if v < 10 then 2 else 1
def valOf (v : Int) : Int := if v < 10 then 0 else v / 10

set_option maxHeartbeats 1000000 in
theorem implCmd_yes (v : Int) (w : World) (h1 : 1 ≤ v) (h2 : v ≤ 99) :
    Calls Try.prog 21 #[.int .i64 v] w fun e w' => e = .returned (.tuple #[cmdV (opOf v) (keyAt (v % 10 % 6)) (valOf v) 0, .bool true]) ∧ Below w.heap.size w w' := by
  have HV := Lib.hid (inB_mk (n := v) (lo := 1) (hi := 99) h1 h2)
  have HK : Hid (keyAt (v % 10 % 6) = letters.extract (v % 10 % 6).toNat (v % 10 % 6 + 1).toNat) := rfl
  by_cases h : v < 10
  · have HO := Lib.hid (show opOf v = 2 by simp [opOf, h])
    have HL := Lib.hid (show valOf v = 0 by simp [valOf, h])
    rw [HO.out, HL.out]
    go_enter Try.func21, Try.ntmps21
    go_wp2_with fail
    refine (isValue_any _ _ true HV.out).mono ?_
    rintro e w' ⟨rfl, rfl⟩
    go_wp2_with fail
    exact bodyPost_ret (v := .tuple #[.agg #[.int .i64 2, .string (letters.extract (v % 10 % 6).toNat (v % 10 % 6 + 1).toNat), .int .i64 0, .int .i64 0], .bool true]) (by simp [results, Try.results21, go_sem, letters]) rfl ⟨rfl, ((Below.refl _ _).alloc (Nat.le_refl _) _).alloc (by simp) _⟩
  · have HO := Lib.hid (show opOf v = 1 by simp [opOf, h])
    have HL := Lib.hid (show valOf v = v / 10 by simp [valOf, h])
    rw [HO.out, HL.out]
    go_enter Try.func21, Try.ntmps21
    go_wp2_with fail
    refine (isValue_any _ _ true HV.out).mono ?_
    rintro e w' ⟨rfl, rfl⟩
    go_wp2_with fail
    exact bodyPost_ret (v := .tuple #[.agg #[.int .i64 1, .string (letters.extract (v % 10 % 6).toNat (v % 10 % 6 + 1).toNat), .int .i64 (v / 10), .int .i64 0], .bool true]) (by simp [results, Try.results21, go_sem, letters]) rfl ⟨rfl, ((Below.refl _ _).alloc (Nat.le_refl _) _).alloc (by simp) _⟩
/-- the empty command -/
def noCmd : Value := cmdV 0 ⟨#[]⟩ 0 0
set_option maxHeartbeats 1000000 in
theorem implCmd_no (v : Int) (w : World) (hv : inB v 1 99 = false) :
    Calls Try.prog 21 #[.int .i64 v] w fun e w' => e = .returned (.tuple #[noCmd, .bool false]) ∧ Below w.heap.size w w' := by
  have HV := Lib.hid hv; clear hv
  go_enter Try.func21, Try.ntmps21
  go_wp2_with fail
  refine (isValue_any _ _ false HV.out).mono ?_
  rintro e w' ⟨rfl, rfl⟩
  go_wp2_with fail
  exact bodyPost_ret (v := .tuple #[.agg #[.int .i64 0, .string ⟨#[]⟩, .int .i64 0, .int .i64 0], .bool false]) (by simp [results, Try.results21, go_sem]) rfl ⟨rfl, (Below.refl _ _).alloc (Nat.le_refl _) _⟩

set_option maxHeartbeats 1000000 in
theorem l51Cmd_any (v : Int) (w : World) (h1 : 1 ≤ v) (h2 : v ≤ 99) :
    Calls Try.prog 58 #[.int .i64 v] w fun e w' => e = .returned (cmdV (opOf v) (keyAt (v % 10 % 6)) (valOf v) 0) ∧ Below w.heap.size w w' := by
  have HK : Hid (keyAt (v % 10 % 6) = letters.extract (v % 10 % 6).toNat (v % 10 % 6 + 1).toNat) := rfl
  by_cases h : v < 10
  · have HO := Lib.hid (show opOf v = 2 by simp [opOf, h])
    have HL := Lib.hid (show valOf v = 0 by simp [valOf, h])
    rw [HO.out, HL.out]
    go_enter Try.func58, Try.ntmps58
    go_wp2_with fail
    exact bodyPost_ret (v := .agg #[.int .i64 2, .string (letters.extract (v % 10 % 6).toNat (v % 10 % 6 + 1).toNat), .int .i64 0, .int .i64 0]) (by simp [results, Try.results58, go_sem, letters]) rfl ⟨rfl, (Below.refl _ _).alloc (Nat.le_refl _) _⟩
  · have HO := Lib.hid (show opOf v = 1 by simp [opOf, h])
    have HL := Lib.hid (show valOf v = v / 10 by simp [valOf, h])
    rw [HO.out, HL.out]
    go_enter Try.func58, Try.ntmps58
    go_wp2_with fail
    exact bodyPost_ret (v := .agg #[.int .i64 1, .string (letters.extract (v % 10 % 6).toNat (v % 10 % 6 + 1).toNat), .int .i64 (v / 10), .int .i64 0]) (by simp [results, Try.results58, go_sem, letters]) rfl ⟨rfl, (Below.refl _ _).alloc (Nat.le_refl _) _⟩

set_option maxHeartbeats 1000000 in
theorem specCmd_yes (v : Int) (w : World) (h1 : 1 ≤ v) (h2 : v ≤ 99) :
    Calls Try.prog 20 #[.int .i64 v] w fun e w' => e = .returned (.tuple #[cmdV (opOf v) (keyAt (v % 10 % 6)) (valOf v) 0, .bool true]) ∧ Below w.heap.size w w' := by
  have HV := Lib.hid (inB_mk (n := v) (lo := 1) (hi := 99) h1 h2)
  obtain ⟨op, hop⟩ : ∃ op, opOf v = op := ⟨_, rfl⟩
  obtain ⟨vl, hvl⟩ : ∃ vl, valOf v = vl := ⟨_, rfl⟩
  obtain ⟨ky, hky⟩ : ∃ ky, keyAt (v % 10 % 6) = ky := ⟨_, rfl⟩
  have HL := Lib.hid (l51Cmd_any v (w.alloc (.cells #[.int .i64 0, .string ⟨#[]⟩, .int .i64 0, .int .i64 0] 23)) h1 h2)
  rw [hop, hvl, hky] at HL
  rw [hop, hvl, hky]
  clear hop hvl hky
  go_enter Try.func20, Try.ntmps20
  go_wp2_with fail
  refine (l21Value_any _ _ true HV.out).mono ?_
  rintro e w' ⟨rfl, rfl⟩
  go_wp2_with fail
  refine HL.out.mono ?_
  rintro e w1 ⟨rfl, hb1⟩
  obtain ⟨hc, hf⟩ := bcell hb1
  have hs1 := hb1.size
  unfold cmdV
  go_wp2_with fail
  refine bodyPost_ret (v := .tuple #[.agg #[.int .i64 op, .string ky, .int .i64 vl, .int .i64 0], .bool true]) (by simp [results, Try.results20, go_sem, hc]) rfl ⟨rfl, ?_⟩
  exact (((((((Below.refl _ _).alloc (Nat.le_refl _) _).trans (hb1.mono (by simp))).setCell (Nat.le_refl _) _).setCell (Nat.le_refl _) _).setCell (Nat.le_refl _) _).setCell (Nat.le_refl _) _)

set_option maxHeartbeats 1000000 in
theorem specCmd_no (v : Int) (w : World) (hv : inB v 1 99 = false) :
    Calls Try.prog 20 #[.int .i64 v] w fun e w' => e = .returned (.tuple #[noCmd, .bool false]) ∧ Below w.heap.size w w' := by
  have HV := Lib.hid hv; clear hv
  go_enter Try.func20, Try.ntmps20
  go_wp2_with fail
  refine (l21Value_any _ _ false HV.out).mono ?_
  rintro e w' ⟨rfl, rfl⟩
  go_wp2_with fail
  exact bodyPost_ret (v := .tuple #[.agg #[.int .i64 0, .string ⟨#[]⟩, .int .i64 0, .int .i64 0], .bool false]) (by simp [results, Try.results20, go_sem]) rfl ⟨rfl, (Below.refl _ _).alloc (Nat.le_refl _) _⟩

set_option maxHeartbeats 1000000 in
theorem eqCommand_same (o : Int) (k : ByteArray) (x e : Int) (w : World) :
    Calls Try.prog 22 #[.agg #[.int .i64 o, .string k, .int .i64 x, .int .i64 e], .agg #[.int .i64 o, .string k, .int .i64 x, .int .i64 e]] w fun en w' => en = .returned (.bool true) ∧ Below w.heap.size w w' := by
  go_enter Try.func22, Try.ntmps22
  go_wp2
  go_ret
  exact ⟨rfl, ((Below.refl _ _).alloc (Nat.le_refl _) _).alloc (by simp) _⟩

set_option maxHeartbeats 1000000 in
theorem keyOf_any (n : Int) (w : World) (h0 : 0 ≤ n) (h1 : n ≤ 1048576) :
    Calls Try.prog 24 #[.int .i64 n] w fun e w' => e = .returned (.string (keyAt (n % 6))) ∧ w = w' := by
  have HK : Hid (keyAt (n % 6) = letters.extract (n % 6).toNat (n % 6 + 1).toNat) := rfl
  go_enter Try.func24, Try.ntmps24
  go_wp2_with fail
  go_ret
  exact ⟨by rw [HK.out]; rfl, rfl⟩
end Go.Proofs.Ytgipgfhnkkpdkaa
