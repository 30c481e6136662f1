/-
  The walks of the reference's functions on masks.
-/
import Derived.Test.YtgipgfhnkkpdkaaSpecC
namespace Go.Proofs.Ytgipgfhnkkpdkaa
open Go.RowKit
set_option linter.unusedVariables false

/-! ### l1Masks -/
set_option maxHeartbeats 1000000 in
theorem l1Masks_any (w : World) : Calls Try.prog 66 #[] w fun e w' => e = .returned (.int .i64 64) ∧ w = w' := by
  go_enter Try.func66, Try.ntmps66
  go_wp2
  go_loop [1, 2] (fun n i => ∃ k : Nat, k ≤ 6 ∧ i = .int .i64 k ∧ (k = 0 ∧ n = .int .i64 1 ∨ k = 1 ∧ n = .int .i64 2 ∨ k = 2 ∧ n = .int .i64 4 ∨ k = 3 ∧ n = .int .i64 8 ∨ k = 4 ∧ n = .int .i64 16 ∨ k = 5 ∧ n = .int .i64 32 ∨ k = 6 ∧ n = .int .i64 64)) (fun _ i => 6 - (intOf i).toNat)
  case atStart => exact ⟨0, by omega, rfl, .inl ⟨rfl, rfl⟩⟩
  case round =>
    obtain ⟨k, hk, rfl, h⟩ := hrel
    rcases h with ⟨rfl, rfl⟩ | ⟨rfl, rfl⟩ | ⟨rfl, rfl⟩ | ⟨rfl, rfl⟩ | ⟨rfl, rfl⟩ | ⟨rfl, rfl⟩ | ⟨rfl, rfl⟩
    · go_wp2
      go_round
      case rel => exact ⟨1, by omega, rfl, .inr (.inl ⟨rfl, rfl⟩)⟩
      case measure => simp [intOf]
    · go_wp2
      go_round
      case rel => exact ⟨2, by omega, rfl, .inr (.inr (.inl ⟨rfl, rfl⟩))⟩
      case measure => simp [intOf]
    · go_wp2
      go_round
      case rel => exact ⟨3, by omega, rfl, .inr (.inr (.inr (.inl ⟨rfl, rfl⟩)))⟩
      case measure => simp [intOf]
    · go_wp2
      go_round
      case rel => exact ⟨4, by omega, rfl, .inr (.inr (.inr (.inr (.inl ⟨rfl, rfl⟩))))⟩
      case measure => simp [intOf]
    · go_wp2
      go_round
      case rel => exact ⟨5, by omega, rfl, .inr (.inr (.inr (.inr (.inr (.inl ⟨rfl, rfl⟩)))))⟩
      case measure => simp [intOf]
    · go_wp2
      go_round
      case rel => exact ⟨6, by omega, rfl, .inr (.inr (.inr (.inr (.inr (.inr ⟨rfl, rfl⟩)))))⟩
      case measure => simp [intOf]
    · go_wp2
      go_ret
      exact ⟨rfl, rfl⟩

/-! ### l1OfMask -/
def half (m : Int) : Nat → Int
  | 0 => m
  | k + 1 => half m k / 2
theorem half_range {m : Int} (h : 0 ≤ m) (k : Nat) : 0 ≤ half m k ∧ half m k ≤ m := by
  induction k with
  | zero => exact ⟨h, Int.le_refl _⟩
  | succ k ih => unfold half; omega
def odd (n : Int) : Bool := n % 2 == 1
def bitsTo (m : Int) : Nat → List Int
  | 0 => []
  | k + 1 => if odd (half m k) then bitsTo m k ++ [((k : Int) + 1)] else bitsTo m k
theorem bitsTo_len (m : Int) (k : Nat) : (bitsTo m k).length ≤ k := by
  induction k with
  | zero => simp [bitsTo]
  | succ k ih =>
    unfold bitsTo; split
    · rw [List.length_append]; simp; omega
    · omega

set_option maxHeartbeats 1000000 in
theorem l1OfMask_any (m : Int) (w : World) (h0 : 0 ≤ m) (hm : m ≤ 9223372036854775807) (xs : List Int) (hx : bitsTo m 6 = xs) :
    Calls Try.prog 67 #[.int .i64 m] w (RetInts w xs) := by
  have HX := Lib.hid hx; clear hx
  go_enter Try.func67, Try.ntmps67
  go_wp2_with fail
  go_loopw [0, 3, 4] (fun mm q i wr => ∃ k : Nat, k ≤ 6 ∧ i = .int .i64 (k + 1) ∧ mm = .int .i64 (half m k) ∧ IntsO wr w.heap.size wr.heap.size q (bitsTo m k) ∧ Below w.heap.size w wr) (fun _ _ i _ => 7 - (intOf i).toNat)
  case atStart => exact ⟨0, by omega, rfl, rfl, IntsO.empty _ _ (Nat.le_refl _), (Below.refl _ _).alloc (Nat.le_refl _) _⟩
  case round =>
    obtain ⟨k, hk, rfl, rfl, hown, hb⟩ := hrel
    by_cases hlt : k < 6
    · have hl := bitsTo_len m k
      have hsz := hb.size
      obtain ⟨r0, r1⟩ := half_range h0 k
      have HN : Hid (half m (k + 1) = half m k / 2) := rfl
      cases hh : odd (half m k)
      · have HM := Lib.hid (show bitsTo m (k + 1) = bitsTo m k by simp only [bitsTo, hh, Bool.false_eq_true, if_false])
        have h1 : (half m k % 2 == 1) = false := hh
        clear hh
        go_wp2_with fail
        go_roundw
        case rel => exact ⟨k + 1, by omega, by go_num, rfl, by rw [HM.out]; exact hown, hb⟩
        case measure => simp [intOf]; omega
      · have HM := Lib.hid (show bitsTo m (k + 1) = bitsTo m k ++ [((k : Int) + 1)] by simp only [bitsTo, hh, if_true])
        have h1 : (half m k % 2 == 1) = true := hh
        clear hh
        go_wp2_with (at_builtin; refine wpl_append elInt rfl _ _ rfl rfl (Own.below hown ((Below.refl _ _).alloc (Nat.le_refl _) _)) hsz ⟨wr.heap.size, 0, none⟩ 1 1 [.int .i64 (k + 1)] rfl rfl (cell_one_new _ _ _) (ints_oneCell .i64 [(k : Int) + 1]) (by omega) (by unfold maxLen; omega) ?_; intro v' w1 hown1 hk1)
        have hb1 : Below w.heap.size w w1 := (hb.alloc hsz _).trans (hk1.below (Nat.le_refl _) (by simp; omega))
        have hown2 : IntsO w1 w.heap.size w1.heap.size v' (bitsTo m (k + 1)) := by rw [HM.out]; unfold IntsO; rw [List.length_append, List.map_append]; exact hown1
        clear hown1 hown hk1 hb
        go_wp2_with fail
        go_roundw
        case rel => exact ⟨k + 1, by omega, by go_num, rfl, hown2, hb1⟩
        case measure => simp [intOf]; omega
    · have hk6 : k = 6 := by omega
      subst hk6
      go_wp2_with fail
      go_ret
      exact ⟨_, rfl, by rw [← HX.out]; exact hown, hb⟩

def ofMaskS (m : Int) : List Int := if inB m 0 63 then bitsTo m 6 else []
set_option maxHeartbeats 1000000 in
theorem specSetOfMask_any (m : Int) (w : World) (xs : List Int) (r : Bool) (hx : ofMaskS m = xs) (hr : inB m 0 63 = r) :
    Calls Try.prog 29 #[.int .i64 m] w (RetIntsB w xs r) := by
  have HX := Lib.hid hx; clear hx
  cases hv : inB m 0 63
  · have HR := Lib.hid (show false = r by rw [← hr, hv]); clear hr
    have HV := Lib.hid hv; clear hv
    have HN := Lib.hid (show ([] : List Int) = xs by rw [← HX.out]; simp [ofMaskS, HV.out])
    go_enter Try.func29, Try.ntmps29
    go_wp2_with fail
    refine (l1Masks_any _).mono ?_
    rintro e w' ⟨rfl, rfl⟩
    go_wp2_with fail
    refine (l6In_any _ _ _ _ false HV.out).mono ?_
    rintro e w' ⟨rfl, rfl⟩
    go_wp2_with fail
    go_ret2
    exact ⟨_, by rw [← HR.out]; rfl, by rw [← HN.out]; exact IntsO.empty _ _ (Nat.le_refl _), (Below.refl _ _).alloc (Nat.le_refl _) _⟩
  · obtain ⟨g1, g2⟩ := inB_true hv
    have HR := Lib.hid (show true = r by rw [← hr, hv]); clear hr
    have HV := Lib.hid hv; clear hv
    have HN := Lib.hid (show bitsTo m 6 = xs by rw [← HX.out]; simp [ofMaskS, HV.out])
    go_enter Try.func29, Try.ntmps29
    go_wp2_with fail
    refine (l1Masks_any _).mono ?_
    rintro e w' ⟨rfl, rfl⟩
    go_wp2_with fail
    refine (l6In_any _ _ _ _ true HV.out).mono ?_
    rintro e w' ⟨rfl, rfl⟩
    go_wp2_with fail
    refine (l1OfMask_any _ _ g1 (by omega) _ HN.out).mono ?_
    rintro e w' ⟨v, rfl, ho, hb⟩
    go_wp2_with fail
    go_ret2
    exact ⟨_, by rw [← HR.out]; rfl, ho, hb⟩

/-! ### l1Mask: from the last member down; the bit is doubled -/
def pow2 : Nat → Int
  | 0 => 1
  | k + 1 => 2 * pow2 k
theorem pow2_range (k : Nat) (h : k ≤ 5) : 1 ≤ pow2 k ∧ pow2 k ≤ 32 := by
  have key : ∀ i : Fin 6, 1 ≤ pow2 i.val ∧ pow2 i.val ≤ 32 := by decide
  exact key ⟨k, by omega⟩
def bitOf (x : Int) : Int := pow2 (x - 1).toNat
def maskL : List Int → Int
  | [] => 0
  | x :: t => maskL t + bitOf x
def small (xs : List Int) : Prop := ∀ x ∈ xs, 1 ≤ x ∧ x ≤ 6
theorem maskL_range : ∀ {xs : List Int}, small xs → 0 ≤ maskL xs ∧ maskL xs ≤ 32 * xs.length
  | [], _ => by simp [maskL]
  | x :: t, h => by
    have ih := maskL_range (xs := t) fun y hy => h y (List.mem_cons_of_mem _ hy)
    have hx := h x List.mem_cons_self
    have := pow2_range (x - 1).toNat (by omega)
    simp only [maskL, bitOf, List.length_cons]
    omega
theorem drop_cons {xs : List Int} {k : Nat} (h : k < xs.length) : xs.drop k = nth xs k :: xs.drop (k + 1) := by
  rw [nth_eq h]; exact List.drop_eq_getElem_cons h
theorem small_drop {xs : List Int} (h : small xs) (k : Nat) : small (xs.drop k) := fun x hx => h x (List.mem_of_mem_drop hx)

set_option maxHeartbeats 1000000 in
theorem l1Mask_any (v1 : Value) (xs : List Int) (w : World) {l1 h1 : Nat} (i1 : Ints w l1 h1 v1 xs) (hs : small xs) (hl : xs.length ≤ 1000) (m : Int) (hm : maskL xs = m) :
    Calls Try.prog 80 #[v1] w fun e w' => e = .returned (.int .i64 m) ∧ w = w' := by
  have HM := Lib.hid hm; clear hm
  have HS := Lib.hid hs; clear hs
  obtain ⟨a1, c1, hv, hn1, hcell1⟩ := i1.open
  subst hv
  go_enter Try.func80, Try.ntmps80
  go_wp2
  go_loop [3, 4] (fun q i => ∃ k : Nat, k ≤ xs.length ∧ i = .int .i64 ((k : Int) - 1) ∧ q = .int .i64 (maskL (xs.drop k))) (fun _ i => (intOf i + 1).toNat)
  case atStart => exact ⟨xs.length, Nat.le_refl _, rfl, by rw [List.drop_length]; rfl⟩
  case round =>
    obtain ⟨k, hk, rfl, rfl⟩ := hrel
    by_cases hlt : 0 < k
    · obtain ⟨p, hi, hkc⟩ := hcell1 (k - 1) (by omega)
      have hix := hi ((k : Int) - 1) (by omega)
      obtain ⟨x0, x1⟩ := HS.out _ (nth_mem (xs := xs) (k := k - 1) (by omega))
      have HD := Lib.hid (show maskL (xs.drop (k - 1)) = maskL (xs.drop k) + bitOf (nth xs (k - 1)) by
        rw [drop_cons (by omega : k - 1 < xs.length), show k - 1 + 1 = k by omega]; rfl)
      have hrg := maskL_range (small_drop HS.out k)
      rw [List.length_drop] at hrg
      obtain ⟨m0, m1⟩ := hrg
      clear hi hcell1
      go_wp2
      go_loop [5, 6] (fun bt i => ∃ j : Nat, (j : Int) + 1 ≤ nth xs (k - 1) ∧ i = .int .i64 (j + 1) ∧ bt = .int .i64 (pow2 j)) (fun _ i => (nth xs (k - 1) - intOf i).toNat)
      case atStart => exact ⟨0, by omega, rfl, rfl⟩
      case round =>
        obtain ⟨j, hj, rfl, rfl⟩ := hrel
        obtain ⟨b0, b1⟩ := pow2_range j (by omega)
        have HN : Hid (pow2 (j + 1) = 2 * pow2 j) := rfl
        by_cases hlt2 : (j : Int) + 1 < nth xs (k - 1)
        · go_wp2
          go_round
          case rel => exact ⟨j + 1, by omega, by go_num, rfl⟩
          case measure => simp [intOf]; omega
        · have HB := Lib.hid (show maskL (xs.drop (k - 1)) = maskL (xs.drop k) + pow2 j by
            rw [HD.out, bitOf, show (nth xs (k - 1) - 1).toNat = j by omega])
          go_wp2
          go_round
          case rel => exact ⟨k - 1, by omega, congrArg (Value.int .i64) (by omega), congrArg (Value.int .i64) HB.out.symm⟩
          case measure => simp [intOf]; omega
    · have HK : Hid (k = 0) := by show k = 0; omega
      go_wp2
      go_ret
      exact ⟨ret_int (by rw [← HM.out, HK.out, List.drop_zero]), rfl⟩
end Go.Proofs.Ytgipgfhnkkpdkaa
