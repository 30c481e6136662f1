/-
  The walk of the laws' eqIntS.
-/
import Derived.Test.YtocinffmdciihaaDoorSetD
namespace Go.Proofs.YtocinffmdciihaaDoor
open Go.RowKit
set_option linter.unusedVariables false

/-- the first k elements agree -/
def eqTo (xs ys : List Int) (k : Nat) : Prop := ∀ j, j < k → nth xs j = nth ys j
theorem eqTo_zero (xs ys : List Int) : eqTo xs ys 0 := fun j h => absurd h (by omega)
theorem eqTo_succ {xs ys : List Int} {k : Nat} (h : eqTo xs ys k) (e : nth xs k = nth ys k) : eqTo xs ys (k + 1) := fun j hj => by
  by_cases hk : j = k
  · subst hk; exact e
  · exact h j (by omega)
theorem eq_of_eqTo {xs ys : List Int} (hl : xs.length = ys.length) {k : Nat} (hk : ¬ k < xs.length) (h : eqTo xs ys k) : (xs == ys) = true := by
  rw [beq_iff_eq]
  exact nth_ext hl fun j hj => h j (by omega)
theorem ne_of_nth {xs ys : List Int} {k : Nat} (e : nth xs k ≠ nth ys k) : (xs == ys) = false := by
  rw [beq_eq_false_iff_ne]
  exact fun h => e (by rw [h])
theorem ne_of_len {xs ys : List Int} (e : xs.length ≠ ys.length) : (xs == ys) = false := by
  rw [beq_eq_false_iff_ne]
  exact fun h => e (by rw [h])

set_option maxHeartbeats 1000000 in
theorem eqIntS_any (v1 v2 : Value) (xs ys : List Int) (w : World) {l1 h1 l2 h2 : Nat} (i1 : Ints w l1 h1 v1 xs) (i2 : Ints w l2 h2 v2 ys) (r : Bool) (hr : (xs == ys) = r) :
    Calls Tryd.prog 59 #[v1, v2] w fun e w' => e = .returned (.bool r) ∧ ∃ n, w' = w.drewN n := by
  obtain ⟨a1, c1, rfl, hn1, hcell1⟩ := i1.open
  obtain ⟨a2, c2, rfl, hn2, hcell2⟩ := i2.open
  have HR := Lib.hid hr; clear hr
  by_cases hl : xs.length = ys.length
  · have HL := Lib.hid hl
    have hb : ((xs.length : Int) == (ys.length : Int)) = true := by rw [beq_iff_eq]; omega
    have hb2 : ((xs.length : Int) != (ys.length : Int)) = false := by rw [bne, hb]; rfl
    clear hl
    go_enter Tryd.func59, Tryd.ntmps59
    go_wp2
    go_loopw [5] (fun i wr => ∃ k : Nat, k ≤ xs.length ∧ i = .int .i64 k ∧ eqTo xs ys k ∧ ∃ n, wr = w.drewN n) (fun i _ => xs.length - (intOf i).toNat)
    case atStart => exact ⟨0, Nat.zero_le _, rfl, eqTo_zero _ _, 0, rfl⟩
    case round =>
      obtain ⟨k, hk, rfl, hc, hw⟩ := hrel
      have HC := Lib.hid hc; clear hc
      have HW := Lib.hid hw; clear hw
      by_cases hlt : k < xs.length
      · have hlt2 : k < ys.length := by rw [← HL.out]; exact hlt
        obtain ⟨p, hi, hkc0⟩ := hcell1 k hlt
        obtain ⟨q, hj, hkd0⟩ := hcell2 k hlt2
        have hix := hi k rfl
        have hiy := hj k rfl
        have hkc : wr.cell? p = some (.int .i64 (nth xs k)) := by obtain ⟨n, rfl⟩ := HW.out; exact hkc0
        have hkd : wr.cell? q = some (.int .i64 (nth ys k)) := by obtain ⟨n, rfl⟩ := HW.out; exact hkd0
        clear hi hj hkc0 hkd0 hcell1 hcell2
        by_cases he : nth xs k = nth ys k
        · have HS := Lib.hid (eqTo_succ HC.out he)
          have hb3 : (nth xs k == nth ys k) = true := beq_iff_eq.2 he
          have hb4 : (nth xs k != nth ys k) = false := by rw [bne, hb3]; rfl
          clear he
          go_wp2
          go_quiet (fail)
          go_wp2
          go_roundw
          case rel => exact ⟨k + 1, by omega, by go_num, HS.out, drawn_more HW.out _⟩
          case measure => simp [intOf]; omega
        · have HS := Lib.hid (ne_of_nth he)
          have hb3 : (nth xs k == nth ys k) = false := beq_eq_false_iff_ne.2 he
          have hb4 : (nth xs k != nth ys k) = true := by rw [bne, hb3]; rfl
          clear he
          go_wp2
          go_quiet (fail)
          go_wp2
          go_ret
          exact ⟨ret_bool (HS.out.symm.trans HR.out), drawn_more HW.out _⟩
      · have HS := Lib.hid (eq_of_eqTo HL.out hlt HC.out)
        go_wp2
        go_ret
        exact ⟨ret_bool (HS.out.symm.trans HR.out), HW.out⟩
  · have HS := Lib.hid (ne_of_len hl)
    have hb : ((xs.length : Int) == (ys.length : Int)) = false := by rw [beq_eq_false_iff_ne]; omega
    have hb2 : ((xs.length : Int) != (ys.length : Int)) = true := by rw [bne, hb]; rfl
    clear hl
    go_enter Tryd.func59, Tryd.ntmps59
    go_wp2
    go_ret
    exact ⟨ret_bool (HS.out.symm.trans HR.out), 0, rfl⟩
end Go.Proofs.YtocinffmdciihaaDoor
