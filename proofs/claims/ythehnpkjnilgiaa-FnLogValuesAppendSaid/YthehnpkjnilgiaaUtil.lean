/-
  The walks of the statements' own small functions on slices of ints: equal, copied, marked, held.
-/
import Derived.Test.YthehnpkjnilgiaaSetD
namespace Go.Proofs.Ythehnpkjnilgiaa
open Go.RowKit
set_option linter.unusedVariables false

/-- the first k elements agree -/
def eqTo (xs ys : List Int) (k : Nat) : Prop := ∀ j, j < k → nth xs j = nth ys j
theorem eqTo_zero (xs ys : List Int) : eqTo xs ys 0 := fun j h => absurd h (by omega)
theorem eqTo_succ {xs ys : List Int} {k : Nat} (h : eqTo xs ys k) (e : nth xs k = nth ys k) : eqTo xs ys (k + 1) := fun j hj => by
  by_cases hk : j = k
  · subst hk; exact e
  · exact h j (by omega)
theorem eq_of_eqTo {xs ys : List Int} (hl : xs.length = ys.length) {k : Nat} (hk : ¬ k < xs.length) (h : eqTo xs ys k) : (xs == ys) = true := by
  rw [beq_iff_eq]
  exact nth_ext hl fun j hj => h j (by omega)
theorem ne_of_nth {xs ys : List Int} {k : Nat} (e : nth xs k ≠ nth ys k) : (xs == ys) = false := by
  rw [beq_eq_false_iff_ne]
  exact fun h => e (by rw [h])
theorem ne_of_len {xs ys : List Int} (e : xs.length ≠ ys.length) : (xs == ys) = false := by
  rw [beq_eq_false_iff_ne]
  exact fun h => e (by rw [h])

set_option maxHeartbeats 1000000 in
theorem eqIntS_any (v1 v2 : Value) (xs ys : List Int) (w : World) {l1 h1 l2 h2 : Nat} (i1 : Ints w l1 h1 v1 xs) (i2 : Ints w l2 h2 v2 ys) (r : Bool) (hr : (xs == ys) = r) :
    Calls Try.prog 28 #[v1, v2] w fun e w' => e = .returned (.bool r) ∧ ∃ n, w' = w.drewN n := by
  obtain ⟨a1, c1, rfl, hn1, hcell1⟩ := i1.open
  obtain ⟨a2, c2, rfl, hn2, hcell2⟩ := i2.open
  have HR := Lib.hid hr; clear hr
  by_cases hl : xs.length = ys.length
  · have HL := Lib.hid hl
    have hb : ((xs.length : Int) == (ys.length : Int)) = true := by rw [beq_iff_eq]; omega
    have hb2 : ((xs.length : Int) != (ys.length : Int)) = false := by rw [bne, hb]; rfl
    clear hl
    go_enter Try.func28, Try.ntmps28
    go_wp2
    go_loopw [5] (fun i wr => ∃ k : Nat, k ≤ xs.length ∧ i = .int .i64 k ∧ eqTo xs ys k ∧ ∃ n, wr = w.drewN n) (fun i _ => xs.length - (intOf i).toNat)
    case atStart => exact ⟨0, Nat.zero_le _, rfl, eqTo_zero _ _, 0, rfl⟩
    case round =>
      obtain ⟨k, hk, rfl, hc, hw⟩ := hrel
      have HC := Lib.hid hc; clear hc
      have HW := Lib.hid hw; clear hw
      by_cases hlt : k < xs.length
      · have hlt2 : k < ys.length := by rw [← HL.out]; exact hlt
        obtain ⟨p, hi, hkc0⟩ := hcell1 k hlt
        obtain ⟨q, hj, hkd0⟩ := hcell2 k hlt2
        have hix := hi k rfl
        have hiy := hj k rfl
        have hkc : wr.cell? p = some (.int .i64 (nth xs k)) := by obtain ⟨n, rfl⟩ := HW.out; exact hkc0
        have hkd : wr.cell? q = some (.int .i64 (nth ys k)) := by obtain ⟨n, rfl⟩ := HW.out; exact hkd0
        clear hi hj hkc0 hkd0 hcell1 hcell2
        by_cases he : nth xs k = nth ys k
        · have HS := Lib.hid (eqTo_succ HC.out he)
          have hb3 : (nth xs k == nth ys k) = true := beq_iff_eq.2 he
          have hb4 : (nth xs k != nth ys k) = false := by rw [bne, hb3]; rfl
          clear he
          go_wp2
          go_quiet (fail)
          go_wp2
          go_roundw
          case rel => exact ⟨k + 1, by omega, by go_num, HS.out, drawn_more HW.out _⟩
          case measure => simp [intOf]; omega
        · have HS := Lib.hid (ne_of_nth he)
          have hb3 : (nth xs k == nth ys k) = false := beq_eq_false_iff_ne.2 he
          have hb4 : (nth xs k != nth ys k) = true := by rw [bne, hb3]; rfl
          clear he
          go_wp2
          go_quiet (fail)
          go_wp2
          go_ret
          exact ⟨ret_bool (HS.out.symm.trans HR.out), drawn_more HW.out _⟩
      · have HS := Lib.hid (eq_of_eqTo HL.out hlt HC.out)
        go_wp2
        go_ret
        exact ⟨ret_bool (HS.out.symm.trans HR.out), HW.out⟩
  · have HS := Lib.hid (ne_of_len hl)
    have hb : ((xs.length : Int) == (ys.length : Int)) = false := by rw [beq_eq_false_iff_ne]; omega
    have hb2 : ((xs.length : Int) != (ys.length : Int)) = true := by rw [bne, hb]; rfl
    clear hl
    go_enter Try.func28, Try.ntmps28
    go_wp2
    go_ret
    exact ⟨ret_bool (HS.out.symm.trans HR.out), 0, rfl⟩

set_option maxHeartbeats 1000000 in
theorem sameInts_any (v1 v2 : Value) (xs ys : List Int) (w : World) {l1 h1 l2 h2 : Nat} (i1 : Ints w l1 h1 v1 xs) (i2 : Ints w l2 h2 v2 ys) (r : Bool) (hr : (xs == ys) = r) :
    Calls Try.prog 23 #[v1, v2] w fun e w' => e = .returned (.bool r) ∧ ∃ n, w' = w.drewN n := by
  obtain ⟨a1, c1, rfl, hn1, hcell1⟩ := i1.open
  obtain ⟨a2, c2, rfl, hn2, hcell2⟩ := i2.open
  have HR := Lib.hid hr; clear hr
  by_cases hl : xs.length = ys.length
  · have HL := Lib.hid hl
    have hb : ((xs.length : Int) == (ys.length : Int)) = true := by rw [beq_iff_eq]; omega
    have hb2 : ((xs.length : Int) != (ys.length : Int)) = false := by rw [bne, hb]; rfl
    clear hl
    go_enter Try.func23, Try.ntmps23
    go_wp2
    go_loopw [5] (fun i wr => ∃ k : Nat, k ≤ xs.length ∧ i = .int .i64 k ∧ eqTo xs ys k ∧ ∃ n, wr = w.drewN n) (fun i _ => xs.length - (intOf i).toNat)
    case atStart => exact ⟨0, Nat.zero_le _, rfl, eqTo_zero _ _, 0, rfl⟩
    case round =>
      obtain ⟨k, hk, rfl, hc, hw⟩ := hrel
      have HC := Lib.hid hc; clear hc
      have HW := Lib.hid hw; clear hw
      by_cases hlt : k < xs.length
      · have hlt2 : k < ys.length := by rw [← HL.out]; exact hlt
        obtain ⟨p, hi, hkc0⟩ := hcell1 k hlt
        obtain ⟨q, hj, hkd0⟩ := hcell2 k hlt2
        have hix := hi k rfl
        have hiy := hj k rfl
        have hkc : wr.cell? p = some (.int .i64 (nth xs k)) := by obtain ⟨n, rfl⟩ := HW.out; exact hkc0
        have hkd : wr.cell? q = some (.int .i64 (nth ys k)) := by obtain ⟨n, rfl⟩ := HW.out; exact hkd0
        clear hi hj hkc0 hkd0 hcell1 hcell2
        by_cases he : nth xs k = nth ys k
        · have HS := Lib.hid (eqTo_succ HC.out he)
          have hb3 : (nth xs k == nth ys k) = true := beq_iff_eq.2 he
          have hb4 : (nth xs k != nth ys k) = false := by rw [bne, hb3]; rfl
          clear he
          go_wp2
          go_quiet (fail)
          go_wp2
          go_roundw
          case rel => exact ⟨k + 1, by omega, by go_num, HS.out, drawn_more HW.out _⟩
          case measure => simp [intOf]; omega
        · have HS := Lib.hid (ne_of_nth he)
          have hb3 : (nth xs k == nth ys k) = false := beq_eq_false_iff_ne.2 he
          have hb4 : (nth xs k != nth ys k) = true := by rw [bne, hb3]; rfl
          clear he
          go_wp2
          go_quiet (fail)
          go_wp2
          go_ret
          exact ⟨ret_bool (HS.out.symm.trans HR.out), drawn_more HW.out _⟩
      · have HS := Lib.hid (eq_of_eqTo HL.out hlt HC.out)
        go_wp2
        go_ret
        exact ⟨ret_bool (HS.out.symm.trans HR.out), HW.out⟩
  · have HS := Lib.hid (ne_of_len hl)
    have hb : ((xs.length : Int) == (ys.length : Int)) = false := by rw [beq_eq_false_iff_ne]; omega
    have hb2 : ((xs.length : Int) != (ys.length : Int)) = true := by rw [bne, hb]; rfl
    clear hl
    go_enter Try.func23, Try.ntmps23
    go_wp2
    go_ret
    exact ⟨ret_bool (HS.out.symm.trans HR.out), 0, rfl⟩

/-- the numbers k, k + 1, .. -/
def marks (k : Int) (n : Nat) : List Int := (List.range n).map fun (i : Nat) => k + (i : Int)
theorem marks_len (k : Int) (n : Nat) : (marks k n).length = n := by simp [marks]
theorem nth_marks {k : Int} {n j : Nat} (h : j < n) : nth (marks k n) j = k + j := by simp [nth, marks, List.getD, h]

set_option maxHeartbeats 1000000 in
theorem markIntS_any (v : Value) (xs : List Int) (k0 : Int) (w : World) {lo hi : Nat} (h : IntsO w lo hi v xs) (h0 : 0 ≤ k0) (h1 : k0 + xs.length ≤ 9223372036854775807) :
    Calls Try.prog 29 #[v, .int .i64 k0] w fun e w' => e = .returned (.int .i64 (k0 + xs.length)) ∧ IntsO w' lo hi v (marks k0 xs.length) ∧ Keep lo hi w w' := by
  obtain ⟨a, cap, rfl, hn, hcell⟩ := h.open
  go_enter Try.func29, Try.ntmps29
  go_wp2
  go_loopw [1, 5] (fun q i wr => ∃ k : Nat, k ≤ xs.length ∧ i = .int .i64 k ∧ q = .int .i64 (k0 + k) ∧ Keep lo hi w wr ∧
      ∃ ys, ys.length = xs.length ∧ eqTo ys (marks k0 xs.length) k ∧ IntsO wr lo hi (.slice a xs.length cap) ys) (fun _ i _ => xs.length - (intOf i).toNat)
  case atStart => exact ⟨0, Nat.zero_le _, rfl, by simp, Keep.refl _ _ _, xs, rfl, eqTo_zero _ _, h⟩
  case round =>
    obtain ⟨k, hk, rfl, rfl, hkp, ys, hy, hc, hO⟩ := hrel
    have HC := Lib.hid hc; clear hc
    have HY := Lib.hid hy; clear hy
    by_cases hlt : k < xs.length
    · obtain ⟨p, hp1, hp2, hi, hst⟩ := hcell k hlt
      have hix := hi k rfl
      obtain ⟨hkc, hfz, hset⟩ := hst wr ys HY.out hO
      have hO' := hset (k0 + k)
      have hkp' := keep_setCell hkp hp1 hp2 (.int .i64 (k0 + k))
      have HS : Hid (eqTo (ys.set k (k0 + k)) (marks k0 xs.length) (k + 1)) := by
        intro j hj
        rw [nth_set]
        by_cases e : k = j
        · subst e; rw [if_pos ⟨rfl, by rw [HY.out]; exact hlt⟩, nth_marks hlt]
        · rw [if_neg (fun x => e x.1)]; exact HC.out j (by omega)
      have HL : Hid ((ys.set k (k0 + k)).length = xs.length) := by show _ = _; rw [List.length_set]; exact HY.out
      clear hst hset hcell hi
      go_wp2
      go_roundw
      case rel => exact ⟨k + 1, by omega, by go_num, by go_num, hkp', _, HL.out, HS.out, hO'⟩
      case measure => simp [intOf]; omega
    · have hke : k = xs.length := by omega
      have HM : Hid (ys = marks k0 xs.length) := nth_ext (by rw [HY.out, marks_len]) fun j hj => HC.out j (by have := HY.out; omega)
      have HE := Lib.hid hke; clear hke
      go_wp2
      go_ret
      have hO2 := hO
      rw [HM.out] at hO2
      exact ⟨ret_int (by rw [HE.out]), hO2, hkp⟩

set_option maxHeartbeats 1000000 in
theorem heldIntS_any (v : Value) (n : Nat) (k0 : Int) (w : World) {lo hi : Nat} (h : Ints w lo hi v (marks k0 n)) (h0 : 0 ≤ k0) (h1 : k0 + n ≤ 9223372036854775807) :
    Calls Try.prog 30 #[v, .int .i64 k0] w fun e w' => e = .returned (.int .i64 (k0 + n)) ∧ w = w' := by
  obtain ⟨a, cap, rfl, hn, hcell⟩ := h.open
  rw [marks_len] at hcell hn
  rw [marks_len]
  go_enter Try.func30, Try.ntmps30
  go_wp2
  go_loop [1, 5] (fun q i => ∃ k : Nat, k ≤ n ∧ i = .int .i64 k ∧ q = .int .i64 (k0 + k)) (fun _ i => n - (intOf i).toNat)
  case atStart => exact ⟨0, Nat.zero_le _, rfl, by simp⟩
  case round =>
    obtain ⟨k, hk, rfl, rfl⟩ := hrel
    by_cases hlt : k < n
    · obtain ⟨p, hi, hkc⟩ := hcell k hlt
      rw [nth_marks hlt] at hkc
      have hix := hi k rfl
      have hb3 : (k0 + (k : Int) == k0 + (k : Int)) = true := by simp
      clear hi hcell
      go_wp2
      go_round
      case rel => exact ⟨k + 1, by omega, by go_num, by go_num⟩
      case measure => simp [intOf]; omega
    · have HE : Hid (k = n) := by show k = n; omega
      go_wp2
      go_ret
      exact ⟨ret_int (by rw [HE.out]), rfl⟩

end Go.Proofs.Ythehnpkjnilgiaa
