/-
  The walks of the reference's functions on member sets: intersection, difference, subset, mask.
-/
import Derived.Test.YtgipgfhnkkpdkaaSpecB
namespace Go.Proofs.Ytgipgfhnkkpdkaa
open Go.RowKit
set_option linter.unusedVariables false

set_option maxHeartbeats 1000000 in
theorem specSetIntersect_any (v1 v2 : Value) (xs ys zs : List Int) (w : World) {l1 h1 l2 h2 : Nat} (i1 : Ints w l1 h1 v1 xs) (i2 : Ints w l2 h2 v2 ys) (hz : interL xs ys = zs) (hx : xs.length ≤ 1048576 + 1000) :
    Calls Try.prog 45 #[v1, v2] w (RetInts w zs) := by
  have HZ := Lib.hid hz; clear hz
  cases hv : setValid xs
  · have HV := Lib.hid hv; clear hv
    have HZ' := Lib.hid (show ([] : List Int) = zs by rw [← HZ.out]; simp [interL, HV.out])
    go_enter Try.func45, Try.ntmps45
    go_wp2_with fail
    refine (specSetValid_any _ xs _ i1 false HV.out).mono ?_
    rintro e w1 ⟨rfl, hw1⟩
    have hb1 := drawn_below hw1
    have hs1 := hb1.size
    go_wp2_with fail
    go_ret
    exact ⟨_, rfl, by rw [← HZ'.out]; exact IntsO.empty _ _ hs1, hb1.alloc hs1 _⟩
  · have HV := Lib.hid hv; clear hv
    cases hu : setValid ys
    · have HU := Lib.hid hu; clear hu
      have HZ' := Lib.hid (show ([] : List Int) = zs by rw [← HZ.out]; simp [interL, HU.out])
      go_enter Try.func45, Try.ntmps45
      go_wp2_with fail
      refine (specSetValid_any _ xs _ i1 true HV.out).mono ?_
      rintro e w1 ⟨rfl, hw1⟩
      have hb1 := drawn_below hw1
      go_wp2_with fail
      refine (specSetValid_any _ ys _ (i2.below hb1) false HU.out).mono ?_
      rintro e w2 ⟨rfl, hw2⟩
      have hb2 := below_step hb1 (drawn_below hw2) hb1.size
      have hs2 := hb2.size
      go_wp2_with fail
      go_ret
      exact ⟨_, rfl, by rw [← HZ'.out]; exact IntsO.empty _ _ hs2, hb2.alloc hs2 _⟩
    · have HU := Lib.hid hu; clear hu
      have HZ' := Lib.hid (show xs.filter (ys.contains ·) = zs by rw [← HZ.out]; simp [interL, HV.out, HU.out])
      go_enter Try.func45, Try.ntmps45
      go_wp2_with fail
      refine (specSetValid_any _ xs _ i1 true HV.out).mono ?_
      rintro e w1 ⟨rfl, hw1⟩
      have hb1 := drawn_below hw1
      go_wp2_with fail
      refine (specSetValid_any _ ys _ (i2.below hb1) true HU.out).mono ?_
      rintro e w2 ⟨rfl, hw2⟩
      have hb2 := below_step hb1 (drawn_below hw2) hb1.size
      have hs2 := hb2.size
      go_wp2_with fail
      refine (l1Intersect_any _ _ xs ys _ _ (i1.below hb2) (i2.below hb2) HZ'.out hx).mono ?_
      rintro e w3 ⟨v, rfl, ho, hb3⟩
      go_wp2_with fail
      go_ret
      exact ⟨_, rfl, IntsO.wide ho hs2 (Nat.le_refl _) (Nat.le_refl _), below_step hb2 hb3 hs2⟩

set_option maxHeartbeats 1000000 in
theorem specSetMinus_any (v1 v2 : Value) (xs ys zs : List Int) (w : World) {l1 h1 l2 h2 : Nat} (i1 : Ints w l1 h1 v1 xs) (i2 : Ints w l2 h2 v2 ys) (hz : minusL xs ys = zs) (hx : xs.length ≤ 1048576 + 1000) :
    Calls Try.prog 39 #[v1, v2] w (RetInts w zs) := by
  have HZ := Lib.hid hz; clear hz
  cases hv : setValid xs
  · have HV := Lib.hid hv; clear hv
    have HZ' := Lib.hid (show ([] : List Int) = zs by rw [← HZ.out]; simp [minusL, HV.out])
    go_enter Try.func39, Try.ntmps39
    go_wp2_with fail
    refine (specSetValid_any _ xs _ (i1.below ((Below.refl _ _).alloc (Nat.le_refl _) _)) false HV.out).mono ?_
    rintro e w1 ⟨rfl, hw1⟩
    have hb1 := ((Below.refl w.heap.size w).alloc (Nat.le_refl _) _).trans ((drawn_below hw1).mono (by simp))
    have hs1 := hb1.size
    go_wp2_with fail
    go_ret
    exact ⟨_, rfl, by rw [← HZ'.out]; exact IntsO.wide ((IntsO.empty w w.heap.size (Nat.le_refl _)).below (drawn_below hw1)) (Nat.le_refl _) (drawn_below hw1).size (Nat.le_refl _), hb1⟩
  · have HV := Lib.hid hv; clear hv
    cases hu : setValid ys
    · have HU := Lib.hid hu; clear hu
      have HZ' := Lib.hid (show ([] : List Int) = zs by rw [← HZ.out]; simp [minusL, HU.out])
      go_enter Try.func39, Try.ntmps39
      go_wp2_with fail
      refine (specSetValid_any _ xs _ (i1.below ((Below.refl _ _).alloc (Nat.le_refl _) _)) true HV.out).mono ?_
      rintro e w1 ⟨rfl, hw1⟩
      have hb1 := ((Below.refl w.heap.size w).alloc (Nat.le_refl _) _).trans ((drawn_below hw1).mono (by simp))
      go_wp2_with fail
      refine (specSetValid_any _ ys _ (i2.below hb1) false HU.out).mono ?_
      rintro e w2 ⟨rfl, hw2⟩
      have hb2 := below_step hb1 (drawn_below hw2) hb1.size
      have hs2 := hb2.size
      go_wp2_with fail
      go_ret
      exact ⟨_, rfl, by rw [← HZ'.out]; exact IntsO.wide (((IntsO.empty w w.heap.size (Nat.le_refl _)).below (drawn_below hw1)).below (drawn_below hw2)) (Nat.le_refl _) (Nat.le_trans (drawn_below hw1).size (drawn_below hw2).size) (Nat.le_refl _), hb2⟩
    · have HU := Lib.hid hu; clear hu
      have HZ' := Lib.hid (show xs.filter (!ys.contains ·) = zs by rw [← HZ.out]; simp [minusL, HV.out, HU.out])
      go_enter Try.func39, Try.ntmps39
      go_wp2_with fail
      refine (specSetValid_any _ xs _ (i1.below ((Below.refl _ _).alloc (Nat.le_refl _) _)) true HV.out).mono ?_
      rintro e w1 ⟨rfl, hw1⟩
      have hb1 := ((Below.refl w.heap.size w).alloc (Nat.le_refl _) _).trans ((drawn_below hw1).mono (by simp))
      go_wp2_with fail
      refine (specSetValid_any _ ys _ (i2.below hb1) true HU.out).mono ?_
      rintro e w2 ⟨rfl, hw2⟩
      have hb2 := below_step hb1 (drawn_below hw2) hb1.size
      have hs2 := hb2.size
      obtain ⟨a1, c1, hv, hn1, hcell1⟩ := i1.open
      subst hv
      have hown0 : IntsO w2 w.heap.size w2.heap.size (.slice (some ⟨w.heap.size, 0, none⟩) 0 0) [] :=
        IntsO.wide ((IntsO.empty w w.heap.size (Nat.le_refl _)).below (below_step (drawn_below hw1) (drawn_below hw2) (by have := drawn_size hw1; omega))) (Nat.le_refl _) (by have := drawn_size hw1; have := drawn_size hw2; omega) (Nat.le_refl _)
      have hsw : w.heap.size + 1 ≤ w2.heap.size := by have h1 := drawn_size hw1; have h2 := drawn_size hw2; simp at h1; omega
      go_wp2_with fail
      go_loopw [5, 6] (fun q i wr => ∃ k : Nat, k ≤ xs.length ∧ i = .int .i64 k ∧ IntsO wr w.heap.size wr.heap.size q ((xs.take k).filter (!ys.contains ·)) ∧ Below w.heap.size w wr) (fun _ i _ => xs.length - (intOf i).toNat)
      case atStart => exact ⟨0, by omega, rfl, hown0, hb2⟩
      case round =>
        obtain ⟨k, hk, rfl, hown, hb⟩ := hrel
        by_cases hlt : k < xs.length
        · have hl := filt_len xs k (!ys.contains ·) hk
          have hsz := hb.size
          have j2 := i2.below hb
          obtain ⟨p, hi, hkc0⟩ := hcell1 k hlt
          have hix := hi k rfl
          have hkc : wr.cell? p = some (.int .i64 (nth xs k)) := (hb.cell (lt_of_cell hkc0)).trans hkc0
          clear hi hkc0
          cases hh : ys.contains (nth xs k)
          · have HM := Lib.hid (filt_yes (p := (!ys.contains ·)) hlt (by simp only [hh]; rfl))
            have HH := Lib.hid hh
            clear hh hcell1 hown0 hsw
            go_wp2_with fail
            refine (l1Contains_any _ ys _ _ j2 false HH.out).mono ?_
            rintro e w' ⟨rfl, rfl⟩
            go_wp2_with (at_builtin; refine wpl_append elInt rfl _ _ rfl rfl (Own.below hown ((Below.refl _ _).alloc (Nat.le_refl _) _)) hsz ⟨wr.heap.size, 0, none⟩ 1 1 [.int .i64 (nth xs k)] rfl rfl (cell_one_new _ _ _) (ints_oneCell .i64 [(nth xs k)]) (by omega) (by unfold maxLen; omega) ?_; intro v' w1 hown1 hk1)
            have hb1 : Below w.heap.size w w1 := (hb.alloc hsz _).trans (hk1.below (Nat.le_refl _) (by simp; omega))
            have hown2 : IntsO w1 w.heap.size w1.heap.size v' ((xs.take (k + 1)).filter (!ys.contains ·)) := by rw [HM.out]; unfold IntsO; rw [List.length_append, List.map_append]; exact hown1
            clear hown1 hown hk1 hb j2
            go_wp2_with fail
            go_roundw
            case rel => exact ⟨k + 1, by omega, by go_num, hown2, hb1⟩
            case measure => simp [intOf]; omega
          · have HM := Lib.hid (filt_no (p := (!ys.contains ·)) hlt (by simp only [hh]; rfl))
            have HH := Lib.hid hh
            clear hh hcell1 hown0 hsw
            go_wp2_with fail
            refine (l1Contains_any _ ys _ _ j2 true HH.out).mono ?_
            rintro e w' ⟨rfl, rfl⟩
            go_wp2_with fail
            go_roundw
            case rel => exact ⟨k + 1, by omega, by go_num, by rw [HM.out]; exact hown, hb⟩
            case measure => simp [intOf]; omega
        · have HT := Lib.hid (take_all hlt)
          clear hcell1 hown0 hsw
          go_wp2_with fail
          go_ret
          exact ⟨_, rfl, by rw [← HZ'.out, ← HT.out]; exact hown, hb⟩

def subTo (xs ys : List Int) : Nat → Bool
  | 0 => true
  | k + 1 => subTo xs ys k && ys.contains (nth xs k)
theorem subTo_false {xs ys : List Int} {k : Nat} (h : subTo xs ys k = false) : ∀ n, k ≤ n → subTo xs ys n = false := by
  intro n hn
  induction n with
  | zero => obtain rfl : k = 0 := by omega
            exact h
  | succ n ih =>
    by_cases e : k = n + 1
    · subst e; exact h
    · simp [subTo, ih (by omega)]
def subAll (xs ys : List Int) : Bool := subTo xs ys xs.length

set_option maxHeartbeats 1000000 in
theorem l1Subset_any (v1 v2 : Value) (xs ys : List Int) (w : World) {l1 h1 l2 h2 : Nat} (i1 : Ints w l1 h1 v1 xs) (i2 : Ints w l2 h2 v2 ys) (r : Bool) (hr : subAll xs ys = r) :
    Calls Try.prog 82 #[v1, v2] w fun e w' => e = .returned (.bool r) ∧ w = w' := by
  have HR := Lib.hid hr; clear hr
  obtain ⟨a1, c1, hv, hn1, hcell1⟩ := i1.open
  subst hv
  go_enter Try.func82, Try.ntmps82
  go_wp2_with fail
  go_loop [5] (fun i => ∃ k : Nat, k ≤ xs.length ∧ i = .int .i64 k ∧ subTo xs ys k = true) (fun i => xs.length - (intOf i).toNat)
  case atStart => exact ⟨0, by omega, rfl, rfl⟩
  case round =>
    obtain ⟨k, hk, rfl, hc⟩ := hrel
    have HC := Lib.hid hc; clear hc
    by_cases hlt : k < xs.length
    · obtain ⟨p, hi, hkc⟩ := hcell1 k hlt
      have hix := hi k rfl
      clear hi hcell1
      cases hh : ys.contains (nth xs k)
      · have HH := Lib.hid hh
        clear hh
        have HS := Lib.hid (show subAll xs ys = false from subTo_false (k := k + 1) (by simp [subTo, -List.contains_eq_mem, HH.out]) _ hlt)
        go_wp2_with fail
        refine (l1Contains_any _ ys _ _ i2 false HH.out).mono ?_
        rintro e w' ⟨rfl, rfl⟩
        go_wp2_with fail
        go_ret
        exact ⟨ret_bool (HS.out.symm.trans HR.out), rfl⟩
      · have HH := Lib.hid hh
        clear hh
        have HS := Lib.hid (show subTo xs ys (k + 1) = true by simp only [subTo, HC.out, HH.out]; rfl)
        go_wp2_with fail
        refine (l1Contains_any _ ys _ _ i2 true HH.out).mono ?_
        rintro e w' ⟨rfl, rfl⟩
        go_wp2_with fail
        go_round
        case rel => exact ⟨k + 1, by omega, by go_num, HS.out⟩
        case measure => simp [intOf]; omega
    · have HS := Lib.hid (show subAll xs ys = true by obtain rfl : k = xs.length := by omega
                                                      exact HC.out)
      clear hcell1
      go_wp2_with fail
      go_ret
      exact ⟨ret_bool (HS.out.symm.trans HR.out), rfl⟩

def subB (xs ys : List Int) : Bool := setValid xs && setValid ys && subAll xs ys
set_option maxHeartbeats 1000000 in
theorem specSetSubset_any (v1 v2 : Value) (xs ys : List Int) (w : World) {l1 h1 l2 h2 : Nat} (i1 : Ints w l1 h1 v1 xs) (i2 : Ints w l2 h2 v2 ys) (r : Bool) (hr : subB xs ys = r) :
    Calls Try.prog 56 #[v1, v2] w fun e w' => e = .returned (.bool r) ∧ ∃ n, w' = w.drewN n := by
  have HR := Lib.hid hr; clear hr
  cases hv : setValid xs
  · have HV := Lib.hid hv; clear hv
    have HR' := Lib.hid (show false = r by rw [← HR.out]; simp [subB, HV.out])
    go_enter Try.func56, Try.ntmps56
    go_wp2_with fail
    refine (specSetValid_any _ xs _ i1 false HV.out).mono ?_
    rintro e w1 ⟨rfl, hw1⟩
    go_wp2_with fail
    go_ret
    exact ⟨ret_bool HR'.out, hw1⟩
  · have HV := Lib.hid hv; clear hv
    cases hu : setValid ys
    · have HU := Lib.hid hu; clear hu
      have HR' := Lib.hid (show false = r by rw [← HR.out]; simp [subB, HU.out])
      go_enter Try.func56, Try.ntmps56
      go_wp2_with fail
      refine (specSetValid_any _ xs _ i1 true HV.out).mono ?_
      rintro e w1 ⟨rfl, hw1⟩
      go_wp2_with fail
      refine (specSetValid_any _ ys _ (i2.below (drawn_below hw1)) false HU.out).mono ?_
      rintro e w2 ⟨rfl, hw2⟩
      go_wp2_with fail
      go_ret
      exact ⟨ret_bool HR'.out, drawn_trans hw1 hw2⟩
    · have HU := Lib.hid hu; clear hu
      have HR' := Lib.hid (show subAll xs ys = r by rw [← HR.out]; simp [subB, HV.out, HU.out])
      go_enter Try.func56, Try.ntmps56
      go_wp2_with fail
      refine (specSetValid_any _ xs _ i1 true HV.out).mono ?_
      rintro e w1 ⟨rfl, hw1⟩
      go_wp2_with fail
      refine (specSetValid_any _ ys _ (i2.below (drawn_below hw1)) true HU.out).mono ?_
      rintro e w2 ⟨rfl, hw2⟩
      have hb2 := drawn_below (drawn_trans hw1 hw2)
      go_wp2_with fail
      refine (l1Subset_any _ _ xs ys _ (i1.below hb2) (i2.below hb2) r HR'.out).mono ?_
      rintro e w' ⟨rfl, rfl⟩
      go_wp2_with fail
      go_ret
      exact ⟨rfl, drawn_trans hw1 hw2⟩
end Go.Proofs.Ytgipgfhnkkpdkaa
