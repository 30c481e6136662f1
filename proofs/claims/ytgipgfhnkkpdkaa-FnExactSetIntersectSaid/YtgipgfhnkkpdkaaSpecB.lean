/-
  The walks of the reference's functions that combine member sets.
-/
import Derived.Test.YtgipgfhnkkpdkaaSpecA
namespace Go.Proofs.Ytgipgfhnkkpdkaa
open Go.RowKit
set_option linter.unusedVariables false

theorem filt_yes {xs : List Int} {k : Nat} {p : Int → Bool} (h : k < xs.length) (e : p (nth xs k) = true) : (xs.take (k + 1)).filter p = (xs.take k).filter p ++ [nth xs k] := by
  rw [take_snoc h, List.filter_append]; simp [e]
theorem filt_no {xs : List Int} {k : Nat} {p : Int → Bool} (h : k < xs.length) (e : p (nth xs k) = false) : (xs.take (k + 1)).filter p = (xs.take k).filter p := by
  rw [take_snoc h, List.filter_append]; simp [e]
theorem filt_len (xs : List Int) (k : Nat) (p : Int → Bool) (hk : k ≤ xs.length) : ((xs.take k).filter p).length ≤ k :=
  Nat.le_trans (List.length_filter_le _ _) (by rw [List.length_take]; omega)

def uniL (xs ys : List Int) : List Int := if setValid xs && setValid ys then uniTo xs ys 6 else []
set_option maxHeartbeats 1000000 in
theorem specSetUnion_any (v1 v2 : Value) (xs ys zs : List Int) (w : World) {l1 h1 l2 h2 : Nat} (i1 : Ints w l1 h1 v1 xs) (i2 : Ints w l2 h2 v2 ys) (hz : uniL xs ys = zs) :
    Calls Try.prog 47 #[v1, v2] w (RetInts w zs) := by
  have HZ := Lib.hid hz; clear hz
  cases hv : setValid xs
  · have HV := Lib.hid hv; clear hv
    have HZ' := Lib.hid (show ([] : List Int) = zs by rw [← HZ.out]; simp [uniL, HV.out])
    go_enter Try.func47, Try.ntmps47
    go_wp2_with fail
    refine (specSetValid_any _ xs _ i1 false HV.out).mono ?_
    rintro e w1 ⟨rfl, hw1⟩
    have hb1 := drawn_below hw1
    have hs1 := hb1.size
    go_wp2_with fail
    go_ret
    exact ⟨_, rfl, by rw [← HZ'.out]; exact IntsO.empty _ _ hs1, hb1.alloc hs1 _⟩
  · have HV := Lib.hid hv; clear hv
    cases hu : setValid ys
    · have HU := Lib.hid hu; clear hu
      have HZ' := Lib.hid (show ([] : List Int) = zs by rw [← HZ.out]; simp [uniL, HU.out])
      go_enter Try.func47, Try.ntmps47
      go_wp2_with fail
      refine (specSetValid_any _ xs _ i1 true HV.out).mono ?_
      rintro e w1 ⟨rfl, hw1⟩
      have hb1 := drawn_below hw1
      go_wp2_with fail
      refine (specSetValid_any _ ys _ (i2.below hb1) false HU.out).mono ?_
      rintro e w2 ⟨rfl, hw2⟩
      have hb2 := below_step hb1 (drawn_below hw2) hb1.size
      have hs2 := hb2.size
      go_wp2_with fail
      go_ret
      exact ⟨_, rfl, by rw [← HZ'.out]; exact IntsO.empty _ _ hs2, hb2.alloc hs2 _⟩
    · have HU := Lib.hid hu; clear hu
      have HZ' := Lib.hid (show uniTo xs ys 6 = zs by rw [← HZ.out]; simp [uniL, HV.out, HU.out])
      go_enter Try.func47, Try.ntmps47
      go_wp2_with fail
      refine (specSetValid_any _ xs _ i1 true HV.out).mono ?_
      rintro e w1 ⟨rfl, hw1⟩
      have hb1 := drawn_below hw1
      go_wp2_with fail
      refine (specSetValid_any _ ys _ (i2.below hb1) true HU.out).mono ?_
      rintro e w2 ⟨rfl, hw2⟩
      have hb2 := below_step hb1 (drawn_below hw2) hb1.size
      have hs2 := hb2.size
      go_wp2_with fail
      refine (l1Union_any _ _ xs ys _ _ (i1.below hb2) (i2.below hb2) HZ'.out).mono ?_
      rintro e w3 ⟨v, rfl, ho, hb3⟩
      go_wp2_with fail
      go_ret
      exact ⟨_, rfl, IntsO.wide ho hs2 (Nat.le_refl _) (Nat.le_refl _), below_step hb2 hb3 hs2⟩

set_option maxHeartbeats 1000000 in
theorem l1Intersect_any (v1 v2 : Value) (xs ys zs : List Int) (w : World) {l1 h1 l2 h2 : Nat} (i1 : Ints w l1 h1 v1 xs) (i2 : Ints w l2 h2 v2 ys) (hz : xs.filter (ys.contains ·) = zs) (hx : xs.length ≤ 1048576 + 1000) :
    Calls Try.prog 76 #[v1, v2] w (RetInts w zs) := by
  have HZ := Lib.hid hz; clear hz
  obtain ⟨a1, c1, hv, hn1, hcell1⟩ := i1.open
  subst hv
  go_enter Try.func76, Try.ntmps76
  go_wp2_with fail
  go_loopw [5, 6] (fun q i wr => ∃ k : Nat, k ≤ xs.length ∧ i = .int .i64 k ∧ IntsO wr w.heap.size wr.heap.size q ((xs.take k).filter (ys.contains ·)) ∧ Below w.heap.size w wr) (fun _ i _ => xs.length - (intOf i).toNat)
  case atStart => exact ⟨0, by omega, rfl, IntsO.empty _ _ (Nat.le_refl _), (Below.refl _ _).alloc (Nat.le_refl _) _⟩
  case round =>
    obtain ⟨k, hk, rfl, hown, hb⟩ := hrel
    by_cases hlt : k < xs.length
    · have hl := filt_len xs k (ys.contains ·) hk
      have hsz := hb.size
      have j2 := i2.below hb
      obtain ⟨p, hi, hkc0⟩ := hcell1 k hlt
      have hix := hi k rfl
      have hkc : wr.cell? p = some (.int .i64 (nth xs k)) := (hb.cell (lt_of_cell hkc0)).trans hkc0
      clear hi hkc0
      cases hh : ys.contains (nth xs k)
      · have HM := Lib.hid (filt_no (p := (ys.contains ·)) hlt hh)
        have HH := Lib.hid hh
        clear hh hcell1
        go_wp2_with fail
        refine (l1Contains_any _ ys _ _ j2 false HH.out).mono ?_
        rintro e w' ⟨rfl, rfl⟩
        go_wp2_with fail
        go_roundw
        case rel => exact ⟨k + 1, by omega, by go_num, by rw [HM.out]; exact hown, hb⟩
        case measure => simp [intOf]; omega
      · have HM := Lib.hid (filt_yes (p := (ys.contains ·)) hlt hh)
        have HH := Lib.hid hh
        clear hh hcell1
        go_wp2_with fail
        refine (l1Contains_any _ ys _ _ j2 true HH.out).mono ?_
        rintro e w' ⟨rfl, rfl⟩
        go_wp2_with (at_builtin; refine wpl_append elInt rfl _ _ rfl rfl (Own.below hown ((Below.refl _ _).alloc (Nat.le_refl _) _)) hsz ⟨wr.heap.size, 0, none⟩ 1 1 [.int .i64 (nth xs k)] rfl rfl (cell_one_new _ _ _) (ints_oneCell .i64 [(nth xs k)]) (by omega) (by unfold maxLen; omega) ?_; intro v' w1 hown1 hk1)
        have hb1 : Below w.heap.size w w1 := (hb.alloc hsz _).trans (hk1.below (Nat.le_refl _) (by simp; omega))
        have hown2 : IntsO w1 w.heap.size w1.heap.size v' ((xs.take (k + 1)).filter (ys.contains ·)) := by rw [HM.out]; unfold IntsO; rw [List.length_append, List.map_append]; exact hown1
        clear hown1 hown hk1 hb j2
        go_wp2_with fail
        go_roundw
        case rel => exact ⟨k + 1, by omega, by go_num, hown2, hb1⟩
        case measure => simp [intOf]; omega
    · have HT := Lib.hid (take_all hlt)
      clear hcell1
      go_wp2_with fail
      go_ret
      exact ⟨_, rfl, by rw [← HZ.out, ← HT.out]; exact hown, hb⟩

def interL (xs ys : List Int) : List Int := if setValid xs && setValid ys then xs.filter (ys.contains ·) else []
def minusL (xs ys : List Int) : List Int := if setValid xs && setValid ys then xs.filter (!ys.contains ·) else []
end Go.Proofs.Ytgipgfhnkkpdkaa
