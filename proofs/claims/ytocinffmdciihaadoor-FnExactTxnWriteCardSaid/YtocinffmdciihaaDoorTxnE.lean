/-
  The walks of the exact laws' own small functions on transactions: equal, measured, copied.
-/
import Derived.Test.YtocinffmdciihaaDoorTxnF
import Derived.Test.YtocinffmdciihaaDoorUtilA
import Derived.Test.YtocinffmdciihaaDoorToInt
namespace Go.Proofs.YtocinffmdciihaaDoor
open Go.RowKit
set_option linter.unusedVariables false

set_option maxHeartbeats 1000000 in
theorem eqTxn_any (r1 r2 : Int) (v1 v2 : Value) (xs ys : List Int) (w : World) {l1 h1 l2 h2 : Nat} (i1 : Ints w l1 h1 v1 xs) (i2 : Ints w l2 h2 v2 ys) (r : Bool) (hr : (r1 == r2 && xs == ys) = r) :
    Calls Tryd.prog 33 #[.agg #[.int .i64 r1, v1], .agg #[.int .i64 r2, v2]] w fun e w' => e = .returned (.bool r) ∧ Below w.heap.size w w' := by
  obtain ⟨a1, c1, hv1, _, hx1⟩ := i1.open
  obtain ⟨a2, c2, hv2, _, hx2⟩ := i2.open
  clear hx1 hx2
  subst hv1
  subst hv2
  have hb1 : Below w.heap.size w (w.alloc (.cells #[.int .i64 r1, .slice a1 xs.length c1] 25)) := (Below.refl _ _).alloc (Nat.le_refl _) _
  have hb2 : Below (w.alloc (.cells #[.int .i64 r1, .slice a1 xs.length c1] 25)).heap.size (w.alloc (.cells #[.int .i64 r1, .slice a1 xs.length c1] 25)) ((w.alloc (.cells #[.int .i64 r1, .slice a1 xs.length c1] 25)).alloc (.cells #[.int .i64 r2, .slice a2 ys.length c2] 25)) := (Below.refl _ _).alloc (Nat.le_refl _) _
  have hB := below_step hb1 hb2 hb1.size
  replace i1 := (i1.below hb1).below hb2
  replace i2 := (i2.below hb1).below hb2
  clear hb1 hb2
  have hs := hB.size
  cases he : (r1 == r2)
  · have hne : (r1 != r2) = true := by simp [bne, he]
    have HR := Lib.hid (show false = r by rw [← hr, he]; rfl); clear hr
    go_enter Tryd.func33, Tryd.ntmps33
    go_wp2_with fail
    go_ret
    exact ⟨ret_bool HR.out, hB⟩
  · have hne : (r1 != r2) = false := by simp [bne, he]
    have HR := Lib.hid (show (xs == ys) = r by rw [← hr, he]; rfl); clear hr
    go_enter Tryd.func33, Tryd.ntmps33
    go_wp2_with fail
    refine (eqIntS_any _ _ xs ys _ i1 i2 r HR.out).mono ?_
    rintro e w' ⟨rfl, hw⟩
    have hb := drawn_below hw
    clear hw
    cases r
    all_goals
      go_wp2_with fail
      go_ret
      exact ⟨rfl, below_step hB hb hs⟩

set_option maxHeartbeats 400000 in
theorem szIntS_any (v : Value) (xs : List Int) (w : World) {lo hi : Nat} (h : Ints w lo hi v xs) (m : Int) (hm : (if (xs.length : Int) ≤ 1048576 then 1048576 - (xs.length : Int) else -1) = m) :
    Calls Tryd.prog 57 #[v, .int .i64 1048576] w fun e w' => e = .returned (.int .i64 m) ∧ w = w' := by
  obtain ⟨a, c, rfl, hn, hx⟩ := h.open
  clear hx
  have hw0 : IntKind.i64.wrap (1048576 - (xs.length : Int)) = 1048576 - (xs.length : Int) := IntWalk.i64_in _ ⟨by omega, by omega⟩
  by_cases hl : (xs.length : Int) ≤ 1048576
  · have HM := Lib.hid (show 1048576 - (xs.length : Int) = m by rw [← hm, if_pos hl]); clear hm
    have hlt : ¬ (1048576 - (xs.length : Int) < 0) := by omega
    go_enter Tryd.func57, Tryd.ntmps57
    go_wp2_with fail
    go_ret
    exact ⟨ret_int HM.out, rfl⟩
  · have HM := Lib.hid (show -1 = m by rw [← hm, if_neg hl]); clear hm
    have hlt : (1048576 - (xs.length : Int) < 0) := by omega
    go_enter Tryd.func57, Tryd.ntmps57
    go_wp2_with fail
    go_ret
    exact ⟨ret_int HM.out, rfl⟩
set_option maxHeartbeats 400000 in
theorem szTxn_any (rc : Int) (v : Value) (xs : List Int) (w : World) {lo hi : Nat} (h : Ints w lo hi v xs) (m : Int) (hm : (if (xs.length : Int) ≤ 1048576 then 1048576 - (xs.length : Int) else -1) = m) :
    Calls Tryd.prog 31 #[.agg #[.int .i64 rc, v], .int .i64 1048576] w fun e w' => e = .returned (.int .i64 m) ∧ Below w.heap.size w w' := by
  have hb1 : Below w.heap.size w (w.alloc (.cells #[.int .i64 rc, v] 37)) := (Below.refl _ _).alloc (Nat.le_refl _) _
  have hmm : 0 ≤ m ∨ m = -1 := by
    rw [← hm]; split
    · left; omega
    · right; rfl
  have HM := Lib.hid hm; clear hm
  rcases hmm with h0 | h0
  · have hlt : ¬ m < 0 := by omega
    go_enter Tryd.func31, Tryd.ntmps31
    go_wp2_with fail
    refine (szIntS_any _ xs _ (h.below hb1) m HM.out).mono ?_
    rintro e w' ⟨rfl, rfl⟩
    go_wp2_with fail
    go_ret
    exact ⟨rfl, hb1⟩
  · subst h0
    go_enter Tryd.func31, Tryd.ntmps31
    go_wp2_with fail
    refine (szIntS_any _ xs _ (h.below hb1) (-1) HM.out).mono ?_
    rintro e w' ⟨rfl, rfl⟩
    go_wp2_with fail
    go_ret
    exact ⟨rfl, hb1⟩

set_option maxHeartbeats 1000000 in
theorem toTxn_any (rc : Int) (v : Value) (xs : List Int) (w : World) {lo hi : Nat} (h : Ints w lo hi v xs) (hx : xs.length ≤ 1048576) :
    Calls Tryd.prog 32 #[.agg #[.int .i64 rc, v]] w (RetCopy w rc xs) := by
  have hb1 : Below w.heap.size w (w.alloc (.cells #[.int .i64 rc, v] 37)) := (Below.refl _ _).alloc (Nat.le_refl _) _
  have hb2 : Below (w.alloc (.cells #[.int .i64 rc, v] 37)).heap.size (w.alloc (.cells #[.int .i64 rc, v] 37)) ((w.alloc (.cells #[.int .i64 rc, v] 37)).alloc (.cells #[.int .i64 0, .slice none 0 0] 25)) := (Below.refl _ _).alloc (Nat.le_refl _) _
  have hk2 := Blk.new (w.alloc (.cells #[.int .i64 rc, v] 37)) #[.int .i64 0, .slice none 0 0] 25
  have he : (w.alloc (.cells #[.int .i64 rc, v] 37)).heap.size = w.heap.size + 1 := by simp
  rw [he] at hk2
  replace h := (h.below hb1).below hb2
  have hB := below_step hb1 hb2 hb1.size
  have hs2 := hB.size
  have hl2 := hk2.lt
  obtain ⟨W2, hW2⟩ : ∃ x, x = ((w.alloc (.cells #[.int .i64 rc, v] 37)).alloc (.cells #[.int .i64 0, .slice none 0 0] 25)) := ⟨_, rfl⟩
  have hb3 : Below W2.heap.size W2 (W2.alloc (.cells #[.int .i64 rc, .slice none 0 0] 25)) := (Below.refl _ _).alloc (Nat.le_refl _) _
  have hk3 := Blk.new W2 #[.int .i64 rc, .slice none 0 0] 25
  rw [← hW2] at hk2 h hB hs2 hl2
  replace hk2 := hk2.below hb3
  replace h := h.below hb3
  replace hB := below_step hB hb3 hB.size
  have hs3 := hb3.size
  have hl3 := hk3.lt
  subst hW2
  clear hb1 hb2 hb3 he
  go_enter Tryd.func32, Tryd.ntmps32
  go_wp2_with fail
  generalize ((w.alloc (.cells #[.int .i64 rc, v] 37)).alloc (.cells #[.int .i64 0, .slice none 0 0] 25)).alloc (.cells #[.int .i64 rc, .slice none 0 0] 25) = w3 at *
  have he2 : ((w.alloc (.cells #[.int .i64 rc, v] 37)).alloc (.cells #[.int .i64 0, .slice none 0 0] 25)).heap.size = w.heap.size + 1 + 1 := by simp
  rw [he2] at hk3 hl3
  clear he2
  refine (toIntS_any _ xs _ h hx).mono ?_
  rintro e w4 ⟨y, rfl, ho, hb4⟩
  obtain ⟨ay, cy, hy⟩ := own_form ho
  subst hy
  replace hk2 := hk2.below hb4
  replace hk3 := hk3.below hb4
  replace hB := below_step hB hb4 hB.size
  have hs4 := hb4.size
  have hkO : Keep (w.heap.size + 1 + 1) (w.heap.size + 1 + 1 + 1) w4 (w4.setCell ⟨w.heap.size + 1 + 1, 1, none⟩ (.slice ay xs.length cy)) := keep_setCell (p := ⟨w.heap.size + 1 + 1, 1, none⟩) (Keep.refl _ _ _) (Nat.le_refl _) (Nat.lt_succ_self _) _
  have hkX := hk3.set 1 (.slice ay xs.length cy)
  have hk2' := hk2.keep hkO (.inl (Nat.lt_succ_self _))
  have x0 := hk3.cell 1 rfl
  have x1 := hk3.frozen 1
  have o0 := hkX.cell 0 rfl
  have o1 := hkX.cell 1 rfl
  have r0 := hk2'.cell 0 rfl
  have r1 := hk2'.cell 1 rfl
  have f0 := hk2'.frozen 0
  have f1 := hk2'.frozen 1
  have ho' := IntsO.wide (lo' := w3.heap.size) (hi' := (w4.setCell ⟨w.heap.size + 1 + 1, 1, none⟩ (.slice ay xs.length cy)).heap.size) (IntsO.keep ho hkO (.inr (by omega))) (Nat.le_refl _) hkO.size (Nat.le_refl _)
  have hB' := hB.trans (hkO.below (B := w.heap.size) (by omega) (by omega))
  obtain ⟨e0, e1, ho2, hB2⟩ := fin_op (rc := rc) hk2' rfl (Nat.le_succ _) ho' (by omega) hB'
  clear hk2 hk2' hk3 hkX hkO ho ho' hB hB' h hb4
  go_wp2_with fail
  exact bodyPost_ret (v := .agg #[.int .i64 rc, .slice ay xs.length cy]) (by simp [results, Tryd.results32, go_sem, e0, e1]) rfl ⟨_, rfl, ho2, hB2⟩
end Go.Proofs.YtocinffmdciihaaDoor
