/-
  The walks of the reference's draws of member sets: whatever the code, what comes out is a short list of small numbers.
-/
import Derived.Test.YtgipgfhnkkpdkaaDraw
import Derived.Test.YtgipgfhnkkpdkaaSpecM
namespace Go.Proofs.Ytgipgfhnkkpdkaa
open Go.RowKit
set_option linter.unusedVariables false

/-- a short list of small numbers -/
def Tiny (xs : List Int) : Prop := xs.length ≤ 7 ∧ ∀ x ∈ xs, -1 ≤ x ∧ x ≤ 7
theorem bitsTo_mem (m : Int) (k : Nat) : ∀ x ∈ bitsTo m k, 1 ≤ x ∧ x ≤ k := by
  induction k with
  | zero => simp [bitsTo]
  | succ k ih =>
    intro x hx
    unfold bitsTo at hx
    split at hx
    · rcases List.mem_append.1 hx with h | h
      · have := ih x h; omega
      · have := List.mem_singleton.1 h; omega
    · have := ih x hx; omega
theorem tiny_bits (m : Int) : Tiny (bitsTo m 6) := ⟨by have := bitsTo_len m 6; omega, fun x hx => by have := bitsTo_mem m 6 x hx; omega⟩
theorem tiny_more (m y : Int) (h1 : -1 ≤ y) (h2 : y ≤ 7) : Tiny (bitsTo m 6 ++ [y]) :=
  ⟨by have := bitsTo_len m 6; simp; omega, fun x hx => by
    rcases List.mem_append.1 hx with h | h
    · have := bitsTo_mem m 6 x h; omega
    · have := List.mem_singleton.1 h; omega⟩
theorem tiny_two : Tiny [2, 1] := ⟨by decide, by decide⟩

def RetSet (w : World) (g : Nat) (q : Int) (e : Ending) (w' : World) : Prop :=
  ∃ v xs, e = .returned v ∧ IntsO w' w.heap.size w'.heap.size v xs ∧ Tiny xs ∧ Rdr w' g (q + 3) ∧ Keep g (g + 1) w w'

theorem Rdr.keep {w w' : World} {g : Nat} {q : Int} {l1 h1 : Nat} (h : Rdr w g q) (hk : Keep l1 h1 w w') (ho : g < l1) : Rdr w' g q := by
  obtain ⟨v, n, p, lo, hi, hg, hb, hh, hm, p0, p1⟩ := h
  have hlt : g < w.heap.size := (Array.getElem?_eq_some_iff.1 hg).1
  exact ⟨v, n, p, lo, hi, (hk.block g hlt (by omega)).trans hg, hb.keep hk (by omega), hh, hm, p0, p1⟩
theorem Rdr.below {w w' : World} {g : Nat} {q : Int} (h : Rdr w g q) (hb : Below w.heap.size w w') : Rdr w' g q := by
  obtain ⟨v, n, p, lo, hi, hg, hb', r⟩ := h
  have hlt : g < w.heap.size := (Array.getElem?_eq_some_iff.1 hg).1
  exact ⟨v, n, p, lo, hi, (hb.block g hlt).trans hg, hb'.below hb, r⟩
theorem Rdr.lt {w : World} {g : Nat} {q : Int} (h : Rdr w g q) : g < w.heap.size := by
  obtain ⟨v, n, p, lo, hi, hg, _⟩ := h
  exact (Array.getElem?_eq_some_iff.1 hg).1
theorem Rdr.more {w : World} {g : Nat} {q q' : Int} (h : Rdr w g q) (hq : q ≤ q') : Rdr w g q' := by
  obtain ⟨v, n, p, lo, hi, hg, hb, hh, hm, p0, p1⟩ := h
  exact ⟨v, n, p, lo, hi, hg, hb, hh, hm, p0, by omega⟩

set_option maxHeartbeats 2000000 in
theorem l91Set_any (g : Nat) (q : Int) (w : World) (h : Rdr w g q) (hq : q ≤ 1000000) :
    Calls Try.prog 69 #[.pointer (some ⟨g, 0, none⟩)] w (RetSet w g q) := by
  have hgs := h.lt
  go_enter Try.func69, Try.ntmps69
  go_wp2_with fail
  refine (pick_any g q 64 _ h (by omega) (by omega)).mono ?_
  rintro e w1 ⟨m, rfl, m0, m1, hr1, hk1⟩
  go_wp2_with fail
  refine (l1OfMask_any m _ m0 (by omega) _ rfl).mono ?_
  rintro e w2 ⟨v, rfl, ho, hb2⟩
  have hr2 := hr1.below hb2
  have hk2 := hk1.trans (Keep.of_below hb2 _ _)
  have hs1 := hk1.size
  have hs2 := hb2.size
  go_wp2_with fail
  refine (pick_any g (q + 1) 40 _ hr2 (by omega) (by omega)).mono ?_
  rintro e w3 ⟨c, rfl, c0, c1, hr3, hk3⟩
  have hk13 := hk2.trans hk3
  have ho3 := ho.keep hk3 (.inr (by omega))
  have hs3 := hk3.size
  by_cases hc0 : c = 0
  · subst hc0
    go_wp2_with fail
    refine (pick_any g (q + 1 + 1) 9 _ hr3 (by omega) (by omega)).mono ?_
    rintro e w4 ⟨y, rfl, y0, y1, hr4, hk4⟩
    have hk14 := hk13.trans hk4
    have ho4 := ho3.keep hk4 (.inr (by omega))
    have hs4 := hk4.size
    have hl := bitsTo_len m 6
    have hown := ho4.wide (lo' := w.heap.size) (hi' := w4.heap.size) (by omega) (by omega) (Nat.le_refl _)
    have hty := tiny_more m (y - 1) (by omega) (by omega)
    have HT := Lib.hid hty
    clear hty ho ho3 ho4 hk2 hk13
    go_wp2_with (at_builtin; refine wpl_append elInt rfl _ _ rfl rfl (Own.below hown ((Below.refl _ _).alloc (Nat.le_refl _) _)) (by omega) ⟨w4.heap.size, 0, none⟩ 1 1 [.int .i64 (y - 1)] rfl rfl (cell_one_new _ _ _) (ints_oneCell .i64 [y - 1]) (by omega) (by unfold maxLen; omega) ?_; intro v' w5 hown1 hk5)
    have hb5 : Below w4.heap.size w4 (w4.alloc (.cells #[.int .i64 (y - 1)] 3)) := (Below.refl _ _).alloc (Nat.le_refl _) _
    have hs5 := hb5.size
    have hk5' : Keep w.heap.size w4.heap.size w4 w5 := (Keep.of_below hb5 _ _).trans hk5
    have hr5 := hr4.keep hk5' (by omega)
    have hk15 := hk14.join hk5' (Nat.le_refl _)
    have hown2 : IntsO w5 w.heap.size w5.heap.size v' (bitsTo m 6 ++ [y - 1]) := by unfold IntsO; rw [List.length_append, List.map_append]; exact hown1
    clear hown1 hown hk5
    go_wp2_with fail
    go_ret
    exact ⟨_, _, rfl, hown2, HT.out, hr5.more (by omega), hk15⟩
  · have hcf : (c == 0) = false := by rw [beq_eq_false_iff_ne]; exact hc0
    by_cases hc1 : c = 1
    · subst hc1
      go_wp2_with fail
      go_ret
      have hb4 : Below w3.heap.size w3 (w3.alloc (.cells #[.int .i64 2, .int .i64 1] 3)) := (Below.refl _ _).alloc (Nat.le_refl _) _
      exact ⟨_, [2, 1], rfl, Own.lit w3 w.heap.size 3 1 #[.int .i64 2, .int .i64 1] 2 (by omega) (by decide) rfl, tiny_two, (hr3.below hb4).more (by omega), hk13.trans (Keep.of_below hb4 _ _)⟩
    · have hcg : (c == 1) = false := by rw [beq_eq_false_iff_ne]; exact hc1
      have hty := Lib.hid (tiny_bits m)
      go_wp2_with fail
      go_ret
      exact ⟨_, _, rfl, ho3.wide (by omega) (by omega) (Nat.le_refl _), hty.out, hr3.more (by omega), hk13⟩
end Go.Proofs.Ytgipgfhnkkpdkaa
