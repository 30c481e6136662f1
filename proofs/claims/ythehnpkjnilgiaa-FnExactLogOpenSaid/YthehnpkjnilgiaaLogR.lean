/-
  The walks of the reference's draws of logs.
-/
import Derived.Test.YthehnpkjnilgiaaLogW
import Derived.Test.YthehnpkjnilgiaaDraw
namespace Go.Proofs.Ythehnpkjnilgiaa
open Go.RowKit
set_option linter.unusedVariables false

theorem two_one (a b : Int) : ∀ u ∈ [Value.int .i64 a, Value.int .i64 b], u.oneCell' = true := by
  intro u hu
  rcases List.mem_cons.1 hu with rfl | hu
  · rfl
  · rcases List.mem_cons.1 hu with rfl | hu
    · rfl
    · cases hu
theorem ents_snoc {w : World} {lo hi : Nat} {v : Value} {es : List (Int × Int)} {a b : Int}
    (h : Own w lo hi 28 v (es.length + 1) 2 (flat encE es ++ [.int .i64 a, .int .i64 b])) : EntsO w lo hi v (es ++ [(a, b)]) := by
  unfold EntsO RecsO
  rw [List.length_append, flat_append, flat_one]
  exact h

theorem Rdr.keep {w w' : World} {g : Nat} {q : Int} {l1 h1 : Nat} (h : Rdr w g q) (hk : Keep l1 h1 w w') (ho : g < l1) : Rdr w' g q := by
  obtain ⟨v, n, p, lo, hi, hg, hb, hh, hm, p0, p1⟩ := h
  have hlt : g < w.heap.size := (Array.getElem?_eq_some_iff.1 hg).1
  exact ⟨v, n, p, lo, hi, (hk.block g hlt (by omega)).trans hg, hb.keep hk (by omega), hh, hm, p0, p1⟩
theorem Rdr.below {w w' : World} {g : Nat} {q : Int} (h : Rdr w g q) (hb : Below w.heap.size w w') : Rdr w' g q := by
  obtain ⟨v, n, p, lo, hi, hg, hb', r⟩ := h
  have hlt : g < w.heap.size := (Array.getElem?_eq_some_iff.1 hg).1
  exact ⟨v, n, p, lo, hi, (hb.block g hlt).trans hg, hb'.below hb, r⟩
theorem Rdr.lt {w : World} {g : Nat} {q : Int} (h : Rdr w g q) : g < w.heap.size := by
  obtain ⟨v, n, p, lo, hi, hg, _⟩ := h
  exact (Array.getElem?_eq_some_iff.1 hg).1
theorem Rdr.more {w : World} {g : Nat} {q q' : Int} (h : Rdr w g q) (hq : q ≤ q') : Rdr w g q' := by
  obtain ⟨v, n, p, lo, hi, hg, hb, hh, hm, p0, p1⟩ := h
  exact ⟨v, n, p, lo, hi, hg, hb, hh, hm, p0, by omega⟩

def RetLog (w : World) (g : Nat) (q : Int) (e : Ending) (w' : World) : Prop :=
  ∃ v es n, e = .returned (.tuple #[v, .int .i64 n]) ∧ EntsO w' w.heap.size w'.heap.size v es ∧ es.length ≤ 8 ∧ 1 ≤ n ∧ n ≤ 4 ∧ Rdr w' g (q + 40) ∧ Keep g (g + 1) w w'

set_option maxHeartbeats 2000000 in
theorem l92Log_any (g : Nat) (q : Int) (w : World) (h : Rdr w g q) (hq : q ≤ 1000000) :
    Calls Try.prog 34 #[.pointer (some ⟨g, 0, none⟩)] w (RetLog w g q) := by
  have hgs := h.lt
  go_enter Try.func34, Try.ntmps34
  go_wp2_with fail
  refine (pick_any g q 4 _ h (by omega) (by omega)).mono ?_
  rintro e w1 ⟨n, rfl, n0, n1, hr1, hk1⟩
  have hs1 := hk1.size
  go_wp2_with fail
  have hbe : Below w1.heap.size w1 (w1.alloc (.cells #[] 28)) := (Below.refl _ _).alloc (Nat.le_refl _) _
  refine (pick_any g (q + 1) 8 _ (hr1.below hbe) (by omega) (by omega)).mono ?_
  rintro e w2 ⟨j0, rfl, j0a, j0b, hr2, hk2⟩
  have hs2 := hk2.size
  have hk12 := (hk1.trans (Keep.of_below hbe _ _)).trans hk2
  have ho2 : EntsO w2 w.heap.size w2.heap.size (.slice (some ⟨w1.heap.size, 0, none⟩) 0 0) [] :=
    EntsO.wide (lo := w.heap.size) (hi := (w1.alloc (.cells #[] 28)).heap.size)
      (EntsO.keep (RecsO.empty w1 w.heap.size hs1) hk2 (.inr (by omega))) (Nat.le_refl _) hs2 (Nat.le_refl _)
  clear hk1 hk2 hbe hr1
  go_wp2_with fail
  go_loopw [5, 6] (fun v i wr => ∃ (j : Nat) (es : List (Int × Int)), i = .int .i64 j ∧ j + es.length ≤ 7 ∧ EntsO wr w.heap.size wr.heap.size v es ∧ Rdr wr g (q + 2 + 2 * es.length) ∧ Keep g (g + 1) w wr) (fun _ i _ => (intOf i).toNat)
  case atStart =>
    obtain ⟨j, rfl⟩ := Int.eq_ofNat_of_zero_le j0a
    exact ⟨j, [], rfl, by simp; omega, ho2, hr2.more (by simp; omega), hk12⟩
  case round =>
    obtain ⟨j, es, rfl, hj, hown, hr, hk⟩ := hrel
    have hsz := hk.size
    by_cases hlt : 0 < j
    · go_wp2_with fail
      refine (pick_any g _ 3 _ hr (by omega) (by omega)).mono ?_
      rintro e w3 ⟨c, rfl, c0, c1, hr3, hk3⟩
      have hs3 := hk3.size
      have hk13 := hk.trans hk3
      have ho3 := (EntsO.keep hown hk3 (.inr (by omega))).wide (lo' := w.heap.size) (hi' := w3.heap.size) (Nat.le_refl _) hs3 (Nat.le_refl _)
      by_cases hc : c = 0
      · subst hc
        go_wp2_with fail
        refine (pick_any g _ (1 + n) _ hr3 (by omega) (by omega)).mono ?_
        rintro e w4 ⟨y, rfl, y0, y1, hr4, hk4⟩
        have hs4 := hk4.size
        have hk14 := hk13.trans hk4
        have ho4 := (EntsO.keep ho3 hk4 (.inr (by omega))).wide (lo' := w.heap.size) (hi' := w4.heap.size) (Nat.le_refl _) hs4 (Nat.le_refl _)
        clear ho3 hk13 hown
        have hlo : w.heap.size ≤ w4.heap.size := by omega
        go_wp2_with (at_builtin; refine wpl_append elEntry rfl _ _ rfl rfl (Own.below ho4 ((Below.refl _ _).alloc (Nat.le_refl _) _)) hlo ⟨w4.heap.size, 0, none⟩ 1 1 [.int .i64 0, .int .i64 (1 + y)] rfl rfl (cell_two_new _ _ _ _) (two_one _ _) (by omega) (by unfold maxLen; omega) ?_; intro v' w5 hown1 hk5)
        have hb5 : Below w4.heap.size w4 (w4.alloc (.cells #[.int .i64 0, .int .i64 (1 + y)] 28)) := (Below.refl _ _).alloc (Nat.le_refl _) _
        have hk5' : Keep w.heap.size w4.heap.size w4 w5 := (Keep.of_below hb5 _ _).trans hk5
        have hr5 := (hr4.keep hk5' (by omega)).more (q' := q + 2 + 2 * ((es ++ [((0 : Int), 1 + y)]).length : Int)) (by simp; omega)
        have hk15 := hk14.join hk5' (Nat.le_refl _)
        have hown2 := ents_snoc hown1
        have hj2 : (j - 1) + (es ++ [((0 : Int), 1 + y)]).length ≤ 7 := by simp; omega
        clear hown1 hk5 hk5' hb5 hk14 ho4
        generalize es ++ [((0 : Int), 1 + y)] = es2 at *
        go_wp2_with fail
        go_roundw
        case rel => exact ⟨j - 1, es2, congrArg (Value.int .i64) (by omega), hj2, hown2, hr5, hk15⟩
        case measure => simp [intOf]; omega
      · have hcf : (c == 0) = false := by rw [beq_eq_false_iff_ne]; exact hc
        go_wp2_with fail
        refine (pick_any g _ 99 _ hr3 (by omega) (by omega)).mono ?_
        rintro e w4 ⟨y, rfl, y0, y1, hr4, hk4⟩
        have hs4 := hk4.size
        have hk14 := hk13.trans hk4
        have ho4 := (EntsO.keep ho3 hk4 (.inr (by omega))).wide (lo' := w.heap.size) (hi' := w4.heap.size) (Nat.le_refl _) hs4 (Nat.le_refl _)
        clear ho3 hk13 hown
        have hlo : w.heap.size ≤ w4.heap.size := by omega
        go_wp2_with (at_builtin; refine wpl_append elEntry rfl _ _ rfl rfl (Own.below ho4 ((Below.refl _ _).alloc (Nat.le_refl _) _)) hlo ⟨w4.heap.size, 0, none⟩ 1 1 [.int .i64 (1 + y), .int .i64 0] rfl rfl (cell_two_new _ _ _ _) (two_one _ _) (by omega) (by unfold maxLen; omega) ?_; intro v' w5 hown1 hk5)
        have hb5 : Below w4.heap.size w4 (w4.alloc (.cells #[.int .i64 (1 + y), .int .i64 0] 28)) := (Below.refl _ _).alloc (Nat.le_refl _) _
        have hk5' : Keep w.heap.size w4.heap.size w4 w5 := (Keep.of_below hb5 _ _).trans hk5
        have hr5 := (hr4.keep hk5' (by omega)).more (q' := q + 2 + 2 * ((es ++ [((1 + y : Int), (0 : Int))]).length : Int)) (by simp; omega)
        have hk15 := hk14.join hk5' (Nat.le_refl _)
        have hown2 := ents_snoc hown1
        have hj2 : (j - 1) + (es ++ [((1 + y : Int), (0 : Int))]).length ≤ 7 := by simp; omega
        clear hown1 hk5 hk5' hb5 hk14 ho4
        generalize es ++ [((1 + y : Int), (0 : Int))] = es2 at *
        go_wp2_with fail
        go_roundw
        case rel => exact ⟨j - 1, es2, congrArg (Value.int .i64) (by omega), hj2, hown2, hr5, hk15⟩
        case measure => simp [intOf]; omega
    · go_wp2_with fail
      refine (pick_any g _ 30 _ hr (by omega) (by omega)).mono ?_
      rintro e w3 ⟨c, rfl, c0, c1, hr3, hk3⟩
      have hs3 := hk3.size
      have hk13 := hk.trans hk3
      have ho3 := (EntsO.keep hown hk3 (.inr (by omega))).wide (lo' := w.heap.size) (hi' := w3.heap.size) (Nat.le_refl _) hs3 (Nat.le_refl _)
      by_cases hc : c = 0
      · subst hc
        go_wp2_with fail
        refine (pick_any g _ 2 _ hr3 (by omega) (by omega)).mono ?_
        rintro e w4 ⟨y, rfl, y0, y1, hr4, hk4⟩
        have hs4 := hk4.size
        go_wp2_with fail
        refine (pick_any g _ 7 _ hr4 (by omega) (by omega)).mono ?_
        rintro e w5 ⟨z, rfl, z0, z1, hr5, hk5⟩
        have hs5 := hk5.size
        have hk15 := (hk13.trans hk4).trans hk5
        have ho5 := ((EntsO.keep (EntsO.keep ho3 hk4 (.inr (by omega))) hk5 (.inr (by omega)))).wide (lo' := w.heap.size) (hi' := w5.heap.size) (Nat.le_refl _) (by omega) (Nat.le_refl _)
        clear ho3 hk13 hown
        have hlo : w.heap.size ≤ w5.heap.size := by omega
        go_wp2_with (at_builtin; refine wpl_append elEntry rfl _ _ rfl rfl (Own.below ho5 ((Below.refl _ _).alloc (Nat.le_refl _) _)) hlo ⟨w5.heap.size, 0, none⟩ 1 1 [.int .i64 y, .int .i64 z] rfl rfl (cell_two_new _ _ _ _) (two_one _ _) (by omega) (by unfold maxLen; omega) ?_; intro v' w6 hown1 hk6)
        have hb6 : Below w5.heap.size w5 (w5.alloc (.cells #[.int .i64 y, .int .i64 z] 28)) := (Below.refl _ _).alloc (Nat.le_refl _) _
        have hk6' : Keep w.heap.size w5.heap.size w5 w6 := (Keep.of_below hb6 _ _).trans hk6
        have hr6 := (hr5.keep hk6' (by omega)).more (q' := q + 40) (by omega)
        have hk16 := hk15.join hk6' (Nat.le_refl _)
        have hown2 := ents_snoc hown1
        have hj2 : (es ++ [(y, z)]).length ≤ 8 := by simp; omega
        clear hown1 hk6 hk6' hb6 hk15 ho5
        go_wp2_with fail
        go_ret2
        exact ⟨_, _, _, rfl, hown2, hj2, by omega, by omega, hr6, hk16⟩
      · have hcf : (c == 0) = false := by rw [beq_eq_false_iff_ne]; exact hc
        have hr6 := hr3.more (q' := q + 40) (by omega)
        go_wp2_with fail
        go_ret2
        exact ⟨_, _, _, rfl, ho3, by omega, by omega, by omega, hr6, hk13⟩
end Go.Proofs.Ythehnpkjnilgiaa
