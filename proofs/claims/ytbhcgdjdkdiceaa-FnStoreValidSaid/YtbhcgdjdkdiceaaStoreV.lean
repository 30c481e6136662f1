/-
  The walk of the reference's draw DrawStoreValid.
-/
import Derived.Test.YtbhcgdjdkdiceaaStoreR
namespace Go.Proofs.Ytbhcgdjdkdiceaa
open Go.RowKit
set_option linter.unusedVariables false

set_option maxRecDepth 100000 in
set_option maxHeartbeats 4000000 in
theorem DrawStoreValid_any (v : Value) (n : Nat) (w : World) {lo hi : Nat} (h : Bytes w lo hi v n) :
    Calls Try.prog 12 #[v] w fun e w' => ∃ sv ps, e = .returned sv ∧ PrsO w' w.heap.size w'.heap.size sv ps ∧ ps.length ≤ 6 ∧ Below w.heap.size w w' := by
  go_enter Try.func12, Try.ntmps12
  go_wp2_with fail
  refine (open_any v n _ h).mono ?_
  rintro e w1 ⟨rfl, hr1, hb1, hs1⟩
  go_wp2_with fail
  refine (l92Store_any _ 0 _ hr1 (by omega)).mono ?_
  rintro e wr ⟨sv, ps, rfl, hown, hl, hr, hk2⟩
  have hs2 := hk2.size
  have hb2 := hb1.trans (hk2.below (Nat.le_refl _) (by omega))
  have hrl0 := hr.lt
  replace hown := PrsO.wide (lo' := w1.heap.size) hown (Nat.le_refl _) (Nat.le_refl _) (Nat.le_refl _)
  obtain ⟨ao, co, hvo⟩ := hown.form
  subst hvo
  generalize hg : w.heap.size = g at *
  clear hr1 hk2 hb1
  as_aux_lemma =>
   go_wp2_with fail
   refine (pick_any g _ 4 _ hr (by omega) (by omega)).mono ?_
   rintro e w2 ⟨y, rfl, y0, y1, hr2, hk2⟩
   have hs2 := hk2.size
   have hk := hb2.trans (hk2.below (Nat.le_refl _) (by omega))
   replace hown := PrsO.wide (PrsO.keep hown hk2 (.inr (by omega))) (Nat.le_refl _) hs2 (Nat.le_refl _)
   clear hk2 hr
   by_cases hy : y = 0
   · subst hy
     have hrl := hr2.lt
     have hb3 : Below w2.heap.size w2 (w2.alloc (.cells #[.string ⟨#[97]⟩, .string ⟨#[102]⟩, .string ⟨#[103]⟩] 9)) := (Below.refl _ _).alloc (Nat.le_refl _) _
     have hst := strs_new w2 [⟨#[97]⟩, ⟨#[102]⟩, ⟨#[103]⟩] #[.string ⟨#[97]⟩, .string ⟨#[102]⟩, .string ⟨#[103]⟩] 3 rfl rfl (by decide)
     have hs3 := hb3.size
     replace hr2 := hr2.below hb3
     replace hk := hk.trans (hb3.mono (by omega))
     replace hown := PrsO.wide (PrsO.below hown hb3) (Nat.le_refl _) hs3 (Nat.le_refl _)
     clear hb3
     as_aux_lemma =>
      go_wp2_with (refine wpl_strs rfl 3 _ rfl #[.string ⟨#[97]⟩, .string ⟨#[102]⟩, .string ⟨#[103]⟩] (by decide) (by decide) (by kernel_rfl) ?_)
      generalize w2.alloc (.cells #[.string ⟨#[97]⟩, .string ⟨#[102]⟩, .string ⟨#[103]⟩] 9) = w3 at *
      refine (of_any g _ _ _ _ hr2 (by omega) hst (by decide) (.inr (by omega))).mono ?_
      rintro e w4 ⟨s, rfl, hs, hr4, hk4⟩
      have hs4 := hk4.size
      replace hk := hk.trans (hk4.below (Nat.le_refl _) (by omega))
      replace hown := PrsO.wide (PrsO.keep hown hk4 (.inr (by omega))) (Nat.le_refl _) hs4 (Nat.le_refl _)
      clear hk4 hst hr2
      as_aux_lemma =>
       go_wp2_with fail
       refine (pick_any g _ 101 _ hr4 (by omega) (by omega)).mono ?_
       rintro e w5 ⟨z, rfl, z0, z1, hr5, hk5⟩
       have hs5 := hk5.size
       replace hk := hk.trans (hk5.below (Nat.le_refl _) (by omega))
       replace hown := PrsO.wide (PrsO.keep hown hk5 (.inr (by omega))) (Nat.le_refl _) hs5 (Nat.le_refl _)
       clear hk5 hr4
       go_wp2_with (at_builtin; refine wpl_append elPair rfl _ _ rfl rfl (Own.below hown ((Below.refl _ _).alloc (Nat.le_refl _) _)) (by omega) ⟨w5.heap.size, 0, none⟩ 1 1 [.string s, .int .i64 z] rfl rfl (cell_two_new _ _ _ _) (pair_one _ _) (by omega) (by unfold maxLen; omega) ?_; intro v6 w6 hown6 hk6)
       have hb6 : Below w5.heap.size w5 (w5.alloc (.cells #[.string s, .int .i64 z] 38)) := (Below.refl _ _).alloc (Nat.le_refl _) _
       have hb7 := (hk.trans (hb6.mono (by omega))).trans (hk6.below (by omega) (by have := hb6.size; omega))
       have ho7 : PrsO w6 w1.heap.size w6.heap.size v6 (ps ++ [(s, z)]) := by
         unfold PrsO RecsO
         rw [List.length_append, flat_append, flat_one]
         exact hown6
       clear hown6 hk6 hb6 hown hk hr5
       have hgs := hb7.size
       go_wp2_with fail
       go_ret
       exact ⟨_, ps ++ [(s, z)], rfl, PrsO.wide ho7 (by omega) (Nat.le_refl _) (Nat.le_refl _), by simp; omega, by rw [hg]; exact hb7⟩
   · have hyb : (y == 0) = false := beq_eq_false_iff_ne.2 hy
     go_wp2_with fail
     go_ret
     exact ⟨_, ps, rfl, PrsO.wide hown (by omega) (Nat.le_refl _) (Nat.le_refl _), by omega, by rw [hg]; exact hk⟩
end Go.Proofs.Ytbhcgdjdkdiceaa
