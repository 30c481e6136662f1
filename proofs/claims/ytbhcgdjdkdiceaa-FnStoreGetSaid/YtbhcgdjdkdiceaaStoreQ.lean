/-
  The walk of the reference's draw DrawStoreGet.
-/
import Derived.Test.YtbhcgdjdkdiceaaStoreR
namespace Go.Proofs.Ytbhcgdjdkdiceaa
open Go.RowKit
set_option linter.unusedVariables false

set_option maxRecDepth 100000 in
set_option maxHeartbeats 4000000 in
theorem DrawStoreGet_any (v : Value) (n : Nat) (w : World) {lo hi : Nat} (h : Bytes w lo hi v n) :
    Calls Try.prog 15 #[v] w fun e w' => ∃ sv ps key, e = .returned (.tuple #[sv, .string key]) ∧ PrsO w' w.heap.size w'.heap.size sv ps ∧ ps.length ≤ 5 ∧ key.size ≤ maxLen ∧ Below w.heap.size w w' := by
  go_enter Try.func15, Try.ntmps15
  go_wp2_with fail
  refine (open_any v n _ h).mono ?_
  rintro e w1 ⟨rfl, hr1, hb1, hs1⟩
  go_wp2_with fail
  refine (l92Store_any _ 0 _ hr1 (by omega)).mono ?_
  rintro e w2 ⟨sv, ps, rfl, ho, hl, hr2, hk2⟩
  have hs2 := hk2.size
  have hb2 := hb1.trans (hk2.below (Nat.le_refl _) (by omega))
  obtain ⟨a, c, hv⟩ := ho.form
  subst hv
  have hb3 : Below w2.heap.size w2 (w2.alloc (.cells #[.string ⟨#[97]⟩, .string ⟨#[98]⟩, .string ⟨#[99]⟩, .string ⟨#[100]⟩, .string ⟨#[101]⟩, .string ⟨#[102]⟩, .string ⟨#[103]⟩] 9)) := (Below.refl _ _).alloc (Nat.le_refl _) _
  have hst := strs_new w2 [⟨#[97]⟩, ⟨#[98]⟩, ⟨#[99]⟩, ⟨#[100]⟩, ⟨#[101]⟩, ⟨#[102]⟩, ⟨#[103]⟩] #[.string ⟨#[97]⟩, .string ⟨#[98]⟩, .string ⟨#[99]⟩, .string ⟨#[100]⟩, .string ⟨#[101]⟩, .string ⟨#[102]⟩, .string ⟨#[103]⟩] 7 rfl rfl (by decide)
  have hs3 := hb3.size
  have hrl := hr2.lt
  replace hr2 := hr2.below hb3
  have hb4 := below_step hb2 hb3 hb2.size
  replace ho := PrsO.below ho hb3
  clear hb3 hr1 hk2
  as_aux_lemma =>
   go_wp2_with (refine wpl_strs rfl 7 _ rfl #[.string ⟨#[97]⟩, .string ⟨#[98]⟩, .string ⟨#[99]⟩, .string ⟨#[100]⟩, .string ⟨#[101]⟩, .string ⟨#[102]⟩, .string ⟨#[103]⟩] (by decide) (by decide) (by kernel_rfl) ?_)
   generalize w2.alloc (.cells #[.string ⟨#[97]⟩, .string ⟨#[98]⟩, .string ⟨#[99]⟩, .string ⟨#[100]⟩, .string ⟨#[101]⟩, .string ⟨#[102]⟩, .string ⟨#[103]⟩] 9) = w3 at *
   refine (of_any w.heap.size _ _ _ _ hr2 (by omega) hst (by decide) (.inr (by omega))).mono ?_
   rintro e w4 ⟨s, rfl, hs, hr4, hk4⟩
   have hs4 := hk4.size
   have hks : s.size ≤ maxLen := by
     simp at hs
     rcases hs with rfl | rfl | rfl | rfl | rfl | rfl | rfl <;> decide
   go_wp2_with fail
   go_ret2
   exact ⟨_, ps, s, rfl, PrsO.wide (PrsO.keep ho hk4 (.inr (by omega))) (by omega) (by omega) (Nat.le_refl _), hl, hks, hb4.trans (hk4.below (Nat.le_refl _) (by omega))⟩
end Go.Proofs.Ytbhcgdjdkdiceaa
