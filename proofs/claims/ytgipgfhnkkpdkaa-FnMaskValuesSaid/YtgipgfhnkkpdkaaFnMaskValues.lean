/-
  For every code the law FnMaskValues returns true, and what it was given reads afterwards as before. No condition.
-/
import Derived.Test.YtgipgfhnkkpdkaaFrame
import Derived.Test.YtgipgfhnkkpdkaaLawKit
namespace Go.Proofs.Ytgipgfhnkkpdkaa.fnMaskValues
open Go.ChangeShapes Go.WideShapes Go.ChangeAt Go.RowKit
open Go.ChangeMaps (open_string shut_string)
set_option linter.unusedVariables false

set_option maxHeartbeats 4000000 in
theorem walk_at (w : World) (v0 : Value) (n0 : Nat) (b0 : Bytes w 0 w.heap.size v0 n0) :
    Calls Try.prog 11 #[v0] w fun e w' => e = .returned (.bool true) ∧ Below w.heap.size w w' := by
  obtain ⟨a0, c0, hv0, hn0, _⟩ := b0.open
  subst hv0
  by_cases big0 : n0 ≤ 1048576
  case neg =>
    go_enter Try.func11, Try.ntmps11
    go_wp2_with fail
    go_ret
    exact ⟨rfl, Below.refl _ _⟩
  go_enter Try.func11, Try.ntmps11
  go_wp2_with fail
  have HB : Below w.heap.size w w := Below.refl _ _
  refine (DrawSetOfMask_any _ n0 _ b0).mono ?_
  rintro e w1 ⟨m, rfl, m0, m1, hb1⟩
  replace HB := below_step HB hb1 HB.size
  clear hb1
  as_aux_lemma =>
   go_wp2_with fail
   cases hs : inB m 0 63
   case false =>
     rcases inB_false hs with hr | hr
     case inl =>
       have HS := Lib.hid hs; clear hs
       have hr2 : ¬ 0 ≤ m := by omega
       as_aux_lemma =>
        go_wp2_with fail
        refine (specSetOfMask_any m _ _ false rfl HS.out).mono ?_
        rintro e w2 ⟨vw, rfl, iw, hb2⟩
        replace iw := iw.ints
        replace HB := below_step HB hb2 HB.size
        clear hb2
        as_aux_lemma =>
         go_wp2_with fail
         refine (implSetOfMask_any m _ _ false (ofMask_same m) HS.out).mono ?_
         rintro e w3 ⟨vs, rfl, is, hb3⟩
         replace HB := below_step HB hb3 HB.size
         replace iw := iw.below hb3
         replace is := is.ints
         clear hb3
         as_aux_lemma =>
          go_wp2_with fail
          refine (sameInts_any _ _ _ _ _ is iw true (by simp)).mono ?_
          rintro e w4 ⟨rfl, hw4⟩
          have hb4 := drawn_below hw4
          replace HB := below_step HB hb4 HB.size
          replace iw := iw.below hb4
          replace is := is.below hb4
          clear hw4 hb4
          as_aux_lemma =>
           go_wp2_with fail
           go_ret
           exact ⟨rfl, HB⟩
     case inr =>
       have HS := Lib.hid hs; clear hs
       have hr2 : 0 ≤ m := by omega
       have hr3 : decide (m < 64) = false := by simp; omega
       as_aux_lemma =>
        go_wp2_with fail
        refine (specSetOfMask_any m _ _ false rfl HS.out).mono ?_
        rintro e w2 ⟨vw, rfl, iw, hb2⟩
        replace iw := iw.ints
        replace HB := below_step HB hb2 HB.size
        clear hb2
        as_aux_lemma =>
         go_wp2_with fail
         refine (implSetOfMask_any m _ _ false (ofMask_same m) HS.out).mono ?_
         rintro e w3 ⟨vs, rfl, is, hb3⟩
         replace HB := below_step HB hb3 HB.size
         replace iw := iw.below hb3
         replace is := is.ints
         clear hb3
         as_aux_lemma =>
          go_wp2_with fail
          refine (sameInts_any _ _ _ _ _ is iw true (by simp)).mono ?_
          rintro e w4 ⟨rfl, hw4⟩
          have hb4 := drawn_below hw4
          replace HB := below_step HB hb4 HB.size
          replace iw := iw.below hb4
          replace is := is.below hb4
          clear hw4 hb4
          as_aux_lemma =>
           go_wp2_with fail
           go_ret
           exact ⟨rfl, HB⟩
   case true =>
     obtain ⟨hr, hr3⟩ := inB_true hs
     have HS := Lib.hid hs; clear hs
     have HX := Lib.hid (show ofMaskS m = bitsTo m 6 by simp [ofMaskS, HS.out])
     have HM := Lib.hid (show maskR (ofMaskS m) = m by rw [mask_same, HX.out]; simp [maskS, bits_valid' HS.out, mask_of' HS.out])
     have HV := Lib.hid (show setValid (ofMaskS m) = true by rw [HX.out]; exact bits_valid' HS.out)
     have hr4 : m < 64 := by omega
     as_aux_lemma =>
      go_wp2_with fail
      refine (specSetOfMask_any m _ _ true rfl HS.out).mono ?_
      rintro e w2 ⟨vw, rfl, iw, hb2⟩
      replace iw := iw.ints
      replace HB := below_step HB hb2 HB.size
      clear hb2
      as_aux_lemma =>
       go_wp2_with fail
       refine (implSetOfMask_any m _ _ true (ofMask_same m) HS.out).mono ?_
       rintro e w3 ⟨vs, rfl, is, hb3⟩
       replace HB := below_step HB hb3 HB.size
       replace iw := iw.below hb3
       replace is := is.ints
       clear hb3
       as_aux_lemma =>
        go_wp2_with fail
        refine (sameInts_any _ _ _ _ _ is iw true (by simp)).mono ?_
        rintro e w4 ⟨rfl, hw4⟩
        have hb4 := drawn_below hw4
        replace HB := below_step HB hb4 HB.size
        replace iw := iw.below hb4
        replace is := is.below hb4
        clear hw4 hb4
        as_aux_lemma =>
         go_wp2_with fail
         refine (implSetMask_any _ _ _ is _ HM.out).mono ?_
         rintro e w' ⟨rfl, rfl⟩
         as_aux_lemma =>
          go_wp2_with fail
          refine (implSetValid_any _ _ _ is true HV.out).mono ?_
          rintro e w' ⟨rfl, rfl⟩
          as_aux_lemma =>
           go_wp2_with fail
           go_ret
           exact ⟨rfl, HB⟩

/-! ### THE ROW's STEP -/
set_option maxRecDepth 100000 in
theorem lifted (os : Os) (started : os.Started) (H : Type) (enc : TypeId × Value → H) :
    ReturnsInHanded {} Try.checked os 11 .any (Rows.fnMaskValuesSpec.pre6 enc Try.prog Try.f11 Rows.fnMaskValuesRow.domain false) (Rows.fnMaskValuesSpec.post enc Try.prog Try.f11 false true false false) := by
  refine returnsInHanded_of_change (C := Try.checked) own started (by kernel_rfl) Try.func11
    (ChangeSpec.witness6 (enc := enc) (C := Try.checked) false ⟨#[], #[.slice none 0 0], []⟩ 8 (by kernel_rfl) (by kernel_rfl) (by kernel_rfl) (by kernel_rfl)) ?_
  intro W base args ds gs before hval0 hW hcnd _
  have hval : ∀ (j : Nat) t v, Try.f11.params[j]? = some t → args[j]? = some v → Value.okWide Try.prog W .any base t v := hval0
  have hW' := hW
  obtain ⟨p, q, hA0, hV, rfl, hfz, hnd⟩ := hW
  have hA : DataW.TrodAll enc Try.prog W 0 (fun _ => true) true Try.f11.params.toList args.toList ds p := hA0
  rw [Try.params11] at hA hval
  obtain ⟨v0, vs0, d0, ds0, p0, q0, hargs, rfl, rfl, h0, r0⟩ := trodAll_cons hA
  obtain ⟨rfl, rfl, rfl⟩ := trodAll_nil r0
  obtain rfl : args = #[v0] := by cases args; simp_all
  obtain ⟨rfl, rfl⟩ := trodVars_none hV
  obtain ⟨n0, b0⟩ := bytes_in (hval 0 _ v0 rfl rfl) h0
  have lt0 := lt_in h0
  clear hA0 hval0
  refine (walk_at W v0 n0 b0).mono fun e W' ⟨he, bel⟩ => ?_
  subst he
  exact ⟨_, rfl, _, _, _, [], _, [], hW', trodAll_mk1 (shut_bool Try.underlying4 _), (trodAll_cons_mk (Below.trod laidOut (by kernel_rfl) (of_decide_eq_true (by kernel_rfl)) h0 bel lt0) trodAll_mk0), rfl, bel.frame _, fun h => by cases h⟩

set_option maxRecDepth 100000 in
theorem closed : joinedFacts Try.prog 11 Try.f11 Rows.fnMaskValuesSpec Rows.fnMaskValuesRow = true := by
  unfold joinedFacts
  rw [may, lifts, mk]
  kernel_rfl
theorem over : Rows.fnMaskValuesRow.holds Try.pinned (OpenSpec.ofChange Rows.fnMaskValuesSpec) :=
  OpenClaim.holds_of_wide 11 Try.f11 rfl rfl rfl rfl rfl rfl rfl ⟨rfl, rfl, rfl, rfl, rfl⟩ rfl rfl rfl rfl rfl (by as_aux_lemma => kernel_rfl) Try.func11 closed
    (of_decide_eq_true (by as_aux_lemma => kernel_rfl)) (by unfold Func.isWrapper; rw [if_neg (of_decide_eq_false (by as_aux_lemma => kernel_rfl))]; exact ⟨rfl, rfl⟩)
    (fun os started H enc _ => lifted os started H enc)

/-- THE STATEMENT -/
theorem proved : Rows.FnMaskValuesSaid := over
end Go.Proofs.Ytgipgfhnkkpdkaa.fnMaskValues
