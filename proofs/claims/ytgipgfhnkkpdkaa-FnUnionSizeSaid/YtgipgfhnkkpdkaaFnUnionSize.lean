/-
  For every code the law FnUnionSize returns true, and what it was given reads afterwards as before. No condition.
-/
import Derived.Test.YtgipgfhnkkpdkaaFrame
import Derived.Test.YtgipgfhnkkpdkaaLawKit
namespace Go.Proofs.Ytgipgfhnkkpdkaa.fnUnionSize
open Go.ChangeShapes Go.WideShapes Go.ChangeAt Go.RowKit
open Go.ChangeMaps (open_string shut_string)
set_option linter.unusedVariables false

set_option maxHeartbeats 4000000 in
theorem walk_at (w : World) (v0 : Value) (n0 : Nat) (b0 : Bytes w 0 w.heap.size v0 n0) :
    Calls Try.prog 17 #[v0] w fun e w' => e = .returned (.bool true) ∧ Below w.heap.size w w' := by
  obtain ⟨a0, c0, hv0, hn0, _⟩ := b0.open
  subst hv0
  by_cases big0 : n0 ≤ 1048576
  case neg =>
    go_enter Try.func17, Try.ntmps17
    go_wp2_with fail
    go_ret
    exact ⟨rfl, Below.refl _ _⟩
  go_enter Try.func17, Try.ntmps17
  go_wp2_with fail
  have HB : Below w.heap.size w w := Below.refl _ _
  refine (DrawSetUnion_any _ n0 _ b0).mono ?_
  rintro e w1 ⟨va, vb, xs, ys, rfl, ia, ib, ta, tb, hb1⟩
  replace HB := below_step HB hb1 HB.size
  clear hb1
  as_aux_lemma =>
   go_wp2_with fail
   refine (implSetUnion_any _ _ xs ys _ _ ia ib (comb_union xs ys)).mono ?_
   rintro e w2 ⟨u, rfl, iu, hb2⟩
   replace HB := below_step HB hb2 HB.size
   replace ia := ia.below hb2
   replace ib := ib.below hb2
   replace iu := iu.ints
   clear hb2
   as_aux_lemma =>
    go_wp2_with fail
    refine (specSetUnion_any _ _ xs ys _ _ ia ib rfl).mono ?_
    rintro e w3 ⟨z, rfl, iz, hb3⟩
    replace HB := below_step HB hb3 HB.size
    replace ia := ia.below hb3
    replace ib := ib.below hb3
    replace iu := iu.below hb3
    replace iz := iz.ints
    clear hb3
    as_aux_lemma =>
     go_wp2_with fail
     refine (sameInts_any _ _ _ _ _ iu iz true (by simp)).mono ?_
     rintro e w4 ⟨rfl, hw4⟩
     have hb4 := drawn_below hw4
     replace HB := below_step HB hb4 HB.size
     replace ia := ia.below hb4
     replace ib := ib.below hb4
     replace iu := iu.below hb4
     replace iz := iz.below hb4
     clear hw4 hb4
     as_aux_lemma =>
      go_wp2_with fail
      cases hv : setValid xs
      case false =>
        have HV := Lib.hid hv; clear hv
        refine (specSetValid_any _ xs _ ia false HV.out).mono ?_
        rintro e w5 ⟨rfl, hw5⟩
        have hb5 := drawn_below hw5
        replace HB := below_step HB hb5 HB.size
        replace ia := ia.below hb5
        replace ib := ib.below hb5
        replace iu := iu.below hb5
        replace iz := iz.below hb5
        clear hw5 hb5
        as_aux_lemma =>
         go_wp2_with fail
         refine (specSetUnion_any _ _ xs ys _ _ ia ib rfl).mono ?_
         rintro e w6 ⟨z2, rfl, iz2, hb6⟩
         replace HB := below_step HB hb6 HB.size
         replace ia := ia.below hb6
         replace ib := ib.below hb6
         replace iu := iu.below hb6
         replace iz := iz.below hb6
         replace iz2 := iz2.ints
         clear hb6
         as_aux_lemma =>
          go_wp2_with fail
          refine (sameInts_any _ _ _ _ _ iu iz2 true (by simp)).mono ?_
          rintro e w7 ⟨rfl, hw7⟩
          have hb7 := drawn_below hw7
          replace HB := below_step HB hb7 HB.size
          replace ia := ia.below hb7
          replace ib := ib.below hb7
          replace iu := iu.below hb7
          replace iz := iz.below hb7
          replace iz2 := iz2.below hb7
          clear hw7 hb7
          as_aux_lemma =>
           go_wp2_with fail
           go_ret
           exact ⟨rfl, HB⟩
      case true =>
        have HV := Lib.hid hv; clear hv
        refine (specSetValid_any _ xs _ ia true HV.out).mono ?_
        rintro e w5 ⟨rfl, hw5⟩
        have hb5 := drawn_below hw5
        replace HB := below_step HB hb5 HB.size
        replace ia := ia.below hb5
        replace ib := ib.below hb5
        replace iu := iu.below hb5
        replace iz := iz.below hb5
        clear hw5 hb5
        as_aux_lemma =>
         go_wp2_with fail
         cases hu : setValid ys
         case false =>
           have HU := Lib.hid hu; clear hu
           refine (specSetValid_any _ ys _ ib false HU.out).mono ?_
           rintro e w6 ⟨rfl, hw6⟩
           have hb6 := drawn_below hw6
           replace HB := below_step HB hb6 HB.size
           replace ia := ia.below hb6
           replace ib := ib.below hb6
           replace iu := iu.below hb6
           replace iz := iz.below hb6
           clear hw6 hb6
           as_aux_lemma =>
            go_wp2_with fail
            refine (specSetUnion_any _ _ xs ys _ _ ia ib rfl).mono ?_
            rintro e w7 ⟨z2, rfl, iz2, hb7⟩
            replace HB := below_step HB hb7 HB.size
            replace ia := ia.below hb7
            replace ib := ib.below hb7
            replace iu := iu.below hb7
            replace iz := iz.below hb7
            replace iz2 := iz2.ints
            clear hb7
            as_aux_lemma =>
             go_wp2_with fail
             refine (sameInts_any _ _ _ _ _ iu iz2 true (by simp)).mono ?_
             rintro e w8 ⟨rfl, hw8⟩
             have hb8 := drawn_below hw8
             replace HB := below_step HB hb8 HB.size
             replace ia := ia.below hb8
             replace ib := ib.below hb8
             replace iu := iu.below hb8
             replace iz := iz.below hb8
             replace iz2 := iz2.below hb8
             clear hw8 hb8
             as_aux_lemma =>
              go_wp2_with fail
              go_ret
              exact ⟨rfl, HB⟩
         case true =>
           have HU := Lib.hid hu; clear hu
           refine (specSetValid_any _ ys _ ib true HU.out).mono ?_
           rintro e w6 ⟨rfl, hw6⟩
           have hb6 := drawn_below hw6
           replace HB := below_step HB hb6 HB.size
           replace ia := ia.below hb6
           replace ib := ib.below hb6
           replace iu := iu.below hb6
           replace iz := iz.below hb6
           clear hw6 hb6
           as_aux_lemma =>
            go_wp2_with fail
            obtain ⟨s1, s2⟩ := sizes xs (valid_mem HV.out) ys (valid_mem HU.out)
            rw [← uniL_yes HV.out HU.out, ← interL_yes HV.out HU.out] at s1 s2
            have e1 : (((uniL xs ys).length : Int) + (interL xs ys).length == (xs.length : Int) + ys.length) = true := by rw [beq_iff_eq]; omega
            have m1 : Hid (maskR (uniL xs ys) = maskL (uniL xs ys)) := by show _ = _; rw [mask_same]; simp [maskS, uniL_valid HV.out HU.out]
            have m2 : Hid (maskR (interL xs ys) = maskL (interL xs ys)) := by show _ = _; rw [mask_same]; simp [maskS, interL_valid HV.out HU.out]
            have m3 : Hid (maskR xs = maskL xs) := by show _ = _; rw [mask_same]; simp [maskS, HV.out]
            have m4 : Hid (maskR ys = maskL ys) := by show _ = _; rw [mask_same]; simp [maskS, HU.out]
            obtain ⟨t1, t2⟩ := maskL_range (valid_small (uniL_valid HV.out HU.out)).1
            obtain ⟨t3, t4⟩ := maskL_range (valid_small (interL_valid HV.out HU.out)).1
            obtain ⟨t5, t6⟩ := maskL_range (valid_small HV.out).1
            obtain ⟨t7, t8⟩ := maskL_range (valid_small HU.out).1
            have l1 := (valid_small (uniL_valid HV.out HU.out)).2
            have l2 := (valid_small (interL_valid HV.out HU.out)).2
            have l3 := (valid_small HV.out).2
            have l4 := (valid_small HU.out).2
            have e2 : (maskL (uniL xs ys) + maskL (interL xs ys) == maskL xs + maskL ys) = true := by rw [beq_iff_eq]; omega
            have S1 := Lib.hid s1; clear s1
            have S2 := Lib.hid s2; clear s2
            obtain ⟨aa, ca, hva, _, _⟩ := ia.open
            obtain ⟨ab, cb, hvb, _, _⟩ := ib.open
            obtain ⟨au, cu, hvu, _, _⟩ := iu.open
            subst hva
            subst hvb
            subst hvu
            refine (implSetIntersect_any _ _ xs ys _ _ ia ib (comb_inter xs ys)).mono ?_
            rintro e w7 ⟨vc, rfl, ic, hb7⟩
            replace HB := below_step HB hb7 HB.size
            replace ia := ia.below hb7
            replace ib := ib.below hb7
            replace iu := iu.below hb7
            replace iz := iz.below hb7
            replace ic := ic.ints
            clear hb7
            obtain ⟨a_vc, c_vc, hv_vc, _, _⟩ := ic.open
            subst hv_vc
            as_aux_lemma =>
             go_wp2_with fail
             refine (implSetMask_any _ _ _ iu _ m1.out).mono ?_
             rintro e w' ⟨rfl, rfl⟩
             as_aux_lemma =>
              go_wp2_with fail
              refine (implSetMask_any _ _ _ ic _ m2.out).mono ?_
              rintro e w' ⟨rfl, rfl⟩
              as_aux_lemma =>
               go_wp2_with fail
               refine (implSetMask_any _ _ _ ia _ m3.out).mono ?_
               rintro e w' ⟨rfl, rfl⟩
               as_aux_lemma =>
                go_wp2_with fail
                refine (implSetMask_any _ _ _ ib _ m4.out).mono ?_
                rintro e w' ⟨rfl, rfl⟩
                as_aux_lemma =>
                 go_wp2_with fail
                 go_ret
                 exact ⟨rfl, HB⟩

/-! ### THE ROW's STEP -/
set_option maxRecDepth 100000 in
theorem lifted (os : Os) (started : os.Started) (H : Type) (enc : TypeId × Value → H) :
    ReturnsInHanded {} Try.checked os 17 .any (Rows.fnUnionSizeSpec.pre6 enc Try.prog Try.f17 Rows.fnUnionSizeRow.domain false) (Rows.fnUnionSizeSpec.post enc Try.prog Try.f17 false true false false) := by
  refine returnsInHanded_of_change (C := Try.checked) own started (by kernel_rfl) Try.func17
    (ChangeSpec.witness6 (enc := enc) (C := Try.checked) false ⟨#[], #[.slice none 0 0], []⟩ 8 (by kernel_rfl) (by kernel_rfl) (by kernel_rfl) (by kernel_rfl)) ?_
  intro W base args ds gs before hval0 hW hcnd _
  have hval : ∀ (j : Nat) t v, Try.f17.params[j]? = some t → args[j]? = some v → Value.okWide Try.prog W .any base t v := hval0
  have hW' := hW
  obtain ⟨p, q, hA0, hV, rfl, hfz, hnd⟩ := hW
  have hA : DataW.TrodAll enc Try.prog W 0 (fun _ => true) true Try.f17.params.toList args.toList ds p := hA0
  rw [Try.params17] at hA hval
  obtain ⟨v0, vs0, d0, ds0, p0, q0, hargs, rfl, rfl, h0, r0⟩ := trodAll_cons hA
  obtain ⟨rfl, rfl, rfl⟩ := trodAll_nil r0
  obtain rfl : args = #[v0] := by cases args; simp_all
  obtain ⟨rfl, rfl⟩ := trodVars_none hV
  obtain ⟨n0, b0⟩ := bytes_in (hval 0 _ v0 rfl rfl) h0
  have lt0 := lt_in h0
  clear hA0 hval0
  refine (walk_at W v0 n0 b0).mono fun e W' ⟨he, bel⟩ => ?_
  subst he
  exact ⟨_, rfl, _, _, _, [], _, [], hW', trodAll_mk1 (shut_bool Try.underlying4 _), (trodAll_cons_mk (Below.trod laidOut (by kernel_rfl) (of_decide_eq_true (by kernel_rfl)) h0 bel lt0) trodAll_mk0), rfl, bel.frame _, fun h => by cases h⟩

set_option maxRecDepth 100000 in
theorem closed : joinedFacts Try.prog 17 Try.f17 Rows.fnUnionSizeSpec Rows.fnUnionSizeRow = true := by
  unfold joinedFacts
  rw [may, lifts, mk]
  kernel_rfl
theorem over : Rows.fnUnionSizeRow.holds Try.pinned (OpenSpec.ofChange Rows.fnUnionSizeSpec) :=
  OpenClaim.holds_of_wide 17 Try.f17 rfl rfl rfl rfl rfl rfl rfl ⟨rfl, rfl, rfl, rfl, rfl⟩ rfl rfl rfl rfl rfl (by as_aux_lemma => kernel_rfl) Try.func17 closed
    (of_decide_eq_true (by as_aux_lemma => kernel_rfl)) (by unfold Func.isWrapper; rw [if_neg (of_decide_eq_false (by as_aux_lemma => kernel_rfl))]; exact ⟨rfl, rfl⟩)
    (fun os started H enc _ => lifted os started H enc)

/-- THE STATEMENT -/
theorem proved : Rows.FnUnionSizeSaid := over
end Go.Proofs.Ytgipgfhnkkpdkaa.fnUnionSize
