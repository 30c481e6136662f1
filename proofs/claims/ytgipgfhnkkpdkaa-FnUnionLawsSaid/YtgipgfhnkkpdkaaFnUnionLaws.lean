/-
  For any two codes the law FnUnionLaws returns true, and what it was given reads afterwards as before. No condition.
-/
import Derived.Test.YtgipgfhnkkpdkaaFrame
import Derived.Test.YtgipgfhnkkpdkaaLawKit
namespace Go.Proofs.Ytgipgfhnkkpdkaa.fnUnionLaws
open Go.ChangeShapes Go.WideShapes Go.ChangeAt Go.RowKit
open Go.ChangeMaps (open_string shut_string)
set_option linter.unusedVariables false

set_option maxHeartbeats 4000000 in
theorem walk_at (w : World) (v0 : Value) (n0 : Nat) (b0 : Bytes w 0 w.heap.size v0 n0) (v1 : Value) (n1 : Nat) (b1 : Bytes w 0 w.heap.size v1 n1) :
    Calls Try.prog 16 #[v0, v1] w fun e w' => e = .returned (.bool true) ∧ Below w.heap.size w w' := by
  obtain ⟨a0, c0, hv0, hn0, _⟩ := b0.open
  subst hv0
  obtain ⟨a1, c1, hv1, hn1, _⟩ := b1.open
  subst hv1
  by_cases big0 : n0 ≤ 1048576
  case neg =>
    go_enter Try.func16, Try.ntmps16
    go_wp2_with fail
    go_ret
    exact ⟨rfl, Below.refl _ _⟩
  by_cases big1 : n1 ≤ 1048576
  case neg =>
    go_enter Try.func16, Try.ntmps16
    go_wp2_with fail
    go_ret
    exact ⟨rfl, Below.refl _ _⟩
  go_enter Try.func16, Try.ntmps16
  go_wp2_with fail
  have HB : Below w.heap.size w w := Below.refl _ _
  refine (DrawSetUnion_any _ n0 _ b0).mono ?_
  rintro e w1 ⟨va, vb, xs, ys, rfl, ia, ib, ta, tb, hb1⟩
  replace HB := below_step HB hb1 HB.size
  clear hb1
  as_aux_lemma =>
   go_wp2_with fail
   refine (implSetUnion_any _ _ xs ys _ _ ia ib (comb_union xs ys)).mono ?_
   rintro e w2 ⟨u, rfl, iu, hb2⟩
   replace HB := below_step HB hb2 HB.size
   replace ia := ia.below hb2
   replace ib := ib.below hb2
   replace iu := iu.ints
   clear hb2
   as_aux_lemma =>
    go_wp2_with fail
    refine (specSetUnion_any _ _ xs ys _ _ ia ib rfl).mono ?_
    rintro e w3 ⟨z, rfl, iz, hb3⟩
    replace HB := below_step HB hb3 HB.size
    replace ia := ia.below hb3
    replace ib := ib.below hb3
    replace iu := iu.below hb3
    replace iz := iz.ints
    clear hb3
    as_aux_lemma =>
     go_wp2_with fail
     refine (sameInts_any _ _ _ _ _ iu iz true (by simp)).mono ?_
     rintro e w4 ⟨rfl, hw4⟩
     have hb4 := drawn_below hw4
     replace HB := below_step HB hb4 HB.size
     replace ia := ia.below hb4
     replace ib := ib.below hb4
     replace iu := iu.below hb4
     replace iz := iz.below hb4
     clear hw4 hb4
     as_aux_lemma =>
      go_wp2_with fail
      cases hv : setValid xs
      case false =>
        have HV := Lib.hid hv; clear hv
        refine (specSetValid_any _ xs _ ia false HV.out).mono ?_
        rintro e w5 ⟨rfl, hw5⟩
        have hb5 := drawn_below hw5
        replace HB := below_step HB hb5 HB.size
        replace ia := ia.below hb5
        replace ib := ib.below hb5
        replace iu := iu.below hb5
        replace iz := iz.below hb5
        clear hw5 hb5
        as_aux_lemma =>
         go_wp2_with fail
         refine (specSetUnion_any _ _ xs ys _ _ ia ib rfl).mono ?_
         rintro e w6 ⟨z2, rfl, iz2, hb6⟩
         replace HB := below_step HB hb6 HB.size
         replace ia := ia.below hb6
         replace ib := ib.below hb6
         replace iu := iu.below hb6
         replace iz := iz.below hb6
         replace iz2 := iz2.ints
         clear hb6
         as_aux_lemma =>
          go_wp2_with fail
          refine (sameInts_any _ _ _ _ _ iu iz2 true (by simp)).mono ?_
          rintro e w7 ⟨rfl, hw7⟩
          have hb7 := drawn_below hw7
          replace HB := below_step HB hb7 HB.size
          replace ia := ia.below hb7
          replace ib := ib.below hb7
          replace iu := iu.below hb7
          replace iz := iz.below hb7
          replace iz2 := iz2.below hb7
          clear hw7 hb7
          as_aux_lemma =>
           go_wp2_with fail
           go_ret
           exact ⟨rfl, HB⟩
      case true =>
        have HV := Lib.hid hv; clear hv
        refine (specSetValid_any _ xs _ ia true HV.out).mono ?_
        rintro e w5 ⟨rfl, hw5⟩
        have hb5 := drawn_below hw5
        replace HB := below_step HB hb5 HB.size
        replace ia := ia.below hb5
        replace ib := ib.below hb5
        replace iu := iu.below hb5
        replace iz := iz.below hb5
        clear hw5 hb5
        as_aux_lemma =>
         go_wp2_with fail
         cases hu : setValid ys
         case false =>
           have HU := Lib.hid hu; clear hu
           refine (specSetValid_any _ ys _ ib false HU.out).mono ?_
           rintro e w6 ⟨rfl, hw6⟩
           have hb6 := drawn_below hw6
           replace HB := below_step HB hb6 HB.size
           replace ia := ia.below hb6
           replace ib := ib.below hb6
           replace iu := iu.below hb6
           replace iz := iz.below hb6
           clear hw6 hb6
           as_aux_lemma =>
            go_wp2_with fail
            refine (specSetUnion_any _ _ xs ys _ _ ia ib rfl).mono ?_
            rintro e w7 ⟨z2, rfl, iz2, hb7⟩
            replace HB := below_step HB hb7 HB.size
            replace ia := ia.below hb7
            replace ib := ib.below hb7
            replace iu := iu.below hb7
            replace iz := iz.below hb7
            replace iz2 := iz2.ints
            clear hb7
            as_aux_lemma =>
             go_wp2_with fail
             refine (sameInts_any _ _ _ _ _ iu iz2 true (by simp)).mono ?_
             rintro e w8 ⟨rfl, hw8⟩
             have hb8 := drawn_below hw8
             replace HB := below_step HB hb8 HB.size
             replace ia := ia.below hb8
             replace ib := ib.below hb8
             replace iu := iu.below hb8
             replace iz := iz.below hb8
             replace iz2 := iz2.below hb8
             clear hw8 hb8
             as_aux_lemma =>
              go_wp2_with fail
              go_ret
              exact ⟨rfl, HB⟩
         case true =>
           have HU := Lib.hid hu; clear hu
           refine (specSetValid_any _ ys _ ib true HU.out).mono ?_
           rintro e w6 ⟨rfl, hw6⟩
           have hb6 := drawn_below hw6
           replace HB := below_step HB hb6 HB.size
           replace ia := ia.below hb6
           replace ib := ib.below hb6
           replace iu := iu.below hb6
           replace iz := iz.below hb6
           clear hw6 hb6
           as_aux_lemma =>
            go_wp2_with fail
            have HC := Lib.hid (bits_valid' (m := (n1 : Int) * 37 % 64) (inB_mk (by omega) (by omega)))
            refine (setOf_any _ _ (by omega) (by omega) _ rfl).mono ?_
            rintro e w7 ⟨vc, rfl, ic, hb7⟩
            replace HB := below_step HB hb7 HB.size
            replace ia := ia.below hb7
            replace ib := ib.below hb7
            replace iu := iu.below hb7
            replace iz := iz.below hb7
            replace ic := ic.ints
            clear hb7
            as_aux_lemma =>
             go_wp2_with fail
             refine (implSetUnion_any _ _ ys xs _ _ ib ia ((comb_union ys xs).trans (uni_comm HV.out HU.out))).mono ?_
             rintro e w8 ⟨u2, rfl, iu2, hb8⟩
             replace HB := below_step HB hb8 HB.size
             replace ia := ia.below hb8
             replace ib := ib.below hb8
             replace iu := iu.below hb8
             replace iz := iz.below hb8
             replace ic := ic.below hb8
             replace iu2 := iu2.ints
             clear hb8
             as_aux_lemma =>
              go_wp2_with fail
              refine (sameInts_any _ _ _ _ _ iu2 iu true (by simp)).mono ?_
              rintro e w9 ⟨rfl, hw9⟩
              have hb9 := drawn_below hw9
              replace HB := below_step HB hb9 HB.size
              replace ia := ia.below hb9
              replace ib := ib.below hb9
              replace iu := iu.below hb9
              replace iz := iz.below hb9
              replace ic := ic.below hb9
              replace iu2 := iu2.below hb9
              clear hw9 hb9
              as_aux_lemma =>
               go_wp2_with fail
               refine (implSetUnion_any _ _ _ _ _ _ iu ic (comb_union _ _)).mono ?_
               rintro e w10 ⟨u3, rfl, iu3, hb10⟩
               replace HB := below_step HB hb10 HB.size
               replace ia := ia.below hb10
               replace ib := ib.below hb10
               replace iu := iu.below hb10
               replace iz := iz.below hb10
               replace ic := ic.below hb10
               replace iu2 := iu2.below hb10
               replace iu3 := iu3.ints
               clear hb10
               as_aux_lemma =>
                go_wp2_with fail
                refine (implSetUnion_any _ _ _ _ _ _ ib ic (comb_union _ _)).mono ?_
                rintro e w11 ⟨u4, rfl, iu4, hb11⟩
                replace HB := below_step HB hb11 HB.size
                replace ia := ia.below hb11
                replace ib := ib.below hb11
                replace iu := iu.below hb11
                replace iz := iz.below hb11
                replace ic := ic.below hb11
                replace iu2 := iu2.below hb11
                replace iu3 := iu3.below hb11
                replace iu4 := iu4.ints
                clear hb11
                as_aux_lemma =>
                 go_wp2_with fail
                 refine (implSetUnion_any _ _ _ _ _ _ ia iu4 ((comb_union _ _).trans (uni_assoc HV.out HU.out HC.out).symm)).mono ?_
                 rintro e w12 ⟨u5, rfl, iu5, hb12⟩
                 replace HB := below_step HB hb12 HB.size
                 replace ia := ia.below hb12
                 replace ib := ib.below hb12
                 replace iu := iu.below hb12
                 replace iz := iz.below hb12
                 replace ic := ic.below hb12
                 replace iu2 := iu2.below hb12
                 replace iu3 := iu3.below hb12
                 replace iu4 := iu4.below hb12
                 replace iu5 := iu5.ints
                 clear hb12
                 as_aux_lemma =>
                  go_wp2_with fail
                  refine (sameInts_any _ _ _ _ _ iu3 iu5 true (by simp)).mono ?_
                  rintro e w13 ⟨rfl, hw13⟩
                  have hb13 := drawn_below hw13
                  replace HB := below_step HB hb13 HB.size
                  replace ia := ia.below hb13
                  replace ib := ib.below hb13
                  replace iu := iu.below hb13
                  replace iz := iz.below hb13
                  replace ic := ic.below hb13
                  replace iu2 := iu2.below hb13
                  replace iu3 := iu3.below hb13
                  replace iu4 := iu4.below hb13
                  replace iu5 := iu5.below hb13
                  clear hw13 hb13
                  as_aux_lemma =>
                   go_wp2_with fail
                   refine (implSetUnion_any _ _ _ _ _ _ ia ia ((comb_union _ _).trans (uni_self HV.out))).mono ?_
                   rintro e w14 ⟨u6, rfl, iu6, hb14⟩
                   replace HB := below_step HB hb14 HB.size
                   replace ia := ia.below hb14
                   replace ib := ib.below hb14
                   replace iu := iu.below hb14
                   replace iz := iz.below hb14
                   replace ic := ic.below hb14
                   replace iu2 := iu2.below hb14
                   replace iu3 := iu3.below hb14
                   replace iu4 := iu4.below hb14
                   replace iu5 := iu5.below hb14
                   replace iu6 := iu6.ints
                   clear hb14
                   as_aux_lemma =>
                    go_wp2_with fail
                    refine (sameInts_any _ _ _ _ _ iu6 ia true (by simp)).mono ?_
                    rintro e w15 ⟨rfl, hw15⟩
                    have hb15 := drawn_below hw15
                    replace HB := below_step HB hb15 HB.size
                    replace ia := ia.below hb15
                    replace ib := ib.below hb15
                    replace iu := iu.below hb15
                    replace iz := iz.below hb15
                    replace ic := ic.below hb15
                    replace iu2 := iu2.below hb15
                    replace iu3 := iu3.below hb15
                    replace iu4 := iu4.below hb15
                    replace iu5 := iu5.below hb15
                    replace iu6 := iu6.below hb15
                    clear hw15 hb15
                    as_aux_lemma =>
                     go_wp2_with fail
                     refine (implSetUnion_any _ _ _ _ _ _ ia (Ints.nil _) ((comb_union _ _).trans (uni_nil HV.out))).mono ?_
                     rintro e w16 ⟨u7, rfl, iu7, hb16⟩
                     replace HB := below_step HB hb16 HB.size
                     replace ia := ia.below hb16
                     replace ib := ib.below hb16
                     replace iu := iu.below hb16
                     replace iz := iz.below hb16
                     replace ic := ic.below hb16
                     replace iu2 := iu2.below hb16
                     replace iu3 := iu3.below hb16
                     replace iu4 := iu4.below hb16
                     replace iu5 := iu5.below hb16
                     replace iu6 := iu6.below hb16
                     replace iu7 := iu7.ints
                     clear hb16
                     as_aux_lemma =>
                      go_wp2_with fail
                      refine (sameInts_any _ _ _ _ _ iu7 ia true (by simp)).mono ?_
                      rintro e w17 ⟨rfl, hw17⟩
                      have hb17 := drawn_below hw17
                      replace HB := below_step HB hb17 HB.size
                      replace ia := ia.below hb17
                      replace ib := ib.below hb17
                      replace iu := iu.below hb17
                      replace iz := iz.below hb17
                      replace ic := ic.below hb17
                      replace iu2 := iu2.below hb17
                      replace iu3 := iu3.below hb17
                      replace iu4 := iu4.below hb17
                      replace iu5 := iu5.below hb17
                      replace iu6 := iu6.below hb17
                      replace iu7 := iu7.below hb17
                      clear hw17 hb17
                      as_aux_lemma =>
                       go_wp2_with fail
                       go_ret
                       exact ⟨rfl, HB⟩

/-! ### THE ROW's STEP -/
set_option maxRecDepth 100000 in
theorem lifted (os : Os) (started : os.Started) (H : Type) (enc : TypeId × Value → H) :
    ReturnsInHanded {} Try.checked os 16 .any (Rows.fnUnionLawsSpec.pre6 enc Try.prog Try.f16 Rows.fnUnionLawsRow.domain false) (Rows.fnUnionLawsSpec.post enc Try.prog Try.f16 false true false false) := by
  refine returnsInHanded_of_change (C := Try.checked) own started (by kernel_rfl) Try.func16
    (ChangeSpec.witness6 (enc := enc) (C := Try.checked) false ⟨#[], #[.slice none 0 0, .slice none 0 0], []⟩ 8 (by kernel_rfl) (by kernel_rfl) (by kernel_rfl) (by kernel_rfl)) ?_
  intro W base args ds gs before hval0 hW hcnd _
  have hval : ∀ (j : Nat) t v, Try.f16.params[j]? = some t → args[j]? = some v → Value.okWide Try.prog W .any base t v := hval0
  have hW' := hW
  obtain ⟨p, q, hA0, hV, rfl, hfz, hnd⟩ := hW
  have hA : DataW.TrodAll enc Try.prog W 0 (fun _ => true) true Try.f16.params.toList args.toList ds p := hA0
  rw [Try.params16] at hA hval
  obtain ⟨v0, vs0, d0, ds0, p0, q0, hargs, rfl, rfl, h0, r0⟩ := trodAll_cons hA
  obtain ⟨v1, vs1, d1, ds1, p1, q1, rfl, rfl, rfl, h1, r1⟩ := trodAll_cons r0
  obtain ⟨rfl, rfl, rfl⟩ := trodAll_nil r1
  obtain rfl : args = #[v0, v1] := by cases args; simp_all
  obtain ⟨rfl, rfl⟩ := trodVars_none hV
  obtain ⟨n0, b0⟩ := bytes_in (hval 0 _ v0 rfl rfl) h0
  have lt0 := lt_in h0
  obtain ⟨n1, b1⟩ := bytes_in (hval 1 _ v1 rfl rfl) h1
  have lt1 := lt_in h1
  clear hA0 hval0
  refine (walk_at W v0 n0 b0 v1 n1 b1).mono fun e W' ⟨he, bel⟩ => ?_
  subst he
  exact ⟨_, rfl, _, _, _, [], _, [], hW', trodAll_mk1 (shut_bool Try.underlying4 _), (trodAll_cons_mk (Below.trod laidOut (by kernel_rfl) (of_decide_eq_true (by kernel_rfl)) h0 bel lt0) (trodAll_cons_mk (Below.trod laidOut (by kernel_rfl) (of_decide_eq_true (by kernel_rfl)) h1 bel lt1) trodAll_mk0)), rfl, bel.frame _, fun h => by cases h⟩

set_option maxRecDepth 100000 in
theorem closed : joinedFacts Try.prog 16 Try.f16 Rows.fnUnionLawsSpec Rows.fnUnionLawsRow = true := by
  unfold joinedFacts
  rw [may, lifts, mk]
  kernel_rfl
theorem over : Rows.fnUnionLawsRow.holds Try.pinned (OpenSpec.ofChange Rows.fnUnionLawsSpec) :=
  OpenClaim.holds_of_wide 16 Try.f16 rfl rfl rfl rfl rfl rfl rfl ⟨rfl, rfl, rfl, rfl, rfl⟩ rfl rfl rfl rfl rfl (by as_aux_lemma => kernel_rfl) Try.func16 closed
    (of_decide_eq_true (by as_aux_lemma => kernel_rfl)) (by unfold Func.isWrapper; rw [if_neg (of_decide_eq_false (by as_aux_lemma => kernel_rfl))]; exact ⟨rfl, rfl⟩)
    (fun os started H enc _ => lifted os started H enc)

/-- THE STATEMENT -/
theorem proved : Rows.FnUnionLawsSaid := over
end Go.Proofs.Ytgipgfhnkkpdkaa.fnUnionLaws
