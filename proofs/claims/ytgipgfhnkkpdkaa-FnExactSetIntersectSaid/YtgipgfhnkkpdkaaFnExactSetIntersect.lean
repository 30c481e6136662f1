/-
  For all arguments the law FnExactSetIntersect returns true: the program's function and the reference's agree, arguments are left alone, results are new memory. No condition.
-/
import Derived.Test.YtgipgfhnkkpdkaaFrame
import Derived.Test.YtgipgfhnkkpdkaaLawKit
namespace Go.Proofs.Ytgipgfhnkkpdkaa.fnExactSetIntersect
open Go.ChangeShapes Go.WideShapes Go.ChangeAt Go.RowKit
open Go.ChangeMaps (open_string shut_string)
set_option linter.unusedVariables false

set_option maxHeartbeats 4000000 in
theorem walk_at (w : World) (v0 : Value) (xs0 : List Int) (b0 : Ints w 0 w.heap.size v0 xs0) (wx0 : ∀ x ∈ xs0, I64 x) (v1 : Value) (xs1 : List Int) (b1 : Ints w 0 w.heap.size v1 xs1) (wx1 : ∀ x ∈ xs1, I64 x) :
    Calls Try.prog 12 #[v0, v1] w fun e w' => e = .returned (.bool true) ∧ Below w.heap.size w w' := by
  obtain ⟨a0, c0, hv0, hn0, _⟩ := b0.open
  subst hv0
  have WX0 := Lib.hid wx0; clear wx0
  obtain ⟨a1, c1, hv1, hn1, _⟩ := b1.open
  subst hv1
  have WX1 := Lib.hid wx1; clear wx1
  by_cases big0 : xs0.length ≤ 1048576
  case neg =>
    go_enter Try.func12, Try.ntmps12
    go_wp2_with fail
    go_ret
    exact ⟨rfl, Below.refl _ _⟩
  by_cases big1 : xs1.length ≤ 1048576
  case neg =>
    go_enter Try.func12, Try.ntmps12
    go_wp2_with fail
    go_ret
    exact ⟨rfl, Below.refl _ _⟩
  have hl : (interL xs0 xs1).length ≤ 6 := by rw [← comb_inter]; unfold combL; split; exact memTo_len _ _; simp
  generalize hZ : interL xs0 xs1 = zs at *
  have HZ := Lib.hid hZ; clear hZ
  go_enter Try.func12, Try.ntmps12
  go_wp2_with fail
  have HB : Below w.heap.size w w := Below.refl _ _
  refine (toIntS_any _ xs0 _ b0 big0).mono ?_
  rintro e w1 ⟨y0, rfl, o0, hb1⟩
  have hs1 := hb1.size
  replace HB := below_step HB hb1 HB.size
  replace b0 := b0.below hb1
  replace b1 := b1.below hb1
  clear hb1
  as_aux_lemma =>
   go_wp2_with fail
   refine (toIntS_any _ xs1 _ b1 big1).mono ?_
   rintro e w2 ⟨y1, rfl, o1, hb2⟩
   have hs2 := hb2.size
   replace HB := below_step HB hb2 HB.size
   replace b0 := b0.below hb2
   replace b1 := b1.below hb2
   replace o0 := o0.below hb2
   clear hb2
   as_aux_lemma =>
    go_wp2_with fail
    refine (specSetIntersect_any _ _ xs0 xs1 zs _ o0.ints o1.ints HZ.out (by omega)).mono ?_
    rintro e w3 ⟨v0, rfl, p0, hb3⟩
    have hs3 := hb3.size
    replace HB := below_step HB hb3 HB.size
    replace b0 := b0.below hb3
    replace b1 := b1.below hb3
    replace o0 := o0.below hb3
    replace o1 := o1.below hb3
    clear hb3
    as_aux_lemma =>
     go_wp2_with fail
     refine (toIntS_any _ xs0 _ b0 big0).mono ?_
     rintro e w4 ⟨y2, rfl, o2, hb4⟩
     have hs4 := hb4.size
     replace HB := below_step HB hb4 HB.size
     replace b0 := b0.below hb4
     replace b1 := b1.below hb4
     replace o0 := o0.below hb4
     replace o1 := o1.below hb4
     replace p0 := p0.below hb4
     clear hb4
     as_aux_lemma =>
      go_wp2_with fail
      refine (toIntS_any _ xs1 _ b1 big1).mono ?_
      rintro e w5 ⟨y3, rfl, o3, hb5⟩
      have hs5 := hb5.size
      replace HB := below_step HB hb5 HB.size
      replace b0 := b0.below hb5
      replace b1 := b1.below hb5
      replace o0 := o0.below hb5
      replace o1 := o1.below hb5
      replace p0 := p0.below hb5
      replace o2 := o2.below hb5
      clear hb5
      as_aux_lemma =>
       go_wp2_with fail
       refine (implSetIntersect_any _ _ xs0 xs1 zs _ o2.ints o3.ints ((comb_inter xs0 xs1).trans HZ.out)).mono ?_
       rintro e w6 ⟨v1, rfl, p1, hb6⟩
       have hs6 := hb6.size
       replace HB := below_step HB hb6 HB.size
       replace b0 := b0.below hb6
       replace b1 := b1.below hb6
       replace o0 := o0.below hb6
       replace o1 := o1.below hb6
       replace p0 := p0.below hb6
       replace o2 := o2.below hb6
       replace o3 := o3.below hb6
       clear hb6
       as_aux_lemma =>
        go_wp2_with fail
        refine (eqIntS_any _ _ _ _ _ p1.ints p0.ints true (by simp)).mono ?_
        rintro e w7 ⟨rfl, hw7⟩
        have hb7 := drawn_below hw7
        have hs7 := hb7.size
        replace HB := below_step HB hb7 HB.size
        replace b0 := b0.below hb7
        replace b1 := b1.below hb7
        replace o0 := o0.below hb7
        replace o1 := o1.below hb7
        replace p0 := p0.below hb7
        replace o2 := o2.below hb7
        replace o3 := o3.below hb7
        replace p1 := p1.below hb7
        clear hw7 hb7
        as_aux_lemma =>
         go_wp2_with fail
         refine (toIntS_any _ xs0 _ b0 big0).mono ?_
         rintro e w8 ⟨y4, rfl, o4, hb8⟩
         have hs8 := hb8.size
         replace HB := below_step HB hb8 HB.size
         replace b0 := b0.below hb8
         replace b1 := b1.below hb8
         replace o0 := o0.below hb8
         replace o1 := o1.below hb8
         replace p0 := p0.below hb8
         replace o2 := o2.below hb8
         replace o3 := o3.below hb8
         replace p1 := p1.below hb8
         clear hb8
         as_aux_lemma =>
          go_wp2_with fail
          refine (eqIntS_any _ _ _ _ _ o2.ints o4.ints true (by simp)).mono ?_
          rintro e w9 ⟨rfl, hw9⟩
          have hb9 := drawn_below hw9
          have hs9 := hb9.size
          replace HB := below_step HB hb9 HB.size
          replace b0 := b0.below hb9
          replace b1 := b1.below hb9
          replace o0 := o0.below hb9
          replace o1 := o1.below hb9
          replace p0 := p0.below hb9
          replace o2 := o2.below hb9
          replace o3 := o3.below hb9
          replace p1 := p1.below hb9
          replace o4 := o4.below hb9
          clear hw9 hb9
          as_aux_lemma =>
           go_wp2_with fail
           refine (toIntS_any _ xs1 _ b1 big1).mono ?_
           rintro e w10 ⟨y5, rfl, o5, hb10⟩
           have hs10 := hb10.size
           replace HB := below_step HB hb10 HB.size
           replace b0 := b0.below hb10
           replace b1 := b1.below hb10
           replace o0 := o0.below hb10
           replace o1 := o1.below hb10
           replace p0 := p0.below hb10
           replace o2 := o2.below hb10
           replace o3 := o3.below hb10
           replace p1 := p1.below hb10
           replace o4 := o4.below hb10
           clear hb10
           as_aux_lemma =>
            go_wp2_with fail
            refine (eqIntS_any _ _ _ _ _ o3.ints o5.ints true (by simp)).mono ?_
            rintro e w11 ⟨rfl, hw11⟩
            have hb11 := drawn_below hw11
            have hs11 := hb11.size
            replace HB := below_step HB hb11 HB.size
            replace b0 := b0.below hb11
            replace b1 := b1.below hb11
            replace o0 := o0.below hb11
            replace o1 := o1.below hb11
            replace p0 := p0.below hb11
            replace o2 := o2.below hb11
            replace o3 := o3.below hb11
            replace p1 := p1.below hb11
            replace o4 := o4.below hb11
            replace o5 := o5.below hb11
            clear hw11 hb11
            as_aux_lemma =>
             go_wp2_with fail
             refine (markIntS_any _ xs0 1 _ o2 (by omega) (by omega)).mono ?_
             rintro e w12 ⟨rfl, hm12, hk12⟩
             replace HB := HB.trans (hk12.below (B := w.heap.size) (by omega) HB.size)
             have hs12 := hk12.size
             replace b0 := b0.keep hk12 (by omega)
             replace b1 := b1.keep hk12 (by omega)
             replace o0 := o0.keep hk12 (by omega)
             replace o1 := o1.keep hk12 (by omega)
             replace p0 := p0.keep hk12 (by omega)
             replace o3 := o3.keep hk12 (by omega)
             replace p1 := p1.keep hk12 (by omega)
             replace o4 := o4.keep hk12 (by omega)
             replace o5 := o5.keep hk12 (by omega)
             replace o2 := hm12
             clear hm12 hk12
             as_aux_lemma =>
              go_wp2_with fail
              refine (markIntS_any _ xs1 (1 + xs0.length) _ o3 (by omega) (by omega)).mono ?_
              rintro e w13 ⟨rfl, hm13, hk13⟩
              replace HB := HB.trans (hk13.below (B := w.heap.size) (by omega) HB.size)
              have hs13 := hk13.size
              replace b0 := b0.keep hk13 (by omega)
              replace b1 := b1.keep hk13 (by omega)
              replace o0 := o0.keep hk13 (by omega)
              replace o1 := o1.keep hk13 (by omega)
              replace p0 := p0.keep hk13 (by omega)
              replace o2 := o2.keep hk13 (by omega)
              replace p1 := p1.keep hk13 (by omega)
              replace o4 := o4.keep hk13 (by omega)
              replace o5 := o5.keep hk13 (by omega)
              replace o3 := hm13
              clear hm13 hk13
              as_aux_lemma =>
               go_wp2_with fail
               refine (eqIntS_any _ _ _ _ _ p1.ints p0.ints true (by simp)).mono ?_
               rintro e w14 ⟨rfl, hw14⟩
               have hb14 := drawn_below hw14
               have hs14 := hb14.size
               replace HB := below_step HB hb14 HB.size
               replace b0 := b0.below hb14
               replace b1 := b1.below hb14
               replace o0 := o0.below hb14
               replace o1 := o1.below hb14
               replace p0 := p0.below hb14
               replace o2 := o2.below hb14
               replace o3 := o3.below hb14
               replace p1 := p1.below hb14
               replace o4 := o4.below hb14
               replace o5 := o5.below hb14
               clear hw14 hb14
               as_aux_lemma =>
                go_wp2_with fail
                refine (markIntS_any _ zs 1 _ p1 (by omega) (by omega)).mono ?_
                rintro e w15 ⟨rfl, hm15, hk15⟩
                replace HB := HB.trans (hk15.below (B := w.heap.size) (by omega) HB.size)
                have hs15 := hk15.size
                replace b0 := b0.keep hk15 (by omega)
                replace b1 := b1.keep hk15 (by omega)
                replace o0 := o0.keep hk15 (by omega)
                replace o1 := o1.keep hk15 (by omega)
                replace p0 := p0.keep hk15 (by omega)
                replace o2 := o2.keep hk15 (by omega)
                replace o3 := o3.keep hk15 (by omega)
                replace o4 := o4.keep hk15 (by omega)
                replace o5 := o5.keep hk15 (by omega)
                replace p1 := hm15
                clear hm15 hk15
                as_aux_lemma =>
                 go_wp2_with fail
                 refine (heldIntS_any _ zs.length 1 _ p1.ints (by omega) (by omega)).mono ?_
                 rintro e w' ⟨rfl, rfl⟩
                 as_aux_lemma =>
                  go_wp2_with fail
                  refine (toIntS_any _ xs0 _ b0 big0).mono ?_
                  rintro e w16 ⟨y6, rfl, o6, hb16⟩
                  have hs16 := hb16.size
                  replace HB := below_step HB hb16 HB.size
                  replace b0 := b0.below hb16
                  replace b1 := b1.below hb16
                  replace o0 := o0.below hb16
                  replace o1 := o1.below hb16
                  replace p0 := p0.below hb16
                  replace o2 := o2.below hb16
                  replace o3 := o3.below hb16
                  replace p1 := p1.below hb16
                  replace o4 := o4.below hb16
                  replace o5 := o5.below hb16
                  clear hb16
                  as_aux_lemma =>
                   go_wp2_with fail
                   refine (toIntS_any _ xs1 _ b1 big1).mono ?_
                   rintro e w17 ⟨y7, rfl, o7, hb17⟩
                   have hs17 := hb17.size
                   replace HB := below_step HB hb17 HB.size
                   replace b0 := b0.below hb17
                   replace b1 := b1.below hb17
                   replace o0 := o0.below hb17
                   replace o1 := o1.below hb17
                   replace p0 := p0.below hb17
                   replace o2 := o2.below hb17
                   replace o3 := o3.below hb17
                   replace p1 := p1.below hb17
                   replace o4 := o4.below hb17
                   replace o5 := o5.below hb17
                   replace o6 := o6.below hb17
                   clear hb17
                   as_aux_lemma =>
                    go_wp2_with fail
                    refine (implSetIntersect_any _ _ xs0 xs1 zs _ o6.ints o7.ints ((comb_inter xs0 xs1).trans HZ.out)).mono ?_
                    rintro e w18 ⟨v2, rfl, p2, hb18⟩
                    have hs18 := hb18.size
                    replace HB := below_step HB hb18 HB.size
                    replace b0 := b0.below hb18
                    replace b1 := b1.below hb18
                    replace o0 := o0.below hb18
                    replace o1 := o1.below hb18
                    replace p0 := p0.below hb18
                    replace o2 := o2.below hb18
                    replace o3 := o3.below hb18
                    replace p1 := p1.below hb18
                    replace o4 := o4.below hb18
                    replace o5 := o5.below hb18
                    replace o6 := o6.below hb18
                    replace o7 := o7.below hb18
                    clear hb18
                    as_aux_lemma =>
                     go_wp2_with fail
                     refine (eqIntS_any _ _ _ _ _ p2.ints p0.ints true (by simp)).mono ?_
                     rintro e w19 ⟨rfl, hw19⟩
                     have hb19 := drawn_below hw19
                     have hs19 := hb19.size
                     replace HB := below_step HB hb19 HB.size
                     replace b0 := b0.below hb19
                     replace b1 := b1.below hb19
                     replace o0 := o0.below hb19
                     replace o1 := o1.below hb19
                     replace p0 := p0.below hb19
                     replace o2 := o2.below hb19
                     replace o3 := o3.below hb19
                     replace p1 := p1.below hb19
                     replace o4 := o4.below hb19
                     replace o5 := o5.below hb19
                     replace o6 := o6.below hb19
                     replace o7 := o7.below hb19
                     replace p2 := p2.below hb19
                     clear hw19 hb19
                     as_aux_lemma =>
                      go_wp2_with fail
                      refine (heldIntS_any _ zs.length 1 _ p1.ints (by omega) (by omega)).mono ?_
                      rintro e w' ⟨rfl, rfl⟩
                      as_aux_lemma =>
                       go_wp2_with fail
                       go_ret
                       exact ⟨rfl, HB⟩

/-! ### THE ROW's STEP -/
set_option maxRecDepth 100000 in
theorem lifted (os : Os) (started : os.Started) (H : Type) (enc : TypeId × Value → H) :
    ReturnsInHanded {} Try.checked os 12 .any (Rows.fnExactSetIntersectSpec.pre6 enc Try.prog Try.f12 Rows.fnExactSetIntersectRow.domain false) (Rows.fnExactSetIntersectSpec.post enc Try.prog Try.f12 false true false false) := by
  refine returnsInHanded_of_change (C := Try.checked) own started (by kernel_rfl) Try.func12
    (ChangeSpec.witness6 (enc := enc) (C := Try.checked) false ⟨#[], #[.slice none 0 0, .slice none 0 0], []⟩ 8 (by kernel_rfl) (by kernel_rfl) (by kernel_rfl) (by kernel_rfl)) ?_
  intro W base args ds gs before hval0 hW hcnd _
  have hval : ∀ (j : Nat) t v, Try.f12.params[j]? = some t → args[j]? = some v → Value.okWide Try.prog W .any base t v := hval0
  have hW' := hW
  obtain ⟨p, q, hA0, hV, rfl, hfz, hnd⟩ := hW
  have hA : DataW.TrodAll enc Try.prog W 0 (fun _ => true) true Try.f12.params.toList args.toList ds p := hA0
  rw [Try.params12] at hA hval
  obtain ⟨v0, vs0, d0, ds0, p0, q0, hargs, rfl, rfl, h0, r0⟩ := trodAll_cons hA
  obtain ⟨v1, vs1, d1, ds1, p1, q1, rfl, rfl, rfl, h1, r1⟩ := trodAll_cons r0
  obtain ⟨rfl, rfl, rfl⟩ := trodAll_nil r1
  obtain rfl : args = #[v0, v1] := by cases args; simp_all
  obtain ⟨rfl, rfl⟩ := trodVars_none hV
  obtain ⟨xs0, b0, wx0⟩ := ints_in (hval 0 _ v0 rfl rfl) h0
  have lt0 := lt_in h0
  obtain ⟨xs1, b1, wx1⟩ := ints_in (hval 1 _ v1 rfl rfl) h1
  have lt1 := lt_in h1
  clear hA0 hval0
  refine (walk_at W v0 xs0 b0 wx0 v1 xs1 b1 wx1).mono fun e W' ⟨he, bel⟩ => ?_
  subst he
  exact ⟨_, rfl, _, _, _, [], _, [], hW', trodAll_mk1 (shut_bool Try.underlying4 _), (trodAll_cons_mk (Below.trod laidOut (by kernel_rfl) (of_decide_eq_true (by kernel_rfl)) h0 bel lt0) (trodAll_cons_mk (Below.trod laidOut (by kernel_rfl) (of_decide_eq_true (by kernel_rfl)) h1 bel lt1) trodAll_mk0)), rfl, bel.frame _, fun h => by cases h⟩

set_option maxRecDepth 100000 in
theorem closed : joinedFacts Try.prog 12 Try.f12 Rows.fnExactSetIntersectSpec Rows.fnExactSetIntersectRow = true := by
  unfold joinedFacts
  rw [may, lifts, mk]
  kernel_rfl
theorem over : Rows.fnExactSetIntersectRow.holds Try.pinned (OpenSpec.ofChange Rows.fnExactSetIntersectSpec) :=
  OpenClaim.holds_of_wide 12 Try.f12 rfl rfl rfl rfl rfl rfl rfl ⟨rfl, rfl, rfl, rfl, rfl⟩ rfl rfl rfl rfl rfl (by as_aux_lemma => kernel_rfl) Try.func12 closed
    (of_decide_eq_true (by as_aux_lemma => kernel_rfl)) (by unfold Func.isWrapper; rw [if_neg (of_decide_eq_false (by as_aux_lemma => kernel_rfl))]; exact ⟨rfl, rfl⟩)
    (fun os started H enc _ => lifted os started H enc)

/-- THE STATEMENT -/
theorem proved : Rows.FnExactSetIntersectSaid := over
end Go.Proofs.Ytgipgfhnkkpdkaa.fnExactSetIntersect
