/-
  For all arguments the law FnExactWeightsSum returns true: the program's function and the reference's agree, arguments are left alone, results are new memory. No condition.
-/
import Derived.Test.YtgipgfhnkkpdkaaFrame
import Derived.Test.YtgipgfhnkkpdkaaWeight
namespace Go.Proofs.Ytgipgfhnkkpdkaa.fnExactWeightsSum
open Go.ChangeShapes Go.WideShapes Go.ChangeAt Go.RowKit
open Go.ChangeMaps (open_string shut_string)
set_option linter.unusedVariables false

set_option maxHeartbeats 4000000 in
theorem walk_at (w : World) (v0 : Value) (xs0 : List Int) (b0 : Ints w 0 w.heap.size v0 xs0) (wx0 : ∀ x ∈ xs0, I64 x) (v1 : Value) (xs1 : List Int) (b1 : Ints w 0 w.heap.size v1 xs1) (wx1 : ∀ x ∈ xs1, I64 x) :
    Calls Try.prog 9 #[v0, v1] w fun e w' => e = .returned (.bool true) ∧ Below w.heap.size w w' := by
  obtain ⟨a0, c0, hv0, hn0, _⟩ := b0.open
  subst hv0
  have WX0 := Lib.hid wx0; clear wx0
  obtain ⟨a1, c1, hv1, hn1, _⟩ := b1.open
  subst hv1
  have WX1 := Lib.hid wx1; clear wx1
  by_cases big0 : xs0.length ≤ 1048576
  case neg =>
    go_enter Try.func9, Try.ntmps9
    go_wp2_with fail
    go_ret
    exact ⟨rfl, Below.refl _ _⟩
  by_cases big1 : xs1.length ≤ 1048576
  case neg =>
    go_enter Try.func9, Try.ntmps9
    go_wp2_with fail
    go_ret
    exact ⟨rfl, Below.refl _ _⟩
  obtain ⟨m, hm⟩ : ∃ m, wSum xs0 xs1 = m := ⟨_, rfl⟩
  have HM := Lib.hid hm; clear hm
  have hmm : (m != m) = false := by simp
  go_enter Try.func9, Try.ntmps9
  go_wp2_with fail
  have HB : Below w.heap.size w w := Below.refl _ _
  refine (toIntS_any _ xs0 _ b0 big0).mono ?_
  rintro e w1 ⟨y0, rfl, o0, hb1⟩
  have hs1 := hb1.size
  replace HB := below_step HB hb1 HB.size
  replace b0 := b0.below hb1
  replace b1 := b1.below hb1
  clear hb1
  as_aux_lemma =>
   go_wp2_with fail
   refine (toIntS_any _ xs1 _ b1 big1).mono ?_
   rintro e w2 ⟨y1, rfl, o1, hb2⟩
   have hs2 := hb2.size
   replace HB := below_step HB hb2 HB.size
   replace b0 := b0.below hb2
   replace b1 := b1.below hb2
   replace o0 := o0.below hb2
   clear hb2
   as_aux_lemma =>
    go_wp2_with fail
    refine (specWSum_any _ _ xs0 xs1 _ o0.ints o1.ints m HM.out).mono ?_
    rintro e w3 ⟨rfl, hw3⟩
    have hb3 := drawn_below hw3
    have hs3 := hb3.size
    replace HB := below_step HB hb3 HB.size
    replace b0 := b0.below hb3
    replace b1 := b1.below hb3
    replace o0 := o0.below hb3
    replace o1 := o1.below hb3
    clear hw3 hb3
    as_aux_lemma =>
     go_wp2_with fail
     refine (toIntS_any _ xs0 _ b0 big0).mono ?_
     rintro e w4 ⟨y2, rfl, o2, hb4⟩
     have hs4 := hb4.size
     replace HB := below_step HB hb4 HB.size
     replace b0 := b0.below hb4
     replace b1 := b1.below hb4
     replace o0 := o0.below hb4
     replace o1 := o1.below hb4
     clear hb4
     as_aux_lemma =>
      go_wp2_with fail
      refine (toIntS_any _ xs1 _ b1 big1).mono ?_
      rintro e w5 ⟨y3, rfl, o3, hb5⟩
      have hs5 := hb5.size
      replace HB := below_step HB hb5 HB.size
      replace b0 := b0.below hb5
      replace b1 := b1.below hb5
      replace o0 := o0.below hb5
      replace o1 := o1.below hb5
      replace o2 := o2.below hb5
      clear hb5
      as_aux_lemma =>
       go_wp2_with fail
       refine (implWSum_any _ _ xs0 xs1 _ o2.ints o3.ints m HM.out).mono ?_
       rintro e w6 ⟨rfl, hb6⟩
       have hs6 := hb6.size
       replace HB := below_step HB hb6 HB.size
       replace b0 := b0.below hb6
       replace b1 := b1.below hb6
       replace o0 := o0.below hb6
       replace o1 := o1.below hb6
       replace o2 := o2.below hb6
       replace o3 := o3.below hb6
       clear hb6
       as_aux_lemma =>
        go_wp2_with fail
        refine (toIntS_any _ xs0 _ b0 big0).mono ?_
        rintro e w7 ⟨y4, rfl, o4, hb7⟩
        have hs7 := hb7.size
        replace HB := below_step HB hb7 HB.size
        replace b0 := b0.below hb7
        replace b1 := b1.below hb7
        replace o0 := o0.below hb7
        replace o1 := o1.below hb7
        replace o2 := o2.below hb7
        replace o3 := o3.below hb7
        clear hb7
        as_aux_lemma =>
         go_wp2_with fail
         refine (eqIntS_any _ _ _ _ _ o2.ints o4.ints true (by simp)).mono ?_
         rintro e w8 ⟨rfl, hw8⟩
         have hb8 := drawn_below hw8
         have hs8 := hb8.size
         replace HB := below_step HB hb8 HB.size
         replace b0 := b0.below hb8
         replace b1 := b1.below hb8
         replace o0 := o0.below hb8
         replace o1 := o1.below hb8
         replace o2 := o2.below hb8
         replace o3 := o3.below hb8
         replace o4 := o4.below hb8
         clear hw8 hb8
         as_aux_lemma =>
          go_wp2_with fail
          refine (toIntS_any _ xs1 _ b1 big1).mono ?_
          rintro e w9 ⟨y5, rfl, o5, hb9⟩
          have hs9 := hb9.size
          replace HB := below_step HB hb9 HB.size
          replace b0 := b0.below hb9
          replace b1 := b1.below hb9
          replace o0 := o0.below hb9
          replace o1 := o1.below hb9
          replace o2 := o2.below hb9
          replace o3 := o3.below hb9
          replace o4 := o4.below hb9
          clear hb9
          as_aux_lemma =>
           go_wp2_with fail
           refine (eqIntS_any _ _ _ _ _ o3.ints o5.ints true (by simp)).mono ?_
           rintro e w10 ⟨rfl, hw10⟩
           have hb10 := drawn_below hw10
           have hs10 := hb10.size
           replace HB := below_step HB hb10 HB.size
           replace b0 := b0.below hb10
           replace b1 := b1.below hb10
           replace o0 := o0.below hb10
           replace o1 := o1.below hb10
           replace o2 := o2.below hb10
           replace o3 := o3.below hb10
           replace o4 := o4.below hb10
           replace o5 := o5.below hb10
           clear hw10 hb10
           as_aux_lemma =>
            go_wp2_with fail
            go_ret
            exact ⟨rfl, HB⟩

/-! ### THE ROW's STEP -/
set_option maxRecDepth 100000 in
theorem lifted (os : Os) (started : os.Started) (H : Type) (enc : TypeId × Value → H) :
    ReturnsInHanded {} Try.checked os 9 .any (Rows.fnExactWeightsSumSpec.pre6 enc Try.prog Try.f9 Rows.fnExactWeightsSumRow.domain false) (Rows.fnExactWeightsSumSpec.post enc Try.prog Try.f9 false true false false) := by
  refine returnsInHanded_of_change (C := Try.checked) own started (by kernel_rfl) Try.func9
    (ChangeSpec.witness6 (enc := enc) (C := Try.checked) false ⟨#[], #[.slice none 0 0, .slice none 0 0], []⟩ 8 (by kernel_rfl) (by kernel_rfl) (by kernel_rfl) (by kernel_rfl)) ?_
  intro W base args ds gs before hval0 hW hcnd _
  have hval : ∀ (j : Nat) t v, Try.f9.params[j]? = some t → args[j]? = some v → Value.okWide Try.prog W .any base t v := hval0
  have hW' := hW
  obtain ⟨p, q, hA0, hV, rfl, hfz, hnd⟩ := hW
  have hA : DataW.TrodAll enc Try.prog W 0 (fun _ => true) true Try.f9.params.toList args.toList ds p := hA0
  rw [Try.params9] at hA hval
  obtain ⟨v0, vs0, d0, ds0, p0, q0, hargs, rfl, rfl, h0, r0⟩ := trodAll_cons hA
  obtain ⟨v1, vs1, d1, ds1, p1, q1, rfl, rfl, rfl, h1, r1⟩ := trodAll_cons r0
  obtain ⟨rfl, rfl, rfl⟩ := trodAll_nil r1
  obtain rfl : args = #[v0, v1] := by cases args; simp_all
  obtain ⟨rfl, rfl⟩ := trodVars_none hV
  obtain ⟨xs0, b0, wx0⟩ := ints_in (hval 0 _ v0 rfl rfl) h0
  have lt0 := lt_in h0
  obtain ⟨xs1, b1, wx1⟩ := ints_in (hval 1 _ v1 rfl rfl) h1
  have lt1 := lt_in h1
  clear hA0 hval0
  refine (walk_at W v0 xs0 b0 wx0 v1 xs1 b1 wx1).mono fun e W' ⟨he, bel⟩ => ?_
  subst he
  exact ⟨_, rfl, _, _, _, [], _, [], hW', trodAll_mk1 (shut_bool Try.underlying4 _), (trodAll_cons_mk (Below.trod laidOut (by kernel_rfl) (of_decide_eq_true (by kernel_rfl)) h0 bel lt0) (trodAll_cons_mk (Below.trod laidOut (by kernel_rfl) (of_decide_eq_true (by kernel_rfl)) h1 bel lt1) trodAll_mk0)), rfl, bel.frame _, fun h => by cases h⟩

set_option maxRecDepth 100000 in
theorem closed : joinedFacts Try.prog 9 Try.f9 Rows.fnExactWeightsSumSpec Rows.fnExactWeightsSumRow = true := by
  unfold joinedFacts
  rw [may, lifts, mk]
  kernel_rfl
theorem over : Rows.fnExactWeightsSumRow.holds Try.pinned (OpenSpec.ofChange Rows.fnExactWeightsSumSpec) :=
  OpenClaim.holds_of_wide 9 Try.f9 rfl rfl rfl rfl rfl rfl rfl ⟨rfl, rfl, rfl, rfl, rfl⟩ rfl rfl rfl rfl rfl (by as_aux_lemma => kernel_rfl) Try.func9 closed
    (of_decide_eq_true (by as_aux_lemma => kernel_rfl)) (by unfold Func.isWrapper; rw [if_neg (of_decide_eq_false (by as_aux_lemma => kernel_rfl))]; exact ⟨rfl, rfl⟩)
    (fun os started H enc _ => lifted os started H enc)

/-- THE STATEMENT -/
theorem proved : Rows.FnExactWeightsSumSaid := over
end Go.Proofs.Ytgipgfhnkkpdkaa.fnExactWeightsSum
