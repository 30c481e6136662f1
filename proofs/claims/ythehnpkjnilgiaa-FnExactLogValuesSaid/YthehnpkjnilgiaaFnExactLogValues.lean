/-
  For all arguments the law FnExactLogValues returns true: the program's function and the reference's agree, arguments are left alone, results are new memory. No condition.
-/
import Derived.Test.YthehnpkjnilgiaaFrame
import Derived.Test.YthehnpkjnilgiaaFrameL
import Derived.Test.YthehnpkjnilgiaaLogU
import Derived.Deep.DeepCutAuto
namespace Go.Proofs.Ythehnpkjnilgiaa.fnExactLogValues
open Go.ChangeShapes Go.WideShapes Go.ChangeAt Go.RowKit
open Go.ChangeMaps (open_string shut_string)
set_option linter.unusedVariables false

set_option maxHeartbeats 4000000 in
theorem walk_at (w : World) (v0 : Value) (xs0 : List (Int × Int)) (b0 : Ents w 0 w.heap.size v0 xs0) (wx0 : ∀ x ∈ xs0, FitE x) (x1 : Int) (wf1 : I64 x1) :
    Calls Try.prog 6 #[v0, .int .i64 x1] w fun e w' => e = .returned (.bool true) ∧ Below w.heap.size w w' := by
  clear wx0
  have lw0 := b0.wide (Nat.le_refl _) (Nat.le_refl _) (Nat.le_refl _)
  clear lw0
  obtain ⟨wf1a, wf1b⟩ := wf1
  by_cases big0 : xs0.length ≤ 1048576
  case neg =>
    go_enter Try.func6, Try.ntmps6
    go_wp2_with fail
    have HB : Below w.heap.size w w := Below.refl _ _
    refine (szLog_no _ xs0 _ b0 big0).mono ?_
    rintro e w' ⟨rfl, rfl⟩
    go_wp2_with fail
    go_ret
    exact ⟨rfl, HB⟩
  have hl : (valuesL x1 xs0).length ≤ 12 := valuesL_len _ _
  generalize hZ : valuesL x1 xs0 = zs at *
  have HZ := Lib.hid hZ; clear hZ
  go_enter Try.func6, Try.ntmps6
  go_wp2_with fail
  have HB : Below w.heap.size w w := Below.refl _ _
  refine (szLog_yes _ xs0 _ b0 big0).mono ?_
  rintro e w' ⟨rfl, rfl⟩
  go_wp2_with fail
  refine (toLogEntryS_any _ xs0 _ b0 big0).mono ?_
  rintro e w1 ⟨y0, rfl, o0, hb1⟩
  have hs1 := hb1.size
  replace HB := below_step HB hb1 HB.size
  replace b0 := b0.below hb1
  clear hb1
  as_aux_lemma =>
   go_wp2_with fail
   refine (specLogValues_any _ xs0 x1 _ o0.ents zs HZ.out).mono ?_
   rintro e w2 ⟨p0v, rfl, p0, hb2⟩
   have hs2 := hb2.size
   replace HB := below_step HB hb2 HB.size
   replace b0 := b0.below hb2
   replace o0 := o0.below hb2
   clear hb2
   as_aux_lemma =>
    go_wp2_with fail
    refine (toLogEntryS_any _ xs0 _ b0 big0).mono ?_
    rintro e w3 ⟨y1, rfl, o1, hb3⟩
    have hs3 := hb3.size
    replace HB := below_step HB hb3 HB.size
    replace b0 := b0.below hb3
    replace o0 := o0.below hb3
    replace p0 := p0.below hb3
    clear hb3
    as_aux_lemma =>
     go_wp2_with fail
     refine (implLogValues_any _ xs0 x1 _ o1.ents zs HZ.out).mono ?_
     rintro e w4 ⟨p1v, rfl, p1, hb4⟩
     have hs4 := hb4.size
     replace HB := below_step HB hb4 HB.size
     replace b0 := b0.below hb4
     replace o0 := o0.below hb4
     replace p0 := p0.below hb4
     replace o1 := o1.below hb4
     clear hb4
     as_aux_lemma =>
      go_wp2_with fail
      refine (eqIntS_any _ _ _ _ _ p1.ints p0.ints true (by simp)).mono ?_
      rintro e w5 ⟨rfl, hw5⟩
      have hb5 := drawn_below hw5
      have hs5 := hb5.size
      replace HB := below_step HB hb5 HB.size
      replace b0 := b0.below hb5
      replace o0 := o0.below hb5
      replace p0 := p0.below hb5
      replace o1 := o1.below hb5
      replace p1 := p1.below hb5
      clear hw5 hb5
      as_aux_lemma =>
       go_wp2_with fail
       refine (toLogEntryS_any _ xs0 _ b0 big0).mono ?_
       rintro e w6 ⟨y2, rfl, o2, hb6⟩
       have hs6 := hb6.size
       replace HB := below_step HB hb6 HB.size
       replace b0 := b0.below hb6
       replace o0 := o0.below hb6
       replace p0 := p0.below hb6
       replace o1 := o1.below hb6
       replace p1 := p1.below hb6
       clear hb6
       as_aux_lemma =>
        go_wp2_with fail
        refine (eqEnts_same _ _ xs0 _ o1.ents o2.ents).mono ?_
        rintro e w7 ⟨rfl, hb7⟩
        have hs7 := hb7.size
        replace HB := below_step HB hb7 HB.size
        replace b0 := b0.below hb7
        replace o0 := o0.below hb7
        replace p0 := p0.below hb7
        replace o1 := o1.below hb7
        replace p1 := p1.below hb7
        replace o2 := o2.below hb7
        clear hb7
        as_aux_lemma =>
         go_wp2_with fail
         refine (markEnts_any _ xs0 1 _ o1 (by omega) (by omega)).mono ?_
         rintro e w8 ⟨rfl, hm8, hk8⟩
         replace HB := HB.trans (hk8.below (B := w.heap.size) (by omega) HB.size)
         have hs8 := hk8.size
         replace b0 := b0.keep hk8 (by omega)
         replace o0 := o0.keep hk8 (by omega)
         replace p0 := p0.keep hk8 (by omega)
         replace p1 := p1.keep hk8 (by omega)
         replace o2 := o2.keep hk8 (by omega)
         replace o1 := hm8
         clear hm8 hk8
         as_aux_lemma =>
          go_wp2_with fail
          refine (eqIntS_any _ _ _ _ _ p1.ints p0.ints true (by simp)).mono ?_
          rintro e w9 ⟨rfl, hw9⟩
          have hb9 := drawn_below hw9
          have hs9 := hb9.size
          replace HB := below_step HB hb9 HB.size
          replace b0 := b0.below hb9
          replace o0 := o0.below hb9
          replace p0 := p0.below hb9
          replace o1 := o1.below hb9
          replace p1 := p1.below hb9
          replace o2 := o2.below hb9
          clear hw9 hb9
          as_aux_lemma =>
           go_wp2_with fail
           refine (markIntS_any _ zs 1 _ p1 (by omega) (by omega)).mono ?_
           rintro e w10 ⟨rfl, hm10, hk10⟩
           replace HB := HB.trans (hk10.below (B := w.heap.size) (by omega) HB.size)
           have hs10 := hk10.size
           replace b0 := b0.keep hk10 (by omega)
           replace o0 := o0.keep hk10 (by omega)
           replace p0 := p0.keep hk10 (by omega)
           replace o1 := o1.keep hk10 (by omega)
           replace o2 := o2.keep hk10 (by omega)
           replace p1 := hm10
           clear hm10 hk10
           as_aux_lemma =>
            go_wp2_with fail
            refine (heldIntS_any _ zs.length 1 _ p1.ints (by omega) (by omega)).mono ?_
            rintro e w' ⟨rfl, rfl⟩
            as_aux_lemma =>
             go_wp2_with fail
             refine (toLogEntryS_any _ xs0 _ b0 big0).mono ?_
             rintro e w11 ⟨y3, rfl, o3, hb11⟩
             have hs11 := hb11.size
             replace HB := below_step HB hb11 HB.size
             replace b0 := b0.below hb11
             replace o0 := o0.below hb11
             replace p0 := p0.below hb11
             replace o1 := o1.below hb11
             replace p1 := p1.below hb11
             replace o2 := o2.below hb11
             clear hb11
             as_aux_lemma =>
              go_wp2_with fail
              refine (implLogValues_any _ xs0 x1 _ o3.ents zs HZ.out).mono ?_
              rintro e w12 ⟨p2v, rfl, p2, hb12⟩
              have hs12 := hb12.size
              replace HB := below_step HB hb12 HB.size
              replace b0 := b0.below hb12
              replace o0 := o0.below hb12
              replace p0 := p0.below hb12
              replace o1 := o1.below hb12
              replace p1 := p1.below hb12
              replace o2 := o2.below hb12
              replace o3 := o3.below hb12
              clear hb12
              as_aux_lemma =>
               go_wp2_with fail
               refine (eqIntS_any _ _ _ _ _ p2.ints p0.ints true (by simp)).mono ?_
               rintro e w13 ⟨rfl, hw13⟩
               have hb13 := drawn_below hw13
               have hs13 := hb13.size
               replace HB := below_step HB hb13 HB.size
               replace b0 := b0.below hb13
               replace o0 := o0.below hb13
               replace p0 := p0.below hb13
               replace o1 := o1.below hb13
               replace p1 := p1.below hb13
               replace o2 := o2.below hb13
               replace o3 := o3.below hb13
               replace p2 := p2.below hb13
               clear hw13 hb13
               as_aux_lemma =>
                go_wp2_with fail
                refine (heldIntS_any _ zs.length 1 _ p1.ints (by omega) (by omega)).mono ?_
                rintro e w' ⟨rfl, rfl⟩
                as_aux_lemma =>
                 go_wp2_with fail
                 go_ret
                 exact ⟨rfl, HB⟩

/-! ### THE ROW's STEP -/
set_option maxRecDepth 100000 in
theorem lifted (os : Os) (started : os.Started) (H : Type) (enc : TypeId × Value → H) :
    ReturnsInHanded {} Try.checked os 6 .any (Rows.fnExactLogValuesSpec.pre6 enc Try.prog Try.f6 Rows.fnExactLogValuesRow.domain false) (Rows.fnExactLogValuesSpec.post enc Try.prog Try.f6 false true false false) := by
  refine returnsInHanded_of_change (C := Try.checked) own started (by kernel_rfl) Try.func6
    (ChangeSpec.witness6 (enc := enc) (C := Try.checked) false ⟨#[], #[.slice none 0 0, .int .i64 0], []⟩ 8 (by kernel_rfl) (by kernel_rfl) (by kernel_rfl) (by kernel_rfl)) ?_
  intro W base args ds gs before hval0 hW hcnd _
  have hval : ∀ (j : Nat) t v, Try.f6.params[j]? = some t → args[j]? = some v → Value.okWide Try.prog W .any base t v := hval0
  have hW' := hW
  obtain ⟨p, q, hA0, hV, rfl, hfz, hnd⟩ := hW
  have hA : DataW.TrodAll enc Try.prog W 0 (fun _ => true) true Try.f6.params.toList args.toList ds p := hA0
  rw [Try.params6] at hA hval
  obtain ⟨v0, vs0, d0, ds0, p0, q0, hargs, rfl, rfl, h0, r0⟩ := trodAll_cons hA
  obtain ⟨v1, vs1, d1, ds1, p1, q1, rfl, rfl, rfl, h1, r1⟩ := trodAll_cons r0
  obtain ⟨rfl, rfl, rfl⟩ := trodAll_nil r1
  obtain rfl : args = #[v0, v1] := by cases args; simp_all
  obtain ⟨rfl, rfl⟩ := trodVars_none hV
  obtain ⟨xs0, b0, wx0⟩ := ents_in (hval 0 _ v0 rfl rfl) h0
  have lt0 := lt_in h0
  obtain ⟨x1, rfl, rfl, rfl, w1⟩ := open_int Try.underlying3 (hval 1 3 v1 rfl rfl) h1
  clear hA0 hval0
  refine (walk_at W v0 xs0 b0 wx0 x1 (i64_of_wf w1)).mono fun e W' ⟨he, bel⟩ => ?_
  subst he
  exact ⟨_, rfl, _, _, _, [], _, [], hW', trodAll_mk1 (shut_bool Try.underlying4 _), (trodAll_cons_mk (Below.trod laidOut (by kernel_rfl) (of_decide_eq_true (by kernel_rfl)) h0 bel lt0) (trodAll_cons_mk (shut_int Try.underlying3 w1) trodAll_mk0)), rfl, bel.frame _, fun h => by cases h⟩

set_option maxRecDepth 100000 in
theorem closed : joinedFacts Try.prog 6 Try.f6 Rows.fnExactLogValuesSpec Rows.fnExactLogValuesRow = true := by
  unfold joinedFacts
  rw [may, lifts, mk]
  kernel_rfl
theorem over : Rows.fnExactLogValuesRow.holds Try.pinned (OpenSpec.ofChange Rows.fnExactLogValuesSpec) :=
  OpenClaim.holds_of_wide 6 Try.f6 rfl rfl rfl rfl rfl rfl rfl ⟨rfl, rfl, rfl, rfl, rfl⟩ rfl rfl rfl rfl rfl (by as_aux_lemma => kernel_rfl) Try.func6 closed
    (of_decide_eq_true (by as_aux_lemma => kernel_rfl)) (by unfold Func.isWrapper; rw [if_neg (of_decide_eq_false (by as_aux_lemma => kernel_rfl))]; exact ⟨rfl, rfl⟩)
    (fun os started H enc _ => lifted os started H enc)

/-- THE STATEMENT -/
theorem proved : Rows.FnExactLogValuesSaid := over
end Go.Proofs.Ythehnpkjnilgiaa.fnExactLogValues
