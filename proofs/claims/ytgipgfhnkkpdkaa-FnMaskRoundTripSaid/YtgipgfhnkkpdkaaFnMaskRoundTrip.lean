/-
  For any two codes the law FnMaskRoundTrip returns true, and what it was given reads afterwards as before. No condition.
-/
import Derived.Test.YtgipgfhnkkpdkaaFrame
import Derived.Test.YtgipgfhnkkpdkaaLawKit
namespace Go.Proofs.Ytgipgfhnkkpdkaa.fnMaskRoundTrip
open Go.ChangeShapes Go.WideShapes Go.ChangeAt Go.RowKit
open Go.ChangeMaps (open_string shut_string)
set_option linter.unusedVariables false

set_option maxHeartbeats 4000000 in
theorem walk_at (w : World) (v0 : Value) (n0 : Nat) (b0 : Bytes w 0 w.heap.size v0 n0) (v1 : Value) (n1 : Nat) (b1 : Bytes w 0 w.heap.size v1 n1) :
    Calls Try.prog 14 #[v0, v1] w fun e w' => e = .returned (.bool true) ∧ Below w.heap.size w w' := by
  obtain ⟨a0, c0, hv0, hn0, _⟩ := b0.open
  subst hv0
  obtain ⟨a1, c1, hv1, hn1, _⟩ := b1.open
  subst hv1
  by_cases big0 : n0 ≤ 1048576
  case neg =>
    go_enter Try.func14, Try.ntmps14
    go_wp2_with fail
    go_ret
    exact ⟨rfl, Below.refl _ _⟩
  by_cases big1 : n1 ≤ 1048576
  case neg =>
    go_enter Try.func14, Try.ntmps14
    go_wp2_with fail
    go_ret
    exact ⟨rfl, Below.refl _ _⟩
  go_enter Try.func14, Try.ntmps14
  go_wp2_with fail
  have HB : Below w.heap.size w w := Below.refl _ _
  refine (DrawSetMask_any _ n0 _ b0).mono ?_
  rintro e w1 ⟨vs, xs, rfl, is, ts, hb1⟩
  replace HB := below_step HB hb1 HB.size
  clear hb1
  as_aux_lemma =>
   go_wp2_with fail
   cases hs : setValid xs
   case false =>
     have HS := Lib.hid hs; clear hs
     have HM1 := Lib.hid (show maskR xs = -1 by simp [maskR, HS.out])
     have HM2 := Lib.hid (show maskS xs = -1 by simp [maskS, HS.out])
     as_aux_lemma =>
      go_wp2_with fail
      refine (implSetMask_any _ xs _ is _ HM1.out).mono ?_
      rintro e w' ⟨rfl, rfl⟩
      as_aux_lemma =>
       go_wp2_with fail
       refine (specSetMask_any _ xs _ is _ HM2.out).mono ?_
       rintro e w2 ⟨rfl, hw2⟩
       have hb2 := drawn_below hw2
       replace HB := below_step HB hb2 HB.size
       replace is := is.below hb2
       clear hw2 hb2
       as_aux_lemma =>
        go_wp2_with fail
        refine (specSetMask_any _ xs _ is _ HM2.out).mono ?_
        rintro e w3 ⟨rfl, hw3⟩
        have hb3 := drawn_below hw3
        replace HB := below_step HB hb3 HB.size
        replace is := is.below hb3
        clear hw3 hb3
        as_aux_lemma =>
         go_wp2_with fail
         go_ret
         exact ⟨rfl, HB⟩
   case true =>
     have HS := Lib.hid hs; clear hs
     obtain ⟨k1, k2⟩ := mask_back xs (valid_mem HS.out)
     have HI := Lib.hid k1
     obtain ⟨m0, m1⟩ := inB_true k1
     have HO := Lib.hid (show ofMaskL (maskL xs) = xs by rw [ofMask_same]; simp [ofMaskS, k1, k2])
     clear k1 k2
     have HM2 := Lib.hid (show maskS xs = maskL xs by simp [maskS, HS.out])
     have HM1 := Lib.hid (show maskR xs = maskL xs from (mask_same xs).trans HM2.out)
     have HC := Lib.hid (bits_valid' (m := (n1 : Int) * 37 % 64) (inB_mk (by omega) (by omega)))
     generalize hM : maskL xs = M at *
     have HMM := Lib.hid hM; clear hM
     as_aux_lemma =>
      go_wp2_with fail
      refine (implSetMask_any _ xs _ is _ HM1.out).mono ?_
      rintro e w' ⟨rfl, rfl⟩
      as_aux_lemma =>
       go_wp2_with fail
       refine (specSetMask_any _ xs _ is _ HM2.out).mono ?_
       rintro e w2 ⟨rfl, hw2⟩
       have hb2 := drawn_below hw2
       replace HB := below_step HB hb2 HB.size
       replace is := is.below hb2
       clear hw2 hb2
       as_aux_lemma =>
        go_wp2_with fail
        refine (implSetOfMask_any M _ _ true HO.out HI.out).mono ?_
        rintro e w3 ⟨vx, rfl, ix, hb3⟩
        replace HB := below_step HB hb3 HB.size
        replace is := is.below hb3
        replace ix := ix.ints
        clear hb3
        as_aux_lemma =>
         go_wp2_with fail
         refine (setOf_any _ _ (by omega) (by omega) _ rfl).mono ?_
         rintro e w4 ⟨vc, rfl, ic, hb4⟩
         replace HB := below_step HB hb4 HB.size
         replace is := is.below hb4
         replace ix := ix.below hb4
         replace ic := ic.ints
         clear hb4
         generalize bitsTo ((n1 : Int) * 37 % 64) 6 = zs at *
         have HZ := Lib.hid (show maskR zs = maskL zs by rw [mask_same]; simp [maskS, HC.out])
         have HE := Lib.hid (show (maskL zs == M) = (zs == xs) by rw [← HMM.out]; exact mask_inj HC.out HS.out)
         cases hz : (zs == xs)
         case false =>
           have HQ := Lib.hid hz; clear hz
           have he : (maskL zs == M) = false := HE.out.trans HQ.out
           as_aux_lemma =>
            go_wp2_with fail
            refine (sameInts_any _ _ _ _ _ ix is true (by simp)).mono ?_
            rintro e w5 ⟨rfl, hw5⟩
            have hb5 := drawn_below hw5
            replace HB := below_step HB hb5 HB.size
            replace is := is.below hb5
            replace ix := ix.below hb5
            replace ic := ic.below hb5
            clear hw5 hb5
            as_aux_lemma =>
             go_wp2_with fail
             refine (implSetMask_any _ _ _ ic _ HZ.out).mono ?_
             rintro e w' ⟨rfl, rfl⟩
             as_aux_lemma =>
              go_wp2_with fail
              refine (sameInts_any _ _ _ _ _ ic is false HQ.out).mono ?_
              rintro e w6 ⟨rfl, hw6⟩
              have hb6 := drawn_below hw6
              replace HB := below_step HB hb6 HB.size
              replace is := is.below hb6
              replace ix := ix.below hb6
              replace ic := ic.below hb6
              clear hw6 hb6
              as_aux_lemma =>
               go_wp2_with fail
               go_ret
               exact ⟨rfl, HB⟩
         case true =>
           have HQ := Lib.hid hz; clear hz
           have he : (maskL zs == M) = true := HE.out.trans HQ.out
           as_aux_lemma =>
            go_wp2_with fail
            refine (sameInts_any _ _ _ _ _ ix is true (by simp)).mono ?_
            rintro e w5 ⟨rfl, hw5⟩
            have hb5 := drawn_below hw5
            replace HB := below_step HB hb5 HB.size
            replace is := is.below hb5
            replace ix := ix.below hb5
            replace ic := ic.below hb5
            clear hw5 hb5
            as_aux_lemma =>
             go_wp2_with fail
             refine (implSetMask_any _ _ _ ic _ HZ.out).mono ?_
             rintro e w' ⟨rfl, rfl⟩
             as_aux_lemma =>
              go_wp2_with fail
              refine (sameInts_any _ _ _ _ _ ic is true HQ.out).mono ?_
              rintro e w6 ⟨rfl, hw6⟩
              have hb6 := drawn_below hw6
              replace HB := below_step HB hb6 HB.size
              replace is := is.below hb6
              replace ix := ix.below hb6
              replace ic := ic.below hb6
              clear hw6 hb6
              as_aux_lemma =>
               go_wp2_with fail
               go_ret
               exact ⟨rfl, HB⟩

/-! ### THE ROW's STEP -/
set_option maxRecDepth 100000 in
theorem lifted (os : Os) (started : os.Started) (H : Type) (enc : TypeId × Value → H) :
    ReturnsInHanded {} Try.checked os 14 .any (Rows.fnMaskRoundTripSpec.pre6 enc Try.prog Try.f14 Rows.fnMaskRoundTripRow.domain false) (Rows.fnMaskRoundTripSpec.post enc Try.prog Try.f14 false true false false) := by
  refine returnsInHanded_of_change (C := Try.checked) own started (by kernel_rfl) Try.func14
    (ChangeSpec.witness6 (enc := enc) (C := Try.checked) false ⟨#[], #[.slice none 0 0, .slice none 0 0], []⟩ 8 (by kernel_rfl) (by kernel_rfl) (by kernel_rfl) (by kernel_rfl)) ?_
  intro W base args ds gs before hval0 hW hcnd _
  have hval : ∀ (j : Nat) t v, Try.f14.params[j]? = some t → args[j]? = some v → Value.okWide Try.prog W .any base t v := hval0
  have hW' := hW
  obtain ⟨p, q, hA0, hV, rfl, hfz, hnd⟩ := hW
  have hA : DataW.TrodAll enc Try.prog W 0 (fun _ => true) true Try.f14.params.toList args.toList ds p := hA0
  rw [Try.params14] at hA hval
  obtain ⟨v0, vs0, d0, ds0, p0, q0, hargs, rfl, rfl, h0, r0⟩ := trodAll_cons hA
  obtain ⟨v1, vs1, d1, ds1, p1, q1, rfl, rfl, rfl, h1, r1⟩ := trodAll_cons r0
  obtain ⟨rfl, rfl, rfl⟩ := trodAll_nil r1
  obtain rfl : args = #[v0, v1] := by cases args; simp_all
  obtain ⟨rfl, rfl⟩ := trodVars_none hV
  obtain ⟨n0, b0⟩ := bytes_in (hval 0 _ v0 rfl rfl) h0
  have lt0 := lt_in h0
  obtain ⟨n1, b1⟩ := bytes_in (hval 1 _ v1 rfl rfl) h1
  have lt1 := lt_in h1
  clear hA0 hval0
  refine (walk_at W v0 n0 b0 v1 n1 b1).mono fun e W' ⟨he, bel⟩ => ?_
  subst he
  exact ⟨_, rfl, _, _, _, [], _, [], hW', trodAll_mk1 (shut_bool Try.underlying4 _), (trodAll_cons_mk (Below.trod laidOut (by kernel_rfl) (of_decide_eq_true (by kernel_rfl)) h0 bel lt0) (trodAll_cons_mk (Below.trod laidOut (by kernel_rfl) (of_decide_eq_true (by kernel_rfl)) h1 bel lt1) trodAll_mk0)), rfl, bel.frame _, fun h => by cases h⟩

set_option maxRecDepth 100000 in
theorem closed : joinedFacts Try.prog 14 Try.f14 Rows.fnMaskRoundTripSpec Rows.fnMaskRoundTripRow = true := by
  unfold joinedFacts
  rw [may, lifts, mk]
  kernel_rfl
theorem over : Rows.fnMaskRoundTripRow.holds Try.pinned (OpenSpec.ofChange Rows.fnMaskRoundTripSpec) :=
  OpenClaim.holds_of_wide 14 Try.f14 rfl rfl rfl rfl rfl rfl rfl ⟨rfl, rfl, rfl, rfl, rfl⟩ rfl rfl rfl rfl rfl (by as_aux_lemma => kernel_rfl) Try.func14 closed
    (of_decide_eq_true (by as_aux_lemma => kernel_rfl)) (by unfold Func.isWrapper; rw [if_neg (of_decide_eq_false (by as_aux_lemma => kernel_rfl))]; exact ⟨rfl, rfl⟩)
    (fun os started H enc _ => lifted os started H enc)

/-- THE STATEMENT -/
theorem proved : Rows.FnMaskRoundTripSaid := over
end Go.Proofs.Ytgipgfhnkkpdkaa.fnMaskRoundTrip
