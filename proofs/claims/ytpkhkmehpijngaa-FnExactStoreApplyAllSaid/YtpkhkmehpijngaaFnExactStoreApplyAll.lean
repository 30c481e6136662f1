/-
  For every input the law FnExactStoreApplyAll returns true, and what it was given reads afterwards as before. No condition beyond the row's own.
-/
import Derived.Test.YtpkhkmehpijngaaFrameP
import Derived.Test.YtpkhkmehpijngaaRunL
import Derived.Test.YtpkhkmehpijngaaCmdX
import Derived.Test.YtpkhkmehpijngaaStoreR
import Derived.Deep.DeepCutAuto
import Derived.Deep.QuietTactic
import Derived.BigQuiet
import Derived.Deep.RegionHeld3
namespace Go.Proofs.Ytpkhkmehpijngaa.fnExactStoreApplyAll
open Go.ChangeShapes Go.WideShapes Go.ChangeAt Go.RowKit
open Go.ChangeMaps (open_string shut_string)
set_option linter.unusedVariables false
theorem runS_len {ps zs : List (ByteArray × Int)} {cs : List CT} {bs : List Bool} (h : runS ps cs = (zs, bs)) : zs.length ≤ 6 ∧ bs.length ≤ cs.length := by
  unfold runS at h
  split at h
  · rename_i hv
    have h1 := good_len (run_good (good_of hv) cs)
    have h2 := run_len ps cs
    rw [h] at h1 h2
    exact ⟨h1, Nat.le_of_eq h2⟩
  · cases h; exact ⟨Nat.zero_le _, Nat.zero_le _⟩

set_option maxRecDepth 100000 in
set_option maxHeartbeats 8000000 in
theorem walk_at (w : World) (v0 : Value) (xs0 : List (ByteArray × Int)) (b0 : Prs w 0 w.heap.size v0 xs0) (hz0 : ∀ k, k < xs0.length → (pk xs0 k).size ≤ maxLen) (v1 : Value) (cs1 : List CT) (b1 : Cms w 0 w.heap.size v1 cs1) (hz1 : ∀ c ∈ cs1, c.2.1.size ≤ maxLen) :
    Calls Try.prog 13 #[v0, v1] w fun e w' => e = .returned (.bool true) ∧ Below w.heap.size w w' := by
  obtain ⟨zs, bs, hz⟩ : ∃ zs bs, runS xs0 cs1 = (zs, bs) := ⟨_, _, rfl⟩
  have HZL := Lib.hid (runS_len hz)
  have HZ := Lib.hid hz; clear hz
  go_enter Try.func13, Try.ntmps13
  go_wp2_with fail
  have HB : Below w.heap.size w w := Below.refl _ _
  refine (szPairS_any _ xs0 _ b0 hz0).mono ?_
  rintro e w1 ⟨m, rfl, hm, hb1⟩
  have hs1 := hb1.size
  replace b0 := b0.below hb1
  replace b1 := b1.below hb1
  replace HB := below_step HB hb1 HB.size
  clear hb1
  rcases hm with rfl | ⟨hm0, big0, hm1⟩
  · go_wp2_with fail
    go_ret
    exact ⟨rfl, HB⟩
  have hmn : ¬ m < 0 := by omega
  as_aux_lemma =>
   go_wp2_with fail
   replace b1 : Cms _ _ _ v1 cs1 := b1
   refine (szCommandS_any _ cs1 m _ b1 hz1 hm0 hm1).mono ?_
   rintro e w2 ⟨m2, rfl, hm2, hb2⟩
   have hs2 := hb2.size
   replace b0 := b0.below hb2
   replace b1 := b1.below hb2
   replace HB := below_step HB hb2 HB.size
   clear hb2 hmn
   rcases hm2 with rfl | ⟨hm20, big1, hm21⟩
   · go_wp2_with fail
     go_ret
     exact ⟨rfl, HB⟩
   have hmn : ¬ m2 < 0 := by omega
   have HZ1 := Lib.hid hz1
   have hkn : ¬ (1 + 2 * (xs0.length : Int) + 4 * (cs1.length : Int) < 0) := by omega
   have hqn : ¬ (1 + 2 * (zs.length : Int) < 0) := by omega
   have hqb : ¬ (1 + 2 * (zs.length : Int) + (bs.length : Int) < 0) := by omega
   have hqq : (1 + 2 * (zs.length : Int) + (bs.length : Int) != 1 + 2 * (zs.length : Int) + (bs.length : Int)) = false := by simp
   as_aux_lemma =>
    go_wp2_with fail
    refine (toPairS_any _ xs0 _ b0 big0).mono ?_
    rintro e w3 ⟨vo0, rfl, o0, hb3⟩
    have hs3 := hb3.size
    replace b0 := b0.below hb3
    replace b1 := b1.below hb3
    replace HB := below_step HB hb3 HB.size
    clear hb3
    obtain ⟨ao0, co0, hvo0⟩ := o0.form
    subst hvo0
    as_aux_lemma =>
     go_wp2_with fail
     refine (toCommandS_any _ cs1 _ b1 big1).mono ?_
     rintro e w4 ⟨voc0, rfl, oc0, hb4⟩
     have hs4 := hb4.size
     replace b0 := b0.below hb4
     replace b1 := b1.below hb4
     replace o0 := o0.below hb4
     replace HB := below_step HB hb4 HB.size
     clear hb4
     obtain ⟨aoc0, coc0, hvoc0⟩ := oc0.form
     subst hvoc0
     as_aux_lemma =>
      go_wp2_with fail
      refine (specApplyAll_any _ _ xs0 cs1 zs bs _ o0.prs oc0.cms big0 big1 HZ.out).mono ?_
      rintro e w5 ⟨vw, bvw, rfl, ow, obw, hb5⟩
      have hs5 := hb5.size
      replace b0 := b0.below hb5
      replace b1 := b1.below hb5
      replace o0 := o0.below hb5
      replace oc0 := oc0.below hb5
      replace HB := below_step HB hb5 HB.size
      clear hb5
      obtain ⟨aow, cow, hvow⟩ := Prs.form ow
      subst hvow
      obtain ⟨aobw, cobw, hvobw⟩ := Bs.form obw
      subst hvobw
      as_aux_lemma =>
       go_wp2_with fail
       refine (toPairS_any _ xs0 _ b0 big0).mono ?_
       rintro e w6 ⟨vox, rfl, ox, hb6⟩
       have hs6 := hb6.size
       replace b0 := b0.below hb6
       replace b1 := b1.below hb6
       replace o0 := o0.below hb6
       replace oc0 := oc0.below hb6
       replace ow := ow.below hb6
       replace obw := obw.below hb6
       replace HB := below_step HB hb6 HB.size
       clear hb6
       obtain ⟨aox, cox, hvox⟩ := ox.form
       subst hvox
       as_aux_lemma =>
        go_wp2_with fail
        refine (toCommandS_any _ cs1 _ b1 big1).mono ?_
        rintro e w7 ⟨voy, rfl, oy, hb7⟩
        have hs7 := hb7.size
        replace b0 := b0.below hb7
        replace b1 := b1.below hb7
        replace o0 := o0.below hb7
        replace oc0 := oc0.below hb7
        replace ow := ow.below hb7
        replace obw := obw.below hb7
        replace ox := ox.below hb7
        replace HB := below_step HB hb7 HB.size
        clear hb7
        obtain ⟨aoy, coy, hvoy⟩ := oy.form
        subst hvoy
        as_aux_lemma =>
         go_wp2_with fail
         refine (implApplyAll_any _ _ xs0 cs1 zs bs _ ox.prs oy.cms big0 big1 HZ1.out HZ.out).mono ?_
         rintro e w8 ⟨vg, bvg, mg, rfl, hmag, hmbg, ob, og, hb8⟩
         have hs8 := hb8.size
         replace b0 := b0.below hb8
         replace b1 := b1.below hb8
         replace o0 := o0.below hb8
         replace oc0 := oc0.below hb8
         replace ow := ow.below hb8
         replace obw := obw.below hb8
         replace ox := ox.below hb8
         replace oy := oy.below hb8
         replace HB := below_step HB hb8 HB.size
         clear hb8
         obtain ⟨aog, cog, hvog⟩ := og.form
         subst hvog
         obtain ⟨aob, cob, hvob⟩ := ob.form
         subst hvob
         as_aux_lemma =>
          go_wp2_with fail
          refine (eqPairS_same _ _ zs _ og.prs ow).mono ?_
          rintro e w9 ⟨rfl, hb9⟩
          have hs9 := hb9.size
          replace b0 := b0.below hb9
          replace b1 := b1.below hb9
          replace o0 := o0.below hb9
          replace oc0 := oc0.below hb9
          replace ow := ow.below hb9
          replace obw := obw.below hb9
          replace ox := ox.below hb9
          replace oy := oy.below hb9
          replace ob := ob.below hb9
          replace og := og.below hb9
          replace HB := below_step HB hb9 HB.size
          clear hb9
          as_aux_lemma =>
           go_wp2_with fail
           refine (eqBoolS_same _ _ bs _ ob.bool obw).mono ?_
           rintro e w10 ⟨rfl, hw10⟩
           have hb10 := drawn_below hw10
           have hs10 := hb10.size
           replace b0 := b0.below hb10
           replace b1 := b1.below hb10
           replace o0 := o0.below hb10
           replace oc0 := oc0.below hb10
           replace ow := ow.below hb10
           replace obw := obw.below hb10
           replace ox := ox.below hb10
           replace oy := oy.below hb10
           replace ob := ob.below hb10
           replace og := og.below hb10
           replace HB := below_step HB hb10 HB.size
           clear hb10 hw10
           as_aux_lemma =>
            go_wp2_with fail
            refine (toPairS_any _ xs0 _ b0 big0).mono ?_
            rintro e w11 ⟨vo2, rfl, o2, hb11⟩
            have hs11 := hb11.size
            replace b0 := b0.below hb11
            replace b1 := b1.below hb11
            replace o0 := o0.below hb11
            replace oc0 := oc0.below hb11
            replace ow := ow.below hb11
            replace obw := obw.below hb11
            replace ox := ox.below hb11
            replace oy := oy.below hb11
            replace ob := ob.below hb11
            replace og := og.below hb11
            replace HB := below_step HB hb11 HB.size
            clear hb11
            obtain ⟨ao2, co2, hvo2⟩ := o2.form
            subst hvo2
            as_aux_lemma =>
             go_wp2_with fail
             refine (eqPairS_same _ _ xs0 _ ox.prs o2.prs).mono ?_
             rintro e w12 ⟨rfl, hb12⟩
             have hs12 := hb12.size
             replace b0 := b0.below hb12
             replace b1 := b1.below hb12
             replace o0 := o0.below hb12
             replace oc0 := oc0.below hb12
             replace ow := ow.below hb12
             replace obw := obw.below hb12
             replace ox := ox.below hb12
             replace oy := oy.below hb12
             replace ob := ob.below hb12
             replace og := og.below hb12
             replace o2 := o2.below hb12
             replace HB := below_step HB hb12 HB.size
             clear hb12
             as_aux_lemma =>
              go_wp2_with fail
              refine (toCommandS_any _ cs1 _ b1 big1).mono ?_
              rintro e w13 ⟨voc2, rfl, oc2, hb13⟩
              have hs13 := hb13.size
              replace b0 := b0.below hb13
              replace b1 := b1.below hb13
              replace o0 := o0.below hb13
              replace oc0 := oc0.below hb13
              replace ow := ow.below hb13
              replace obw := obw.below hb13
              replace ox := ox.below hb13
              replace oy := oy.below hb13
              replace ob := ob.below hb13
              replace og := og.below hb13
              replace o2 := o2.below hb13
              replace HB := below_step HB hb13 HB.size
              clear hb13
              obtain ⟨aoc2, coc2, hvoc2⟩ := oc2.form
              subst hvoc2
              as_aux_lemma =>
               go_wp2_with fail
               refine (eqCommandS_same _ _ cs1 _ oy.cms oc2.cms).mono ?_
               rintro e w14 ⟨rfl, hb14⟩
               have hs14 := hb14.size
               replace b0 := b0.below hb14
               replace b1 := b1.below hb14
               replace o0 := o0.below hb14
               replace oc0 := oc0.below hb14
               replace ow := ow.below hb14
               replace obw := obw.below hb14
               replace ox := ox.below hb14
               replace oy := oy.below hb14
               replace ob := ob.below hb14
               replace og := og.below hb14
               replace o2 := o2.below hb14
               replace oc2 := oc2.below hb14
               replace HB := below_step HB hb14 HB.size
               clear hb14
               as_aux_lemma =>
                go_wp2_with fail
                refine (markPairS_any _ xs0 1 _ ox (by omega) (by have := big0; omega)).mono ?_
                rintro e w15 ⟨rfl, hm15, hk15⟩
                have hs15 := hk15.size
                replace b0 := Recs.keep b0 hk15 (by omega)
                replace b1 := Recs.keep b1 hk15 (by omega)
                replace o0 := PrsO.keep o0 hk15 (by omega)
                replace oc0 := CmsO.keep oc0 hk15 (by omega)
                replace ow := Recs.keep ow hk15 (by omega)
                replace obw := Recs.keep obw hk15 (by omega)
                replace oy := CmsO.keep oy hk15 (by omega)
                replace ob := BsO.keep ob hk15 (by omega)
                replace og := PrsO.keep og hk15 (by omega)
                replace o2 := PrsO.keep o2 hk15 (by omega)
                replace oc2 := CmsO.keep oc2 hk15 (by omega)
                replace HB := HB.trans (hk15.below (B := w.heap.size) (by omega) HB.size)
                replace ox := hm15
                clear hk15
                as_aux_lemma =>
                 go_wp2_with fail
                 refine (markCommandS_any _ cs1 (1 + 2 * (xs0.length : Int)) _ oy (by omega) (by omega)).mono ?_
                 rintro e w16 ⟨rfl, hk16⟩
                 have hs16 := hk16.size
                 replace b0 := Recs.keep b0 hk16 (by omega)
                 replace b1 := Recs.keep b1 hk16 (by omega)
                 replace o0 := PrsO.keep o0 hk16 (by omega)
                 replace oc0 := CmsO.keep oc0 hk16 (by omega)
                 replace ow := Recs.keep ow hk16 (by omega)
                 replace obw := Recs.keep obw hk16 (by omega)
                 replace ox := PrsO.keep ox hk16 (by omega)
                 replace ob := BsO.keep ob hk16 (by omega)
                 replace og := PrsO.keep og hk16 (by omega)
                 replace o2 := PrsO.keep o2 hk16 (by omega)
                 replace oc2 := CmsO.keep oc2 hk16 (by omega)
                 replace HB := HB.trans (hk16.below (B := w.heap.size) (by omega) HB.size)
                 clear hk16
                 as_aux_lemma =>
                  go_wp2_with fail
                  refine (eqPairS_same _ _ zs _ og.prs ow).mono ?_
                  rintro e w17 ⟨rfl, hb17⟩
                  have hs17 := hb17.size
                  replace b0 := b0.below hb17
                  replace b1 := b1.below hb17
                  replace o0 := o0.below hb17
                  replace oc0 := oc0.below hb17
                  replace ow := ow.below hb17
                  replace obw := obw.below hb17
                  replace ox := ox.below hb17
                  replace ob := ob.below hb17
                  replace og := og.below hb17
                  replace o2 := o2.below hb17
                  replace oc2 := oc2.below hb17
                  replace HB := below_step HB hb17 HB.size
                  clear hb17
                  as_aux_lemma =>
                   go_wp2_with fail
                   refine (eqBoolS_same _ _ bs _ ob.bool obw).mono ?_
                   rintro e w18 ⟨rfl, hw18⟩
                   have hb18 := drawn_below hw18
                   have hs18 := hb18.size
                   replace b0 := b0.below hb18
                   replace b1 := b1.below hb18
                   replace o0 := o0.below hb18
                   replace oc0 := oc0.below hb18
                   replace ow := ow.below hb18
                   replace obw := obw.below hb18
                   replace ox := ox.below hb18
                   replace ob := ob.below hb18
                   replace og := og.below hb18
                   replace o2 := o2.below hb18
                   replace oc2 := oc2.below hb18
                   replace HB := below_step HB hb18 HB.size
                   clear hb18 hw18
                   as_aux_lemma =>
                    go_wp2_with fail
                    refine (markPairS_any _ zs 1 _ og (by omega) (by have := HZL.out.1; omega)).mono ?_
                    rintro e w19 ⟨rfl, hm19, hk19⟩
                    have hs19 := hk19.size
                    replace b0 := Recs.keep b0 hk19 (by omega)
                    replace b1 := Recs.keep b1 hk19 (by omega)
                    replace o0 := PrsO.keep o0 hk19 (by omega)
                    replace oc0 := CmsO.keep oc0 hk19 (by omega)
                    replace ow := Recs.keep ow hk19 (by omega)
                    replace obw := Recs.keep obw hk19 (by omega)
                    replace ox := PrsO.keep ox hk19 (by omega)
                    replace ob := BsO.keep ob hk19 (by omega)
                    replace o2 := PrsO.keep o2 hk19 (by omega)
                    replace oc2 := CmsO.keep oc2 hk19 (by omega)
                    replace HB := HB.trans (hk19.below (B := w.heap.size) (by omega) HB.size)
                    replace og := hm19
                    clear hk19
                    as_aux_lemma =>
                     go_wp2_with fail
                     refine (markBoolS_any _ bs (1 + 2 * (zs.length : Int)) _ ob (by omega) (by have := HZL.out; omega)).mono ?_
                     rintro e w20 ⟨rfl, hm20, hk20⟩
                     have hs20 := hk20.size
                     replace b0 := Recs.keep b0 hk20 (by omega)
                     replace b1 := Recs.keep b1 hk20 (by omega)
                     replace o0 := PrsO.keep o0 hk20 (by omega)
                     replace oc0 := CmsO.keep oc0 hk20 (by omega)
                     replace ow := Recs.keep ow hk20 (by omega)
                     replace obw := Recs.keep obw hk20 (by omega)
                     replace ox := PrsO.keep ox hk20 (by omega)
                     replace og := PrsO.keep og hk20 (by omega)
                     replace o2 := PrsO.keep o2 hk20 (by omega)
                     replace oc2 := CmsO.keep oc2 hk20 (by omega)
                     replace HB := HB.trans (hk20.below (B := w.heap.size) (by omega) HB.size)
                     replace ob := hm20
                     clear hk20
                     as_aux_lemma =>
                      go_wp2_with fail
                      refine (heldPairS_any _ zs.length 1 _ og.prs (by omega) (by have := HZL.out; omega)).mono ?_
                      rintro e w21 ⟨rfl, hb21⟩
                      have hs21 := hb21.size
                      replace b0 := b0.below hb21
                      replace b1 := b1.below hb21
                      replace o0 := o0.below hb21
                      replace oc0 := oc0.below hb21
                      replace ow := ow.below hb21
                      replace obw := obw.below hb21
                      replace ox := ox.below hb21
                      replace ob := ob.below hb21
                      replace og := og.below hb21
                      replace o2 := o2.below hb21
                      replace oc2 := oc2.below hb21
                      replace HB := below_step HB hb21 HB.size
                      clear hb21
                      as_aux_lemma =>
                       go_wp2_with fail
                       refine (heldBoolS_any _ bs.length (1 + 2 * (zs.length : Int)) _ ob.bool (by omega) (by have := HZL.out; omega)).mono ?_
                       rintro e wh ⟨rfl, rfl⟩
                       as_aux_lemma =>
                        go_wp2_with fail
                        refine (toPairS_any _ xs0 _ b0 big0).mono ?_
                        rintro e w22 ⟨vo3, rfl, o3, hb22⟩
                        have hs22 := hb22.size
                        replace b0 := b0.below hb22
                        replace b1 := b1.below hb22
                        replace o0 := o0.below hb22
                        replace oc0 := oc0.below hb22
                        replace ow := ow.below hb22
                        replace obw := obw.below hb22
                        replace ox := ox.below hb22
                        replace ob := ob.below hb22
                        replace og := og.below hb22
                        replace o2 := o2.below hb22
                        replace oc2 := oc2.below hb22
                        replace HB := below_step HB hb22 HB.size
                        clear hb22
                        obtain ⟨ao3, co3, hvo3⟩ := o3.form
                        subst hvo3
                        as_aux_lemma =>
                         go_wp2_with fail
                         refine (toCommandS_any _ cs1 _ b1 big1).mono ?_
                         rintro e w23 ⟨voc3, rfl, oc3, hb23⟩
                         have hs23 := hb23.size
                         replace b0 := b0.below hb23
                         replace b1 := b1.below hb23
                         replace o0 := o0.below hb23
                         replace oc0 := oc0.below hb23
                         replace ow := ow.below hb23
                         replace obw := obw.below hb23
                         replace ox := ox.below hb23
                         replace ob := ob.below hb23
                         replace og := og.below hb23
                         replace o2 := o2.below hb23
                         replace oc2 := oc2.below hb23
                         replace o3 := o3.below hb23
                         replace HB := below_step HB hb23 HB.size
                         clear hb23
                         obtain ⟨aoc3, coc3, hvoc3⟩ := oc3.form
                         subst hvoc3
                         as_aux_lemma =>
                          go_wp2_with fail
                          refine (implApplyAll_any _ _ xs0 cs1 zs bs _ o3.prs oc3.cms big0 big1 HZ1.out HZ.out).mono ?_
                          rintro e w24 ⟨vh, bvh, mh, rfl, hmah, hmbh, obh, oh, hb24⟩
                          have hs24 := hb24.size
                          replace b0 := b0.below hb24
                          replace b1 := b1.below hb24
                          replace o0 := o0.below hb24
                          replace oc0 := oc0.below hb24
                          replace ow := ow.below hb24
                          replace obw := obw.below hb24
                          replace ox := ox.below hb24
                          replace ob := ob.below hb24
                          replace og := og.below hb24
                          replace o2 := o2.below hb24
                          replace oc2 := oc2.below hb24
                          replace o3 := o3.below hb24
                          replace oc3 := oc3.below hb24
                          replace HB := below_step HB hb24 HB.size
                          clear hb24
                          obtain ⟨aoh, coh, hvoh⟩ := oh.form
                          subst hvoh
                          obtain ⟨aobh, cobh, hvobh⟩ := obh.form
                          subst hvobh
                          as_aux_lemma =>
                           go_wp2_with fail
                           refine (eqPairS_same _ _ zs _ oh.prs ow).mono ?_
                           rintro e w25 ⟨rfl, hb25⟩
                           have hs25 := hb25.size
                           replace b0 := b0.below hb25
                           replace b1 := b1.below hb25
                           replace o0 := o0.below hb25
                           replace oc0 := oc0.below hb25
                           replace ow := ow.below hb25
                           replace obw := obw.below hb25
                           replace ox := ox.below hb25
                           replace ob := ob.below hb25
                           replace og := og.below hb25
                           replace o2 := o2.below hb25
                           replace oc2 := oc2.below hb25
                           replace o3 := o3.below hb25
                           replace oc3 := oc3.below hb25
                           replace obh := obh.below hb25
                           replace oh := oh.below hb25
                           replace HB := below_step HB hb25 HB.size
                           clear hb25
                           as_aux_lemma =>
                            go_wp2_with fail
                            refine (eqBoolS_same _ _ bs _ obh.bool obw).mono ?_
                            rintro e w26 ⟨rfl, hw26⟩
                            have hb26 := drawn_below hw26
                            have hs26 := hb26.size
                            replace b0 := b0.below hb26
                            replace b1 := b1.below hb26
                            replace o0 := o0.below hb26
                            replace oc0 := oc0.below hb26
                            replace ow := ow.below hb26
                            replace obw := obw.below hb26
                            replace ox := ox.below hb26
                            replace ob := ob.below hb26
                            replace og := og.below hb26
                            replace o2 := o2.below hb26
                            replace oc2 := oc2.below hb26
                            replace o3 := o3.below hb26
                            replace oc3 := oc3.below hb26
                            replace obh := obh.below hb26
                            replace oh := oh.below hb26
                            replace HB := below_step HB hb26 HB.size
                            clear hb26 hw26
                            as_aux_lemma =>
                             go_wp2_with fail
                             refine (heldPairS_any _ zs.length 1 _ og.prs (by omega) (by have := HZL.out; omega)).mono ?_
                             rintro e w27 ⟨rfl, hb27⟩
                             have hs27 := hb27.size
                             replace b0 := b0.below hb27
                             replace b1 := b1.below hb27
                             replace o0 := o0.below hb27
                             replace oc0 := oc0.below hb27
                             replace ow := ow.below hb27
                             replace obw := obw.below hb27
                             replace ox := ox.below hb27
                             replace ob := ob.below hb27
                             replace og := og.below hb27
                             replace o2 := o2.below hb27
                             replace oc2 := oc2.below hb27
                             replace o3 := o3.below hb27
                             replace oc3 := oc3.below hb27
                             replace obh := obh.below hb27
                             replace oh := oh.below hb27
                             replace HB := below_step HB hb27 HB.size
                             clear hb27
                             as_aux_lemma =>
                              go_wp2_with fail
                              refine (heldBoolS_any _ bs.length (1 + 2 * (zs.length : Int)) _ ob.bool (by omega) (by have := HZL.out; omega)).mono ?_
                              rintro e wh ⟨rfl, rfl⟩
                              as_aux_lemma =>
                               go_wp2_with fail
                               go_ret
                               exact ⟨rfl, HB⟩

/-! ### THE ROW's STEP -/
set_option maxRecDepth 100000 in
theorem lifted (os : Os) (started : os.Started) (H : Type) (enc : TypeId × Value → H) :
    ReturnsInHanded {} Try.checked os 13 .any (Rows.fnExactStoreApplyAllSpec.pre6 enc Try.prog Try.f13 Rows.fnExactStoreApplyAllRow.domain false) (Rows.fnExactStoreApplyAllSpec.post enc Try.prog Try.f13 false true false false) := by
  refine returnsInHanded_of_change (C := Try.checked) own started (by kernel_rfl) Try.func13
    (ChangeSpec.witness6 (enc := enc) (C := Try.checked) false ⟨#[], #[.slice none 0 0, .slice none 0 0], []⟩ 8 (by kernel_rfl) (by kernel_rfl) (by kernel_rfl) (by kernel_rfl)) ?_
  intro W base args ds gs before hval0 hW hcnd _
  have hval : ∀ (j : Nat) t v, Try.f13.params[j]? = some t → args[j]? = some v → Value.okWide Try.prog W .any base t v := hval0
  have hW' := hW
  obtain ⟨p, q, hA0, hV, rfl, hfz, hnd⟩ := hW
  have hA : DataW.TrodAll enc Try.prog W 0 (fun _ => true) true Try.f13.params.toList args.toList ds p := hA0
  rw [Try.params13] at hA hval
  obtain ⟨v0, vs0, d0, ds0, p0, q0, hargs, rfl, rfl, h0, r0⟩ := trodAll_cons hA
  obtain ⟨v1, vs1, d1, ds1, p1, q1, rfl, rfl, rfl, h1, r1⟩ := trodAll_cons r0
  obtain ⟨rfl, rfl, rfl⟩ := trodAll_nil r1
  obtain rfl : args = #[v0, v1] := by cases args; simp_all
  obtain ⟨rfl, rfl⟩ := trodVars_none hV
  obtain ⟨xs0, b0, wx0⟩ := pairs_in (hval 0 _ v0 rfl rfl) h0
  have lt0 := lt_in h0
  obtain ⟨cs1, b1, wx1⟩ := cmds_in (hval 1 _ v1 rfl rfl) h1
  have lt1 := lt_in h1
  clear hA0 hval0
  refine (walk_at W v0 xs0 b0 (fit_size wx0) v1 cs1 b1 (fit_cmds wx1)).mono fun e W' ⟨he, bel⟩ => ?_
  subst he
  exact ⟨_, rfl, _, _, _, [], _, [], hW', trodAll_mk1 (shut_bool Try.underlying4 _), (trodAll_cons_mk (Below.trod laidOut (by kernel_rfl) (of_decide_eq_true (by kernel_rfl)) h0 bel lt0) (trodAll_cons_mk (Below.trod laidOut (by kernel_rfl) (of_decide_eq_true (by kernel_rfl)) h1 bel lt1) trodAll_mk0)), rfl, bel.frame _, fun h => by cases h⟩

set_option maxRecDepth 100000 in
theorem closed : joinedFacts Try.prog 13 Try.f13 Rows.fnExactStoreApplyAllSpec Rows.fnExactStoreApplyAllRow = true := by
  unfold joinedFacts
  rw [may, lifts, mk]
  kernel_rfl
theorem over : Rows.fnExactStoreApplyAllRow.holds Try.pinned (OpenSpec.ofChange Rows.fnExactStoreApplyAllSpec) :=
  OpenClaim.holds_of_wide 13 Try.f13 rfl rfl rfl rfl rfl rfl rfl ⟨rfl, rfl, rfl, rfl, rfl⟩ rfl rfl rfl rfl rfl (by as_aux_lemma => kernel_rfl) Try.func13 closed
    (of_decide_eq_true (by as_aux_lemma => kernel_rfl)) (by unfold Func.isWrapper; rw [if_neg (of_decide_eq_false (by as_aux_lemma => kernel_rfl))]; exact ⟨rfl, rfl⟩)
    (fun os started H enc _ => lifted os started H enc)

/-- THE STATEMENT -/
theorem proved : Rows.FnExactStoreApplyAllSaid := over
end Go.Proofs.Ytpkhkmehpijngaa.fnExactStoreApplyAll
