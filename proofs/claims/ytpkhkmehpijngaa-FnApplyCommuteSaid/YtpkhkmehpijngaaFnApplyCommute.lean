/-
  For every input the law FnApplyCommute returns true, and what it was given reads afterwards as before. No condition beyond the row's own.
-/
import Derived.Test.YtpkhkmehpijngaaFrameP
import Derived.Test.YtpkhkmehpijngaaDrawA
import Derived.Test.YtpkhkmehpijngaaPlainA
import Derived.Test.YtpkhkmehpijngaaGetJ
import Derived.Deep.DeepCutAuto
import Derived.Deep.QuietTactic
import Derived.BigQuiet
namespace Go.Proofs.Ytpkhkmehpijngaa.fnApplyCommute
open Go.ChangeShapes Go.WideShapes Go.ChangeAt Go.RowKit
open Go.ChangeMaps (open_string shut_string)
set_option linter.unusedVariables false
theorem put_is {ps : List (ByteArray × Int)} {key : ByteArray} {v : Int} (hs : Good ps) (hk : isK key = true) (hv : isV v = true) : applyS ps 1 key v 0 = (withP ps key v, true) := by
  rw [applyS_good hs]
  unfold applyP
  rw [if_pos hk, if_pos rfl, if_pos hv]
theorem put_not {ps : List (ByteArray × Int)} {key : ByteArray} {v : Int} (hs : Good ps) (hk : isK key = false) : applyS ps 1 key v 0 = (ps, false) := by
  rw [applyS_good hs]
  unfold applyP
  rw [if_neg (by rw [hk]; simp)]
theorem commute_eq {ps zs us : List (ByteArray × Int)} {op : Int} {key dk : ByteArray} {val exp v : Int} {zb ub : Bool} (hs : Good ps) (hp : applyP ps op key val exp = (zs, zb)) (hk : isK dk = true) (hv : isV v = true) (hd : ¬ dk.toList = key.toList) (hu : applyP (withP ps dk v) op key val exp = (us, ub)) : us = withP zs dk v := by
  have hz : Good zs := by have := good_apply hs op key val exp; rw [hp] at this; exact this
  have hw := good_with hk hv hs
  have hus : Good us := by have := good_apply hw op key val exp; rw [hu] at this; exact this
  refine store_ext hus (good_with hk hv hz) fun k => ?_
  have h1 := apply_find hw op key val exp k
  have h2 := apply_find hs op key val exp k
  rw [hu] at h1
  rw [hp] at h2
  replace h1 : findP us k = _ := h1
  replace h2 : findP zs k = _ := h2
  rw [h1, find_with v hk hz, find_with v hk hs, find_with v hk hs, if_neg (fun h => hd (beq_iff_eq.1 h).symm), h2]
  by_cases e : k.toList = key.toList
  · rw [if_pos e, if_pos e, if_neg (fun h => hd ((beq_iff_eq.1 h).symm.trans e))]
  · rw [if_neg e, if_neg e]

set_option maxRecDepth 100000 in
set_option maxHeartbeats 8000000 in
theorem walk_at (w : World) (v0 : Value) (n0 : Nat) (b0 : Bytes w 0 w.heap.size v0 n0) (v1 : Value) (n1 : Nat) (b1 : Bytes w 0 w.heap.size v1 n1) :
    Calls Try.prog 5 #[v0, v1] w fun e w' => e = .returned (.bool true) ∧ Below w.heap.size w w' := by
  obtain ⟨a0, c0, hv0, hn0, hx0⟩ := b0.open
  clear hx0
  subst hv0
  by_cases big0 : n0 ≤ 1048576
  case neg =>
    go_enter Try.func5, Try.ntmps5
    go_wp2_with fail
    go_ret
    exact ⟨rfl, Below.refl _ _⟩
  obtain ⟨a1, c1, hv1, hn1, hx1⟩ := b1.open
  clear hx1
  subst hv1
  by_cases big1 : n1 ≤ 1048576
  case neg =>
    go_enter Try.func5, Try.ntmps5
    go_wp2_with fail
    go_ret
    exact ⟨rfl, Below.refl _ _⟩
  go_enter Try.func5, Try.ntmps5
  go_wp2_with fail
  have HB : Below w.heap.size w w := Below.refl _ _
  refine (DrawStoreApply_any _ n0 _ b0).mono ?_
  rintro e w1 ⟨sv, ps, op, key, val, exp, rfl, o, hlen, hk1, hb1⟩
  have hs1 := hb1.size
  replace b0 := b0.below hb1
  replace HB := below_step HB hb1 HB.size
  clear hb1
  obtain ⟨ao, co, hvo⟩ := o.form
  subst hvo
  have HL := Lib.hid (Nat.le_trans hlen (show 5 ≤ 1048576 by decide))
  have HK1 := Lib.hid (show key.size ≤ maxLen by unfold maxLen; omega)
  clear hlen hk1
  obtain ⟨zs, zb, hz⟩ : ∃ zs zb, applyS ps op key val exp = (zs, zb) := ⟨_, _, rfl⟩
  have HZ := Lib.hid hz; clear hz
  have hbb : (zb != zb) = false := by cases zb <;> rfl
  have hbe : (zb == zb) = true := by cases zb <;> rfl
  have hb2 : Below w1.heap.size w1 (w1.alloc (.cells #[.int .i64 op, .string key, .int .i64 val, .int .i64 exp] 25)) := (Below.refl _ _).alloc (Nat.le_refl _) _
  have hs2 := hb2.size
  replace b0 := b0.below hb2
  replace o := o.below hb2
  replace HB := below_step HB hb2 HB.size
  have kC := Blk.new w1 #[.int .i64 op, .string key, .int .i64 val, .int .i64 exp] 25
  have hl2 := kC.lt
  clear hb2
  have q77_kC0 := kC.cell 0 rfl
  have q78_kC1 := kC.cell 1 rfl
  have q79_kC2 := kC.cell 2 rfl
  have q80_kC3 := kC.cell 3 rfl
  as_aux_lemma =>
   go_wp2_with fail
   generalize w1.alloc (.cells #[.int .i64 op, .string key, .int .i64 val, .int .i64 exp] 25) = w2 at *
   generalize w1.heap.size = B2 at *
   clear q77_kC0 q78_kC1 q79_kC2 q80_kC3
   refine (specApply_eq _ ps op key val exp _ _ _ o.prs HL.out HZ.out).mono ?_
   rintro e w3 ⟨vow, rfl, ow, hb3⟩
   have hs3 := hb3.size
   replace b0 := b0.below hb3
   replace o := o.below hb3
   replace kC := kC.below hb3
   replace HB := below_step HB hb3 HB.size
   clear hb3
   obtain ⟨aow, cow, hvow⟩ := ow.form
   subst hvow
   have q81_kC0 := kC.cell 0 rfl
   have q82_kC1 := kC.cell 1 rfl
   have q83_kC2 := kC.cell 2 rfl
   have q84_kC3 := kC.cell 3 rfl
   as_aux_lemma =>
    go_wp2_with fail
    clear q81_kC0 q82_kC1 q83_kC2 q84_kC3
    refine (implApply_eq _ ps op key val exp _ _ _ o.prs HL.out HK1.out HZ.out).mono ?_
    rintro e w4 ⟨vox, rfl, ox, hb4⟩
    have hs4 := hb4.size
    replace b0 := b0.below hb4
    replace o := o.below hb4
    replace ow := ow.below hb4
    replace kC := kC.below hb4
    replace HB := below_step HB hb4 HB.size
    clear hb4
    obtain ⟨aox, cox, hvox⟩ := ox.form
    subst hvox
    have q85_kC0 := kC.cell 0 rfl
    have q86_kC1 := kC.cell 1 rfl
    have q87_kC2 := kC.cell 2 rfl
    have q88_kC3 := kC.cell 3 rfl
    as_aux_lemma =>
     go_wp2_with fail
     clear q85_kC0 q86_kC1 q87_kC2 q88_kC3
     refine (samePairs_same _ _ zs _ ox.prs ow.prs).mono ?_
     rintro e w5 ⟨rfl, hw5⟩
     have hb5 := drawn_below hw5
     have hs5 := hb5.size
     replace b0 := b0.below hb5
     replace o := o.below hb5
     replace ow := ow.below hb5
     replace ox := ox.below hb5
     replace kC := kC.below hb5
     replace HB := below_step HB hb5 HB.size
     clear hb5 hw5
     have q89_kC0 := kC.cell 0 rfl
     have q90_kC1 := kC.cell 1 rfl
     have q91_kC2 := kC.cell 2 rfl
     have q92_kC3 := kC.cell 3 rfl
     as_aux_lemma =>
      go_wp2_with fail
      cases hv : storeOk ps
      · have HV := Lib.hid hv; clear hv
        clear q89_kC0 q90_kC1 q91_kC2 q92_kC3
        refine (specStoreValid_any _ ps _ o.prs false HV.out).mono ?_
        rintro e w6 ⟨rfl, hw6⟩
        have hb6 := drawn_below hw6
        have hs6 := hb6.size
        replace b0 := b0.below hb6
        replace o := o.below hb6
        replace ow := ow.below hb6
        replace ox := ox.below hb6
        replace kC := kC.below hb6
        replace HB := below_step HB hb6 HB.size
        clear hb6 hw6
        have q93_kC0 := kC.cell 0 rfl
        have q94_kC1 := kC.cell 1 rfl
        have q95_kC2 := kC.cell 2 rfl
        have q96_kC3 := kC.cell 3 rfl
        as_aux_lemma =>
         go_wp2_with fail
         clear q93_kC0 q94_kC1 q95_kC2 q96_kC3
         refine (samePairs_same _ _ zs _ ox.prs ow.prs).mono ?_
         rintro e w7 ⟨rfl, hw7⟩
         have hb7 := drawn_below hw7
         have hs7 := hb7.size
         replace b0 := b0.below hb7
         replace o := o.below hb7
         replace ow := ow.below hb7
         replace ox := ox.below hb7
         replace kC := kC.below hb7
         replace HB := below_step HB hb7 HB.size
         clear hb7 hw7
         have q97_kC0 := kC.cell 0 rfl
         have q98_kC1 := kC.cell 1 rfl
         have q99_kC2 := kC.cell 2 rfl
         have q100_kC3 := kC.cell 3 rfl
         as_aux_lemma =>
          go_wp2_with fail
          go_ret
          exact ⟨rfl, HB⟩
      · have HV := Lib.hid hv
        have HG := Lib.hid (good_of hv); clear hv
        have HP : Hid (applyP ps op key val exp = (zs, zb)) := Lib.hid (by rw [← applyS_good HG.out]; exact HZ.out)
        have HGZ : Hid (Good zs) := Lib.hid (by have := good_apply HG.out op key val exp; rw [HP.out] at this; exact this)
        have HZL := Lib.hid (Nat.le_trans (good_len HGZ.out) (show 6 ≤ 1048576 by decide))
        clear hbb hbe
        clear q89_kC0 q90_kC1 q91_kC2 q92_kC3
        refine (specStoreValid_any _ ps _ o.prs true HV.out).mono ?_
        rintro e w6 ⟨rfl, hw6⟩
        have hb6 := drawn_below hw6
        have hs6 := hb6.size
        replace b0 := b0.below hb6
        replace o := o.below hb6
        replace ow := ow.below hb6
        replace ox := ox.below hb6
        replace kC := kC.below hb6
        replace HB := below_step HB hb6 HB.size
        clear hb6 hw6
        obtain ⟨m, hm⟩ : ∃ m : Nat, n1 % 99 = m := ⟨_, rfl⟩
        have hrem : (n1 : Int).tmod 99 = (m : Int) := by rw [Int.tmod_eq_emod_of_nonneg (by omega)]; omega
        have hm99 : m < 99 := by omega
        have hwm : IntKind.i64.wrap (1 + (m : Int)) = 1 + (m : Int) := wrap_i64 (by omega) (by omega)
        have HVM := Lib.hid (show isV (1 + (m : Int)) = true by unfold isV inB; simp; omega)
        clear hm
        have q101_kC0 := kC.cell 0 rfl
        have q102_kC1 := kC.cell 1 rfl
        have q103_kC2 := kC.cell 2 rfl
        have q104_kC3 := kC.cell 3 rfl
        as_aux_lemma =>
         go_wp2_with fail
         refine (keyOf_any (n1 : Int) _ (by omega) (by omega)).mono ?_
         rintro e wq ⟨rfl, rfl⟩
         have HKD := Lib.hid (And.intro (letter_isK ((n1 : Int).toNat % 6) (by omega)) (letter_len ((n1 : Int).toNat % 6)))
         generalize letter ((n1 : Int).toNat % 6) = dk at *
         have q105_kC0 := kC.cell 0 rfl
         have q106_kC1 := kC.cell 1 rfl
         have q107_kC2 := kC.cell 2 rfl
         have q108_kC3 := kC.cell 3 rfl
         have hb7 : Below w6.heap.size w6 (w6.alloc (.cells #[.int .i64 1, .string dk, .int .i64 (1 + (m : Int)), .int .i64 0] 25)) := (Below.refl _ _).alloc (Nat.le_refl _) _
         have hs7 := hb7.size
         replace b0 := b0.below hb7
         replace o := o.below hb7
         replace ow := ow.below hb7
         replace ox := ox.below hb7
         replace kC := kC.below hb7
         replace HB := below_step HB hb7 HB.size
         have kD := Blk.new w6 #[.int .i64 1, .string dk, .int .i64 (1 + (m : Int)), .int .i64 0] 25
         have hl7 := kD.lt
         clear hb7
         have q109_kC0 := kC.cell 0 rfl
         have q110_kC1 := kC.cell 1 rfl
         have q111_kC2 := kC.cell 2 rfl
         have q112_kC3 := kC.cell 3 rfl
         have q113_kD0 := kD.cell 0 rfl
         have q114_kD1 := kD.cell 1 rfl
         have q115_kD2 := kD.cell 2 rfl
         have q116_kD3 := kD.cell 3 rfl
         as_aux_lemma =>
          go_wp2_with fail
          generalize w6.alloc (.cells #[.int .i64 1, .string dk, .int .i64 (1 + (m : Int)), .int .i64 0] 25) = w7 at *
          generalize w6.heap.size = B7 at *
          clear q101_kC0 q102_kC1 q103_kC2 q104_kC3 q105_kC0 q106_kC1 q107_kC2 q108_kC3 q109_kC0 q110_kC1 q111_kC2 q112_kC3 q113_kD0 q114_kD1 q115_kD2 q116_kD3
          have HY := Lib.hid (put_is HGZ.out HKD.out.1 HVM.out)
          have HU := Lib.hid (put_is HG.out HKD.out.1 HVM.out)
          have HGW := Lib.hid (good_with HKD.out.1 HVM.out HG.out)
          have HWL := Lib.hid (Nat.le_trans (good_len HGW.out) (show 6 ≤ 1048576 by decide))
          obtain ⟨us, ub, hu⟩ : ∃ us ub, applyS (withP ps dk (1 + (m : Int))) op key val exp = (us, ub) := ⟨_, _, rfl⟩
          have HQ : Hid (¬ dk.toList = key.toList → us = withP zs dk (1 + (m : Int))) := fun h => commute_eq HG.out HP.out HKD.out.1 HVM.out h (by rw [← applyS_good HGW.out]; exact hu)
          have HUU := Lib.hid hu
          clear hu
          generalize withP ps dk (1 + (m : Int)) = ws at *
          generalize withP zs dk (1 + (m : Int)) = ys at *
          refine (implApply_eq _ zs 1 dk (1 + (m : Int)) 0 _ _ _ ox.prs HZL.out HKD.out.2 HY.out).mono ?_
          rintro e w8 ⟨voy, rfl, oy, hb8⟩
          have hs8 := hb8.size
          replace b0 := b0.below hb8
          replace o := o.below hb8
          replace ow := ow.below hb8
          replace ox := ox.below hb8
          replace kC := kC.below hb8
          replace kD := kD.below hb8
          replace HB := below_step HB hb8 HB.size
          clear hb8
          obtain ⟨aoy, coy, hvoy⟩ := oy.form
          subst hvoy
          have q117_kC0 := kC.cell 0 rfl
          have q118_kC1 := kC.cell 1 rfl
          have q119_kC2 := kC.cell 2 rfl
          have q120_kC3 := kC.cell 3 rfl
          have q121_kD0 := kD.cell 0 rfl
          have q122_kD1 := kD.cell 1 rfl
          have q123_kD2 := kD.cell 2 rfl
          have q124_kD3 := kD.cell 3 rfl
          as_aux_lemma =>
           go_wp2_with fail
           clear q117_kC0 q118_kC1 q119_kC2 q120_kC3 q121_kD0 q122_kD1 q123_kD2 q124_kD3
           refine (implApply_eq _ ps 1 dk (1 + (m : Int)) 0 _ _ _ o.prs HL.out HKD.out.2 HU.out).mono ?_
           rintro e w9 ⟨voz, rfl, oz, hb9⟩
           have hs9 := hb9.size
           replace b0 := b0.below hb9
           replace o := o.below hb9
           replace ow := ow.below hb9
           replace ox := ox.below hb9
           replace oy := oy.below hb9
           replace kC := kC.below hb9
           replace kD := kD.below hb9
           replace HB := below_step HB hb9 HB.size
           clear hb9
           obtain ⟨aoz, coz, hvoz⟩ := oz.form
           subst hvoz
           have q125_kC0 := kC.cell 0 rfl
           have q126_kC1 := kC.cell 1 rfl
           have q127_kC2 := kC.cell 2 rfl
           have q128_kC3 := kC.cell 3 rfl
           have q129_kD0 := kD.cell 0 rfl
           have q130_kD1 := kD.cell 1 rfl
           have q131_kD2 := kD.cell 2 rfl
           have q132_kD3 := kD.cell 3 rfl
           as_aux_lemma =>
            go_wp2_with fail
            clear q125_kC0 q126_kC1 q127_kC2 q128_kC3 q129_kD0 q130_kD1 q131_kD2 q132_kD3
            refine (implApply_eq _ ws op key val exp _ _ _ oz.prs HWL.out HK1.out HUU.out).mono ?_
            rintro e w10 ⟨vou, rfl, ou, hb10⟩
            have hs10 := hb10.size
            replace b0 := b0.below hb10
            replace o := o.below hb10
            replace ow := ow.below hb10
            replace ox := ox.below hb10
            replace oy := oy.below hb10
            replace oz := oz.below hb10
            replace kC := kC.below hb10
            replace kD := kD.below hb10
            replace HB := below_step HB hb10 HB.size
            clear hb10
            obtain ⟨aou, cou, hvou⟩ := ou.form
            subst hvou
            by_cases hd : dk.toList = key.toList
            · have hdb : (dk.toList == key.toList) = true := beq_iff_eq.2 hd
              clear hd
              have q133_kC0 := kC.cell 0 rfl
              have q134_kC1 := kC.cell 1 rfl
              have q135_kC2 := kC.cell 2 rfl
              have q136_kC3 := kC.cell 3 rfl
              have q137_kD0 := kD.cell 0 rfl
              have q138_kD1 := kD.cell 1 rfl
              have q139_kD2 := kD.cell 2 rfl
              have q140_kD3 := kD.cell 3 rfl
              as_aux_lemma =>
               go_wp2_with fail
               go_ret
               exact ⟨rfl, HB⟩
            · have hdb : (dk.toList == key.toList) = false := beq_eq_false_iff_ne.2 hd
              obtain rfl := HQ.out hd
              clear hd
              have q141_kC0 := kC.cell 0 rfl
              have q142_kC1 := kC.cell 1 rfl
              have q143_kC2 := kC.cell 2 rfl
              have q144_kC3 := kC.cell 3 rfl
              have q145_kD0 := kD.cell 0 rfl
              have q146_kD1 := kD.cell 1 rfl
              have q147_kD2 := kD.cell 2 rfl
              have q148_kD3 := kD.cell 3 rfl
              as_aux_lemma =>
               go_wp2_with fail
               clear q141_kC0 q142_kC1 q143_kC2 q144_kC3 q145_kD0 q146_kD1 q147_kD2 q148_kD3
               refine (samePairs_same _ _ us _ oy.prs ou.prs).mono ?_
               rintro e w11 ⟨rfl, hw11⟩
               have hb11 := drawn_below hw11
               have hs11 := hb11.size
               replace b0 := b0.below hb11
               replace o := o.below hb11
               replace ow := ow.below hb11
               replace ox := ox.below hb11
               replace oy := oy.below hb11
               replace oz := oz.below hb11
               replace ou := ou.below hb11
               replace kC := kC.below hb11
               replace kD := kD.below hb11
               replace HB := below_step HB hb11 HB.size
               clear hb11 hw11
               have q149_kC0 := kC.cell 0 rfl
               have q150_kC1 := kC.cell 1 rfl
               have q151_kC2 := kC.cell 2 rfl
               have q152_kC3 := kC.cell 3 rfl
               have q153_kD0 := kD.cell 0 rfl
               have q154_kD1 := kD.cell 1 rfl
               have q155_kD2 := kD.cell 2 rfl
               have q156_kD3 := kD.cell 3 rfl
               as_aux_lemma =>
                go_wp2_with fail
                go_ret
                exact ⟨rfl, HB⟩

/-! ### THE ROW's STEP -/
set_option maxRecDepth 100000 in
theorem lifted (os : Os) (started : os.Started) (H : Type) (enc : TypeId × Value → H) :
    ReturnsInHanded {} Try.checked os 5 .any (Rows.fnApplyCommuteSpec.pre6 enc Try.prog Try.f5 Rows.fnApplyCommuteRow.domain false) (Rows.fnApplyCommuteSpec.post enc Try.prog Try.f5 false true false false) := by
  refine returnsInHanded_of_change (C := Try.checked) own started (by kernel_rfl) Try.func5
    (ChangeSpec.witness6 (enc := enc) (C := Try.checked) false ⟨#[], #[.slice none 0 0, .slice none 0 0], []⟩ 8 (by kernel_rfl) (by kernel_rfl) (by kernel_rfl) (by kernel_rfl)) ?_
  intro W base args ds gs before hval0 hW hcnd _
  have hval : ∀ (j : Nat) t v, Try.f5.params[j]? = some t → args[j]? = some v → Value.okWide Try.prog W .any base t v := hval0
  have hW' := hW
  obtain ⟨p, q, hA0, hV, rfl, hfz, hnd⟩ := hW
  have hA : DataW.TrodAll enc Try.prog W 0 (fun _ => true) true Try.f5.params.toList args.toList ds p := hA0
  rw [Try.params5] at hA hval
  obtain ⟨v0, vs0, d0, ds0, p0, q0, hargs, rfl, rfl, h0, r0⟩ := trodAll_cons hA
  obtain ⟨v1, vs1, d1, ds1, p1, q1, rfl, rfl, rfl, h1, r1⟩ := trodAll_cons r0
  obtain ⟨rfl, rfl, rfl⟩ := trodAll_nil r1
  obtain rfl : args = #[v0, v1] := by cases args; simp_all
  obtain ⟨rfl, rfl⟩ := trodVars_none hV
  obtain ⟨n0, b0⟩ := bytes_in (hval 0 _ v0 rfl rfl) h0
  have lt0 := lt_in h0
  obtain ⟨n1, b1⟩ := bytes_in (hval 1 _ v1 rfl rfl) h1
  have lt1 := lt_in h1
  clear hA0 hval0
  refine (walk_at W v0 n0 b0 v1 n1 b1).mono fun e W' ⟨he, bel⟩ => ?_
  subst he
  exact ⟨_, rfl, _, _, _, [], _, [], hW', trodAll_mk1 (shut_bool Try.underlying4 _), (trodAll_cons_mk (Below.trod laidOut (by kernel_rfl) (of_decide_eq_true (by kernel_rfl)) h0 bel lt0) (trodAll_cons_mk (Below.trod laidOut (by kernel_rfl) (of_decide_eq_true (by kernel_rfl)) h1 bel lt1) trodAll_mk0)), rfl, bel.frame _, fun h => by cases h⟩

set_option maxRecDepth 100000 in
theorem closed : joinedFacts Try.prog 5 Try.f5 Rows.fnApplyCommuteSpec Rows.fnApplyCommuteRow = true := by
  unfold joinedFacts
  rw [may, lifts, mk]
  kernel_rfl
theorem over : Rows.fnApplyCommuteRow.holds Try.pinned (OpenSpec.ofChange Rows.fnApplyCommuteSpec) :=
  OpenClaim.holds_of_wide 5 Try.f5 rfl rfl rfl rfl rfl rfl rfl ⟨rfl, rfl, rfl, rfl, rfl⟩ rfl rfl rfl rfl rfl (by as_aux_lemma => kernel_rfl) Try.func5 closed
    (of_decide_eq_true (by as_aux_lemma => kernel_rfl)) (by unfold Func.isWrapper; rw [if_neg (of_decide_eq_false (by as_aux_lemma => kernel_rfl))]; exact ⟨rfl, rfl⟩)
    (fun os started H enc _ => lifted os started H enc)

/-- THE STATEMENT -/
theorem proved : Rows.FnApplyCommuteSaid := over
end Go.Proofs.Ytpkhkmehpijngaa.fnApplyCommute
