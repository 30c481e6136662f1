/-
  For every input the law FnApplyOverwrite returns true, and what it was given reads afterwards as before. No condition beyond the row's own.
-/
import Derived.Test.YtpkhkmehpijngaaFrameP
import Derived.Test.YtpkhkmehpijngaaDrawA
import Derived.Test.YtpkhkmehpijngaaPlainA
import Derived.Test.YtpkhkmehpijngaaGetJ
import Derived.Deep.DeepCutAuto
import Derived.Deep.QuietTactic
import Derived.BigQuiet
namespace Go.Proofs.Ytpkhkmehpijngaa.fnApplyOverwrite
open Go.ChangeShapes Go.WideShapes Go.ChangeAt Go.RowKit
open Go.ChangeMaps (open_string shut_string)
set_option linter.unusedVariables false
theorem put_is {ps : List (ByteArray × Int)} {key : ByteArray} {v : Int} (hs : Good ps) (hk : isK key = true) (hv : isV v = true) : applyS ps 1 key v 0 = (withP ps key v, true) := by
  rw [applyS_good hs]
  unfold applyP
  rw [if_pos hk, if_pos rfl, if_pos hv]
theorem put_not {ps : List (ByteArray × Int)} {key : ByteArray} {v : Int} (hs : Good ps) (hk : isK key = false) : applyS ps 1 key v 0 = (ps, false) := by
  rw [applyS_good hs]
  unfold applyP
  rw [if_neg (by rw [hk]; simp)]
theorem over_eq {ps zs : List (ByteArray × Int)} {op : Int} {key : ByteArray} {val exp v : Int} {zb : Bool} (hs : Good ps) (hp : applyP ps op key val exp = (zs, zb)) (hk : isK key = true) (hv : isV v = true) : withP zs key v = withP ps key v := by
  have hz : Good zs := by have := good_apply hs op key val exp; rw [hp] at this; exact this
  refine store_ext (good_with hk hv hz) (good_with hk hv hs) fun k => ?_
  rw [find_with v hk hz, find_with v hk hs]
  by_cases e : k.toList = key.toList
  · rw [if_pos (beq_iff_eq.2 e), if_pos (beq_iff_eq.2 e)]
  · rw [if_neg (fun h => e (beq_iff_eq.1 h)), if_neg (fun h => e (beq_iff_eq.1 h))]
    have := apply_find hs op key val exp k
    rw [hp, if_neg e] at this
    exact this

set_option maxRecDepth 100000 in
set_option maxHeartbeats 8000000 in
theorem walk_at (w : World) (v0 : Value) (n0 : Nat) (b0 : Bytes w 0 w.heap.size v0 n0) (v1 : Value) (n1 : Nat) (b1 : Bytes w 0 w.heap.size v1 n1) :
    Calls Try.prog 4 #[v0, v1] w fun e w' => e = .returned (.bool true) ∧ Below w.heap.size w w' := by
  obtain ⟨a0, c0, hv0, hn0, hx0⟩ := b0.open
  clear hx0
  subst hv0
  by_cases big0 : n0 ≤ 1048576
  case neg =>
    go_enter Try.func4, Try.ntmps4
    go_wp2_with fail
    go_ret
    exact ⟨rfl, Below.refl _ _⟩
  obtain ⟨a1, c1, hv1, hn1, hx1⟩ := b1.open
  clear hx1
  subst hv1
  by_cases big1 : n1 ≤ 1048576
  case neg =>
    go_enter Try.func4, Try.ntmps4
    go_wp2_with fail
    go_ret
    exact ⟨rfl, Below.refl _ _⟩
  go_enter Try.func4, Try.ntmps4
  go_wp2_with fail
  have HB : Below w.heap.size w w := Below.refl _ _
  refine (DrawStoreApply_any _ n0 _ b0).mono ?_
  rintro e w1 ⟨sv, ps, op, key, val, exp, rfl, o, hlen, hk1, hb1⟩
  have hs1 := hb1.size
  replace b0 := b0.below hb1
  replace HB := below_step HB hb1 HB.size
  clear hb1
  obtain ⟨ao, co, hvo⟩ := o.form
  subst hvo
  have HL := Lib.hid (Nat.le_trans hlen (show 5 ≤ 1048576 by decide))
  have HK1 := Lib.hid (show key.size ≤ maxLen by unfold maxLen; omega)
  clear hlen hk1
  obtain ⟨zs, zb, hz⟩ : ∃ zs zb, applyS ps op key val exp = (zs, zb) := ⟨_, _, rfl⟩
  have HZ := Lib.hid hz; clear hz
  have hbb : (zb != zb) = false := by cases zb <;> rfl
  have hbe : (zb == zb) = true := by cases zb <;> rfl
  have hb2 : Below w1.heap.size w1 (w1.alloc (.cells #[.int .i64 op, .string key, .int .i64 val, .int .i64 exp] 25)) := (Below.refl _ _).alloc (Nat.le_refl _) _
  have hs2 := hb2.size
  replace b0 := b0.below hb2
  replace o := o.below hb2
  replace HB := below_step HB hb2 HB.size
  have kC := Blk.new w1 #[.int .i64 op, .string key, .int .i64 val, .int .i64 exp] 25
  have hl2 := kC.lt
  clear hb2
  have q1_kC0 := kC.cell 0 rfl
  have q2_kC1 := kC.cell 1 rfl
  have q3_kC2 := kC.cell 2 rfl
  have q4_kC3 := kC.cell 3 rfl
  as_aux_lemma =>
   go_wp2_with fail
   generalize w1.alloc (.cells #[.int .i64 op, .string key, .int .i64 val, .int .i64 exp] 25) = w2 at *
   generalize w1.heap.size = B2 at *
   clear q1_kC0 q2_kC1 q3_kC2 q4_kC3
   refine (specApply_eq _ ps op key val exp _ _ _ o.prs HL.out HZ.out).mono ?_
   rintro e w3 ⟨vow, rfl, ow, hb3⟩
   have hs3 := hb3.size
   replace b0 := b0.below hb3
   replace o := o.below hb3
   replace kC := kC.below hb3
   replace HB := below_step HB hb3 HB.size
   clear hb3
   obtain ⟨aow, cow, hvow⟩ := ow.form
   subst hvow
   have q5_kC0 := kC.cell 0 rfl
   have q6_kC1 := kC.cell 1 rfl
   have q7_kC2 := kC.cell 2 rfl
   have q8_kC3 := kC.cell 3 rfl
   as_aux_lemma =>
    go_wp2_with fail
    clear q5_kC0 q6_kC1 q7_kC2 q8_kC3
    refine (implApply_eq _ ps op key val exp _ _ _ o.prs HL.out HK1.out HZ.out).mono ?_
    rintro e w4 ⟨vox, rfl, ox, hb4⟩
    have hs4 := hb4.size
    replace b0 := b0.below hb4
    replace o := o.below hb4
    replace ow := ow.below hb4
    replace kC := kC.below hb4
    replace HB := below_step HB hb4 HB.size
    clear hb4
    obtain ⟨aox, cox, hvox⟩ := ox.form
    subst hvox
    have q9_kC0 := kC.cell 0 rfl
    have q10_kC1 := kC.cell 1 rfl
    have q11_kC2 := kC.cell 2 rfl
    have q12_kC3 := kC.cell 3 rfl
    as_aux_lemma =>
     go_wp2_with fail
     clear q9_kC0 q10_kC1 q11_kC2 q12_kC3
     refine (samePairs_same _ _ zs _ ox.prs ow.prs).mono ?_
     rintro e w5 ⟨rfl, hw5⟩
     have hb5 := drawn_below hw5
     have hs5 := hb5.size
     replace b0 := b0.below hb5
     replace o := o.below hb5
     replace ow := ow.below hb5
     replace ox := ox.below hb5
     replace kC := kC.below hb5
     replace HB := below_step HB hb5 HB.size
     clear hb5 hw5
     have q13_kC0 := kC.cell 0 rfl
     have q14_kC1 := kC.cell 1 rfl
     have q15_kC2 := kC.cell 2 rfl
     have q16_kC3 := kC.cell 3 rfl
     as_aux_lemma =>
      go_wp2_with fail
      cases hv : storeOk ps
      · have HV := Lib.hid hv; clear hv
        clear q13_kC0 q14_kC1 q15_kC2 q16_kC3
        refine (specStoreValid_any _ ps _ o.prs false HV.out).mono ?_
        rintro e w6 ⟨rfl, hw6⟩
        have hb6 := drawn_below hw6
        have hs6 := hb6.size
        replace b0 := b0.below hb6
        replace o := o.below hb6
        replace ow := ow.below hb6
        replace ox := ox.below hb6
        replace kC := kC.below hb6
        replace HB := below_step HB hb6 HB.size
        clear hb6 hw6
        have q17_kC0 := kC.cell 0 rfl
        have q18_kC1 := kC.cell 1 rfl
        have q19_kC2 := kC.cell 2 rfl
        have q20_kC3 := kC.cell 3 rfl
        as_aux_lemma =>
         go_wp2_with fail
         clear q17_kC0 q18_kC1 q19_kC2 q20_kC3
         refine (samePairs_same _ _ zs _ ox.prs ow.prs).mono ?_
         rintro e w7 ⟨rfl, hw7⟩
         have hb7 := drawn_below hw7
         have hs7 := hb7.size
         replace b0 := b0.below hb7
         replace o := o.below hb7
         replace ow := ow.below hb7
         replace ox := ox.below hb7
         replace kC := kC.below hb7
         replace HB := below_step HB hb7 HB.size
         clear hb7 hw7
         have q21_kC0 := kC.cell 0 rfl
         have q22_kC1 := kC.cell 1 rfl
         have q23_kC2 := kC.cell 2 rfl
         have q24_kC3 := kC.cell 3 rfl
         as_aux_lemma =>
          go_wp2_with fail
          go_ret
          exact ⟨rfl, HB⟩
      · have HV := Lib.hid hv
        have HG := Lib.hid (good_of hv); clear hv
        have HP : Hid (applyP ps op key val exp = (zs, zb)) := Lib.hid (by rw [← applyS_good HG.out]; exact HZ.out)
        have HGZ : Hid (Good zs) := Lib.hid (by have := good_apply HG.out op key val exp; rw [HP.out] at this; exact this)
        have HZL := Lib.hid (Nat.le_trans (good_len HGZ.out) (show 6 ≤ 1048576 by decide))
        clear hbb hbe
        clear q13_kC0 q14_kC1 q15_kC2 q16_kC3
        refine (specStoreValid_any _ ps _ o.prs true HV.out).mono ?_
        rintro e w6 ⟨rfl, hw6⟩
        have hb6 := drawn_below hw6
        have hs6 := hb6.size
        replace b0 := b0.below hb6
        replace o := o.below hb6
        replace ow := ow.below hb6
        replace ox := ox.below hb6
        replace kC := kC.below hb6
        replace HB := below_step HB hb6 HB.size
        clear hb6 hw6
        obtain ⟨m, hm⟩ : ∃ m : Nat, n1 % 99 = m := ⟨_, rfl⟩
        have hrem : (n1 : Int).tmod 99 = (m : Int) := by rw [Int.tmod_eq_emod_of_nonneg (by omega)]; omega
        have hm99 : m < 99 := by omega
        have hwm : IntKind.i64.wrap (1 + (m : Int)) = 1 + (m : Int) := wrap_i64 (by omega) (by omega)
        have HVM := Lib.hid (show isV (1 + (m : Int)) = true by unfold isV inB; simp; omega)
        clear hm
        have q25_kC0 := kC.cell 0 rfl
        have q26_kC1 := kC.cell 1 rfl
        have q27_kC2 := kC.cell 2 rfl
        have q28_kC3 := kC.cell 3 rfl
        have hb7 : Below w6.heap.size w6 (w6.alloc (.cells #[.int .i64 1, .string key, .int .i64 (1 + (m : Int)), .int .i64 0] 25)) := (Below.refl _ _).alloc (Nat.le_refl _) _
        have hs7 := hb7.size
        replace b0 := b0.below hb7
        replace o := o.below hb7
        replace ow := ow.below hb7
        replace ox := ox.below hb7
        replace kC := kC.below hb7
        replace HB := below_step HB hb7 HB.size
        have kD := Blk.new w6 #[.int .i64 1, .string key, .int .i64 (1 + (m : Int)), .int .i64 0] 25
        have hl7 := kD.lt
        clear hb7
        have q29_kC0 := kC.cell 0 rfl
        have q30_kC1 := kC.cell 1 rfl
        have q31_kC2 := kC.cell 2 rfl
        have q32_kC3 := kC.cell 3 rfl
        have q33_kD0 := kD.cell 0 rfl
        have q34_kD1 := kD.cell 1 rfl
        have q35_kD2 := kD.cell 2 rfl
        have q36_kD3 := kD.cell 3 rfl
        as_aux_lemma =>
         go_wp2_with fail
         generalize w6.alloc (.cells #[.int .i64 1, .string key, .int .i64 (1 + (m : Int)), .int .i64 0] 25) = w7 at *
         generalize w6.heap.size = B7 at *
         clear q25_kC0 q26_kC1 q27_kC2 q28_kC3 q29_kC0 q30_kC1 q31_kC2 q32_kC3 q33_kD0 q34_kD1 q35_kD2 q36_kD3
         cases hk : isK key
         · have HY := Lib.hid (put_not (v := 1 + (m : Int)) HGZ.out hk)
           have HU := Lib.hid (put_not (v := 1 + (m : Int)) HG.out hk)
           clear hk
           refine (implApply_eq _ zs 1 key (1 + (m : Int)) 0 _ _ _ ox.prs HZL.out HK1.out HY.out).mono ?_
           rintro e w8 ⟨voy, rfl, oy, hb8⟩
           have hs8 := hb8.size
           replace b0 := b0.below hb8
           replace o := o.below hb8
           replace ow := ow.below hb8
           replace ox := ox.below hb8
           replace kC := kC.below hb8
           replace kD := kD.below hb8
           replace HB := below_step HB hb8 HB.size
           clear hb8
           obtain ⟨aoy, coy, hvoy⟩ := oy.form
           subst hvoy
           have q37_kC0 := kC.cell 0 rfl
           have q38_kC1 := kC.cell 1 rfl
           have q39_kC2 := kC.cell 2 rfl
           have q40_kC3 := kC.cell 3 rfl
           have q41_kD0 := kD.cell 0 rfl
           have q42_kD1 := kD.cell 1 rfl
           have q43_kD2 := kD.cell 2 rfl
           have q44_kD3 := kD.cell 3 rfl
           as_aux_lemma =>
            go_wp2_with fail
            clear q37_kC0 q38_kC1 q39_kC2 q40_kC3 q41_kD0 q42_kD1 q43_kD2 q44_kD3
            refine (implApply_eq _ ps 1 key (1 + (m : Int)) 0 _ _ _ o.prs HL.out HK1.out HU.out).mono ?_
            rintro e w9 ⟨vou, rfl, ou, hb9⟩
            have hs9 := hb9.size
            replace b0 := b0.below hb9
            replace o := o.below hb9
            replace ow := ow.below hb9
            replace ox := ox.below hb9
            replace oy := oy.below hb9
            replace kC := kC.below hb9
            replace kD := kD.below hb9
            replace HB := below_step HB hb9 HB.size
            clear hb9
            obtain ⟨aou, cou, hvou⟩ := ou.form
            subst hvou
            have q45_kC0 := kC.cell 0 rfl
            have q46_kC1 := kC.cell 1 rfl
            have q47_kC2 := kC.cell 2 rfl
            have q48_kC3 := kC.cell 3 rfl
            have q49_kD0 := kD.cell 0 rfl
            have q50_kD1 := kD.cell 1 rfl
            have q51_kD2 := kD.cell 2 rfl
            have q52_kD3 := kD.cell 3 rfl
            as_aux_lemma =>
             go_wp2_with fail
             go_ret
             exact ⟨rfl, HB⟩
         · have hwe := over_eq HG.out HP.out hk HVM.out
           have HY := Lib.hid (put_is HGZ.out hk HVM.out)
           have HU := Lib.hid (put_is HG.out hk HVM.out)
           rw [hwe] at HY
           clear hk hwe
           generalize withP ps key (1 + (m : Int)) = ys at *
           refine (implApply_eq _ zs 1 key (1 + (m : Int)) 0 _ _ _ ox.prs HZL.out HK1.out HY.out).mono ?_
           rintro e w8 ⟨voy, rfl, oy, hb8⟩
           have hs8 := hb8.size
           replace b0 := b0.below hb8
           replace o := o.below hb8
           replace ow := ow.below hb8
           replace ox := ox.below hb8
           replace kC := kC.below hb8
           replace kD := kD.below hb8
           replace HB := below_step HB hb8 HB.size
           clear hb8
           obtain ⟨aoy, coy, hvoy⟩ := oy.form
           subst hvoy
           have q53_kC0 := kC.cell 0 rfl
           have q54_kC1 := kC.cell 1 rfl
           have q55_kC2 := kC.cell 2 rfl
           have q56_kC3 := kC.cell 3 rfl
           have q57_kD0 := kD.cell 0 rfl
           have q58_kD1 := kD.cell 1 rfl
           have q59_kD2 := kD.cell 2 rfl
           have q60_kD3 := kD.cell 3 rfl
           as_aux_lemma =>
            go_wp2_with fail
            clear q53_kC0 q54_kC1 q55_kC2 q56_kC3 q57_kD0 q58_kD1 q59_kD2 q60_kD3
            refine (implApply_eq _ ps 1 key (1 + (m : Int)) 0 _ _ _ o.prs HL.out HK1.out HU.out).mono ?_
            rintro e w9 ⟨vou, rfl, ou, hb9⟩
            have hs9 := hb9.size
            replace b0 := b0.below hb9
            replace o := o.below hb9
            replace ow := ow.below hb9
            replace ox := ox.below hb9
            replace oy := oy.below hb9
            replace kC := kC.below hb9
            replace kD := kD.below hb9
            replace HB := below_step HB hb9 HB.size
            clear hb9
            obtain ⟨aou, cou, hvou⟩ := ou.form
            subst hvou
            have q61_kC0 := kC.cell 0 rfl
            have q62_kC1 := kC.cell 1 rfl
            have q63_kC2 := kC.cell 2 rfl
            have q64_kC3 := kC.cell 3 rfl
            have q65_kD0 := kD.cell 0 rfl
            have q66_kD1 := kD.cell 1 rfl
            have q67_kD2 := kD.cell 2 rfl
            have q68_kD3 := kD.cell 3 rfl
            as_aux_lemma =>
             go_wp2_with fail
             clear q61_kC0 q62_kC1 q63_kC2 q64_kC3 q65_kD0 q66_kD1 q67_kD2 q68_kD3
             refine (samePairs_same _ _ ys _ oy.prs ou.prs).mono ?_
             rintro e w10 ⟨rfl, hw10⟩
             have hb10 := drawn_below hw10
             have hs10 := hb10.size
             replace b0 := b0.below hb10
             replace o := o.below hb10
             replace ow := ow.below hb10
             replace ox := ox.below hb10
             replace oy := oy.below hb10
             replace ou := ou.below hb10
             replace kC := kC.below hb10
             replace kD := kD.below hb10
             replace HB := below_step HB hb10 HB.size
             clear hb10 hw10
             have q69_kC0 := kC.cell 0 rfl
             have q70_kC1 := kC.cell 1 rfl
             have q71_kC2 := kC.cell 2 rfl
             have q72_kC3 := kC.cell 3 rfl
             have q73_kD0 := kD.cell 0 rfl
             have q74_kD1 := kD.cell 1 rfl
             have q75_kD2 := kD.cell 2 rfl
             have q76_kD3 := kD.cell 3 rfl
             as_aux_lemma =>
              go_wp2_with fail
              go_ret
              exact ⟨rfl, HB⟩

/-! ### THE ROW's STEP -/
set_option maxRecDepth 100000 in
theorem lifted (os : Os) (started : os.Started) (H : Type) (enc : TypeId × Value → H) :
    ReturnsInHanded {} Try.checked os 4 .any (Rows.fnApplyOverwriteSpec.pre6 enc Try.prog Try.f4 Rows.fnApplyOverwriteRow.domain false) (Rows.fnApplyOverwriteSpec.post enc Try.prog Try.f4 false true false false) := by
  refine returnsInHanded_of_change (C := Try.checked) own started (by kernel_rfl) Try.func4
    (ChangeSpec.witness6 (enc := enc) (C := Try.checked) false ⟨#[], #[.slice none 0 0, .slice none 0 0], []⟩ 8 (by kernel_rfl) (by kernel_rfl) (by kernel_rfl) (by kernel_rfl)) ?_
  intro W base args ds gs before hval0 hW hcnd _
  have hval : ∀ (j : Nat) t v, Try.f4.params[j]? = some t → args[j]? = some v → Value.okWide Try.prog W .any base t v := hval0
  have hW' := hW
  obtain ⟨p, q, hA0, hV, rfl, hfz, hnd⟩ := hW
  have hA : DataW.TrodAll enc Try.prog W 0 (fun _ => true) true Try.f4.params.toList args.toList ds p := hA0
  rw [Try.params4] at hA hval
  obtain ⟨v0, vs0, d0, ds0, p0, q0, hargs, rfl, rfl, h0, r0⟩ := trodAll_cons hA
  obtain ⟨v1, vs1, d1, ds1, p1, q1, rfl, rfl, rfl, h1, r1⟩ := trodAll_cons r0
  obtain ⟨rfl, rfl, rfl⟩ := trodAll_nil r1
  obtain rfl : args = #[v0, v1] := by cases args; simp_all
  obtain ⟨rfl, rfl⟩ := trodVars_none hV
  obtain ⟨n0, b0⟩ := bytes_in (hval 0 _ v0 rfl rfl) h0
  have lt0 := lt_in h0
  obtain ⟨n1, b1⟩ := bytes_in (hval 1 _ v1 rfl rfl) h1
  have lt1 := lt_in h1
  clear hA0 hval0
  refine (walk_at W v0 n0 b0 v1 n1 b1).mono fun e W' ⟨he, bel⟩ => ?_
  subst he
  exact ⟨_, rfl, _, _, _, [], _, [], hW', trodAll_mk1 (shut_bool Try.underlying4 _), (trodAll_cons_mk (Below.trod laidOut (by kernel_rfl) (of_decide_eq_true (by kernel_rfl)) h0 bel lt0) (trodAll_cons_mk (Below.trod laidOut (by kernel_rfl) (of_decide_eq_true (by kernel_rfl)) h1 bel lt1) trodAll_mk0)), rfl, bel.frame _, fun h => by cases h⟩

set_option maxRecDepth 100000 in
theorem closed : joinedFacts Try.prog 4 Try.f4 Rows.fnApplyOverwriteSpec Rows.fnApplyOverwriteRow = true := by
  unfold joinedFacts
  rw [may, lifts, mk]
  kernel_rfl
theorem over : Rows.fnApplyOverwriteRow.holds Try.pinned (OpenSpec.ofChange Rows.fnApplyOverwriteSpec) :=
  OpenClaim.holds_of_wide 4 Try.f4 rfl rfl rfl rfl rfl rfl rfl ⟨rfl, rfl, rfl, rfl, rfl⟩ rfl rfl rfl rfl rfl (by as_aux_lemma => kernel_rfl) Try.func4 closed
    (of_decide_eq_true (by as_aux_lemma => kernel_rfl)) (by unfold Func.isWrapper; rw [if_neg (of_decide_eq_false (by as_aux_lemma => kernel_rfl))]; exact ⟨rfl, rfl⟩)
    (fun os started H enc _ => lifted os started H enc)

/-- THE STATEMENT -/
theorem proved : Rows.FnApplyOverwriteSaid := over
end Go.Proofs.Ytpkhkmehpijngaa.fnApplyOverwrite
