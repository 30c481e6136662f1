/-
  For every input the law FnSwapTwice returns true, and what it was given reads afterwards as before. No condition beyond the row's own.
-/
import Derived.Test.YtpkhkmehpijngaaFrameP
import Derived.Test.YtpkhkmehpijngaaDrawA
import Derived.Test.YtpkhkmehpijngaaPlainA
import Derived.Test.YtpkhkmehpijngaaGetJ
import Derived.Deep.DeepCutAuto
import Derived.Deep.QuietTactic
import Derived.BigQuiet
namespace Go.Proofs.Ytpkhkmehpijngaa.fnSwapTwice
open Go.ChangeShapes Go.WideShapes Go.ChangeAt Go.RowKit
open Go.ChangeMaps (open_string shut_string)
set_option linter.unusedVariables false
theorem twice_is {ps zs : List (ByteArray × Int)} {key : ByteArray} {val exp : Int} (hs : Good ps) (hp : applyP ps 3 key val exp = (zs, true)) :
    isK key = true ∧ isV val = true ∧ findP ps key = (exp, true) ∧ ∃ ab, (ab == (val == exp)) = true ∧ ∃ aS, applyS zs 3 key val exp = (aS, ab) ∧ applyS zs 3 key exp val = (ps, true) := by
  have hz : Good zs := by have := good_apply hs 3 key val exp; rw [hp] at this; exact this
  have h1 := apply_ok ps 3 key val exp
  rw [hp] at h1
  replace h1 : true = outB 3 key val exp (findP ps key) := h1
  have hk : isK key = true := by
    cases hk : isK key
    · unfold outB at h1; rw [hk, if_neg (by simp)] at h1; cases h1
    · rfl
  unfold outB at h1
  rw [if_pos hk, if_neg (by decide), if_neg (by decide)] at h1
  obtain ⟨_, hv, hf⟩ := of_decide_eq_true h1.symm
  have hve := (find_good hs hf).2
  have hfz : findP zs key = (val, true) := by
    have := apply_find hs 3 key val exp key
    rw [hp, if_pos rfl] at this
    rw [this]
    unfold outF
    rw [if_pos hk, if_neg (by decide), if_neg (by decide), if_pos ⟨rfl, hv, hf⟩]
  refine ⟨hk, hv, hf, (applyP zs 3 key val exp).2, ?_, (applyP zs 3 key val exp).1, applyS_good hz _ _ _ _, ?_⟩
  · rw [apply_ok, hfz]
    unfold outB
    rw [if_pos hk, if_neg (by decide), if_neg (by decide)]
    by_cases e : val = exp
    · subst e
      rw [decide_eq_true ⟨rfl, hv, rfl⟩]
      simp
    · rw [decide_eq_false (fun h => e (Prod.mk.inj h.2.2).1)]
      simpa using e
  · rw [applyS_good hz]
    have hb : (applyP zs 3 key exp val).2 = true := by
      rw [apply_ok, hfz]
      unfold outB
      rw [if_pos hk, if_neg (by decide), if_neg (by decide)]
      exact decide_eq_true ⟨rfl, hve, rfl⟩
    have ha : (applyP zs 3 key exp val).1 = ps := store_ext (good_apply hz 3 key exp val) hs fun k => by
      rw [apply_find hz, hfz]
      by_cases e : k.toList = key.toList
      · rw [if_pos e, bytes_inj e, hf]
        unfold outF
        rw [if_pos hk, if_neg (by decide), if_neg (by decide), if_pos ⟨rfl, hve, rfl⟩]
      · rw [if_neg e]
        have := apply_find hs 3 key val exp k
        rw [hp, if_neg e] at this
        exact this
    exact Prod.ext ha hb

set_option maxRecDepth 100000 in
set_option maxHeartbeats 8000000 in
theorem walk_at (w : World) (v0 : Value) (n0 : Nat) (b0 : Bytes w 0 w.heap.size v0 n0) :
    Calls Try.prog 6 #[v0] w fun e w' => e = .returned (.bool true) ∧ Below w.heap.size w w' := by
  obtain ⟨a0, c0, hv0, hn0, hx0⟩ := b0.open
  clear hx0
  subst hv0
  by_cases big0 : n0 ≤ 1048576
  case neg =>
    go_enter Try.func6, Try.ntmps6
    go_wp2_with fail
    go_ret
    exact ⟨rfl, Below.refl _ _⟩
  go_enter Try.func6, Try.ntmps6
  go_wp2_with fail
  have HB : Below w.heap.size w w := Below.refl _ _
  refine (DrawStoreApply_any _ n0 _ b0).mono ?_
  rintro e w1 ⟨sv, ps, op, key, val, exp, rfl, o, hlen, hk1, hb1⟩
  have hs1 := hb1.size
  replace b0 := b0.below hb1
  replace HB := below_step HB hb1 HB.size
  clear hb1
  obtain ⟨ao, co, hvo⟩ := o.form
  subst hvo
  have HL := Lib.hid (Nat.le_trans hlen (show 5 ≤ 1048576 by decide))
  have HK1 := Lib.hid (show key.size ≤ maxLen by unfold maxLen; omega)
  clear hlen hk1
  obtain ⟨zs, zb, hz⟩ : ∃ zs zb, applyS ps op key val exp = (zs, zb) := ⟨_, _, rfl⟩
  have HZ := Lib.hid hz; clear hz
  have hbb : (zb != zb) = false := by cases zb <;> rfl
  have hbe : (zb == zb) = true := by cases zb <;> rfl
  have hb2 : Below w1.heap.size w1 (w1.alloc (.cells #[.int .i64 op, .string key, .int .i64 val, .int .i64 exp] 25)) := (Below.refl _ _).alloc (Nat.le_refl _) _
  have hs2 := hb2.size
  replace b0 := b0.below hb2
  replace o := o.below hb2
  replace HB := below_step HB hb2 HB.size
  have kC := Blk.new w1 #[.int .i64 op, .string key, .int .i64 val, .int .i64 exp] 25
  have hl2 := kC.lt
  clear hb2
  have q1_kC0 := kC.cell 0 rfl
  have q2_kC1 := kC.cell 1 rfl
  have q3_kC2 := kC.cell 2 rfl
  have q4_kC3 := kC.cell 3 rfl
  as_aux_lemma =>
   go_wp2_with fail
   generalize w1.alloc (.cells #[.int .i64 op, .string key, .int .i64 val, .int .i64 exp] 25) = w2 at *
   generalize w1.heap.size = B2 at *
   clear q1_kC0 q2_kC1 q3_kC2 q4_kC3
   refine (specApply_eq _ ps op key val exp _ _ _ o.prs HL.out HZ.out).mono ?_
   rintro e w3 ⟨vow, rfl, ow, hb3⟩
   have hs3 := hb3.size
   replace b0 := b0.below hb3
   replace o := o.below hb3
   replace kC := kC.below hb3
   replace HB := below_step HB hb3 HB.size
   clear hb3
   obtain ⟨aow, cow, hvow⟩ := ow.form
   subst hvow
   have q5_kC0 := kC.cell 0 rfl
   have q6_kC1 := kC.cell 1 rfl
   have q7_kC2 := kC.cell 2 rfl
   have q8_kC3 := kC.cell 3 rfl
   as_aux_lemma =>
    go_wp2_with fail
    clear q5_kC0 q6_kC1 q7_kC2 q8_kC3
    refine (implApply_eq _ ps op key val exp _ _ _ o.prs HL.out HK1.out HZ.out).mono ?_
    rintro e w4 ⟨vox, rfl, ox, hb4⟩
    have hs4 := hb4.size
    replace b0 := b0.below hb4
    replace o := o.below hb4
    replace ow := ow.below hb4
    replace kC := kC.below hb4
    replace HB := below_step HB hb4 HB.size
    clear hb4
    obtain ⟨aox, cox, hvox⟩ := ox.form
    subst hvox
    have q9_kC0 := kC.cell 0 rfl
    have q10_kC1 := kC.cell 1 rfl
    have q11_kC2 := kC.cell 2 rfl
    have q12_kC3 := kC.cell 3 rfl
    as_aux_lemma =>
     go_wp2_with fail
     clear q9_kC0 q10_kC1 q11_kC2 q12_kC3
     refine (samePairs_same _ _ zs _ ox.prs ow.prs).mono ?_
     rintro e w5 ⟨rfl, hw5⟩
     have hb5 := drawn_below hw5
     have hs5 := hb5.size
     replace b0 := b0.below hb5
     replace o := o.below hb5
     replace ow := ow.below hb5
     replace ox := ox.below hb5
     replace kC := kC.below hb5
     replace HB := below_step HB hb5 HB.size
     clear hb5 hw5
     have q13_kC0 := kC.cell 0 rfl
     have q14_kC1 := kC.cell 1 rfl
     have q15_kC2 := kC.cell 2 rfl
     have q16_kC3 := kC.cell 3 rfl
     as_aux_lemma =>
      go_wp2_with fail
      cases hv : storeOk ps
      · have HV := Lib.hid hv; clear hv
        clear q13_kC0 q14_kC1 q15_kC2 q16_kC3
        refine (specStoreValid_any _ ps _ o.prs false HV.out).mono ?_
        rintro e w6 ⟨rfl, hw6⟩
        have hb6 := drawn_below hw6
        have hs6 := hb6.size
        replace b0 := b0.below hb6
        replace o := o.below hb6
        replace ow := ow.below hb6
        replace ox := ox.below hb6
        replace kC := kC.below hb6
        replace HB := below_step HB hb6 HB.size
        clear hb6 hw6
        have q17_kC0 := kC.cell 0 rfl
        have q18_kC1 := kC.cell 1 rfl
        have q19_kC2 := kC.cell 2 rfl
        have q20_kC3 := kC.cell 3 rfl
        as_aux_lemma =>
         go_wp2_with fail
         clear q17_kC0 q18_kC1 q19_kC2 q20_kC3
         refine (samePairs_same _ _ zs _ ox.prs ow.prs).mono ?_
         rintro e w7 ⟨rfl, hw7⟩
         have hb7 := drawn_below hw7
         have hs7 := hb7.size
         replace b0 := b0.below hb7
         replace o := o.below hb7
         replace ow := ow.below hb7
         replace ox := ox.below hb7
         replace kC := kC.below hb7
         replace HB := below_step HB hb7 HB.size
         clear hb7 hw7
         have q21_kC0 := kC.cell 0 rfl
         have q22_kC1 := kC.cell 1 rfl
         have q23_kC2 := kC.cell 2 rfl
         have q24_kC3 := kC.cell 3 rfl
         as_aux_lemma =>
          go_wp2_with fail
          go_ret
          exact ⟨rfl, HB⟩
      · have HV := Lib.hid hv
        have HG := Lib.hid (good_of hv); clear hv
        have HP : Hid (applyP ps op key val exp = (zs, zb)) := Lib.hid (by rw [← applyS_good HG.out]; exact HZ.out)
        have HGZ : Hid (Good zs) := Lib.hid (by have := good_apply HG.out op key val exp; rw [HP.out] at this; exact this)
        have HZL := Lib.hid (Nat.le_trans (good_len HGZ.out) (show 6 ≤ 1048576 by decide))
        clear hbb hbe
        clear q13_kC0 q14_kC1 q15_kC2 q16_kC3
        refine (specStoreValid_any _ ps _ o.prs true HV.out).mono ?_
        rintro e w6 ⟨rfl, hw6⟩
        have hb6 := drawn_below hw6
        have hs6 := hb6.size
        replace b0 := b0.below hb6
        replace o := o.below hb6
        replace ow := ow.below hb6
        replace ox := ox.below hb6
        replace kC := kC.below hb6
        replace HB := below_step HB hb6 HB.size
        clear hb6 hw6
        by_cases h3 : op = 3
        · subst h3
          cases zb
          · have q25_kC0 := kC.cell 0 rfl
            have q26_kC1 := kC.cell 1 rfl
            have q27_kC2 := kC.cell 2 rfl
            have q28_kC3 := kC.cell 3 rfl
            as_aux_lemma =>
             go_wp2_with fail
             clear q25_kC0 q26_kC1 q27_kC2 q28_kC3
             refine (implStoreValid_any _ zs _ ox.prs HZL.out true (ok_of HGZ.out)).mono ?_
             rintro e w7 ⟨rfl, hb7⟩
             have hs7 := hb7.size
             replace b0 := b0.below hb7
             replace o := o.below hb7
             replace ow := ow.below hb7
             replace ox := ox.below hb7
             replace kC := kC.below hb7
             replace HB := below_step HB hb7 HB.size
             clear hb7
             have q29_kC0 := kC.cell 0 rfl
             have q30_kC1 := kC.cell 1 rfl
             have q31_kC2 := kC.cell 2 rfl
             have q32_kC3 := kC.cell 3 rfl
             as_aux_lemma =>
              go_wp2_with fail
              go_ret
              exact ⟨rfl, HB⟩
          · obtain ⟨h1, h2, h3, ab, hab, aS, h4, h5⟩ := twice_is HG.out HP.out
            have HA := Lib.hid h4
            have HBK := Lib.hid h5
            clear h1 h2 h3 h4 h5
            have q33_kC0 := kC.cell 0 rfl
            have q34_kC1 := kC.cell 1 rfl
            have q35_kC2 := kC.cell 2 rfl
            have q36_kC3 := kC.cell 3 rfl
            as_aux_lemma =>
             go_wp2_with fail
             clear q33_kC0 q34_kC1 q35_kC2 q36_kC3
             refine (implApply_eq _ zs 3 key val exp _ _ _ ox.prs HZL.out HK1.out HA.out).mono ?_
             rintro e w7 ⟨voa, rfl, oa, hb7⟩
             have hs7 := hb7.size
             replace b0 := b0.below hb7
             replace o := o.below hb7
             replace ow := ow.below hb7
             replace ox := ox.below hb7
             replace kC := kC.below hb7
             replace HB := below_step HB hb7 HB.size
             clear hb7
             obtain ⟨aoa, coa, hvoa⟩ := oa.form
             subst hvoa
             have q37_kC0 := kC.cell 0 rfl
             have q38_kC1 := kC.cell 1 rfl
             have q39_kC2 := kC.cell 2 rfl
             have q40_kC3 := kC.cell 3 rfl
             as_aux_lemma =>
              go_wp2_with fail
              clear q37_kC0 q38_kC1 q39_kC2 q40_kC3
              refine (implApply_eq _ zs 3 key exp val _ _ _ ox.prs HZL.out HK1.out HBK.out).mono ?_
              rintro e w8 ⟨vob, rfl, ob, hb8⟩
              have hs8 := hb8.size
              replace b0 := b0.below hb8
              replace o := o.below hb8
              replace ow := ow.below hb8
              replace ox := ox.below hb8
              replace oa := oa.below hb8
              replace kC := kC.below hb8
              replace HB := below_step HB hb8 HB.size
              clear hb8
              obtain ⟨aob, cob, hvob⟩ := ob.form
              subst hvob
              have q41_kC0 := kC.cell 0 rfl
              have q42_kC1 := kC.cell 1 rfl
              have q43_kC2 := kC.cell 2 rfl
              have q44_kC3 := kC.cell 3 rfl
              as_aux_lemma =>
               go_wp2_with fail
               clear q41_kC0 q42_kC1 q43_kC2 q44_kC3
               refine (samePairs_same _ _ ps _ ob.prs o.prs).mono ?_
               rintro e w9 ⟨rfl, hw9⟩
               have hb9 := drawn_below hw9
               have hs9 := hb9.size
               replace b0 := b0.below hb9
               replace o := o.below hb9
               replace ow := ow.below hb9
               replace ox := ox.below hb9
               replace oa := oa.below hb9
               replace ob := ob.below hb9
               replace kC := kC.below hb9
               replace HB := below_step HB hb9 HB.size
               clear hb9 hw9
               have q45_kC0 := kC.cell 0 rfl
               have q46_kC1 := kC.cell 1 rfl
               have q47_kC2 := kC.cell 2 rfl
               have q48_kC3 := kC.cell 3 rfl
               as_aux_lemma =>
                go_wp2_with fail
                go_ret
                exact ⟨rfl, HB⟩
        · have h3b : (op != 3) = true := by simpa using h3
          clear h3
          have q49_kC0 := kC.cell 0 rfl
          have q50_kC1 := kC.cell 1 rfl
          have q51_kC2 := kC.cell 2 rfl
          have q52_kC3 := kC.cell 3 rfl
          as_aux_lemma =>
           go_wp2_with fail
           clear q49_kC0 q50_kC1 q51_kC2 q52_kC3
           refine (implStoreValid_any _ zs _ ox.prs HZL.out true (ok_of HGZ.out)).mono ?_
           rintro e w7 ⟨rfl, hb7⟩
           have hs7 := hb7.size
           replace b0 := b0.below hb7
           replace o := o.below hb7
           replace ow := ow.below hb7
           replace ox := ox.below hb7
           replace kC := kC.below hb7
           replace HB := below_step HB hb7 HB.size
           clear hb7
           have q53_kC0 := kC.cell 0 rfl
           have q54_kC1 := kC.cell 1 rfl
           have q55_kC2 := kC.cell 2 rfl
           have q56_kC3 := kC.cell 3 rfl
           as_aux_lemma =>
            go_wp2_with fail
            go_ret
            exact ⟨rfl, HB⟩

/-! ### THE ROW's STEP -/
set_option maxRecDepth 100000 in
theorem lifted (os : Os) (started : os.Started) (H : Type) (enc : TypeId × Value → H) :
    ReturnsInHanded {} Try.checked os 6 .any (Rows.fnSwapTwiceSpec.pre6 enc Try.prog Try.f6 Rows.fnSwapTwiceRow.domain false) (Rows.fnSwapTwiceSpec.post enc Try.prog Try.f6 false true false false) := by
  refine returnsInHanded_of_change (C := Try.checked) own started (by kernel_rfl) Try.func6
    (ChangeSpec.witness6 (enc := enc) (C := Try.checked) false ⟨#[], #[.slice none 0 0], []⟩ 8 (by kernel_rfl) (by kernel_rfl) (by kernel_rfl) (by kernel_rfl)) ?_
  intro W base args ds gs before hval0 hW hcnd _
  have hval : ∀ (j : Nat) t v, Try.f6.params[j]? = some t → args[j]? = some v → Value.okWide Try.prog W .any base t v := hval0
  have hW' := hW
  obtain ⟨p, q, hA0, hV, rfl, hfz, hnd⟩ := hW
  have hA : DataW.TrodAll enc Try.prog W 0 (fun _ => true) true Try.f6.params.toList args.toList ds p := hA0
  rw [Try.params6] at hA hval
  obtain ⟨v0, vs0, d0, ds0, p0, q0, hargs, rfl, rfl, h0, r0⟩ := trodAll_cons hA
  obtain ⟨rfl, rfl, rfl⟩ := trodAll_nil r0
  obtain rfl : args = #[v0] := by cases args; simp_all
  obtain ⟨rfl, rfl⟩ := trodVars_none hV
  obtain ⟨n0, b0⟩ := bytes_in (hval 0 _ v0 rfl rfl) h0
  have lt0 := lt_in h0
  clear hA0 hval0
  refine (walk_at W v0 n0 b0).mono fun e W' ⟨he, bel⟩ => ?_
  subst he
  exact ⟨_, rfl, _, _, _, [], _, [], hW', trodAll_mk1 (shut_bool Try.underlying4 _), (trodAll_cons_mk (Below.trod laidOut (by kernel_rfl) (of_decide_eq_true (by kernel_rfl)) h0 bel lt0) trodAll_mk0), rfl, bel.frame _, fun h => by cases h⟩

set_option maxRecDepth 100000 in
theorem closed : joinedFacts Try.prog 6 Try.f6 Rows.fnSwapTwiceSpec Rows.fnSwapTwiceRow = true := by
  unfold joinedFacts
  rw [may, lifts, mk]
  kernel_rfl
theorem over : Rows.fnSwapTwiceRow.holds Try.pinned (OpenSpec.ofChange Rows.fnSwapTwiceSpec) :=
  OpenClaim.holds_of_wide 6 Try.f6 rfl rfl rfl rfl rfl rfl rfl ⟨rfl, rfl, rfl, rfl, rfl⟩ rfl rfl rfl rfl rfl (by as_aux_lemma => kernel_rfl) Try.func6 closed
    (of_decide_eq_true (by as_aux_lemma => kernel_rfl)) (by unfold Func.isWrapper; rw [if_neg (of_decide_eq_false (by as_aux_lemma => kernel_rfl))]; exact ⟨rfl, rfl⟩)
    (fun os started H enc _ => lifted os started H enc)

/-- THE STATEMENT -/
theorem proved : Rows.FnSwapTwiceSaid := over
end Go.Proofs.Ytpkhkmehpijngaa.fnSwapTwice
