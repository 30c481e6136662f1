/-
  For every input the law FnExactStoreApply returns true, and what it was given reads afterwards as before. No condition beyond the row's own.
-/
import Derived.Test.YtpkhkmehpijngaaFrameP
import Derived.Test.YtpkhkmehpijngaaPlainA
import Derived.Test.YtpkhkmehpijngaaMark
import Derived.Test.YtpkhkmehpijngaaCmdU
import Derived.Test.YtpkhkmehpijngaaStoreR
import Derived.Deep.DeepCutAuto
import Derived.Deep.QuietTactic
import Derived.BigQuiet
import Derived.Deep.RegionHeld3
namespace Go.Proofs.Ytpkhkmehpijngaa.fnExactStoreApply
open Go.ChangeShapes Go.WideShapes Go.ChangeAt Go.RowKit
open Go.ChangeMaps (open_string shut_string)
set_option linter.unusedVariables false
theorem applyS_len {ps zs : List (ByteArray × Int)} {op : Int} {key : ByteArray} {val exp : Int} {zb : Bool} (h : applyS ps op key val exp = (zs, zb)) : zs.length ≤ 6 := by
  unfold applyS at h
  split at h
  · rename_i hv
    have := good_len (good_apply (good_of hv) op key val exp)
    rw [h] at this
    exact this
  · cases h; exact Nat.zero_le _

set_option maxRecDepth 100000 in
set_option maxHeartbeats 8000000 in
theorem walk_at (w : World) (v0 : Value) (xs0 : List (ByteArray × Int)) (b0 : Prs w 0 w.heap.size v0 xs0) (hz0 : ∀ k, k < xs0.length → (pk xs0 k).size ≤ maxLen) (op1 : Int) (s1 : ByteArray) (val1 exp1 : Int) (ws1 : s1.size ≤ maxLen) :
    Calls Try.prog 12 #[v0, .agg #[.int .i64 op1, .string s1, .int .i64 val1, .int .i64 exp1]] w fun e w' => e = .returned (.bool true) ∧ Below w.heap.size w w' := by
  obtain ⟨zs, zb, hz⟩ : ∃ zs zb, applyS xs0 op1 s1 val1 exp1 = (zs, zb) := ⟨_, _, rfl⟩
  have HZL := Lib.hid (applyS_len hz)
  have HZ := Lib.hid hz; clear hz
  have hbb : (zb != zb) = false := by cases zb <;> rfl
  have hbA : Below w.heap.size w (w.alloc (.cells #[.int .i64 op1, .string s1, .int .i64 val1, .int .i64 exp1] 45)) := (Below.refl _ _).alloc (Nat.le_refl _) _
  have kA := Blk.new w #[.int .i64 op1, .string s1, .int .i64 val1, .int .i64 exp1] 45
  replace b0 := Prs.below b0 hbA
  have HB := hbA
  have hsA := hbA.size
  have hlA := kA.lt
  clear hbA
  go_enter Try.func12, Try.ntmps12
  go_wp2_with fail
  generalize w.alloc (.cells #[.int .i64 op1, .string s1, .int .i64 val1, .int .i64 exp1] 45) = w1 at *
  refine (szPairS_any _ xs0 _ b0 hz0).mono ?_
  rintro e w2 ⟨m, rfl, hm, hb2⟩
  have hs2 := hb2.size
  replace b0 := b0.below hb2
  replace kA := kA.below hb2
  replace HB := below_step HB hb2 HB.size
  clear hb2
  rcases hm with rfl | ⟨hm0, big0, hm1⟩
  · go_wp2_with fail
    go_ret
    exact ⟨rfl, HB⟩
  have hmn : ¬ m < 0 := by omega
  have q1_kA0 := kA.cell 0 rfl
  have q2_kA1 := kA.cell 1 rfl
  have q3_kA2 := kA.cell 2 rfl
  have q4_kA3 := kA.cell 3 rfl
  as_aux_lemma =>
   go_wp2_with fail
   clear q1_kA0 q2_kA1 q3_kA2 q4_kA3
   refine (szCommand_ret op1 s1 val1 exp1 m _ ws1 hm0 hm1).mono ?_
   rintro e w3 ⟨m2, rfl, hm2, hb3⟩
   have hs3 := hb3.size
   replace b0 := b0.below hb3
   replace kA := kA.below hb3
   replace HB := below_step HB hb3 HB.size
   clear hb3 hmn
   rcases hm2 with rfl | hm20
   · go_wp2_with fail
     go_ret
     exact ⟨rfl, HB⟩
   have hmn : ¬ m2 < 0 := by omega
   have q5_kA0 := kA.cell 0 rfl
   have q6_kA1 := kA.cell 1 rfl
   have q7_kA2 := kA.cell 2 rfl
   have q8_kA3 := kA.cell 3 rfl
   as_aux_lemma =>
    go_wp2_with fail
    clear q5_kA0 q6_kA1 q7_kA2 q8_kA3
    have hc0 : w3.cell? ⟨w.heap.size, 0, none⟩ = some (.int .i64 op1) := kA.cell 0 rfl
    have hc1 : w3.cell? ⟨w.heap.size, 1, none⟩ = some (.string s1) := kA.cell 1 rfl
    have hc2 : w3.cell? ⟨w.heap.size, 2, none⟩ = some (.int .i64 val1) := kA.cell 2 rfl
    have hc3 : w3.cell? ⟨w.heap.size, 3, none⟩ = some (.int .i64 exp1) := kA.cell 3 rfl
    have hB0 : Below w3.heap.size w3 w3.drew := (Below.refl _ _).drew
    as_aux_lemma =>
     go_region_held3 (fun w' => w'.cell? ⟨w.heap.size, 0, none⟩ = some (.int .i64 op1) ∧ w'.cell? ⟨w.heap.size, 1, none⟩ = some (.string s1) ∧ w'.cell? ⟨w.heap.size, 2, none⟩ = some (.int .i64 val1) ∧ w'.cell? ⟨w.heap.size, 3, none⟩ = some (.int .i64 exp1) ∧ Below w3.heap.size w3 w')
       (first
         | exact ⟨hc0, hc1, hc2, hc3, hB2⟩
         | exact ⟨hc0, hc1, hc2, hc3, hB0⟩
         | (go_split_ands; refine ⟨?_, ?_, ?_, ?_, ?_⟩ <;> assumption))
       (first
         | (go_at_call 28; obtain ⟨hc0, hc1, hc2, hc3, hB⟩ := ‹_ ∧ _ ∧ _ ∧ _ ∧ Below w3.heap.size w3 _›; refine (toPairS_any _ xs0 _ (Prs.below b0 hB) big0).mono ?_; rintro e wr3_0 ⟨vo0, rfl, o0, hb⟩; replace hc0 := below_cell hb hc0; replace hc1 := below_cell hb hc1; replace hc2 := below_cell hb hc2; replace hc3 := below_cell hb hc3; have hB2 := below_step hB hb hB.size; replace o0 := PrsO.wide (lo' := w3.heap.size) o0 hB.size (Nat.le_refl _) (Nat.le_refl _); obtain ⟨ao0, co0, hvo0⟩ := PrsO.form o0; subst hvo0; clear hb hB)
         | (go_at_call 29; obtain ⟨hc0, hc1, hc2, hc3, hB⟩ := ‹_ ∧ _ ∧ _ ∧ _ ∧ Below w3.heap.size w3 _›; refine (toCommand_any op1 s1 val1 exp1 _).mono ?_; rintro e wr3_1 ⟨rfl, hb⟩; replace hc0 := below_cell hb hc0; replace hc1 := below_cell hb hc1; replace hc2 := below_cell hb hc2; replace hc3 := below_cell hb hc3; have hB2 := below_step hB hb hB.size; replace o0 := PrsO.below o0 hb; clear hb hB)
         | (go_at_call 15; obtain ⟨hc0, hc1, hc2, hc3, hB⟩ := ‹_ ∧ _ ∧ _ ∧ _ ∧ Below w3.heap.size w3 _›; refine (specApply_eq _ xs0 op1 s1 val1 exp1 _ _ _ o0.prs big0 HZ.out).mono ?_; rintro e wr3_2 ⟨vow, rfl, ow, hb⟩; replace hc0 := below_cell hb hc0; replace hc1 := below_cell hb hc1; replace hc2 := below_cell hb hc2; replace hc3 := below_cell hb hc3; have hB2 := below_step hB hb hB.size; replace o0 := PrsO.below o0 hb; replace ow := PrsO.wide (lo' := w3.heap.size) ow hB.size (Nat.le_refl _) (Nat.le_refl _); obtain ⟨aow, cow, hvow⟩ := PrsO.form ow; subst hvow; clear hb hB))
     all_goals
      have hb4 := hB2
      clear hB2 hB0 hc0 hc1 hc2 hc3
      have hs4 := hb4.size
      replace b0 := b0.below hb4
      replace kA := kA.below hb4
      replace HB := below_step HB hb4 HB.size
      clear hb4
      replace o0 := PrsO.wide o0 (Nat.le_refl _) o0.2.2 (Nat.le_refl _)
      replace ow := PrsO.wide ow (Nat.le_refl _) ow.2.2 (Nat.le_refl _)
      have q9_kA0 := kA.cell 0 rfl
      have q10_kA1 := kA.cell 1 rfl
      have q11_kA2 := kA.cell 2 rfl
      have q12_kA3 := kA.cell 3 rfl
      as_aux_lemma =>
       go_wp2_with fail
       clear q9_kA0 q10_kA1 q11_kA2 q12_kA3
       refine (toPairS_any _ xs0 _ b0 big0).mono ?_
       rintro e w5 ⟨vox, rfl, ox, hb5⟩
       have hs5 := hb5.size
       replace b0 := b0.below hb5
       replace o0 := o0.below hb5
       replace ow := ow.below hb5
       replace kA := kA.below hb5
       replace HB := below_step HB hb5 HB.size
       clear hb5
       obtain ⟨aox, cox, hvox⟩ := ox.form
       subst hvox
       have q13_kA0 := kA.cell 0 rfl
       have q14_kA1 := kA.cell 1 rfl
       have q15_kA2 := kA.cell 2 rfl
       have q16_kA3 := kA.cell 3 rfl
       as_aux_lemma =>
        go_wp2_with fail
        clear q13_kA0 q14_kA1 q15_kA2 q16_kA3
        refine (toCommand_any op1 s1 val1 exp1 _).mono ?_
        rintro e w6 ⟨rfl, hb6⟩
        have hs6 := hb6.size
        replace b0 := b0.below hb6
        replace o0 := o0.below hb6
        replace ow := ow.below hb6
        replace ox := ox.below hb6
        replace kA := kA.below hb6
        replace HB := below_step HB hb6 HB.size
        clear hb6
        have q17_kA0 := kA.cell 0 rfl
        have q18_kA1 := kA.cell 1 rfl
        have q19_kA2 := kA.cell 2 rfl
        have q20_kA3 := kA.cell 3 rfl
        as_aux_lemma =>
         go_wp2_with fail
         clear q17_kA0 q18_kA1 q19_kA2 q20_kA3
         refine (implApply_eq _ xs0 op1 s1 val1 exp1 _ _ _ ox.prs big0 ws1 HZ.out).mono ?_
         rintro e w7 ⟨vog, rfl, og, hb7⟩
         have hs7 := hb7.size
         replace b0 := b0.below hb7
         replace o0 := o0.below hb7
         replace ow := ow.below hb7
         replace ox := ox.below hb7
         replace kA := kA.below hb7
         replace HB := below_step HB hb7 HB.size
         clear hb7
         obtain ⟨aog, cog, hvog⟩ := og.form
         subst hvog
         have q21_kA0 := kA.cell 0 rfl
         have q22_kA1 := kA.cell 1 rfl
         have q23_kA2 := kA.cell 2 rfl
         have q24_kA3 := kA.cell 3 rfl
         as_aux_lemma =>
          go_wp2_with fail
          clear q21_kA0 q22_kA1 q23_kA2 q24_kA3
          refine (eqPairS_same _ _ zs _ og.prs ow.prs).mono ?_
          rintro e w8 ⟨rfl, hb8⟩
          have hs8 := hb8.size
          replace b0 := b0.below hb8
          replace o0 := o0.below hb8
          replace ow := ow.below hb8
          replace ox := ox.below hb8
          replace og := og.below hb8
          replace kA := kA.below hb8
          replace HB := below_step HB hb8 HB.size
          clear hb8
          have q25_kA0 := kA.cell 0 rfl
          have q26_kA1 := kA.cell 1 rfl
          have q27_kA2 := kA.cell 2 rfl
          have q28_kA3 := kA.cell 3 rfl
          as_aux_lemma =>
           go_wp2_with fail
           clear q25_kA0 q26_kA1 q27_kA2 q28_kA3
           refine (toPairS_any _ xs0 _ b0 big0).mono ?_
           rintro e w9 ⟨vo2, rfl, o2, hb9⟩
           have hs9 := hb9.size
           replace b0 := b0.below hb9
           replace o0 := o0.below hb9
           replace ow := ow.below hb9
           replace ox := ox.below hb9
           replace og := og.below hb9
           replace kA := kA.below hb9
           replace HB := below_step HB hb9 HB.size
           clear hb9
           obtain ⟨ao2, co2, hvo2⟩ := o2.form
           subst hvo2
           have q29_kA0 := kA.cell 0 rfl
           have q30_kA1 := kA.cell 1 rfl
           have q31_kA2 := kA.cell 2 rfl
           have q32_kA3 := kA.cell 3 rfl
           as_aux_lemma =>
            go_wp2_with fail
            clear q29_kA0 q30_kA1 q31_kA2 q32_kA3
            refine (eqPairS_same _ _ xs0 _ ox.prs o2.prs).mono ?_
            rintro e w10 ⟨rfl, hb10⟩
            have hs10 := hb10.size
            replace b0 := b0.below hb10
            replace o0 := o0.below hb10
            replace ow := ow.below hb10
            replace ox := ox.below hb10
            replace og := og.below hb10
            replace o2 := o2.below hb10
            replace kA := kA.below hb10
            replace HB := below_step HB hb10 HB.size
            clear hb10
            have q33_kA0 := kA.cell 0 rfl
            have q34_kA1 := kA.cell 1 rfl
            have q35_kA2 := kA.cell 2 rfl
            have q36_kA3 := kA.cell 3 rfl
            as_aux_lemma =>
             go_wp2_with fail
             have hkn : ¬ (1 + 2 * (xs0.length : Int) < 0) := by omega
             have hqn : ¬ (1 + 2 * (zs.length : Int) < 0) := by omega
             have hqq : (1 + 2 * (zs.length : Int) != 1 + 2 * (zs.length : Int)) = false := by simp
             clear q33_kA0 q34_kA1 q35_kA2 q36_kA3
             refine (markPairS_any _ xs0 1 _ ox (by omega) (by have := big0; omega)).mono ?_
             rintro e w11 ⟨rfl, hm11, hk11⟩
             have hs11 := hk11.size
             replace kA := kA.keep hk11 (by omega)
             replace b0 := Recs.keep b0 hk11 (by omega)
             replace o0 := PrsO.keep o0 hk11 (by omega)
             replace ow := PrsO.keep ow hk11 (by omega)
             replace og := PrsO.keep og hk11 (by omega)
             replace o2 := PrsO.keep o2 hk11 (by omega)
             replace HB := HB.trans (hk11.below (B := w.heap.size) (by omega) HB.size)
             replace ox := hm11
             clear hk11
             have q37_kA0 := kA.cell 0 rfl
             have q38_kA1 := kA.cell 1 rfl
             have q39_kA2 := kA.cell 2 rfl
             have q40_kA3 := kA.cell 3 rfl
             as_aux_lemma =>
              go_wp2_with fail
              clear q37_kA0 q38_kA1 q39_kA2 q40_kA3
              refine (eqPairS_same _ _ zs _ og.prs ow.prs).mono ?_
              rintro e w12 ⟨rfl, hb12⟩
              have hs12 := hb12.size
              replace b0 := b0.below hb12
              replace o0 := o0.below hb12
              replace ow := ow.below hb12
              replace ox := ox.below hb12
              replace og := og.below hb12
              replace o2 := o2.below hb12
              replace kA := kA.below hb12
              replace HB := below_step HB hb12 HB.size
              clear hb12
              have q41_kA0 := kA.cell 0 rfl
              have q42_kA1 := kA.cell 1 rfl
              have q43_kA2 := kA.cell 2 rfl
              have q44_kA3 := kA.cell 3 rfl
              as_aux_lemma =>
               go_wp2_with fail
               clear q41_kA0 q42_kA1 q43_kA2 q44_kA3
               refine (markPairS_any _ zs 1 _ og (by omega) (by have := HZL.out; omega)).mono ?_
               rintro e w13 ⟨rfl, hm13, hk13⟩
               have hs13 := hk13.size
               replace kA := kA.keep hk13 (by omega)
               replace b0 := Recs.keep b0 hk13 (by omega)
               replace o0 := PrsO.keep o0 hk13 (by omega)
               replace ow := PrsO.keep ow hk13 (by omega)
               replace ox := PrsO.keep ox hk13 (by omega)
               replace o2 := PrsO.keep o2 hk13 (by omega)
               replace HB := HB.trans (hk13.below (B := w.heap.size) (by omega) HB.size)
               replace og := hm13
               clear hk13
               have q45_kA0 := kA.cell 0 rfl
               have q46_kA1 := kA.cell 1 rfl
               have q47_kA2 := kA.cell 2 rfl
               have q48_kA3 := kA.cell 3 rfl
               as_aux_lemma =>
                go_wp2_with fail
                clear q45_kA0 q46_kA1 q47_kA2 q48_kA3
                refine (heldPairS_any _ zs.length 1 _ og.prs (by omega) (by have := HZL.out; omega)).mono ?_
                rintro e w14 ⟨rfl, hb14⟩
                have hs14 := hb14.size
                replace b0 := b0.below hb14
                replace o0 := o0.below hb14
                replace ow := ow.below hb14
                replace ox := ox.below hb14
                replace og := og.below hb14
                replace o2 := o2.below hb14
                replace kA := kA.below hb14
                replace HB := below_step HB hb14 HB.size
                clear hb14
                have q49_kA0 := kA.cell 0 rfl
                have q50_kA1 := kA.cell 1 rfl
                have q51_kA2 := kA.cell 2 rfl
                have q52_kA3 := kA.cell 3 rfl
                as_aux_lemma =>
                 go_wp2_with fail
                 clear q49_kA0 q50_kA1 q51_kA2 q52_kA3
                 have hc0 : w14.cell? ⟨w.heap.size, 0, none⟩ = some (.int .i64 op1) := kA.cell 0 rfl
                 have hc1 : w14.cell? ⟨w.heap.size, 1, none⟩ = some (.string s1) := kA.cell 1 rfl
                 have hc2 : w14.cell? ⟨w.heap.size, 2, none⟩ = some (.int .i64 val1) := kA.cell 2 rfl
                 have hc3 : w14.cell? ⟨w.heap.size, 3, none⟩ = some (.int .i64 exp1) := kA.cell 3 rfl
                 have hB0 : Below w14.heap.size w14 w14.drew := (Below.refl _ _).drew
                 as_aux_lemma =>
                  go_region_held3 (fun w' => w'.cell? ⟨w.heap.size, 0, none⟩ = some (.int .i64 op1) ∧ w'.cell? ⟨w.heap.size, 1, none⟩ = some (.string s1) ∧ w'.cell? ⟨w.heap.size, 2, none⟩ = some (.int .i64 val1) ∧ w'.cell? ⟨w.heap.size, 3, none⟩ = some (.int .i64 exp1) ∧ Below w14.heap.size w14 w')
                    (first
                      | exact ⟨hc0, hc1, hc2, hc3, hB2⟩
                      | exact ⟨hc0, hc1, hc2, hc3, hB0⟩
                      | (go_split_ands; refine ⟨?_, ?_, ?_, ?_, ?_⟩ <;> assumption))
                    (first
                      | (go_at_call 28; obtain ⟨hc0, hc1, hc2, hc3, hB⟩ := ‹_ ∧ _ ∧ _ ∧ _ ∧ Below w14.heap.size w14 _›; refine (toPairS_any _ xs0 _ (Prs.below b0 hB) big0).mono ?_; rintro e wr14_0 ⟨vo3, rfl, o3, hb⟩; replace hc0 := below_cell hb hc0; replace hc1 := below_cell hb hc1; replace hc2 := below_cell hb hc2; replace hc3 := below_cell hb hc3; have hB2 := below_step hB hb hB.size; replace o3 := PrsO.wide (lo' := w14.heap.size) o3 hB.size (Nat.le_refl _) (Nat.le_refl _); obtain ⟨ao3, co3, hvo3⟩ := PrsO.form o3; subst hvo3; clear hb hB)
                      | (go_at_call 29; obtain ⟨hc0, hc1, hc2, hc3, hB⟩ := ‹_ ∧ _ ∧ _ ∧ _ ∧ Below w14.heap.size w14 _›; refine (toCommand_any op1 s1 val1 exp1 _).mono ?_; rintro e wr14_1 ⟨rfl, hb⟩; replace hc0 := below_cell hb hc0; replace hc1 := below_cell hb hc1; replace hc2 := below_cell hb hc2; replace hc3 := below_cell hb hc3; have hB2 := below_step hB hb hB.size; replace o3 := PrsO.below o3 hb; clear hb hB)
                      | (go_at_call 16; obtain ⟨hc0, hc1, hc2, hc3, hB⟩ := ‹_ ∧ _ ∧ _ ∧ _ ∧ Below w14.heap.size w14 _›; refine (implApply_eq _ xs0 op1 s1 val1 exp1 _ _ _ o3.prs big0 ws1 HZ.out).mono ?_; rintro e wr14_2 ⟨voh, rfl, oh, hb⟩; replace hc0 := below_cell hb hc0; replace hc1 := below_cell hb hc1; replace hc2 := below_cell hb hc2; replace hc3 := below_cell hb hc3; have hB2 := below_step hB hb hB.size; replace o3 := PrsO.below o3 hb; replace oh := PrsO.wide (lo' := w14.heap.size) oh hB.size (Nat.le_refl _) (Nat.le_refl _); obtain ⟨aoh, coh, hvoh⟩ := PrsO.form oh; subst hvoh; clear hb hB))
                  all_goals
                   have hb15 := hB2
                   clear hB2 hB0 hc0 hc1 hc2 hc3
                   have hs15 := hb15.size
                   replace b0 := b0.below hb15
                   replace o0 := o0.below hb15
                   replace ow := ow.below hb15
                   replace ox := ox.below hb15
                   replace og := og.below hb15
                   replace o2 := o2.below hb15
                   replace kA := kA.below hb15
                   replace HB := below_step HB hb15 HB.size
                   clear hb15
                   replace o3 := PrsO.wide o3 (Nat.le_refl _) o3.2.2 (Nat.le_refl _)
                   replace oh := PrsO.wide oh (Nat.le_refl _) oh.2.2 (Nat.le_refl _)
                   have q53_kA0 := kA.cell 0 rfl
                   have q54_kA1 := kA.cell 1 rfl
                   have q55_kA2 := kA.cell 2 rfl
                   have q56_kA3 := kA.cell 3 rfl
                   as_aux_lemma =>
                    go_wp2_with fail
                    clear q53_kA0 q54_kA1 q55_kA2 q56_kA3
                    refine (eqPairS_same _ _ zs _ oh.prs ow.prs).mono ?_
                    rintro e w16 ⟨rfl, hb16⟩
                    have hs16 := hb16.size
                    replace b0 := b0.below hb16
                    replace o0 := o0.below hb16
                    replace ow := ow.below hb16
                    replace ox := ox.below hb16
                    replace og := og.below hb16
                    replace o2 := o2.below hb16
                    replace o3 := o3.below hb16
                    replace oh := oh.below hb16
                    replace kA := kA.below hb16
                    replace HB := below_step HB hb16 HB.size
                    clear hb16
                    have q57_kA0 := kA.cell 0 rfl
                    have q58_kA1 := kA.cell 1 rfl
                    have q59_kA2 := kA.cell 2 rfl
                    have q60_kA3 := kA.cell 3 rfl
                    as_aux_lemma =>
                     go_wp2_with fail
                     clear q57_kA0 q58_kA1 q59_kA2 q60_kA3
                     refine (heldPairS_any _ zs.length 1 _ og.prs (by omega) (by have := HZL.out; omega)).mono ?_
                     rintro e w17 ⟨rfl, hb17⟩
                     have hs17 := hb17.size
                     replace b0 := b0.below hb17
                     replace o0 := o0.below hb17
                     replace ow := ow.below hb17
                     replace ox := ox.below hb17
                     replace og := og.below hb17
                     replace o2 := o2.below hb17
                     replace o3 := o3.below hb17
                     replace oh := oh.below hb17
                     replace kA := kA.below hb17
                     replace HB := below_step HB hb17 HB.size
                     clear hb17
                     have q61_kA0 := kA.cell 0 rfl
                     have q62_kA1 := kA.cell 1 rfl
                     have q63_kA2 := kA.cell 2 rfl
                     have q64_kA3 := kA.cell 3 rfl
                     as_aux_lemma =>
                      go_wp2_with fail
                      go_ret
                      exact ⟨rfl, HB⟩

/-! ### THE ROW's STEP -/
set_option maxRecDepth 100000 in
theorem lifted (os : Os) (started : os.Started) (H : Type) (enc : TypeId × Value → H) :
    ReturnsInHanded {} Try.checked os 12 .any (Rows.fnExactStoreApplySpec.pre6 enc Try.prog Try.f12 Rows.fnExactStoreApplyRow.domain false) (Rows.fnExactStoreApplySpec.post enc Try.prog Try.f12 false true false false) := by
  refine returnsInHanded_of_change (C := Try.checked) own started (by kernel_rfl) Try.func12
    (ChangeSpec.witness6 (enc := enc) (C := Try.checked) false ⟨#[], #[.slice none 0 0, .agg #[.int .i64 0, .string ByteArray.empty, .int .i64 0, .int .i64 0]], []⟩ 8 (by kernel_rfl) (by kernel_rfl) (by kernel_rfl) (by kernel_rfl)) ?_
  intro W base args ds gs before hval0 hW hcnd _
  have hval : ∀ (j : Nat) t v, Try.f12.params[j]? = some t → args[j]? = some v → Value.okWide Try.prog W .any base t v := hval0
  have hW' := hW
  obtain ⟨p, q, hA0, hV, rfl, hfz, hnd⟩ := hW
  have hA : DataW.TrodAll enc Try.prog W 0 (fun _ => true) true Try.f12.params.toList args.toList ds p := hA0
  rw [Try.params12] at hA hval
  obtain ⟨v0, vs0, d0, ds0, p0, q0, hargs, rfl, rfl, h0, r0⟩ := trodAll_cons hA
  obtain ⟨v1, vs1, d1, ds1, p1, q1, rfl, rfl, rfl, h1, r1⟩ := trodAll_cons r0
  obtain ⟨rfl, rfl, rfl⟩ := trodAll_nil r1
  obtain rfl : args = #[v0, v1] := by cases args; simp_all
  obtain ⟨rfl, rfl⟩ := trodVars_none hV
  obtain ⟨xs0, b0, wx0⟩ := pairs_in (hval 0 _ v0 rfl rfl) h0
  have lt0 := lt_in h0
  obtain ⟨op1, s1, val1, exp1, rfl, ws1⟩ := cmd_in (hval 1 _ v1 rfl rfl) h1
  have lt1 := lt_in h1
  clear hA0 hval0
  refine (walk_at W v0 xs0 b0 (fit_size wx0) op1 s1 val1 exp1 ws1).mono fun e W' ⟨he, bel⟩ => ?_
  subst he
  exact ⟨_, rfl, _, _, _, [], _, [], hW', trodAll_mk1 (shut_bool Try.underlying4 _), (trodAll_cons_mk (Below.trod laidOut (by kernel_rfl) (of_decide_eq_true (by kernel_rfl)) h0 bel lt0) (trodAll_cons_mk (Below.trod laidOut (by kernel_rfl) (of_decide_eq_true (by kernel_rfl)) h1 bel lt1) trodAll_mk0)), rfl, bel.frame _, fun h => by cases h⟩

set_option maxRecDepth 100000 in
theorem closed : joinedFacts Try.prog 12 Try.f12 Rows.fnExactStoreApplySpec Rows.fnExactStoreApplyRow = true := by
  unfold joinedFacts
  rw [may, lifts, mk]
  kernel_rfl
theorem over : Rows.fnExactStoreApplyRow.holds Try.pinned (OpenSpec.ofChange Rows.fnExactStoreApplySpec) :=
  OpenClaim.holds_of_wide 12 Try.f12 rfl rfl rfl rfl rfl rfl rfl ⟨rfl, rfl, rfl, rfl, rfl⟩ rfl rfl rfl rfl rfl (by as_aux_lemma => kernel_rfl) Try.func12 closed
    (of_decide_eq_true (by as_aux_lemma => kernel_rfl)) (by unfold Func.isWrapper; rw [if_neg (of_decide_eq_false (by as_aux_lemma => kernel_rfl))]; exact ⟨rfl, rfl⟩)
    (fun os started H enc _ => lifted os started H enc)

/-- THE STATEMENT -/
theorem proved : Rows.FnExactStoreApplySaid := over
end Go.Proofs.Ytpkhkmehpijngaa.fnExactStoreApply
