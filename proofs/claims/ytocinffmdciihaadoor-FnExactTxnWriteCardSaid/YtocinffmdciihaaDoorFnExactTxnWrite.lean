/-
  For every input the law FnExactTxnWrite returns true, and what it was given reads afterwards as before. No condition beyond the row's own.
-/
import Derived.Test.YtocinffmdciihaaDoorFrameD
import Derived.Test.YtocinffmdciihaaDoorFrameT
import Derived.Test.YtocinffmdciihaaDoorTie
import Derived.Test.YtocinffmdciihaaDoorCards
import Derived.Test.YtocinffmdciihaaDoorTxnI
import Derived.Test.YtocinffmdciihaaDoorTxnJ
import Derived.Test.YtocinffmdciihaaDoorTxnK
import Derived.Test.YtocinffmdciihaaDoorTxnM
import Derived.SevenTiedAt
import Derived.Deep.DeepCutAuto
import Derived.Deep.QuietTactic
import Derived.Deep.RegionHeld3
import Derived.BigQuiet
namespace Go.Proofs.YtocinffmdciihaaDoor.fnExactTxnWrite
open Go.ChangeShapes Go.WideShapes Go.ChangeAt Go.RowKit
open Go.ChangeMaps (open_string shut_string)
set_option linter.unusedVariables false
theorem R_len {t : Int × List Int × Bool} {ok : Bool} {n : Nat} (h : t.2.1.length = n) : (gate ok t).2.1.length ≤ n := gate_len (by omega)

set_option maxRecDepth 100000 in
set_option maxHeartbeats 8000000 in
theorem walk_at (w : World) (rc0 : Int) (sv0 : Value) (xs0 : List Int) (b0 : Ints w 0 w.heap.size sv0 xs0) (x1 : Int) (wf1 : I64 x1) (hL : Laid w) :
    Calls Tryd.prog 8 #[.agg #[.int .i64 rc0, sv0], .int .i64 x1] w fun e w' => e = .returned (.bool true) ∧ Below w.heap.size w w' := by
  obtain ⟨wf1a, wf1b⟩ := wf1
  have h0L := Nat.le_refl w.heap.size
  replace h0L := hL.lt
  have hbA : Below w.heap.size w (w.alloc (.cells #[.int .i64 rc0, sv0] 37)) := (Below.refl _ _).alloc (Nat.le_refl _) _
  have kA := Blk.new w #[.int .i64 rc0, sv0] 37
  have b0s := b0.2.1
  replace b0 := b0.below hbA
  replace hL := hL.below hbA
  have HB := hbA
  have hsA := hbA.size
  have hlA := kA.lt
  clear hbA
  by_cases big0 : xs0.length ≤ 1048576
  case neg =>
    go_enter Tryd.func8, Tryd.ntmps8
    go_wp2_with fail
    generalize w.alloc (.cells #[.int .i64 rc0, sv0] 37) = w1 at *
    refine (szTxn_any rc0 _ xs0 _ b0 (-1) (if_neg (by omega))).mono ?_
    rintro e w2 ⟨rfl, hb2⟩
    have hs2 := hb2.size
    replace b0 := b0.below hb2
    replace kA := kA.below hb2
    replace hL := hL.below hb2
    replace HB := below_step HB hb2 HB.size
    clear hb2
    have q367_kA0 := kA.cell 0 rfl
    have q368_kA1 := kA.cell 1 rfl
    as_aux_lemma =>
     go_wp2_with fail
     go_ret
     exact ⟨rfl, HB⟩
  have hnl : ¬ (1048576 - (xs0.length : Int) < 0) := by omega
  obtain ⟨A, L, B, hT⟩ : ∃ A L B, writeR rc0 xs0 x1 = (A, L, B) := ⟨_, _, _, rfl⟩
  have hLl : L.length ≤ xs0.length := by
    have h1 : (writeR rc0 xs0 x1).2.1.length ≤ xs0.length := by unfold writeR; exact R_len (writeT_len _ _ _)
    rw [hT] at h1; exact h1
  have HT := Lib.hid hT; clear hT
  have hbb : (B != B) = false := by cases B <;> rfl
  go_enter Tryd.func8, Tryd.ntmps8
  go_wp2_with fail
  generalize w.alloc (.cells #[.int .i64 rc0, sv0] 37) = w1 at *
  refine (szTxn_any rc0 _ xs0 _ b0 (1048576 - (xs0.length : Int)) (if_pos (by omega))).mono ?_
  rintro e w2 ⟨rfl, hb2⟩
  have hs2 := hb2.size
  replace b0 := b0.below hb2
  replace kA := kA.below hb2
  replace hL := hL.below hb2
  replace HB := below_step HB hb2 HB.size
  clear hb2
  have q369_kA0 := kA.cell 0 rfl
  have q370_kA1 := kA.cell 1 rfl
  as_aux_lemma =>
   go_wp2_with fail
   clear q369_kA0 q370_kA1
   refine (toTxn_any rc0 _ xs0 _ b0 big0).mono ?_
   rintro e w3 ⟨y0, rfl, o0, hb3⟩
   have hs3 := hb3.size
   replace b0 := b0.below hb3
   replace kA := kA.below hb3
   replace hL := hL.below hb3
   replace HB := below_step HB hb3 HB.size
   clear hb3
   have q371_kA0 := kA.cell 0 rfl
   have q372_kA1 := kA.cell 1 rfl
   as_aux_lemma =>
    go_wp2_with fail
    clear q371_kA0 q372_kA1
    refine (opOf (specTxnWrite_any rc0 _ xs0 x1 _ o0.ints) HT.out).mono ?_
    rintro e w4 ⟨yw, rfl, iw, hb4⟩
    have hs4 := hb4.size
    replace b0 := b0.below hb4
    replace o0 := o0.below hb4
    replace kA := kA.below hb4
    replace hL := hL.below hb4
    replace HB := below_step HB hb4 HB.size
    clear hb4
    obtain ⟨aw, cw, hv_yw⟩ := own_form iw
    subst hv_yw
    have q373_kA0 := kA.cell 0 rfl
    have q374_kA1 := kA.cell 1 rfl
    have hb5 : Below w4.heap.size w4 (w4.alloc (.cells #[.int .i64 A, .slice aw L.length cw] 25)) := (Below.refl _ _).alloc (Nat.le_refl _) _
    have hs5 := hb5.size
    replace b0 := b0.below hb5
    replace o0 := o0.below hb5
    replace iw := iw.below hb5
    replace kA := kA.below hb5
    replace hL := hL.below hb5
    replace HB := below_step HB hb5 HB.size
    have kW := Blk.new w4 #[.int .i64 A, .slice aw L.length cw] 25
    have hl5 := kW.lt
    clear hb5
    have q375_kA0 := kA.cell 0 rfl
    have q376_kA1 := kA.cell 1 rfl
    have q377_kW0 := kW.cell 0 rfl
    have q378_kW1 := kW.cell 1 rfl
    as_aux_lemma =>
     go_wp2_with fail
     generalize w4.alloc (.cells #[.int .i64 A, .slice aw L.length cw] 25) = w5 at *
     generalize w4.heap.size = B5 at *
     clear q373_kA0 q374_kA1 q375_kA0 q376_kA1 q377_kW0 q378_kW1
     refine (toTxn_any rc0 _ xs0 _ b0 big0).mono ?_
     rintro e w6 ⟨yx, rfl, ox, hb6⟩
     have hs6 := hb6.size
     replace b0 := b0.below hb6
     replace o0 := o0.below hb6
     replace iw := iw.below hb6
     replace kA := kA.below hb6
     replace kW := kW.below hb6
     replace hL := hL.below hb6
     replace HB := below_step HB hb6 HB.size
     clear hb6
     obtain ⟨ax, cx, hv_yx⟩ := own_form ox
     subst hv_yx
     have q379_kA0 := kA.cell 0 rfl
     have q380_kA1 := kA.cell 1 rfl
     have q381_kW0 := kW.cell 0 rfl
     have q382_kW1 := kW.cell 1 rfl
     have hb7 : Below w6.heap.size w6 (w6.alloc (.cells #[.int .i64 rc0, .slice ax xs0.length cx] 25)) := (Below.refl _ _).alloc (Nat.le_refl _) _
     have hs7 := hb7.size
     replace b0 := b0.below hb7
     replace o0 := o0.below hb7
     replace iw := iw.below hb7
     replace ox := ox.below hb7
     replace kA := kA.below hb7
     replace kW := kW.below hb7
     replace hL := hL.below hb7
     replace HB := below_step HB hb7 HB.size
     have kX := Blk.new w6 #[.int .i64 rc0, .slice ax xs0.length cx] 25
     have hl7 := kX.lt
     clear hb7
     have q383_kA0 := kA.cell 0 rfl
     have q384_kA1 := kA.cell 1 rfl
     have q385_kW0 := kW.cell 0 rfl
     have q386_kW1 := kW.cell 1 rfl
     have q387_kX0 := kX.cell 0 rfl
     have q388_kX1 := kX.cell 1 rfl
     as_aux_lemma =>
      go_wp2_with fail
      generalize w6.alloc (.cells #[.int .i64 rc0, .slice ax xs0.length cx] 25) = w7 at *
      generalize w6.heap.size = B7 at *
      clear q379_kA0 q380_kA1 q381_kW0 q382_kW1 q383_kA0 q384_kA1 q385_kW0 q386_kW1 q387_kX0 q388_kX1
      refine (opOf (implTxnWrite_any rc0 _ xs0 x1 _ ox.ints hL) HT.out).mono ?_
      rintro e w8 ⟨yg, rfl, ig, hb8⟩
      have hs8 := hb8.size
      replace b0 := b0.below hb8
      replace o0 := o0.below hb8
      replace iw := iw.below hb8
      replace ox := ox.below hb8
      replace kA := kA.below hb8
      replace kW := kW.below hb8
      replace kX := kX.below hb8
      replace hL := hL.below hb8
      replace HB := below_step HB hb8 HB.size
      clear hb8
      obtain ⟨ag, cg, hv_yg⟩ := own_form ig
      subst hv_yg
      have q389_kA0 := kA.cell 0 rfl
      have q390_kA1 := kA.cell 1 rfl
      have q391_kW0 := kW.cell 0 rfl
      have q392_kW1 := kW.cell 1 rfl
      have q393_kX0 := kX.cell 0 rfl
      have q394_kX1 := kX.cell 1 rfl
      have hb9 : Below w8.heap.size w8 (w8.alloc (.cells #[.int .i64 A, .slice ag L.length cg] 25)) := (Below.refl _ _).alloc (Nat.le_refl _) _
      have hs9 := hb9.size
      replace b0 := b0.below hb9
      replace o0 := o0.below hb9
      replace iw := iw.below hb9
      replace ox := ox.below hb9
      replace ig := ig.below hb9
      replace kA := kA.below hb9
      replace kW := kW.below hb9
      replace kX := kX.below hb9
      replace hL := hL.below hb9
      replace HB := below_step HB hb9 HB.size
      have kG := Blk.new w8 #[.int .i64 A, .slice ag L.length cg] 25
      have hl9 := kG.lt
      clear hb9
      have q395_kA0 := kA.cell 0 rfl
      have q396_kA1 := kA.cell 1 rfl
      have q397_kW0 := kW.cell 0 rfl
      have q398_kW1 := kW.cell 1 rfl
      have q399_kX0 := kX.cell 0 rfl
      have q400_kX1 := kX.cell 1 rfl
      have q401_kG0 := kG.cell 0 rfl
      have q402_kG1 := kG.cell 1 rfl
      as_aux_lemma =>
       go_wp2_with fail
       generalize w8.alloc (.cells #[.int .i64 A, .slice ag L.length cg] 25) = w9 at *
       generalize w8.heap.size = B9 at *
       clear q389_kA0 q390_kA1 q391_kW0 q392_kW1 q393_kX0 q394_kX1 q395_kA0 q396_kA1 q397_kW0 q398_kW1 q399_kX0 q400_kX1 q401_kG0 q402_kG1
       refine (eqTxn_any A A _ _ L L _ ig.ints iw.ints true (by simp)).mono ?_
       rintro e w10 ⟨rfl, hb10⟩
       have hs10 := hb10.size
       replace b0 := b0.below hb10
       replace o0 := o0.below hb10
       replace iw := iw.below hb10
       replace ox := ox.below hb10
       replace ig := ig.below hb10
       replace kA := kA.below hb10
       replace kW := kW.below hb10
       replace kX := kX.below hb10
       replace kG := kG.below hb10
       replace hL := hL.below hb10
       replace HB := below_step HB hb10 HB.size
       clear hb10
       have hc0 := kA.cell 0 rfl
       have hc1 := kA.cell 1 rfl
       have hc2 := kW.cell 0 rfl
       have hc3 := kW.cell 1 rfl
       have hc4 := kX.cell 0 rfl
       have hc5 := kX.cell 1 rfl
       have hc6 := kG.cell 0 rfl
       have hc7 := kG.cell 1 rfl
       have hB0 : Below w10.heap.size w10 w10.drew := (Below.refl _ _).drew
       as_aux_lemma =>
        go_upto_region 10 with fail
        go_cut [49] (fun s49 wx => s49 = .bool false ∧ Below w10.heap.size w10 wx)
        case first =>
          go_region_held3 (fun w' => w'.cell? ⟨w.heap.size, 0, none⟩ = some (.int .i64 rc0) ∧ w'.cell? ⟨w.heap.size, 1, none⟩ = some (sv0) ∧ w'.cell? ⟨B5, 0, none⟩ = some (.int .i64 A) ∧ w'.cell? ⟨B5, 1, none⟩ = some (.slice aw L.length cw) ∧ w'.cell? ⟨B7, 0, none⟩ = some (.int .i64 rc0) ∧ w'.cell? ⟨B7, 1, none⟩ = some (.slice ax xs0.length cx) ∧ w'.cell? ⟨B9, 0, none⟩ = some (.int .i64 A) ∧ w'.cell? ⟨B9, 1, none⟩ = some (.slice ag L.length cg) ∧ Below w10.heap.size w10 w')
            (first
              | exact ⟨hc0, hc1, hc2, hc3, hc4, hc5, hc6, hc7, hB2⟩
              | exact ⟨hc0, hc1, hc2, hc3, hc4, hc5, hc6, hc7, hB0⟩
              | (go_split_ands; refine ⟨?_, ?_, ?_, ?_, ?_, ?_, ?_, ?_, ?_⟩ <;> assumption))
            (first
              | (go_at_call 32; obtain ⟨hc0, hc1, hc2, hc3, hc4, hc5, hc6, hc7, hB⟩ := ‹_ ∧ _ ∧ _ ∧ _ ∧ _ ∧ _ ∧ _ ∧ _ ∧ Below w10.heap.size w10 _›; refine (toTxn_any rc0 _ xs0 _ (b0.below hB) big0).mono ?_; rintro e wr0 ⟨y, rfl, oo, hb⟩; replace hc0 := below_cell hb hc0; replace hc1 := below_cell hb hc1; replace hc2 := below_cell hb hc2; replace hc3 := below_cell hb hc3; replace hc4 := below_cell hb hc4; replace hc5 := below_cell hb hc5; replace hc6 := below_cell hb hc6; replace hc7 := below_cell hb hc7; have hB2 := below_step hB hb hB.size)
              | (go_at_call 33; obtain ⟨hc0, hc1, hc2, hc3, hc4, hc5, hc6, hc7, hB⟩ := ‹_ ∧ _ ∧ _ ∧ _ ∧ _ ∧ _ ∧ _ ∧ _ ∧ Below w10.heap.size w10 _›; refine (eqTxn_any rc0 rc0 _ _ xs0 xs0 _ (ox.below hB).ints oo.ints true (by simp)).mono ?_; rintro e wr1 ⟨rfl, hb⟩; replace hc0 := below_cell hb hc0; replace hc1 := below_cell hb hc1; replace hc2 := below_cell hb hc2; replace hc3 := below_cell hb hc3; replace hc4 := below_cell hb hc4; replace hc5 := below_cell hb hc5; replace hc6 := below_cell hb hc6; replace hc7 := below_cell hb hc7; have hB2 := below_step hB hb hB.size))
          all_goals
            go_wp2_with fail
            go_meet
            exact ⟨rfl, hB2⟩
        case rest =>
          obtain ⟨rfl, hb11⟩ := hcut
          generalize wc = w11 at *
          clear hc0 hc1 hc2 hc3 hc4 hc5 hc6 hc7
          have hs11 := hb11.size
          replace b0 := b0.below hb11
          replace o0 := o0.below hb11
          replace iw := iw.below hb11
          replace ox := ox.below hb11
          replace ig := ig.below hb11
          replace kA := kA.below hb11
          replace kW := kW.below hb11
          replace kX := kX.below hb11
          replace kG := kG.below hb11
          replace hL := hL.below hb11
          replace HB := below_step HB hb11 HB.size
          clear hb11 hB0
          have q403_kA0 := kA.cell 0 rfl
          have q404_kA1 := kA.cell 1 rfl
          have q405_kW0 := kW.cell 0 rfl
          have q406_kW1 := kW.cell 1 rfl
          have q407_kX0 := kX.cell 0 rfl
          have q408_kX1 := kX.cell 1 rfl
          have q409_kG0 := kG.cell 0 rfl
          have q410_kG1 := kG.cell 1 rfl
          as_aux_lemma =>
           go_wp2_with fail
           clear q403_kA0 q404_kA1 q405_kW0 q406_kW1 q407_kX0 q408_kX1 q409_kG0 q410_kG1
           refine (markTxn_any rc0 _ xs0 1 _ ox (by omega) (by omega) (by omega)).mono ?_
           rintro e w12 ⟨rfl, hm12, hk12⟩
           have hs12 := hk12.size
           replace b0 := b0.keep hk12 (by omega)
           replace o0 := o0.keep hk12 (by omega)
           replace iw := iw.keep hk12 (by omega)
           replace ig := ig.keep hk12 (by omega)
           replace kA := kA.keep hk12 (by omega)
           replace kW := kW.keep hk12 (by omega)
           replace kX := kX.keep hk12 (by omega)
           replace kG := kG.keep hk12 (by omega)
           replace hL := hL.keep hk12 (by omega)
           replace HB := HB.trans (hk12.below (B := w.heap.size) (by omega) HB.size)
           replace ox := hm12
           clear hm12 hk12
           have hk0 : ¬ (1 + (xs0.length : Int) < 0) := by omega
           have q411_kA0 := kA.cell 0 rfl
           have q412_kA1 := kA.cell 1 rfl
           have q413_kW0 := kW.cell 0 rfl
           have q414_kW1 := kW.cell 1 rfl
           have q415_kX0 := kX.cell 0 rfl
           have q416_kX1 := kX.cell 1 rfl
           have q417_kG0 := kG.cell 0 rfl
           have q418_kG1 := kG.cell 1 rfl
           as_aux_lemma =>
            go_wp2_with fail
            clear q411_kA0 q412_kA1 q413_kW0 q414_kW1 q415_kX0 q416_kX1 q417_kG0 q418_kG1
            refine (eqTxn_any A A _ _ L L _ ig.ints iw.ints true (by simp)).mono ?_
            rintro e w13 ⟨rfl, hb13⟩
            have hs13 := hb13.size
            replace b0 := b0.below hb13
            replace o0 := o0.below hb13
            replace iw := iw.below hb13
            replace ox := ox.below hb13
            replace ig := ig.below hb13
            replace kA := kA.below hb13
            replace kW := kW.below hb13
            replace kX := kX.below hb13
            replace kG := kG.below hb13
            replace hL := hL.below hb13
            replace HB := below_step HB hb13 HB.size
            clear hb13
            have q419_kA0 := kA.cell 0 rfl
            have q420_kA1 := kA.cell 1 rfl
            have q421_kW0 := kW.cell 0 rfl
            have q422_kW1 := kW.cell 1 rfl
            have q423_kX0 := kX.cell 0 rfl
            have q424_kX1 := kX.cell 1 rfl
            have q425_kG0 := kG.cell 0 rfl
            have q426_kG1 := kG.cell 1 rfl
            as_aux_lemma =>
             go_wp2_with fail
             clear q419_kA0 q420_kA1 q421_kW0 q422_kW1 q423_kX0 q424_kX1 q425_kG0 q426_kG1
             refine (markTxn_any A _ L 1 _ ig (by omega) (by omega) (by omega)).mono ?_
             rintro e w14 ⟨rfl, hm14, hk14⟩
             have hs14 := hk14.size
             replace b0 := b0.keep hk14 (by omega)
             replace o0 := o0.keep hk14 (by omega)
             replace iw := iw.keep hk14 (by omega)
             replace ox := ox.keep hk14 (by omega)
             replace kA := kA.keep hk14 (by omega)
             replace kW := kW.keep hk14 (by omega)
             replace kX := kX.keep hk14 (by omega)
             replace kG := kG.keep hk14 (by omega)
             replace hL := hL.keep hk14 (by omega)
             replace HB := HB.trans (hk14.below (B := w.heap.size) (by omega) HB.size)
             replace ig := hm14
             clear hm14 hk14
             have hk1 : ¬ (1 + (L.length : Int) < 0) := by omega
             have hk2 : (1 + (L.length : Int) != 1 + (L.length : Int)) = false := by simp
             have q427_kA0 := kA.cell 0 rfl
             have q428_kA1 := kA.cell 1 rfl
             have q429_kW0 := kW.cell 0 rfl
             have q430_kW1 := kW.cell 1 rfl
             have q431_kX0 := kX.cell 0 rfl
             have q432_kX1 := kX.cell 1 rfl
             have q433_kG0 := kG.cell 0 rfl
             have q434_kG1 := kG.cell 1 rfl
             as_aux_lemma =>
              go_wp2_with fail
              clear q427_kA0 q428_kA1 q429_kW0 q430_kW1 q431_kX0 q432_kX1 q433_kG0 q434_kG1
              refine (heldTxn_any A _ L.length 1 _ ig.ints (by omega) (by omega)).mono ?_
              rintro e w15 ⟨rfl, hb15⟩
              have hs15 := hb15.size
              replace b0 := b0.below hb15
              replace o0 := o0.below hb15
              replace iw := iw.below hb15
              replace ox := ox.below hb15
              replace ig := ig.below hb15
              replace kA := kA.below hb15
              replace kW := kW.below hb15
              replace kX := kX.below hb15
              replace kG := kG.below hb15
              replace hL := hL.below hb15
              replace HB := below_step HB hb15 HB.size
              clear hb15
              have q435_kA0 := kA.cell 0 rfl
              have q436_kA1 := kA.cell 1 rfl
              have q437_kW0 := kW.cell 0 rfl
              have q438_kW1 := kW.cell 1 rfl
              have q439_kX0 := kX.cell 0 rfl
              have q440_kX1 := kX.cell 1 rfl
              have q441_kG0 := kG.cell 0 rfl
              have q442_kG1 := kG.cell 1 rfl
              as_aux_lemma =>
               go_wp2_with fail
               clear q435_kA0 q436_kA1 q437_kW0 q438_kW1 q439_kX0 q440_kX1 q441_kG0 q442_kG1
               refine (toTxn_any rc0 _ xs0 _ b0 big0).mono ?_
               rintro e w16 ⟨yz, rfl, oz, hb16⟩
               have hs16 := hb16.size
               replace b0 := b0.below hb16
               replace o0 := o0.below hb16
               replace iw := iw.below hb16
               replace ox := ox.below hb16
               replace ig := ig.below hb16
               replace kA := kA.below hb16
               replace kW := kW.below hb16
               replace kX := kX.below hb16
               replace kG := kG.below hb16
               replace hL := hL.below hb16
               replace HB := below_step HB hb16 HB.size
               clear hb16
               have q443_kA0 := kA.cell 0 rfl
               have q444_kA1 := kA.cell 1 rfl
               have q445_kW0 := kW.cell 0 rfl
               have q446_kW1 := kW.cell 1 rfl
               have q447_kX0 := kX.cell 0 rfl
               have q448_kX1 := kX.cell 1 rfl
               have q449_kG0 := kG.cell 0 rfl
               have q450_kG1 := kG.cell 1 rfl
               as_aux_lemma =>
                go_wp2_with fail
                clear q443_kA0 q444_kA1 q445_kW0 q446_kW1 q447_kX0 q448_kX1 q449_kG0 q450_kG1
                refine (opOf (implTxnWrite_any rc0 _ xs0 x1 _ oz.ints hL) HT.out).mono ?_
                rintro e w17 ⟨yh, rfl, ih, hb17⟩
                have hs17 := hb17.size
                replace b0 := b0.below hb17
                replace o0 := o0.below hb17
                replace iw := iw.below hb17
                replace ox := ox.below hb17
                replace ig := ig.below hb17
                replace oz := oz.below hb17
                replace kA := kA.below hb17
                replace kW := kW.below hb17
                replace kX := kX.below hb17
                replace kG := kG.below hb17
                replace hL := hL.below hb17
                replace HB := below_step HB hb17 HB.size
                clear hb17
                obtain ⟨ah, ch, hv_yh⟩ := own_form ih
                subst hv_yh
                have q451_kA0 := kA.cell 0 rfl
                have q452_kA1 := kA.cell 1 rfl
                have q453_kW0 := kW.cell 0 rfl
                have q454_kW1 := kW.cell 1 rfl
                have q455_kX0 := kX.cell 0 rfl
                have q456_kX1 := kX.cell 1 rfl
                have q457_kG0 := kG.cell 0 rfl
                have q458_kG1 := kG.cell 1 rfl
                have hb18 : Below w17.heap.size w17 (w17.alloc (.cells #[.int .i64 A, .slice ah L.length ch] 25)) := (Below.refl _ _).alloc (Nat.le_refl _) _
                have hs18 := hb18.size
                replace b0 := b0.below hb18
                replace o0 := o0.below hb18
                replace iw := iw.below hb18
                replace ox := ox.below hb18
                replace ig := ig.below hb18
                replace oz := oz.below hb18
                replace ih := ih.below hb18
                replace kA := kA.below hb18
                replace kW := kW.below hb18
                replace kX := kX.below hb18
                replace kG := kG.below hb18
                replace hL := hL.below hb18
                replace HB := below_step HB hb18 HB.size
                have kH := Blk.new w17 #[.int .i64 A, .slice ah L.length ch] 25
                have hl18 := kH.lt
                clear hb18
                have q459_kA0 := kA.cell 0 rfl
                have q460_kA1 := kA.cell 1 rfl
                have q461_kW0 := kW.cell 0 rfl
                have q462_kW1 := kW.cell 1 rfl
                have q463_kX0 := kX.cell 0 rfl
                have q464_kX1 := kX.cell 1 rfl
                have q465_kG0 := kG.cell 0 rfl
                have q466_kG1 := kG.cell 1 rfl
                have q467_kH0 := kH.cell 0 rfl
                have q468_kH1 := kH.cell 1 rfl
                as_aux_lemma =>
                 go_wp2_with fail
                 generalize w17.alloc (.cells #[.int .i64 A, .slice ah L.length ch] 25) = w18 at *
                 generalize w17.heap.size = B18 at *
                 clear q451_kA0 q452_kA1 q453_kW0 q454_kW1 q455_kX0 q456_kX1 q457_kG0 q458_kG1 q459_kA0 q460_kA1 q461_kW0 q462_kW1 q463_kX0 q464_kX1 q465_kG0 q466_kG1 q467_kH0 q468_kH1
                 refine (eqTxn_any A A _ _ L L _ ih.ints iw.ints true (by simp)).mono ?_
                 rintro e w19 ⟨rfl, hb19⟩
                 have hs19 := hb19.size
                 replace b0 := b0.below hb19
                 replace o0 := o0.below hb19
                 replace iw := iw.below hb19
                 replace ox := ox.below hb19
                 replace ig := ig.below hb19
                 replace oz := oz.below hb19
                 replace ih := ih.below hb19
                 replace kA := kA.below hb19
                 replace kW := kW.below hb19
                 replace kX := kX.below hb19
                 replace kG := kG.below hb19
                 replace kH := kH.below hb19
                 replace hL := hL.below hb19
                 replace HB := below_step HB hb19 HB.size
                 clear hb19
                 have q469_kA0 := kA.cell 0 rfl
                 have q470_kA1 := kA.cell 1 rfl
                 have q471_kW0 := kW.cell 0 rfl
                 have q472_kW1 := kW.cell 1 rfl
                 have q473_kX0 := kX.cell 0 rfl
                 have q474_kX1 := kX.cell 1 rfl
                 have q475_kG0 := kG.cell 0 rfl
                 have q476_kG1 := kG.cell 1 rfl
                 have q477_kH0 := kH.cell 0 rfl
                 have q478_kH1 := kH.cell 1 rfl
                 as_aux_lemma =>
                  go_wp2_with fail
                  clear q469_kA0 q470_kA1 q471_kW0 q472_kW1 q473_kX0 q474_kX1 q475_kG0 q476_kG1 q477_kH0 q478_kH1
                  refine (heldTxn_any A _ L.length 1 _ ig.ints (by omega) (by omega)).mono ?_
                  rintro e w20 ⟨rfl, hb20⟩
                  have hs20 := hb20.size
                  replace b0 := b0.below hb20
                  replace o0 := o0.below hb20
                  replace iw := iw.below hb20
                  replace ox := ox.below hb20
                  replace ig := ig.below hb20
                  replace oz := oz.below hb20
                  replace ih := ih.below hb20
                  replace kA := kA.below hb20
                  replace kW := kW.below hb20
                  replace kX := kX.below hb20
                  replace kG := kG.below hb20
                  replace kH := kH.below hb20
                  replace hL := hL.below hb20
                  replace HB := below_step HB hb20 HB.size
                  clear hb20
                  have q479_kA0 := kA.cell 0 rfl
                  have q480_kA1 := kA.cell 1 rfl
                  have q481_kW0 := kW.cell 0 rfl
                  have q482_kW1 := kW.cell 1 rfl
                  have q483_kX0 := kX.cell 0 rfl
                  have q484_kX1 := kX.cell 1 rfl
                  have q485_kG0 := kG.cell 0 rfl
                  have q486_kG1 := kG.cell 1 rfl
                  have q487_kH0 := kH.cell 0 rfl
                  have q488_kH1 := kH.cell 1 rfl
                  as_aux_lemma =>
                   go_wp2_with fail
                   go_ret
                   exact ⟨rfl, HB⟩

/-! ### THE ROW's STEP -/
set_option maxRecDepth 100000 in
theorem lifted (os : Os) (started : os.Started) (H : Type) (enc : TypeId × Value → H) :
    ReturnsInHanded {} Tryd.checked os 8 .any (fun w args => (Rows.fnExactTxnWriteSpec.pre enc Tryd.prog Tryd.f8 [] false w args ∧ laidMetH Tryd.prog laidL w) ∧ sizedMet enc Tryd.prog Tryd.f8 (OpenSpec.ofChange Rows.fnExactTxnWriteSpec) false w args)
      (Rows.fnExactTxnWriteSpec.post enc Tryd.prog Tryd.f8 false true false false) := by
  refine returnsInHanded_of_change_and (C := Tryd.checked) (X := fun w _ => laidMetH Tryd.prog laidL w) (fun _ _ _ hh h => h.of_heap hh) own started (by kernel_rfl) Tryd.func8
    (ChangeSpec.witness_at (enc := enc) (C := Tryd.checked) (os := os) (X := fun w _ => laidMetH Tryd.prog laidL w) false (laidWorld os) #[.agg #[.int .i64 0, .slice none 0 0], .int .i64 0] 8 rfl (by kernel_rfl) (by kernel_rfl) (by kernel_rfl) (by kernel_rfl) (by kernel_rfl) (laidWorld_met os _)) ?_
  intro W base args ds gs before hval0 hW _ _ hL _
  have hval : ∀ (j : Nat) t v, Tryd.f8.params[j]? = some t → args[j]? = some v → Value.okWide Tryd.prog W .any base t v := hval0
  have hW' := hW
  obtain ⟨p, q, hA0, hV, rfl, hfz, hnd⟩ := hW
  have hA : DataW.TrodAll enc Tryd.prog W 0 (fun _ => true) true Tryd.f8.params.toList args.toList ds p := hA0
  rw [Tryd.params8] at hA hval
  obtain ⟨v0, vs0, d0, ds0, p0, q0, hargs, rfl, rfl, h0, r0⟩ := trodAll_cons hA
  obtain ⟨v1, vs1, d1, ds1, p1, q1, rfl, rfl, rfl, h1, r1⟩ := trodAll_cons r0
  obtain ⟨rfl, rfl, rfl⟩ := trodAll_nil r1
  obtain rfl : args = #[v0, v1] := by cases args; simp_all
  obtain ⟨rfl, rfl⟩ := trodVars_none hV
  obtain ⟨rc0, sv0, xs0, rfl, wr0, b0, wx0⟩ := txn_in (hval 0 _ v0 rfl rfl) h0
  have lt0 := lt_in h0
  obtain ⟨x1, rfl, rfl, rfl, w1⟩ := open_int Tryd.underlying3 (hval 1 3 v1 rfl rfl) h1
  clear hA0 hval0
  refine (walk_at W rc0 sv0 xs0 b0 x1 (i64_of_wf w1) (laid_of hL)).mono fun e W' ⟨he, bel⟩ => ?_
  subst he
  exact ⟨_, rfl, _, _, _, [], _, [], hW', trodAll_mk1 (shut_bool Tryd.underlying4 _), (trodAll_cons_mk (Below.trod laidOut (by kernel_rfl) (of_decide_eq_true (by kernel_rfl)) h0 bel lt0) (trodAll_cons_mk (shut_int Tryd.underlying3 w1) trodAll_mk0)), rfl, bel.frame _, fun h => by cases h⟩

set_option maxRecDepth 100000 in
theorem closed : joinedFacts Tryd.prog 8 Tryd.f8 Rows.fnExactTxnWriteSpec Rows.fnExactTxnWriteRow = true := by
  unfold joinedFacts
  rw [may, lifts, mk]
  kernel_rfl
theorem over : Rows.fnExactTxnWriteRow.holds Tryd.pinned (OpenSpec.ofChange Rows.fnExactTxnWriteSpec) :=
  OpenClaim.holds_of_wide 8 Tryd.f8 rfl rfl rfl rfl rfl rfl rfl ⟨rfl, rfl, rfl, rfl, rfl⟩ rfl rfl rfl rfl rfl (by as_aux_lemma => kernel_rfl) Tryd.func8 closed
    (of_decide_eq_true (by as_aux_lemma => kernel_rfl)) (by unfold Func.isWrapper; rw [if_neg (of_decide_eq_false (by as_aux_lemma => kernel_rfl))]; exact ⟨rfl, rfl⟩)
    (fun os started H enc _ => lifted os started H enc)

/-- THE STATEMENT: the tied card -/
theorem proved : Rows.FnExactTxnWriteCardSaid :=
  Claim7.holds_tied_plain_at .later [] [.handle] true Rows.fnExactTxnWriteCard.stood.harness true
    over (fun _ h => by cases h) (by kernel_rfl) (fun _ h => by cases h) fnExactTxnWrite_row_tie rfl ⟨rfl, rfl⟩ (by kernel_rfl) rfl
    (fun f fn hf hfn => by
      obtain rfl : f = 8 := Option.some.inj ((show Tryd.prog.funcNamed "loop.example/flexquorum/laws.FnExactTxnWrite" = some 8 by kernel_rfl).symm.trans hf) |>.symm
      obtain rfl : fn = Tryd.f8 := (Option.some.inj (Tryd.func8.symm.trans hfn)).symm
      exact ⟨by kernel_rfl, fun j t ht => by
        rw [Tryd.params8] at ht
        have hm := Array.mem_of_getElem? ht
        simp only [List.mem_toArray, List.mem_cons, List.not_mem_nil, or_false] at hm
        (rcases hm with hm | hm)
        · (subst hm; exact (show Tryd.prog.wantsStandIn 37 = false by kernel_rfl))
        · (subst hm; exact (show Tryd.prog.wantsStandIn 3 = false by kernel_rfl))⟩)
    (by kernel_rfl)
end Go.Proofs.YtocinffmdciihaaDoor.fnExactTxnWrite
