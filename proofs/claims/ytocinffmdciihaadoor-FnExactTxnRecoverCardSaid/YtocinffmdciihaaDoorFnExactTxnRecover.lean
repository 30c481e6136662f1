/-
  For every input the law FnExactTxnRecover returns true, and what it was given reads afterwards as before. No condition beyond the row's own.
-/
import Derived.Test.YtocinffmdciihaaDoorFrameD
import Derived.Test.YtocinffmdciihaaDoorFrameT
import Derived.Test.YtocinffmdciihaaDoorTie
import Derived.Test.YtocinffmdciihaaDoorCards
import Derived.Test.YtocinffmdciihaaDoorTxnI
import Derived.Test.YtocinffmdciihaaDoorTxnJ
import Derived.Test.YtocinffmdciihaaDoorTxnK
import Derived.Test.YtocinffmdciihaaDoorTxnM
import Derived.SevenTiedAt
import Derived.Deep.DeepCutAuto
import Derived.Deep.QuietTactic
import Derived.Deep.RegionHeld3
import Derived.BigQuiet
namespace Go.Proofs.YtocinffmdciihaaDoor.fnExactTxnRecover
open Go.ChangeShapes Go.WideShapes Go.ChangeAt Go.RowKit
open Go.ChangeMaps (open_string shut_string)
set_option linter.unusedVariables false
theorem R_len {t : Int × List Int × Bool} {ok : Bool} {n : Nat} (h : t.2.1.length = n) : (gate ok t).2.1.length ≤ n := gate_len (by omega)

set_option maxRecDepth 100000 in
set_option maxHeartbeats 8000000 in
theorem walk_at (w : World) (rc0 : Int) (sv0 : Value) (xs0 : List Int) (b0 : Ints w 0 w.heap.size sv0 xs0) (hL : Laid w) :
    Calls Tryd.prog 13 #[.agg #[.int .i64 rc0, sv0]] w fun e w' => e = .returned (.bool true) ∧ Below w.heap.size w w' := by
  have h0L := Nat.le_refl w.heap.size
  replace h0L := hL.lt
  have hbA : Below w.heap.size w (w.alloc (.cells #[.int .i64 rc0, sv0] 37)) := (Below.refl _ _).alloc (Nat.le_refl _) _
  have kA := Blk.new w #[.int .i64 rc0, sv0] 37
  have b0s := b0.2.1
  replace b0 := b0.below hbA
  replace hL := hL.below hbA
  have HB := hbA
  have hsA := hbA.size
  have hlA := kA.lt
  clear hbA
  by_cases big0 : xs0.length ≤ 1048576
  case neg =>
    go_enter Tryd.func13, Tryd.ntmps13
    go_wp2_with fail
    generalize w.alloc (.cells #[.int .i64 rc0, sv0] 37) = w1 at *
    refine (szTxn_any rc0 _ xs0 _ b0 (-1) (if_neg (by omega))).mono ?_
    rintro e w2 ⟨rfl, hb2⟩
    have hs2 := hb2.size
    replace b0 := b0.below hb2
    replace kA := kA.below hb2
    replace hL := hL.below hb2
    replace HB := below_step HB hb2 HB.size
    clear hb2
    have q245_kA0 := kA.cell 0 rfl
    have q246_kA1 := kA.cell 1 rfl
    as_aux_lemma =>
     go_wp2_with fail
     go_ret
     exact ⟨rfl, HB⟩
  have hnl : ¬ (1048576 - (xs0.length : Int) < 0) := by omega
  obtain ⟨A, L, B, hT⟩ : ∃ A L B, recoverR rc0 xs0 = (A, L, B) := ⟨_, _, _, rfl⟩
  have hLl : L.length ≤ xs0.length := by
    have h1 : (recoverR rc0 xs0).2.1.length ≤ xs0.length := by unfold recoverR; exact R_len (recoverT_len _ _)
    rw [hT] at h1; exact h1
  have HT := Lib.hid hT; clear hT
  have hbb : (B != B) = false := by cases B <;> rfl
  go_enter Tryd.func13, Tryd.ntmps13
  go_wp2_with fail
  generalize w.alloc (.cells #[.int .i64 rc0, sv0] 37) = w1 at *
  refine (szTxn_any rc0 _ xs0 _ b0 (1048576 - (xs0.length : Int)) (if_pos (by omega))).mono ?_
  rintro e w2 ⟨rfl, hb2⟩
  have hs2 := hb2.size
  replace b0 := b0.below hb2
  replace kA := kA.below hb2
  replace hL := hL.below hb2
  replace HB := below_step HB hb2 HB.size
  clear hb2
  have q247_kA0 := kA.cell 0 rfl
  have q248_kA1 := kA.cell 1 rfl
  as_aux_lemma =>
   go_wp2_with fail
   clear q247_kA0 q248_kA1
   refine (toTxn_any rc0 _ xs0 _ b0 big0).mono ?_
   rintro e w3 ⟨y0, rfl, o0, hb3⟩
   have hs3 := hb3.size
   replace b0 := b0.below hb3
   replace kA := kA.below hb3
   replace hL := hL.below hb3
   replace HB := below_step HB hb3 HB.size
   clear hb3
   have q249_kA0 := kA.cell 0 rfl
   have q250_kA1 := kA.cell 1 rfl
   as_aux_lemma =>
    go_wp2_with fail
    clear q249_kA0 q250_kA1
    refine (opOf (specTxnRecover_any rc0 _ xs0 _ o0.ints) HT.out).mono ?_
    rintro e w4 ⟨yw, rfl, iw, hb4⟩
    have hs4 := hb4.size
    replace b0 := b0.below hb4
    replace o0 := o0.below hb4
    replace kA := kA.below hb4
    replace hL := hL.below hb4
    replace HB := below_step HB hb4 HB.size
    clear hb4
    obtain ⟨aw, cw, hv_yw⟩ := own_form iw
    subst hv_yw
    have q251_kA0 := kA.cell 0 rfl
    have q252_kA1 := kA.cell 1 rfl
    have hb5 : Below w4.heap.size w4 (w4.alloc (.cells #[.int .i64 A, .slice aw L.length cw] 25)) := (Below.refl _ _).alloc (Nat.le_refl _) _
    have hs5 := hb5.size
    replace b0 := b0.below hb5
    replace o0 := o0.below hb5
    replace iw := iw.below hb5
    replace kA := kA.below hb5
    replace hL := hL.below hb5
    replace HB := below_step HB hb5 HB.size
    have kW := Blk.new w4 #[.int .i64 A, .slice aw L.length cw] 25
    have hl5 := kW.lt
    clear hb5
    have q253_kA0 := kA.cell 0 rfl
    have q254_kA1 := kA.cell 1 rfl
    have q255_kW0 := kW.cell 0 rfl
    have q256_kW1 := kW.cell 1 rfl
    as_aux_lemma =>
     go_wp2_with fail
     generalize w4.alloc (.cells #[.int .i64 A, .slice aw L.length cw] 25) = w5 at *
     generalize w4.heap.size = B5 at *
     clear q251_kA0 q252_kA1 q253_kA0 q254_kA1 q255_kW0 q256_kW1
     refine (toTxn_any rc0 _ xs0 _ b0 big0).mono ?_
     rintro e w6 ⟨yx, rfl, ox, hb6⟩
     have hs6 := hb6.size
     replace b0 := b0.below hb6
     replace o0 := o0.below hb6
     replace iw := iw.below hb6
     replace kA := kA.below hb6
     replace kW := kW.below hb6
     replace hL := hL.below hb6
     replace HB := below_step HB hb6 HB.size
     clear hb6
     obtain ⟨ax, cx, hv_yx⟩ := own_form ox
     subst hv_yx
     have q257_kA0 := kA.cell 0 rfl
     have q258_kA1 := kA.cell 1 rfl
     have q259_kW0 := kW.cell 0 rfl
     have q260_kW1 := kW.cell 1 rfl
     have hb7 : Below w6.heap.size w6 (w6.alloc (.cells #[.int .i64 rc0, .slice ax xs0.length cx] 25)) := (Below.refl _ _).alloc (Nat.le_refl _) _
     have hs7 := hb7.size
     replace b0 := b0.below hb7
     replace o0 := o0.below hb7
     replace iw := iw.below hb7
     replace ox := ox.below hb7
     replace kA := kA.below hb7
     replace kW := kW.below hb7
     replace hL := hL.below hb7
     replace HB := below_step HB hb7 HB.size
     have kX := Blk.new w6 #[.int .i64 rc0, .slice ax xs0.length cx] 25
     have hl7 := kX.lt
     clear hb7
     have q261_kA0 := kA.cell 0 rfl
     have q262_kA1 := kA.cell 1 rfl
     have q263_kW0 := kW.cell 0 rfl
     have q264_kW1 := kW.cell 1 rfl
     have q265_kX0 := kX.cell 0 rfl
     have q266_kX1 := kX.cell 1 rfl
     as_aux_lemma =>
      go_wp2_with fail
      generalize w6.alloc (.cells #[.int .i64 rc0, .slice ax xs0.length cx] 25) = w7 at *
      generalize w6.heap.size = B7 at *
      clear q257_kA0 q258_kA1 q259_kW0 q260_kW1 q261_kA0 q262_kA1 q263_kW0 q264_kW1 q265_kX0 q266_kX1
      refine (opOf (implTxnRecover_any rc0 _ xs0 _ ox.ints hL) HT.out).mono ?_
      rintro e w8 ⟨yg, rfl, ig, hb8⟩
      have hs8 := hb8.size
      replace b0 := b0.below hb8
      replace o0 := o0.below hb8
      replace iw := iw.below hb8
      replace ox := ox.below hb8
      replace kA := kA.below hb8
      replace kW := kW.below hb8
      replace kX := kX.below hb8
      replace hL := hL.below hb8
      replace HB := below_step HB hb8 HB.size
      clear hb8
      obtain ⟨ag, cg, hv_yg⟩ := own_form ig
      subst hv_yg
      have q267_kA0 := kA.cell 0 rfl
      have q268_kA1 := kA.cell 1 rfl
      have q269_kW0 := kW.cell 0 rfl
      have q270_kW1 := kW.cell 1 rfl
      have q271_kX0 := kX.cell 0 rfl
      have q272_kX1 := kX.cell 1 rfl
      have hb9 : Below w8.heap.size w8 (w8.alloc (.cells #[.int .i64 A, .slice ag L.length cg] 25)) := (Below.refl _ _).alloc (Nat.le_refl _) _
      have hs9 := hb9.size
      replace b0 := b0.below hb9
      replace o0 := o0.below hb9
      replace iw := iw.below hb9
      replace ox := ox.below hb9
      replace ig := ig.below hb9
      replace kA := kA.below hb9
      replace kW := kW.below hb9
      replace kX := kX.below hb9
      replace hL := hL.below hb9
      replace HB := below_step HB hb9 HB.size
      have kG := Blk.new w8 #[.int .i64 A, .slice ag L.length cg] 25
      have hl9 := kG.lt
      clear hb9
      have q273_kA0 := kA.cell 0 rfl
      have q274_kA1 := kA.cell 1 rfl
      have q275_kW0 := kW.cell 0 rfl
      have q276_kW1 := kW.cell 1 rfl
      have q277_kX0 := kX.cell 0 rfl
      have q278_kX1 := kX.cell 1 rfl
      have q279_kG0 := kG.cell 0 rfl
      have q280_kG1 := kG.cell 1 rfl
      as_aux_lemma =>
       go_wp2_with fail
       generalize w8.alloc (.cells #[.int .i64 A, .slice ag L.length cg] 25) = w9 at *
       generalize w8.heap.size = B9 at *
       clear q267_kA0 q268_kA1 q269_kW0 q270_kW1 q271_kX0 q272_kX1 q273_kA0 q274_kA1 q275_kW0 q276_kW1 q277_kX0 q278_kX1 q279_kG0 q280_kG1
       refine (eqTxn_any A A _ _ L L _ ig.ints iw.ints true (by simp)).mono ?_
       rintro e w10 ⟨rfl, hb10⟩
       have hs10 := hb10.size
       replace b0 := b0.below hb10
       replace o0 := o0.below hb10
       replace iw := iw.below hb10
       replace ox := ox.below hb10
       replace ig := ig.below hb10
       replace kA := kA.below hb10
       replace kW := kW.below hb10
       replace kX := kX.below hb10
       replace kG := kG.below hb10
       replace hL := hL.below hb10
       replace HB := below_step HB hb10 HB.size
       clear hb10
       have hc0 := kA.cell 0 rfl
       have hc1 := kA.cell 1 rfl
       have hc2 := kW.cell 0 rfl
       have hc3 := kW.cell 1 rfl
       have hc4 := kX.cell 0 rfl
       have hc5 := kX.cell 1 rfl
       have hc6 := kG.cell 0 rfl
       have hc7 := kG.cell 1 rfl
       have hB0 : Below w10.heap.size w10 w10.drew := (Below.refl _ _).drew
       as_aux_lemma =>
        go_upto_region 10 with fail
        go_cut [45] (fun s45 wx => s45 = .bool false ∧ Below w10.heap.size w10 wx)
        case first =>
          go_region_held3 (fun w' => w'.cell? ⟨w.heap.size, 0, none⟩ = some (.int .i64 rc0) ∧ w'.cell? ⟨w.heap.size, 1, none⟩ = some (sv0) ∧ w'.cell? ⟨B5, 0, none⟩ = some (.int .i64 A) ∧ w'.cell? ⟨B5, 1, none⟩ = some (.slice aw L.length cw) ∧ w'.cell? ⟨B7, 0, none⟩ = some (.int .i64 rc0) ∧ w'.cell? ⟨B7, 1, none⟩ = some (.slice ax xs0.length cx) ∧ w'.cell? ⟨B9, 0, none⟩ = some (.int .i64 A) ∧ w'.cell? ⟨B9, 1, none⟩ = some (.slice ag L.length cg) ∧ Below w10.heap.size w10 w')
            (first
              | exact ⟨hc0, hc1, hc2, hc3, hc4, hc5, hc6, hc7, hB2⟩
              | exact ⟨hc0, hc1, hc2, hc3, hc4, hc5, hc6, hc7, hB0⟩
              | (go_split_ands; refine ⟨?_, ?_, ?_, ?_, ?_, ?_, ?_, ?_, ?_⟩ <;> assumption))
            (first
              | (go_at_call 32; obtain ⟨hc0, hc1, hc2, hc3, hc4, hc5, hc6, hc7, hB⟩ := ‹_ ∧ _ ∧ _ ∧ _ ∧ _ ∧ _ ∧ _ ∧ _ ∧ Below w10.heap.size w10 _›; refine (toTxn_any rc0 _ xs0 _ (b0.below hB) big0).mono ?_; rintro e wr0 ⟨y, rfl, oo, hb⟩; replace hc0 := below_cell hb hc0; replace hc1 := below_cell hb hc1; replace hc2 := below_cell hb hc2; replace hc3 := below_cell hb hc3; replace hc4 := below_cell hb hc4; replace hc5 := below_cell hb hc5; replace hc6 := below_cell hb hc6; replace hc7 := below_cell hb hc7; have hB2 := below_step hB hb hB.size)
              | (go_at_call 33; obtain ⟨hc0, hc1, hc2, hc3, hc4, hc5, hc6, hc7, hB⟩ := ‹_ ∧ _ ∧ _ ∧ _ ∧ _ ∧ _ ∧ _ ∧ _ ∧ Below w10.heap.size w10 _›; refine (eqTxn_any rc0 rc0 _ _ xs0 xs0 _ (ox.below hB).ints oo.ints true (by simp)).mono ?_; rintro e wr1 ⟨rfl, hb⟩; replace hc0 := below_cell hb hc0; replace hc1 := below_cell hb hc1; replace hc2 := below_cell hb hc2; replace hc3 := below_cell hb hc3; replace hc4 := below_cell hb hc4; replace hc5 := below_cell hb hc5; replace hc6 := below_cell hb hc6; replace hc7 := below_cell hb hc7; have hB2 := below_step hB hb hB.size))
          all_goals
            go_wp2_with fail
            go_meet
            exact ⟨rfl, hB2⟩
        case rest =>
          obtain ⟨rfl, hb11⟩ := hcut
          generalize wc = w11 at *
          clear hc0 hc1 hc2 hc3 hc4 hc5 hc6 hc7
          have hs11 := hb11.size
          replace b0 := b0.below hb11
          replace o0 := o0.below hb11
          replace iw := iw.below hb11
          replace ox := ox.below hb11
          replace ig := ig.below hb11
          replace kA := kA.below hb11
          replace kW := kW.below hb11
          replace kX := kX.below hb11
          replace kG := kG.below hb11
          replace hL := hL.below hb11
          replace HB := below_step HB hb11 HB.size
          clear hb11 hB0
          have q281_kA0 := kA.cell 0 rfl
          have q282_kA1 := kA.cell 1 rfl
          have q283_kW0 := kW.cell 0 rfl
          have q284_kW1 := kW.cell 1 rfl
          have q285_kX0 := kX.cell 0 rfl
          have q286_kX1 := kX.cell 1 rfl
          have q287_kG0 := kG.cell 0 rfl
          have q288_kG1 := kG.cell 1 rfl
          as_aux_lemma =>
           go_wp2_with fail
           clear q281_kA0 q282_kA1 q283_kW0 q284_kW1 q285_kX0 q286_kX1 q287_kG0 q288_kG1
           refine (markTxn_any rc0 _ xs0 1 _ ox (by omega) (by omega) (by omega)).mono ?_
           rintro e w12 ⟨rfl, hm12, hk12⟩
           have hs12 := hk12.size
           replace b0 := b0.keep hk12 (by omega)
           replace o0 := o0.keep hk12 (by omega)
           replace iw := iw.keep hk12 (by omega)
           replace ig := ig.keep hk12 (by omega)
           replace kA := kA.keep hk12 (by omega)
           replace kW := kW.keep hk12 (by omega)
           replace kX := kX.keep hk12 (by omega)
           replace kG := kG.keep hk12 (by omega)
           replace hL := hL.keep hk12 (by omega)
           replace HB := HB.trans (hk12.below (B := w.heap.size) (by omega) HB.size)
           replace ox := hm12
           clear hm12 hk12
           have hk0 : ¬ (1 + (xs0.length : Int) < 0) := by omega
           have q289_kA0 := kA.cell 0 rfl
           have q290_kA1 := kA.cell 1 rfl
           have q291_kW0 := kW.cell 0 rfl
           have q292_kW1 := kW.cell 1 rfl
           have q293_kX0 := kX.cell 0 rfl
           have q294_kX1 := kX.cell 1 rfl
           have q295_kG0 := kG.cell 0 rfl
           have q296_kG1 := kG.cell 1 rfl
           as_aux_lemma =>
            go_wp2_with fail
            clear q289_kA0 q290_kA1 q291_kW0 q292_kW1 q293_kX0 q294_kX1 q295_kG0 q296_kG1
            refine (eqTxn_any A A _ _ L L _ ig.ints iw.ints true (by simp)).mono ?_
            rintro e w13 ⟨rfl, hb13⟩
            have hs13 := hb13.size
            replace b0 := b0.below hb13
            replace o0 := o0.below hb13
            replace iw := iw.below hb13
            replace ox := ox.below hb13
            replace ig := ig.below hb13
            replace kA := kA.below hb13
            replace kW := kW.below hb13
            replace kX := kX.below hb13
            replace kG := kG.below hb13
            replace hL := hL.below hb13
            replace HB := below_step HB hb13 HB.size
            clear hb13
            have q297_kA0 := kA.cell 0 rfl
            have q298_kA1 := kA.cell 1 rfl
            have q299_kW0 := kW.cell 0 rfl
            have q300_kW1 := kW.cell 1 rfl
            have q301_kX0 := kX.cell 0 rfl
            have q302_kX1 := kX.cell 1 rfl
            have q303_kG0 := kG.cell 0 rfl
            have q304_kG1 := kG.cell 1 rfl
            as_aux_lemma =>
             go_wp2_with fail
             clear q297_kA0 q298_kA1 q299_kW0 q300_kW1 q301_kX0 q302_kX1 q303_kG0 q304_kG1
             refine (markTxn_any A _ L 1 _ ig (by omega) (by omega) (by omega)).mono ?_
             rintro e w14 ⟨rfl, hm14, hk14⟩
             have hs14 := hk14.size
             replace b0 := b0.keep hk14 (by omega)
             replace o0 := o0.keep hk14 (by omega)
             replace iw := iw.keep hk14 (by omega)
             replace ox := ox.keep hk14 (by omega)
             replace kA := kA.keep hk14 (by omega)
             replace kW := kW.keep hk14 (by omega)
             replace kX := kX.keep hk14 (by omega)
             replace kG := kG.keep hk14 (by omega)
             replace hL := hL.keep hk14 (by omega)
             replace HB := HB.trans (hk14.below (B := w.heap.size) (by omega) HB.size)
             replace ig := hm14
             clear hm14 hk14
             have hk1 : ¬ (1 + (L.length : Int) < 0) := by omega
             have hk2 : (1 + (L.length : Int) != 1 + (L.length : Int)) = false := by simp
             have q305_kA0 := kA.cell 0 rfl
             have q306_kA1 := kA.cell 1 rfl
             have q307_kW0 := kW.cell 0 rfl
             have q308_kW1 := kW.cell 1 rfl
             have q309_kX0 := kX.cell 0 rfl
             have q310_kX1 := kX.cell 1 rfl
             have q311_kG0 := kG.cell 0 rfl
             have q312_kG1 := kG.cell 1 rfl
             as_aux_lemma =>
              go_wp2_with fail
              clear q305_kA0 q306_kA1 q307_kW0 q308_kW1 q309_kX0 q310_kX1 q311_kG0 q312_kG1
              refine (heldTxn_any A _ L.length 1 _ ig.ints (by omega) (by omega)).mono ?_
              rintro e w15 ⟨rfl, hb15⟩
              have hs15 := hb15.size
              replace b0 := b0.below hb15
              replace o0 := o0.below hb15
              replace iw := iw.below hb15
              replace ox := ox.below hb15
              replace ig := ig.below hb15
              replace kA := kA.below hb15
              replace kW := kW.below hb15
              replace kX := kX.below hb15
              replace kG := kG.below hb15
              replace hL := hL.below hb15
              replace HB := below_step HB hb15 HB.size
              clear hb15
              have q313_kA0 := kA.cell 0 rfl
              have q314_kA1 := kA.cell 1 rfl
              have q315_kW0 := kW.cell 0 rfl
              have q316_kW1 := kW.cell 1 rfl
              have q317_kX0 := kX.cell 0 rfl
              have q318_kX1 := kX.cell 1 rfl
              have q319_kG0 := kG.cell 0 rfl
              have q320_kG1 := kG.cell 1 rfl
              as_aux_lemma =>
               go_wp2_with fail
               clear q313_kA0 q314_kA1 q315_kW0 q316_kW1 q317_kX0 q318_kX1 q319_kG0 q320_kG1
               refine (toTxn_any rc0 _ xs0 _ b0 big0).mono ?_
               rintro e w16 ⟨yz, rfl, oz, hb16⟩
               have hs16 := hb16.size
               replace b0 := b0.below hb16
               replace o0 := o0.below hb16
               replace iw := iw.below hb16
               replace ox := ox.below hb16
               replace ig := ig.below hb16
               replace kA := kA.below hb16
               replace kW := kW.below hb16
               replace kX := kX.below hb16
               replace kG := kG.below hb16
               replace hL := hL.below hb16
               replace HB := below_step HB hb16 HB.size
               clear hb16
               have q321_kA0 := kA.cell 0 rfl
               have q322_kA1 := kA.cell 1 rfl
               have q323_kW0 := kW.cell 0 rfl
               have q324_kW1 := kW.cell 1 rfl
               have q325_kX0 := kX.cell 0 rfl
               have q326_kX1 := kX.cell 1 rfl
               have q327_kG0 := kG.cell 0 rfl
               have q328_kG1 := kG.cell 1 rfl
               as_aux_lemma =>
                go_wp2_with fail
                clear q321_kA0 q322_kA1 q323_kW0 q324_kW1 q325_kX0 q326_kX1 q327_kG0 q328_kG1
                refine (opOf (implTxnRecover_any rc0 _ xs0 _ oz.ints hL) HT.out).mono ?_
                rintro e w17 ⟨yh, rfl, ih, hb17⟩
                have hs17 := hb17.size
                replace b0 := b0.below hb17
                replace o0 := o0.below hb17
                replace iw := iw.below hb17
                replace ox := ox.below hb17
                replace ig := ig.below hb17
                replace oz := oz.below hb17
                replace kA := kA.below hb17
                replace kW := kW.below hb17
                replace kX := kX.below hb17
                replace kG := kG.below hb17
                replace hL := hL.below hb17
                replace HB := below_step HB hb17 HB.size
                clear hb17
                obtain ⟨ah, ch, hv_yh⟩ := own_form ih
                subst hv_yh
                have q329_kA0 := kA.cell 0 rfl
                have q330_kA1 := kA.cell 1 rfl
                have q331_kW0 := kW.cell 0 rfl
                have q332_kW1 := kW.cell 1 rfl
                have q333_kX0 := kX.cell 0 rfl
                have q334_kX1 := kX.cell 1 rfl
                have q335_kG0 := kG.cell 0 rfl
                have q336_kG1 := kG.cell 1 rfl
                have hb18 : Below w17.heap.size w17 (w17.alloc (.cells #[.int .i64 A, .slice ah L.length ch] 25)) := (Below.refl _ _).alloc (Nat.le_refl _) _
                have hs18 := hb18.size
                replace b0 := b0.below hb18
                replace o0 := o0.below hb18
                replace iw := iw.below hb18
                replace ox := ox.below hb18
                replace ig := ig.below hb18
                replace oz := oz.below hb18
                replace ih := ih.below hb18
                replace kA := kA.below hb18
                replace kW := kW.below hb18
                replace kX := kX.below hb18
                replace kG := kG.below hb18
                replace hL := hL.below hb18
                replace HB := below_step HB hb18 HB.size
                have kH := Blk.new w17 #[.int .i64 A, .slice ah L.length ch] 25
                have hl18 := kH.lt
                clear hb18
                have q337_kA0 := kA.cell 0 rfl
                have q338_kA1 := kA.cell 1 rfl
                have q339_kW0 := kW.cell 0 rfl
                have q340_kW1 := kW.cell 1 rfl
                have q341_kX0 := kX.cell 0 rfl
                have q342_kX1 := kX.cell 1 rfl
                have q343_kG0 := kG.cell 0 rfl
                have q344_kG1 := kG.cell 1 rfl
                have q345_kH0 := kH.cell 0 rfl
                have q346_kH1 := kH.cell 1 rfl
                as_aux_lemma =>
                 go_wp2_with fail
                 generalize w17.alloc (.cells #[.int .i64 A, .slice ah L.length ch] 25) = w18 at *
                 generalize w17.heap.size = B18 at *
                 clear q329_kA0 q330_kA1 q331_kW0 q332_kW1 q333_kX0 q334_kX1 q335_kG0 q336_kG1 q337_kA0 q338_kA1 q339_kW0 q340_kW1 q341_kX0 q342_kX1 q343_kG0 q344_kG1 q345_kH0 q346_kH1
                 refine (eqTxn_any A A _ _ L L _ ih.ints iw.ints true (by simp)).mono ?_
                 rintro e w19 ⟨rfl, hb19⟩
                 have hs19 := hb19.size
                 replace b0 := b0.below hb19
                 replace o0 := o0.below hb19
                 replace iw := iw.below hb19
                 replace ox := ox.below hb19
                 replace ig := ig.below hb19
                 replace oz := oz.below hb19
                 replace ih := ih.below hb19
                 replace kA := kA.below hb19
                 replace kW := kW.below hb19
                 replace kX := kX.below hb19
                 replace kG := kG.below hb19
                 replace kH := kH.below hb19
                 replace hL := hL.below hb19
                 replace HB := below_step HB hb19 HB.size
                 clear hb19
                 have q347_kA0 := kA.cell 0 rfl
                 have q348_kA1 := kA.cell 1 rfl
                 have q349_kW0 := kW.cell 0 rfl
                 have q350_kW1 := kW.cell 1 rfl
                 have q351_kX0 := kX.cell 0 rfl
                 have q352_kX1 := kX.cell 1 rfl
                 have q353_kG0 := kG.cell 0 rfl
                 have q354_kG1 := kG.cell 1 rfl
                 have q355_kH0 := kH.cell 0 rfl
                 have q356_kH1 := kH.cell 1 rfl
                 as_aux_lemma =>
                  go_wp2_with fail
                  clear q347_kA0 q348_kA1 q349_kW0 q350_kW1 q351_kX0 q352_kX1 q353_kG0 q354_kG1 q355_kH0 q356_kH1
                  refine (heldTxn_any A _ L.length 1 _ ig.ints (by omega) (by omega)).mono ?_
                  rintro e w20 ⟨rfl, hb20⟩
                  have hs20 := hb20.size
                  replace b0 := b0.below hb20
                  replace o0 := o0.below hb20
                  replace iw := iw.below hb20
                  replace ox := ox.below hb20
                  replace ig := ig.below hb20
                  replace oz := oz.below hb20
                  replace ih := ih.below hb20
                  replace kA := kA.below hb20
                  replace kW := kW.below hb20
                  replace kX := kX.below hb20
                  replace kG := kG.below hb20
                  replace kH := kH.below hb20
                  replace hL := hL.below hb20
                  replace HB := below_step HB hb20 HB.size
                  clear hb20
                  have q357_kA0 := kA.cell 0 rfl
                  have q358_kA1 := kA.cell 1 rfl
                  have q359_kW0 := kW.cell 0 rfl
                  have q360_kW1 := kW.cell 1 rfl
                  have q361_kX0 := kX.cell 0 rfl
                  have q362_kX1 := kX.cell 1 rfl
                  have q363_kG0 := kG.cell 0 rfl
                  have q364_kG1 := kG.cell 1 rfl
                  have q365_kH0 := kH.cell 0 rfl
                  have q366_kH1 := kH.cell 1 rfl
                  as_aux_lemma =>
                   go_wp2_with fail
                   go_ret
                   exact ⟨rfl, HB⟩

/-! ### THE ROW's STEP -/
set_option maxRecDepth 100000 in
theorem lifted (os : Os) (started : os.Started) (H : Type) (enc : TypeId × Value → H) :
    ReturnsInHanded {} Tryd.checked os 13 .any (fun w args => (Rows.fnExactTxnRecoverSpec.pre enc Tryd.prog Tryd.f13 [] false w args ∧ laidMetH Tryd.prog laidL w) ∧ sizedMet enc Tryd.prog Tryd.f13 (OpenSpec.ofChange Rows.fnExactTxnRecoverSpec) false w args)
      (Rows.fnExactTxnRecoverSpec.post enc Tryd.prog Tryd.f13 false true false false) := by
  refine returnsInHanded_of_change_and (C := Tryd.checked) (X := fun w _ => laidMetH Tryd.prog laidL w) (fun _ _ _ hh h => h.of_heap hh) own started (by kernel_rfl) Tryd.func13
    (ChangeSpec.witness_at (enc := enc) (C := Tryd.checked) (os := os) (X := fun w _ => laidMetH Tryd.prog laidL w) false (laidWorld os) #[.agg #[.int .i64 0, .slice none 0 0]] 8 rfl (by kernel_rfl) (by kernel_rfl) (by kernel_rfl) (by kernel_rfl) (by kernel_rfl) (laidWorld_met os _)) ?_
  intro W base args ds gs before hval0 hW _ _ hL _
  have hval : ∀ (j : Nat) t v, Tryd.f13.params[j]? = some t → args[j]? = some v → Value.okWide Tryd.prog W .any base t v := hval0
  have hW' := hW
  obtain ⟨p, q, hA0, hV, rfl, hfz, hnd⟩ := hW
  have hA : DataW.TrodAll enc Tryd.prog W 0 (fun _ => true) true Tryd.f13.params.toList args.toList ds p := hA0
  rw [Tryd.params13] at hA hval
  obtain ⟨v0, vs0, d0, ds0, p0, q0, hargs, rfl, rfl, h0, r0⟩ := trodAll_cons hA
  obtain ⟨rfl, rfl, rfl⟩ := trodAll_nil r0
  obtain rfl : args = #[v0] := by cases args; simp_all
  obtain ⟨rfl, rfl⟩ := trodVars_none hV
  obtain ⟨rc0, sv0, xs0, rfl, wr0, b0, wx0⟩ := txn_in (hval 0 _ v0 rfl rfl) h0
  have lt0 := lt_in h0
  clear hA0 hval0
  refine (walk_at W rc0 sv0 xs0 b0 (laid_of hL)).mono fun e W' ⟨he, bel⟩ => ?_
  subst he
  exact ⟨_, rfl, _, _, _, [], _, [], hW', trodAll_mk1 (shut_bool Tryd.underlying4 _), (trodAll_cons_mk (Below.trod laidOut (by kernel_rfl) (of_decide_eq_true (by kernel_rfl)) h0 bel lt0) trodAll_mk0), rfl, bel.frame _, fun h => by cases h⟩

set_option maxRecDepth 100000 in
theorem closed : joinedFacts Tryd.prog 13 Tryd.f13 Rows.fnExactTxnRecoverSpec Rows.fnExactTxnRecoverRow = true := by
  unfold joinedFacts
  rw [may, lifts, mk]
  kernel_rfl
theorem over : Rows.fnExactTxnRecoverRow.holds Tryd.pinned (OpenSpec.ofChange Rows.fnExactTxnRecoverSpec) :=
  OpenClaim.holds_of_wide 13 Tryd.f13 rfl rfl rfl rfl rfl rfl rfl ⟨rfl, rfl, rfl, rfl, rfl⟩ rfl rfl rfl rfl rfl (by as_aux_lemma => kernel_rfl) Tryd.func13 closed
    (of_decide_eq_true (by as_aux_lemma => kernel_rfl)) (by unfold Func.isWrapper; rw [if_neg (of_decide_eq_false (by as_aux_lemma => kernel_rfl))]; exact ⟨rfl, rfl⟩)
    (fun os started H enc _ => lifted os started H enc)

/-- THE STATEMENT: the tied card -/
theorem proved : Rows.FnExactTxnRecoverCardSaid :=
  Claim7.holds_tied_plain_at .later [] [.handle] true Rows.fnExactTxnRecoverCard.stood.harness true
    over (fun _ h => by cases h) (by kernel_rfl) (fun _ h => by cases h) fnExactTxnRecover_row_tie rfl ⟨rfl, rfl⟩ (by kernel_rfl) rfl
    (fun f fn hf hfn => by
      obtain rfl : f = 13 := Option.some.inj ((show Tryd.prog.funcNamed "loop.example/flexquorum/laws.FnExactTxnRecover" = some 13 by kernel_rfl).symm.trans hf) |>.symm
      obtain rfl : fn = Tryd.f13 := (Option.some.inj (Tryd.func13.symm.trans hfn)).symm
      exact ⟨by kernel_rfl, fun j t ht => by
        rw [Tryd.params13] at ht
        have hm := Array.mem_of_getElem? ht
        simp only [List.mem_toArray, List.mem_cons, List.not_mem_nil, or_false] at hm
        (subst hm; exact (show Tryd.prog.wantsStandIn 37 = false by kernel_rfl))⟩)
    (by kernel_rfl)
end Go.Proofs.YtocinffmdciihaaDoor.fnExactTxnRecover
