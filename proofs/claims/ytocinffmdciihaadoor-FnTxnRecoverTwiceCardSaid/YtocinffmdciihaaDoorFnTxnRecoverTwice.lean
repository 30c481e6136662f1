/-
  For every input the law FnTxnRecoverTwice returns true, and what it was given reads afterwards as before. No condition beyond the row's own.
-/
import Derived.Test.YtocinffmdciihaaDoorFrameD
import Derived.Test.YtocinffmdciihaaDoorFrameT
import Derived.Test.YtocinffmdciihaaDoorTie
import Derived.Test.YtocinffmdciihaaDoorCards
import Derived.Test.YtocinffmdciihaaDoorTxnI
import Derived.Test.YtocinffmdciihaaDoorTxnJ
import Derived.Test.YtocinffmdciihaaDoorTxnK
import Derived.Test.YtocinffmdciihaaDoorTxnQD
import Derived.SevenTiedAt
import Derived.Deep.DeepCutAuto
import Derived.Deep.QuietTactic
import Derived.BigQuiet
namespace Go.Proofs.YtocinffmdciihaaDoor.fnTxnRecoverTwice
open Go.ChangeShapes Go.WideShapes Go.ChangeAt Go.RowKit
open Go.ChangeMaps (open_string shut_string)
set_option linter.unusedVariables false
theorem refuse_ok {rc : Int} {ws : List Int} (h : txnOk rc ws = true) : txnOk 3 (refuse ws) = true := by
  obtain ⟨g0, g1, g2, g3, g4, g5⟩ := txnOk_parts h
  have hr : rangeW (refuse ws) = true := by
    unfold refuse
    split
    · unfold rangeW at g4 ⊢
      rw [List.all_eq_true] at g4 ⊢
      intro x hx
      rcases List.mem_or_eq_of_mem_set hx with h' | h'
      · exact g4 x h'
      · rw [h']; rfl
    · exact g4
  unfold txnOk lenW
  rw [refuse_len, inB_mk (n := (3 : Int)) (by omega) (by omega), inB_mk (n := (ws.length : Int)) (by omega) (by omega), hr]
  rfl
theorem txnOk_two {rc : Int} {ws : List Int} (h : txnOk rc ws = true) : txnOk 2 ws = fullW ws := by
  obtain ⟨g0, g1, g2, g3, g4, g5⟩ := txnOk_parts h
  unfold txnOk lenW
  rw [inB_mk (n := (2 : Int)) (by omega) (by omega), inB_mk (n := (ws.length : Int)) (by omega) (by omega), g4]
  simp

set_option maxRecDepth 100000 in
set_option maxHeartbeats 8000000 in
theorem walk_at (w : World) (v0 : Value) (n0 : Nat) (b0 : Bytes w 0 w.heap.size v0 n0) (hL : Laid w) :
    Calls Tryd.prog 10 #[v0] w fun e w' => e = .returned (.bool true) ∧ Below w.heap.size w w' := by
  obtain ⟨a0, c0, hv0, hn0, hx0⟩ := b0.open
  clear hx0
  subst hv0
  by_cases big0 : n0 ≤ 1048576
  case neg =>
    go_enter Tryd.func10, Tryd.ntmps10
    go_wp2_with fail
    go_ret
    exact ⟨rfl, Below.refl _ _⟩
  go_enter Tryd.func10, Tryd.ntmps10
  go_wp2_with fail
  have HB : Below w.heap.size w w := Below.refl _ _
  refine (DrawTxnRecover_any _ n0 _ b0).mono ?_
  rintro e w1 ⟨rc, ws, tv, rfl, rr0, rr1, l0, l1, rng, it, hb1⟩
  have hs1 := hb1.size
  replace hL := hL.below hb1
  replace HB := below_step HB hb1 HB.size
  clear hb1
  obtain ⟨at0, ct0, hv_tv⟩ := own_form it
  subst hv_tv
  have hb2 : Below w1.heap.size w1 (w1.alloc (.cells #[.int .i64 rc, .slice at0 ws.length ct0] 25)) := (Below.refl _ _).alloc (Nat.le_refl _) _
  have hs2 := hb2.size
  replace it := it.below hb2
  replace hL := hL.below hb2
  replace HB := below_step HB hb2 HB.size
  have kT := Blk.new w1 #[.int .i64 rc, .slice at0 ws.length ct0] 25
  have hl2 := kT.lt
  clear hb2
  have q151_kT0 := kT.cell 0 rfl
  have q152_kT1 := kT.cell 1 rfl
  as_aux_lemma =>
   go_wp2_with fail
   generalize w1.alloc (.cells #[.int .i64 rc, .slice at0 ws.length ct0] 25) = w2 at *
   generalize w1.heap.size = B2 at *
   cases hv : txnOk rc ws
   case false =>
     have HV := Lib.hid hv
     have HR := Lib.hid (show recoverR rc ws = (0, [], false) by unfold recoverR; rw [hv]; rfl)
     clear hv
     clear q151_kT0 q152_kT1
     refine (opOf (specTxnRecover_any rc (.slice at0 ws.length ct0) ws _ it.ints) HR.out).mono ?_
     rintro e w3 ⟨y1, rfl, i1, hb3⟩
     have hs3 := hb3.size
     replace it := it.below hb3
     replace kT := kT.below hb3
     replace hL := hL.below hb3
     replace HB := below_step HB hb3 HB.size
     clear hb3
     obtain ⟨a1, c1, hv_y1⟩ := own_form i1
     subst hv_y1
     change IntsO _ _ _ (.slice a1 0 c1) ([] : List Int) at i1
     have q153_kT0 := kT.cell 0 rfl
     have q154_kT1 := kT.cell 1 rfl
     have hb4 : Below w3.heap.size w3 (w3.alloc (.cells #[.int .i64 0, .slice a1 0 c1] 25)) := (Below.refl _ _).alloc (Nat.le_refl _) _
     have hs4 := hb4.size
     replace it := it.below hb4
     replace i1 := i1.below hb4
     replace kT := kT.below hb4
     replace hL := hL.below hb4
     replace HB := below_step HB hb4 HB.size
     have kW := Blk.new w3 #[.int .i64 0, .slice a1 0 c1] 25
     have hl4 := kW.lt
     clear hb4
     have q155_kT0 := kT.cell 0 rfl
     have q156_kT1 := kT.cell 1 rfl
     have q157_kW0 := kW.cell 0 rfl
     have q158_kW1 := kW.cell 1 rfl
     as_aux_lemma =>
      go_wp2_with fail
      generalize w3.alloc (.cells #[.int .i64 0, .slice a1 0 c1] 25) = w4 at *
      generalize w3.heap.size = B4 at *
      clear q153_kT0 q154_kT1 q155_kT0 q156_kT1 q157_kW0 q158_kW1
      refine (opOf (implTxnRecover_any rc (.slice at0 ws.length ct0) ws _ it.ints hL) HR.out).mono ?_
      rintro e w5 ⟨y2, rfl, i2, hb5⟩
      have hs5 := hb5.size
      replace it := it.below hb5
      replace i1 := i1.below hb5
      replace kT := kT.below hb5
      replace kW := kW.below hb5
      replace hL := hL.below hb5
      replace HB := below_step HB hb5 HB.size
      clear hb5
      obtain ⟨a2, c2, hv_y2⟩ := own_form i2
      subst hv_y2
      change IntsO _ _ _ (.slice a2 0 c2) ([] : List Int) at i2
      have q159_kT0 := kT.cell 0 rfl
      have q160_kT1 := kT.cell 1 rfl
      have q161_kW0 := kW.cell 0 rfl
      have q162_kW1 := kW.cell 1 rfl
      have hb6 : Below w5.heap.size w5 (w5.alloc (.cells #[.int .i64 0, .slice a2 0 c2] 25)) := (Below.refl _ _).alloc (Nat.le_refl _) _
      have hs6 := hb6.size
      replace it := it.below hb6
      replace i1 := i1.below hb6
      replace i2 := i2.below hb6
      replace kT := kT.below hb6
      replace kW := kW.below hb6
      replace hL := hL.below hb6
      replace HB := below_step HB hb6 HB.size
      have kX := Blk.new w5 #[.int .i64 0, .slice a2 0 c2] 25
      have hl6 := kX.lt
      clear hb6
      have q163_kT0 := kT.cell 0 rfl
      have q164_kT1 := kT.cell 1 rfl
      have q165_kW0 := kW.cell 0 rfl
      have q166_kW1 := kW.cell 1 rfl
      have q167_kX0 := kX.cell 0 rfl
      have q168_kX1 := kX.cell 1 rfl
      as_aux_lemma =>
       go_wp2_with fail
       generalize w5.alloc (.cells #[.int .i64 0, .slice a2 0 c2] 25) = w6 at *
       generalize w5.heap.size = B6 at *
       clear q159_kT0 q160_kT1 q161_kW0 q162_kW1 q163_kT0 q164_kT1 q165_kW0 q166_kW1 q167_kX0 q168_kX1
       refine (sameTxn_any 0 0 _ _ (([] : List Int)) (([] : List Int)) _ i2.ints i1.ints true (by simp)).mono ?_
       rintro e w7 ⟨rfl, hb7⟩
       have hs7 := hb7.size
       replace it := it.below hb7
       replace i1 := i1.below hb7
       replace i2 := i2.below hb7
       replace kT := kT.below hb7
       replace kW := kW.below hb7
       replace kX := kX.below hb7
       replace hL := hL.below hb7
       replace HB := below_step HB hb7 HB.size
       clear hb7
       have q169_kT0 := kT.cell 0 rfl
       have q170_kT1 := kT.cell 1 rfl
       have q171_kW0 := kW.cell 0 rfl
       have q172_kW1 := kW.cell 1 rfl
       have q173_kX0 := kX.cell 0 rfl
       have q174_kX1 := kX.cell 1 rfl
       as_aux_lemma =>
        go_wp2_with fail
        clear q169_kT0 q170_kT1 q171_kW0 q172_kW1 q173_kX0 q174_kX1
        refine (specTxnValid_any rc _ ws _ it.ints false HV.out).mono ?_
        rintro e w8 ⟨rfl, hb8⟩
        have hs8 := hb8.size
        replace it := it.below hb8
        replace i1 := i1.below hb8
        replace i2 := i2.below hb8
        replace kT := kT.below hb8
        replace kW := kW.below hb8
        replace kX := kX.below hb8
        replace hL := hL.below hb8
        replace HB := below_step HB hb8 HB.size
        clear hb8
        have q175_kT0 := kT.cell 0 rfl
        have q176_kT1 := kT.cell 1 rfl
        have q177_kW0 := kW.cell 0 rfl
        have q178_kW1 := kW.cell 1 rfl
        have q179_kX0 := kX.cell 0 rfl
        have q180_kX1 := kX.cell 1 rfl
        as_aux_lemma =>
         go_wp2_with fail
         clear q175_kT0 q176_kT1 q177_kW0 q178_kW1 q179_kX0 q180_kX1
         refine (sameTxn_any 0 0 _ _ [] [] _ i2.ints i1.ints true (by simp)).mono ?_
         rintro e w9 ⟨rfl, hb9⟩
         have hs9 := hb9.size
         replace it := it.below hb9
         replace i1 := i1.below hb9
         replace i2 := i2.below hb9
         replace kT := kT.below hb9
         replace kW := kW.below hb9
         replace kX := kX.below hb9
         replace hL := hL.below hb9
         replace HB := below_step HB hb9 HB.size
         clear hb9
         have q181_kT0 := kT.cell 0 rfl
         have q182_kT1 := kT.cell 1 rfl
         have q183_kW0 := kW.cell 0 rfl
         have q184_kW1 := kW.cell 1 rfl
         have q185_kX0 := kX.cell 0 rfl
         have q186_kX1 := kX.cell 1 rfl
         as_aux_lemma =>
          go_wp2_with fail
          go_ret
          exact ⟨rfl, HB⟩
   case true =>
     have hpp := txnOk_parts hv
     have HV := Lib.hid hv
     have h0r := hpp.1
     have h3r := hpp.2.1
     clear hpp
     have HOK := Lib.hid (refuse_ok hv)
     cases he : isEnded rc
     case true =>
       have hge : (2 : Int) ≤ rc := by
         unfold isEnded at he
         simp at he
         omega
       have HS := Lib.hid (show recoverT rc ws = (rc, ws, false) by simp [recoverT, he])
       clear he
       have HR := Lib.hid (show recoverR rc ws = (rc, ws, false) by unfold recoverR; rw [hv, HS.out]; rfl)
       clear q151_kT0 q152_kT1
       refine (opOf (specTxnRecover_any rc (.slice at0 ws.length ct0) ws _ it.ints) HR.out).mono ?_
       rintro e w3 ⟨y1, rfl, i1, hb3⟩
       have hs3 := hb3.size
       replace it := it.below hb3
       replace kT := kT.below hb3
       replace hL := hL.below hb3
       replace HB := below_step HB hb3 HB.size
       clear hb3
       obtain ⟨a1, c1, hv_y1⟩ := own_form i1
       subst hv_y1
       have q187_kT0 := kT.cell 0 rfl
       have q188_kT1 := kT.cell 1 rfl
       have hb4 : Below w3.heap.size w3 (w3.alloc (.cells #[.int .i64 rc, .slice a1 (ws).length c1] 25)) := (Below.refl _ _).alloc (Nat.le_refl _) _
       have hs4 := hb4.size
       replace it := it.below hb4
       replace i1 := i1.below hb4
       replace kT := kT.below hb4
       replace hL := hL.below hb4
       replace HB := below_step HB hb4 HB.size
       have kW := Blk.new w3 #[.int .i64 rc, .slice a1 (ws).length c1] 25
       have hl4 := kW.lt
       clear hb4
       have q189_kT0 := kT.cell 0 rfl
       have q190_kT1 := kT.cell 1 rfl
       have q191_kW0 := kW.cell 0 rfl
       have q192_kW1 := kW.cell 1 rfl
       as_aux_lemma =>
        go_wp2_with fail
        generalize w3.alloc (.cells #[.int .i64 rc, .slice a1 (ws).length c1] 25) = w4 at *
        generalize w3.heap.size = B4 at *
        clear q187_kT0 q188_kT1 q189_kT0 q190_kT1 q191_kW0 q192_kW1
        refine (opOf (implTxnRecover_any rc (.slice at0 ws.length ct0) ws _ it.ints hL) HR.out).mono ?_
        rintro e w5 ⟨y2, rfl, i2, hb5⟩
        have hs5 := hb5.size
        replace it := it.below hb5
        replace i1 := i1.below hb5
        replace kT := kT.below hb5
        replace kW := kW.below hb5
        replace hL := hL.below hb5
        replace HB := below_step HB hb5 HB.size
        clear hb5
        obtain ⟨a2, c2, hv_y2⟩ := own_form i2
        subst hv_y2
        have q193_kT0 := kT.cell 0 rfl
        have q194_kT1 := kT.cell 1 rfl
        have q195_kW0 := kW.cell 0 rfl
        have q196_kW1 := kW.cell 1 rfl
        have hb6 : Below w5.heap.size w5 (w5.alloc (.cells #[.int .i64 rc, .slice a2 (ws).length c2] 25)) := (Below.refl _ _).alloc (Nat.le_refl _) _
        have hs6 := hb6.size
        replace it := it.below hb6
        replace i1 := i1.below hb6
        replace i2 := i2.below hb6
        replace kT := kT.below hb6
        replace kW := kW.below hb6
        replace hL := hL.below hb6
        replace HB := below_step HB hb6 HB.size
        have kX := Blk.new w5 #[.int .i64 rc, .slice a2 (ws).length c2] 25
        have hl6 := kX.lt
        clear hb6
        have q197_kT0 := kT.cell 0 rfl
        have q198_kT1 := kT.cell 1 rfl
        have q199_kW0 := kW.cell 0 rfl
        have q200_kW1 := kW.cell 1 rfl
        have q201_kX0 := kX.cell 0 rfl
        have q202_kX1 := kX.cell 1 rfl
        as_aux_lemma =>
         go_wp2_with fail
         generalize w5.alloc (.cells #[.int .i64 rc, .slice a2 (ws).length c2] 25) = w6 at *
         generalize w5.heap.size = B6 at *
         clear q193_kT0 q194_kT1 q195_kW0 q196_kW1 q197_kT0 q198_kT1 q199_kW0 q200_kW1 q201_kX0 q202_kX1
         refine (sameTxn_any rc rc _ _ (ws) (ws) _ i2.ints i1.ints true (by simp)).mono ?_
         rintro e w7 ⟨rfl, hb7⟩
         have hs7 := hb7.size
         replace it := it.below hb7
         replace i1 := i1.below hb7
         replace i2 := i2.below hb7
         replace kT := kT.below hb7
         replace kW := kW.below hb7
         replace kX := kX.below hb7
         replace hL := hL.below hb7
         replace HB := below_step HB hb7 HB.size
         clear hb7
         have q203_kT0 := kT.cell 0 rfl
         have q204_kT1 := kT.cell 1 rfl
         have q205_kW0 := kW.cell 0 rfl
         have q206_kW1 := kW.cell 1 rfl
         have q207_kX0 := kX.cell 0 rfl
         have q208_kX1 := kX.cell 1 rfl
         as_aux_lemma =>
          go_wp2_with fail
          clear q203_kT0 q204_kT1 q205_kW0 q206_kW1 q207_kX0 q208_kX1
          refine (specTxnValid_any rc _ ws _ it.ints true HV.out).mono ?_
          rintro e w8 ⟨rfl, hb8⟩
          have hs8 := hb8.size
          replace it := it.below hb8
          replace i1 := i1.below hb8
          replace i2 := i2.below hb8
          replace kT := kT.below hb8
          replace kW := kW.below hb8
          replace kX := kX.below hb8
          replace hL := hL.below hb8
          replace HB := below_step HB hb8 HB.size
          clear hb8
          have q209_kT0 := kT.cell 0 rfl
          have q210_kT1 := kT.cell 1 rfl
          have q211_kW0 := kW.cell 0 rfl
          have q212_kW1 := kW.cell 1 rfl
          have q213_kX0 := kX.cell 0 rfl
          have q214_kX1 := kX.cell 1 rfl
          as_aux_lemma =>
           go_wp2_with fail
           have HY := Lib.hid (show recoverR rc ws = (rc, ws, false) from HR.out)
           clear q209_kT0 q210_kT1 q211_kW0 q212_kW1 q213_kX0 q214_kX1
           refine (opOf (implTxnRecover_any rc _ (ws) _ i2.ints hL) HY.out).mono ?_
           rintro e w9 ⟨y3, rfl, i3, hb9⟩
           have hs9 := hb9.size
           replace it := it.below hb9
           replace i1 := i1.below hb9
           replace i2 := i2.below hb9
           replace kT := kT.below hb9
           replace kW := kW.below hb9
           replace kX := kX.below hb9
           replace hL := hL.below hb9
           replace HB := below_step HB hb9 HB.size
           clear hb9
           obtain ⟨a3, c3, hv_y3⟩ := own_form i3
           subst hv_y3
           have q215_kT0 := kT.cell 0 rfl
           have q216_kT1 := kT.cell 1 rfl
           have q217_kW0 := kW.cell 0 rfl
           have q218_kW1 := kW.cell 1 rfl
           have q219_kX0 := kX.cell 0 rfl
           have q220_kX1 := kX.cell 1 rfl
           have hb10 : Below w9.heap.size w9 (w9.alloc (.cells #[.int .i64 rc, .slice a3 (ws).length c3] 25)) := (Below.refl _ _).alloc (Nat.le_refl _) _
           have hs10 := hb10.size
           replace it := it.below hb10
           replace i1 := i1.below hb10
           replace i2 := i2.below hb10
           replace i3 := i3.below hb10
           replace kT := kT.below hb10
           replace kW := kW.below hb10
           replace kX := kX.below hb10
           replace hL := hL.below hb10
           replace HB := below_step HB hb10 HB.size
           have kY := Blk.new w9 #[.int .i64 rc, .slice a3 (ws).length c3] 25
           have hl10 := kY.lt
           clear hb10
           have q221_kT0 := kT.cell 0 rfl
           have q222_kT1 := kT.cell 1 rfl
           have q223_kW0 := kW.cell 0 rfl
           have q224_kW1 := kW.cell 1 rfl
           have q225_kX0 := kX.cell 0 rfl
           have q226_kX1 := kX.cell 1 rfl
           have q227_kY0 := kY.cell 0 rfl
           have q228_kY1 := kY.cell 1 rfl
           as_aux_lemma =>
            go_wp2_with fail
            generalize w9.alloc (.cells #[.int .i64 rc, .slice a3 (ws).length c3] 25) = w10 at *
            generalize w9.heap.size = B10 at *
            clear q215_kT0 q216_kT1 q217_kW0 q218_kW1 q219_kX0 q220_kX1 q221_kT0 q222_kT1 q223_kW0 q224_kW1 q225_kX0 q226_kX1 q227_kY0 q228_kY1
            refine (sameTxn_any rc rc _ _ (ws) (ws) _ i3.ints i2.ints true (by simp)).mono ?_
            rintro e w11 ⟨rfl, hb11⟩
            have hs11 := hb11.size
            replace it := it.below hb11
            replace i1 := i1.below hb11
            replace i2 := i2.below hb11
            replace i3 := i3.below hb11
            replace kT := kT.below hb11
            replace kW := kW.below hb11
            replace kX := kX.below hb11
            replace kY := kY.below hb11
            replace hL := hL.below hb11
            replace HB := below_step HB hb11 HB.size
            clear hb11
            have q229_kT0 := kT.cell 0 rfl
            have q230_kT1 := kT.cell 1 rfl
            have q231_kW0 := kW.cell 0 rfl
            have q232_kW1 := kW.cell 1 rfl
            have q233_kX0 := kX.cell 0 rfl
            have q234_kX1 := kX.cell 1 rfl
            have q235_kY0 := kY.cell 0 rfl
            have q236_kY1 := kY.cell 1 rfl
            as_aux_lemma =>
             go_wp2_with fail
             go_ret
             exact ⟨rfl, HB⟩
     case false =>
       have hlt2 : rc < 2 := by
         unfold isEnded at he
         simp at he
         omega
       cases hf : (rc == 1 && fullW ws)
       case true =>
         have HS := Lib.hid (show recoverT rc ws = (2, ws, true) by simp [recoverT, he, hf])
         have HST := Lib.hid (show txnStat rc ws = 2 by
           have e2 : (rc == 2) = false := beq_eq_false_iff_ne.2 (by omega)
           have e3 : (rc == 3) = false := beq_eq_false_iff_ne.2 (by omega)
           unfold txnStat statOf; rw [hv, hf, e2, e3]; rfl)
         have HFU := Lib.hid (show fullW ws = true by simp at hf; exact hf.2)
         have HR := Lib.hid (show recoverR rc ws = (2, ws, true) by unfold recoverR; rw [hv, HS.out]; rfl)
         clear q151_kT0 q152_kT1
         refine (opOf (specTxnRecover_any rc (.slice at0 ws.length ct0) ws _ it.ints) HR.out).mono ?_
         rintro e w3 ⟨y1, rfl, i1, hb3⟩
         have hs3 := hb3.size
         replace it := it.below hb3
         replace kT := kT.below hb3
         replace hL := hL.below hb3
         replace HB := below_step HB hb3 HB.size
         clear hb3
         obtain ⟨a1, c1, hv_y1⟩ := own_form i1
         subst hv_y1
         have q237_kT0 := kT.cell 0 rfl
         have q238_kT1 := kT.cell 1 rfl
         have hb4 : Below w3.heap.size w3 (w3.alloc (.cells #[.int .i64 2, .slice a1 (ws).length c1] 25)) := (Below.refl _ _).alloc (Nat.le_refl _) _
         have hs4 := hb4.size
         replace it := it.below hb4
         replace i1 := i1.below hb4
         replace kT := kT.below hb4
         replace hL := hL.below hb4
         replace HB := below_step HB hb4 HB.size
         have kW := Blk.new w3 #[.int .i64 2, .slice a1 (ws).length c1] 25
         have hl4 := kW.lt
         clear hb4
         have q239_kT0 := kT.cell 0 rfl
         have q240_kT1 := kT.cell 1 rfl
         have q241_kW0 := kW.cell 0 rfl
         have q242_kW1 := kW.cell 1 rfl
         as_aux_lemma =>
          go_wp2_with fail
          generalize w3.alloc (.cells #[.int .i64 2, .slice a1 (ws).length c1] 25) = w4 at *
          generalize w3.heap.size = B4 at *
          clear q237_kT0 q238_kT1 q239_kT0 q240_kT1 q241_kW0 q242_kW1
          refine (opOf (implTxnRecover_any rc (.slice at0 ws.length ct0) ws _ it.ints hL) HR.out).mono ?_
          rintro e w5 ⟨y2, rfl, i2, hb5⟩
          have hs5 := hb5.size
          replace it := it.below hb5
          replace i1 := i1.below hb5
          replace kT := kT.below hb5
          replace kW := kW.below hb5
          replace hL := hL.below hb5
          replace HB := below_step HB hb5 HB.size
          clear hb5
          obtain ⟨a2, c2, hv_y2⟩ := own_form i2
          subst hv_y2
          have q243_kT0 := kT.cell 0 rfl
          have q244_kT1 := kT.cell 1 rfl
          have q245_kW0 := kW.cell 0 rfl
          have q246_kW1 := kW.cell 1 rfl
          have hb6 : Below w5.heap.size w5 (w5.alloc (.cells #[.int .i64 2, .slice a2 (ws).length c2] 25)) := (Below.refl _ _).alloc (Nat.le_refl _) _
          have hs6 := hb6.size
          replace it := it.below hb6
          replace i1 := i1.below hb6
          replace i2 := i2.below hb6
          replace kT := kT.below hb6
          replace kW := kW.below hb6
          replace hL := hL.below hb6
          replace HB := below_step HB hb6 HB.size
          have kX := Blk.new w5 #[.int .i64 2, .slice a2 (ws).length c2] 25
          have hl6 := kX.lt
          clear hb6
          have q247_kT0 := kT.cell 0 rfl
          have q248_kT1 := kT.cell 1 rfl
          have q249_kW0 := kW.cell 0 rfl
          have q250_kW1 := kW.cell 1 rfl
          have q251_kX0 := kX.cell 0 rfl
          have q252_kX1 := kX.cell 1 rfl
          as_aux_lemma =>
           go_wp2_with fail
           generalize w5.alloc (.cells #[.int .i64 2, .slice a2 (ws).length c2] 25) = w6 at *
           generalize w5.heap.size = B6 at *
           clear q243_kT0 q244_kT1 q245_kW0 q246_kW1 q247_kT0 q248_kT1 q249_kW0 q250_kW1 q251_kX0 q252_kX1
           refine (sameTxn_any 2 2 _ _ (ws) (ws) _ i2.ints i1.ints true (by simp)).mono ?_
           rintro e w7 ⟨rfl, hb7⟩
           have hs7 := hb7.size
           replace it := it.below hb7
           replace i1 := i1.below hb7
           replace i2 := i2.below hb7
           replace kT := kT.below hb7
           replace kW := kW.below hb7
           replace kX := kX.below hb7
           replace hL := hL.below hb7
           replace HB := below_step HB hb7 HB.size
           clear hb7
           have q253_kT0 := kT.cell 0 rfl
           have q254_kT1 := kT.cell 1 rfl
           have q255_kW0 := kW.cell 0 rfl
           have q256_kW1 := kW.cell 1 rfl
           have q257_kX0 := kX.cell 0 rfl
           have q258_kX1 := kX.cell 1 rfl
           as_aux_lemma =>
            go_wp2_with fail
            clear q253_kT0 q254_kT1 q255_kW0 q256_kW1 q257_kX0 q258_kX1
            refine (specTxnValid_any rc _ ws _ it.ints true HV.out).mono ?_
            rintro e w8 ⟨rfl, hb8⟩
            have hs8 := hb8.size
            replace it := it.below hb8
            replace i1 := i1.below hb8
            replace i2 := i2.below hb8
            replace kT := kT.below hb8
            replace kW := kW.below hb8
            replace kX := kX.below hb8
            replace hL := hL.below hb8
            replace HB := below_step HB hb8 HB.size
            clear hb8
            have q259_kT0 := kT.cell 0 rfl
            have q260_kT1 := kT.cell 1 rfl
            have q261_kW0 := kW.cell 0 rfl
            have q262_kW1 := kW.cell 1 rfl
            have q263_kX0 := kX.cell 0 rfl
            have q264_kX1 := kX.cell 1 rfl
            as_aux_lemma =>
             go_wp2_with fail
             have HY := Lib.hid (show recoverR 2 ws = (2, ws, false) by unfold recoverR; rw [txnOk_two (ws := ws) (rc := rc) HV.out, HFU.out]; rfl)
             clear q259_kT0 q260_kT1 q261_kW0 q262_kW1 q263_kX0 q264_kX1
             refine (opOf (implTxnRecover_any 2 _ (ws) _ i2.ints hL) HY.out).mono ?_
             rintro e w9 ⟨y3, rfl, i3, hb9⟩
             have hs9 := hb9.size
             replace it := it.below hb9
             replace i1 := i1.below hb9
             replace i2 := i2.below hb9
             replace kT := kT.below hb9
             replace kW := kW.below hb9
             replace kX := kX.below hb9
             replace hL := hL.below hb9
             replace HB := below_step HB hb9 HB.size
             clear hb9
             obtain ⟨a3, c3, hv_y3⟩ := own_form i3
             subst hv_y3
             have q265_kT0 := kT.cell 0 rfl
             have q266_kT1 := kT.cell 1 rfl
             have q267_kW0 := kW.cell 0 rfl
             have q268_kW1 := kW.cell 1 rfl
             have q269_kX0 := kX.cell 0 rfl
             have q270_kX1 := kX.cell 1 rfl
             have hb10 : Below w9.heap.size w9 (w9.alloc (.cells #[.int .i64 2, .slice a3 (ws).length c3] 25)) := (Below.refl _ _).alloc (Nat.le_refl _) _
             have hs10 := hb10.size
             replace it := it.below hb10
             replace i1 := i1.below hb10
             replace i2 := i2.below hb10
             replace i3 := i3.below hb10
             replace kT := kT.below hb10
             replace kW := kW.below hb10
             replace kX := kX.below hb10
             replace hL := hL.below hb10
             replace HB := below_step HB hb10 HB.size
             have kY := Blk.new w9 #[.int .i64 2, .slice a3 (ws).length c3] 25
             have hl10 := kY.lt
             clear hb10
             have q271_kT0 := kT.cell 0 rfl
             have q272_kT1 := kT.cell 1 rfl
             have q273_kW0 := kW.cell 0 rfl
             have q274_kW1 := kW.cell 1 rfl
             have q275_kX0 := kX.cell 0 rfl
             have q276_kX1 := kX.cell 1 rfl
             have q277_kY0 := kY.cell 0 rfl
             have q278_kY1 := kY.cell 1 rfl
             as_aux_lemma =>
              go_wp2_with fail
              generalize w9.alloc (.cells #[.int .i64 2, .slice a3 (ws).length c3] 25) = w10 at *
              generalize w9.heap.size = B10 at *
              clear q265_kT0 q266_kT1 q267_kW0 q268_kW1 q269_kX0 q270_kX1 q271_kT0 q272_kT1 q273_kW0 q274_kW1 q275_kX0 q276_kX1 q277_kY0 q278_kY1
              refine (sameTxn_any 2 2 _ _ (ws) (ws) _ i3.ints i2.ints true (by simp)).mono ?_
              rintro e w11 ⟨rfl, hb11⟩
              have hs11 := hb11.size
              replace it := it.below hb11
              replace i1 := i1.below hb11
              replace i2 := i2.below hb11
              replace i3 := i3.below hb11
              replace kT := kT.below hb11
              replace kW := kW.below hb11
              replace kX := kX.below hb11
              replace kY := kY.below hb11
              replace hL := hL.below hb11
              replace HB := below_step HB hb11 HB.size
              clear hb11
              have q279_kT0 := kT.cell 0 rfl
              have q280_kT1 := kT.cell 1 rfl
              have q281_kW0 := kW.cell 0 rfl
              have q282_kW1 := kW.cell 1 rfl
              have q283_kX0 := kX.cell 0 rfl
              have q284_kX1 := kX.cell 1 rfl
              have q285_kY0 := kY.cell 0 rfl
              have q286_kY1 := kY.cell 1 rfl
              as_aux_lemma =>
               go_wp2_with fail
               go_ret
               exact ⟨rfl, HB⟩
       case false =>
         have HS := Lib.hid (show recoverT rc ws = (3, refuse ws, true) by simp [recoverT, he, hf])
         have HST := Lib.hid (show txnStat rc ws = 0 by
           have e2 : (rc == 2) = false := beq_eq_false_iff_ne.2 (by omega)
           have e3 : (rc == 3) = false := beq_eq_false_iff_ne.2 (by omega)
           unfold txnStat statOf; rw [hv, hf, e2, e3]; rfl)
         have HR := Lib.hid (show recoverR rc ws = (3, refuse ws, true) by unfold recoverR; rw [hv, HS.out]; rfl)
         clear q151_kT0 q152_kT1
         refine (opOf (specTxnRecover_any rc (.slice at0 ws.length ct0) ws _ it.ints) HR.out).mono ?_
         rintro e w3 ⟨y1, rfl, i1, hb3⟩
         have hs3 := hb3.size
         replace it := it.below hb3
         replace kT := kT.below hb3
         replace hL := hL.below hb3
         replace HB := below_step HB hb3 HB.size
         clear hb3
         obtain ⟨a1, c1, hv_y1⟩ := own_form i1
         subst hv_y1
         have q287_kT0 := kT.cell 0 rfl
         have q288_kT1 := kT.cell 1 rfl
         have hb4 : Below w3.heap.size w3 (w3.alloc (.cells #[.int .i64 3, .slice a1 (refuse ws).length c1] 25)) := (Below.refl _ _).alloc (Nat.le_refl _) _
         have hs4 := hb4.size
         replace it := it.below hb4
         replace i1 := i1.below hb4
         replace kT := kT.below hb4
         replace hL := hL.below hb4
         replace HB := below_step HB hb4 HB.size
         have kW := Blk.new w3 #[.int .i64 3, .slice a1 (refuse ws).length c1] 25
         have hl4 := kW.lt
         clear hb4
         have q289_kT0 := kT.cell 0 rfl
         have q290_kT1 := kT.cell 1 rfl
         have q291_kW0 := kW.cell 0 rfl
         have q292_kW1 := kW.cell 1 rfl
         as_aux_lemma =>
          go_wp2_with fail
          generalize w3.alloc (.cells #[.int .i64 3, .slice a1 (refuse ws).length c1] 25) = w4 at *
          generalize w3.heap.size = B4 at *
          clear q287_kT0 q288_kT1 q289_kT0 q290_kT1 q291_kW0 q292_kW1
          refine (opOf (implTxnRecover_any rc (.slice at0 ws.length ct0) ws _ it.ints hL) HR.out).mono ?_
          rintro e w5 ⟨y2, rfl, i2, hb5⟩
          have hs5 := hb5.size
          replace it := it.below hb5
          replace i1 := i1.below hb5
          replace kT := kT.below hb5
          replace kW := kW.below hb5
          replace hL := hL.below hb5
          replace HB := below_step HB hb5 HB.size
          clear hb5
          obtain ⟨a2, c2, hv_y2⟩ := own_form i2
          subst hv_y2
          have q293_kT0 := kT.cell 0 rfl
          have q294_kT1 := kT.cell 1 rfl
          have q295_kW0 := kW.cell 0 rfl
          have q296_kW1 := kW.cell 1 rfl
          have hb6 : Below w5.heap.size w5 (w5.alloc (.cells #[.int .i64 3, .slice a2 (refuse ws).length c2] 25)) := (Below.refl _ _).alloc (Nat.le_refl _) _
          have hs6 := hb6.size
          replace it := it.below hb6
          replace i1 := i1.below hb6
          replace i2 := i2.below hb6
          replace kT := kT.below hb6
          replace kW := kW.below hb6
          replace hL := hL.below hb6
          replace HB := below_step HB hb6 HB.size
          have kX := Blk.new w5 #[.int .i64 3, .slice a2 (refuse ws).length c2] 25
          have hl6 := kX.lt
          clear hb6
          have q297_kT0 := kT.cell 0 rfl
          have q298_kT1 := kT.cell 1 rfl
          have q299_kW0 := kW.cell 0 rfl
          have q300_kW1 := kW.cell 1 rfl
          have q301_kX0 := kX.cell 0 rfl
          have q302_kX1 := kX.cell 1 rfl
          as_aux_lemma =>
           go_wp2_with fail
           generalize w5.alloc (.cells #[.int .i64 3, .slice a2 (refuse ws).length c2] 25) = w6 at *
           generalize w5.heap.size = B6 at *
           clear q293_kT0 q294_kT1 q295_kW0 q296_kW1 q297_kT0 q298_kT1 q299_kW0 q300_kW1 q301_kX0 q302_kX1
           refine (sameTxn_any 3 3 _ _ (refuse ws) (refuse ws) _ i2.ints i1.ints true (by simp)).mono ?_
           rintro e w7 ⟨rfl, hb7⟩
           have hs7 := hb7.size
           replace it := it.below hb7
           replace i1 := i1.below hb7
           replace i2 := i2.below hb7
           replace kT := kT.below hb7
           replace kW := kW.below hb7
           replace kX := kX.below hb7
           replace hL := hL.below hb7
           replace HB := below_step HB hb7 HB.size
           clear hb7
           have q303_kT0 := kT.cell 0 rfl
           have q304_kT1 := kT.cell 1 rfl
           have q305_kW0 := kW.cell 0 rfl
           have q306_kW1 := kW.cell 1 rfl
           have q307_kX0 := kX.cell 0 rfl
           have q308_kX1 := kX.cell 1 rfl
           as_aux_lemma =>
            go_wp2_with fail
            clear q303_kT0 q304_kT1 q305_kW0 q306_kW1 q307_kX0 q308_kX1
            refine (specTxnValid_any rc _ ws _ it.ints true HV.out).mono ?_
            rintro e w8 ⟨rfl, hb8⟩
            have hs8 := hb8.size
            replace it := it.below hb8
            replace i1 := i1.below hb8
            replace i2 := i2.below hb8
            replace kT := kT.below hb8
            replace kW := kW.below hb8
            replace kX := kX.below hb8
            replace hL := hL.below hb8
            replace HB := below_step HB hb8 HB.size
            clear hb8
            have q309_kT0 := kT.cell 0 rfl
            have q310_kT1 := kT.cell 1 rfl
            have q311_kW0 := kW.cell 0 rfl
            have q312_kW1 := kW.cell 1 rfl
            have q313_kX0 := kX.cell 0 rfl
            have q314_kX1 := kX.cell 1 rfl
            as_aux_lemma =>
             go_wp2_with fail
             have HY := Lib.hid (show recoverR 3 (refuse ws) = (3, refuse ws, false) by unfold recoverR; rw [HOK.out]; rfl)
             clear q309_kT0 q310_kT1 q311_kW0 q312_kW1 q313_kX0 q314_kX1
             refine (opOf (implTxnRecover_any 3 _ (refuse ws) _ i2.ints hL) HY.out).mono ?_
             rintro e w9 ⟨y3, rfl, i3, hb9⟩
             have hs9 := hb9.size
             replace it := it.below hb9
             replace i1 := i1.below hb9
             replace i2 := i2.below hb9
             replace kT := kT.below hb9
             replace kW := kW.below hb9
             replace kX := kX.below hb9
             replace hL := hL.below hb9
             replace HB := below_step HB hb9 HB.size
             clear hb9
             obtain ⟨a3, c3, hv_y3⟩ := own_form i3
             subst hv_y3
             have q315_kT0 := kT.cell 0 rfl
             have q316_kT1 := kT.cell 1 rfl
             have q317_kW0 := kW.cell 0 rfl
             have q318_kW1 := kW.cell 1 rfl
             have q319_kX0 := kX.cell 0 rfl
             have q320_kX1 := kX.cell 1 rfl
             have hb10 : Below w9.heap.size w9 (w9.alloc (.cells #[.int .i64 3, .slice a3 (refuse ws).length c3] 25)) := (Below.refl _ _).alloc (Nat.le_refl _) _
             have hs10 := hb10.size
             replace it := it.below hb10
             replace i1 := i1.below hb10
             replace i2 := i2.below hb10
             replace i3 := i3.below hb10
             replace kT := kT.below hb10
             replace kW := kW.below hb10
             replace kX := kX.below hb10
             replace hL := hL.below hb10
             replace HB := below_step HB hb10 HB.size
             have kY := Blk.new w9 #[.int .i64 3, .slice a3 (refuse ws).length c3] 25
             have hl10 := kY.lt
             clear hb10
             have q321_kT0 := kT.cell 0 rfl
             have q322_kT1 := kT.cell 1 rfl
             have q323_kW0 := kW.cell 0 rfl
             have q324_kW1 := kW.cell 1 rfl
             have q325_kX0 := kX.cell 0 rfl
             have q326_kX1 := kX.cell 1 rfl
             have q327_kY0 := kY.cell 0 rfl
             have q328_kY1 := kY.cell 1 rfl
             as_aux_lemma =>
              go_wp2_with fail
              generalize w9.alloc (.cells #[.int .i64 3, .slice a3 (refuse ws).length c3] 25) = w10 at *
              generalize w9.heap.size = B10 at *
              clear q315_kT0 q316_kT1 q317_kW0 q318_kW1 q319_kX0 q320_kX1 q321_kT0 q322_kT1 q323_kW0 q324_kW1 q325_kX0 q326_kX1 q327_kY0 q328_kY1
              refine (sameTxn_any 3 3 _ _ (refuse ws) (refuse ws) _ i3.ints i2.ints true (by simp)).mono ?_
              rintro e w11 ⟨rfl, hb11⟩
              have hs11 := hb11.size
              replace it := it.below hb11
              replace i1 := i1.below hb11
              replace i2 := i2.below hb11
              replace i3 := i3.below hb11
              replace kT := kT.below hb11
              replace kW := kW.below hb11
              replace kX := kX.below hb11
              replace kY := kY.below hb11
              replace hL := hL.below hb11
              replace HB := below_step HB hb11 HB.size
              clear hb11
              have q329_kT0 := kT.cell 0 rfl
              have q330_kT1 := kT.cell 1 rfl
              have q331_kW0 := kW.cell 0 rfl
              have q332_kW1 := kW.cell 1 rfl
              have q333_kX0 := kX.cell 0 rfl
              have q334_kX1 := kX.cell 1 rfl
              have q335_kY0 := kY.cell 0 rfl
              have q336_kY1 := kY.cell 1 rfl
              as_aux_lemma =>
               go_wp2_with fail
               go_ret
               exact ⟨rfl, HB⟩

/-! ### THE ROW's STEP -/
set_option maxRecDepth 100000 in
theorem lifted (os : Os) (started : os.Started) (H : Type) (enc : TypeId × Value → H) :
    ReturnsInHanded {} Tryd.checked os 10 .any (fun w args => (Rows.fnTxnRecoverTwiceSpec.pre enc Tryd.prog Tryd.f10 [] false w args ∧ laidMetH Tryd.prog laidL w) ∧ sizedMet enc Tryd.prog Tryd.f10 (OpenSpec.ofChange Rows.fnTxnRecoverTwiceSpec) false w args)
      (Rows.fnTxnRecoverTwiceSpec.post enc Tryd.prog Tryd.f10 false true false false) := by
  refine returnsInHanded_of_change_and (C := Tryd.checked) (X := fun w _ => laidMetH Tryd.prog laidL w) (fun _ _ _ hh h => h.of_heap hh) own started (by kernel_rfl) Tryd.func10
    (ChangeSpec.witness_at (enc := enc) (C := Tryd.checked) (os := os) (X := fun w _ => laidMetH Tryd.prog laidL w) false (laidWorld os) #[.slice none 0 0] 8 rfl (by kernel_rfl) (by kernel_rfl) (by kernel_rfl) (by kernel_rfl) (by kernel_rfl) (laidWorld_met os _)) ?_
  intro W base args ds gs before hval0 hW _ _ hL _
  have hval : ∀ (j : Nat) t v, Tryd.f10.params[j]? = some t → args[j]? = some v → Value.okWide Tryd.prog W .any base t v := hval0
  have hW' := hW
  obtain ⟨p, q, hA0, hV, rfl, hfz, hnd⟩ := hW
  have hA : DataW.TrodAll enc Tryd.prog W 0 (fun _ => true) true Tryd.f10.params.toList args.toList ds p := hA0
  rw [Tryd.params10] at hA hval
  obtain ⟨v0, vs0, d0, ds0, p0, q0, hargs, rfl, rfl, h0, r0⟩ := trodAll_cons hA
  obtain ⟨rfl, rfl, rfl⟩ := trodAll_nil r0
  obtain rfl : args = #[v0] := by cases args; simp_all
  obtain ⟨rfl, rfl⟩ := trodVars_none hV
  obtain ⟨n0, b0⟩ := bytes_in (hval 0 _ v0 rfl rfl) h0
  have lt0 := lt_in h0
  clear hA0 hval0
  refine (walk_at W v0 n0 b0 (laid_of hL)).mono fun e W' ⟨he, bel⟩ => ?_
  subst he
  exact ⟨_, rfl, _, _, _, [], _, [], hW', trodAll_mk1 (shut_bool Tryd.underlying4 _), (trodAll_cons_mk (Below.trod laidOut (by kernel_rfl) (of_decide_eq_true (by kernel_rfl)) h0 bel lt0) trodAll_mk0), rfl, bel.frame _, fun h => by cases h⟩

set_option maxRecDepth 100000 in
theorem closed : joinedFacts Tryd.prog 10 Tryd.f10 Rows.fnTxnRecoverTwiceSpec Rows.fnTxnRecoverTwiceRow = true := by
  unfold joinedFacts
  rw [may, lifts, mk]
  kernel_rfl
theorem over : Rows.fnTxnRecoverTwiceRow.holds Tryd.pinned (OpenSpec.ofChange Rows.fnTxnRecoverTwiceSpec) :=
  OpenClaim.holds_of_wide 10 Tryd.f10 rfl rfl rfl rfl rfl rfl rfl ⟨rfl, rfl, rfl, rfl, rfl⟩ rfl rfl rfl rfl rfl (by as_aux_lemma => kernel_rfl) Tryd.func10 closed
    (of_decide_eq_true (by as_aux_lemma => kernel_rfl)) (by unfold Func.isWrapper; rw [if_neg (of_decide_eq_false (by as_aux_lemma => kernel_rfl))]; exact ⟨rfl, rfl⟩)
    (fun os started H enc _ => lifted os started H enc)

/-- THE STATEMENT: the tied card -/
theorem proved : Rows.FnTxnRecoverTwiceCardSaid :=
  Claim7.holds_tied_plain_at .later [] [.handle] true Rows.fnTxnRecoverTwiceCard.stood.harness true
    over (fun _ h => by cases h) (by kernel_rfl) (fun _ h => by cases h) fnTxnRecoverTwice_row_tie rfl ⟨rfl, rfl⟩ (by kernel_rfl) rfl
    (fun f fn hf hfn => by
      obtain rfl : f = 10 := Option.some.inj ((show Tryd.prog.funcNamed "loop.example/flexquorum/laws.FnTxnRecoverTwice" = some 10 by kernel_rfl).symm.trans hf) |>.symm
      obtain rfl : fn = Tryd.f10 := (Option.some.inj (Tryd.func10.symm.trans hfn)).symm
      exact ⟨by kernel_rfl, fun j t ht => by
        rw [Tryd.params10] at ht
        have hm := Array.mem_of_getElem? ht
        simp only [List.mem_toArray, List.mem_cons, List.not_mem_nil, or_false] at hm
        (subst hm; exact (show Tryd.prog.wantsStandIn 22 = false by kernel_rfl))⟩)
    (by kernel_rfl)
end Go.Proofs.YtocinffmdciihaaDoor.fnTxnRecoverTwice
