/-
  For every input the law FnTxnWrite returns true, and what it was given reads afterwards as before. No condition beyond the row's own.
-/
import Derived.Test.YtocinffmdciihaaDoorFrameD
import Derived.Test.YtocinffmdciihaaDoorFrameT
import Derived.Test.YtocinffmdciihaaDoorTie
import Derived.Test.YtocinffmdciihaaDoorCards
import Derived.Test.YtocinffmdciihaaDoorTxnY
import Derived.Test.YtocinffmdciihaaDoorTxnI
import Derived.Test.YtocinffmdciihaaDoorTxnJ
import Derived.Test.YtocinffmdciihaaDoorTxnK
import Derived.Test.YtocinffmdciihaaDoorTxnQD
import Derived.SevenTiedAt
import Derived.Deep.DeepCutAuto
import Derived.Deep.QuietTactic
import Derived.BigQuiet
namespace Go.Proofs.YtocinffmdciihaaDoor.fnTxnWrite
open Go.ChangeShapes Go.WideShapes Go.ChangeAt Go.RowKit
open Go.ChangeMaps (open_string shut_string)
set_option linter.unusedVariables false
theorem write_again {rc r : Int} {ws : List Int} (hv : txnOk rc ws = true) (he : isEnded rc = false) (r0 : 0 ≤ r) (r1 : r < ws.length) : writeR rc (ws.set r.toNat 1) r = (rc, ws.set r.toNat 1, false) ∧ txnOk rc (ws.set r.toNat 1) = true := by
  obtain ⟨g0, g1, g2, g3, g4, g5⟩ := txnOk_parts hv
  have hok : txnOk rc (ws.set r.toNat 1) = true := okOf g0 g1 (by simpa using g2) (by simpa using g3) (range_set g4 (by omega) (by omega)) fun e => absurd e (ended_not he).1
  have hn : nth (ws.set r.toNat 1) r.toNat = 1 := by rw [nth_set, if_pos ⟨rfl, by omega⟩]
  have hg : (decide (0 ≤ r) && decide (r < ((ws.set r.toNat 1).length : Int))) = true := by
    rw [List.length_set, Bool.and_eq_true, decide_eq_true_iff, decide_eq_true_iff]; omega
  refine ⟨?_, hok⟩
  unfold writeR writeT
  rw [hok, hg, hn]
  rfl

set_option maxRecDepth 100000 in
set_option maxHeartbeats 8000000 in
theorem walk_at (w : World) (v0 : Value) (n0 : Nat) (b0 : Bytes w 0 w.heap.size v0 n0) (hL : Laid w) :
    Calls Tryd.prog 4 #[v0] w fun e w' => e = .returned (.bool true) ∧ Below w.heap.size w w' := by
  obtain ⟨a0, c0, hv0, hn0, hx0⟩ := b0.open
  clear hx0
  subst hv0
  by_cases big0 : n0 ≤ 1048576
  case neg =>
    go_enter Tryd.func4, Tryd.ntmps4
    go_wp2_with fail
    go_ret
    exact ⟨rfl, Below.refl _ _⟩
  go_enter Tryd.func4, Tryd.ntmps4
  go_wp2_with fail
  have HB : Below w.heap.size w w := Below.refl _ _
  refine (DrawTxnWrite_any _ n0 _ b0).mono ?_
  rintro e w1 ⟨rc, ws, tv, r, rfl, rr0, rr1, l0, l1, rng, r0, r1, it, hb1⟩
  have hs1 := hb1.size
  replace hL := hL.below hb1
  replace HB := below_step HB hb1 HB.size
  clear hb1
  obtain ⟨at0, ct0, hv_tv⟩ := own_form it
  subst hv_tv
  have hb2 : Below w1.heap.size w1 (w1.alloc (.cells #[.int .i64 rc, .slice at0 ws.length ct0] 25)) := (Below.refl _ _).alloc (Nat.le_refl _) _
  have hs2 := hb2.size
  replace it := it.below hb2
  replace hL := hL.below hb2
  replace HB := below_step HB hb2 HB.size
  have kT := Blk.new w1 #[.int .i64 rc, .slice at0 ws.length ct0] 25
  have hl2 := kT.lt
  clear hb2
  have q99_kT0 := kT.cell 0 rfl
  have q100_kT1 := kT.cell 1 rfl
  as_aux_lemma =>
   go_wp2_with fail
   generalize w1.alloc (.cells #[.int .i64 rc, .slice at0 ws.length ct0] 25) = w2 at *
   generalize w1.heap.size = B2 at *
   cases hv : txnOk rc ws
   case false =>
     have HV := Lib.hid hv
     have HR := Lib.hid (show writeR rc ws r = (0, [], false) by unfold writeR; rw [hv]; rfl)
     clear hv
     clear q99_kT0 q100_kT1
     refine (opOf (specTxnWrite_any rc (.slice at0 ws.length ct0) ws r _ it.ints) HR.out).mono ?_
     rintro e w3 ⟨y1, rfl, i1, hb3⟩
     have hs3 := hb3.size
     replace it := it.below hb3
     replace kT := kT.below hb3
     replace hL := hL.below hb3
     replace HB := below_step HB hb3 HB.size
     clear hb3
     obtain ⟨a1, c1, hv_y1⟩ := own_form i1
     subst hv_y1
     change IntsO _ _ _ (.slice a1 0 c1) ([] : List Int) at i1
     have q101_kT0 := kT.cell 0 rfl
     have q102_kT1 := kT.cell 1 rfl
     have hb4 : Below w3.heap.size w3 (w3.alloc (.cells #[.int .i64 0, .slice a1 0 c1] 25)) := (Below.refl _ _).alloc (Nat.le_refl _) _
     have hs4 := hb4.size
     replace it := it.below hb4
     replace i1 := i1.below hb4
     replace kT := kT.below hb4
     replace hL := hL.below hb4
     replace HB := below_step HB hb4 HB.size
     have kW := Blk.new w3 #[.int .i64 0, .slice a1 0 c1] 25
     have hl4 := kW.lt
     clear hb4
     have q103_kT0 := kT.cell 0 rfl
     have q104_kT1 := kT.cell 1 rfl
     have q105_kW0 := kW.cell 0 rfl
     have q106_kW1 := kW.cell 1 rfl
     as_aux_lemma =>
      go_wp2_with fail
      generalize w3.alloc (.cells #[.int .i64 0, .slice a1 0 c1] 25) = w4 at *
      generalize w3.heap.size = B4 at *
      clear q101_kT0 q102_kT1 q103_kT0 q104_kT1 q105_kW0 q106_kW1
      refine (opOf (implTxnWrite_any rc (.slice at0 ws.length ct0) ws r _ it.ints hL) HR.out).mono ?_
      rintro e w5 ⟨y2, rfl, i2, hb5⟩
      have hs5 := hb5.size
      replace it := it.below hb5
      replace i1 := i1.below hb5
      replace kT := kT.below hb5
      replace kW := kW.below hb5
      replace hL := hL.below hb5
      replace HB := below_step HB hb5 HB.size
      clear hb5
      obtain ⟨a2, c2, hv_y2⟩ := own_form i2
      subst hv_y2
      change IntsO _ _ _ (.slice a2 0 c2) ([] : List Int) at i2
      have q107_kT0 := kT.cell 0 rfl
      have q108_kT1 := kT.cell 1 rfl
      have q109_kW0 := kW.cell 0 rfl
      have q110_kW1 := kW.cell 1 rfl
      have hb6 : Below w5.heap.size w5 (w5.alloc (.cells #[.int .i64 0, .slice a2 0 c2] 25)) := (Below.refl _ _).alloc (Nat.le_refl _) _
      have hs6 := hb6.size
      replace it := it.below hb6
      replace i1 := i1.below hb6
      replace i2 := i2.below hb6
      replace kT := kT.below hb6
      replace kW := kW.below hb6
      replace hL := hL.below hb6
      replace HB := below_step HB hb6 HB.size
      have kX := Blk.new w5 #[.int .i64 0, .slice a2 0 c2] 25
      have hl6 := kX.lt
      clear hb6
      have q111_kT0 := kT.cell 0 rfl
      have q112_kT1 := kT.cell 1 rfl
      have q113_kW0 := kW.cell 0 rfl
      have q114_kW1 := kW.cell 1 rfl
      have q115_kX0 := kX.cell 0 rfl
      have q116_kX1 := kX.cell 1 rfl
      as_aux_lemma =>
       go_wp2_with fail
       generalize w5.alloc (.cells #[.int .i64 0, .slice a2 0 c2] 25) = w6 at *
       generalize w5.heap.size = B6 at *
       clear q107_kT0 q108_kT1 q109_kW0 q110_kW1 q111_kT0 q112_kT1 q113_kW0 q114_kW1 q115_kX0 q116_kX1
       refine (sameTxn_any 0 0 _ _ (([] : List Int)) (([] : List Int)) _ i2.ints i1.ints true (by simp)).mono ?_
       rintro e w7 ⟨rfl, hb7⟩
       have hs7 := hb7.size
       replace it := it.below hb7
       replace i1 := i1.below hb7
       replace i2 := i2.below hb7
       replace kT := kT.below hb7
       replace kW := kW.below hb7
       replace kX := kX.below hb7
       replace hL := hL.below hb7
       replace HB := below_step HB hb7 HB.size
       clear hb7
       have q117_kT0 := kT.cell 0 rfl
       have q118_kT1 := kT.cell 1 rfl
       have q119_kW0 := kW.cell 0 rfl
       have q120_kW1 := kW.cell 1 rfl
       have q121_kX0 := kX.cell 0 rfl
       have q122_kX1 := kX.cell 1 rfl
       as_aux_lemma =>
        go_wp2_with fail
        clear q117_kT0 q118_kT1 q119_kW0 q120_kW1 q121_kX0 q122_kX1
        refine (specTxnValid_any rc _ ws _ it.ints false HV.out).mono ?_
        rintro e w8 ⟨rfl, hb8⟩
        have hs8 := hb8.size
        replace it := it.below hb8
        replace i1 := i1.below hb8
        replace i2 := i2.below hb8
        replace kT := kT.below hb8
        replace kW := kW.below hb8
        replace kX := kX.below hb8
        replace hL := hL.below hb8
        replace HB := below_step HB hb8 HB.size
        clear hb8
        have q123_kT0 := kT.cell 0 rfl
        have q124_kT1 := kT.cell 1 rfl
        have q125_kW0 := kW.cell 0 rfl
        have q126_kW1 := kW.cell 1 rfl
        have q127_kX0 := kX.cell 0 rfl
        have q128_kX1 := kX.cell 1 rfl
        as_aux_lemma =>
         go_wp2_with fail
         clear q123_kT0 q124_kT1 q125_kW0 q126_kW1 q127_kX0 q128_kX1
         refine (sameTxn_any 0 0 _ _ [] [] _ i2.ints i1.ints true (by simp)).mono ?_
         rintro e w9 ⟨rfl, hb9⟩
         have hs9 := hb9.size
         replace it := it.below hb9
         replace i1 := i1.below hb9
         replace i2 := i2.below hb9
         replace kT := kT.below hb9
         replace kW := kW.below hb9
         replace kX := kX.below hb9
         replace hL := hL.below hb9
         replace HB := below_step HB hb9 HB.size
         clear hb9
         have q129_kT0 := kT.cell 0 rfl
         have q130_kT1 := kT.cell 1 rfl
         have q131_kW0 := kW.cell 0 rfl
         have q132_kW1 := kW.cell 1 rfl
         have q133_kX0 := kX.cell 0 rfl
         have q134_kX1 := kX.cell 1 rfl
         as_aux_lemma =>
          go_wp2_with fail
          go_ret
          exact ⟨rfl, HB⟩
   case true =>
     have HV := Lib.hid hv
     by_cases hr : 0 ≤ r ∧ r < ws.length
     case neg =>
       have HR := Lib.hid (show writeR rc ws r = (0, [], false) by
         unfold writeR; rw [hv]
         have : (decide (0 ≤ r) && decide (r < (ws.length : Int))) = false := by
           rw [Bool.and_eq_false_iff, decide_eq_false_iff_not, decide_eq_false_iff_not]; omega
         rw [this]; rfl)
       clear hv
       by_cases hr0 : r < 0
       all_goals
         have hge : r < 0 ∨ (ws.length : Int) ≤ r := by omega
         clear q99_kT0 q100_kT1
         refine (opOf (specTxnWrite_any rc (.slice at0 ws.length ct0) ws r _ it.ints) HR.out).mono ?_
         rintro e w3 ⟨y1, rfl, i1, hb3⟩
         have hs3 := hb3.size
         replace it := it.below hb3
         replace kT := kT.below hb3
         replace hL := hL.below hb3
         replace HB := below_step HB hb3 HB.size
         clear hb3
         obtain ⟨a1, c1, hv_y1⟩ := own_form i1
         subst hv_y1
         change IntsO _ _ _ (.slice a1 0 c1) ([] : List Int) at i1
         have q135_kT0 := kT.cell 0 rfl
         have q136_kT1 := kT.cell 1 rfl
         have hb4 : Below w3.heap.size w3 (w3.alloc (.cells #[.int .i64 0, .slice a1 0 c1] 25)) := (Below.refl _ _).alloc (Nat.le_refl _) _
         have hs4 := hb4.size
         replace it := it.below hb4
         replace i1 := i1.below hb4
         replace kT := kT.below hb4
         replace hL := hL.below hb4
         replace HB := below_step HB hb4 HB.size
         have kW := Blk.new w3 #[.int .i64 0, .slice a1 0 c1] 25
         have hl4 := kW.lt
         clear hb4
         have q137_kT0 := kT.cell 0 rfl
         have q138_kT1 := kT.cell 1 rfl
         have q139_kW0 := kW.cell 0 rfl
         have q140_kW1 := kW.cell 1 rfl
         as_aux_lemma =>
          go_wp2_with fail
          generalize w3.alloc (.cells #[.int .i64 0, .slice a1 0 c1] 25) = w4 at *
          generalize w3.heap.size = B4 at *
          clear q135_kT0 q136_kT1 q137_kT0 q138_kT1 q139_kW0 q140_kW1
          refine (opOf (implTxnWrite_any rc (.slice at0 ws.length ct0) ws r _ it.ints hL) HR.out).mono ?_
          rintro e w5 ⟨y2, rfl, i2, hb5⟩
          have hs5 := hb5.size
          replace it := it.below hb5
          replace i1 := i1.below hb5
          replace kT := kT.below hb5
          replace kW := kW.below hb5
          replace hL := hL.below hb5
          replace HB := below_step HB hb5 HB.size
          clear hb5
          obtain ⟨a2, c2, hv_y2⟩ := own_form i2
          subst hv_y2
          change IntsO _ _ _ (.slice a2 0 c2) ([] : List Int) at i2
          have q141_kT0 := kT.cell 0 rfl
          have q142_kT1 := kT.cell 1 rfl
          have q143_kW0 := kW.cell 0 rfl
          have q144_kW1 := kW.cell 1 rfl
          have hb6 : Below w5.heap.size w5 (w5.alloc (.cells #[.int .i64 0, .slice a2 0 c2] 25)) := (Below.refl _ _).alloc (Nat.le_refl _) _
          have hs6 := hb6.size
          replace it := it.below hb6
          replace i1 := i1.below hb6
          replace i2 := i2.below hb6
          replace kT := kT.below hb6
          replace kW := kW.below hb6
          replace hL := hL.below hb6
          replace HB := below_step HB hb6 HB.size
          have kX := Blk.new w5 #[.int .i64 0, .slice a2 0 c2] 25
          have hl6 := kX.lt
          clear hb6
          have q145_kT0 := kT.cell 0 rfl
          have q146_kT1 := kT.cell 1 rfl
          have q147_kW0 := kW.cell 0 rfl
          have q148_kW1 := kW.cell 1 rfl
          have q149_kX0 := kX.cell 0 rfl
          have q150_kX1 := kX.cell 1 rfl
          as_aux_lemma =>
           go_wp2_with fail
           generalize w5.alloc (.cells #[.int .i64 0, .slice a2 0 c2] 25) = w6 at *
           generalize w5.heap.size = B6 at *
           clear q141_kT0 q142_kT1 q143_kW0 q144_kW1 q145_kT0 q146_kT1 q147_kW0 q148_kW1 q149_kX0 q150_kX1
           refine (sameTxn_any 0 0 _ _ (([] : List Int)) (([] : List Int)) _ i2.ints i1.ints true (by simp)).mono ?_
           rintro e w7 ⟨rfl, hb7⟩
           have hs7 := hb7.size
           replace it := it.below hb7
           replace i1 := i1.below hb7
           replace i2 := i2.below hb7
           replace kT := kT.below hb7
           replace kW := kW.below hb7
           replace kX := kX.below hb7
           replace hL := hL.below hb7
           replace HB := below_step HB hb7 HB.size
           clear hb7
           have q151_kT0 := kT.cell 0 rfl
           have q152_kT1 := kT.cell 1 rfl
           have q153_kW0 := kW.cell 0 rfl
           have q154_kW1 := kW.cell 1 rfl
           have q155_kX0 := kX.cell 0 rfl
           have q156_kX1 := kX.cell 1 rfl
           as_aux_lemma =>
            go_wp2_with fail
            clear q151_kT0 q152_kT1 q153_kW0 q154_kW1 q155_kX0 q156_kX1
            refine (specTxnValid_any rc _ ws _ it.ints true HV.out).mono ?_
            rintro e w8 ⟨rfl, hb8⟩
            have hs8 := hb8.size
            replace it := it.below hb8
            replace i1 := i1.below hb8
            replace i2 := i2.below hb8
            replace kT := kT.below hb8
            replace kW := kW.below hb8
            replace kX := kX.below hb8
            replace hL := hL.below hb8
            replace HB := below_step HB hb8 HB.size
            clear hb8
            have q157_kT0 := kT.cell 0 rfl
            have q158_kT1 := kT.cell 1 rfl
            have q159_kW0 := kW.cell 0 rfl
            have q160_kW1 := kW.cell 1 rfl
            have q161_kX0 := kX.cell 0 rfl
            have q162_kX1 := kX.cell 1 rfl
            as_aux_lemma =>
             go_wp2_with fail
             clear q157_kT0 q158_kT1 q159_kW0 q160_kW1 q161_kX0 q162_kX1
             refine (sameTxn_any 0 0 _ _ [] [] _ i2.ints i1.ints true (by simp)).mono ?_
             rintro e w9 ⟨rfl, hb9⟩
             have hs9 := hb9.size
             replace it := it.below hb9
             replace i1 := i1.below hb9
             replace i2 := i2.below hb9
             replace kT := kT.below hb9
             replace kW := kW.below hb9
             replace kX := kX.below hb9
             replace hL := hL.below hb9
             replace HB := below_step HB hb9 HB.size
             clear hb9
             have q163_kT0 := kT.cell 0 rfl
             have q164_kT1 := kT.cell 1 rfl
             have q165_kW0 := kW.cell 0 rfl
             have q166_kW1 := kW.cell 1 rfl
             have q167_kX0 := kX.cell 0 rfl
             have q168_kX1 := kX.cell 1 rfl
             as_aux_lemma =>
              go_wp2_with fail
              go_ret
              exact ⟨rfl, HB⟩
     case pos =>
       obtain ⟨hr0, hr1⟩ := hr
       have hR : writeR rc ws r = writeT rc ws r := by
         unfold writeR; rw [hv]
         have : (decide (0 ≤ r) && decide (r < (ws.length : Int))) = true := by simp [hr0, hr1]
         rw [this]; rfl
       have ways : (nth ws r.toNat != 0) = true ∨ ((nth ws r.toNat != 0) = false ∧ isEnded rc = true) ∨ ((nth ws r.toNat != 0) = false ∧ isEnded rc = false) := by
         cases h0 : (nth ws r.toNat != 0)
         · cases he : isEnded rc
           · exact .inr (.inr ⟨rfl, rfl⟩)
           · exact .inr (.inl ⟨rfl, rfl⟩)
         · exact .inl rfl
       rcases ways with h0 | ⟨h0, he⟩ | ⟨h0, he⟩
       · skip
         have HR := Lib.hid (show writeR rc ws r = (rc, ws, false) by rw [hR]; simp [writeT, h0])
         have HRR := hR
         clear hR HRR hv
         clear q99_kT0 q100_kT1
         refine (opOf (specTxnWrite_any rc (.slice at0 ws.length ct0) ws r _ it.ints) HR.out).mono ?_
         rintro e w3 ⟨y1, rfl, i1, hb3⟩
         have hs3 := hb3.size
         replace it := it.below hb3
         replace kT := kT.below hb3
         replace hL := hL.below hb3
         replace HB := below_step HB hb3 HB.size
         clear hb3
         obtain ⟨a1, c1, hv_y1⟩ := own_form i1
         subst hv_y1
         have q169_kT0 := kT.cell 0 rfl
         have q170_kT1 := kT.cell 1 rfl
         have hb4 : Below w3.heap.size w3 (w3.alloc (.cells #[.int .i64 rc, .slice a1 (ws).length c1] 25)) := (Below.refl _ _).alloc (Nat.le_refl _) _
         have hs4 := hb4.size
         replace it := it.below hb4
         replace i1 := i1.below hb4
         replace kT := kT.below hb4
         replace hL := hL.below hb4
         replace HB := below_step HB hb4 HB.size
         have kW := Blk.new w3 #[.int .i64 rc, .slice a1 (ws).length c1] 25
         have hl4 := kW.lt
         clear hb4
         have q171_kT0 := kT.cell 0 rfl
         have q172_kT1 := kT.cell 1 rfl
         have q173_kW0 := kW.cell 0 rfl
         have q174_kW1 := kW.cell 1 rfl
         as_aux_lemma =>
          go_wp2_with fail
          generalize w3.alloc (.cells #[.int .i64 rc, .slice a1 (ws).length c1] 25) = w4 at *
          generalize w3.heap.size = B4 at *
          clear q169_kT0 q170_kT1 q171_kT0 q172_kT1 q173_kW0 q174_kW1
          refine (opOf (implTxnWrite_any rc (.slice at0 ws.length ct0) ws r _ it.ints hL) HR.out).mono ?_
          rintro e w5 ⟨y2, rfl, i2, hb5⟩
          have hs5 := hb5.size
          replace it := it.below hb5
          replace i1 := i1.below hb5
          replace kT := kT.below hb5
          replace kW := kW.below hb5
          replace hL := hL.below hb5
          replace HB := below_step HB hb5 HB.size
          clear hb5
          obtain ⟨a2, c2, hv_y2⟩ := own_form i2
          subst hv_y2
          have q175_kT0 := kT.cell 0 rfl
          have q176_kT1 := kT.cell 1 rfl
          have q177_kW0 := kW.cell 0 rfl
          have q178_kW1 := kW.cell 1 rfl
          have hb6 : Below w5.heap.size w5 (w5.alloc (.cells #[.int .i64 rc, .slice a2 (ws).length c2] 25)) := (Below.refl _ _).alloc (Nat.le_refl _) _
          have hs6 := hb6.size
          replace it := it.below hb6
          replace i1 := i1.below hb6
          replace i2 := i2.below hb6
          replace kT := kT.below hb6
          replace kW := kW.below hb6
          replace hL := hL.below hb6
          replace HB := below_step HB hb6 HB.size
          have kX := Blk.new w5 #[.int .i64 rc, .slice a2 (ws).length c2] 25
          have hl6 := kX.lt
          clear hb6
          have q179_kT0 := kT.cell 0 rfl
          have q180_kT1 := kT.cell 1 rfl
          have q181_kW0 := kW.cell 0 rfl
          have q182_kW1 := kW.cell 1 rfl
          have q183_kX0 := kX.cell 0 rfl
          have q184_kX1 := kX.cell 1 rfl
          as_aux_lemma =>
           go_wp2_with fail
           generalize w5.alloc (.cells #[.int .i64 rc, .slice a2 (ws).length c2] 25) = w6 at *
           generalize w5.heap.size = B6 at *
           clear q175_kT0 q176_kT1 q177_kW0 q178_kW1 q179_kT0 q180_kT1 q181_kW0 q182_kW1 q183_kX0 q184_kX1
           refine (sameTxn_any rc rc _ _ (ws) (ws) _ i2.ints i1.ints true (by simp)).mono ?_
           rintro e w7 ⟨rfl, hb7⟩
           have hs7 := hb7.size
           replace it := it.below hb7
           replace i1 := i1.below hb7
           replace i2 := i2.below hb7
           replace kT := kT.below hb7
           replace kW := kW.below hb7
           replace kX := kX.below hb7
           replace hL := hL.below hb7
           replace HB := below_step HB hb7 HB.size
           clear hb7
           have q185_kT0 := kT.cell 0 rfl
           have q186_kT1 := kT.cell 1 rfl
           have q187_kW0 := kW.cell 0 rfl
           have q188_kW1 := kW.cell 1 rfl
           have q189_kX0 := kX.cell 0 rfl
           have q190_kX1 := kX.cell 1 rfl
           as_aux_lemma =>
            go_wp2_with fail
            clear q185_kT0 q186_kT1 q187_kW0 q188_kW1 q189_kX0 q190_kX1
            refine (specTxnValid_any rc _ ws _ it.ints true HV.out).mono ?_
            rintro e w8 ⟨rfl, hb8⟩
            have hs8 := hb8.size
            replace it := it.below hb8
            replace i1 := i1.below hb8
            replace i2 := i2.below hb8
            replace kT := kT.below hb8
            replace kW := kW.below hb8
            replace kX := kX.below hb8
            replace hL := hL.below hb8
            replace HB := below_step HB hb8 HB.size
            clear hb8
            obtain ⟨ax, cx, hvx, hnx, hcx⟩ := it.ints.open
            cases hvx
            obtain ⟨p, hi', hkc⟩ := hcx r.toNat (by omega)
            have hix := hi' r (by omega)
            clear hi' hcx
            have q191_kT0 := kT.cell 0 rfl
            have q192_kT1 := kT.cell 1 rfl
            have q193_kW0 := kW.cell 0 rfl
            have q194_kW1 := kW.cell 1 rfl
            have q195_kX0 := kX.cell 0 rfl
            have q196_kX1 := kX.cell 1 rfl
            as_aux_lemma =>
             go_wp2_with fail
             clear q191_kT0 q192_kT1 q193_kW0 q194_kW1 q195_kX0 q196_kX1
             refine (sameTxn_any rc rc _ _ ws ws _ i2.ints it.ints true (by simp)).mono ?_
             rintro e w9 ⟨rfl, hb9⟩
             have hs9 := hb9.size
             replace it := it.below hb9
             replace i1 := i1.below hb9
             replace i2 := i2.below hb9
             replace kT := kT.below hb9
             replace kW := kW.below hb9
             replace kX := kX.below hb9
             replace hL := hL.below hb9
             replace HB := below_step HB hb9 HB.size
             clear hb9
             have q197_kT0 := kT.cell 0 rfl
             have q198_kT1 := kT.cell 1 rfl
             have q199_kW0 := kW.cell 0 rfl
             have q200_kW1 := kW.cell 1 rfl
             have q201_kX0 := kX.cell 0 rfl
             have q202_kX1 := kX.cell 1 rfl
             as_aux_lemma =>
              go_wp2_with fail
              go_ret
              exact ⟨rfl, HB⟩
       · skip
         have HR := Lib.hid (show writeR rc ws r = (rc, ws, false) by rw [hR]; simp [writeT, he])
         have hge : (2 : Int) ≤ rc := by rcases ended_or he with e | e <;> omega
         clear he
         have HRR := hR
         clear hR HRR hv
         clear q99_kT0 q100_kT1
         refine (opOf (specTxnWrite_any rc (.slice at0 ws.length ct0) ws r _ it.ints) HR.out).mono ?_
         rintro e w3 ⟨y1, rfl, i1, hb3⟩
         have hs3 := hb3.size
         replace it := it.below hb3
         replace kT := kT.below hb3
         replace hL := hL.below hb3
         replace HB := below_step HB hb3 HB.size
         clear hb3
         obtain ⟨a1, c1, hv_y1⟩ := own_form i1
         subst hv_y1
         have q203_kT0 := kT.cell 0 rfl
         have q204_kT1 := kT.cell 1 rfl
         have hb4 : Below w3.heap.size w3 (w3.alloc (.cells #[.int .i64 rc, .slice a1 (ws).length c1] 25)) := (Below.refl _ _).alloc (Nat.le_refl _) _
         have hs4 := hb4.size
         replace it := it.below hb4
         replace i1 := i1.below hb4
         replace kT := kT.below hb4
         replace hL := hL.below hb4
         replace HB := below_step HB hb4 HB.size
         have kW := Blk.new w3 #[.int .i64 rc, .slice a1 (ws).length c1] 25
         have hl4 := kW.lt
         clear hb4
         have q205_kT0 := kT.cell 0 rfl
         have q206_kT1 := kT.cell 1 rfl
         have q207_kW0 := kW.cell 0 rfl
         have q208_kW1 := kW.cell 1 rfl
         as_aux_lemma =>
          go_wp2_with fail
          generalize w3.alloc (.cells #[.int .i64 rc, .slice a1 (ws).length c1] 25) = w4 at *
          generalize w3.heap.size = B4 at *
          clear q203_kT0 q204_kT1 q205_kT0 q206_kT1 q207_kW0 q208_kW1
          refine (opOf (implTxnWrite_any rc (.slice at0 ws.length ct0) ws r _ it.ints hL) HR.out).mono ?_
          rintro e w5 ⟨y2, rfl, i2, hb5⟩
          have hs5 := hb5.size
          replace it := it.below hb5
          replace i1 := i1.below hb5
          replace kT := kT.below hb5
          replace kW := kW.below hb5
          replace hL := hL.below hb5
          replace HB := below_step HB hb5 HB.size
          clear hb5
          obtain ⟨a2, c2, hv_y2⟩ := own_form i2
          subst hv_y2
          have q209_kT0 := kT.cell 0 rfl
          have q210_kT1 := kT.cell 1 rfl
          have q211_kW0 := kW.cell 0 rfl
          have q212_kW1 := kW.cell 1 rfl
          have hb6 : Below w5.heap.size w5 (w5.alloc (.cells #[.int .i64 rc, .slice a2 (ws).length c2] 25)) := (Below.refl _ _).alloc (Nat.le_refl _) _
          have hs6 := hb6.size
          replace it := it.below hb6
          replace i1 := i1.below hb6
          replace i2 := i2.below hb6
          replace kT := kT.below hb6
          replace kW := kW.below hb6
          replace hL := hL.below hb6
          replace HB := below_step HB hb6 HB.size
          have kX := Blk.new w5 #[.int .i64 rc, .slice a2 (ws).length c2] 25
          have hl6 := kX.lt
          clear hb6
          have q213_kT0 := kT.cell 0 rfl
          have q214_kT1 := kT.cell 1 rfl
          have q215_kW0 := kW.cell 0 rfl
          have q216_kW1 := kW.cell 1 rfl
          have q217_kX0 := kX.cell 0 rfl
          have q218_kX1 := kX.cell 1 rfl
          as_aux_lemma =>
           go_wp2_with fail
           generalize w5.alloc (.cells #[.int .i64 rc, .slice a2 (ws).length c2] 25) = w6 at *
           generalize w5.heap.size = B6 at *
           clear q209_kT0 q210_kT1 q211_kW0 q212_kW1 q213_kT0 q214_kT1 q215_kW0 q216_kW1 q217_kX0 q218_kX1
           refine (sameTxn_any rc rc _ _ (ws) (ws) _ i2.ints i1.ints true (by simp)).mono ?_
           rintro e w7 ⟨rfl, hb7⟩
           have hs7 := hb7.size
           replace it := it.below hb7
           replace i1 := i1.below hb7
           replace i2 := i2.below hb7
           replace kT := kT.below hb7
           replace kW := kW.below hb7
           replace kX := kX.below hb7
           replace hL := hL.below hb7
           replace HB := below_step HB hb7 HB.size
           clear hb7
           have q219_kT0 := kT.cell 0 rfl
           have q220_kT1 := kT.cell 1 rfl
           have q221_kW0 := kW.cell 0 rfl
           have q222_kW1 := kW.cell 1 rfl
           have q223_kX0 := kX.cell 0 rfl
           have q224_kX1 := kX.cell 1 rfl
           as_aux_lemma =>
            go_wp2_with fail
            clear q219_kT0 q220_kT1 q221_kW0 q222_kW1 q223_kX0 q224_kX1
            refine (specTxnValid_any rc _ ws _ it.ints true HV.out).mono ?_
            rintro e w8 ⟨rfl, hb8⟩
            have hs8 := hb8.size
            replace it := it.below hb8
            replace i1 := i1.below hb8
            replace i2 := i2.below hb8
            replace kT := kT.below hb8
            replace kW := kW.below hb8
            replace kX := kX.below hb8
            replace hL := hL.below hb8
            replace HB := below_step HB hb8 HB.size
            clear hb8
            obtain ⟨ax, cx, hvx, hnx, hcx⟩ := it.ints.open
            cases hvx
            obtain ⟨p, hi', hkc⟩ := hcx r.toNat (by omega)
            have hix := hi' r (by omega)
            clear hi' hcx
            have q225_kT0 := kT.cell 0 rfl
            have q226_kT1 := kT.cell 1 rfl
            have q227_kW0 := kW.cell 0 rfl
            have q228_kW1 := kW.cell 1 rfl
            have q229_kX0 := kX.cell 0 rfl
            have q230_kX1 := kX.cell 1 rfl
            as_aux_lemma =>
             go_wp2_with fail
             clear q225_kT0 q226_kT1 q227_kW0 q228_kW1 q229_kX0 q230_kX1
             refine (sameTxn_any rc rc _ _ ws ws _ i2.ints it.ints true (by simp)).mono ?_
             rintro e w9 ⟨rfl, hb9⟩
             have hs9 := hb9.size
             replace it := it.below hb9
             replace i1 := i1.below hb9
             replace i2 := i2.below hb9
             replace kT := kT.below hb9
             replace kW := kW.below hb9
             replace kX := kX.below hb9
             replace hL := hL.below hb9
             replace HB := below_step HB hb9 HB.size
             clear hb9
             have q231_kT0 := kT.cell 0 rfl
             have q232_kT1 := kT.cell 1 rfl
             have q233_kW0 := kW.cell 0 rfl
             have q234_kW1 := kW.cell 1 rfl
             have q235_kX0 := kX.cell 0 rfl
             have q236_kX1 := kX.cell 1 rfl
             as_aux_lemma =>
              go_wp2_with fail
              go_ret
              exact ⟨rfl, HB⟩
       · skip
         have hWA := write_again hv he hr0 hr1
         have HR := Lib.hid (show writeR rc ws r = (rc, ws.set r.toNat 1, true) by rw [hR]; simp [writeT, he, h0])
         have hyl : (ws.set r.toNat 1).length = ws.length := List.length_set
         have hyr : nth (ws.set r.toNat 1) r.toNat = 1 := by rw [nth_set, if_pos ⟨rfl, by omega⟩]
         have hyo : ∀ j, j ≠ r.toNat → nth (ws.set r.toNat 1) j = nth ws j := fun j hj => by rw [nth_set, if_neg (by omega)]
         generalize ws.set r.toNat 1 = ys at *
         have HWA := Lib.hid hWA.1
         have HYV := Lib.hid hWA.2
         have HYL := Lib.hid hyl
         have HYR := Lib.hid hyr
         have HYO := Lib.hid hyo
         have hyl4 : ys.length ≤ 4 := by omega
         clear hWA hyl hyr hyo hR hv he
         clear q99_kT0 q100_kT1
         refine (opOf (specTxnWrite_any rc (.slice at0 ws.length ct0) ws r _ it.ints) HR.out).mono ?_
         rintro e w3 ⟨y1, rfl, i1, hb3⟩
         have hs3 := hb3.size
         replace it := it.below hb3
         replace kT := kT.below hb3
         replace hL := hL.below hb3
         replace HB := below_step HB hb3 HB.size
         clear hb3
         obtain ⟨a1, c1, hv_y1⟩ := own_form i1
         subst hv_y1
         have q237_kT0 := kT.cell 0 rfl
         have q238_kT1 := kT.cell 1 rfl
         have hb4 : Below w3.heap.size w3 (w3.alloc (.cells #[.int .i64 rc, .slice a1 (ys).length c1] 25)) := (Below.refl _ _).alloc (Nat.le_refl _) _
         have hs4 := hb4.size
         replace it := it.below hb4
         replace i1 := i1.below hb4
         replace kT := kT.below hb4
         replace hL := hL.below hb4
         replace HB := below_step HB hb4 HB.size
         have kW := Blk.new w3 #[.int .i64 rc, .slice a1 (ys).length c1] 25
         have hl4 := kW.lt
         clear hb4
         have q239_kT0 := kT.cell 0 rfl
         have q240_kT1 := kT.cell 1 rfl
         have q241_kW0 := kW.cell 0 rfl
         have q242_kW1 := kW.cell 1 rfl
         as_aux_lemma =>
          go_wp2_with fail
          generalize w3.alloc (.cells #[.int .i64 rc, .slice a1 (ys).length c1] 25) = w4 at *
          generalize w3.heap.size = B4 at *
          clear q237_kT0 q238_kT1 q239_kT0 q240_kT1 q241_kW0 q242_kW1
          refine (opOf (implTxnWrite_any rc (.slice at0 ws.length ct0) ws r _ it.ints hL) HR.out).mono ?_
          rintro e w5 ⟨y2, rfl, i2, hb5⟩
          have hs5 := hb5.size
          replace it := it.below hb5
          replace i1 := i1.below hb5
          replace kT := kT.below hb5
          replace kW := kW.below hb5
          replace hL := hL.below hb5
          replace HB := below_step HB hb5 HB.size
          clear hb5
          obtain ⟨a2, c2, hv_y2⟩ := own_form i2
          subst hv_y2
          have q243_kT0 := kT.cell 0 rfl
          have q244_kT1 := kT.cell 1 rfl
          have q245_kW0 := kW.cell 0 rfl
          have q246_kW1 := kW.cell 1 rfl
          have hb6 : Below w5.heap.size w5 (w5.alloc (.cells #[.int .i64 rc, .slice a2 (ys).length c2] 25)) := (Below.refl _ _).alloc (Nat.le_refl _) _
          have hs6 := hb6.size
          replace it := it.below hb6
          replace i1 := i1.below hb6
          replace i2 := i2.below hb6
          replace kT := kT.below hb6
          replace kW := kW.below hb6
          replace hL := hL.below hb6
          replace HB := below_step HB hb6 HB.size
          have kX := Blk.new w5 #[.int .i64 rc, .slice a2 (ys).length c2] 25
          have hl6 := kX.lt
          clear hb6
          have q247_kT0 := kT.cell 0 rfl
          have q248_kT1 := kT.cell 1 rfl
          have q249_kW0 := kW.cell 0 rfl
          have q250_kW1 := kW.cell 1 rfl
          have q251_kX0 := kX.cell 0 rfl
          have q252_kX1 := kX.cell 1 rfl
          as_aux_lemma =>
           go_wp2_with fail
           generalize w5.alloc (.cells #[.int .i64 rc, .slice a2 (ys).length c2] 25) = w6 at *
           generalize w5.heap.size = B6 at *
           clear q243_kT0 q244_kT1 q245_kW0 q246_kW1 q247_kT0 q248_kT1 q249_kW0 q250_kW1 q251_kX0 q252_kX1
           refine (sameTxn_any rc rc _ _ (ys) (ys) _ i2.ints i1.ints true (by simp)).mono ?_
           rintro e w7 ⟨rfl, hb7⟩
           have hs7 := hb7.size
           replace it := it.below hb7
           replace i1 := i1.below hb7
           replace i2 := i2.below hb7
           replace kT := kT.below hb7
           replace kW := kW.below hb7
           replace kX := kX.below hb7
           replace hL := hL.below hb7
           replace HB := below_step HB hb7 HB.size
           clear hb7
           have q253_kT0 := kT.cell 0 rfl
           have q254_kT1 := kT.cell 1 rfl
           have q255_kW0 := kW.cell 0 rfl
           have q256_kW1 := kW.cell 1 rfl
           have q257_kX0 := kX.cell 0 rfl
           have q258_kX1 := kX.cell 1 rfl
           as_aux_lemma =>
            go_wp2_with fail
            clear q253_kT0 q254_kT1 q255_kW0 q256_kW1 q257_kX0 q258_kX1
            refine (specTxnValid_any rc _ ws _ it.ints true HV.out).mono ?_
            rintro e w8 ⟨rfl, hb8⟩
            have hs8 := hb8.size
            replace it := it.below hb8
            replace i1 := i1.below hb8
            replace i2 := i2.below hb8
            replace kT := kT.below hb8
            replace kW := kW.below hb8
            replace kX := kX.below hb8
            replace hL := hL.below hb8
            replace HB := below_step HB hb8 HB.size
            clear hb8
            have q259_kT0 := kT.cell 0 rfl
            have q260_kT1 := kT.cell 1 rfl
            have q261_kW0 := kW.cell 0 rfl
            have q262_kW1 := kW.cell 1 rfl
            have q263_kX0 := kX.cell 0 rfl
            have q264_kX1 := kX.cell 1 rfl
            obtain ⟨ax, cx, hvx, hnx, hcx⟩ := it.ints.open
            cases hvx
            have HCT := Lib.hid hcx; clear hcx
            obtain ⟨ay, cy, hvy, hny, hcy⟩ := i2.ints.open
            cases hvy
            have HCY := Lib.hid hcy; clear hcy
            as_aux_lemma =>
             go_wp2_with fail
             go_loopw [9] (fun i wr => ∃ k : Nat, k ≤ ws.length ∧ i = .int .i64 k ∧ ∃ n, wr = w8.drewN n) (fun i _ => ws.length - (intOf i).toNat)
             case atStart => exact ⟨0, Nat.zero_le _, rfl, 0, rfl⟩
             case round =>
               obtain ⟨k, hk, rfl, hw⟩ := hrel
               have HW := Lib.hid hw
               have hbw := drawn_below hw
               clear hw
               have kTr := kT.below hbw
               have kXr := kX.below hbw
               have t0 := kTr.cell 0 rfl
               have t1 := kTr.cell 1 rfl
               have x0 := kXr.cell 0 rfl
               have x1 := kXr.cell 1 rfl
               by_cases hlt : k < ws.length
               · obtain ⟨p, hi', hkc0⟩ := HCT.out k hlt
                 obtain ⟨q, hj', hkd0⟩ := HCY.out k (by rw [HYL.out]; exact hlt)
                 have hix := hi' k rfl
                 have hiy := hj' k rfl
                 have hkc := below_cell hbw hkc0
                 have hkd := below_cell hbw hkd0
                 clear hi' hj' hkc0 hkd0
                 by_cases hkr : (k : Int) = r
                 · have hb1 : ((k : Int) == r) = true := beq_iff_eq.2 hkr
                   have hb2' : ((k : Int) != r) = false := by rw [bne, hb1]; rfl
                   have e1 : nth ys k = 1 := by have := HYR.out; rw [← hkr, Int.toNat_natCast] at this; exact this
                   rw [e1] at hkd
                   clear e1 hkr hbw
                   go_wp2_with fail
                   go_quiet (fail)
                   go_wp2_with fail
                   go_roundw
                   case rel => exact ⟨k + 1, by omega, by go_num, drawn_more HW.out _⟩
                   case measure => simp [intOf]; omega
                 · have hb1 : ((k : Int) == r) = false := beq_eq_false_iff_ne.2 hkr
                   have hb2' : ((k : Int) != r) = true := by rw [bne, hb1]; rfl
                   have e1 : nth ys k = nth ws k := HYO.out k (by omega)
                   rw [e1] at hkd
                   have e2 : (nth ws k != nth ws k) = false := by simp
                   clear e1 hkr hbw
                   go_wp2_with fail
                   go_quiet (fail)
                   go_wp2_with fail
                   go_roundw
                   case rel => exact ⟨k + 1, by omega, by go_num, drawn_more HW.out _⟩
                   case measure => simp [intOf]; omega
               · have i2r := i2.below hbw
                 have hLr := hL.below hbw
                 have hBr := below_step HB hbw HB.size
                 have hsz := hbw.size
                 clear hbw
                 go_wp2_with fail
                 refine (opOf (implTxnWrite_any rc _ ys r _ (IntsO.ints i2r) hLr) HWA.out).mono ?_
                 rintro e w2' ⟨y, rfl, iy, hb2⟩
                 obtain ⟨a9, c9, hv9⟩ := own_form iy
                 subst hv9
                 have hb3 : Below w2'.heap.size w2' (w2'.alloc (.cells #[.int .i64 rc, .slice a9 ys.length c9] 25)) := (Below.refl _ _).alloc (Nat.le_refl _) _
                 have hb23 := below_step hb2 hb3 hb2.size
                 have hBe := below_step hBr hb23 hBr.size
                 have kTe := kTr.below hb23
                 have kXe := kXr.below hb23
                 have t0' := (kTr.below hb2).cell 0 rfl
                 have t1' := (kTr.below hb2).cell 1 rfl
                 have x0' := (kXr.below hb2).cell 0 rfl
                 have x1' := (kXr.below hb2).cell 1 rfl
                 have t0e := kTe.cell 0 rfl
                 have t1e := kTe.cell 1 rfl
                 have x0e := kXe.cell 0 rfl
                 have x1e := kXe.cell 1 rfl
                 have i2e := IntsO.below i2r hb23
                 have hrc : (rc == rc) = true := by simp
                 clear hb2 hb3 hb23 t0 t1 x0 x1 iy i2r hLr
                 as_aux_lemma =>
                  go_wp2_with fail
                  refine (implTxnValid_any rc _ ys _ (IntsO.ints i2e) true HYV.out).mono ?_
                  rintro e w3' ⟨rfl, hb4⟩
                  go_wp2_with fail
                  go_ret
                  exact ⟨rfl, below_step hBe hb4 hBe.size⟩

/-! ### THE ROW's STEP -/
set_option maxRecDepth 100000 in
theorem lifted (os : Os) (started : os.Started) (H : Type) (enc : TypeId × Value → H) :
    ReturnsInHanded {} Tryd.checked os 4 .any (fun w args => (Rows.fnTxnWriteSpec.pre enc Tryd.prog Tryd.f4 [] false w args ∧ laidMetH Tryd.prog laidL w) ∧ sizedMet enc Tryd.prog Tryd.f4 (OpenSpec.ofChange Rows.fnTxnWriteSpec) false w args)
      (Rows.fnTxnWriteSpec.post enc Tryd.prog Tryd.f4 false true false false) := by
  refine returnsInHanded_of_change_and (C := Tryd.checked) (X := fun w _ => laidMetH Tryd.prog laidL w) (fun _ _ _ hh h => h.of_heap hh) own started (by kernel_rfl) Tryd.func4
    (ChangeSpec.witness_at (enc := enc) (C := Tryd.checked) (os := os) (X := fun w _ => laidMetH Tryd.prog laidL w) false (laidWorld os) #[.slice none 0 0] 8 rfl (by kernel_rfl) (by kernel_rfl) (by kernel_rfl) (by kernel_rfl) (by kernel_rfl) (laidWorld_met os _)) ?_
  intro W base args ds gs before hval0 hW _ _ hL _
  have hval : ∀ (j : Nat) t v, Tryd.f4.params[j]? = some t → args[j]? = some v → Value.okWide Tryd.prog W .any base t v := hval0
  have hW' := hW
  obtain ⟨p, q, hA0, hV, rfl, hfz, hnd⟩ := hW
  have hA : DataW.TrodAll enc Tryd.prog W 0 (fun _ => true) true Tryd.f4.params.toList args.toList ds p := hA0
  rw [Tryd.params4] at hA hval
  obtain ⟨v0, vs0, d0, ds0, p0, q0, hargs, rfl, rfl, h0, r0⟩ := trodAll_cons hA
  obtain ⟨rfl, rfl, rfl⟩ := trodAll_nil r0
  obtain rfl : args = #[v0] := by cases args; simp_all
  obtain ⟨rfl, rfl⟩ := trodVars_none hV
  obtain ⟨n0, b0⟩ := bytes_in (hval 0 _ v0 rfl rfl) h0
  have lt0 := lt_in h0
  clear hA0 hval0
  refine (walk_at W v0 n0 b0 (laid_of hL)).mono fun e W' ⟨he, bel⟩ => ?_
  subst he
  exact ⟨_, rfl, _, _, _, [], _, [], hW', trodAll_mk1 (shut_bool Tryd.underlying4 _), (trodAll_cons_mk (Below.trod laidOut (by kernel_rfl) (of_decide_eq_true (by kernel_rfl)) h0 bel lt0) trodAll_mk0), rfl, bel.frame _, fun h => by cases h⟩

set_option maxRecDepth 100000 in
theorem closed : joinedFacts Tryd.prog 4 Tryd.f4 Rows.fnTxnWriteSpec Rows.fnTxnWriteRow = true := by
  unfold joinedFacts
  rw [may, lifts, mk]
  kernel_rfl
theorem over : Rows.fnTxnWriteRow.holds Tryd.pinned (OpenSpec.ofChange Rows.fnTxnWriteSpec) :=
  OpenClaim.holds_of_wide 4 Tryd.f4 rfl rfl rfl rfl rfl rfl rfl ⟨rfl, rfl, rfl, rfl, rfl⟩ rfl rfl rfl rfl rfl (by as_aux_lemma => kernel_rfl) Tryd.func4 closed
    (of_decide_eq_true (by as_aux_lemma => kernel_rfl)) (by unfold Func.isWrapper; rw [if_neg (of_decide_eq_false (by as_aux_lemma => kernel_rfl))]; exact ⟨rfl, rfl⟩)
    (fun os started H enc _ => lifted os started H enc)

/-- THE STATEMENT: the tied card -/
theorem proved : Rows.FnTxnWriteCardSaid :=
  Claim7.holds_tied_plain_at .later [] [.handle] true Rows.fnTxnWriteCard.stood.harness true
    over (fun _ h => by cases h) (by kernel_rfl) (fun _ h => by cases h) fnTxnWrite_row_tie rfl ⟨rfl, rfl⟩ (by kernel_rfl) rfl
    (fun f fn hf hfn => by
      obtain rfl : f = 4 := Option.some.inj ((show Tryd.prog.funcNamed "loop.example/flexquorum/laws.FnTxnWrite" = some 4 by kernel_rfl).symm.trans hf) |>.symm
      obtain rfl : fn = Tryd.f4 := (Option.some.inj (Tryd.func4.symm.trans hfn)).symm
      exact ⟨by kernel_rfl, fun j t ht => by
        rw [Tryd.params4] at ht
        have hm := Array.mem_of_getElem? ht
        simp only [List.mem_toArray, List.mem_cons, List.not_mem_nil, or_false] at hm
        (subst hm; exact (show Tryd.prog.wantsStandIn 22 = false by kernel_rfl))⟩)
    (by kernel_rfl)
end Go.Proofs.YtocinffmdciihaaDoor.fnTxnWrite
