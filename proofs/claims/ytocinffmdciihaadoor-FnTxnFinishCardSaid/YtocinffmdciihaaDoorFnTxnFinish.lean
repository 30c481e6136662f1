/-
  For every input the law FnTxnFinish returns true, and what it was given reads afterwards as before. No condition beyond the row's own.
-/
import Derived.Test.YtocinffmdciihaaDoorFrameD
import Derived.Test.YtocinffmdciihaaDoorFrameT
import Derived.Test.YtocinffmdciihaaDoorTie
import Derived.Test.YtocinffmdciihaaDoorCards
import Derived.Test.YtocinffmdciihaaDoorTxnI
import Derived.Test.YtocinffmdciihaaDoorTxnJ
import Derived.Test.YtocinffmdciihaaDoorTxnK
import Derived.Test.YtocinffmdciihaaDoorTxnQD
import Derived.SevenTiedAt
import Derived.Deep.DeepCutAuto
import Derived.Deep.QuietTactic
import Derived.Deep.RegionHeld3
import Derived.BigQuiet
namespace Go.Proofs.YtocinffmdciihaaDoor.fnTxnFinish
open Go.ChangeShapes Go.WideShapes Go.ChangeAt Go.RowKit
open Go.ChangeMaps (open_string shut_string)
set_option linter.unusedVariables false
theorem full_take {ws : List Int} {k : Nat} {b : Bool} (hk : k < ws.length) (hb : fullW (ws.take k) = b) : fullW (ws.take (k + 1)) = (b && (nth ws k == 1)) := by
  rw [take_snoc hk, ← hb]
  unfold fullW
  rw [List.all_append]
  simp
theorem txnOk_two {rc : Int} {ws : List Int} (h : txnOk rc ws = true) : txnOk 2 ws = fullW ws := by
  obtain ⟨g0, g1, g2, g3, g4, g5⟩ := txnOk_parts h
  unfold txnOk lenW
  rw [inB_mk (n := (2 : Int)) (by omega) (by omega), inB_mk (n := (ws.length : Int)) (by omega) (by omega), g4]
  simp

set_option maxRecDepth 100000 in
set_option maxHeartbeats 8000000 in
theorem walk_at (w : World) (v0 : Value) (n0 : Nat) (b0 : Bytes w 0 w.heap.size v0 n0) (hL : Laid w) :
    Calls Tryd.prog 5 #[v0] w fun e w' => e = .returned (.bool true) ∧ Below w.heap.size w w' := by
  obtain ⟨a0, c0, hv0, hn0, hx0⟩ := b0.open
  clear hx0
  subst hv0
  by_cases big0 : n0 ≤ 1048576
  case neg =>
    go_enter Tryd.func5, Tryd.ntmps5
    go_wp2_with fail
    go_ret
    exact ⟨rfl, Below.refl _ _⟩
  go_enter Tryd.func5, Tryd.ntmps5
  go_wp2_with fail
  have HB : Below w.heap.size w w := Below.refl _ _
  refine (DrawTxnFinish_any _ n0 _ b0).mono ?_
  rintro e w1 ⟨rc, ws, tv, rfl, rr0, rr1, l0, l1, rng, it, hb1⟩
  have hs1 := hb1.size
  replace hL := hL.below hb1
  replace HB := below_step HB hb1 HB.size
  clear hb1
  obtain ⟨at0, ct0, hv_tv⟩ := own_form it
  subst hv_tv
  have hb2 : Below w1.heap.size w1 (w1.alloc (.cells #[.int .i64 rc, .slice at0 ws.length ct0] 25)) := (Below.refl _ _).alloc (Nat.le_refl _) _
  have hs2 := hb2.size
  replace it := it.below hb2
  replace hL := hL.below hb2
  replace HB := below_step HB hb2 HB.size
  have kT := Blk.new w1 #[.int .i64 rc, .slice at0 ws.length ct0] 25
  have hl2 := kT.lt
  clear hb2
  have q337_kT0 := kT.cell 0 rfl
  have q338_kT1 := kT.cell 1 rfl
  as_aux_lemma =>
   go_wp2_with fail
   generalize w1.alloc (.cells #[.int .i64 rc, .slice at0 ws.length ct0] 25) = w2 at *
   generalize w1.heap.size = B2 at *
   cases hv : txnOk rc ws
   case false =>
     have HV := Lib.hid hv
     have HR := Lib.hid (show finishR rc ws = (0, [], false) by unfold finishR; rw [hv]; rfl)
     clear hv
     clear q337_kT0 q338_kT1
     refine (opOf (specTxnFinish_any rc (.slice at0 ws.length ct0) ws _ it.ints) HR.out).mono ?_
     rintro e w3 ⟨y1, rfl, i1, hb3⟩
     have hs3 := hb3.size
     replace it := it.below hb3
     replace kT := kT.below hb3
     replace hL := hL.below hb3
     replace HB := below_step HB hb3 HB.size
     clear hb3
     obtain ⟨a1, c1, hv_y1⟩ := own_form i1
     subst hv_y1
     change IntsO _ _ _ (.slice a1 0 c1) ([] : List Int) at i1
     have q339_kT0 := kT.cell 0 rfl
     have q340_kT1 := kT.cell 1 rfl
     have hb4 : Below w3.heap.size w3 (w3.alloc (.cells #[.int .i64 0, .slice a1 0 c1] 25)) := (Below.refl _ _).alloc (Nat.le_refl _) _
     have hs4 := hb4.size
     replace it := it.below hb4
     replace i1 := i1.below hb4
     replace kT := kT.below hb4
     replace hL := hL.below hb4
     replace HB := below_step HB hb4 HB.size
     have kW := Blk.new w3 #[.int .i64 0, .slice a1 0 c1] 25
     have hl4 := kW.lt
     clear hb4
     have q341_kT0 := kT.cell 0 rfl
     have q342_kT1 := kT.cell 1 rfl
     have q343_kW0 := kW.cell 0 rfl
     have q344_kW1 := kW.cell 1 rfl
     as_aux_lemma =>
      go_wp2_with fail
      generalize w3.alloc (.cells #[.int .i64 0, .slice a1 0 c1] 25) = w4 at *
      generalize w3.heap.size = B4 at *
      clear q339_kT0 q340_kT1 q341_kT0 q342_kT1 q343_kW0 q344_kW1
      refine (opOf (implTxnFinish_any rc (.slice at0 ws.length ct0) ws _ it.ints hL) HR.out).mono ?_
      rintro e w5 ⟨y2, rfl, i2, hb5⟩
      have hs5 := hb5.size
      replace it := it.below hb5
      replace i1 := i1.below hb5
      replace kT := kT.below hb5
      replace kW := kW.below hb5
      replace hL := hL.below hb5
      replace HB := below_step HB hb5 HB.size
      clear hb5
      obtain ⟨a2, c2, hv_y2⟩ := own_form i2
      subst hv_y2
      change IntsO _ _ _ (.slice a2 0 c2) ([] : List Int) at i2
      have q345_kT0 := kT.cell 0 rfl
      have q346_kT1 := kT.cell 1 rfl
      have q347_kW0 := kW.cell 0 rfl
      have q348_kW1 := kW.cell 1 rfl
      have hb6 : Below w5.heap.size w5 (w5.alloc (.cells #[.int .i64 0, .slice a2 0 c2] 25)) := (Below.refl _ _).alloc (Nat.le_refl _) _
      have hs6 := hb6.size
      replace it := it.below hb6
      replace i1 := i1.below hb6
      replace i2 := i2.below hb6
      replace kT := kT.below hb6
      replace kW := kW.below hb6
      replace hL := hL.below hb6
      replace HB := below_step HB hb6 HB.size
      have kX := Blk.new w5 #[.int .i64 0, .slice a2 0 c2] 25
      have hl6 := kX.lt
      clear hb6
      have q349_kT0 := kT.cell 0 rfl
      have q350_kT1 := kT.cell 1 rfl
      have q351_kW0 := kW.cell 0 rfl
      have q352_kW1 := kW.cell 1 rfl
      have q353_kX0 := kX.cell 0 rfl
      have q354_kX1 := kX.cell 1 rfl
      as_aux_lemma =>
       go_wp2_with fail
       generalize w5.alloc (.cells #[.int .i64 0, .slice a2 0 c2] 25) = w6 at *
       generalize w5.heap.size = B6 at *
       clear q345_kT0 q346_kT1 q347_kW0 q348_kW1 q349_kT0 q350_kT1 q351_kW0 q352_kW1 q353_kX0 q354_kX1
       refine (sameTxn_any 0 0 _ _ (([] : List Int)) (([] : List Int)) _ i2.ints i1.ints true (by simp)).mono ?_
       rintro e w7 ⟨rfl, hb7⟩
       have hs7 := hb7.size
       replace it := it.below hb7
       replace i1 := i1.below hb7
       replace i2 := i2.below hb7
       replace kT := kT.below hb7
       replace kW := kW.below hb7
       replace kX := kX.below hb7
       replace hL := hL.below hb7
       replace HB := below_step HB hb7 HB.size
       clear hb7
       have q355_kT0 := kT.cell 0 rfl
       have q356_kT1 := kT.cell 1 rfl
       have q357_kW0 := kW.cell 0 rfl
       have q358_kW1 := kW.cell 1 rfl
       have q359_kX0 := kX.cell 0 rfl
       have q360_kX1 := kX.cell 1 rfl
       as_aux_lemma =>
        go_wp2_with fail
        clear q355_kT0 q356_kT1 q357_kW0 q358_kW1 q359_kX0 q360_kX1
        refine (specTxnValid_any rc _ ws _ it.ints false HV.out).mono ?_
        rintro e w8 ⟨rfl, hb8⟩
        have hs8 := hb8.size
        replace it := it.below hb8
        replace i1 := i1.below hb8
        replace i2 := i2.below hb8
        replace kT := kT.below hb8
        replace kW := kW.below hb8
        replace kX := kX.below hb8
        replace hL := hL.below hb8
        replace HB := below_step HB hb8 HB.size
        clear hb8
        have q361_kT0 := kT.cell 0 rfl
        have q362_kT1 := kT.cell 1 rfl
        have q363_kW0 := kW.cell 0 rfl
        have q364_kW1 := kW.cell 1 rfl
        have q365_kX0 := kX.cell 0 rfl
        have q366_kX1 := kX.cell 1 rfl
        as_aux_lemma =>
         go_wp2_with fail
         clear q361_kT0 q362_kT1 q363_kW0 q364_kW1 q365_kX0 q366_kX1
         refine (sameTxn_any 0 0 _ _ [] [] _ i2.ints i1.ints true (by simp)).mono ?_
         rintro e w9 ⟨rfl, hb9⟩
         have hs9 := hb9.size
         replace it := it.below hb9
         replace i1 := i1.below hb9
         replace i2 := i2.below hb9
         replace kT := kT.below hb9
         replace kW := kW.below hb9
         replace kX := kX.below hb9
         replace hL := hL.below hb9
         replace HB := below_step HB hb9 HB.size
         clear hb9
         have q367_kT0 := kT.cell 0 rfl
         have q368_kT1 := kT.cell 1 rfl
         have q369_kW0 := kW.cell 0 rfl
         have q370_kW1 := kW.cell 1 rfl
         have q371_kX0 := kX.cell 0 rfl
         have q372_kX1 := kX.cell 1 rfl
         as_aux_lemma =>
          go_wp2_with fail
          go_ret
          exact ⟨rfl, HB⟩
   case true =>
     have hpp := txnOk_parts hv
     have HV := Lib.hid hv
     have h0r := hpp.1
     have h3r := hpp.2.1
     clear hpp
     cases hf : (rc == 1 && fullW ws)
     case true =>
       have HS2 := Lib.hid (show txnStat 2 ws = 2 by
         have h2 : txnOk 2 ws = true := by rw [txnOk_two hv]; simp at hf; exact hf.2
         unfold txnStat; rw [h2]; rfl)
       have HS1 := Lib.hid (show txnStat rc ws = 2 by unfold txnStat statOf; rw [hv, hf]; simp)
       have hr1 : (rc == 1) = true := by simp at hf; simp [hf.1]
       have HFU := Lib.hid (show fullW ws = true by simp at hf; exact hf.2)
       have HR := Lib.hid (show finishR rc ws = (2, ws, true) by unfold finishR finishT; rw [hv, hf]; rfl)
       clear q337_kT0 q338_kT1
       refine (opOf (specTxnFinish_any rc (.slice at0 ws.length ct0) ws _ it.ints) HR.out).mono ?_
       rintro e w3 ⟨y1, rfl, i1, hb3⟩
       have hs3 := hb3.size
       replace it := it.below hb3
       replace kT := kT.below hb3
       replace hL := hL.below hb3
       replace HB := below_step HB hb3 HB.size
       clear hb3
       obtain ⟨a1, c1, hv_y1⟩ := own_form i1
       subst hv_y1
       have q373_kT0 := kT.cell 0 rfl
       have q374_kT1 := kT.cell 1 rfl
       have hb4 : Below w3.heap.size w3 (w3.alloc (.cells #[.int .i64 2, .slice a1 (ws).length c1] 25)) := (Below.refl _ _).alloc (Nat.le_refl _) _
       have hs4 := hb4.size
       replace it := it.below hb4
       replace i1 := i1.below hb4
       replace kT := kT.below hb4
       replace hL := hL.below hb4
       replace HB := below_step HB hb4 HB.size
       have kW := Blk.new w3 #[.int .i64 2, .slice a1 (ws).length c1] 25
       have hl4 := kW.lt
       clear hb4
       have q375_kT0 := kT.cell 0 rfl
       have q376_kT1 := kT.cell 1 rfl
       have q377_kW0 := kW.cell 0 rfl
       have q378_kW1 := kW.cell 1 rfl
       as_aux_lemma =>
        go_wp2_with fail
        generalize w3.alloc (.cells #[.int .i64 2, .slice a1 (ws).length c1] 25) = w4 at *
        generalize w3.heap.size = B4 at *
        clear q373_kT0 q374_kT1 q375_kT0 q376_kT1 q377_kW0 q378_kW1
        refine (opOf (implTxnFinish_any rc (.slice at0 ws.length ct0) ws _ it.ints hL) HR.out).mono ?_
        rintro e w5 ⟨y2, rfl, i2, hb5⟩
        have hs5 := hb5.size
        replace it := it.below hb5
        replace i1 := i1.below hb5
        replace kT := kT.below hb5
        replace kW := kW.below hb5
        replace hL := hL.below hb5
        replace HB := below_step HB hb5 HB.size
        clear hb5
        obtain ⟨a2, c2, hv_y2⟩ := own_form i2
        subst hv_y2
        have q379_kT0 := kT.cell 0 rfl
        have q380_kT1 := kT.cell 1 rfl
        have q381_kW0 := kW.cell 0 rfl
        have q382_kW1 := kW.cell 1 rfl
        have hb6 : Below w5.heap.size w5 (w5.alloc (.cells #[.int .i64 2, .slice a2 (ws).length c2] 25)) := (Below.refl _ _).alloc (Nat.le_refl _) _
        have hs6 := hb6.size
        replace it := it.below hb6
        replace i1 := i1.below hb6
        replace i2 := i2.below hb6
        replace kT := kT.below hb6
        replace kW := kW.below hb6
        replace hL := hL.below hb6
        replace HB := below_step HB hb6 HB.size
        have kX := Blk.new w5 #[.int .i64 2, .slice a2 (ws).length c2] 25
        have hl6 := kX.lt
        clear hb6
        have q383_kT0 := kT.cell 0 rfl
        have q384_kT1 := kT.cell 1 rfl
        have q385_kW0 := kW.cell 0 rfl
        have q386_kW1 := kW.cell 1 rfl
        have q387_kX0 := kX.cell 0 rfl
        have q388_kX1 := kX.cell 1 rfl
        as_aux_lemma =>
         go_wp2_with fail
         generalize w5.alloc (.cells #[.int .i64 2, .slice a2 (ws).length c2] 25) = w6 at *
         generalize w5.heap.size = B6 at *
         clear q379_kT0 q380_kT1 q381_kW0 q382_kW1 q383_kT0 q384_kT1 q385_kW0 q386_kW1 q387_kX0 q388_kX1
         refine (sameTxn_any 2 2 _ _ (ws) (ws) _ i2.ints i1.ints true (by simp)).mono ?_
         rintro e w7 ⟨rfl, hb7⟩
         have hs7 := hb7.size
         replace it := it.below hb7
         replace i1 := i1.below hb7
         replace i2 := i2.below hb7
         replace kT := kT.below hb7
         replace kW := kW.below hb7
         replace kX := kX.below hb7
         replace hL := hL.below hb7
         replace HB := below_step HB hb7 HB.size
         clear hb7
         have q389_kT0 := kT.cell 0 rfl
         have q390_kT1 := kT.cell 1 rfl
         have q391_kW0 := kW.cell 0 rfl
         have q392_kW1 := kW.cell 1 rfl
         have q393_kX0 := kX.cell 0 rfl
         have q394_kX1 := kX.cell 1 rfl
         as_aux_lemma =>
          go_wp2_with fail
          clear q389_kT0 q390_kT1 q391_kW0 q392_kW1 q393_kX0 q394_kX1
          refine (specTxnValid_any rc _ ws _ it.ints true HV.out).mono ?_
          rintro e w8 ⟨rfl, hb8⟩
          have hs8 := hb8.size
          replace it := it.below hb8
          replace i1 := i1.below hb8
          replace i2 := i2.below hb8
          replace kT := kT.below hb8
          replace kW := kW.below hb8
          replace kX := kX.below hb8
          replace hL := hL.below hb8
          replace HB := below_step HB hb8 HB.size
          clear hb8
          have q395_kT0 := kT.cell 0 rfl
          have q396_kT1 := kT.cell 1 rfl
          have q397_kW0 := kW.cell 0 rfl
          have q398_kW1 := kW.cell 1 rfl
          have q399_kX0 := kX.cell 0 rfl
          have q400_kX1 := kX.cell 1 rfl
          as_aux_lemma =>
           go_wp2_with fail
           obtain ⟨ax, axc, hvax, hnax, hcax⟩ := it.ints.open
           cases hvax
           have HCax := Lib.hid hcax; clear hcax
           go_loop [8, 9] (fun al i => ∃ (k : Nat) (b : Bool), k ≤ ws.length ∧ i = .int .i64 k ∧ al = .bool b ∧ fullW (ws.take k) = b) (fun _ i => ws.length - (intOf i).toNat)
           case atStart => exact ⟨0, true, Nat.zero_le _, rfl, rfl, rfl⟩
           case round =>
            obtain ⟨k, b, hk, rfl, rfl, hb⟩ := hrel
            by_cases hlt : k < ws.length
            · obtain ⟨p, hi', hkc⟩ := HCax.out k hlt
              have hix := hi' k rfl
              have HS := Lib.hid (full_take hlt hb)
              clear hi' hb
              cases b
              all_goals
                go_wp2_with fail
                go_round
                case rel => exact ⟨k + 1, _, by omega, by go_num, rfl, HS.out⟩
                case measure => simp [intOf]; omega
            have HF := Lib.hid (show fullW ws = b by rw [List.take_of_length_le (by omega)] at hb; exact hb)
            clear hb
            obtain rfl : b = true := HF.out.symm.trans HFU.out
            clear q395_kT0 q396_kT1 q397_kW0 q398_kW1 q399_kX0 q400_kX1
            have hc0 := kT.cell 0 rfl
            have hc1 := kT.cell 1 rfl
            have hc2 := kX.cell 0 rfl
            have hc3 := kX.cell 1 rfl
            have hB0 : Below w8.heap.size w8 w8.drew := (Below.refl _ _).drew
            as_aux_lemma =>
             go_wp2_with fail
             go_region_held3 (fun w' => w'.cell? ⟨B2, 0, none⟩ = some (.int .i64 rc) ∧ w'.cell? ⟨B2, 1, none⟩ = some (.slice at0 ws.length ct0) ∧ w'.cell? ⟨B6, 0, none⟩ = some (.int .i64 2) ∧ w'.cell? ⟨B6, 1, none⟩ = some (.slice a2 (ws).length c2) ∧ Below w8.heap.size w8 w')
               (first
                 | exact ⟨hc0, hc1, hc2, hc3, hB2⟩
                 | exact ⟨hc0, hc1, hc2, hc3, hB0⟩
                 | (go_split_ands; refine ⟨?_, ?_, ?_, ?_, ?_⟩ <;> assumption))
               (first
                 | (go_at_call 22; obtain ⟨hc0, hc1, hc2, hc3, hB⟩ := ‹_ ∧ _ ∧ _ ∧ _ ∧ Below w8.heap.size w8 _›; (with_reducible refine (sameInts_any _ _ ws ws _ (i2.below hB).ints (it.below hB).ints true (by simp)).mono ?_); rintro e wr ⟨rfl, hw⟩; have hb := drawn_below hw; replace hc0 := below_cell hb hc0; replace hc1 := below_cell hb hc1; replace hc2 := below_cell hb hc2; replace hc3 := below_cell hb hc3; have hB2 := below_step hB hb hB.size)
                 | (go_at_call 30; obtain ⟨hc0, hc1, hc2, hc3, hB⟩ := ‹_ ∧ _ ∧ _ ∧ _ ∧ Below w8.heap.size w8 _›; (with_reducible refine (implTxnStatus_any 2 _ ws _ (i2.below hB).ints 2 HS2.out).mono ?_); rintro e wr ⟨rfl, hb⟩; replace hc0 := below_cell hb hc0; replace hc1 := below_cell hb hc1; replace hc2 := below_cell hb hc2; replace hc3 := below_cell hb hc3; have hB2 := below_step hB hb hB.size)
                 | (go_at_call 30; obtain ⟨hc0, hc1, hc2, hc3, hB⟩ := ‹_ ∧ _ ∧ _ ∧ _ ∧ Below w8.heap.size w8 _›; (with_reducible refine (implTxnStatus_any rc _ ws _ (it.below hB).ints 2 HS1.out).mono ?_); rintro e wr ⟨rfl, hb⟩; replace hc0 := below_cell hb hc0; replace hc1 := below_cell hb hc1; replace hc2 := below_cell hb hc2; replace hc3 := below_cell hb hc3; have hB2 := below_step hB hb hB.size))
             all_goals
               go_wp2_with fail
               go_ret
               exact ⟨rfl, below_step HB hB2 HB.size⟩
     case false =>
       have HNF := Lib.hid hf
       have HR := Lib.hid (show finishR rc ws = (rc, ws, false) by unfold finishR finishT; rw [hv, hf]; rfl)
       clear q337_kT0 q338_kT1
       refine (opOf (specTxnFinish_any rc (.slice at0 ws.length ct0) ws _ it.ints) HR.out).mono ?_
       rintro e w3 ⟨y1, rfl, i1, hb3⟩
       have hs3 := hb3.size
       replace it := it.below hb3
       replace kT := kT.below hb3
       replace hL := hL.below hb3
       replace HB := below_step HB hb3 HB.size
       clear hb3
       obtain ⟨a1, c1, hv_y1⟩ := own_form i1
       subst hv_y1
       have q401_kT0 := kT.cell 0 rfl
       have q402_kT1 := kT.cell 1 rfl
       have hb4 : Below w3.heap.size w3 (w3.alloc (.cells #[.int .i64 rc, .slice a1 (ws).length c1] 25)) := (Below.refl _ _).alloc (Nat.le_refl _) _
       have hs4 := hb4.size
       replace it := it.below hb4
       replace i1 := i1.below hb4
       replace kT := kT.below hb4
       replace hL := hL.below hb4
       replace HB := below_step HB hb4 HB.size
       have kW := Blk.new w3 #[.int .i64 rc, .slice a1 (ws).length c1] 25
       have hl4 := kW.lt
       clear hb4
       have q403_kT0 := kT.cell 0 rfl
       have q404_kT1 := kT.cell 1 rfl
       have q405_kW0 := kW.cell 0 rfl
       have q406_kW1 := kW.cell 1 rfl
       as_aux_lemma =>
        go_wp2_with fail
        generalize w3.alloc (.cells #[.int .i64 rc, .slice a1 (ws).length c1] 25) = w4 at *
        generalize w3.heap.size = B4 at *
        clear q401_kT0 q402_kT1 q403_kT0 q404_kT1 q405_kW0 q406_kW1
        refine (opOf (implTxnFinish_any rc (.slice at0 ws.length ct0) ws _ it.ints hL) HR.out).mono ?_
        rintro e w5 ⟨y2, rfl, i2, hb5⟩
        have hs5 := hb5.size
        replace it := it.below hb5
        replace i1 := i1.below hb5
        replace kT := kT.below hb5
        replace kW := kW.below hb5
        replace hL := hL.below hb5
        replace HB := below_step HB hb5 HB.size
        clear hb5
        obtain ⟨a2, c2, hv_y2⟩ := own_form i2
        subst hv_y2
        have q407_kT0 := kT.cell 0 rfl
        have q408_kT1 := kT.cell 1 rfl
        have q409_kW0 := kW.cell 0 rfl
        have q410_kW1 := kW.cell 1 rfl
        have hb6 : Below w5.heap.size w5 (w5.alloc (.cells #[.int .i64 rc, .slice a2 (ws).length c2] 25)) := (Below.refl _ _).alloc (Nat.le_refl _) _
        have hs6 := hb6.size
        replace it := it.below hb6
        replace i1 := i1.below hb6
        replace i2 := i2.below hb6
        replace kT := kT.below hb6
        replace kW := kW.below hb6
        replace hL := hL.below hb6
        replace HB := below_step HB hb6 HB.size
        have kX := Blk.new w5 #[.int .i64 rc, .slice a2 (ws).length c2] 25
        have hl6 := kX.lt
        clear hb6
        have q411_kT0 := kT.cell 0 rfl
        have q412_kT1 := kT.cell 1 rfl
        have q413_kW0 := kW.cell 0 rfl
        have q414_kW1 := kW.cell 1 rfl
        have q415_kX0 := kX.cell 0 rfl
        have q416_kX1 := kX.cell 1 rfl
        as_aux_lemma =>
         go_wp2_with fail
         generalize w5.alloc (.cells #[.int .i64 rc, .slice a2 (ws).length c2] 25) = w6 at *
         generalize w5.heap.size = B6 at *
         clear q407_kT0 q408_kT1 q409_kW0 q410_kW1 q411_kT0 q412_kT1 q413_kW0 q414_kW1 q415_kX0 q416_kX1
         refine (sameTxn_any rc rc _ _ (ws) (ws) _ i2.ints i1.ints true (by simp)).mono ?_
         rintro e w7 ⟨rfl, hb7⟩
         have hs7 := hb7.size
         replace it := it.below hb7
         replace i1 := i1.below hb7
         replace i2 := i2.below hb7
         replace kT := kT.below hb7
         replace kW := kW.below hb7
         replace kX := kX.below hb7
         replace hL := hL.below hb7
         replace HB := below_step HB hb7 HB.size
         clear hb7
         have q417_kT0 := kT.cell 0 rfl
         have q418_kT1 := kT.cell 1 rfl
         have q419_kW0 := kW.cell 0 rfl
         have q420_kW1 := kW.cell 1 rfl
         have q421_kX0 := kX.cell 0 rfl
         have q422_kX1 := kX.cell 1 rfl
         as_aux_lemma =>
          go_wp2_with fail
          clear q417_kT0 q418_kT1 q419_kW0 q420_kW1 q421_kX0 q422_kX1
          refine (specTxnValid_any rc _ ws _ it.ints true HV.out).mono ?_
          rintro e w8 ⟨rfl, hb8⟩
          have hs8 := hb8.size
          replace it := it.below hb8
          replace i1 := i1.below hb8
          replace i2 := i2.below hb8
          replace kT := kT.below hb8
          replace kW := kW.below hb8
          replace kX := kX.below hb8
          replace hL := hL.below hb8
          replace HB := below_step HB hb8 HB.size
          clear hb8
          have q423_kT0 := kT.cell 0 rfl
          have q424_kT1 := kT.cell 1 rfl
          have q425_kW0 := kW.cell 0 rfl
          have q426_kW1 := kW.cell 1 rfl
          have q427_kX0 := kX.cell 0 rfl
          have q428_kX1 := kX.cell 1 rfl
          as_aux_lemma =>
           go_wp2_with fail
           obtain ⟨ax, axc, hvax, hnax, hcax⟩ := it.ints.open
           cases hvax
           have HCax := Lib.hid hcax; clear hcax
           go_loop [8, 9] (fun al i => ∃ (k : Nat) (b : Bool), k ≤ ws.length ∧ i = .int .i64 k ∧ al = .bool b ∧ fullW (ws.take k) = b) (fun _ i => ws.length - (intOf i).toNat)
           case atStart => exact ⟨0, true, Nat.zero_le _, rfl, rfl, rfl⟩
           case round =>
            obtain ⟨k, b, hk, rfl, rfl, hb⟩ := hrel
            by_cases hlt : k < ws.length
            · obtain ⟨p, hi', hkc⟩ := HCax.out k hlt
              have hix := hi' k rfl
              have HS := Lib.hid (full_take hlt hb)
              clear hi' hb
              cases b
              all_goals
                go_wp2_with fail
                go_round
                case rel => exact ⟨k + 1, _, by omega, by go_num, rfl, HS.out⟩
                case measure => simp [intOf]; omega
            have HF := Lib.hid (show fullW ws = b by rw [List.take_of_length_le (by omega)] at hb; exact hb)
            clear hb
            have hcond : (b && (rc == 1)) = false := by rw [← HF.out, Bool.and_comm]; exact HNF.out
            have hways : b = false ∨ (b = true ∧ (rc == 1) = false) := by
              cases b
              · exact .inl rfl
              · exact .inr ⟨rfl, by simpa using hcond⟩
            clear hcond
            rcases hways with rfl | ⟨rfl, hr1⟩
            all_goals
              have q429_kT0 := kT.cell 0 rfl
              have q430_kT1 := kT.cell 1 rfl
              have q431_kW0 := kW.cell 0 rfl
              have q432_kW1 := kW.cell 1 rfl
              have q433_kX0 := kX.cell 0 rfl
              have q434_kX1 := kX.cell 1 rfl
              as_aux_lemma =>
               go_wp2_with fail
               clear q423_kT0 q424_kT1 q425_kW0 q426_kW1 q427_kX0 q428_kX1 q429_kT0 q430_kT1 q431_kW0 q432_kW1 q433_kX0 q434_kX1
               refine (sameTxn_any rc rc _ _ ws ws _ i2.ints it.ints true (by simp)).mono ?_
               rintro e w9 ⟨rfl, hb9⟩
               have hs9 := hb9.size
               replace it := it.below hb9
               replace i1 := i1.below hb9
               replace i2 := i2.below hb9
               replace kT := kT.below hb9
               replace kW := kW.below hb9
               replace kX := kX.below hb9
               replace hL := hL.below hb9
               replace HB := below_step HB hb9 HB.size
               clear hb9
               have q435_kT0 := kT.cell 0 rfl
               have q436_kT1 := kT.cell 1 rfl
               have q437_kW0 := kW.cell 0 rfl
               have q438_kW1 := kW.cell 1 rfl
               have q439_kX0 := kX.cell 0 rfl
               have q440_kX1 := kX.cell 1 rfl
               as_aux_lemma =>
                go_wp2_with fail
                go_ret
                exact ⟨rfl, HB⟩

/-! ### THE ROW's STEP -/
set_option maxRecDepth 100000 in
theorem lifted (os : Os) (started : os.Started) (H : Type) (enc : TypeId × Value → H) :
    ReturnsInHanded {} Tryd.checked os 5 .any (fun w args => (Rows.fnTxnFinishSpec.pre enc Tryd.prog Tryd.f5 [] false w args ∧ laidMetH Tryd.prog laidL w) ∧ sizedMet enc Tryd.prog Tryd.f5 (OpenSpec.ofChange Rows.fnTxnFinishSpec) false w args)
      (Rows.fnTxnFinishSpec.post enc Tryd.prog Tryd.f5 false true false false) := by
  refine returnsInHanded_of_change_and (C := Tryd.checked) (X := fun w _ => laidMetH Tryd.prog laidL w) (fun _ _ _ hh h => h.of_heap hh) own started (by kernel_rfl) Tryd.func5
    (ChangeSpec.witness_at (enc := enc) (C := Tryd.checked) (os := os) (X := fun w _ => laidMetH Tryd.prog laidL w) false (laidWorld os) #[.slice none 0 0] 8 rfl (by kernel_rfl) (by kernel_rfl) (by kernel_rfl) (by kernel_rfl) (by kernel_rfl) (laidWorld_met os _)) ?_
  intro W base args ds gs before hval0 hW _ _ hL _
  have hval : ∀ (j : Nat) t v, Tryd.f5.params[j]? = some t → args[j]? = some v → Value.okWide Tryd.prog W .any base t v := hval0
  have hW' := hW
  obtain ⟨p, q, hA0, hV, rfl, hfz, hnd⟩ := hW
  have hA : DataW.TrodAll enc Tryd.prog W 0 (fun _ => true) true Tryd.f5.params.toList args.toList ds p := hA0
  rw [Tryd.params5] at hA hval
  obtain ⟨v0, vs0, d0, ds0, p0, q0, hargs, rfl, rfl, h0, r0⟩ := trodAll_cons hA
  obtain ⟨rfl, rfl, rfl⟩ := trodAll_nil r0
  obtain rfl : args = #[v0] := by cases args; simp_all
  obtain ⟨rfl, rfl⟩ := trodVars_none hV
  obtain ⟨n0, b0⟩ := bytes_in (hval 0 _ v0 rfl rfl) h0
  have lt0 := lt_in h0
  clear hA0 hval0
  refine (walk_at W v0 n0 b0 (laid_of hL)).mono fun e W' ⟨he, bel⟩ => ?_
  subst he
  exact ⟨_, rfl, _, _, _, [], _, [], hW', trodAll_mk1 (shut_bool Tryd.underlying4 _), (trodAll_cons_mk (Below.trod laidOut (by kernel_rfl) (of_decide_eq_true (by kernel_rfl)) h0 bel lt0) trodAll_mk0), rfl, bel.frame _, fun h => by cases h⟩

set_option maxRecDepth 100000 in
theorem closed : joinedFacts Tryd.prog 5 Tryd.f5 Rows.fnTxnFinishSpec Rows.fnTxnFinishRow = true := by
  unfold joinedFacts
  rw [may, lifts, mk]
  kernel_rfl
theorem over : Rows.fnTxnFinishRow.holds Tryd.pinned (OpenSpec.ofChange Rows.fnTxnFinishSpec) :=
  OpenClaim.holds_of_wide 5 Tryd.f5 rfl rfl rfl rfl rfl rfl rfl ⟨rfl, rfl, rfl, rfl, rfl⟩ rfl rfl rfl rfl rfl (by as_aux_lemma => kernel_rfl) Tryd.func5 closed
    (of_decide_eq_true (by as_aux_lemma => kernel_rfl)) (by unfold Func.isWrapper; rw [if_neg (of_decide_eq_false (by as_aux_lemma => kernel_rfl))]; exact ⟨rfl, rfl⟩)
    (fun os started H enc _ => lifted os started H enc)

/-- THE STATEMENT: the tied card -/
theorem proved : Rows.FnTxnFinishCardSaid :=
  Claim7.holds_tied_plain_at .later [] [.handle] true Rows.fnTxnFinishCard.stood.harness true
    over (fun _ h => by cases h) (by kernel_rfl) (fun _ h => by cases h) fnTxnFinish_row_tie rfl ⟨rfl, rfl⟩ (by kernel_rfl) rfl
    (fun f fn hf hfn => by
      obtain rfl : f = 5 := Option.some.inj ((show Tryd.prog.funcNamed "loop.example/flexquorum/laws.FnTxnFinish" = some 5 by kernel_rfl).symm.trans hf) |>.symm
      obtain rfl : fn = Tryd.f5 := (Option.some.inj (Tryd.func5.symm.trans hfn)).symm
      exact ⟨by kernel_rfl, fun j t ht => by
        rw [Tryd.params5] at ht
        have hm := Array.mem_of_getElem? ht
        simp only [List.mem_toArray, List.mem_cons, List.not_mem_nil, or_false] at hm
        (subst hm; exact (show Tryd.prog.wantsStandIn 22 = false by kernel_rfl))⟩)
    (by kernel_rfl)
end Go.Proofs.YtocinffmdciihaaDoor.fnTxnFinish
