/-
  For every input the law FnTxnFence returns true, and what it was given reads afterwards as before. No condition beyond the row's own.
-/
import Derived.Test.YtocinffmdciihaaDoorFrameD
import Derived.Test.YtocinffmdciihaaDoorFrameT
import Derived.Test.YtocinffmdciihaaDoorTie
import Derived.Test.YtocinffmdciihaaDoorCards
import Derived.Test.YtocinffmdciihaaDoorTxnI
import Derived.Test.YtocinffmdciihaaDoorTxnJ
import Derived.Test.YtocinffmdciihaaDoorTxnK
import Derived.Test.YtocinffmdciihaaDoorTxnQD
import Derived.SevenTiedAt
import Derived.Deep.DeepCutAuto
import Derived.Deep.QuietTactic
import Derived.BigQuiet
namespace Go.Proofs.YtocinffmdciihaaDoor.fnTxnFence
open Go.ChangeShapes Go.WideShapes Go.ChangeAt Go.RowKit
open Go.ChangeMaps (open_string shut_string)
set_option linter.unusedVariables false
theorem full_take {ws : List Int} {k : Nat} {b : Bool} (hk : k < ws.length) (hb : fullW (ws.take k) = b) : fullW (ws.take (k + 1)) = (b && (nth ws k == 1)) := by
  rw [take_snoc hk, ← hb]
  unfold fullW
  rw [List.all_append]
  simp
theorem refuse_ok {rc : Int} {ws : List Int} (h : txnOk rc ws = true) : txnOk 3 (refuse ws) = true := by
  obtain ⟨g0, g1, g2, g3, g4, g5⟩ := txnOk_parts h
  have hr : rangeW (refuse ws) = true := by
    unfold refuse
    split
    · unfold rangeW at g4 ⊢
      rw [List.all_eq_true] at g4 ⊢
      intro x hx
      rcases List.mem_or_eq_of_mem_set hx with h' | h'
      · exact g4 x h'
      · rw [h']; rfl
    · exact g4
  unfold txnOk lenW
  rw [refuse_len, inB_mk (n := (3 : Int)) (by omega) (by omega), inB_mk (n := (ws.length : Int)) (by omega) (by omega), hr]
  rfl
theorem write_ended {rc : Int} {ws : List Int} (hv : txnOk rc ws = true) (he : isEnded rc = true) (k : Nat) (hk : k < ws.length) : writeR rc ws k = (rc, ws, false) := by
  have hg : (decide (0 ≤ (k : Int)) && decide ((k : Int) < (ws.length : Int))) = true := by simp; omega
  unfold writeR writeT
  rw [hv, hg, he]
  simp [gate]
theorem finish_ended {rc : Int} {ws : List Int} (hv : txnOk rc ws = true) (he : isEnded rc = true) : finishR rc ws = (rc, ws, false) := by
  have h1 : (rc == 1) = false := by
    rw [beq_eq_false_iff_ne]
    intro e
    subst e
    simp [isEnded] at he
  unfold finishR finishT
  rw [hv, h1]
  rfl
theorem fence_has {ws : List Int} (h : fullW ws = false) : (refuse ws).any (fun x => x == 2) = true := by
  have ha : ws.any (fun x => x != 1) = true := by rw [any_not_full, h]; rfl
  have hi : 0 ≤ idxP (fun x => x != 1) ws := by
    have := idxP_any (p := fun x => x != 1) (xs := ws)
    rw [ha] at this
    exact of_decide_eq_true this
  have hl := idxP_lt (p := fun x => x != 1) (xs := ws)
  have e : refuse ws = ws.set (idxP (fun x => x != 1) ws).toNat 2 := by unfold refuse; rw [if_pos hi]
  rw [e, List.any_eq_true]
  exact ⟨2, List.mem_set (by omega) 2, rfl⟩
theorem any_take {ws : List Int} {k : Nat} {f : Bool} (hk : k < ws.length) (hf : (ws.take k).any (fun x => x == 2) = f) : (ws.take (k + 1)).any (fun x => x == 2) = (f || (nth ws k == 2)) := by
  rw [take_snoc hk, List.any_append, hf]
  simp

set_option maxRecDepth 100000 in
set_option maxHeartbeats 8000000 in
theorem walk_at (w : World) (v0 : Value) (n0 : Nat) (b0 : Bytes w 0 w.heap.size v0 n0) (hL : Laid w) :
    Calls Tryd.prog 12 #[v0] w fun e w' => e = .returned (.bool true) ∧ Below w.heap.size w w' := by
  obtain ⟨a0, c0, hv0, hn0, hx0⟩ := b0.open
  clear hx0
  subst hv0
  by_cases big0 : n0 ≤ 1048576
  case neg =>
    go_enter Tryd.func12, Tryd.ntmps12
    go_wp2_with fail
    go_ret
    exact ⟨rfl, Below.refl _ _⟩
  go_enter Tryd.func12, Tryd.ntmps12
  go_wp2_with fail
  have HB : Below w.heap.size w w := Below.refl _ _
  refine (DrawTxnRecover_any _ n0 _ b0).mono ?_
  rintro e w1 ⟨rc, ws, tv, rfl, rr0, rr1, l0, l1, rng, it, hb1⟩
  have hs1 := hb1.size
  replace hL := hL.below hb1
  replace HB := below_step HB hb1 HB.size
  clear hb1
  obtain ⟨at0, ct0, hv_tv⟩ := own_form it
  subst hv_tv
  have hb2 : Below w1.heap.size w1 (w1.alloc (.cells #[.int .i64 rc, .slice at0 ws.length ct0] 25)) := (Below.refl _ _).alloc (Nat.le_refl _) _
  have hs2 := hb2.size
  replace it := it.below hb2
  replace hL := hL.below hb2
  replace HB := below_step HB hb2 HB.size
  have kT := Blk.new w1 #[.int .i64 rc, .slice at0 ws.length ct0] 25
  have hl2 := kT.lt
  clear hb2
  have q1_kT0 := kT.cell 0 rfl
  have q2_kT1 := kT.cell 1 rfl
  as_aux_lemma =>
   go_wp2_with fail
   generalize w1.alloc (.cells #[.int .i64 rc, .slice at0 ws.length ct0] 25) = w2 at *
   generalize w1.heap.size = B2 at *
   cases hv : txnOk rc ws
   case false =>
     have HV := Lib.hid hv
     have HR := Lib.hid (show recoverR rc ws = (0, [], false) by unfold recoverR; rw [hv]; rfl)
     clear hv
     clear q1_kT0 q2_kT1
     refine (opOf (specTxnRecover_any rc (.slice at0 ws.length ct0) ws _ it.ints) HR.out).mono ?_
     rintro e w3 ⟨y1, rfl, i1, hb3⟩
     have hs3 := hb3.size
     replace it := it.below hb3
     replace kT := kT.below hb3
     replace hL := hL.below hb3
     replace HB := below_step HB hb3 HB.size
     clear hb3
     obtain ⟨a1, c1, hv_y1⟩ := own_form i1
     subst hv_y1
     change IntsO _ _ _ (.slice a1 0 c1) ([] : List Int) at i1
     have q3_kT0 := kT.cell 0 rfl
     have q4_kT1 := kT.cell 1 rfl
     have hb4 : Below w3.heap.size w3 (w3.alloc (.cells #[.int .i64 0, .slice a1 0 c1] 25)) := (Below.refl _ _).alloc (Nat.le_refl _) _
     have hs4 := hb4.size
     replace it := it.below hb4
     replace i1 := i1.below hb4
     replace kT := kT.below hb4
     replace hL := hL.below hb4
     replace HB := below_step HB hb4 HB.size
     have kW := Blk.new w3 #[.int .i64 0, .slice a1 0 c1] 25
     have hl4 := kW.lt
     clear hb4
     have q5_kT0 := kT.cell 0 rfl
     have q6_kT1 := kT.cell 1 rfl
     have q7_kW0 := kW.cell 0 rfl
     have q8_kW1 := kW.cell 1 rfl
     as_aux_lemma =>
      go_wp2_with fail
      generalize w3.alloc (.cells #[.int .i64 0, .slice a1 0 c1] 25) = w4 at *
      generalize w3.heap.size = B4 at *
      clear q3_kT0 q4_kT1 q5_kT0 q6_kT1 q7_kW0 q8_kW1
      refine (opOf (implTxnRecover_any rc (.slice at0 ws.length ct0) ws _ it.ints hL) HR.out).mono ?_
      rintro e w5 ⟨y2, rfl, i2, hb5⟩
      have hs5 := hb5.size
      replace it := it.below hb5
      replace i1 := i1.below hb5
      replace kT := kT.below hb5
      replace kW := kW.below hb5
      replace hL := hL.below hb5
      replace HB := below_step HB hb5 HB.size
      clear hb5
      obtain ⟨a2, c2, hv_y2⟩ := own_form i2
      subst hv_y2
      change IntsO _ _ _ (.slice a2 0 c2) ([] : List Int) at i2
      have q9_kT0 := kT.cell 0 rfl
      have q10_kT1 := kT.cell 1 rfl
      have q11_kW0 := kW.cell 0 rfl
      have q12_kW1 := kW.cell 1 rfl
      have hb6 : Below w5.heap.size w5 (w5.alloc (.cells #[.int .i64 0, .slice a2 0 c2] 25)) := (Below.refl _ _).alloc (Nat.le_refl _) _
      have hs6 := hb6.size
      replace it := it.below hb6
      replace i1 := i1.below hb6
      replace i2 := i2.below hb6
      replace kT := kT.below hb6
      replace kW := kW.below hb6
      replace hL := hL.below hb6
      replace HB := below_step HB hb6 HB.size
      have kX := Blk.new w5 #[.int .i64 0, .slice a2 0 c2] 25
      have hl6 := kX.lt
      clear hb6
      have q13_kT0 := kT.cell 0 rfl
      have q14_kT1 := kT.cell 1 rfl
      have q15_kW0 := kW.cell 0 rfl
      have q16_kW1 := kW.cell 1 rfl
      have q17_kX0 := kX.cell 0 rfl
      have q18_kX1 := kX.cell 1 rfl
      as_aux_lemma =>
       go_wp2_with fail
       generalize w5.alloc (.cells #[.int .i64 0, .slice a2 0 c2] 25) = w6 at *
       generalize w5.heap.size = B6 at *
       clear q9_kT0 q10_kT1 q11_kW0 q12_kW1 q13_kT0 q14_kT1 q15_kW0 q16_kW1 q17_kX0 q18_kX1
       refine (sameTxn_any 0 0 _ _ (([] : List Int)) (([] : List Int)) _ i2.ints i1.ints true (by simp)).mono ?_
       rintro e w7 ⟨rfl, hb7⟩
       have hs7 := hb7.size
       replace it := it.below hb7
       replace i1 := i1.below hb7
       replace i2 := i2.below hb7
       replace kT := kT.below hb7
       replace kW := kW.below hb7
       replace kX := kX.below hb7
       replace hL := hL.below hb7
       replace HB := below_step HB hb7 HB.size
       clear hb7
       have q19_kT0 := kT.cell 0 rfl
       have q20_kT1 := kT.cell 1 rfl
       have q21_kW0 := kW.cell 0 rfl
       have q22_kW1 := kW.cell 1 rfl
       have q23_kX0 := kX.cell 0 rfl
       have q24_kX1 := kX.cell 1 rfl
       as_aux_lemma =>
        go_wp2_with fail
        clear q19_kT0 q20_kT1 q21_kW0 q22_kW1 q23_kX0 q24_kX1
        refine (specTxnValid_any rc _ ws _ it.ints false HV.out).mono ?_
        rintro e w8 ⟨rfl, hb8⟩
        have hs8 := hb8.size
        replace it := it.below hb8
        replace i1 := i1.below hb8
        replace i2 := i2.below hb8
        replace kT := kT.below hb8
        replace kW := kW.below hb8
        replace kX := kX.below hb8
        replace hL := hL.below hb8
        replace HB := below_step HB hb8 HB.size
        clear hb8
        have q25_kT0 := kT.cell 0 rfl
        have q26_kT1 := kT.cell 1 rfl
        have q27_kW0 := kW.cell 0 rfl
        have q28_kW1 := kW.cell 1 rfl
        have q29_kX0 := kX.cell 0 rfl
        have q30_kX1 := kX.cell 1 rfl
        as_aux_lemma =>
         go_wp2_with fail
         clear q25_kT0 q26_kT1 q27_kW0 q28_kW1 q29_kX0 q30_kX1
         refine (sameTxn_any 0 0 _ _ [] [] _ i2.ints i1.ints true (by simp)).mono ?_
         rintro e w9 ⟨rfl, hb9⟩
         have hs9 := hb9.size
         replace it := it.below hb9
         replace i1 := i1.below hb9
         replace i2 := i2.below hb9
         replace kT := kT.below hb9
         replace kW := kW.below hb9
         replace kX := kX.below hb9
         replace hL := hL.below hb9
         replace HB := below_step HB hb9 HB.size
         clear hb9
         have q31_kT0 := kT.cell 0 rfl
         have q32_kT1 := kT.cell 1 rfl
         have q33_kW0 := kW.cell 0 rfl
         have q34_kW1 := kW.cell 1 rfl
         have q35_kX0 := kX.cell 0 rfl
         have q36_kX1 := kX.cell 1 rfl
         as_aux_lemma =>
          go_wp2_with fail
          go_ret
          exact ⟨rfl, HB⟩
   case true =>
     have hpp := txnOk_parts hv
     have HV := Lib.hid hv
     have h0r := hpp.1
     have h3r := hpp.2.1
     clear hpp
     have HOK := Lib.hid (refuse_ok hv)
     cases he : isEnded rc
     case true =>
       have hge : (2 : Int) ≤ rc := by
         unfold isEnded at he
         simp at he
         omega
       have HS := Lib.hid (show recoverT rc ws = (rc, ws, false) by simp [recoverT, he])
       clear he
       have HR := Lib.hid (show recoverR rc ws = (rc, ws, false) by unfold recoverR; rw [hv, HS.out]; rfl)
       clear q1_kT0 q2_kT1
       refine (opOf (specTxnRecover_any rc (.slice at0 ws.length ct0) ws _ it.ints) HR.out).mono ?_
       rintro e w3 ⟨y1, rfl, i1, hb3⟩
       have hs3 := hb3.size
       replace it := it.below hb3
       replace kT := kT.below hb3
       replace hL := hL.below hb3
       replace HB := below_step HB hb3 HB.size
       clear hb3
       obtain ⟨a1, c1, hv_y1⟩ := own_form i1
       subst hv_y1
       have q37_kT0 := kT.cell 0 rfl
       have q38_kT1 := kT.cell 1 rfl
       have hb4 : Below w3.heap.size w3 (w3.alloc (.cells #[.int .i64 rc, .slice a1 (ws).length c1] 25)) := (Below.refl _ _).alloc (Nat.le_refl _) _
       have hs4 := hb4.size
       replace it := it.below hb4
       replace i1 := i1.below hb4
       replace kT := kT.below hb4
       replace hL := hL.below hb4
       replace HB := below_step HB hb4 HB.size
       have kW := Blk.new w3 #[.int .i64 rc, .slice a1 (ws).length c1] 25
       have hl4 := kW.lt
       clear hb4
       have q39_kT0 := kT.cell 0 rfl
       have q40_kT1 := kT.cell 1 rfl
       have q41_kW0 := kW.cell 0 rfl
       have q42_kW1 := kW.cell 1 rfl
       as_aux_lemma =>
        go_wp2_with fail
        generalize w3.alloc (.cells #[.int .i64 rc, .slice a1 (ws).length c1] 25) = w4 at *
        generalize w3.heap.size = B4 at *
        clear q37_kT0 q38_kT1 q39_kT0 q40_kT1 q41_kW0 q42_kW1
        refine (opOf (implTxnRecover_any rc (.slice at0 ws.length ct0) ws _ it.ints hL) HR.out).mono ?_
        rintro e w5 ⟨y2, rfl, i2, hb5⟩
        have hs5 := hb5.size
        replace it := it.below hb5
        replace i1 := i1.below hb5
        replace kT := kT.below hb5
        replace kW := kW.below hb5
        replace hL := hL.below hb5
        replace HB := below_step HB hb5 HB.size
        clear hb5
        obtain ⟨a2, c2, hv_y2⟩ := own_form i2
        subst hv_y2
        have q43_kT0 := kT.cell 0 rfl
        have q44_kT1 := kT.cell 1 rfl
        have q45_kW0 := kW.cell 0 rfl
        have q46_kW1 := kW.cell 1 rfl
        have hb6 : Below w5.heap.size w5 (w5.alloc (.cells #[.int .i64 rc, .slice a2 (ws).length c2] 25)) := (Below.refl _ _).alloc (Nat.le_refl _) _
        have hs6 := hb6.size
        replace it := it.below hb6
        replace i1 := i1.below hb6
        replace i2 := i2.below hb6
        replace kT := kT.below hb6
        replace kW := kW.below hb6
        replace hL := hL.below hb6
        replace HB := below_step HB hb6 HB.size
        have kX := Blk.new w5 #[.int .i64 rc, .slice a2 (ws).length c2] 25
        have hl6 := kX.lt
        clear hb6
        have q47_kT0 := kT.cell 0 rfl
        have q48_kT1 := kT.cell 1 rfl
        have q49_kW0 := kW.cell 0 rfl
        have q50_kW1 := kW.cell 1 rfl
        have q51_kX0 := kX.cell 0 rfl
        have q52_kX1 := kX.cell 1 rfl
        as_aux_lemma =>
         go_wp2_with fail
         generalize w5.alloc (.cells #[.int .i64 rc, .slice a2 (ws).length c2] 25) = w6 at *
         generalize w5.heap.size = B6 at *
         clear q43_kT0 q44_kT1 q45_kW0 q46_kW1 q47_kT0 q48_kT1 q49_kW0 q50_kW1 q51_kX0 q52_kX1
         refine (sameTxn_any rc rc _ _ (ws) (ws) _ i2.ints i1.ints true (by simp)).mono ?_
         rintro e w7 ⟨rfl, hb7⟩
         have hs7 := hb7.size
         replace it := it.below hb7
         replace i1 := i1.below hb7
         replace i2 := i2.below hb7
         replace kT := kT.below hb7
         replace kW := kW.below hb7
         replace kX := kX.below hb7
         replace hL := hL.below hb7
         replace HB := below_step HB hb7 HB.size
         clear hb7
         have q53_kT0 := kT.cell 0 rfl
         have q54_kT1 := kT.cell 1 rfl
         have q55_kW0 := kW.cell 0 rfl
         have q56_kW1 := kW.cell 1 rfl
         have q57_kX0 := kX.cell 0 rfl
         have q58_kX1 := kX.cell 1 rfl
         as_aux_lemma =>
          go_wp2_with fail
          clear q53_kT0 q54_kT1 q55_kW0 q56_kW1 q57_kX0 q58_kX1
          refine (specTxnValid_any rc _ ws _ it.ints true HV.out).mono ?_
          rintro e w8 ⟨rfl, hb8⟩
          have hs8 := hb8.size
          replace it := it.below hb8
          replace i1 := i1.below hb8
          replace i2 := i2.below hb8
          replace kT := kT.below hb8
          replace kW := kW.below hb8
          replace kX := kX.below hb8
          replace hL := hL.below hb8
          replace HB := below_step HB hb8 HB.size
          clear hb8
          have q59_kT0 := kT.cell 0 rfl
          have q60_kT1 := kT.cell 1 rfl
          have q61_kW0 := kW.cell 0 rfl
          have q62_kW1 := kW.cell 1 rfl
          have q63_kX0 := kX.cell 0 rfl
          have q64_kX1 := kX.cell 1 rfl
          as_aux_lemma =>
           go_wp2_with fail
           go_ret
           exact ⟨rfl, HB⟩
     case false =>
       have hlt2 : rc < 2 := by
         unfold isEnded at he
         simp at he
         omega
       cases hf : (rc == 1 && fullW ws)
       case true =>
         have HS := Lib.hid (show recoverT rc ws = (2, ws, true) by simp [recoverT, he, hf])
         have HST := Lib.hid (show txnStat rc ws = 2 by
           have e2 : (rc == 2) = false := beq_eq_false_iff_ne.2 (by omega)
           have e3 : (rc == 3) = false := beq_eq_false_iff_ne.2 (by omega)
           unfold txnStat statOf; rw [hv, hf, e2, e3]; rfl)
         have HFU := Lib.hid (show fullW ws = true by simp at hf; exact hf.2)
         have HR := Lib.hid (show recoverR rc ws = (2, ws, true) by unfold recoverR; rw [hv, HS.out]; rfl)
         clear q1_kT0 q2_kT1
         refine (opOf (specTxnRecover_any rc (.slice at0 ws.length ct0) ws _ it.ints) HR.out).mono ?_
         rintro e w3 ⟨y1, rfl, i1, hb3⟩
         have hs3 := hb3.size
         replace it := it.below hb3
         replace kT := kT.below hb3
         replace hL := hL.below hb3
         replace HB := below_step HB hb3 HB.size
         clear hb3
         obtain ⟨a1, c1, hv_y1⟩ := own_form i1
         subst hv_y1
         have q65_kT0 := kT.cell 0 rfl
         have q66_kT1 := kT.cell 1 rfl
         have hb4 : Below w3.heap.size w3 (w3.alloc (.cells #[.int .i64 2, .slice a1 (ws).length c1] 25)) := (Below.refl _ _).alloc (Nat.le_refl _) _
         have hs4 := hb4.size
         replace it := it.below hb4
         replace i1 := i1.below hb4
         replace kT := kT.below hb4
         replace hL := hL.below hb4
         replace HB := below_step HB hb4 HB.size
         have kW := Blk.new w3 #[.int .i64 2, .slice a1 (ws).length c1] 25
         have hl4 := kW.lt
         clear hb4
         have q67_kT0 := kT.cell 0 rfl
         have q68_kT1 := kT.cell 1 rfl
         have q69_kW0 := kW.cell 0 rfl
         have q70_kW1 := kW.cell 1 rfl
         as_aux_lemma =>
          go_wp2_with fail
          generalize w3.alloc (.cells #[.int .i64 2, .slice a1 (ws).length c1] 25) = w4 at *
          generalize w3.heap.size = B4 at *
          clear q65_kT0 q66_kT1 q67_kT0 q68_kT1 q69_kW0 q70_kW1
          refine (opOf (implTxnRecover_any rc (.slice at0 ws.length ct0) ws _ it.ints hL) HR.out).mono ?_
          rintro e w5 ⟨y2, rfl, i2, hb5⟩
          have hs5 := hb5.size
          replace it := it.below hb5
          replace i1 := i1.below hb5
          replace kT := kT.below hb5
          replace kW := kW.below hb5
          replace hL := hL.below hb5
          replace HB := below_step HB hb5 HB.size
          clear hb5
          obtain ⟨a2, c2, hv_y2⟩ := own_form i2
          subst hv_y2
          have q71_kT0 := kT.cell 0 rfl
          have q72_kT1 := kT.cell 1 rfl
          have q73_kW0 := kW.cell 0 rfl
          have q74_kW1 := kW.cell 1 rfl
          have hb6 : Below w5.heap.size w5 (w5.alloc (.cells #[.int .i64 2, .slice a2 (ws).length c2] 25)) := (Below.refl _ _).alloc (Nat.le_refl _) _
          have hs6 := hb6.size
          replace it := it.below hb6
          replace i1 := i1.below hb6
          replace i2 := i2.below hb6
          replace kT := kT.below hb6
          replace kW := kW.below hb6
          replace hL := hL.below hb6
          replace HB := below_step HB hb6 HB.size
          have kX := Blk.new w5 #[.int .i64 2, .slice a2 (ws).length c2] 25
          have hl6 := kX.lt
          clear hb6
          have q75_kT0 := kT.cell 0 rfl
          have q76_kT1 := kT.cell 1 rfl
          have q77_kW0 := kW.cell 0 rfl
          have q78_kW1 := kW.cell 1 rfl
          have q79_kX0 := kX.cell 0 rfl
          have q80_kX1 := kX.cell 1 rfl
          as_aux_lemma =>
           go_wp2_with fail
           generalize w5.alloc (.cells #[.int .i64 2, .slice a2 (ws).length c2] 25) = w6 at *
           generalize w5.heap.size = B6 at *
           clear q71_kT0 q72_kT1 q73_kW0 q74_kW1 q75_kT0 q76_kT1 q77_kW0 q78_kW1 q79_kX0 q80_kX1
           refine (sameTxn_any 2 2 _ _ (ws) (ws) _ i2.ints i1.ints true (by simp)).mono ?_
           rintro e w7 ⟨rfl, hb7⟩
           have hs7 := hb7.size
           replace it := it.below hb7
           replace i1 := i1.below hb7
           replace i2 := i2.below hb7
           replace kT := kT.below hb7
           replace kW := kW.below hb7
           replace kX := kX.below hb7
           replace hL := hL.below hb7
           replace HB := below_step HB hb7 HB.size
           clear hb7
           have q81_kT0 := kT.cell 0 rfl
           have q82_kT1 := kT.cell 1 rfl
           have q83_kW0 := kW.cell 0 rfl
           have q84_kW1 := kW.cell 1 rfl
           have q85_kX0 := kX.cell 0 rfl
           have q86_kX1 := kX.cell 1 rfl
           as_aux_lemma =>
            go_wp2_with fail
            clear q81_kT0 q82_kT1 q83_kW0 q84_kW1 q85_kX0 q86_kX1
            refine (specTxnValid_any rc _ ws _ it.ints true HV.out).mono ?_
            rintro e w8 ⟨rfl, hb8⟩
            have hs8 := hb8.size
            replace it := it.below hb8
            replace i1 := i1.below hb8
            replace i2 := i2.below hb8
            replace kT := kT.below hb8
            replace kW := kW.below hb8
            replace kX := kX.below hb8
            replace hL := hL.below hb8
            replace HB := below_step HB hb8 HB.size
            clear hb8
            have q87_kT0 := kT.cell 0 rfl
            have q88_kT1 := kT.cell 1 rfl
            have q89_kW0 := kW.cell 0 rfl
            have q90_kW1 := kW.cell 1 rfl
            have q91_kX0 := kX.cell 0 rfl
            have q92_kX1 := kX.cell 1 rfl
            as_aux_lemma =>
             go_wp2_with fail
             go_ret
             exact ⟨rfl, HB⟩
       case false =>
         have HS := Lib.hid (show recoverT rc ws = (3, refuse ws, true) by simp [recoverT, he, hf])
         have HST := Lib.hid (show txnStat rc ws = 0 by
           have e2 : (rc == 2) = false := beq_eq_false_iff_ne.2 (by omega)
           have e3 : (rc == 3) = false := beq_eq_false_iff_ne.2 (by omega)
           unfold txnStat statOf; rw [hv, hf, e2, e3]; rfl)
         have HR := Lib.hid (show recoverR rc ws = (3, refuse ws, true) by unfold recoverR; rw [hv, HS.out]; rfl)
         clear q1_kT0 q2_kT1
         refine (opOf (specTxnRecover_any rc (.slice at0 ws.length ct0) ws _ it.ints) HR.out).mono ?_
         rintro e w3 ⟨y1, rfl, i1, hb3⟩
         have hs3 := hb3.size
         replace it := it.below hb3
         replace kT := kT.below hb3
         replace hL := hL.below hb3
         replace HB := below_step HB hb3 HB.size
         clear hb3
         obtain ⟨a1, c1, hv_y1⟩ := own_form i1
         subst hv_y1
         have q93_kT0 := kT.cell 0 rfl
         have q94_kT1 := kT.cell 1 rfl
         have hb4 : Below w3.heap.size w3 (w3.alloc (.cells #[.int .i64 3, .slice a1 (refuse ws).length c1] 25)) := (Below.refl _ _).alloc (Nat.le_refl _) _
         have hs4 := hb4.size
         replace it := it.below hb4
         replace i1 := i1.below hb4
         replace kT := kT.below hb4
         replace hL := hL.below hb4
         replace HB := below_step HB hb4 HB.size
         have kW := Blk.new w3 #[.int .i64 3, .slice a1 (refuse ws).length c1] 25
         have hl4 := kW.lt
         clear hb4
         have q95_kT0 := kT.cell 0 rfl
         have q96_kT1 := kT.cell 1 rfl
         have q97_kW0 := kW.cell 0 rfl
         have q98_kW1 := kW.cell 1 rfl
         as_aux_lemma =>
          go_wp2_with fail
          generalize w3.alloc (.cells #[.int .i64 3, .slice a1 (refuse ws).length c1] 25) = w4 at *
          generalize w3.heap.size = B4 at *
          clear q93_kT0 q94_kT1 q95_kT0 q96_kT1 q97_kW0 q98_kW1
          refine (opOf (implTxnRecover_any rc (.slice at0 ws.length ct0) ws _ it.ints hL) HR.out).mono ?_
          rintro e w5 ⟨y2, rfl, i2, hb5⟩
          have hs5 := hb5.size
          replace it := it.below hb5
          replace i1 := i1.below hb5
          replace kT := kT.below hb5
          replace kW := kW.below hb5
          replace hL := hL.below hb5
          replace HB := below_step HB hb5 HB.size
          clear hb5
          obtain ⟨a2, c2, hv_y2⟩ := own_form i2
          subst hv_y2
          have q99_kT0 := kT.cell 0 rfl
          have q100_kT1 := kT.cell 1 rfl
          have q101_kW0 := kW.cell 0 rfl
          have q102_kW1 := kW.cell 1 rfl
          have hb6 : Below w5.heap.size w5 (w5.alloc (.cells #[.int .i64 3, .slice a2 (refuse ws).length c2] 25)) := (Below.refl _ _).alloc (Nat.le_refl _) _
          have hs6 := hb6.size
          replace it := it.below hb6
          replace i1 := i1.below hb6
          replace i2 := i2.below hb6
          replace kT := kT.below hb6
          replace kW := kW.below hb6
          replace hL := hL.below hb6
          replace HB := below_step HB hb6 HB.size
          have kX := Blk.new w5 #[.int .i64 3, .slice a2 (refuse ws).length c2] 25
          have hl6 := kX.lt
          clear hb6
          have q103_kT0 := kT.cell 0 rfl
          have q104_kT1 := kT.cell 1 rfl
          have q105_kW0 := kW.cell 0 rfl
          have q106_kW1 := kW.cell 1 rfl
          have q107_kX0 := kX.cell 0 rfl
          have q108_kX1 := kX.cell 1 rfl
          as_aux_lemma =>
           go_wp2_with fail
           generalize w5.alloc (.cells #[.int .i64 3, .slice a2 (refuse ws).length c2] 25) = w6 at *
           generalize w5.heap.size = B6 at *
           clear q99_kT0 q100_kT1 q101_kW0 q102_kW1 q103_kT0 q104_kT1 q105_kW0 q106_kW1 q107_kX0 q108_kX1
           refine (sameTxn_any 3 3 _ _ (refuse ws) (refuse ws) _ i2.ints i1.ints true (by simp)).mono ?_
           rintro e w7 ⟨rfl, hb7⟩
           have hs7 := hb7.size
           replace it := it.below hb7
           replace i1 := i1.below hb7
           replace i2 := i2.below hb7
           replace kT := kT.below hb7
           replace kW := kW.below hb7
           replace kX := kX.below hb7
           replace hL := hL.below hb7
           replace HB := below_step HB hb7 HB.size
           clear hb7
           have q109_kT0 := kT.cell 0 rfl
           have q110_kT1 := kT.cell 1 rfl
           have q111_kW0 := kW.cell 0 rfl
           have q112_kW1 := kW.cell 1 rfl
           have q113_kX0 := kX.cell 0 rfl
           have q114_kX1 := kX.cell 1 rfl
           as_aux_lemma =>
            go_wp2_with fail
            clear q109_kT0 q110_kT1 q111_kW0 q112_kW1 q113_kX0 q114_kX1
            refine (specTxnValid_any rc _ ws _ it.ints true HV.out).mono ?_
            rintro e w8 ⟨rfl, hb8⟩
            have hs8 := hb8.size
            replace it := it.below hb8
            replace i1 := i1.below hb8
            replace i2 := i2.below hb8
            replace kT := kT.below hb8
            replace kW := kW.below hb8
            replace kX := kX.below hb8
            replace hL := hL.below hb8
            replace HB := below_step HB hb8 HB.size
            clear hb8
            have q115_kT0 := kT.cell 0 rfl
            have q116_kT1 := kT.cell 1 rfl
            have q117_kW0 := kW.cell 0 rfl
            have q118_kW1 := kW.cell 1 rfl
            have q119_kX0 := kX.cell 0 rfl
            have q120_kX1 := kX.cell 1 rfl
            as_aux_lemma =>
             go_wp2_with fail
             have HW := Lib.hid (fun k hk => write_ended HOK.out rfl k hk)
             obtain ⟨ax, axc, hvax, hnax, hcax⟩ := it.ints.open
             cases hvax
             have HCax := Lib.hid hcax; clear hcax
             go_loop [8, 9] (fun al i => ∃ (k : Nat) (b : Bool), k ≤ ws.length ∧ i = .int .i64 k ∧ al = .bool b ∧ fullW (ws.take k) = b) (fun _ i => ws.length - (intOf i).toNat)
             case atStart => exact ⟨0, true, Nat.zero_le _, rfl, rfl, rfl⟩
             case round =>
              obtain ⟨k, b, hk, rfl, rfl, hb⟩ := hrel
              by_cases hlt : k < ws.length
              · obtain ⟨p, hi', hkc⟩ := HCax.out k hlt
                have hix := hi' k rfl
                have HS := Lib.hid (full_take hlt hb)
                clear hi' hb
                cases b
                all_goals
                  go_wp2_with fail
                  go_round
                  case rel => exact ⟨k + 1, _, by omega, by go_num, rfl, HS.out⟩
                  case measure => simp [intOf]; omega
              have HF := Lib.hid (show fullW ws = b by rw [List.take_of_length_le (by omega)] at hb; exact hb)
              clear hb
              have hbk := HF.out
              have HFE := Lib.hid (show b = false → (refuse ws).any (fun x => x == 2) = true from fun e => fence_has (HF.out.trans e))
              clear hbk
              have hy4 : (refuse ws).length ≤ 4 := by rw [refuse_len]; exact l1
              have hrl := refuse_len ws
              have HRL := Lib.hid hrl; clear hrl
              generalize hys : refuse ws = ys at *
              have HYS := Lib.hid hys; clear hys
              obtain ⟨ay, cy, hvy, hny, hcy⟩ := i2.ints.open
              cases hvy
              have HCY := Lib.hid hcy; clear hcy
              have h2own := i2.2.2
              have q121_kT0 := kT.cell 0 rfl
              have q122_kT1 := kT.cell 1 rfl
              have q123_kW0 := kW.cell 0 rfl
              have q124_kW1 := kW.cell 1 rfl
              have q125_kX0 := kX.cell 0 rfl
              have q126_kX1 := kX.cell 1 rfl
              as_aux_lemma =>
               go_wp2_with fail
               go_loopw [10, 11] (fun fe i wr => ∃ (k : Nat) (f : Bool), k ≤ ys.length ∧ i = .int .i64 k ∧ fe = .bool f ∧ (ys.take k).any (fun x => x == 2) = f ∧ Below w8.heap.size w8 wr) (fun _ i _ => ys.length - (intOf i).toNat)
               case atStart => exact ⟨0, false, Nat.zero_le _, rfl, rfl, rfl, Below.refl _ _⟩
               case round =>
                 obtain ⟨k, f, hk, rfl, rfl, hf, hb⟩ := hrel
                 have hsz := hb.size
                 have kXr := kX.below hb
                 have x0 := kXr.cell 0 rfl
                 have x1 := kXr.cell 1 rfl
                 by_cases hlt : k < ys.length
                 · obtain ⟨p, hi', hkc⟩ := HCY.out k hlt
                   have hix := hi' k rfl
                   have HS := Lib.hid (any_take hlt hf)
                   have HWk := Lib.hid (HW.out k hlt)
                   clear hi' hf
                   go_wp2_with fail
                   refine (opOf (implTxnWrite_any 3 _ ys k _ (IntsO.below i2 hb).ints (hL.below hb)) HWk.out).mono ?_
                   rintro e w2' ⟨y, rfl, iy, hb2⟩
                   obtain ⟨a9, c9, hv9⟩ := own_form iy
                   subst hv9
                   have hb3 : Below w2'.heap.size w2' (w2'.alloc (.cells #[.int .i64 3, .slice a9 ys.length c9] 25)) := (Below.refl _ _).alloc (Nat.le_refl _) _
                   have hbe := below_step (below_step hb hb2 hsz) hb3 (below_step hb hb2 hsz).size
                   have kXe := kXr.below (below_step hb2 hb3 hb2.size)
                   have e0 := kXe.cell 0 rfl
                   have e1 := kXe.cell 1 rfl
                   have hkd := (hbe.cell (lt_of_cell hkc)).trans hkc
                   clear hkc hb3 hb2 iy x0 x1
                   cases f
                   all_goals
                     as_aux_lemma =>
                       go_wp2_with fail
                       go_roundw
                       case rel => exact ⟨k + 1, _, by omega, by go_num, rfl, HS.out, hbe⟩
                       case measure => simp [intOf]; omega
                 · have HA := Lib.hid (show ys.any (fun x => x == 2) = f by rw [List.take_of_length_le (by omega)] at hf; exact hf)
                   clear hf
                   have HZ := Lib.hid (show (f || b) = true by
                     cases b
                     · rw [← HA.out, HFE.out rfl]; rfl
                     · simp)
                   cases f
                   case false =>
                     obtain rfl : b = true := by have := HZ.out; simpa using this
                     as_aux_lemma =>
                       go_wp2_with fail
                       go_ret
                       exact ⟨rfl, below_step HB hb HB.size⟩
                   case true =>
                     as_aux_lemma =>
                       go_wp2_with fail
                       go_ret
                       exact ⟨rfl, below_step HB hb HB.size⟩

/-! ### THE ROW's STEP -/
set_option maxRecDepth 100000 in
theorem lifted (os : Os) (started : os.Started) (H : Type) (enc : TypeId × Value → H) :
    ReturnsInHanded {} Tryd.checked os 12 .any (fun w args => (Rows.fnTxnFenceSpec.pre enc Tryd.prog Tryd.f12 [] false w args ∧ laidMetH Tryd.prog laidL w) ∧ sizedMet enc Tryd.prog Tryd.f12 (OpenSpec.ofChange Rows.fnTxnFenceSpec) false w args)
      (Rows.fnTxnFenceSpec.post enc Tryd.prog Tryd.f12 false true false false) := by
  refine returnsInHanded_of_change_and (C := Tryd.checked) (X := fun w _ => laidMetH Tryd.prog laidL w) (fun _ _ _ hh h => h.of_heap hh) own started (by kernel_rfl) Tryd.func12
    (ChangeSpec.witness_at (enc := enc) (C := Tryd.checked) (os := os) (X := fun w _ => laidMetH Tryd.prog laidL w) false (laidWorld os) #[.slice none 0 0] 8 rfl (by kernel_rfl) (by kernel_rfl) (by kernel_rfl) (by kernel_rfl) (by kernel_rfl) (laidWorld_met os _)) ?_
  intro W base args ds gs before hval0 hW _ _ hL _
  have hval : ∀ (j : Nat) t v, Tryd.f12.params[j]? = some t → args[j]? = some v → Value.okWide Tryd.prog W .any base t v := hval0
  have hW' := hW
  obtain ⟨p, q, hA0, hV, rfl, hfz, hnd⟩ := hW
  have hA : DataW.TrodAll enc Tryd.prog W 0 (fun _ => true) true Tryd.f12.params.toList args.toList ds p := hA0
  rw [Tryd.params12] at hA hval
  obtain ⟨v0, vs0, d0, ds0, p0, q0, hargs, rfl, rfl, h0, r0⟩ := trodAll_cons hA
  obtain ⟨rfl, rfl, rfl⟩ := trodAll_nil r0
  obtain rfl : args = #[v0] := by cases args; simp_all
  obtain ⟨rfl, rfl⟩ := trodVars_none hV
  obtain ⟨n0, b0⟩ := bytes_in (hval 0 _ v0 rfl rfl) h0
  have lt0 := lt_in h0
  clear hA0 hval0
  refine (walk_at W v0 n0 b0 (laid_of hL)).mono fun e W' ⟨he, bel⟩ => ?_
  subst he
  exact ⟨_, rfl, _, _, _, [], _, [], hW', trodAll_mk1 (shut_bool Tryd.underlying4 _), (trodAll_cons_mk (Below.trod laidOut (by kernel_rfl) (of_decide_eq_true (by kernel_rfl)) h0 bel lt0) trodAll_mk0), rfl, bel.frame _, fun h => by cases h⟩

set_option maxRecDepth 100000 in
theorem closed : joinedFacts Tryd.prog 12 Tryd.f12 Rows.fnTxnFenceSpec Rows.fnTxnFenceRow = true := by
  unfold joinedFacts
  rw [may, lifts, mk]
  kernel_rfl
theorem over : Rows.fnTxnFenceRow.holds Tryd.pinned (OpenSpec.ofChange Rows.fnTxnFenceSpec) :=
  OpenClaim.holds_of_wide 12 Tryd.f12 rfl rfl rfl rfl rfl rfl rfl ⟨rfl, rfl, rfl, rfl, rfl⟩ rfl rfl rfl rfl rfl (by as_aux_lemma => kernel_rfl) Tryd.func12 closed
    (of_decide_eq_true (by as_aux_lemma => kernel_rfl)) (by unfold Func.isWrapper; rw [if_neg (of_decide_eq_false (by as_aux_lemma => kernel_rfl))]; exact ⟨rfl, rfl⟩)
    (fun os started H enc _ => lifted os started H enc)

/-- THE STATEMENT: the tied card -/
theorem proved : Rows.FnTxnFenceCardSaid :=
  Claim7.holds_tied_plain_at .later [] [.handle] true Rows.fnTxnFenceCard.stood.harness true
    over (fun _ h => by cases h) (by kernel_rfl) (fun _ h => by cases h) fnTxnFence_row_tie rfl ⟨rfl, rfl⟩ (by kernel_rfl) rfl
    (fun f fn hf hfn => by
      obtain rfl : f = 12 := Option.some.inj ((show Tryd.prog.funcNamed "loop.example/flexquorum/laws.FnTxnFence" = some 12 by kernel_rfl).symm.trans hf) |>.symm
      obtain rfl : fn = Tryd.f12 := (Option.some.inj (Tryd.func12.symm.trans hfn)).symm
      exact ⟨by kernel_rfl, fun j t ht => by
        rw [Tryd.params12] at ht
        have hm := Array.mem_of_getElem? ht
        simp only [List.mem_toArray, List.mem_cons, List.not_mem_nil, or_false] at hm
        (subst hm; exact (show Tryd.prog.wantsStandIn 22 = false by kernel_rfl))⟩)
    (by kernel_rfl)
end Go.Proofs.YtocinffmdciihaaDoor.fnTxnFence
