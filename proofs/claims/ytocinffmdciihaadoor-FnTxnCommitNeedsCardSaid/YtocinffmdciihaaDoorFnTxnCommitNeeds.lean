/-
  For every input the law FnTxnCommitNeeds returns true, and what it was given reads afterwards as before. No condition beyond the row's own.
-/
import Derived.Test.YtocinffmdciihaaDoorFrameD
import Derived.Test.YtocinffmdciihaaDoorFrameT
import Derived.Test.YtocinffmdciihaaDoorTie
import Derived.Test.YtocinffmdciihaaDoorCards
import Derived.Test.YtocinffmdciihaaDoorTxnY
import Derived.Test.YtocinffmdciihaaDoorTxnJ
import Derived.Test.YtocinffmdciihaaDoorTxnK
import Derived.Test.YtocinffmdciihaaDoorTxnQD
import Derived.SevenTiedAt
import Derived.Deep.DeepCutAuto
import Derived.Deep.QuietTactic
import Derived.BigQuiet
namespace Go.Proofs.YtocinffmdciihaaDoor.fnTxnCommitNeeds
open Go.ChangeShapes Go.WideShapes Go.ChangeAt Go.RowKit
open Go.ChangeMaps (open_string shut_string)
set_option linter.unusedVariables false
/-- the answer of a step, laid into the block of the running transaction -/
theorem lay_step {W w w2 : World} {BX lo hi lo' hi' : Nat} {c0 c1 : Value} {r : Int} {v y : Value} {l l0 : List Int} (kX : Blk w BX #[c0, c1] 25) (hb2 : Below w.heap.size w w2) (iy : Ints w2 lo' hi' y l) (hd : (lo' = lo ∧ hi' = hi) ∨ w.heap.size ≤ lo') (hdis : hi ≤ BX ∨ BX + 1 ≤ lo) (hkp : Keep BX (BX + 1) W w) :
    let w5 := (w2.setCell ⟨BX, 0, none⟩ (.int .i64 r)).setCell ⟨BX, 1, none⟩ y
    Blk w5 BX #[.int .i64 r, y] 25 ∧ Ints w5 lo' hi' y l ∧ (hi' ≤ BX ∨ BX + 1 ≤ lo') ∧ Keep BX (BX + 1) W w5 := by
  intro w5
  have hl := kX.lt
  have hk : Keep BX (BX + 1) w2 w5 := keep_set2 (Keep.refl _ _ _) (Nat.le_refl _) (Nat.lt_succ_self _) _ _
  have b := ((kX.below hb2).set 0 (.int .i64 r)).set 1 y
  have hdd : hi' ≤ BX ∨ BX + 1 ≤ lo' := by
    rcases hd with ⟨e1, e2⟩ | e
    · subst e1; subst e2; exact hdis
    · right; omega
  exact ⟨b, iy.keep hk hdd, hdd, (hkp.trans (Keep.of_below hb2 _ _)).trans hk⟩
theorem zero_ok {n : Nat} (h0 : 1 ≤ n) (h1 : n ≤ 4) : txnOk 0 (List.replicate n 0) = true := by
  refine okOf (by omega) (by omega) (by simpa using h0) (by simpa using h1) ?_ (by omega)
  unfold rangeW
  rw [List.all_eq_true]
  intro x hx
  rw [(List.mem_replicate.1 hx).2]
  rfl

set_option maxRecDepth 100000 in
set_option maxHeartbeats 8000000 in
theorem walk_at (w : World) (v0 : Value) (n0 : Nat) (b0 : Bytes w 0 w.heap.size v0 n0) (v1 : Value) (n1 : Nat) (b1 : Bytes w 0 w.heap.size v1 n1) (hL : Laid w) :
    Calls Tryd.prog 16 #[v0, v1] w fun e w' => e = .returned (.bool true) ∧ Below w.heap.size w w' := by
  obtain ⟨a0, c0, hv0, hn0, hx0⟩ := b0.open
  clear hx0
  subst hv0
  by_cases big0 : n0 ≤ 1048576
  case neg =>
    go_enter Tryd.func16, Tryd.ntmps16
    go_wp2_with fail
    go_ret
    exact ⟨rfl, Below.refl _ _⟩
  obtain ⟨a1, c1, hv1, hn1, hx1⟩ := b1.open
  clear hx1
  subst hv1
  by_cases big1 : n1 ≤ 1048576
  case neg =>
    go_enter Tryd.func16, Tryd.ntmps16
    go_wp2_with fail
    go_ret
    exact ⟨rfl, Below.refl _ _⟩
  go_enter Tryd.func16, Tryd.ntmps16
  go_wp2_with fail
  have HB : Below w.heap.size w w := Below.refl _ _
  refine (DrawTxnRecover_any _ n0 _ b0).mono ?_
  rintro e w1 ⟨rc, ws, tv, rfl, rr0, rr1, l0, l1, rng, it, hb1⟩
  have hs1 := hb1.size
  replace hL := hL.below hb1
  replace HB := below_step HB hb1 HB.size
  clear hb1
  obtain ⟨at0, ct0, hv_tv⟩ := own_form it
  subst hv_tv
  have hb2 : Below w1.heap.size w1 (w1.alloc (.cells #[.int .i64 rc, .slice at0 ws.length ct0] 25)) := (Below.refl _ _).alloc (Nat.le_refl _) _
  have hs2 := hb2.size
  replace it := it.below hb2
  replace hL := hL.below hb2
  replace HB := below_step HB hb2 HB.size
  have kT := Blk.new w1 #[.int .i64 rc, .slice at0 ws.length ct0] 25
  have hl2 := kT.lt
  clear hb2
  have q13_kT0 := kT.cell 0 rfl
  have q14_kT1 := kT.cell 1 rfl
  as_aux_lemma =>
   go_wp2_with fail
   generalize w1.alloc (.cells #[.int .i64 rc, .slice at0 ws.length ct0] 25) = w2 at *
   generalize w1.heap.size = B2 at *
   cases hv : txnOk rc ws
   case false =>
     have HV := Lib.hid hv
     have HR := Lib.hid (show recoverR rc ws = (0, [], false) by unfold recoverR; rw [hv]; rfl)
     clear hv
     clear q13_kT0 q14_kT1
     refine (opOf (specTxnRecover_any rc (.slice at0 ws.length ct0) ws _ it.ints) HR.out).mono ?_
     rintro e w3 ⟨y1, rfl, i1, hb3⟩
     have hs3 := hb3.size
     replace it := it.below hb3
     replace kT := kT.below hb3
     replace hL := hL.below hb3
     replace HB := below_step HB hb3 HB.size
     clear hb3
     obtain ⟨a1, c1, hv_y1⟩ := own_form i1
     subst hv_y1
     change IntsO _ _ _ (.slice a1 0 c1) ([] : List Int) at i1
     have q15_kT0 := kT.cell 0 rfl
     have q16_kT1 := kT.cell 1 rfl
     have hb4 : Below w3.heap.size w3 (w3.alloc (.cells #[.int .i64 0, .slice a1 0 c1] 25)) := (Below.refl _ _).alloc (Nat.le_refl _) _
     have hs4 := hb4.size
     replace it := it.below hb4
     replace i1 := i1.below hb4
     replace kT := kT.below hb4
     replace hL := hL.below hb4
     replace HB := below_step HB hb4 HB.size
     have kW := Blk.new w3 #[.int .i64 0, .slice a1 0 c1] 25
     have hl4 := kW.lt
     clear hb4
     have q17_kT0 := kT.cell 0 rfl
     have q18_kT1 := kT.cell 1 rfl
     have q19_kW0 := kW.cell 0 rfl
     have q20_kW1 := kW.cell 1 rfl
     as_aux_lemma =>
      go_wp2_with fail
      generalize w3.alloc (.cells #[.int .i64 0, .slice a1 0 c1] 25) = w4 at *
      generalize w3.heap.size = B4 at *
      clear q15_kT0 q16_kT1 q17_kT0 q18_kT1 q19_kW0 q20_kW1
      refine (opOf (implTxnRecover_any rc (.slice at0 ws.length ct0) ws _ it.ints hL) HR.out).mono ?_
      rintro e w5 ⟨y2, rfl, i2, hb5⟩
      have hs5 := hb5.size
      replace it := it.below hb5
      replace i1 := i1.below hb5
      replace kT := kT.below hb5
      replace kW := kW.below hb5
      replace hL := hL.below hb5
      replace HB := below_step HB hb5 HB.size
      clear hb5
      obtain ⟨a2, c2, hv_y2⟩ := own_form i2
      subst hv_y2
      change IntsO _ _ _ (.slice a2 0 c2) ([] : List Int) at i2
      have q21_kT0 := kT.cell 0 rfl
      have q22_kT1 := kT.cell 1 rfl
      have q23_kW0 := kW.cell 0 rfl
      have q24_kW1 := kW.cell 1 rfl
      have hb6 : Below w5.heap.size w5 (w5.alloc (.cells #[.int .i64 0, .slice a2 0 c2] 25)) := (Below.refl _ _).alloc (Nat.le_refl _) _
      have hs6 := hb6.size
      replace it := it.below hb6
      replace i1 := i1.below hb6
      replace i2 := i2.below hb6
      replace kT := kT.below hb6
      replace kW := kW.below hb6
      replace hL := hL.below hb6
      replace HB := below_step HB hb6 HB.size
      have kX := Blk.new w5 #[.int .i64 0, .slice a2 0 c2] 25
      have hl6 := kX.lt
      clear hb6
      have q25_kT0 := kT.cell 0 rfl
      have q26_kT1 := kT.cell 1 rfl
      have q27_kW0 := kW.cell 0 rfl
      have q28_kW1 := kW.cell 1 rfl
      have q29_kX0 := kX.cell 0 rfl
      have q30_kX1 := kX.cell 1 rfl
      as_aux_lemma =>
       go_wp2_with fail
       generalize w5.alloc (.cells #[.int .i64 0, .slice a2 0 c2] 25) = w6 at *
       generalize w5.heap.size = B6 at *
       clear q21_kT0 q22_kT1 q23_kW0 q24_kW1 q25_kT0 q26_kT1 q27_kW0 q28_kW1 q29_kX0 q30_kX1
       refine (sameTxn_any 0 0 _ _ (([] : List Int)) (([] : List Int)) _ i2.ints i1.ints true (by simp)).mono ?_
       rintro e w7 ⟨rfl, hb7⟩
       have hs7 := hb7.size
       replace it := it.below hb7
       replace i1 := i1.below hb7
       replace i2 := i2.below hb7
       replace kT := kT.below hb7
       replace kW := kW.below hb7
       replace kX := kX.below hb7
       replace hL := hL.below hb7
       replace HB := below_step HB hb7 HB.size
       clear hb7
       have q31_kT0 := kT.cell 0 rfl
       have q32_kT1 := kT.cell 1 rfl
       have q33_kW0 := kW.cell 0 rfl
       have q34_kW1 := kW.cell 1 rfl
       have q35_kX0 := kX.cell 0 rfl
       have q36_kX1 := kX.cell 1 rfl
       as_aux_lemma =>
        go_wp2_with fail
        clear q31_kT0 q32_kT1 q33_kW0 q34_kW1 q35_kX0 q36_kX1
        refine (specTxnValid_any rc _ ws _ it.ints false HV.out).mono ?_
        rintro e w8 ⟨rfl, hb8⟩
        have hs8 := hb8.size
        replace it := it.below hb8
        replace i1 := i1.below hb8
        replace i2 := i2.below hb8
        replace kT := kT.below hb8
        replace kW := kW.below hb8
        replace kX := kX.below hb8
        replace hL := hL.below hb8
        replace HB := below_step HB hb8 HB.size
        clear hb8
        have q37_kT0 := kT.cell 0 rfl
        have q38_kT1 := kT.cell 1 rfl
        have q39_kW0 := kW.cell 0 rfl
        have q40_kW1 := kW.cell 1 rfl
        have q41_kX0 := kX.cell 0 rfl
        have q42_kX1 := kX.cell 1 rfl
        as_aux_lemma =>
         go_wp2_with fail
         clear q37_kT0 q38_kT1 q39_kW0 q40_kW1 q41_kX0 q42_kX1
         refine (sameTxn_any 0 0 _ _ [] [] _ i2.ints i1.ints true (by simp)).mono ?_
         rintro e w9 ⟨rfl, hb9⟩
         have hs9 := hb9.size
         replace it := it.below hb9
         replace i1 := i1.below hb9
         replace i2 := i2.below hb9
         replace kT := kT.below hb9
         replace kW := kW.below hb9
         replace kX := kX.below hb9
         replace hL := hL.below hb9
         replace HB := below_step HB hb9 HB.size
         clear hb9
         have q43_kT0 := kT.cell 0 rfl
         have q44_kT1 := kT.cell 1 rfl
         have q45_kW0 := kW.cell 0 rfl
         have q46_kW1 := kW.cell 1 rfl
         have q47_kX0 := kX.cell 0 rfl
         have q48_kX1 := kX.cell 1 rfl
         as_aux_lemma =>
          go_wp2_with fail
          go_ret
          exact ⟨rfl, HB⟩
   case true =>
     have HV := Lib.hid hv; clear hv
     obtain ⟨A, L, B, hT⟩ : ∃ A L B, recoverR rc ws = (A, L, B) := ⟨_, _, _, rfl⟩
     have HR := Lib.hid hT; clear hT
     have hbb : (B != B) = false := by cases B <;> rfl
     have hbe : (B == B) = true := by cases B <;> rfl
     clear q13_kT0 q14_kT1
     refine (opOf (specTxnRecover_any rc (.slice at0 ws.length ct0) ws _ it.ints) HR.out).mono ?_
     rintro e w3 ⟨y1, rfl, i1, hb3⟩
     have hs3 := hb3.size
     replace it := it.below hb3
     replace kT := kT.below hb3
     replace hL := hL.below hb3
     replace HB := below_step HB hb3 HB.size
     clear hb3
     obtain ⟨a1, c1, hv_y1⟩ := own_form i1
     subst hv_y1
     have q49_kT0 := kT.cell 0 rfl
     have q50_kT1 := kT.cell 1 rfl
     have hb4 : Below w3.heap.size w3 (w3.alloc (.cells #[.int .i64 A, .slice a1 (L).length c1] 25)) := (Below.refl _ _).alloc (Nat.le_refl _) _
     have hs4 := hb4.size
     replace it := it.below hb4
     replace i1 := i1.below hb4
     replace kT := kT.below hb4
     replace hL := hL.below hb4
     replace HB := below_step HB hb4 HB.size
     have kW := Blk.new w3 #[.int .i64 A, .slice a1 (L).length c1] 25
     have hl4 := kW.lt
     clear hb4
     have q51_kT0 := kT.cell 0 rfl
     have q52_kT1 := kT.cell 1 rfl
     have q53_kW0 := kW.cell 0 rfl
     have q54_kW1 := kW.cell 1 rfl
     as_aux_lemma =>
      go_wp2_with fail
      generalize w3.alloc (.cells #[.int .i64 A, .slice a1 (L).length c1] 25) = w4 at *
      generalize w3.heap.size = B4 at *
      clear q49_kT0 q50_kT1 q51_kT0 q52_kT1 q53_kW0 q54_kW1
      refine (opOf (implTxnRecover_any rc (.slice at0 ws.length ct0) ws _ it.ints hL) HR.out).mono ?_
      rintro e w5 ⟨y2, rfl, i2, hb5⟩
      have hs5 := hb5.size
      replace it := it.below hb5
      replace i1 := i1.below hb5
      replace kT := kT.below hb5
      replace kW := kW.below hb5
      replace hL := hL.below hb5
      replace HB := below_step HB hb5 HB.size
      clear hb5
      obtain ⟨a2, c2, hv_y2⟩ := own_form i2
      subst hv_y2
      have q55_kT0 := kT.cell 0 rfl
      have q56_kT1 := kT.cell 1 rfl
      have q57_kW0 := kW.cell 0 rfl
      have q58_kW1 := kW.cell 1 rfl
      have hb6 : Below w5.heap.size w5 (w5.alloc (.cells #[.int .i64 A, .slice a2 (L).length c2] 25)) := (Below.refl _ _).alloc (Nat.le_refl _) _
      have hs6 := hb6.size
      replace it := it.below hb6
      replace i1 := i1.below hb6
      replace i2 := i2.below hb6
      replace kT := kT.below hb6
      replace kW := kW.below hb6
      replace hL := hL.below hb6
      replace HB := below_step HB hb6 HB.size
      have kX := Blk.new w5 #[.int .i64 A, .slice a2 (L).length c2] 25
      have hl6 := kX.lt
      clear hb6
      have q59_kT0 := kT.cell 0 rfl
      have q60_kT1 := kT.cell 1 rfl
      have q61_kW0 := kW.cell 0 rfl
      have q62_kW1 := kW.cell 1 rfl
      have q63_kX0 := kX.cell 0 rfl
      have q64_kX1 := kX.cell 1 rfl
      as_aux_lemma =>
       go_wp2_with fail
       generalize w5.alloc (.cells #[.int .i64 A, .slice a2 (L).length c2] 25) = w6 at *
       generalize w5.heap.size = B6 at *
       clear q55_kT0 q56_kT1 q57_kW0 q58_kW1 q59_kT0 q60_kT1 q61_kW0 q62_kW1 q63_kX0 q64_kX1
       refine (sameTxn_any A A _ _ (L) (L) _ i2.ints i1.ints true (by simp)).mono ?_
       rintro e w7 ⟨rfl, hb7⟩
       have hs7 := hb7.size
       replace it := it.below hb7
       replace i1 := i1.below hb7
       replace i2 := i2.below hb7
       replace kT := kT.below hb7
       replace kW := kW.below hb7
       replace kX := kX.below hb7
       replace hL := hL.below hb7
       replace HB := below_step HB hb7 HB.size
       clear hb7
       have q65_kT0 := kT.cell 0 rfl
       have q66_kT1 := kT.cell 1 rfl
       have q67_kW0 := kW.cell 0 rfl
       have q68_kW1 := kW.cell 1 rfl
       have q69_kX0 := kX.cell 0 rfl
       have q70_kX1 := kX.cell 1 rfl
       as_aux_lemma =>
        go_wp2_with fail
        clear q65_kT0 q66_kT1 q67_kW0 q68_kW1 q69_kX0 q70_kX1
        refine (specTxnValid_any rc _ ws _ it.ints true HV.out).mono ?_
        rintro e w8 ⟨rfl, hb8⟩
        have hs8 := hb8.size
        replace it := it.below hb8
        replace i1 := i1.below hb8
        replace i2 := i2.below hb8
        replace kT := kT.below hb8
        replace kW := kW.below hb8
        replace kX := kX.below hb8
        replace hL := hL.below hb8
        replace HB := below_step HB hb8 HB.size
        clear hb8
        have q71_kT0 := kT.cell 0 rfl
        have q72_kT1 := kT.cell 1 rfl
        have q73_kW0 := kW.cell 0 rfl
        have q74_kW1 := kW.cell 1 rfl
        have q75_kX0 := kX.cell 0 rfl
        have q76_kX1 := kX.cell 1 rfl
        as_aux_lemma =>
         go_wp2_with (at_make; refine wpl_make elInt rfl _ _ rfl .i64 .i64 _ _ ws.length rfl rfl rfl rfl (by omega) (by unfold maxLen; omega) ?_; intro w9 hown hb9)
         have iF : IntsO w9 w8.heap.size w9.heap.size (.slice (some ⟨w8.heap.size, 0, none⟩) ws.length ws.length) (List.replicate ws.length 0) := by
           have e : (Value.int .i64 0).cells = #[.int .i64 0] := rfl
           rw [Nat.mul_one, e, toList_madeCells_one] at hown
           unfold IntsO
           rw [List.map_replicate, List.length_replicate]
           exact hown
         clear hown
         clear q71_kT0 q72_kT1 q73_kW0 q74_kW1 q75_kX0 q76_kX1
         have hs9 := hb9.size
         replace it := it.below hb9
         replace i1 := i1.below hb9
         replace i2 := i2.below hb9
         replace kT := kT.below hb9
         replace kW := kW.below hb9
         replace kX := kX.below hb9
         replace hL := hL.below hb9
         replace HB := below_step HB hb9 HB.size
         clear hb9
         have q77_kT0 := kT.cell 0 rfl
         have q78_kT1 := kT.cell 1 rfl
         have q79_kW0 := kW.cell 0 rfl
         have q80_kW1 := kW.cell 1 rfl
         have q81_kX0 := kX.cell 0 rfl
         have q82_kX1 := kX.cell 1 rfl
         have hb10 : Below w9.heap.size w9 (w9.alloc (.cells #[.int .i64 0, .slice (some ⟨w8.heap.size, 0, none⟩) ws.length ws.length] 25)) := (Below.refl _ _).alloc (Nat.le_refl _) _
         have hfh := iF.2.2
         have hs10 := hb10.size
         replace it := it.below hb10
         replace i1 := i1.below hb10
         replace i2 := i2.below hb10
         replace iF := iF.below hb10
         replace kT := kT.below hb10
         replace kW := kW.below hb10
         replace kX := kX.below hb10
         replace hL := hL.below hb10
         replace HB := below_step HB hb10 HB.size
         have kX := Blk.new w9 #[.int .i64 0, .slice (some ⟨w8.heap.size, 0, none⟩) ws.length ws.length] 25
         have hlX := kX.lt
         clear hb10
         have q83_kT0 := kT.cell 0 rfl
         have q84_kT1 := kT.cell 1 rfl
         have q85_kW0 := kW.cell 0 rfl
         have q86_kW1 := kW.cell 1 rfl
         have q87_kX0 := kX.cell 0 rfl
         have q88_kX1 := kX.cell 1 rfl
         as_aux_lemma =>
          go_wp2_with fail
          generalize w9.alloc (.cells #[.int .i64 0, .slice (some ⟨w8.heap.size, 0, none⟩) ws.length ws.length] 25) = w10 at *
          generalize w9.heap.size = BX at *
          clear q77_kT0 q78_kT1 q79_kW0 q80_kW1 q81_kX0 q82_kX1 q83_kT0 q84_kT1 q85_kW0 q86_kW1 q87_kX0 q88_kX1
          have hfl : (List.replicate ws.length (0 : Int)).length = ws.length := List.length_replicate
          have HFL := Lib.hid hfl; clear hfl
          go_loopw [11] (fun i wr => ∃ (k : Nat) (rx : Int) (xs : List Int) (av : Option Addr) (cv lo hi : Nat), k ≤ 10 ∧ i = .int .i64 k ∧ Blk wr BX #[.int .i64 rx, .slice av xs.length cv] 25 ∧ Ints wr lo hi (.slice av xs.length cv) xs ∧ (hi ≤ BX ∨ BX + 1 ≤ lo) ∧ Keep BX (BX + 1) w10 wr ∧ txnOk rx xs = true) (fun i _ => 10 - (intOf i).toNat)
          case atStart => exact ⟨0, 0, List.replicate ws.length 0, _, _, _, _, Nat.zero_le _, rfl, by rw [HFL.out]; exact kX, by rw [HFL.out]; exact iF.ints, .inl (by omega), Keep.refl _ _ _, zero_ok l0 l1⟩
          case round =>
            obtain ⟨k, rx, xs, av, cv, lo, hi, hk, rfl, kXr, ixr, hdis, hkp, hok⟩ := hrel
            have HOK := Lib.hid hok; clear hok
            have hsz := hkp.size
            have hlXr := kXr.lt
            have hLr := hL.keep hkp (by have := hL.lt; omega)
            have x0 := kXr.cell 0 rfl
            have x1 := kXr.cell 1 rfl
            by_cases hlt : k < 10
            · skip
              have hq0 : 0 ≤ (k : Int) * (k : Int) := Int.mul_nonneg (by omega) (by omega)
              have hq1 : (k : Int) * (k : Int) ≤ 10 * 10 := Int.mul_le_mul (by omega) (by omega) (by omega) (by omega)
              have hww0 : IntKind.i64.wrap ((k : Int) * (k : Int)) = (k : Int) * (k : Int) := IntWalk.i64_in _ ⟨by omega, by omega⟩
              have hww1 : IntKind.i64.wrap ((n1 : Int) + (k : Int) * (k : Int)) = (n1 : Int) + (k : Int) * (k : Int) := IntWalk.i64_in _ ⟨by omega, by omega⟩
              have hww2 : IntKind.i64.wrap ((k : Int) * 5) = (k : Int) * 5 := IntWalk.i64_in _ ⟨by omega, by omega⟩
              have hww3 : IntKind.i64.wrap ((n1 : Int) + (k : Int) * (k : Int) + (k : Int) * 5) = (n1 : Int) + (k : Int) * (k : Int) + (k : Int) * 5 := IntWalk.i64_in _ ⟨by omega, by omega⟩
              obtain ⟨r2, l2, hT⟩ : ∃ r2 l2, stepR rx xs ((n1 : Int) + (k : Int) * (k : Int) + (k : Int) * 5) = (r2, l2) := ⟨_, _, rfl⟩
              have HT := Lib.hid hT
              have HO2 := Lib.hid (step_ok HOK.out hT)
              obtain ⟨s, hs⟩ : ∃ s, txnStat r2 l2 = s := ⟨_, rfl⟩
              have HSS := Lib.hid hs
              have hl24 : l2.length ≤ 4 := (txnOk_parts HO2.out).2.2.2.1
              clear hT hs
              have hn0 : 0 ≤ (n1 : Int) + (k : Int) * (k : Int) + (k : Int) * 5 := by omega
              have hn1' : (n1 : Int) + (k : Int) * (k : Int) + (k : Int) * 5 ≤ 1000000000 := by omega
              go_wp2_with fail
              refine (stepOf (txnStep_any rx _ xs _ _ ixr hLr hn0 hn1') HT.out).mono ?_
              rintro e w2' ⟨a9, c9, lo', hi', rfl, iy, hd, hb2⟩
              have d0 := (kXr.below hb2).cell 0 rfl
              have d1 := (kXr.below hb2).cell 1 rfl
              have g0 := (kXr.below hb2).frozen 0
              have g1 := (kXr.below hb2).frozen 1
              obtain ⟨kX5, i5, hdd, hk5⟩ := lay_step (r := r2) (v := .slice none 0 0) (l0 := []) kXr hb2 iy hd hdis hkp
              have e0 := kX5.cell 0 rfl
              have e1 := kX5.cell 1 rfl
              clear hb2 iy hd x0 x1 kXr ixr hdis hkp hLr hww0 hww1 hww2 hww3 hq0 hq1 hn0 hn1'
              as_aux_lemma =>
               go_wp2_with fail
               refine (implTxnStatus_any r2 _ l2 _ i5 s HSS.out).mono ?_
               rintro e w6' ⟨rfl, hb6⟩
               have kX6 := kX5.below hb6
               have i6 := i5.below hb6
               have hk6 := hk5.trans (Keep.of_below hb6 _ _)
               have y0 := kX6.cell 0 rfl
               have y1 := kX6.cell 1 rfl
               clear hb6 e0 e1 d0 d1 g0 g1
               as_aux_lemma =>
                by_cases hs2 : s = 2
                · subst hs2
                  obtain ⟨a8, c8, hv8, hn8, hc8⟩ := i6.open
                  cases hv8
                  have HC8 := Lib.hid hc8; clear hc8
                  have HFU := Lib.hid (fun j (hj : j < l2.length) => full_nth (stat_full HSS.out) hj)
                  go_wp2_with fail
                  go_loop [12] (fun i => ∃ j : Nat, j ≤ l2.length ∧ i = .int .i64 j) (fun i => l2.length - (intOf i).toNat)
                  case atStart => exact ⟨0, Nat.zero_le _, rfl⟩
                  case round =>
                    obtain ⟨j, hj, rfl⟩ := hrel
                    by_cases hlj : j < l2.length
                    · obtain ⟨p, hi8, hkc⟩ := HC8.out j hlj
                      have hix := hi8 j rfl
                      rw [HFU.out j hlj] at hkc
                      clear hi8
                      go_wp2_with fail
                      go_round
                      case rel => exact ⟨j + 1, by omega, by go_num⟩
                      case measure => simp [intOf]; omega
                    · go_wp2_with fail
                      go_roundw
                      case rel => exact ⟨k + 1, r2, l2, _, _, _, _, by omega, by go_num, kX6, i6, hdd, hk6, HO2.out⟩
                      case measure => simp [intOf]; omega
                · have hs2b : (s != 2) = true := by simp [hs2]
                  go_wp2_with fail
                  go_roundw
                  case rel => exact ⟨k + 1, r2, l2, _, _, _, _, by omega, by go_num, kX6, i6, hdd, hk6, HO2.out⟩
                  case measure => simp [intOf]; omega
            · have hBe := HB.trans (hkp.below (B := w.heap.size) (by omega) (by omega))
              go_wp2_with fail
              refine (implTxnValid_any rx _ xs _ ixr true HOK.out).mono ?_
              rintro e w6' ⟨rfl, hb6⟩
              go_wp2_with fail
              go_ret
              exact ⟨rfl, below_step hBe hb6 hBe.size⟩

/-! ### THE ROW's STEP -/
set_option maxRecDepth 100000 in
theorem lifted (os : Os) (started : os.Started) (H : Type) (enc : TypeId × Value → H) :
    ReturnsInHanded {} Tryd.checked os 16 .any (fun w args => (Rows.fnTxnCommitNeedsSpec.pre enc Tryd.prog Tryd.f16 [] false w args ∧ laidMetH Tryd.prog laidL w) ∧ sizedMet enc Tryd.prog Tryd.f16 (OpenSpec.ofChange Rows.fnTxnCommitNeedsSpec) false w args)
      (Rows.fnTxnCommitNeedsSpec.post enc Tryd.prog Tryd.f16 false true false false) := by
  refine returnsInHanded_of_change_and (C := Tryd.checked) (X := fun w _ => laidMetH Tryd.prog laidL w) (fun _ _ _ hh h => h.of_heap hh) own started (by kernel_rfl) Tryd.func16
    (ChangeSpec.witness_at (enc := enc) (C := Tryd.checked) (os := os) (X := fun w _ => laidMetH Tryd.prog laidL w) false (laidWorld os) #[.slice none 0 0, .slice none 0 0] 8 rfl (by kernel_rfl) (by kernel_rfl) (by kernel_rfl) (by kernel_rfl) (by kernel_rfl) (laidWorld_met os _)) ?_
  intro W base args ds gs before hval0 hW _ _ hL _
  have hval : ∀ (j : Nat) t v, Tryd.f16.params[j]? = some t → args[j]? = some v → Value.okWide Tryd.prog W .any base t v := hval0
  have hW' := hW
  obtain ⟨p, q, hA0, hV, rfl, hfz, hnd⟩ := hW
  have hA : DataW.TrodAll enc Tryd.prog W 0 (fun _ => true) true Tryd.f16.params.toList args.toList ds p := hA0
  rw [Tryd.params16] at hA hval
  obtain ⟨v0, vs0, d0, ds0, p0, q0, hargs, rfl, rfl, h0, r0⟩ := trodAll_cons hA
  obtain ⟨v1, vs1, d1, ds1, p1, q1, rfl, rfl, rfl, h1, r1⟩ := trodAll_cons r0
  obtain ⟨rfl, rfl, rfl⟩ := trodAll_nil r1
  obtain rfl : args = #[v0, v1] := by cases args; simp_all
  obtain ⟨rfl, rfl⟩ := trodVars_none hV
  obtain ⟨n0, b0⟩ := bytes_in (hval 0 _ v0 rfl rfl) h0
  have lt0 := lt_in h0
  obtain ⟨n1, b1⟩ := bytes_in (hval 1 _ v1 rfl rfl) h1
  have lt1 := lt_in h1
  clear hA0 hval0
  refine (walk_at W v0 n0 b0 v1 n1 b1 (laid_of hL)).mono fun e W' ⟨he, bel⟩ => ?_
  subst he
  exact ⟨_, rfl, _, _, _, [], _, [], hW', trodAll_mk1 (shut_bool Tryd.underlying4 _), (trodAll_cons_mk (Below.trod laidOut (by kernel_rfl) (of_decide_eq_true (by kernel_rfl)) h0 bel lt0) (trodAll_cons_mk (Below.trod laidOut (by kernel_rfl) (of_decide_eq_true (by kernel_rfl)) h1 bel lt1) trodAll_mk0)), rfl, bel.frame _, fun h => by cases h⟩

set_option maxRecDepth 100000 in
theorem closed : joinedFacts Tryd.prog 16 Tryd.f16 Rows.fnTxnCommitNeedsSpec Rows.fnTxnCommitNeedsRow = true := by
  unfold joinedFacts
  rw [may, lifts, mk]
  kernel_rfl
theorem over : Rows.fnTxnCommitNeedsRow.holds Tryd.pinned (OpenSpec.ofChange Rows.fnTxnCommitNeedsSpec) :=
  OpenClaim.holds_of_wide 16 Tryd.f16 rfl rfl rfl rfl rfl rfl rfl ⟨rfl, rfl, rfl, rfl, rfl⟩ rfl rfl rfl rfl rfl (by as_aux_lemma => kernel_rfl) Tryd.func16 closed
    (of_decide_eq_true (by as_aux_lemma => kernel_rfl)) (by unfold Func.isWrapper; rw [if_neg (of_decide_eq_false (by as_aux_lemma => kernel_rfl))]; exact ⟨rfl, rfl⟩)
    (fun os started H enc _ => lifted os started H enc)

/-- THE STATEMENT: the tied card -/
theorem proved : Rows.FnTxnCommitNeedsCardSaid :=
  Claim7.holds_tied_plain_at .later [] [.handle] true Rows.fnTxnCommitNeedsCard.stood.harness true
    over (fun _ h => by cases h) (by kernel_rfl) (fun _ h => by cases h) fnTxnCommitNeeds_row_tie rfl ⟨rfl, rfl⟩ (by kernel_rfl) rfl
    (fun f fn hf hfn => by
      obtain rfl : f = 16 := Option.some.inj ((show Tryd.prog.funcNamed "loop.example/flexquorum/laws.FnTxnCommitNeeds" = some 16 by kernel_rfl).symm.trans hf) |>.symm
      obtain rfl : fn = Tryd.f16 := (Option.some.inj (Tryd.func16.symm.trans hfn)).symm
      exact ⟨by kernel_rfl, fun j t ht => by
        rw [Tryd.params16] at ht
        have hm := Array.mem_of_getElem? ht
        simp only [List.mem_toArray, List.mem_cons, List.not_mem_nil, or_false] at hm
        (rcases hm with hm | hm)
        · (subst hm; exact (show Tryd.prog.wantsStandIn 22 = false by kernel_rfl))
        · (subst hm; exact (show Tryd.prog.wantsStandIn 22 = false by kernel_rfl))⟩)
    (by kernel_rfl)
end Go.Proofs.YtocinffmdciihaaDoor.fnTxnCommitNeeds
