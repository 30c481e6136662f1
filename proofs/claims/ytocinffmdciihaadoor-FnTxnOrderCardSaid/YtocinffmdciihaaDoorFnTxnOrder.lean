/-
  For every input the law FnTxnOrder returns true, and what it was given reads afterwards as before. No condition beyond the row's own.
-/
import Derived.Test.YtocinffmdciihaaDoorFrameD
import Derived.Test.YtocinffmdciihaaDoorFrameT
import Derived.Test.YtocinffmdciihaaDoorTie
import Derived.Test.YtocinffmdciihaaDoorCards
import Derived.Test.YtocinffmdciihaaDoorTxnY
import Derived.Test.YtocinffmdciihaaDoorTxnJ
import Derived.Test.YtocinffmdciihaaDoorTxnK
import Derived.Test.YtocinffmdciihaaDoorTxnQD
import Derived.SevenTiedAt
import Derived.Deep.DeepCutAuto
import Derived.Deep.QuietTactic
import Derived.Deep.RegionLaw
import Derived.BigQuiet
namespace Go.Proofs.YtocinffmdciihaaDoor.fnTxnOrder
open Go.ChangeShapes Go.WideShapes Go.ChangeAt Go.RowKit
open Go.ChangeMaps (open_string shut_string)
set_option linter.unusedVariables false
/-- the answer of a step, laid into the block of the running transaction -/
theorem lay_step {W w w2 : World} {BX lo hi lo' hi' : Nat} {c0 c1 : Value} {r : Int} {v y : Value} {l l0 : List Int} (kX : Blk w BX #[c0, c1] 25) (hb2 : Below w.heap.size w w2) (iy : Ints w2 lo' hi' y l) (hd : (lo' = lo ∧ hi' = hi) ∨ w.heap.size ≤ lo') (hdis : hi ≤ BX ∨ BX + 1 ≤ lo) (hkp : Keep BX (BX + 1) W w) :
    let w5 := (w2.setCell ⟨BX, 0, none⟩ (.int .i64 r)).setCell ⟨BX, 1, none⟩ y
    Blk w5 BX #[.int .i64 r, y] 25 ∧ Ints w5 lo' hi' y l ∧ (hi' ≤ BX ∨ BX + 1 ≤ lo') ∧ Keep BX (BX + 1) W w5 := by
  intro w5
  have hl := kX.lt
  have hk : Keep BX (BX + 1) w2 w5 := keep_set2 (Keep.refl _ _ _) (Nat.le_refl _) (Nat.lt_succ_self _) _ _
  have b := ((kX.below hb2).set 0 (.int .i64 r)).set 1 y
  have hdd : hi' ≤ BX ∨ BX + 1 ≤ lo' := by
    rcases hd with ⟨e1, e2⟩ | e
    · subst e1; subst e2; exact hdis
    · right; omega
  exact ⟨b, iy.keep hk hdd, hdd, (hkp.trans (Keep.of_below hb2 _ _)).trans hk⟩
theorem zero_ok {n : Nat} (h0 : 1 ≤ n) (h1 : n ≤ 4) : txnOk 0 (List.replicate n 0) = true := by
  refine okOf (by omega) (by omega) (by simpa using h0) (by simpa using h1) ?_ (by omega)
  unfold rangeW
  rw [List.all_eq_true]
  intro x hx
  rw [(List.mem_replicate.1 hx).2]
  rfl
theorem ord_ok {n m k : Nat} {r : Int} (h0 : 1 ≤ n) (h1 : n ≤ 4) (hk : k ≤ n) (hr : r = 0 ∨ r = 1) : txnOk r (ordS n m k) = true := by
  refine okOf (by omega) (by omega) (by rw [ordS_len]; exact h0) (by rw [ordS_len]; exact h1) (ord_at h0 h1 hk).1 (by omega)
theorem ord_stat {n m k : Nat} {r : Int} (h0 : 1 ≤ n) (h1 : n ≤ 4) (hk : k < n) (hr : r = 0 ∨ r = 1) : txnStat r (ordS n m k) = 0 := by
  have hf := ((ord_at (m := m) h0 h1 (Nat.le_of_lt hk)).2.1 hk).1
  unfold txnStat statOf
  rw [ord_ok h0 h1 (Nat.le_of_lt hk) hr, hf]
  rcases hr with rfl | rfl <;> rfl
theorem ord_write {n m k : Nat} {r : Int} (h0 : 1 ≤ n) (h1 : n ≤ 4) (hk : k < n) (hr : r = 0 ∨ r = 1) : writeR r (ordS n m k) (((k + m) % n : Nat) : Int) = (r, ordS n m (k + 1), true) := by
  have hz := ((ord_at (m := m) h0 h1 (Nat.le_of_lt hk)).2.1 hk).2
  have hl : (k + m) % n < n := Nat.mod_lt _ (by omega)
  have hg : (decide (0 ≤ (((k + m) % n : Nat) : Int)) && decide ((((k + m) % n : Nat) : Int) < ((ordS n m k).length : Int))) = true := by
    rw [ordS_len, Bool.and_eq_true, decide_eq_true_iff, decide_eq_true_iff]; omega
  have he : isEnded r = false := by rcases hr with rfl | rfl <;> rfl
  unfold writeR writeT
  rw [ord_ok h0 h1 (Nat.le_of_lt hk) hr, hg, Int.toNat_natCast, hz, he]
  rfl
theorem ord_stage {n m k : Nat} (h0 : 1 ≤ n) (h1 : n ≤ 4) (hk : k ≤ n) : stageR 0 (ordS n m k) = (1, ordS n m k, true) := by
  unfold stageR stageT
  rw [ord_ok h0 h1 hk (.inl rfl)]
  rfl
theorem ord_end {n m : Nat} (h0 : 1 ≤ n) (h1 : n ≤ 4) : txnStat 1 (ordS n m n) = 2 := by
  have hf := (ord_at (m := m) h0 h1 (Nat.le_refl n)).2.2 rfl
  unfold txnStat statOf
  rw [ord_ok h0 h1 (Nat.le_refl n) (.inr rfl), hf]
  rfl

set_option maxRecDepth 100000 in
set_option maxHeartbeats 8000000 in
theorem walk_at (w : World) (v0 : Value) (n0 : Nat) (b0 : Bytes w 0 w.heap.size v0 n0) (v1 : Value) (n1 : Nat) (b1 : Bytes w 0 w.heap.size v1 n1) (hL : Laid w) :
    Calls Tryd.prog 9 #[v0, v1] w fun e w' => e = .returned (.bool true) ∧ Below w.heap.size w w' := by
  obtain ⟨a0, c0, hv0, hn0, hx0⟩ := b0.open
  clear hx0
  subst hv0
  by_cases big0 : n0 ≤ 1048576
  case neg =>
    go_enter Tryd.func9, Tryd.ntmps9
    go_wp2_with fail
    go_ret
    exact ⟨rfl, Below.refl _ _⟩
  obtain ⟨a1, c1, hv1, hn1, hx1⟩ := b1.open
  clear hx1
  subst hv1
  by_cases big1 : n1 ≤ 1048576
  case neg =>
    go_enter Tryd.func9, Tryd.ntmps9
    go_wp2_with fail
    go_ret
    exact ⟨rfl, Below.refl _ _⟩
  go_enter Tryd.func9, Tryd.ntmps9
  go_wp2_with fail
  have HB : Below w.heap.size w w := Below.refl _ _
  refine (DrawTxnStage_any _ n0 _ b0).mono ?_
  rintro e w1 ⟨rc, ws, tv, rfl, rr0, rr1, l0, l1, rng, it, hb1⟩
  have hs1 := hb1.size
  replace hL := hL.below hb1
  replace HB := below_step HB hb1 HB.size
  clear hb1
  obtain ⟨at0, ct0, hv_tv⟩ := own_form it
  subst hv_tv
  have hb2 : Below w1.heap.size w1 (w1.alloc (.cells #[.int .i64 rc, .slice at0 ws.length ct0] 25)) := (Below.refl _ _).alloc (Nat.le_refl _) _
  have hs2 := hb2.size
  replace it := it.below hb2
  replace hL := hL.below hb2
  replace HB := below_step HB hb2 HB.size
  have kT := Blk.new w1 #[.int .i64 rc, .slice at0 ws.length ct0] 25
  have hl2 := kT.lt
  clear hb2
  have q1_kT0 := kT.cell 0 rfl
  have q2_kT1 := kT.cell 1 rfl
  as_aux_lemma =>
   go_wp2_with fail
   generalize w1.alloc (.cells #[.int .i64 rc, .slice at0 ws.length ct0] 25) = w2 at *
   generalize w1.heap.size = B2 at *
   cases hv : txnOk rc ws
   case false =>
     have HR := Lib.hid (show stageR rc ws = (0, [], false) by unfold stageR; rw [hv]; rfl)
     clear hv
     clear q1_kT0 q2_kT1
     refine (opOf (specTxnStage_any rc (.slice at0 ws.length ct0) ws _ it.ints) HR.out).mono ?_
     rintro e w3 ⟨y1, rfl, i1, hb3⟩
     have hs3 := hb3.size
     replace it := it.below hb3
     replace kT := kT.below hb3
     replace hL := hL.below hb3
     replace HB := below_step HB hb3 HB.size
     clear hb3
     obtain ⟨a1, c1, hv_y1⟩ := own_form i1
     subst hv_y1
     change IntsO _ _ _ (.slice a1 0 c1) ([] : List Int) at i1
     have q3_kT0 := kT.cell 0 rfl
     have q4_kT1 := kT.cell 1 rfl
     have hb4 : Below w3.heap.size w3 (w3.alloc (.cells #[.int .i64 0, .slice a1 0 c1] 25)) := (Below.refl _ _).alloc (Nat.le_refl _) _
     have hs4 := hb4.size
     replace it := it.below hb4
     replace i1 := i1.below hb4
     replace kT := kT.below hb4
     replace hL := hL.below hb4
     replace HB := below_step HB hb4 HB.size
     have kW := Blk.new w3 #[.int .i64 0, .slice a1 0 c1] 25
     have hl4 := kW.lt
     clear hb4
     have q5_kT0 := kT.cell 0 rfl
     have q6_kT1 := kT.cell 1 rfl
     have q7_kW0 := kW.cell 0 rfl
     have q8_kW1 := kW.cell 1 rfl
     as_aux_lemma =>
      go_wp2_with fail
      generalize w3.alloc (.cells #[.int .i64 0, .slice a1 0 c1] 25) = w4 at *
      generalize w3.heap.size = B4 at *
      clear q3_kT0 q4_kT1 q5_kT0 q6_kT1 q7_kW0 q8_kW1
      refine (opOf (implTxnStage_any rc (.slice at0 ws.length ct0) ws _ it.ints hL) HR.out).mono ?_
      rintro e w5 ⟨y2, rfl, i2, hb5⟩
      have hs5 := hb5.size
      replace it := it.below hb5
      replace i1 := i1.below hb5
      replace kT := kT.below hb5
      replace kW := kW.below hb5
      replace hL := hL.below hb5
      replace HB := below_step HB hb5 HB.size
      clear hb5
      obtain ⟨a2, c2, hv_y2⟩ := own_form i2
      subst hv_y2
      change IntsO _ _ _ (.slice a2 0 c2) ([] : List Int) at i2
      have q9_kT0 := kT.cell 0 rfl
      have q10_kT1 := kT.cell 1 rfl
      have q11_kW0 := kW.cell 0 rfl
      have q12_kW1 := kW.cell 1 rfl
      have hb6 : Below w5.heap.size w5 (w5.alloc (.cells #[.int .i64 0, .slice a2 0 c2] 25)) := (Below.refl _ _).alloc (Nat.le_refl _) _
      have hs6 := hb6.size
      replace it := it.below hb6
      replace i1 := i1.below hb6
      replace i2 := i2.below hb6
      replace kT := kT.below hb6
      replace kW := kW.below hb6
      replace hL := hL.below hb6
      replace HB := below_step HB hb6 HB.size
      have kX := Blk.new w5 #[.int .i64 0, .slice a2 0 c2] 25
      have hl6 := kX.lt
      clear hb6
      have q13_kT0 := kT.cell 0 rfl
      have q14_kT1 := kT.cell 1 rfl
      have q15_kW0 := kW.cell 0 rfl
      have q16_kW1 := kW.cell 1 rfl
      have q17_kX0 := kX.cell 0 rfl
      have q18_kX1 := kX.cell 1 rfl
      as_aux_lemma =>
       go_wp2_with fail
       generalize w5.alloc (.cells #[.int .i64 0, .slice a2 0 c2] 25) = w6 at *
       generalize w5.heap.size = B6 at *
       clear q9_kT0 q10_kT1 q11_kW0 q12_kW1 q13_kT0 q14_kT1 q15_kW0 q16_kW1 q17_kX0 q18_kX1
       refine (sameTxn_any 0 0 _ _ (([] : List Int)) (([] : List Int)) _ i2.ints i1.ints true (by simp)).mono ?_
       rintro e w7 ⟨rfl, hb7⟩
       have hs7 := hb7.size
       replace it := it.below hb7
       replace i1 := i1.below hb7
       replace i2 := i2.below hb7
       replace kT := kT.below hb7
       replace kW := kW.below hb7
       replace kX := kX.below hb7
       replace hL := hL.below hb7
       replace HB := below_step HB hb7 HB.size
       clear hb7
       have q19_kT0 := kT.cell 0 rfl
       have q20_kT1 := kT.cell 1 rfl
       have q21_kW0 := kW.cell 0 rfl
       have q22_kW1 := kW.cell 1 rfl
       have q23_kX0 := kX.cell 0 rfl
       have q24_kX1 := kX.cell 1 rfl
       as_aux_lemma =>
        go_wp2_with fail
        clear q19_kT0 q20_kT1 q21_kW0 q22_kW1 q23_kX0 q24_kX1
        refine (sameTxn_any 0 0 _ _ [] [] _ i2.ints i1.ints true (by simp)).mono ?_
        rintro e w8 ⟨rfl, hb8⟩
        have hs8 := hb8.size
        replace it := it.below hb8
        replace i1 := i1.below hb8
        replace i2 := i2.below hb8
        replace kT := kT.below hb8
        replace kW := kW.below hb8
        replace kX := kX.below hb8
        replace hL := hL.below hb8
        replace HB := below_step HB hb8 HB.size
        clear hb8
        have q25_kT0 := kT.cell 0 rfl
        have q26_kT1 := kT.cell 1 rfl
        have q27_kW0 := kW.cell 0 rfl
        have q28_kW1 := kW.cell 1 rfl
        have q29_kX0 := kX.cell 0 rfl
        have q30_kX1 := kX.cell 1 rfl
        as_aux_lemma =>
         go_wp2_with fail
         go_ret
         exact ⟨rfl, HB⟩
   case true =>
     cases h0 : (rc == 0)
     case false =>
       have HR := Lib.hid (show stageR rc ws = (rc, ws, false) by unfold stageR stageT; rw [hv, h0]; rfl)
       clear hv
       clear q1_kT0 q2_kT1
       refine (opOf (specTxnStage_any rc (.slice at0 ws.length ct0) ws _ it.ints) HR.out).mono ?_
       rintro e w3 ⟨y1, rfl, i1, hb3⟩
       have hs3 := hb3.size
       replace it := it.below hb3
       replace kT := kT.below hb3
       replace hL := hL.below hb3
       replace HB := below_step HB hb3 HB.size
       clear hb3
       obtain ⟨a1, c1, hv_y1⟩ := own_form i1
       subst hv_y1
       have q31_kT0 := kT.cell 0 rfl
       have q32_kT1 := kT.cell 1 rfl
       have hb4 : Below w3.heap.size w3 (w3.alloc (.cells #[.int .i64 rc, .slice a1 (ws).length c1] 25)) := (Below.refl _ _).alloc (Nat.le_refl _) _
       have hs4 := hb4.size
       replace it := it.below hb4
       replace i1 := i1.below hb4
       replace kT := kT.below hb4
       replace hL := hL.below hb4
       replace HB := below_step HB hb4 HB.size
       have kW := Blk.new w3 #[.int .i64 rc, .slice a1 (ws).length c1] 25
       have hl4 := kW.lt
       clear hb4
       have q33_kT0 := kT.cell 0 rfl
       have q34_kT1 := kT.cell 1 rfl
       have q35_kW0 := kW.cell 0 rfl
       have q36_kW1 := kW.cell 1 rfl
       as_aux_lemma =>
        go_wp2_with fail
        generalize w3.alloc (.cells #[.int .i64 rc, .slice a1 (ws).length c1] 25) = w4 at *
        generalize w3.heap.size = B4 at *
        clear q31_kT0 q32_kT1 q33_kT0 q34_kT1 q35_kW0 q36_kW1
        refine (opOf (implTxnStage_any rc (.slice at0 ws.length ct0) ws _ it.ints hL) HR.out).mono ?_
        rintro e w5 ⟨y2, rfl, i2, hb5⟩
        have hs5 := hb5.size
        replace it := it.below hb5
        replace i1 := i1.below hb5
        replace kT := kT.below hb5
        replace kW := kW.below hb5
        replace hL := hL.below hb5
        replace HB := below_step HB hb5 HB.size
        clear hb5
        obtain ⟨a2, c2, hv_y2⟩ := own_form i2
        subst hv_y2
        have q37_kT0 := kT.cell 0 rfl
        have q38_kT1 := kT.cell 1 rfl
        have q39_kW0 := kW.cell 0 rfl
        have q40_kW1 := kW.cell 1 rfl
        have hb6 : Below w5.heap.size w5 (w5.alloc (.cells #[.int .i64 rc, .slice a2 (ws).length c2] 25)) := (Below.refl _ _).alloc (Nat.le_refl _) _
        have hs6 := hb6.size
        replace it := it.below hb6
        replace i1 := i1.below hb6
        replace i2 := i2.below hb6
        replace kT := kT.below hb6
        replace kW := kW.below hb6
        replace hL := hL.below hb6
        replace HB := below_step HB hb6 HB.size
        have kX := Blk.new w5 #[.int .i64 rc, .slice a2 (ws).length c2] 25
        have hl6 := kX.lt
        clear hb6
        have q41_kT0 := kT.cell 0 rfl
        have q42_kT1 := kT.cell 1 rfl
        have q43_kW0 := kW.cell 0 rfl
        have q44_kW1 := kW.cell 1 rfl
        have q45_kX0 := kX.cell 0 rfl
        have q46_kX1 := kX.cell 1 rfl
        as_aux_lemma =>
         go_wp2_with fail
         generalize w5.alloc (.cells #[.int .i64 rc, .slice a2 (ws).length c2] 25) = w6 at *
         generalize w5.heap.size = B6 at *
         clear q37_kT0 q38_kT1 q39_kW0 q40_kW1 q41_kT0 q42_kT1 q43_kW0 q44_kW1 q45_kX0 q46_kX1
         refine (sameTxn_any rc rc _ _ (ws) (ws) _ i2.ints i1.ints true (by simp)).mono ?_
         rintro e w7 ⟨rfl, hb7⟩
         have hs7 := hb7.size
         replace it := it.below hb7
         replace i1 := i1.below hb7
         replace i2 := i2.below hb7
         replace kT := kT.below hb7
         replace kW := kW.below hb7
         replace kX := kX.below hb7
         replace hL := hL.below hb7
         replace HB := below_step HB hb7 HB.size
         clear hb7
         have q47_kT0 := kT.cell 0 rfl
         have q48_kT1 := kT.cell 1 rfl
         have q49_kW0 := kW.cell 0 rfl
         have q50_kW1 := kW.cell 1 rfl
         have q51_kX0 := kX.cell 0 rfl
         have q52_kX1 := kX.cell 1 rfl
         as_aux_lemma =>
          go_wp2_with fail
          clear q47_kT0 q48_kT1 q49_kW0 q50_kW1 q51_kX0 q52_kX1
          refine (sameTxn_any rc rc _ _ ws ws _ i2.ints i1.ints true (by simp)).mono ?_
          rintro e w8 ⟨rfl, hb8⟩
          have hs8 := hb8.size
          replace it := it.below hb8
          replace i1 := i1.below hb8
          replace i2 := i2.below hb8
          replace kT := kT.below hb8
          replace kW := kW.below hb8
          replace kX := kX.below hb8
          replace hL := hL.below hb8
          replace HB := below_step HB hb8 HB.size
          clear hb8
          have q53_kT0 := kT.cell 0 rfl
          have q54_kT1 := kT.cell 1 rfl
          have q55_kW0 := kW.cell 0 rfl
          have q56_kW1 := kW.cell 1 rfl
          have q57_kX0 := kX.cell 0 rfl
          have q58_kX1 := kX.cell 1 rfl
          as_aux_lemma =>
           go_wp2_with fail
           go_ret
           exact ⟨rfl, HB⟩
     case true =>
       have HR := Lib.hid (show stageR rc ws = (1, ws, true) by unfold stageR stageT; rw [hv, h0]; rfl)
       clear hv
       obtain ⟨A0, hA⟩ : ∃ A0 : Nat, n1 % (ws.length + 1) = A0 := ⟨_, rfl⟩
       have hA1 : A0 ≤ ws.length := by rw [← hA]; exact Nat.lt_succ_iff.1 (Nat.mod_lt _ (Nat.succ_pos _))
       have hat : (n1 : Int) % ((ws.length : Int) + 1) = (A0 : Int) := by rw [← hA]; simp
       have hat2 : (n1 : Int).tmod ((ws.length : Int) + 1) = (A0 : Int) := by rw [Int.tmod_eq_emod_of_nonneg (by omega)]; exact hat
       have HAT := Lib.hid hat
       have HAT2 := Lib.hid hat2
       clear hA hat hat2
       clear q1_kT0 q2_kT1
       refine (opOf (specTxnStage_any rc (.slice at0 ws.length ct0) ws _ it.ints) HR.out).mono ?_
       rintro e w3 ⟨y1, rfl, i1, hb3⟩
       have hs3 := hb3.size
       replace it := it.below hb3
       replace kT := kT.below hb3
       replace hL := hL.below hb3
       replace HB := below_step HB hb3 HB.size
       clear hb3
       obtain ⟨a1, c1, hv_y1⟩ := own_form i1
       subst hv_y1
       have q59_kT0 := kT.cell 0 rfl
       have q60_kT1 := kT.cell 1 rfl
       have hb4 : Below w3.heap.size w3 (w3.alloc (.cells #[.int .i64 1, .slice a1 (ws).length c1] 25)) := (Below.refl _ _).alloc (Nat.le_refl _) _
       have hs4 := hb4.size
       replace it := it.below hb4
       replace i1 := i1.below hb4
       replace kT := kT.below hb4
       replace hL := hL.below hb4
       replace HB := below_step HB hb4 HB.size
       have kW := Blk.new w3 #[.int .i64 1, .slice a1 (ws).length c1] 25
       have hl4 := kW.lt
       clear hb4
       have q61_kT0 := kT.cell 0 rfl
       have q62_kT1 := kT.cell 1 rfl
       have q63_kW0 := kW.cell 0 rfl
       have q64_kW1 := kW.cell 1 rfl
       as_aux_lemma =>
        go_wp2_with fail
        generalize w3.alloc (.cells #[.int .i64 1, .slice a1 (ws).length c1] 25) = w4 at *
        generalize w3.heap.size = B4 at *
        clear q59_kT0 q60_kT1 q61_kT0 q62_kT1 q63_kW0 q64_kW1
        refine (opOf (implTxnStage_any rc (.slice at0 ws.length ct0) ws _ it.ints hL) HR.out).mono ?_
        rintro e w5 ⟨y2, rfl, i2, hb5⟩
        have hs5 := hb5.size
        replace it := it.below hb5
        replace i1 := i1.below hb5
        replace kT := kT.below hb5
        replace kW := kW.below hb5
        replace hL := hL.below hb5
        replace HB := below_step HB hb5 HB.size
        clear hb5
        obtain ⟨a2, c2, hv_y2⟩ := own_form i2
        subst hv_y2
        have q65_kT0 := kT.cell 0 rfl
        have q66_kT1 := kT.cell 1 rfl
        have q67_kW0 := kW.cell 0 rfl
        have q68_kW1 := kW.cell 1 rfl
        have hb6 : Below w5.heap.size w5 (w5.alloc (.cells #[.int .i64 1, .slice a2 (ws).length c2] 25)) := (Below.refl _ _).alloc (Nat.le_refl _) _
        have hs6 := hb6.size
        replace it := it.below hb6
        replace i1 := i1.below hb6
        replace i2 := i2.below hb6
        replace kT := kT.below hb6
        replace kW := kW.below hb6
        replace hL := hL.below hb6
        replace HB := below_step HB hb6 HB.size
        have kX := Blk.new w5 #[.int .i64 1, .slice a2 (ws).length c2] 25
        have hl6 := kX.lt
        clear hb6
        have q69_kT0 := kT.cell 0 rfl
        have q70_kT1 := kT.cell 1 rfl
        have q71_kW0 := kW.cell 0 rfl
        have q72_kW1 := kW.cell 1 rfl
        have q73_kX0 := kX.cell 0 rfl
        have q74_kX1 := kX.cell 1 rfl
        as_aux_lemma =>
         go_wp2_with fail
         generalize w5.alloc (.cells #[.int .i64 1, .slice a2 (ws).length c2] 25) = w6 at *
         generalize w5.heap.size = B6 at *
         clear q65_kT0 q66_kT1 q67_kW0 q68_kW1 q69_kT0 q70_kT1 q71_kW0 q72_kW1 q73_kX0 q74_kX1
         refine (sameTxn_any 1 1 _ _ (ws) (ws) _ i2.ints i1.ints true (by simp)).mono ?_
         rintro e w7 ⟨rfl, hb7⟩
         have hs7 := hb7.size
         replace it := it.below hb7
         replace i1 := i1.below hb7
         replace i2 := i2.below hb7
         replace kT := kT.below hb7
         replace kW := kW.below hb7
         replace kX := kX.below hb7
         replace hL := hL.below hb7
         replace HB := below_step HB hb7 HB.size
         clear hb7
         have hat := HAT.out
         have hat2 := HAT2.out
         have hnz : ¬ ((ws.length : Int) + 1 = 0) := by omega
         have hnzb : ((ws.length : Int) + 1 == 0) = false := beq_eq_false_iff_ne.2 hnz
         have kXX := kX
         clear kX
         have q75_kT0 := kT.cell 0 rfl
         have q76_kT1 := kT.cell 1 rfl
         have q77_kW0 := kW.cell 0 rfl
         have q78_kW1 := kW.cell 1 rfl
         have q79_kXX0 := kXX.cell 0 rfl
         have q80_kXX1 := kXX.cell 1 rfl
         as_aux_lemma =>
          go_wp2_with (at_make; refine wpl_make elInt rfl _ _ rfl .i64 .i64 _ _ ws.length rfl rfl rfl rfl (by omega) (by unfold maxLen; omega) ?_; intro w8 hown hb8)
          have iF : IntsO w8 w7.heap.size w8.heap.size (.slice (some ⟨w7.heap.size, 0, none⟩) ws.length ws.length) (List.replicate ws.length 0) := by
            have e : (Value.int .i64 0).cells = #[.int .i64 0] := rfl
            rw [Nat.mul_one, e, toList_madeCells_one] at hown
            unfold IntsO
            rw [List.map_replicate, List.length_replicate]
            exact hown
          clear hown
          clear q75_kT0 q76_kT1 q77_kW0 q78_kW1 q79_kXX0 q80_kXX1
          have hs8 := hb8.size
          replace it := it.below hb8
          replace i1 := i1.below hb8
          replace i2 := i2.below hb8
          replace kT := kT.below hb8
          replace kW := kW.below hb8
          replace kXX := kXX.below hb8
          replace hL := hL.below hb8
          replace HB := below_step HB hb8 HB.size
          clear hb8
          have q81_kT0 := kT.cell 0 rfl
          have q82_kT1 := kT.cell 1 rfl
          have q83_kW0 := kW.cell 0 rfl
          have q84_kW1 := kW.cell 1 rfl
          have q85_kXX0 := kXX.cell 0 rfl
          have q86_kXX1 := kXX.cell 1 rfl
          have hb9 : Below w8.heap.size w8 (w8.alloc (.cells #[.int .i64 0, .slice (some ⟨w7.heap.size, 0, none⟩) ws.length ws.length] 25)) := (Below.refl _ _).alloc (Nat.le_refl _) _
          have hfh := iF.2.2
          have hs9 := hb9.size
          replace it := it.below hb9
          replace i1 := i1.below hb9
          replace i2 := i2.below hb9
          replace iF := iF.below hb9
          replace kT := kT.below hb9
          replace kW := kW.below hb9
          replace kXX := kXX.below hb9
          replace hL := hL.below hb9
          replace HB := below_step HB hb9 HB.size
          have kX := Blk.new w8 #[.int .i64 0, .slice (some ⟨w7.heap.size, 0, none⟩) ws.length ws.length] 25
          have hlX := kX.lt
          clear hb9
          have q87_kT0 := kT.cell 0 rfl
          have q88_kT1 := kT.cell 1 rfl
          have q89_kW0 := kW.cell 0 rfl
          have q90_kW1 := kW.cell 1 rfl
          have q91_kXX0 := kXX.cell 0 rfl
          have q92_kXX1 := kXX.cell 1 rfl
          as_aux_lemma =>
           go_wp2_with fail
           generalize w8.alloc (.cells #[.int .i64 0, .slice (some ⟨w7.heap.size, 0, none⟩) ws.length ws.length] 25) = w9 at *
           generalize w8.heap.size = BX at *
           clear q81_kT0 q82_kT1 q83_kW0 q84_kW1 q85_kXX0 q86_kXX1 q87_kT0 q88_kT1 q89_kW0 q90_kW1 q91_kXX0 q92_kXX1
           clear hat hat2 hnz hnzb
           have HORD := Lib.hid (show ordS ws.length n1 0 = List.replicate ws.length 0 from rfl)
           have hfl : (List.replicate ws.length (0 : Int)).length = ws.length := List.length_replicate
           have HFL := Lib.hid hfl; clear hfl
           go_loopw [13] (fun i wr => ∃ (k : Nat) (rx : Int) (xs : List Int) (av : Option Addr) (cv lo hi : Nat), k ≤ ws.length + 1 ∧ i = .int .i64 k ∧ Blk wr BX #[.int .i64 rx, .slice av xs.length cv] 25 ∧ Ints wr lo hi (.slice av xs.length cv) xs ∧ (hi ≤ BX ∨ BX + 1 ≤ lo) ∧ Keep BX (BX + 1) w9 wr ∧ rx = (if A0 < k then 1 else 0) ∧ xs = ordS ws.length n1 (min k ws.length)) (fun i _ => ws.length + 1 - (intOf i).toNat)
           case atStart => exact ⟨0, 0, List.replicate ws.length 0, _, _, _, _, Nat.zero_le _, rfl, by rw [HFL.out]; exact kX, by rw [HFL.out]; exact iF.ints, .inl (by omega), Keep.refl _ _ _, by simp, by rw [Nat.zero_min]; rfl⟩
           case round =>
             obtain ⟨k, rx, xs, av, cv, lo, hi, hk, rfl, kXr, ixr, hdis, hkp, hrx, hxs⟩ := hrel
             have hxl : xs.length = ws.length := by rw [hxs, ordS_len]
             have HXL := Lib.hid hxl
             have hrr : rx = 0 ∨ rx = 1 := by rw [hrx]; split; exact .inr rfl; exact .inl rfl
             have HRR := Lib.hid hrr
             have HRX := Lib.hid hrx
             have HXS := Lib.hid hxs
             clear hrr hrx hxs hxl
             have hsz := hkp.size
             have hlXr := kXr.lt
             have hLr := hL.keep hkp (by have := hL.lt; omega)
             have x0 := kXr.cell 0 rfl
             have x1 := kXr.cell 1 rfl
             by_cases hlt : k ≤ ws.length
             · skip
               by_cases hka : k = A0
               · subst hka
                 have HR0 := Lib.hid (show rx = 0 by rw [HRX.out]; simp)
                 obtain rfl := HR0.out
                 have HSG := Lib.hid (show stageR 0 xs = (1, xs, true) by rw [HXS.out]; exact ord_stage l0 l1 (Nat.min_le_right _ _))
                 have HX6 := Lib.hid (show (1 : Int) = (if k < k + 1 then 1 else 0) by rw [if_pos (Nat.lt_succ_self _)])
                 go_wp2_with fail
                 refine (opOf (implTxnStage_any 0 _ xs _ ixr hLr) HSG.out).mono ?_
                 rintro e w2' ⟨y, rfl, iy, hb2⟩
                 obtain ⟨a5, c5, hv5⟩ := own_form iy
                 subst hv5
                 have d0 := (kXr.below hb2).cell 0 rfl
                 have d1 := (kXr.below hb2).cell 1 rfl
                 have g0 := (kXr.below hb2).frozen 0
                 have g1 := (kXr.below hb2).frozen 1
                 have HLL := lay_step (r := 1) (v := .slice none 0 0) (l0 := []) kXr hb2 iy.ints (.inr (Nat.le_refl _)) hdis hkp
                 dsimp only at HLL
                 obtain ⟨kX6, i6, hdis6, hk6⟩ := HLL
                 clear hb2 iy x0 x1 kXr ixr hdis hkp hLr hsz
                 as_aux_lemma =>
                  have hk6s := hk6.size
                  have hL6 := hL.keep hk6 (by have := hL.lt; omega)
                  by_cases hkn : k < ws.length
                  · have HXK := Lib.hid (show xs = ordS ws.length n1 k by rw [HXS.out, Nat.min_eq_left hlt])
                    have HS0 := Lib.hid (show txnStat 1 xs = 0 by rw [HXK.out]; exact ord_stat l0 l1 hkn (.inr rfl))
                    have HWR := Lib.hid (show writeR 1 xs (((k + n1) % ws.length : Nat) : Int) = (1, ordS ws.length n1 (k + 1), true) by rw [HXK.out]; exact ord_write l0 l1 hkn (.inr rfl))
                    obtain ⟨P, hP⟩ : ∃ P : Nat, (k + n1) % ws.length = P := ⟨_, rfl⟩
                    rw [hP] at HWR
                    have hp1 : ((k : Int) + (n1 : Int)) % (ws.length : Int) = (P : Int) := by rw [← hP]; simp
                    have hp2 : ((k : Int) + (n1 : Int)).tmod (ws.length : Int) = (P : Int) := by rw [Int.tmod_eq_emod_of_nonneg (by omega)]; exact hp1
                    have HP1 := Lib.hid hp1
                    have HP2 := Lib.hid hp2
                    obtain ⟨ys, hys⟩ : ∃ ys, ordS ws.length n1 (k + 1) = ys := ⟨_, rfl⟩
                    rw [hys] at HWR
                    have HYS := Lib.hid (show ys = ordS ws.length n1 (min (k + 1) ws.length) by rw [← hys, Nat.min_eq_left (by omega)])
                    clear hys hP hp1 hp2
                    have y0 := kX6.cell 0 rfl
                    have y1 := kX6.cell 1 rfl
                    go_wp2_with fail
                    refine (implTxnStatus_any 1 _ xs _ i6 0 HS0.out).mono ?_
                    rintro e w7' ⟨rfl, hb7⟩
                    have kX7 := kX6.below hb7
                    have i7 := i6.below hb7
                    have hL7 := hL6.below hb7
                    have hk7 := hk6.trans (Keep.of_below hb7 _ _)
                    have D7 : Below w7'.heap.size w7' w7'.drew := (Below.refl _ _).drew
                    have kX8 := kX7.below D7
                    have i8 := i7.below D7
                    have hL8 := hL7.below D7
                    have hk8 := hk7.trans (Keep.of_below D7 _ _)
                    have z0 := kX7.cell 0 rfl
                    have z1 := kX7.cell 1 rfl
                    have hp1 := HP1.out
                    have hp2 := HP2.out
                    have hnz : ¬ ((ws.length : Int) = 0) := by omega
                    have hnz2 : ¬ (ws.length = 0) := by omega
                    have hnzb : ((ws.length : Int) == 0) = false := beq_eq_false_iff_ne.2 hnz
                    have hwk : IntKind.i64.wrap ((k : Int) + (n1 : Int)) = (k : Int) + (n1 : Int) := IntWalk.i64_in _ ⟨by omega, by omega⟩
                    have hX8l := kX8.lt
                    clear hb7 D7 kX7 i7 hL7 hk7 y0 y1 kX6 i6 hL6
                    as_aux_lemma =>
                     go_wp2_with fail
                     go_region_law (go_simp; go_at_call 25; (refine (opOf (implTxnWrite_any 1 _ xs (P : Int) _ i8 hL8) HWR.out).mono ?_); rintro e w9' ⟨y, rfl, iy, hb9⟩; obtain ⟨a9, c9, hv9⟩ := own_form iy; subst hv9; have d0 := (kX8.below hb9).cell 0 rfl; have d1 := (kX8.below hb9).cell 1 rfl; have g0 := (kX8.below hb9).frozen 0; have g1 := (kX8.below hb9).frozen 1; have HLAY := Lib.hid (lay_step (r := 1) (v := .slice none 0 0) (l0 := []) kX8 hb9 iy.ints (.inr (Nat.le_refl _)) hdis6 hk8))
                     all_goals
                      have HLL := HLAY.out
                      dsimp only at HLL
                      obtain ⟨kX9, i9, hdd9, hk9⟩ := HLL
                      clear hp1 hp2 hnz hnz2 hnzb hwk z0 z1 HLAY d0 d1 g0 g1
                      go_wp2_with fail
                      go_roundw
                      case rel => exact ⟨k + 1, 1, ys, _, _, _, _, by omega, by go_num, kX9, i9, hdd9, hk9, HX6.out, HYS.out⟩
                      case measure => simp [intOf]; omega
                  · have hke : k = ws.length := by omega
                    have HXE := Lib.hid (show xs = ordS ws.length n1 (min (k + 1) ws.length) by rw [HXS.out, Nat.min_eq_right (by omega), Nat.min_eq_right (by omega)])
                    clear hke
                    go_wp2_with fail
                    go_roundw
                    case rel => exact ⟨k + 1, 1, xs, _, _, _, _, by omega, by go_num, kX6, i6, hdis6, hk6, HX6.out, HXE.out⟩
                    case measure => simp [intOf]; omega
               · have hkab : ((k : Int) == (A0 : Int)) = false := by rw [beq_eq_false_iff_ne]; omega
                 have HX6 := Lib.hid (show rx = (if A0 < k + 1 then 1 else 0) by
                   rw [HRX.out]
                   by_cases e : A0 < k
                   · rw [if_pos e, if_pos (by omega)]
                   · rw [if_neg e, if_neg (by omega)])
                 have HR6 := HRR
                 have kX6 := kXr
                 have i6 := ixr
                 have hdis6 := hdis
                 have hk6 := hkp
                 clear kXr ixr hdis hkp hLr hsz hka
                 have hk6s := hk6.size
                 have hL6 := hL.keep hk6 (by have := hL.lt; omega)
                 by_cases hkn : k < ws.length
                 · have HXK := Lib.hid (show xs = ordS ws.length n1 k by rw [HXS.out, Nat.min_eq_left hlt])
                   have HS0 := Lib.hid (show txnStat rx xs = 0 by rw [HXK.out]; exact ord_stat l0 l1 hkn HR6.out)
                   have HWR := Lib.hid (show writeR rx xs (((k + n1) % ws.length : Nat) : Int) = (rx, ordS ws.length n1 (k + 1), true) by rw [HXK.out]; exact ord_write l0 l1 hkn HR6.out)
                   obtain ⟨P, hP⟩ : ∃ P : Nat, (k + n1) % ws.length = P := ⟨_, rfl⟩
                   rw [hP] at HWR
                   have hp1 : ((k : Int) + (n1 : Int)) % (ws.length : Int) = (P : Int) := by rw [← hP]; simp
                   have hp2 : ((k : Int) + (n1 : Int)).tmod (ws.length : Int) = (P : Int) := by rw [Int.tmod_eq_emod_of_nonneg (by omega)]; exact hp1
                   have HP1 := Lib.hid hp1
                   have HP2 := Lib.hid hp2
                   obtain ⟨ys, hys⟩ : ∃ ys, ordS ws.length n1 (k + 1) = ys := ⟨_, rfl⟩
                   rw [hys] at HWR
                   have HYS := Lib.hid (show ys = ordS ws.length n1 (min (k + 1) ws.length) by rw [← hys, Nat.min_eq_left (by omega)])
                   clear hys hP hp1 hp2
                   have y0 := kX6.cell 0 rfl
                   have y1 := kX6.cell 1 rfl
                   go_wp2_with fail
                   refine (implTxnStatus_any rx _ xs _ i6 0 HS0.out).mono ?_
                   rintro e w7' ⟨rfl, hb7⟩
                   have kX7 := kX6.below hb7
                   have i7 := i6.below hb7
                   have hL7 := hL6.below hb7
                   have hk7 := hk6.trans (Keep.of_below hb7 _ _)
                   have D7 : Below w7'.heap.size w7' w7'.drew := (Below.refl _ _).drew
                   have kX8 := kX7.below D7
                   have i8 := i7.below D7
                   have hL8 := hL7.below D7
                   have hk8 := hk7.trans (Keep.of_below D7 _ _)
                   have z0 := kX7.cell 0 rfl
                   have z1 := kX7.cell 1 rfl
                   have hp1 := HP1.out
                   have hp2 := HP2.out
                   have hnz : ¬ ((ws.length : Int) = 0) := by omega
                   have hnz2 : ¬ (ws.length = 0) := by omega
                   have hnzb : ((ws.length : Int) == 0) = false := beq_eq_false_iff_ne.2 hnz
                   have hwk : IntKind.i64.wrap ((k : Int) + (n1 : Int)) = (k : Int) + (n1 : Int) := IntWalk.i64_in _ ⟨by omega, by omega⟩
                   have hX8l := kX8.lt
                   clear hb7 D7 kX7 i7 hL7 hk7 y0 y1 kX6 i6 hL6
                   as_aux_lemma =>
                    go_wp2_with fail
                    go_region_law (go_simp; go_at_call 25; (refine (opOf (implTxnWrite_any rx _ xs (P : Int) _ i8 hL8) HWR.out).mono ?_); rintro e w9' ⟨y, rfl, iy, hb9⟩; obtain ⟨a9, c9, hv9⟩ := own_form iy; subst hv9; have d0 := (kX8.below hb9).cell 0 rfl; have d1 := (kX8.below hb9).cell 1 rfl; have g0 := (kX8.below hb9).frozen 0; have g1 := (kX8.below hb9).frozen 1; have HLAY := Lib.hid (lay_step (r := rx) (v := .slice none 0 0) (l0 := []) kX8 hb9 iy.ints (.inr (Nat.le_refl _)) hdis6 hk8))
                    all_goals
                     have HLL := HLAY.out
                     dsimp only at HLL
                     obtain ⟨kX9, i9, hdd9, hk9⟩ := HLL
                     clear hp1 hp2 hnz hnz2 hnzb hwk z0 z1 HLAY d0 d1 g0 g1
                     go_wp2_with fail
                     go_roundw
                     case rel => exact ⟨k + 1, rx, ys, _, _, _, _, by omega, by go_num, kX9, i9, hdd9, hk9, HX6.out, HYS.out⟩
                     case measure => simp [intOf]; omega
                 · have hke : k = ws.length := by omega
                   have HXE := Lib.hid (show xs = ordS ws.length n1 (min (k + 1) ws.length) by rw [HXS.out, Nat.min_eq_right (by omega), Nat.min_eq_right (by omega)])
                   clear hke
                   go_wp2_with fail
                   go_roundw
                   case rel => exact ⟨k + 1, rx, xs, _, _, _, _, by omega, by go_num, kX6, i6, hdis6, hk6, HX6.out, HXE.out⟩
                   case measure => simp [intOf]; omega
             · have hBe := HB.trans (hkp.below (B := w.heap.size) (by omega) (by omega))
               have kXe := kXX.keep hkp (.inl (by omega))
               have HR1 := Lib.hid (show rx = 1 by rw [HRX.out, if_pos (by omega)])
               obtain rfl := HR1.out
               have HXE := Lib.hid (show xs = ordS ws.length n1 ws.length by rw [HXS.out, Nat.min_eq_right (by omega)])
               have HS2 := Lib.hid (show txnStat 1 xs = 2 by rw [HXE.out]; exact ord_end l0 l1)
               go_wp2_with fail
               refine (implTxnStatus_any 1 _ xs _ ixr 2 HS2.out).mono ?_
               rintro e w6' ⟨rfl, hb6⟩
               have e0 := (kXe.below hb6).cell 0 rfl
               go_wp2_with fail
               go_ret
               exact ⟨rfl, below_step hBe hb6 hBe.size⟩

/-! ### THE ROW's STEP -/
set_option maxRecDepth 100000 in
theorem lifted (os : Os) (started : os.Started) (H : Type) (enc : TypeId × Value → H) :
    ReturnsInHanded {} Tryd.checked os 9 .any (fun w args => (Rows.fnTxnOrderSpec.pre enc Tryd.prog Tryd.f9 [] false w args ∧ laidMetH Tryd.prog laidL w) ∧ sizedMet enc Tryd.prog Tryd.f9 (OpenSpec.ofChange Rows.fnTxnOrderSpec) false w args)
      (Rows.fnTxnOrderSpec.post enc Tryd.prog Tryd.f9 false true false false) := by
  refine returnsInHanded_of_change_and (C := Tryd.checked) (X := fun w _ => laidMetH Tryd.prog laidL w) (fun _ _ _ hh h => h.of_heap hh) own started (by kernel_rfl) Tryd.func9
    (ChangeSpec.witness_at (enc := enc) (C := Tryd.checked) (os := os) (X := fun w _ => laidMetH Tryd.prog laidL w) false (laidWorld os) #[.slice none 0 0, .slice none 0 0] 8 rfl (by kernel_rfl) (by kernel_rfl) (by kernel_rfl) (by kernel_rfl) (by kernel_rfl) (laidWorld_met os _)) ?_
  intro W base args ds gs before hval0 hW _ _ hL _
  have hval : ∀ (j : Nat) t v, Tryd.f9.params[j]? = some t → args[j]? = some v → Value.okWide Tryd.prog W .any base t v := hval0
  have hW' := hW
  obtain ⟨p, q, hA0, hV, rfl, hfz, hnd⟩ := hW
  have hA : DataW.TrodAll enc Tryd.prog W 0 (fun _ => true) true Tryd.f9.params.toList args.toList ds p := hA0
  rw [Tryd.params9] at hA hval
  obtain ⟨v0, vs0, d0, ds0, p0, q0, hargs, rfl, rfl, h0, r0⟩ := trodAll_cons hA
  obtain ⟨v1, vs1, d1, ds1, p1, q1, rfl, rfl, rfl, h1, r1⟩ := trodAll_cons r0
  obtain ⟨rfl, rfl, rfl⟩ := trodAll_nil r1
  obtain rfl : args = #[v0, v1] := by cases args; simp_all
  obtain ⟨rfl, rfl⟩ := trodVars_none hV
  obtain ⟨n0, b0⟩ := bytes_in (hval 0 _ v0 rfl rfl) h0
  have lt0 := lt_in h0
  obtain ⟨n1, b1⟩ := bytes_in (hval 1 _ v1 rfl rfl) h1
  have lt1 := lt_in h1
  clear hA0 hval0
  refine (walk_at W v0 n0 b0 v1 n1 b1 (laid_of hL)).mono fun e W' ⟨he, bel⟩ => ?_
  subst he
  exact ⟨_, rfl, _, _, _, [], _, [], hW', trodAll_mk1 (shut_bool Tryd.underlying4 _), (trodAll_cons_mk (Below.trod laidOut (by kernel_rfl) (of_decide_eq_true (by kernel_rfl)) h0 bel lt0) (trodAll_cons_mk (Below.trod laidOut (by kernel_rfl) (of_decide_eq_true (by kernel_rfl)) h1 bel lt1) trodAll_mk0)), rfl, bel.frame _, fun h => by cases h⟩

set_option maxRecDepth 100000 in
theorem closed : joinedFacts Tryd.prog 9 Tryd.f9 Rows.fnTxnOrderSpec Rows.fnTxnOrderRow = true := by
  unfold joinedFacts
  rw [may, lifts, mk]
  kernel_rfl
theorem over : Rows.fnTxnOrderRow.holds Tryd.pinned (OpenSpec.ofChange Rows.fnTxnOrderSpec) :=
  OpenClaim.holds_of_wide 9 Tryd.f9 rfl rfl rfl rfl rfl rfl rfl ⟨rfl, rfl, rfl, rfl, rfl⟩ rfl rfl rfl rfl rfl (by as_aux_lemma => kernel_rfl) Tryd.func9 closed
    (of_decide_eq_true (by as_aux_lemma => kernel_rfl)) (by unfold Func.isWrapper; rw [if_neg (of_decide_eq_false (by as_aux_lemma => kernel_rfl))]; exact ⟨rfl, rfl⟩)
    (fun os started H enc _ => lifted os started H enc)

/-- THE STATEMENT: the tied card -/
theorem proved : Rows.FnTxnOrderCardSaid :=
  Claim7.holds_tied_plain_at .later [] [.handle] true Rows.fnTxnOrderCard.stood.harness true
    over (fun _ h => by cases h) (by kernel_rfl) (fun _ h => by cases h) fnTxnOrder_row_tie rfl ⟨rfl, rfl⟩ (by kernel_rfl) rfl
    (fun f fn hf hfn => by
      obtain rfl : f = 9 := Option.some.inj ((show Tryd.prog.funcNamed "loop.example/flexquorum/laws.FnTxnOrder" = some 9 by kernel_rfl).symm.trans hf) |>.symm
      obtain rfl : fn = Tryd.f9 := (Option.some.inj (Tryd.func9.symm.trans hfn)).symm
      exact ⟨by kernel_rfl, fun j t ht => by
        rw [Tryd.params9] at ht
        have hm := Array.mem_of_getElem? ht
        simp only [List.mem_toArray, List.mem_cons, List.not_mem_nil, or_false] at hm
        (rcases hm with hm | hm)
        · (subst hm; exact (show Tryd.prog.wantsStandIn 22 = false by kernel_rfl))
        · (subst hm; exact (show Tryd.prog.wantsStandIn 22 = false by kernel_rfl))⟩)
    (by kernel_rfl)
end Go.Proofs.YtocinffmdciihaaDoor.fnTxnOrder
