/-
  For every input the law FnTxnRace returns true, and what it was given reads afterwards as before. No condition beyond the row's own.
-/
import Derived.Test.YtocinffmdciihaaDoorFrameD
import Derived.Test.YtocinffmdciihaaDoorFrameT
import Derived.Test.YtocinffmdciihaaDoorTie
import Derived.Test.YtocinffmdciihaaDoorCards
import Derived.Test.YtocinffmdciihaaDoorTxnI
import Derived.Test.YtocinffmdciihaaDoorTxnJ
import Derived.Test.YtocinffmdciihaaDoorTxnK
import Derived.Test.YtocinffmdciihaaDoorTxnQD
import Derived.SevenTiedAt
import Derived.Deep.DeepCutAuto
import Derived.Deep.QuietTactic
import Derived.Deep.RegionHeld3
import Derived.BigQuiet
namespace Go.Proofs.YtocinffmdciihaaDoor.fnTxnRace
open Go.ChangeShapes Go.WideShapes Go.ChangeAt Go.RowKit
open Go.ChangeMaps (open_string shut_string)
set_option linter.unusedVariables false
theorem refuse_ok {rc : Int} {ws : List Int} (h : txnOk rc ws = true) : txnOk 3 (refuse ws) = true := by
  obtain ⟨g0, g1, g2, g3, g4, g5⟩ := txnOk_parts h
  have hr : rangeW (refuse ws) = true := by
    unfold refuse
    split
    · unfold rangeW at g4 ⊢
      rw [List.all_eq_true] at g4 ⊢
      intro x hx
      rcases List.mem_or_eq_of_mem_set hx with h' | h'
      · exact g4 x h'
      · rw [h']; rfl
    · exact g4
  unfold txnOk lenW
  rw [refuse_len, inB_mk (n := (3 : Int)) (by omega) (by omega), inB_mk (n := (ws.length : Int)) (by omega) (by omega), hr]
  rfl
theorem txnOk_two {rc : Int} {ws : List Int} (h : txnOk rc ws = true) : txnOk 2 ws = fullW ws := by
  obtain ⟨g0, g1, g2, g3, g4, g5⟩ := txnOk_parts h
  unfold txnOk lenW
  rw [inB_mk (n := (2 : Int)) (by omega) (by omega), inB_mk (n := (ws.length : Int)) (by omega) (by omega), g4]
  simp
theorem write_ended {rc : Int} {ws : List Int} (hv : txnOk rc ws = true) (he : isEnded rc = true) (k : Nat) (hk : k < ws.length) : writeR rc ws k = (rc, ws, false) := by
  have hg : (decide (0 ≤ (k : Int)) && decide ((k : Int) < (ws.length : Int))) = true := by simp; omega
  unfold writeR writeT
  rw [hv, hg, he]
  simp [gate]
theorem finish_ended {rc : Int} {ws : List Int} (hv : txnOk rc ws = true) (he : isEnded rc = true) : finishR rc ws = (rc, ws, false) := by
  have h1 : (rc == 1) = false := by
    rw [beq_eq_false_iff_ne]
    intro e
    subst e
    simp [isEnded] at he
  unfold finishR finishT
  rw [hv, h1]
  rfl
theorem fence_has {ws : List Int} (h : fullW ws = false) : (refuse ws).any (fun x => x == 2) = true := by
  have ha : ws.any (fun x => x != 1) = true := by rw [any_not_full, h]; rfl
  have hi : 0 ≤ idxP (fun x => x != 1) ws := by
    have := idxP_any (p := fun x => x != 1) (xs := ws)
    rw [ha] at this
    exact of_decide_eq_true this
  have hl := idxP_lt (p := fun x => x != 1) (xs := ws)
  have e : refuse ws = ws.set (idxP (fun x => x != 1) ws).toNat 2 := by unfold refuse; rw [if_pos hi]
  rw [e, List.any_eq_true]
  exact ⟨2, List.mem_set (by omega) 2, rfl⟩
theorem any_take {ws : List Int} {k : Nat} {f : Bool} (hk : k < ws.length) (hf : (ws.take k).any (fun x => x == 2) = f) : (ws.take (k + 1)).any (fun x => x == 2) = (f || (nth ws k == 2)) := by
  rw [take_snoc hk, List.any_append, hf]
  simp
/-- a round of the race: the answer, new memory, laid into the block of y -/
theorem race_step {W w w2 : World} {BY : Nat} {cs : Array Value} {ws : List Int} {u0 u1 : Value} (kY : Blk w BY cs 25) (hb2 : Below w.heap.size w w2) (iy : IntsO w2 w.heap.size w2.heap.size u1 ws) (hkp : Keep BY (BY + 1) W w) (hl : BY ≤ w.heap.size) (hcs : cs.size = 2) :
    Blk ((((w2.setCell ⟨BY, 0, none⟩ u0).setCell ⟨BY, 1, none⟩ u1)).alloc (.cells #[u0, u1] 25)) BY #[u0, u1] 25 ∧ Ints ((((w2.setCell ⟨BY, 0, none⟩ u0).setCell ⟨BY, 1, none⟩ u1)).alloc (.cells #[u0, u1] 25)) w.heap.size w2.heap.size u1 ws ∧ Keep BY (BY + 1) W ((((w2.setCell ⟨BY, 0, none⟩ u0).setCell ⟨BY, 1, none⟩ u1)).alloc (.cells #[u0, u1] 25)) := by
  have hk : Keep BY (BY + 1) w2 ((w2.setCell ⟨BY, 0, none⟩ u0).setCell ⟨BY, 1, none⟩ u1) := keep_set2 (Keep.refl _ _ _) (Nat.le_refl _) (Nat.lt_succ_self _) _ _
  have hb : Below ((w2.setCell ⟨BY, 0, none⟩ u0).setCell ⟨BY, 1, none⟩ u1).heap.size ((w2.setCell ⟨BY, 0, none⟩ u0).setCell ⟨BY, 1, none⟩ u1) (((w2.setCell ⟨BY, 0, none⟩ u0).setCell ⟨BY, 1, none⟩ u1).alloc (.cells #[u0, u1] 25)) := (Below.refl _ _).alloc (Nat.le_refl _) _
  have hlt := kY.lt
  have b1 := ((kY.below hb2).set 0 u0).set 1 u1
  have e : (cs.setIfInBounds 0 u0).setIfInBounds 1 u1 = #[u0, u1] := by
    obtain ⟨l⟩ := cs
    match l, hcs with
    | [x, y], _ => rfl
  rw [e] at b1
  exact ⟨b1.below hb, ((IntsO.keep iy hk (.inr hlt)).below hb).ints, ((hkp.trans (Keep.of_below hb2 _ _)).trans hk).trans (Keep.of_below hb _ _)⟩

set_option maxRecDepth 100000 in
set_option maxHeartbeats 8000000 in
theorem walk_at (w : World) (v0 : Value) (n0 : Nat) (b0 : Bytes w 0 w.heap.size v0 n0) (hL : Laid w) :
    Calls Tryd.prog 15 #[v0] w fun e w' => e = .returned (.bool true) ∧ Below w.heap.size w w' := by
  obtain ⟨a0, c0, hv0, hn0, hx0⟩ := b0.open
  clear hx0
  subst hv0
  by_cases big0 : n0 ≤ 1048576
  case neg =>
    go_enter Tryd.func15, Tryd.ntmps15
    go_wp2_with fail
    go_ret
    exact ⟨rfl, Below.refl _ _⟩
  go_enter Tryd.func15, Tryd.ntmps15
  go_wp2_with fail
  have HB : Below w.heap.size w w := Below.refl _ _
  refine (DrawTxnRecover_any _ n0 _ b0).mono ?_
  rintro e w1 ⟨rc, ws, tv, rfl, rr0, rr1, l0, l1, rng, it, hb1⟩
  have hs1 := hb1.size
  replace hL := hL.below hb1
  replace HB := below_step HB hb1 HB.size
  clear hb1
  obtain ⟨at0, ct0, hv_tv⟩ := own_form it
  subst hv_tv
  have hb2 : Below w1.heap.size w1 (w1.alloc (.cells #[.int .i64 rc, .slice at0 ws.length ct0] 25)) := (Below.refl _ _).alloc (Nat.le_refl _) _
  have hs2 := hb2.size
  replace it := it.below hb2
  replace hL := hL.below hb2
  replace HB := below_step HB hb2 HB.size
  have kT := Blk.new w1 #[.int .i64 rc, .slice at0 ws.length ct0] 25
  have hl2 := kT.lt
  clear hb2
  have q127_kT0 := kT.cell 0 rfl
  have q128_kT1 := kT.cell 1 rfl
  as_aux_lemma =>
   go_wp2_with fail
   generalize w1.alloc (.cells #[.int .i64 rc, .slice at0 ws.length ct0] 25) = w2 at *
   generalize w1.heap.size = B2 at *
   cases hv : txnOk rc ws
   case false =>
     have HV := Lib.hid hv
     have HR := Lib.hid (show recoverR rc ws = (0, [], false) by unfold recoverR; rw [hv]; rfl)
     clear hv
     clear q127_kT0 q128_kT1
     refine (opOf (specTxnRecover_any rc (.slice at0 ws.length ct0) ws _ it.ints) HR.out).mono ?_
     rintro e w3 ⟨y1, rfl, i1, hb3⟩
     have hs3 := hb3.size
     replace it := it.below hb3
     replace kT := kT.below hb3
     replace hL := hL.below hb3
     replace HB := below_step HB hb3 HB.size
     clear hb3
     obtain ⟨a1, c1, hv_y1⟩ := own_form i1
     subst hv_y1
     change IntsO _ _ _ (.slice a1 0 c1) ([] : List Int) at i1
     have q129_kT0 := kT.cell 0 rfl
     have q130_kT1 := kT.cell 1 rfl
     have hb4 : Below w3.heap.size w3 (w3.alloc (.cells #[.int .i64 0, .slice a1 0 c1] 25)) := (Below.refl _ _).alloc (Nat.le_refl _) _
     have hs4 := hb4.size
     replace it := it.below hb4
     replace i1 := i1.below hb4
     replace kT := kT.below hb4
     replace hL := hL.below hb4
     replace HB := below_step HB hb4 HB.size
     have kW := Blk.new w3 #[.int .i64 0, .slice a1 0 c1] 25
     have hl4 := kW.lt
     clear hb4
     have q131_kT0 := kT.cell 0 rfl
     have q132_kT1 := kT.cell 1 rfl
     have q133_kW0 := kW.cell 0 rfl
     have q134_kW1 := kW.cell 1 rfl
     as_aux_lemma =>
      go_wp2_with fail
      generalize w3.alloc (.cells #[.int .i64 0, .slice a1 0 c1] 25) = w4 at *
      generalize w3.heap.size = B4 at *
      clear q129_kT0 q130_kT1 q131_kT0 q132_kT1 q133_kW0 q134_kW1
      refine (opOf (implTxnRecover_any rc (.slice at0 ws.length ct0) ws _ it.ints hL) HR.out).mono ?_
      rintro e w5 ⟨y2, rfl, i2, hb5⟩
      have hs5 := hb5.size
      replace it := it.below hb5
      replace i1 := i1.below hb5
      replace kT := kT.below hb5
      replace kW := kW.below hb5
      replace hL := hL.below hb5
      replace HB := below_step HB hb5 HB.size
      clear hb5
      obtain ⟨a2, c2, hv_y2⟩ := own_form i2
      subst hv_y2
      change IntsO _ _ _ (.slice a2 0 c2) ([] : List Int) at i2
      have q135_kT0 := kT.cell 0 rfl
      have q136_kT1 := kT.cell 1 rfl
      have q137_kW0 := kW.cell 0 rfl
      have q138_kW1 := kW.cell 1 rfl
      have hb6 : Below w5.heap.size w5 (w5.alloc (.cells #[.int .i64 0, .slice a2 0 c2] 25)) := (Below.refl _ _).alloc (Nat.le_refl _) _
      have hs6 := hb6.size
      replace it := it.below hb6
      replace i1 := i1.below hb6
      replace i2 := i2.below hb6
      replace kT := kT.below hb6
      replace kW := kW.below hb6
      replace hL := hL.below hb6
      replace HB := below_step HB hb6 HB.size
      have kX := Blk.new w5 #[.int .i64 0, .slice a2 0 c2] 25
      have hl6 := kX.lt
      clear hb6
      have q139_kT0 := kT.cell 0 rfl
      have q140_kT1 := kT.cell 1 rfl
      have q141_kW0 := kW.cell 0 rfl
      have q142_kW1 := kW.cell 1 rfl
      have q143_kX0 := kX.cell 0 rfl
      have q144_kX1 := kX.cell 1 rfl
      as_aux_lemma =>
       go_wp2_with fail
       generalize w5.alloc (.cells #[.int .i64 0, .slice a2 0 c2] 25) = w6 at *
       generalize w5.heap.size = B6 at *
       clear q135_kT0 q136_kT1 q137_kW0 q138_kW1 q139_kT0 q140_kT1 q141_kW0 q142_kW1 q143_kX0 q144_kX1
       refine (sameTxn_any 0 0 _ _ (([] : List Int)) (([] : List Int)) _ i2.ints i1.ints true (by simp)).mono ?_
       rintro e w7 ⟨rfl, hb7⟩
       have hs7 := hb7.size
       replace it := it.below hb7
       replace i1 := i1.below hb7
       replace i2 := i2.below hb7
       replace kT := kT.below hb7
       replace kW := kW.below hb7
       replace kX := kX.below hb7
       replace hL := hL.below hb7
       replace HB := below_step HB hb7 HB.size
       clear hb7
       have q145_kT0 := kT.cell 0 rfl
       have q146_kT1 := kT.cell 1 rfl
       have q147_kW0 := kW.cell 0 rfl
       have q148_kW1 := kW.cell 1 rfl
       have q149_kX0 := kX.cell 0 rfl
       have q150_kX1 := kX.cell 1 rfl
       as_aux_lemma =>
        go_wp2_with fail
        clear q145_kT0 q146_kT1 q147_kW0 q148_kW1 q149_kX0 q150_kX1
        refine (specTxnValid_any rc _ ws _ it.ints false HV.out).mono ?_
        rintro e w8 ⟨rfl, hb8⟩
        have hs8 := hb8.size
        replace it := it.below hb8
        replace i1 := i1.below hb8
        replace i2 := i2.below hb8
        replace kT := kT.below hb8
        replace kW := kW.below hb8
        replace kX := kX.below hb8
        replace hL := hL.below hb8
        replace HB := below_step HB hb8 HB.size
        clear hb8
        have q151_kT0 := kT.cell 0 rfl
        have q152_kT1 := kT.cell 1 rfl
        have q153_kW0 := kW.cell 0 rfl
        have q154_kW1 := kW.cell 1 rfl
        have q155_kX0 := kX.cell 0 rfl
        have q156_kX1 := kX.cell 1 rfl
        as_aux_lemma =>
         go_wp2_with fail
         clear q151_kT0 q152_kT1 q153_kW0 q154_kW1 q155_kX0 q156_kX1
         refine (sameTxn_any 0 0 _ _ [] [] _ i2.ints i1.ints true (by simp)).mono ?_
         rintro e w9 ⟨rfl, hb9⟩
         have hs9 := hb9.size
         replace it := it.below hb9
         replace i1 := i1.below hb9
         replace i2 := i2.below hb9
         replace kT := kT.below hb9
         replace kW := kW.below hb9
         replace kX := kX.below hb9
         replace hL := hL.below hb9
         replace HB := below_step HB hb9 HB.size
         clear hb9
         have q157_kT0 := kT.cell 0 rfl
         have q158_kT1 := kT.cell 1 rfl
         have q159_kW0 := kW.cell 0 rfl
         have q160_kW1 := kW.cell 1 rfl
         have q161_kX0 := kX.cell 0 rfl
         have q162_kX1 := kX.cell 1 rfl
         as_aux_lemma =>
          go_wp2_with fail
          go_ret
          exact ⟨rfl, HB⟩
   case true =>
     have hpp := txnOk_parts hv
     have HV := Lib.hid hv
     have h0r := hpp.1
     have h3r := hpp.2.1
     clear hpp
     have HOK := Lib.hid (refuse_ok hv)
     cases he : isEnded rc
     case true =>
       have hge : (2 : Int) ≤ rc := by
         unfold isEnded at he
         simp at he
         omega
       have HS := Lib.hid (show recoverT rc ws = (rc, ws, false) by simp [recoverT, he])
       clear he
       have HR := Lib.hid (show recoverR rc ws = (rc, ws, false) by unfold recoverR; rw [hv, HS.out]; rfl)
       clear q127_kT0 q128_kT1
       refine (opOf (specTxnRecover_any rc (.slice at0 ws.length ct0) ws _ it.ints) HR.out).mono ?_
       rintro e w3 ⟨y1, rfl, i1, hb3⟩
       have hs3 := hb3.size
       replace it := it.below hb3
       replace kT := kT.below hb3
       replace hL := hL.below hb3
       replace HB := below_step HB hb3 HB.size
       clear hb3
       obtain ⟨a1, c1, hv_y1⟩ := own_form i1
       subst hv_y1
       have q163_kT0 := kT.cell 0 rfl
       have q164_kT1 := kT.cell 1 rfl
       have hb4 : Below w3.heap.size w3 (w3.alloc (.cells #[.int .i64 rc, .slice a1 (ws).length c1] 25)) := (Below.refl _ _).alloc (Nat.le_refl _) _
       have hs4 := hb4.size
       replace it := it.below hb4
       replace i1 := i1.below hb4
       replace kT := kT.below hb4
       replace hL := hL.below hb4
       replace HB := below_step HB hb4 HB.size
       have kW := Blk.new w3 #[.int .i64 rc, .slice a1 (ws).length c1] 25
       have hl4 := kW.lt
       clear hb4
       have q165_kT0 := kT.cell 0 rfl
       have q166_kT1 := kT.cell 1 rfl
       have q167_kW0 := kW.cell 0 rfl
       have q168_kW1 := kW.cell 1 rfl
       as_aux_lemma =>
        go_wp2_with fail
        generalize w3.alloc (.cells #[.int .i64 rc, .slice a1 (ws).length c1] 25) = w4 at *
        generalize w3.heap.size = B4 at *
        clear q163_kT0 q164_kT1 q165_kT0 q166_kT1 q167_kW0 q168_kW1
        refine (opOf (implTxnRecover_any rc (.slice at0 ws.length ct0) ws _ it.ints hL) HR.out).mono ?_
        rintro e w5 ⟨y2, rfl, i2, hb5⟩
        have hs5 := hb5.size
        replace it := it.below hb5
        replace i1 := i1.below hb5
        replace kT := kT.below hb5
        replace kW := kW.below hb5
        replace hL := hL.below hb5
        replace HB := below_step HB hb5 HB.size
        clear hb5
        obtain ⟨a2, c2, hv_y2⟩ := own_form i2
        subst hv_y2
        have q169_kT0 := kT.cell 0 rfl
        have q170_kT1 := kT.cell 1 rfl
        have q171_kW0 := kW.cell 0 rfl
        have q172_kW1 := kW.cell 1 rfl
        have hb6 : Below w5.heap.size w5 (w5.alloc (.cells #[.int .i64 rc, .slice a2 (ws).length c2] 25)) := (Below.refl _ _).alloc (Nat.le_refl _) _
        have hs6 := hb6.size
        replace it := it.below hb6
        replace i1 := i1.below hb6
        replace i2 := i2.below hb6
        replace kT := kT.below hb6
        replace kW := kW.below hb6
        replace hL := hL.below hb6
        replace HB := below_step HB hb6 HB.size
        have kX := Blk.new w5 #[.int .i64 rc, .slice a2 (ws).length c2] 25
        have hl6 := kX.lt
        clear hb6
        have q173_kT0 := kT.cell 0 rfl
        have q174_kT1 := kT.cell 1 rfl
        have q175_kW0 := kW.cell 0 rfl
        have q176_kW1 := kW.cell 1 rfl
        have q177_kX0 := kX.cell 0 rfl
        have q178_kX1 := kX.cell 1 rfl
        as_aux_lemma =>
         go_wp2_with fail
         generalize w5.alloc (.cells #[.int .i64 rc, .slice a2 (ws).length c2] 25) = w6 at *
         generalize w5.heap.size = B6 at *
         clear q169_kT0 q170_kT1 q171_kW0 q172_kW1 q173_kT0 q174_kT1 q175_kW0 q176_kW1 q177_kX0 q178_kX1
         refine (sameTxn_any rc rc _ _ (ws) (ws) _ i2.ints i1.ints true (by simp)).mono ?_
         rintro e w7 ⟨rfl, hb7⟩
         have hs7 := hb7.size
         replace it := it.below hb7
         replace i1 := i1.below hb7
         replace i2 := i2.below hb7
         replace kT := kT.below hb7
         replace kW := kW.below hb7
         replace kX := kX.below hb7
         replace hL := hL.below hb7
         replace HB := below_step HB hb7 HB.size
         clear hb7
         have q179_kT0 := kT.cell 0 rfl
         have q180_kT1 := kT.cell 1 rfl
         have q181_kW0 := kW.cell 0 rfl
         have q182_kW1 := kW.cell 1 rfl
         have q183_kX0 := kX.cell 0 rfl
         have q184_kX1 := kX.cell 1 rfl
         as_aux_lemma =>
          go_wp2_with fail
          clear q179_kT0 q180_kT1 q181_kW0 q182_kW1 q183_kX0 q184_kX1
          refine (specTxnValid_any rc _ ws _ it.ints true HV.out).mono ?_
          rintro e w8 ⟨rfl, hb8⟩
          have hs8 := hb8.size
          replace it := it.below hb8
          replace i1 := i1.below hb8
          replace i2 := i2.below hb8
          replace kT := kT.below hb8
          replace kW := kW.below hb8
          replace kX := kX.below hb8
          replace hL := hL.below hb8
          replace HB := below_step HB hb8 HB.size
          clear hb8
          have q185_kT0 := kT.cell 0 rfl
          have q186_kT1 := kT.cell 1 rfl
          have q187_kW0 := kW.cell 0 rfl
          have q188_kW1 := kW.cell 1 rfl
          have q189_kX0 := kX.cell 0 rfl
          have q190_kX1 := kX.cell 1 rfl
          as_aux_lemma =>
           go_wp2_with fail
           have HVX := Lib.hid (show txnOk rc ws = true from HV.out)
           have HEX := Lib.hid (show isEnded rc = true by unfold isEnded; rcases (show rc = 2 ∨ rc = 3 by omega) with e | e <;> subst e <;> rfl)
           have HW := Lib.hid (fun k hk => write_ended HVX.out HEX.out k hk)
           have HFI := Lib.hid (finish_ended HVX.out HEX.out)
           obtain ⟨s, hs⟩ : ∃ s, txnStat rc ws = s := ⟨_, rfl⟩
           have HSS := Lib.hid hs; clear hs
           have hse : (s == s) = true := by simp
           have q191_kT0 := kT.cell 0 rfl
           have q192_kT1 := kT.cell 1 rfl
           have q193_kW0 := kW.cell 0 rfl
           have q194_kW1 := kW.cell 1 rfl
           have q195_kX0 := kX.cell 0 rfl
           have q196_kX1 := kX.cell 1 rfl
           have hb9 : Below w8.heap.size w8 (w8.alloc (.cells #[.int .i64 rc, .slice a2 (ws).length c2] 25)) := (Below.refl _ _).alloc (Nat.le_refl _) _
           have h2h := i2.2.2
           have h2r := Nat.le_refl w8.heap.size
           have hs9 := hb9.size
           replace it := it.below hb9
           replace i1 := i1.below hb9
           replace i2 := i2.below hb9
           replace kT := kT.below hb9
           replace kW := kW.below hb9
           replace kX := kX.below hb9
           replace hL := hL.below hb9
           replace HB := below_step HB hb9 HB.size
           have kY := Blk.new w8 #[.int .i64 rc, .slice a2 (ws).length c2] 25
           have hlY := kY.lt
           clear hb9
           have q197_kT0 := kT.cell 0 rfl
           have q198_kT1 := kT.cell 1 rfl
           have q199_kW0 := kW.cell 0 rfl
           have q200_kW1 := kW.cell 1 rfl
           have q201_kX0 := kX.cell 0 rfl
           have q202_kX1 := kX.cell 1 rfl
           go_wp2_with fail
           generalize w8.alloc (.cells #[.int .i64 rc, .slice a2 (ws).length c2] 25) = w9 at *
           generalize w8.heap.size = BY at *
           clear q185_kT0 q186_kT1 q187_kW0 q188_kW1 q189_kX0 q190_kX1 q191_kT0 q192_kT1 q193_kW0 q194_kW1 q195_kX0 q196_kX1 q197_kT0 q198_kT1 q199_kW0 q200_kW1 q201_kX0 q202_kX1
           go_loopw [9] (fun i wr => ∃ (k : Nat) (av : Option Addr) (cv lo hi : Nat), k ≤ (ws).length ∧ i = .int .i64 k ∧ Blk wr BY #[.int .i64 rc, .slice av (ws).length cv] 25 ∧ Ints wr lo hi (.slice av (ws).length cv) (ws) ∧ (hi ≤ BY ∨ BY + 1 ≤ lo) ∧ Keep BY (BY + 1) w9 wr) (fun i _ => (ws).length - (intOf i).toNat)
           case atStart => exact ⟨0, _, _, _, _, Nat.zero_le _, rfl, kY, i2.ints, .inl h2h, Keep.refl _ _ _⟩
           case round =>
             obtain ⟨k, av, cv, lo, hi, hk, rfl, kYr, iyr, hdis, hkp⟩ := hrel
             have hsz := hkp.size
             have hlYr := kYr.lt
             have hLr := hL.keep hkp (by have := hL.lt; omega)
             have kXr := kX.keep hkp (.inl (by omega))
             have x0 := kXr.cell 0 rfl
             have x1 := kXr.cell 1 rfl
             have y0 := kYr.cell 0 rfl
             have y1 := kYr.cell 1 rfl
             by_cases hlt : k < (ws).length
             · have HWk := Lib.hid (HW.out k hlt)
               go_wp2_with fail
               refine (opOf (implTxnWrite_any rc _ (ws) k _ iyr hLr) HWk.out).mono ?_
               rintro e w2' ⟨y, rfl, iy, hb2⟩
               obtain ⟨a9, c9, hv9⟩ := own_form iy
               subst hv9
               have hb3 : Below w2'.heap.size w2' (w2'.alloc (.cells #[.int .i64 rc, .slice a9 (ws).length c9] 25)) := (Below.refl _ _).alloc (Nat.le_refl _) _
               have hb23 := below_step hb2 hb3 hb2.size
               have kYe := kYr.below hb23
               have e0 := kYe.cell 0 rfl
               have e1 := kYe.cell 1 rfl
               have f0 := kYe.frozen 0
               have f1 := kYe.frozen 1
               have hs2 := hb2.size
               have hlb : BY < w2'.heap.size := by omega
               have d0 := (kYr.below hb2).cell 0 rfl
               have d1 := (kYr.below hb2).cell 1 rfl
               have g0 := (kYr.below hb2).frozen 0
               have g1 := (kYr.below hb2).frozen 1
               have HFIN := Lib.hid (race_step (w2 := w2') (u0 := .int .i64 rc) (u1 := .slice a9 (ws).length c9) kYr hb2 iy hkp (Nat.le_of_lt hlYr) rfl)
               clear hb3 hb23 hb2 x0 x1 y0 y1 kYe kXr hLr
               as_aux_lemma =>
                 go_wp2_with fail
                 go_roundw
                 case rel => exact ⟨k + 1, _, _, _, _, by omega, by go_num, HFIN.out.1, HFIN.out.2.1, .inr (Nat.succ_le_of_lt hlYr), HFIN.out.2.2⟩
                 case measure => simp [intOf]; omega
             · skip
               go_wp2_with fail
               refine (opOf (implTxnFinish_any rc _ (ws) _ iyr hLr) HFI.out).mono ?_
               rintro e w3' ⟨y, rfl, iz, hb2⟩
               obtain ⟨a9, c9, hv9⟩ := own_form iz
               subst hv9
               have hb3 : Below w3'.heap.size w3' (w3'.alloc (.cells #[.int .i64 rc, .slice a9 (ws).length c9] 25)) := (Below.refl _ _).alloc (Nat.le_refl _) _
               have kZ := Blk.new w3' #[.int .i64 rc, .slice a9 (ws).length c9] 25
               have hb23 := below_step hb2 hb3 hb2.size
               have i2e := ((i2.keep hkp (.inl h2h)).below hb2).below hb3
               have iye := (iyr.below hb2).below hb3
               have ize := iz.below hb3
               have kXe := (kXr.below hb2).below hb3
               have kYe := (kYr.below hb2).below hb3
               have HBe := below_step (HB.trans (hkp.below (B := w.heap.size) (by omega) (by omega))) hb23 (by omega)
               have hs3 := hb2.size
               have x0 := (kXr.below hb2).cell 0 rfl
               have x1 := (kXr.below hb2).cell 1 rfl
               have y0 := (kYr.below hb2).cell 0 rfl
               have y1 := (kYr.below hb2).cell 1 rfl
               have hc0 := kYe.cell 0 rfl
               have hc1 := kYe.cell 1 rfl
               have hc2 := kXe.cell 0 rfl
               have hc3 := kXe.cell 1 rfl
               have hc4 := kZ.cell 0 rfl
               have hc5 := kZ.cell 1 rfl
               clear hb3 hb23 hb2 kYe kXe kXr hLr iz iyr
               as_aux_lemma =>
                 go_wp2_with fail
                 generalize w3'.alloc (.cells #[.int .i64 rc, .slice a9 (ws).length c9] 25) = wz at *
                 generalize w3'.heap.size = BZ at *
                 have hB0 : Below wz.heap.size wz wz.drew := (Below.refl _ _).drew
                 go_region_held3 (fun w' => w'.cell? ⟨BY, 0, none⟩ = some (.int .i64 rc) ∧ w'.cell? ⟨BY, 1, none⟩ = some (.slice av (ws).length cv) ∧ w'.cell? ⟨B6, 0, none⟩ = some (.int .i64 rc) ∧ w'.cell? ⟨B6, 1, none⟩ = some (.slice a2 (ws).length c2) ∧ w'.cell? ⟨BZ, 0, none⟩ = some (.int .i64 rc) ∧ w'.cell? ⟨BZ, 1, none⟩ = some (.slice a9 (ws).length c9) ∧ Below wz.heap.size wz w')
                   (first
                     | exact ⟨hc0, hc1, hc2, hc3, hc4, hc5, hB2⟩
                     | exact ⟨hc0, hc1, hc2, hc3, hc4, hc5, hB0⟩
                     | (go_split_ands; refine ⟨?_, ?_, ?_, ?_, ?_, ?_, ?_⟩ <;> assumption))
                   (first
                     | (go_at_call 30; obtain ⟨hc0, hc1, hc2, hc3, hc4, hc5, hB⟩ := ‹_ ∧ _ ∧ _ ∧ _ ∧ _ ∧ _ ∧ Below wz.heap.size wz _›; (with_reducible refine (implTxnStatus_any rc (.slice av (ws).length cv) (ws) _ (iye.below hB) s HSS.out).mono ?_); rintro e wr' ⟨rfl, hb⟩; replace hc0 := below_cell hb hc0; replace hc1 := below_cell hb hc1; replace hc2 := below_cell hb hc2; replace hc3 := below_cell hb hc3; replace hc4 := below_cell hb hc4; replace hc5 := below_cell hb hc5; have hB2 := below_step hB hb hB.size)
                     | (go_at_call 30; obtain ⟨hc0, hc1, hc2, hc3, hc4, hc5, hB⟩ := ‹_ ∧ _ ∧ _ ∧ _ ∧ _ ∧ _ ∧ Below wz.heap.size wz _›; (with_reducible refine (implTxnStatus_any rc (.slice a2 (ws).length c2) (ws) _ (i2e.below hB).ints s HSS.out).mono ?_); rintro e wr' ⟨rfl, hb⟩; replace hc0 := below_cell hb hc0; replace hc1 := below_cell hb hc1; replace hc2 := below_cell hb hc2; replace hc3 := below_cell hb hc3; replace hc4 := below_cell hb hc4; replace hc5 := below_cell hb hc5; have hB2 := below_step hB hb hB.size)
                     | (go_at_call 30; obtain ⟨hc0, hc1, hc2, hc3, hc4, hc5, hB⟩ := ‹_ ∧ _ ∧ _ ∧ _ ∧ _ ∧ _ ∧ Below wz.heap.size wz _›; (with_reducible refine (implTxnStatus_any rc (.slice a9 (ws).length c9) (ws) _ (ize.below hB).ints s HSS.out).mono ?_); rintro e wr' ⟨rfl, hb⟩; replace hc0 := below_cell hb hc0; replace hc1 := below_cell hb hc1; replace hc2 := below_cell hb hc2; replace hc3 := below_cell hb hc3; replace hc4 := below_cell hb hc4; replace hc5 := below_cell hb hc5; have hB2 := below_step hB hb hB.size))
                 all_goals
                   go_wp2_with fail
                   go_ret
                   exact ⟨rfl, below_step HBe hB2 HBe.size⟩
     case false =>
       have hlt2 : rc < 2 := by
         unfold isEnded at he
         simp at he
         omega
       cases hf : (rc == 1 && fullW ws)
       case true =>
         have HS := Lib.hid (show recoverT rc ws = (2, ws, true) by simp [recoverT, he, hf])
         have HST := Lib.hid (show txnStat rc ws = 2 by
           have e2 : (rc == 2) = false := beq_eq_false_iff_ne.2 (by omega)
           have e3 : (rc == 3) = false := beq_eq_false_iff_ne.2 (by omega)
           unfold txnStat statOf; rw [hv, hf, e2, e3]; rfl)
         have HFU := Lib.hid (show fullW ws = true by simp at hf; exact hf.2)
         have HR := Lib.hid (show recoverR rc ws = (2, ws, true) by unfold recoverR; rw [hv, HS.out]; rfl)
         clear q127_kT0 q128_kT1
         refine (opOf (specTxnRecover_any rc (.slice at0 ws.length ct0) ws _ it.ints) HR.out).mono ?_
         rintro e w3 ⟨y1, rfl, i1, hb3⟩
         have hs3 := hb3.size
         replace it := it.below hb3
         replace kT := kT.below hb3
         replace hL := hL.below hb3
         replace HB := below_step HB hb3 HB.size
         clear hb3
         obtain ⟨a1, c1, hv_y1⟩ := own_form i1
         subst hv_y1
         have q203_kT0 := kT.cell 0 rfl
         have q204_kT1 := kT.cell 1 rfl
         have hb4 : Below w3.heap.size w3 (w3.alloc (.cells #[.int .i64 2, .slice a1 (ws).length c1] 25)) := (Below.refl _ _).alloc (Nat.le_refl _) _
         have hs4 := hb4.size
         replace it := it.below hb4
         replace i1 := i1.below hb4
         replace kT := kT.below hb4
         replace hL := hL.below hb4
         replace HB := below_step HB hb4 HB.size
         have kW := Blk.new w3 #[.int .i64 2, .slice a1 (ws).length c1] 25
         have hl4 := kW.lt
         clear hb4
         have q205_kT0 := kT.cell 0 rfl
         have q206_kT1 := kT.cell 1 rfl
         have q207_kW0 := kW.cell 0 rfl
         have q208_kW1 := kW.cell 1 rfl
         as_aux_lemma =>
          go_wp2_with fail
          generalize w3.alloc (.cells #[.int .i64 2, .slice a1 (ws).length c1] 25) = w4 at *
          generalize w3.heap.size = B4 at *
          clear q203_kT0 q204_kT1 q205_kT0 q206_kT1 q207_kW0 q208_kW1
          refine (opOf (implTxnRecover_any rc (.slice at0 ws.length ct0) ws _ it.ints hL) HR.out).mono ?_
          rintro e w5 ⟨y2, rfl, i2, hb5⟩
          have hs5 := hb5.size
          replace it := it.below hb5
          replace i1 := i1.below hb5
          replace kT := kT.below hb5
          replace kW := kW.below hb5
          replace hL := hL.below hb5
          replace HB := below_step HB hb5 HB.size
          clear hb5
          obtain ⟨a2, c2, hv_y2⟩ := own_form i2
          subst hv_y2
          have q209_kT0 := kT.cell 0 rfl
          have q210_kT1 := kT.cell 1 rfl
          have q211_kW0 := kW.cell 0 rfl
          have q212_kW1 := kW.cell 1 rfl
          have hb6 : Below w5.heap.size w5 (w5.alloc (.cells #[.int .i64 2, .slice a2 (ws).length c2] 25)) := (Below.refl _ _).alloc (Nat.le_refl _) _
          have hs6 := hb6.size
          replace it := it.below hb6
          replace i1 := i1.below hb6
          replace i2 := i2.below hb6
          replace kT := kT.below hb6
          replace kW := kW.below hb6
          replace hL := hL.below hb6
          replace HB := below_step HB hb6 HB.size
          have kX := Blk.new w5 #[.int .i64 2, .slice a2 (ws).length c2] 25
          have hl6 := kX.lt
          clear hb6
          have q213_kT0 := kT.cell 0 rfl
          have q214_kT1 := kT.cell 1 rfl
          have q215_kW0 := kW.cell 0 rfl
          have q216_kW1 := kW.cell 1 rfl
          have q217_kX0 := kX.cell 0 rfl
          have q218_kX1 := kX.cell 1 rfl
          as_aux_lemma =>
           go_wp2_with fail
           generalize w5.alloc (.cells #[.int .i64 2, .slice a2 (ws).length c2] 25) = w6 at *
           generalize w5.heap.size = B6 at *
           clear q209_kT0 q210_kT1 q211_kW0 q212_kW1 q213_kT0 q214_kT1 q215_kW0 q216_kW1 q217_kX0 q218_kX1
           refine (sameTxn_any 2 2 _ _ (ws) (ws) _ i2.ints i1.ints true (by simp)).mono ?_
           rintro e w7 ⟨rfl, hb7⟩
           have hs7 := hb7.size
           replace it := it.below hb7
           replace i1 := i1.below hb7
           replace i2 := i2.below hb7
           replace kT := kT.below hb7
           replace kW := kW.below hb7
           replace kX := kX.below hb7
           replace hL := hL.below hb7
           replace HB := below_step HB hb7 HB.size
           clear hb7
           have q219_kT0 := kT.cell 0 rfl
           have q220_kT1 := kT.cell 1 rfl
           have q221_kW0 := kW.cell 0 rfl
           have q222_kW1 := kW.cell 1 rfl
           have q223_kX0 := kX.cell 0 rfl
           have q224_kX1 := kX.cell 1 rfl
           as_aux_lemma =>
            go_wp2_with fail
            clear q219_kT0 q220_kT1 q221_kW0 q222_kW1 q223_kX0 q224_kX1
            refine (specTxnValid_any rc _ ws _ it.ints true HV.out).mono ?_
            rintro e w8 ⟨rfl, hb8⟩
            have hs8 := hb8.size
            replace it := it.below hb8
            replace i1 := i1.below hb8
            replace i2 := i2.below hb8
            replace kT := kT.below hb8
            replace kW := kW.below hb8
            replace kX := kX.below hb8
            replace hL := hL.below hb8
            replace HB := below_step HB hb8 HB.size
            clear hb8
            have q225_kT0 := kT.cell 0 rfl
            have q226_kT1 := kT.cell 1 rfl
            have q227_kW0 := kW.cell 0 rfl
            have q228_kW1 := kW.cell 1 rfl
            have q229_kX0 := kX.cell 0 rfl
            have q230_kX1 := kX.cell 1 rfl
            as_aux_lemma =>
             go_wp2_with fail
             have HVX := Lib.hid (show txnOk 2 ws = true by rw [txnOk_two (rc := rc) HV.out]; exact HFU.out)
             have HEX := Lib.hid (show isEnded 2 = true from rfl)
             have HW := Lib.hid (fun k hk => write_ended HVX.out HEX.out k hk)
             have HFI := Lib.hid (finish_ended HVX.out HEX.out)
             obtain ⟨s, hs⟩ : ∃ s, txnStat 2 ws = s := ⟨_, rfl⟩
             have HSS := Lib.hid hs; clear hs
             have hse : (s == s) = true := by simp
             have q231_kT0 := kT.cell 0 rfl
             have q232_kT1 := kT.cell 1 rfl
             have q233_kW0 := kW.cell 0 rfl
             have q234_kW1 := kW.cell 1 rfl
             have q235_kX0 := kX.cell 0 rfl
             have q236_kX1 := kX.cell 1 rfl
             have hb9 : Below w8.heap.size w8 (w8.alloc (.cells #[.int .i64 2, .slice a2 (ws).length c2] 25)) := (Below.refl _ _).alloc (Nat.le_refl _) _
             have h2h := i2.2.2
             have h2r := Nat.le_refl w8.heap.size
             have hs9 := hb9.size
             replace it := it.below hb9
             replace i1 := i1.below hb9
             replace i2 := i2.below hb9
             replace kT := kT.below hb9
             replace kW := kW.below hb9
             replace kX := kX.below hb9
             replace hL := hL.below hb9
             replace HB := below_step HB hb9 HB.size
             have kY := Blk.new w8 #[.int .i64 2, .slice a2 (ws).length c2] 25
             have hlY := kY.lt
             clear hb9
             have q237_kT0 := kT.cell 0 rfl
             have q238_kT1 := kT.cell 1 rfl
             have q239_kW0 := kW.cell 0 rfl
             have q240_kW1 := kW.cell 1 rfl
             have q241_kX0 := kX.cell 0 rfl
             have q242_kX1 := kX.cell 1 rfl
             go_wp2_with fail
             generalize w8.alloc (.cells #[.int .i64 2, .slice a2 (ws).length c2] 25) = w9 at *
             generalize w8.heap.size = BY at *
             clear q225_kT0 q226_kT1 q227_kW0 q228_kW1 q229_kX0 q230_kX1 q231_kT0 q232_kT1 q233_kW0 q234_kW1 q235_kX0 q236_kX1 q237_kT0 q238_kT1 q239_kW0 q240_kW1 q241_kX0 q242_kX1
             go_loopw [9] (fun i wr => ∃ (k : Nat) (av : Option Addr) (cv lo hi : Nat), k ≤ (ws).length ∧ i = .int .i64 k ∧ Blk wr BY #[.int .i64 2, .slice av (ws).length cv] 25 ∧ Ints wr lo hi (.slice av (ws).length cv) (ws) ∧ (hi ≤ BY ∨ BY + 1 ≤ lo) ∧ Keep BY (BY + 1) w9 wr) (fun i _ => (ws).length - (intOf i).toNat)
             case atStart => exact ⟨0, _, _, _, _, Nat.zero_le _, rfl, kY, i2.ints, .inl h2h, Keep.refl _ _ _⟩
             case round =>
               obtain ⟨k, av, cv, lo, hi, hk, rfl, kYr, iyr, hdis, hkp⟩ := hrel
               have hsz := hkp.size
               have hlYr := kYr.lt
               have hLr := hL.keep hkp (by have := hL.lt; omega)
               have kXr := kX.keep hkp (.inl (by omega))
               have x0 := kXr.cell 0 rfl
               have x1 := kXr.cell 1 rfl
               have y0 := kYr.cell 0 rfl
               have y1 := kYr.cell 1 rfl
               by_cases hlt : k < (ws).length
               · have HWk := Lib.hid (HW.out k hlt)
                 go_wp2_with fail
                 refine (opOf (implTxnWrite_any 2 _ (ws) k _ iyr hLr) HWk.out).mono ?_
                 rintro e w2' ⟨y, rfl, iy, hb2⟩
                 obtain ⟨a9, c9, hv9⟩ := own_form iy
                 subst hv9
                 have hb3 : Below w2'.heap.size w2' (w2'.alloc (.cells #[.int .i64 2, .slice a9 (ws).length c9] 25)) := (Below.refl _ _).alloc (Nat.le_refl _) _
                 have hb23 := below_step hb2 hb3 hb2.size
                 have kYe := kYr.below hb23
                 have e0 := kYe.cell 0 rfl
                 have e1 := kYe.cell 1 rfl
                 have f0 := kYe.frozen 0
                 have f1 := kYe.frozen 1
                 have hs2 := hb2.size
                 have hlb : BY < w2'.heap.size := by omega
                 have d0 := (kYr.below hb2).cell 0 rfl
                 have d1 := (kYr.below hb2).cell 1 rfl
                 have g0 := (kYr.below hb2).frozen 0
                 have g1 := (kYr.below hb2).frozen 1
                 have HFIN := Lib.hid (race_step (w2 := w2') (u0 := .int .i64 2) (u1 := .slice a9 (ws).length c9) kYr hb2 iy hkp (Nat.le_of_lt hlYr) rfl)
                 clear hb3 hb23 hb2 x0 x1 y0 y1 kYe kXr hLr
                 as_aux_lemma =>
                   go_wp2_with fail
                   go_roundw
                   case rel => exact ⟨k + 1, _, _, _, _, by omega, by go_num, HFIN.out.1, HFIN.out.2.1, .inr (Nat.succ_le_of_lt hlYr), HFIN.out.2.2⟩
                   case measure => simp [intOf]; omega
               · skip
                 go_wp2_with fail
                 refine (opOf (implTxnFinish_any 2 _ (ws) _ iyr hLr) HFI.out).mono ?_
                 rintro e w3' ⟨y, rfl, iz, hb2⟩
                 obtain ⟨a9, c9, hv9⟩ := own_form iz
                 subst hv9
                 have hb3 : Below w3'.heap.size w3' (w3'.alloc (.cells #[.int .i64 2, .slice a9 (ws).length c9] 25)) := (Below.refl _ _).alloc (Nat.le_refl _) _
                 have kZ := Blk.new w3' #[.int .i64 2, .slice a9 (ws).length c9] 25
                 have hb23 := below_step hb2 hb3 hb2.size
                 have i2e := ((i2.keep hkp (.inl h2h)).below hb2).below hb3
                 have iye := (iyr.below hb2).below hb3
                 have ize := iz.below hb3
                 have kXe := (kXr.below hb2).below hb3
                 have kYe := (kYr.below hb2).below hb3
                 have HBe := below_step (HB.trans (hkp.below (B := w.heap.size) (by omega) (by omega))) hb23 (by omega)
                 have hs3 := hb2.size
                 have x0 := (kXr.below hb2).cell 0 rfl
                 have x1 := (kXr.below hb2).cell 1 rfl
                 have y0 := (kYr.below hb2).cell 0 rfl
                 have y1 := (kYr.below hb2).cell 1 rfl
                 have hc0 := kYe.cell 0 rfl
                 have hc1 := kYe.cell 1 rfl
                 have hc2 := kXe.cell 0 rfl
                 have hc3 := kXe.cell 1 rfl
                 have hc4 := kZ.cell 0 rfl
                 have hc5 := kZ.cell 1 rfl
                 clear hb3 hb23 hb2 kYe kXe kXr hLr iz iyr
                 as_aux_lemma =>
                   go_wp2_with fail
                   generalize w3'.alloc (.cells #[.int .i64 2, .slice a9 (ws).length c9] 25) = wz at *
                   generalize w3'.heap.size = BZ at *
                   have hB0 : Below wz.heap.size wz wz.drew := (Below.refl _ _).drew
                   go_region_held3 (fun w' => w'.cell? ⟨BY, 0, none⟩ = some (.int .i64 2) ∧ w'.cell? ⟨BY, 1, none⟩ = some (.slice av (ws).length cv) ∧ w'.cell? ⟨B6, 0, none⟩ = some (.int .i64 2) ∧ w'.cell? ⟨B6, 1, none⟩ = some (.slice a2 (ws).length c2) ∧ w'.cell? ⟨BZ, 0, none⟩ = some (.int .i64 2) ∧ w'.cell? ⟨BZ, 1, none⟩ = some (.slice a9 (ws).length c9) ∧ Below wz.heap.size wz w')
                     (first
                       | exact ⟨hc0, hc1, hc2, hc3, hc4, hc5, hB2⟩
                       | exact ⟨hc0, hc1, hc2, hc3, hc4, hc5, hB0⟩
                       | (go_split_ands; refine ⟨?_, ?_, ?_, ?_, ?_, ?_, ?_⟩ <;> assumption))
                     (first
                       | (go_at_call 30; obtain ⟨hc0, hc1, hc2, hc3, hc4, hc5, hB⟩ := ‹_ ∧ _ ∧ _ ∧ _ ∧ _ ∧ _ ∧ Below wz.heap.size wz _›; (with_reducible refine (implTxnStatus_any 2 (.slice av (ws).length cv) (ws) _ (iye.below hB) s HSS.out).mono ?_); rintro e wr' ⟨rfl, hb⟩; replace hc0 := below_cell hb hc0; replace hc1 := below_cell hb hc1; replace hc2 := below_cell hb hc2; replace hc3 := below_cell hb hc3; replace hc4 := below_cell hb hc4; replace hc5 := below_cell hb hc5; have hB2 := below_step hB hb hB.size)
                       | (go_at_call 30; obtain ⟨hc0, hc1, hc2, hc3, hc4, hc5, hB⟩ := ‹_ ∧ _ ∧ _ ∧ _ ∧ _ ∧ _ ∧ Below wz.heap.size wz _›; (with_reducible refine (implTxnStatus_any 2 (.slice a2 (ws).length c2) (ws) _ (i2e.below hB).ints s HSS.out).mono ?_); rintro e wr' ⟨rfl, hb⟩; replace hc0 := below_cell hb hc0; replace hc1 := below_cell hb hc1; replace hc2 := below_cell hb hc2; replace hc3 := below_cell hb hc3; replace hc4 := below_cell hb hc4; replace hc5 := below_cell hb hc5; have hB2 := below_step hB hb hB.size)
                       | (go_at_call 30; obtain ⟨hc0, hc1, hc2, hc3, hc4, hc5, hB⟩ := ‹_ ∧ _ ∧ _ ∧ _ ∧ _ ∧ _ ∧ Below wz.heap.size wz _›; (with_reducible refine (implTxnStatus_any 2 (.slice a9 (ws).length c9) (ws) _ (ize.below hB).ints s HSS.out).mono ?_); rintro e wr' ⟨rfl, hb⟩; replace hc0 := below_cell hb hc0; replace hc1 := below_cell hb hc1; replace hc2 := below_cell hb hc2; replace hc3 := below_cell hb hc3; replace hc4 := below_cell hb hc4; replace hc5 := below_cell hb hc5; have hB2 := below_step hB hb hB.size))
                   all_goals
                     go_wp2_with fail
                     go_ret
                     exact ⟨rfl, below_step HBe hB2 HBe.size⟩
       case false =>
         have HS := Lib.hid (show recoverT rc ws = (3, refuse ws, true) by simp [recoverT, he, hf])
         have HST := Lib.hid (show txnStat rc ws = 0 by
           have e2 : (rc == 2) = false := beq_eq_false_iff_ne.2 (by omega)
           have e3 : (rc == 3) = false := beq_eq_false_iff_ne.2 (by omega)
           unfold txnStat statOf; rw [hv, hf, e2, e3]; rfl)
         have HR := Lib.hid (show recoverR rc ws = (3, refuse ws, true) by unfold recoverR; rw [hv, HS.out]; rfl)
         clear q127_kT0 q128_kT1
         refine (opOf (specTxnRecover_any rc (.slice at0 ws.length ct0) ws _ it.ints) HR.out).mono ?_
         rintro e w3 ⟨y1, rfl, i1, hb3⟩
         have hs3 := hb3.size
         replace it := it.below hb3
         replace kT := kT.below hb3
         replace hL := hL.below hb3
         replace HB := below_step HB hb3 HB.size
         clear hb3
         obtain ⟨a1, c1, hv_y1⟩ := own_form i1
         subst hv_y1
         have q243_kT0 := kT.cell 0 rfl
         have q244_kT1 := kT.cell 1 rfl
         have hb4 : Below w3.heap.size w3 (w3.alloc (.cells #[.int .i64 3, .slice a1 (refuse ws).length c1] 25)) := (Below.refl _ _).alloc (Nat.le_refl _) _
         have hs4 := hb4.size
         replace it := it.below hb4
         replace i1 := i1.below hb4
         replace kT := kT.below hb4
         replace hL := hL.below hb4
         replace HB := below_step HB hb4 HB.size
         have kW := Blk.new w3 #[.int .i64 3, .slice a1 (refuse ws).length c1] 25
         have hl4 := kW.lt
         clear hb4
         have q245_kT0 := kT.cell 0 rfl
         have q246_kT1 := kT.cell 1 rfl
         have q247_kW0 := kW.cell 0 rfl
         have q248_kW1 := kW.cell 1 rfl
         as_aux_lemma =>
          go_wp2_with fail
          generalize w3.alloc (.cells #[.int .i64 3, .slice a1 (refuse ws).length c1] 25) = w4 at *
          generalize w3.heap.size = B4 at *
          clear q243_kT0 q244_kT1 q245_kT0 q246_kT1 q247_kW0 q248_kW1
          refine (opOf (implTxnRecover_any rc (.slice at0 ws.length ct0) ws _ it.ints hL) HR.out).mono ?_
          rintro e w5 ⟨y2, rfl, i2, hb5⟩
          have hs5 := hb5.size
          replace it := it.below hb5
          replace i1 := i1.below hb5
          replace kT := kT.below hb5
          replace kW := kW.below hb5
          replace hL := hL.below hb5
          replace HB := below_step HB hb5 HB.size
          clear hb5
          obtain ⟨a2, c2, hv_y2⟩ := own_form i2
          subst hv_y2
          have q249_kT0 := kT.cell 0 rfl
          have q250_kT1 := kT.cell 1 rfl
          have q251_kW0 := kW.cell 0 rfl
          have q252_kW1 := kW.cell 1 rfl
          have hb6 : Below w5.heap.size w5 (w5.alloc (.cells #[.int .i64 3, .slice a2 (refuse ws).length c2] 25)) := (Below.refl _ _).alloc (Nat.le_refl _) _
          have hs6 := hb6.size
          replace it := it.below hb6
          replace i1 := i1.below hb6
          replace i2 := i2.below hb6
          replace kT := kT.below hb6
          replace kW := kW.below hb6
          replace hL := hL.below hb6
          replace HB := below_step HB hb6 HB.size
          have kX := Blk.new w5 #[.int .i64 3, .slice a2 (refuse ws).length c2] 25
          have hl6 := kX.lt
          clear hb6
          have q253_kT0 := kT.cell 0 rfl
          have q254_kT1 := kT.cell 1 rfl
          have q255_kW0 := kW.cell 0 rfl
          have q256_kW1 := kW.cell 1 rfl
          have q257_kX0 := kX.cell 0 rfl
          have q258_kX1 := kX.cell 1 rfl
          as_aux_lemma =>
           go_wp2_with fail
           generalize w5.alloc (.cells #[.int .i64 3, .slice a2 (refuse ws).length c2] 25) = w6 at *
           generalize w5.heap.size = B6 at *
           clear q249_kT0 q250_kT1 q251_kW0 q252_kW1 q253_kT0 q254_kT1 q255_kW0 q256_kW1 q257_kX0 q258_kX1
           refine (sameTxn_any 3 3 _ _ (refuse ws) (refuse ws) _ i2.ints i1.ints true (by simp)).mono ?_
           rintro e w7 ⟨rfl, hb7⟩
           have hs7 := hb7.size
           replace it := it.below hb7
           replace i1 := i1.below hb7
           replace i2 := i2.below hb7
           replace kT := kT.below hb7
           replace kW := kW.below hb7
           replace kX := kX.below hb7
           replace hL := hL.below hb7
           replace HB := below_step HB hb7 HB.size
           clear hb7
           have q259_kT0 := kT.cell 0 rfl
           have q260_kT1 := kT.cell 1 rfl
           have q261_kW0 := kW.cell 0 rfl
           have q262_kW1 := kW.cell 1 rfl
           have q263_kX0 := kX.cell 0 rfl
           have q264_kX1 := kX.cell 1 rfl
           as_aux_lemma =>
            go_wp2_with fail
            clear q259_kT0 q260_kT1 q261_kW0 q262_kW1 q263_kX0 q264_kX1
            refine (specTxnValid_any rc _ ws _ it.ints true HV.out).mono ?_
            rintro e w8 ⟨rfl, hb8⟩
            have hs8 := hb8.size
            replace it := it.below hb8
            replace i1 := i1.below hb8
            replace i2 := i2.below hb8
            replace kT := kT.below hb8
            replace kW := kW.below hb8
            replace kX := kX.below hb8
            replace hL := hL.below hb8
            replace HB := below_step HB hb8 HB.size
            clear hb8
            have q265_kT0 := kT.cell 0 rfl
            have q266_kT1 := kT.cell 1 rfl
            have q267_kW0 := kW.cell 0 rfl
            have q268_kW1 := kW.cell 1 rfl
            have q269_kX0 := kX.cell 0 rfl
            have q270_kX1 := kX.cell 1 rfl
            as_aux_lemma =>
             go_wp2_with fail
             have HVX := Lib.hid HOK.out
             have HEX := Lib.hid (show isEnded 3 = true from rfl)
             have HW := Lib.hid (fun k hk => write_ended HVX.out HEX.out k hk)
             have HFI := Lib.hid (finish_ended HVX.out HEX.out)
             have hy4 : (refuse ws).length ≤ 4 := by rw [refuse_len]; exact l1
             have hrl := refuse_len ws
             have HRL := Lib.hid hrl; clear hrl
             generalize hys : refuse ws = ys at *
             have HYS := Lib.hid hys; clear hys
             obtain ⟨s, hs⟩ : ∃ s, txnStat 3 ys = s := ⟨_, rfl⟩
             have HSS := Lib.hid hs; clear hs
             have hse : (s == s) = true := by simp
             have q271_kT0 := kT.cell 0 rfl
             have q272_kT1 := kT.cell 1 rfl
             have q273_kW0 := kW.cell 0 rfl
             have q274_kW1 := kW.cell 1 rfl
             have q275_kX0 := kX.cell 0 rfl
             have q276_kX1 := kX.cell 1 rfl
             have hb9 : Below w8.heap.size w8 (w8.alloc (.cells #[.int .i64 3, .slice a2 (ys).length c2] 25)) := (Below.refl _ _).alloc (Nat.le_refl _) _
             have h2h := i2.2.2
             have h2r := Nat.le_refl w8.heap.size
             have hs9 := hb9.size
             replace it := it.below hb9
             replace i1 := i1.below hb9
             replace i2 := i2.below hb9
             replace kT := kT.below hb9
             replace kW := kW.below hb9
             replace kX := kX.below hb9
             replace hL := hL.below hb9
             replace HB := below_step HB hb9 HB.size
             have kY := Blk.new w8 #[.int .i64 3, .slice a2 (ys).length c2] 25
             have hlY := kY.lt
             clear hb9
             have q277_kT0 := kT.cell 0 rfl
             have q278_kT1 := kT.cell 1 rfl
             have q279_kW0 := kW.cell 0 rfl
             have q280_kW1 := kW.cell 1 rfl
             have q281_kX0 := kX.cell 0 rfl
             have q282_kX1 := kX.cell 1 rfl
             go_wp2_with fail
             generalize w8.alloc (.cells #[.int .i64 3, .slice a2 (ys).length c2] 25) = w9 at *
             generalize w8.heap.size = BY at *
             clear q265_kT0 q266_kT1 q267_kW0 q268_kW1 q269_kX0 q270_kX1 q271_kT0 q272_kT1 q273_kW0 q274_kW1 q275_kX0 q276_kX1 q277_kT0 q278_kT1 q279_kW0 q280_kW1 q281_kX0 q282_kX1
             go_loopw [9] (fun i wr => ∃ (k : Nat) (av : Option Addr) (cv lo hi : Nat), k ≤ (ys).length ∧ i = .int .i64 k ∧ Blk wr BY #[.int .i64 3, .slice av (ys).length cv] 25 ∧ Ints wr lo hi (.slice av (ys).length cv) (ys) ∧ (hi ≤ BY ∨ BY + 1 ≤ lo) ∧ Keep BY (BY + 1) w9 wr) (fun i _ => (ys).length - (intOf i).toNat)
             case atStart => exact ⟨0, _, _, _, _, Nat.zero_le _, rfl, kY, i2.ints, .inl h2h, Keep.refl _ _ _⟩
             case round =>
               obtain ⟨k, av, cv, lo, hi, hk, rfl, kYr, iyr, hdis, hkp⟩ := hrel
               have hsz := hkp.size
               have hlYr := kYr.lt
               have hLr := hL.keep hkp (by have := hL.lt; omega)
               have kXr := kX.keep hkp (.inl (by omega))
               have x0 := kXr.cell 0 rfl
               have x1 := kXr.cell 1 rfl
               have y0 := kYr.cell 0 rfl
               have y1 := kYr.cell 1 rfl
               by_cases hlt : k < (ys).length
               · have HWk := Lib.hid (HW.out k hlt)
                 go_wp2_with fail
                 refine (opOf (implTxnWrite_any 3 _ (ys) k _ iyr hLr) HWk.out).mono ?_
                 rintro e w2' ⟨y, rfl, iy, hb2⟩
                 obtain ⟨a9, c9, hv9⟩ := own_form iy
                 subst hv9
                 have hb3 : Below w2'.heap.size w2' (w2'.alloc (.cells #[.int .i64 3, .slice a9 (ys).length c9] 25)) := (Below.refl _ _).alloc (Nat.le_refl _) _
                 have hb23 := below_step hb2 hb3 hb2.size
                 have kYe := kYr.below hb23
                 have e0 := kYe.cell 0 rfl
                 have e1 := kYe.cell 1 rfl
                 have f0 := kYe.frozen 0
                 have f1 := kYe.frozen 1
                 have hs2 := hb2.size
                 have hlb : BY < w2'.heap.size := by omega
                 have d0 := (kYr.below hb2).cell 0 rfl
                 have d1 := (kYr.below hb2).cell 1 rfl
                 have g0 := (kYr.below hb2).frozen 0
                 have g1 := (kYr.below hb2).frozen 1
                 have HFIN := Lib.hid (race_step (w2 := w2') (u0 := .int .i64 3) (u1 := .slice a9 (ys).length c9) kYr hb2 iy hkp (Nat.le_of_lt hlYr) rfl)
                 clear hb3 hb23 hb2 x0 x1 y0 y1 kYe kXr hLr
                 as_aux_lemma =>
                   go_wp2_with fail
                   go_roundw
                   case rel => exact ⟨k + 1, _, _, _, _, by omega, by go_num, HFIN.out.1, HFIN.out.2.1, .inr (Nat.succ_le_of_lt hlYr), HFIN.out.2.2⟩
                   case measure => simp [intOf]; omega
               · skip
                 go_wp2_with fail
                 refine (opOf (implTxnFinish_any 3 _ (ys) _ iyr hLr) HFI.out).mono ?_
                 rintro e w3' ⟨y, rfl, iz, hb2⟩
                 obtain ⟨a9, c9, hv9⟩ := own_form iz
                 subst hv9
                 have hb3 : Below w3'.heap.size w3' (w3'.alloc (.cells #[.int .i64 3, .slice a9 (ys).length c9] 25)) := (Below.refl _ _).alloc (Nat.le_refl _) _
                 have kZ := Blk.new w3' #[.int .i64 3, .slice a9 (ys).length c9] 25
                 have hb23 := below_step hb2 hb3 hb2.size
                 have i2e := ((i2.keep hkp (.inl h2h)).below hb2).below hb3
                 have iye := (iyr.below hb2).below hb3
                 have ize := iz.below hb3
                 have kXe := (kXr.below hb2).below hb3
                 have kYe := (kYr.below hb2).below hb3
                 have HBe := below_step (HB.trans (hkp.below (B := w.heap.size) (by omega) (by omega))) hb23 (by omega)
                 have hs3 := hb2.size
                 have x0 := (kXr.below hb2).cell 0 rfl
                 have x1 := (kXr.below hb2).cell 1 rfl
                 have y0 := (kYr.below hb2).cell 0 rfl
                 have y1 := (kYr.below hb2).cell 1 rfl
                 have hc0 := kYe.cell 0 rfl
                 have hc1 := kYe.cell 1 rfl
                 have hc2 := kXe.cell 0 rfl
                 have hc3 := kXe.cell 1 rfl
                 have hc4 := kZ.cell 0 rfl
                 have hc5 := kZ.cell 1 rfl
                 clear hb3 hb23 hb2 kYe kXe kXr hLr iz iyr
                 as_aux_lemma =>
                   go_wp2_with fail
                   generalize w3'.alloc (.cells #[.int .i64 3, .slice a9 (ys).length c9] 25) = wz at *
                   generalize w3'.heap.size = BZ at *
                   have hB0 : Below wz.heap.size wz wz.drew := (Below.refl _ _).drew
                   go_region_held3 (fun w' => w'.cell? ⟨BY, 0, none⟩ = some (.int .i64 3) ∧ w'.cell? ⟨BY, 1, none⟩ = some (.slice av (ys).length cv) ∧ w'.cell? ⟨B6, 0, none⟩ = some (.int .i64 3) ∧ w'.cell? ⟨B6, 1, none⟩ = some (.slice a2 (ys).length c2) ∧ w'.cell? ⟨BZ, 0, none⟩ = some (.int .i64 3) ∧ w'.cell? ⟨BZ, 1, none⟩ = some (.slice a9 (ys).length c9) ∧ Below wz.heap.size wz w')
                     (first
                       | exact ⟨hc0, hc1, hc2, hc3, hc4, hc5, hB2⟩
                       | exact ⟨hc0, hc1, hc2, hc3, hc4, hc5, hB0⟩
                       | (go_split_ands; refine ⟨?_, ?_, ?_, ?_, ?_, ?_, ?_⟩ <;> assumption))
                     (first
                       | (go_at_call 30; obtain ⟨hc0, hc1, hc2, hc3, hc4, hc5, hB⟩ := ‹_ ∧ _ ∧ _ ∧ _ ∧ _ ∧ _ ∧ Below wz.heap.size wz _›; (with_reducible refine (implTxnStatus_any 3 (.slice av (ys).length cv) (ys) _ (iye.below hB) s HSS.out).mono ?_); rintro e wr' ⟨rfl, hb⟩; replace hc0 := below_cell hb hc0; replace hc1 := below_cell hb hc1; replace hc2 := below_cell hb hc2; replace hc3 := below_cell hb hc3; replace hc4 := below_cell hb hc4; replace hc5 := below_cell hb hc5; have hB2 := below_step hB hb hB.size)
                       | (go_at_call 30; obtain ⟨hc0, hc1, hc2, hc3, hc4, hc5, hB⟩ := ‹_ ∧ _ ∧ _ ∧ _ ∧ _ ∧ _ ∧ Below wz.heap.size wz _›; (with_reducible refine (implTxnStatus_any 3 (.slice a2 (ys).length c2) (ys) _ (i2e.below hB).ints s HSS.out).mono ?_); rintro e wr' ⟨rfl, hb⟩; replace hc0 := below_cell hb hc0; replace hc1 := below_cell hb hc1; replace hc2 := below_cell hb hc2; replace hc3 := below_cell hb hc3; replace hc4 := below_cell hb hc4; replace hc5 := below_cell hb hc5; have hB2 := below_step hB hb hB.size)
                       | (go_at_call 30; obtain ⟨hc0, hc1, hc2, hc3, hc4, hc5, hB⟩ := ‹_ ∧ _ ∧ _ ∧ _ ∧ _ ∧ _ ∧ Below wz.heap.size wz _›; (with_reducible refine (implTxnStatus_any 3 (.slice a9 (ys).length c9) (ys) _ (ize.below hB).ints s HSS.out).mono ?_); rintro e wr' ⟨rfl, hb⟩; replace hc0 := below_cell hb hc0; replace hc1 := below_cell hb hc1; replace hc2 := below_cell hb hc2; replace hc3 := below_cell hb hc3; replace hc4 := below_cell hb hc4; replace hc5 := below_cell hb hc5; have hB2 := below_step hB hb hB.size))
                   all_goals
                     go_wp2_with fail
                     go_ret
                     exact ⟨rfl, below_step HBe hB2 HBe.size⟩

/-! ### THE ROW's STEP -/
set_option maxRecDepth 100000 in
theorem lifted (os : Os) (started : os.Started) (H : Type) (enc : TypeId × Value → H) :
    ReturnsInHanded {} Tryd.checked os 15 .any (fun w args => (Rows.fnTxnRaceSpec.pre enc Tryd.prog Tryd.f15 [] false w args ∧ laidMetH Tryd.prog laidL w) ∧ sizedMet enc Tryd.prog Tryd.f15 (OpenSpec.ofChange Rows.fnTxnRaceSpec) false w args)
      (Rows.fnTxnRaceSpec.post enc Tryd.prog Tryd.f15 false true false false) := by
  refine returnsInHanded_of_change_and (C := Tryd.checked) (X := fun w _ => laidMetH Tryd.prog laidL w) (fun _ _ _ hh h => h.of_heap hh) own started (by kernel_rfl) Tryd.func15
    (ChangeSpec.witness_at (enc := enc) (C := Tryd.checked) (os := os) (X := fun w _ => laidMetH Tryd.prog laidL w) false (laidWorld os) #[.slice none 0 0] 8 rfl (by kernel_rfl) (by kernel_rfl) (by kernel_rfl) (by kernel_rfl) (by kernel_rfl) (laidWorld_met os _)) ?_
  intro W base args ds gs before hval0 hW _ _ hL _
  have hval : ∀ (j : Nat) t v, Tryd.f15.params[j]? = some t → args[j]? = some v → Value.okWide Tryd.prog W .any base t v := hval0
  have hW' := hW
  obtain ⟨p, q, hA0, hV, rfl, hfz, hnd⟩ := hW
  have hA : DataW.TrodAll enc Tryd.prog W 0 (fun _ => true) true Tryd.f15.params.toList args.toList ds p := hA0
  rw [Tryd.params15] at hA hval
  obtain ⟨v0, vs0, d0, ds0, p0, q0, hargs, rfl, rfl, h0, r0⟩ := trodAll_cons hA
  obtain ⟨rfl, rfl, rfl⟩ := trodAll_nil r0
  obtain rfl : args = #[v0] := by cases args; simp_all
  obtain ⟨rfl, rfl⟩ := trodVars_none hV
  obtain ⟨n0, b0⟩ := bytes_in (hval 0 _ v0 rfl rfl) h0
  have lt0 := lt_in h0
  clear hA0 hval0
  refine (walk_at W v0 n0 b0 (laid_of hL)).mono fun e W' ⟨he, bel⟩ => ?_
  subst he
  exact ⟨_, rfl, _, _, _, [], _, [], hW', trodAll_mk1 (shut_bool Tryd.underlying4 _), (trodAll_cons_mk (Below.trod laidOut (by kernel_rfl) (of_decide_eq_true (by kernel_rfl)) h0 bel lt0) trodAll_mk0), rfl, bel.frame _, fun h => by cases h⟩

set_option maxRecDepth 100000 in
theorem closed : joinedFacts Tryd.prog 15 Tryd.f15 Rows.fnTxnRaceSpec Rows.fnTxnRaceRow = true := by
  unfold joinedFacts
  rw [may, lifts, mk]
  kernel_rfl
theorem over : Rows.fnTxnRaceRow.holds Tryd.pinned (OpenSpec.ofChange Rows.fnTxnRaceSpec) :=
  OpenClaim.holds_of_wide 15 Tryd.f15 rfl rfl rfl rfl rfl rfl rfl ⟨rfl, rfl, rfl, rfl, rfl⟩ rfl rfl rfl rfl rfl (by as_aux_lemma => kernel_rfl) Tryd.func15 closed
    (of_decide_eq_true (by as_aux_lemma => kernel_rfl)) (by unfold Func.isWrapper; rw [if_neg (of_decide_eq_false (by as_aux_lemma => kernel_rfl))]; exact ⟨rfl, rfl⟩)
    (fun os started H enc _ => lifted os started H enc)

/-- THE STATEMENT: the tied card -/
theorem proved : Rows.FnTxnRaceCardSaid :=
  Claim7.holds_tied_plain_at .later [] [.handle] true Rows.fnTxnRaceCard.stood.harness true
    over (fun _ h => by cases h) (by kernel_rfl) (fun _ h => by cases h) fnTxnRace_row_tie rfl ⟨rfl, rfl⟩ (by kernel_rfl) rfl
    (fun f fn hf hfn => by
      obtain rfl : f = 15 := Option.some.inj ((show Tryd.prog.funcNamed "loop.example/flexquorum/laws.FnTxnRace" = some 15 by kernel_rfl).symm.trans hf) |>.symm
      obtain rfl : fn = Tryd.f15 := (Option.some.inj (Tryd.func15.symm.trans hfn)).symm
      exact ⟨by kernel_rfl, fun j t ht => by
        rw [Tryd.params15] at ht
        have hm := Array.mem_of_getElem? ht
        simp only [List.mem_toArray, List.mem_cons, List.not_mem_nil, or_false] at hm
        (subst hm; exact (show Tryd.prog.wantsStandIn 22 = false by kernel_rfl))⟩)
    (by kernel_rfl)
end Go.Proofs.YtocinffmdciihaaDoor.fnTxnRace
