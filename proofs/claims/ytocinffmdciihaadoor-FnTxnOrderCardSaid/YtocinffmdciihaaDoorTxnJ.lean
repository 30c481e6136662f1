/-
  The walks of the reference's transitions: TxnStage, TxnFinish, TxnRecover, TxnWrite.
-/
import Derived.Test.YtocinffmdciihaaDoorTxnU
namespace Go.Proofs.YtocinffmdciihaaDoor
open Go.RowKit
set_option linter.unusedVariables false

theorem nil_ownS (w : World) (L : Nat) : IntsO w L w.heap.size (.slice none 0 0) [] := IntsO.nil _ _ _ (Nat.le_refl _)
/-- fin_op, and a block more behind it -/
theorem fin_opA {w w8 : World} {R : Nat} {cs : Array Value} {rc : Int} {y : Value} {ws : List Int} {L : Nat} (o : Obj) (hR : Blk w8 R cs 25) (hc : cs.size = 2) (hRl : w.heap.size ≤ R) (ho : IntsO w8 L w8.heap.size y ws) (hLR : R < L) (hB : Below w.heap.size w w8) :
    ((w8.setCell ⟨R, 0, none⟩ (.int .i64 rc)).setCell ⟨R, 1, none⟩ y).cell? ⟨R, 0, none⟩ = some (.int .i64 rc) ∧ ((w8.setCell ⟨R, 0, none⟩ (.int .i64 rc)).setCell ⟨R, 1, none⟩ y).cell? ⟨R, 1, none⟩ = some y ∧
    (((w8.setCell ⟨R, 0, none⟩ (.int .i64 rc)).setCell ⟨R, 1, none⟩ y).alloc o).cell? ⟨R, 0, none⟩ = some (.int .i64 rc) ∧ (((w8.setCell ⟨R, 0, none⟩ (.int .i64 rc)).setCell ⟨R, 1, none⟩ y).alloc o).cell? ⟨R, 1, none⟩ = some y ∧
    IntsO (((w8.setCell ⟨R, 0, none⟩ (.int .i64 rc)).setCell ⟨R, 1, none⟩ y).alloc o) w.heap.size (((w8.setCell ⟨R, 0, none⟩ (.int .i64 rc)).setCell ⟨R, 1, none⟩ y).alloc o).heap.size y ws ∧
    Below w.heap.size w (((w8.setCell ⟨R, 0, none⟩ (.int .i64 rc)).setCell ⟨R, 1, none⟩ y).alloc o) := by
  obtain ⟨e0, e1, ho2, hB2⟩ := fin_op (rc := rc) hR hc hRl ho hLR hB
  have hb : Below ((w8.setCell ⟨R, 0, none⟩ (.int .i64 rc)).setCell ⟨R, 1, none⟩ y).heap.size ((w8.setCell ⟨R, 0, none⟩ (.int .i64 rc)).setCell ⟨R, 1, none⟩ y) (((w8.setCell ⟨R, 0, none⟩ (.int .i64 rc)).setCell ⟨R, 1, none⟩ y).alloc o) := (Below.refl _ _).alloc (Nat.le_refl _) _
  exact ⟨e0, e1, below_cell hb e0, below_cell hb e1, IntsO.wide (IntsO.below ho2 hb) (Nat.le_refl _) hb.size (Nat.le_refl _), below_step hB2 hb hB2.size⟩

set_option maxRecDepth 100000 in
set_option maxHeartbeats 4000000 in
theorem specTxnStage_any (rc : Int) (v : Value) (ws : List Int) (w : World) {lo hi : Nat} (h : Ints w lo hi v ws) :
    Calls Tryd.prog 18 #[.agg #[.int .i64 rc, v]] w (RetOp w (stageR rc ws)) := by
  cases hv : txnOk rc ws
  · have HT := Lib.hid (show stageR rc ws = (0, [], false) by unfold stageR; rw [hv]; rfl)
    rw [HT.out]
    have HV := Lib.hid hv; clear hv
    have hhi := h.2.1
    have hb1 : Below w.heap.size w (w.alloc (.cells #[.int .i64 rc, v] 25)) := (Below.refl _ _).alloc (Nat.le_refl _) _
    have hk1 := Blk.new w #[.int .i64 rc, v] 25
    have hb2 : Below (w.alloc (.cells #[.int .i64 rc, v] 25)).heap.size (w.alloc (.cells #[.int .i64 rc, v] 25)) ((w.alloc (.cells #[.int .i64 rc, v] 25)).alloc (.cells #[.int .i64 0, .slice none 0 0] 25)) := (Below.refl _ _).alloc (Nat.le_refl _) _
    have hk2 := Blk.new (w.alloc (.cells #[.int .i64 rc, v] 25)) #[.int .i64 0, .slice none 0 0] 25
    have he : (w.alloc (.cells #[.int .i64 rc, v] 25)).heap.size = w.heap.size + 1 := by simp
    rw [he] at hk2
    replace hk1 := hk1.below hb2
    replace h := (h.below hb1).below hb2
    have hB := below_step hb1 hb2 hb1.size

    have hs2 := hB.size
    have hl2 := hk2.lt
    clear hb1 hb2 he
    go_enter Tryd.func18, Tryd.ntmps18
    go_wp2_with fail
    generalize ((w.alloc (.cells #[.int .i64 rc, v] 25)).alloc (.cells #[.int .i64 0, .slice none 0 0] 25)) = w2 at *
    refine (specTxnValid_any rc v ws _ h false HV.out).mono ?_
    rintro e w3 ⟨rfl, hb3⟩
    replace hk2 := hk2.below hb3
    replace hB := below_step hB hb3 hB.size
    clear hb3 h hk1
    have r0 := hk2.cell 0 rfl
    have r1 := hk2.cell 1 rfl
    have f0 := hk2.frozen 0
    have f1 := hk2.frozen 1
    obtain ⟨e0, e1, ho2, hB2⟩ := fin_op (rc := 0) hk2 rfl (Nat.le_succ _) (nil_ownS _ (w.heap.size + 1 + 1)) (by omega) hB
    clear hk2 hB
    go_wp2_with fail
    exact bodyPost_ret (v := .tuple #[.agg #[.int .i64 0, .slice none 0 0], .bool false]) (by simp [results, Tryd.results18, go_sem, e0, e1]) rfl ⟨_, rfl, ho2, hB2⟩
  · have hpp := txnOk_parts hv
    have hx : ws.length ≤ 1000 := by omega
    have hR : stageR rc ws = stageT rc ws := by unfold stageR; rw [hv]; rfl
    rw [hR]
    have HV := Lib.hid hv; clear hv hR
    have HPP := Lib.hid hpp; clear hpp
    cases h0 : (rc == 0)
    · have hn : (rc != 0) = true := by simp [bne, h0]
      have HT := Lib.hid (show stageT rc ws = (rc, ws, false) by simp [stageT, h0])
      rw [HT.out]
      have hhi := h.2.1
      have hb1 : Below w.heap.size w (w.alloc (.cells #[.int .i64 rc, v] 25)) := (Below.refl _ _).alloc (Nat.le_refl _) _
      have hk1 := Blk.new w #[.int .i64 rc, v] 25
      have hb2 : Below (w.alloc (.cells #[.int .i64 rc, v] 25)).heap.size (w.alloc (.cells #[.int .i64 rc, v] 25)) ((w.alloc (.cells #[.int .i64 rc, v] 25)).alloc (.cells #[.int .i64 0, .slice none 0 0] 25)) := (Below.refl _ _).alloc (Nat.le_refl _) _
      have hk2 := Blk.new (w.alloc (.cells #[.int .i64 rc, v] 25)) #[.int .i64 0, .slice none 0 0] 25
      have he : (w.alloc (.cells #[.int .i64 rc, v] 25)).heap.size = w.heap.size + 1 := by simp
      rw [he] at hk2
      replace hk1 := hk1.below hb2
      replace h := (h.below hb1).below hb2
      have hB := below_step hb1 hb2 hb1.size

      have hs2 := hB.size
      have hl2 := hk2.lt
      clear hb1 hb2 he
      go_enter Tryd.func18, Tryd.ntmps18
      go_wp2_with fail
      generalize ((w.alloc (.cells #[.int .i64 rc, v] 25)).alloc (.cells #[.int .i64 0, .slice none 0 0] 25)) = w2 at *
      refine (specTxnValid_any rc v ws _ h true HV.out).mono ?_
      rintro e w3 ⟨rfl, hb3⟩
      replace hk1 := hk1.below hb3
      replace hk2 := hk2.below hb3
      replace h := h.below hb3
      replace hB := below_step hB hb3 hB.size
      have q0 := hk1.cell 0 rfl
      have q1 := hk1.cell 1 rfl
      have hs3 := hb3.size
      clear hb3
      go_wp2_with fail
      refine (specCopy_any rc v ws _ h (by omega)).mono ?_
      rintro e w4 ⟨y, rfl, ho, hb4⟩
      obtain ⟨ay, cy, hy⟩ := own_form ho
      subst hy
      replace hk1 := hk1.below hb4
      replace hk2 := hk2.below hb4
      replace h := h.below hb4
      replace hB := below_step hB hb4 hB.size
      have hs4 := hb4.size
      have hl1 : w.heap.size < w4.heap.size := by omega
      have hl4 : w.heap.size + 1 < w4.heap.size := by omega
      clear hb4 q0 q1
      have q0 := hk1.cell 0 rfl
      have q1 := hk1.cell 1 rfl
      have r0 := hk2.cell 0 rfl
      have r1 := hk2.cell 1 rfl
      have f0 := hk2.frozen 0
      have f1 := hk2.frozen 1
      obtain ⟨e0, e1, e2, e3, ho2, hB2⟩ := fin_opA (rc := rc) (.cells #[.int .i64 rc, .slice ay ws.length cy] 25) hk2 rfl (Nat.le_succ _) ho (by omega) hB
      clear hk2 hB ho h hk1
      go_wp2_with fail
      exact bodyPost_ret (v := .tuple #[.agg #[.int .i64 rc, .slice ay ws.length cy], .bool false]) (by simp [results, Tryd.results18, go_sem, e2, e3]) rfl ⟨_, rfl, ho2, hB2⟩
    · have hn : (rc != 0) = false := by simp [bne, h0]
      have HT := Lib.hid (show stageT rc ws = (1, ws, true) by simp [stageT, h0])
      rw [HT.out]
      have hhi := h.2.1
      have hb1 : Below w.heap.size w (w.alloc (.cells #[.int .i64 rc, v] 25)) := (Below.refl _ _).alloc (Nat.le_refl _) _
      have hk1 := Blk.new w #[.int .i64 rc, v] 25
      have hb2 : Below (w.alloc (.cells #[.int .i64 rc, v] 25)).heap.size (w.alloc (.cells #[.int .i64 rc, v] 25)) ((w.alloc (.cells #[.int .i64 rc, v] 25)).alloc (.cells #[.int .i64 0, .slice none 0 0] 25)) := (Below.refl _ _).alloc (Nat.le_refl _) _
      have hk2 := Blk.new (w.alloc (.cells #[.int .i64 rc, v] 25)) #[.int .i64 0, .slice none 0 0] 25
      have he : (w.alloc (.cells #[.int .i64 rc, v] 25)).heap.size = w.heap.size + 1 := by simp
      rw [he] at hk2
      replace hk1 := hk1.below hb2
      replace h := (h.below hb1).below hb2
      have hB := below_step hb1 hb2 hb1.size

      have hs2 := hB.size
      have hl2 := hk2.lt
      clear hb1 hb2 he
      go_enter Tryd.func18, Tryd.ntmps18
      go_wp2_with fail
      generalize ((w.alloc (.cells #[.int .i64 rc, v] 25)).alloc (.cells #[.int .i64 0, .slice none 0 0] 25)) = w2 at *
      refine (specTxnValid_any rc v ws _ h true HV.out).mono ?_
      rintro e w3 ⟨rfl, hb3⟩
      replace hk1 := hk1.below hb3
      replace hk2 := hk2.below hb3
      replace h := h.below hb3
      replace hB := below_step hB hb3 hB.size
      have q0 := hk1.cell 0 rfl
      have q1 := hk1.cell 1 rfl
      have hs3 := hb3.size
      clear hb3
      go_wp2_with fail
      refine (specCopy_any rc v ws _ h (by omega)).mono ?_
      rintro e w4 ⟨y, rfl, ho, hb4⟩
      obtain ⟨ay, cy, hy⟩ := own_form ho
      subst hy
      replace hk1 := hk1.below hb4
      replace hk2 := hk2.below hb4
      replace h := h.below hb4
      replace hB := below_step hB hb4 hB.size
      have hs4 := hb4.size
      have hl1 : w.heap.size < w4.heap.size := by omega
      have hl4 : w.heap.size + 1 < w4.heap.size := by omega
      clear hb4 q0 q1
      have q0 := hk1.cell 0 rfl
      have q1 := hk1.cell 1 rfl
      have r0 := hk2.cell 0 rfl
      have r1 := hk2.cell 1 rfl
      have f0 := hk2.frozen 0
      have f1 := hk2.frozen 1
      obtain ⟨e0, e1, e2, e3, ho2, hB2⟩ := fin_opA (rc := 1) (.cells #[.int .i64 1, .slice ay ws.length cy] 25) hk2 rfl (Nat.le_succ _) ho (by omega) hB
      clear hk2 hB ho h hk1
      go_wp2_with fail
      exact bodyPost_ret (v := .tuple #[.agg #[.int .i64 1, .slice ay ws.length cy], .bool true]) (by simp [results, Tryd.results18, go_sem, e2, e3]) rfl ⟨_, rfl, ho2, hB2⟩

set_option maxRecDepth 100000 in
set_option maxHeartbeats 4000000 in
theorem specTxnFinish_any (rc : Int) (v : Value) (ws : List Int) (w : World) {lo hi : Nat} (h : Ints w lo hi v ws) :
    Calls Tryd.prog 28 #[.agg #[.int .i64 rc, v]] w (RetOp w (finishR rc ws)) := by
  cases hv : txnOk rc ws
  · have HT := Lib.hid (show finishR rc ws = (0, [], false) by unfold finishR; rw [hv]; rfl)
    rw [HT.out]
    have HV := Lib.hid hv; clear hv
    have hhi := h.2.1
    have hb1 : Below w.heap.size w (w.alloc (.cells #[.int .i64 rc, v] 25)) := (Below.refl _ _).alloc (Nat.le_refl _) _
    have hk1 := Blk.new w #[.int .i64 rc, v] 25
    have hb2 : Below (w.alloc (.cells #[.int .i64 rc, v] 25)).heap.size (w.alloc (.cells #[.int .i64 rc, v] 25)) ((w.alloc (.cells #[.int .i64 rc, v] 25)).alloc (.cells #[.int .i64 0, .slice none 0 0] 25)) := (Below.refl _ _).alloc (Nat.le_refl _) _
    have hk2 := Blk.new (w.alloc (.cells #[.int .i64 rc, v] 25)) #[.int .i64 0, .slice none 0 0] 25
    have he : (w.alloc (.cells #[.int .i64 rc, v] 25)).heap.size = w.heap.size + 1 := by simp
    rw [he] at hk2
    replace hk1 := hk1.below hb2
    replace h := (h.below hb1).below hb2
    have hB := below_step hb1 hb2 hb1.size

    have hs2 := hB.size
    have hl2 := hk2.lt
    clear hb1 hb2 he
    go_enter Tryd.func28, Tryd.ntmps28
    go_wp2_with fail
    generalize ((w.alloc (.cells #[.int .i64 rc, v] 25)).alloc (.cells #[.int .i64 0, .slice none 0 0] 25)) = w2 at *
    refine (specTxnValid_any rc v ws _ h false HV.out).mono ?_
    rintro e w3 ⟨rfl, hb3⟩
    replace hk2 := hk2.below hb3
    replace hB := below_step hB hb3 hB.size
    clear hb3 h hk1
    have r0 := hk2.cell 0 rfl
    have r1 := hk2.cell 1 rfl
    have f0 := hk2.frozen 0
    have f1 := hk2.frozen 1
    obtain ⟨e0, e1, ho2, hB2⟩ := fin_op (rc := 0) hk2 rfl (Nat.le_succ _) (nil_ownS _ (w.heap.size + 1 + 1)) (by omega) hB
    clear hk2 hB
    go_wp2_with fail
    exact bodyPost_ret (v := .tuple #[.agg #[.int .i64 0, .slice none 0 0], .bool false]) (by simp [results, Tryd.results28, go_sem, e0, e1]) rfl ⟨_, rfl, ho2, hB2⟩
  · have hpp := txnOk_parts hv
    have hx : ws.length ≤ 1000 := by omega
    have hR : finishR rc ws = finishT rc ws := by unfold finishR; rw [hv]; rfl
    rw [hR]
    have HV := Lib.hid hv; clear hv hR
    have HPP := Lib.hid hpp; clear hpp
    by_cases h1 : rc = 1
    · subst h1
      cases hf : fullW ws
      · have HF := Lib.hid hf
        have HT := Lib.hid (show finishT 1 ws = (1, ws, false) by simp [finishT, hf]); clear hf
        rw [HT.out]
        have hhi := h.2.1
        have hb1 : Below w.heap.size w (w.alloc (.cells #[.int .i64 1, v] 25)) := (Below.refl _ _).alloc (Nat.le_refl _) _
        have hk1 := Blk.new w #[.int .i64 1, v] 25
        have hb2 : Below (w.alloc (.cells #[.int .i64 1, v] 25)).heap.size (w.alloc (.cells #[.int .i64 1, v] 25)) ((w.alloc (.cells #[.int .i64 1, v] 25)).alloc (.cells #[.int .i64 0, .slice none 0 0] 25)) := (Below.refl _ _).alloc (Nat.le_refl _) _
        have hk2 := Blk.new (w.alloc (.cells #[.int .i64 1, v] 25)) #[.int .i64 0, .slice none 0 0] 25
        have he : (w.alloc (.cells #[.int .i64 1, v] 25)).heap.size = w.heap.size + 1 := by simp
        rw [he] at hk2
        replace hk1 := hk1.below hb2
        replace h := (h.below hb1).below hb2
        have hB := below_step hb1 hb2 hb1.size

        have hs2 := hB.size
        have hl2 := hk2.lt
        clear hb1 hb2 he
        go_enter Tryd.func28, Tryd.ntmps28
        go_wp2_with fail
        generalize ((w.alloc (.cells #[.int .i64 1, v] 25)).alloc (.cells #[.int .i64 0, .slice none 0 0] 25)) = w2 at *
        refine (specTxnValid_any 1 v ws _ h true HV.out).mono ?_
        rintro e w3 ⟨rfl, hb3⟩
        replace hk1 := hk1.below hb3
        replace hk2 := hk2.below hb3
        replace h := h.below hb3
        replace hB := below_step hB hb3 hB.size
        have q0 := hk1.cell 0 rfl
        have q1 := hk1.cell 1 rfl
        have hs3 := hb3.size
        clear hb3
        go_wp2_with fail
        refine (specCopy_any 1 v ws _ h (by omega)).mono ?_
        rintro e w4 ⟨y, rfl, ho, hb4⟩
        obtain ⟨ay, cy, hy⟩ := own_form ho
        subst hy
        replace hk1 := hk1.below hb4
        replace hk2 := hk2.below hb4
        replace h := h.below hb4
        replace hB := below_step hB hb4 hB.size
        have hs4 := hb4.size
        have hl1 : w.heap.size < w4.heap.size := by omega
        have hl4 : w.heap.size + 1 < w4.heap.size := by omega
        clear hb4 q0 q1
        have q0 := hk1.cell 0 rfl
        have q1 := hk1.cell 1 rfl
        have r0 := hk2.cell 0 rfl
        have r1 := hk2.cell 1 rfl
        have f0 := hk2.frozen 0
        have f1 := hk2.frozen 1
        have hoO := ho
        have hoS := Nat.le_refl w4.heap.size
        have hb5 : Below w4.heap.size w4 (w4.alloc (.cells #[.int .i64 1, .slice ay ws.length cy] 25)) := (Below.refl _ _).alloc (Nat.le_refl _) _
        have hO := Blk.new w4 #[.int .i64 1, .slice ay ws.length cy] 25
        have hs5 := hb5.size
        replace hk1 := hk1.below hb5
        replace hk2 := hk2.below hb5
        replace h := h.below hb5
        replace hB := below_step hB hb5 hB.size
        replace ho := IntsO.wide (lo' := w3.heap.size) (hi' := (w4.alloc (.cells #[.int .i64 1, .slice ay ws.length cy] 25)).heap.size) (IntsO.below ho hb5) (Nat.le_refl _) hs5 (Nat.le_refl _)
        clear hb5
        replace hoO := IntsO.below hoO ((Below.refl _ _).alloc (Nat.le_refl _) (.cells #[.int .i64 1, .slice ay ws.length cy] 25))
        have hOl := hO.lt
        clear r0 r1 f0 f1 hoS
        go_wp2_with fail
        generalize (w4.alloc (.cells #[.int .i64 1, .slice ay ws.length cy] 25)) = w5 at *
        have hoOl := Nat.le_refl w4.heap.size
        generalize w4.heap.size = O at *
        refine (l41All_any _ v ws _ h false HF.out).mono ?_
        rintro e w6 ⟨rfl, hb6⟩
        replace hk1 := hk1.below hb6
        replace hk2 := hk2.below hb6
        replace h := h.below hb6
        replace hO := hO.below hb6
        replace hB := below_step hB hb6 hB.size
        replace hoO := IntsO.below hoO hb6
        have hs6 := hb6.size
        have hoOs : O ≤ w6.heap.size := by omega
        replace ho := IntsO.wide (lo' := w3.heap.size) (hi' := w6.heap.size) (IntsO.below ho hb6) (Nat.le_refl _) hs6 (Nat.le_refl _)
        clear hb6 q0 q1
        have q0 := hk1.cell 0 rfl
        have q1 := hk1.cell 1 rfl
        have o0 := hO.cell 0 rfl
        have o1 := hO.cell 1 rfl
        have of0 := hO.frozen 0
        have of1 := hO.frozen 1
        have r0 := hk2.cell 0 rfl
        have r1 := hk2.cell 1 rfl
        have f0 := hk2.frozen 0
        have f1 := hk2.frozen 1
        obtain ⟨e0, e1, ho2, hB2⟩ := fin_op (rc := 1) hk2 rfl (Nat.le_succ _) ho (by omega) hB
        clear hO hk2 hB ho h hk1
        go_wp2_with fail
        exact bodyPost_ret (v := .tuple #[.agg #[.int .i64 1, .slice ay ws.length cy], .bool false]) (by simp [results, Tryd.results28, go_sem, e0, e1]) rfl ⟨_, rfl, ho2, hB2⟩
      · have HF := Lib.hid hf
        have HT := Lib.hid (show finishT 1 ws = (2, ws, true) by simp [finishT, hf]); clear hf
        rw [HT.out]
        have hhi := h.2.1
        have hb1 : Below w.heap.size w (w.alloc (.cells #[.int .i64 1, v] 25)) := (Below.refl _ _).alloc (Nat.le_refl _) _
        have hk1 := Blk.new w #[.int .i64 1, v] 25
        have hb2 : Below (w.alloc (.cells #[.int .i64 1, v] 25)).heap.size (w.alloc (.cells #[.int .i64 1, v] 25)) ((w.alloc (.cells #[.int .i64 1, v] 25)).alloc (.cells #[.int .i64 0, .slice none 0 0] 25)) := (Below.refl _ _).alloc (Nat.le_refl _) _
        have hk2 := Blk.new (w.alloc (.cells #[.int .i64 1, v] 25)) #[.int .i64 0, .slice none 0 0] 25
        have he : (w.alloc (.cells #[.int .i64 1, v] 25)).heap.size = w.heap.size + 1 := by simp
        rw [he] at hk2
        replace hk1 := hk1.below hb2
        replace h := (h.below hb1).below hb2
        have hB := below_step hb1 hb2 hb1.size

        have hs2 := hB.size
        have hl2 := hk2.lt
        clear hb1 hb2 he
        go_enter Tryd.func28, Tryd.ntmps28
        go_wp2_with fail
        generalize ((w.alloc (.cells #[.int .i64 1, v] 25)).alloc (.cells #[.int .i64 0, .slice none 0 0] 25)) = w2 at *
        refine (specTxnValid_any 1 v ws _ h true HV.out).mono ?_
        rintro e w3 ⟨rfl, hb3⟩
        replace hk1 := hk1.below hb3
        replace hk2 := hk2.below hb3
        replace h := h.below hb3
        replace hB := below_step hB hb3 hB.size
        have q0 := hk1.cell 0 rfl
        have q1 := hk1.cell 1 rfl
        have hs3 := hb3.size
        clear hb3
        go_wp2_with fail
        refine (specCopy_any 1 v ws _ h (by omega)).mono ?_
        rintro e w4 ⟨y, rfl, ho, hb4⟩
        obtain ⟨ay, cy, hy⟩ := own_form ho
        subst hy
        replace hk1 := hk1.below hb4
        replace hk2 := hk2.below hb4
        replace h := h.below hb4
        replace hB := below_step hB hb4 hB.size
        have hs4 := hb4.size
        have hl1 : w.heap.size < w4.heap.size := by omega
        have hl4 : w.heap.size + 1 < w4.heap.size := by omega
        clear hb4 q0 q1
        have q0 := hk1.cell 0 rfl
        have q1 := hk1.cell 1 rfl
        have r0 := hk2.cell 0 rfl
        have r1 := hk2.cell 1 rfl
        have f0 := hk2.frozen 0
        have f1 := hk2.frozen 1
        have hoO := ho
        have hoS := Nat.le_refl w4.heap.size
        have hb5 : Below w4.heap.size w4 (w4.alloc (.cells #[.int .i64 1, .slice ay ws.length cy] 25)) := (Below.refl _ _).alloc (Nat.le_refl _) _
        have hO := Blk.new w4 #[.int .i64 1, .slice ay ws.length cy] 25
        have hs5 := hb5.size
        replace hk1 := hk1.below hb5
        replace hk2 := hk2.below hb5
        replace h := h.below hb5
        replace hB := below_step hB hb5 hB.size
        replace ho := IntsO.wide (lo' := w3.heap.size) (hi' := (w4.alloc (.cells #[.int .i64 1, .slice ay ws.length cy] 25)).heap.size) (IntsO.below ho hb5) (Nat.le_refl _) hs5 (Nat.le_refl _)
        clear hb5
        replace hoO := IntsO.below hoO ((Below.refl _ _).alloc (Nat.le_refl _) (.cells #[.int .i64 1, .slice ay ws.length cy] 25))
        have hOl := hO.lt
        clear r0 r1 f0 f1 hoS
        go_wp2_with fail
        generalize (w4.alloc (.cells #[.int .i64 1, .slice ay ws.length cy] 25)) = w5 at *
        have hoOl := Nat.le_refl w4.heap.size
        generalize w4.heap.size = O at *
        refine (l41All_any _ v ws _ h true HF.out).mono ?_
        rintro e w6 ⟨rfl, hb6⟩
        replace hk1 := hk1.below hb6
        replace hk2 := hk2.below hb6
        replace h := h.below hb6
        replace hO := hO.below hb6
        replace hB := below_step hB hb6 hB.size
        replace hoO := IntsO.below hoO hb6
        have hs6 := hb6.size
        have hoOs : O ≤ w6.heap.size := by omega
        replace ho := IntsO.wide (lo' := w3.heap.size) (hi' := w6.heap.size) (IntsO.below ho hb6) (Nat.le_refl _) hs6 (Nat.le_refl _)
        clear hb6 q0 q1
        have q0 := hk1.cell 0 rfl
        have q1 := hk1.cell 1 rfl
        have o0 := hO.cell 0 rfl
        have o1 := hO.cell 1 rfl
        have of0 := hO.frozen 0
        have of1 := hO.frozen 1
        have r0 := hk2.cell 0 rfl
        have r1 := hk2.cell 1 rfl
        have f0 := hk2.frozen 0
        have f1 := hk2.frozen 1
        have hkO : Keep O (O + 1) w6 (w6.setCell ⟨O, 0, none⟩ (.int .i64 2)) := keep_setCell (p := ⟨O, 0, none⟩) (Keep.refl _ _ _) (Nat.le_refl _) (Nat.lt_succ_self _) _
        have hk2' := hk2.keep hkO (.inl (by omega))
        have ho' := IntsO.wide (lo' := w3.heap.size) (hi' := (w6.setCell ⟨O, 0, none⟩ (.int .i64 2)).heap.size) (IntsO.keep hoO hkO (.inl hoOl)) (Nat.le_refl _) (Nat.le_trans hoOs hkO.size) (Nat.le_refl _)
        have hB' := hB.trans (hkO.below (B := w.heap.size) (by omega) (by omega))
        have b0 := (hO.set 0 (.int .i64 2)).cell 0 rfl
        have b1 := (hO.set 0 (.int .i64 2)).cell 1 rfl
        have r0' := hk2'.cell 0 rfl
        have r1' := hk2'.cell 1 rfl
        have f0' := hk2'.frozen 0
        have f1' := hk2'.frozen 1
        obtain ⟨e0, e1, ho2, hB2⟩ := fin_op (rc := 2) hk2' rfl (Nat.le_succ _) ho' (by omega) hB'
        clear hk2 hB ho h hk1 hk2' ho' hB' hkO hO
        go_wp2_with fail
        exact bodyPost_ret (v := .tuple #[.agg #[.int .i64 2, .slice ay ws.length cy], .bool true]) (by simp [results, Tryd.results28, go_sem, e0, e1]) rfl ⟨_, rfl, ho2, hB2⟩
    · have h1b : (rc != 1) = true := by simp [h1]
      have HT := Lib.hid (show finishT rc ws = (rc, ws, false) by simp [finishT, h1])
      rw [HT.out]
      clear h1
      have hhi := h.2.1
      have hb1 : Below w.heap.size w (w.alloc (.cells #[.int .i64 rc, v] 25)) := (Below.refl _ _).alloc (Nat.le_refl _) _
      have hk1 := Blk.new w #[.int .i64 rc, v] 25
      have hb2 : Below (w.alloc (.cells #[.int .i64 rc, v] 25)).heap.size (w.alloc (.cells #[.int .i64 rc, v] 25)) ((w.alloc (.cells #[.int .i64 rc, v] 25)).alloc (.cells #[.int .i64 0, .slice none 0 0] 25)) := (Below.refl _ _).alloc (Nat.le_refl _) _
      have hk2 := Blk.new (w.alloc (.cells #[.int .i64 rc, v] 25)) #[.int .i64 0, .slice none 0 0] 25
      have he : (w.alloc (.cells #[.int .i64 rc, v] 25)).heap.size = w.heap.size + 1 := by simp
      rw [he] at hk2
      replace hk1 := hk1.below hb2
      replace h := (h.below hb1).below hb2
      have hB := below_step hb1 hb2 hb1.size

      have hs2 := hB.size
      have hl2 := hk2.lt
      clear hb1 hb2 he
      go_enter Tryd.func28, Tryd.ntmps28
      go_wp2_with fail
      generalize ((w.alloc (.cells #[.int .i64 rc, v] 25)).alloc (.cells #[.int .i64 0, .slice none 0 0] 25)) = w2 at *
      refine (specTxnValid_any rc v ws _ h true HV.out).mono ?_
      rintro e w3 ⟨rfl, hb3⟩
      replace hk1 := hk1.below hb3
      replace hk2 := hk2.below hb3
      replace h := h.below hb3
      replace hB := below_step hB hb3 hB.size
      have q0 := hk1.cell 0 rfl
      have q1 := hk1.cell 1 rfl
      have hs3 := hb3.size
      clear hb3
      go_wp2_with fail
      refine (specCopy_any rc v ws _ h (by omega)).mono ?_
      rintro e w4 ⟨y, rfl, ho, hb4⟩
      obtain ⟨ay, cy, hy⟩ := own_form ho
      subst hy
      replace hk1 := hk1.below hb4
      replace hk2 := hk2.below hb4
      replace h := h.below hb4
      replace hB := below_step hB hb4 hB.size
      have hs4 := hb4.size
      have hl1 : w.heap.size < w4.heap.size := by omega
      have hl4 : w.heap.size + 1 < w4.heap.size := by omega
      clear hb4 q0 q1
      have q0 := hk1.cell 0 rfl
      have q1 := hk1.cell 1 rfl
      have r0 := hk2.cell 0 rfl
      have r1 := hk2.cell 1 rfl
      have f0 := hk2.frozen 0
      have f1 := hk2.frozen 1
      obtain ⟨e0, e1, e2, e3, ho2, hB2⟩ := fin_opA (rc := rc) (.cells #[.int .i64 rc, .slice ay ws.length cy] 25) hk2 rfl (Nat.le_succ _) ho (by omega) hB
      clear hk2 hB ho h hk1
      go_wp2_with fail
      exact bodyPost_ret (v := .tuple #[.agg #[.int .i64 rc, .slice ay ws.length cy], .bool false]) (by simp [results, Tryd.results28, go_sem, e2, e3]) rfl ⟨_, rfl, ho2, hB2⟩

set_option maxRecDepth 100000 in
set_option maxHeartbeats 4000000 in
theorem specTxnRecover_any (rc : Int) (v : Value) (ws : List Int) (w : World) {lo hi : Nat} (h : Ints w lo hi v ws) :
    Calls Tryd.prog 37 #[.agg #[.int .i64 rc, v]] w (RetOp w (recoverR rc ws)) := by
  cases hv : txnOk rc ws
  · have HT := Lib.hid (show recoverR rc ws = (0, [], false) by unfold recoverR; rw [hv]; rfl)
    rw [HT.out]
    have HV := Lib.hid hv; clear hv
    have hhi := h.2.1
    have hb1 : Below w.heap.size w (w.alloc (.cells #[.int .i64 rc, v] 25)) := (Below.refl _ _).alloc (Nat.le_refl _) _
    have hk1 := Blk.new w #[.int .i64 rc, v] 25
    have hb2 : Below (w.alloc (.cells #[.int .i64 rc, v] 25)).heap.size (w.alloc (.cells #[.int .i64 rc, v] 25)) ((w.alloc (.cells #[.int .i64 rc, v] 25)).alloc (.cells #[.int .i64 0, .slice none 0 0] 25)) := (Below.refl _ _).alloc (Nat.le_refl _) _
    have hk2 := Blk.new (w.alloc (.cells #[.int .i64 rc, v] 25)) #[.int .i64 0, .slice none 0 0] 25
    have he : (w.alloc (.cells #[.int .i64 rc, v] 25)).heap.size = w.heap.size + 1 := by simp
    rw [he] at hk2
    replace hk1 := hk1.below hb2
    replace h := (h.below hb1).below hb2
    have hB := below_step hb1 hb2 hb1.size

    have hs2 := hB.size
    have hl2 := hk2.lt
    clear hb1 hb2 he
    go_enter Tryd.func37, Tryd.ntmps37
    go_wp2_with fail
    generalize ((w.alloc (.cells #[.int .i64 rc, v] 25)).alloc (.cells #[.int .i64 0, .slice none 0 0] 25)) = w2 at *
    refine (specTxnValid_any rc v ws _ h false HV.out).mono ?_
    rintro e w3 ⟨rfl, hb3⟩
    replace hk2 := hk2.below hb3
    replace hB := below_step hB hb3 hB.size
    clear hb3 h hk1
    have r0 := hk2.cell 0 rfl
    have r1 := hk2.cell 1 rfl
    have f0 := hk2.frozen 0
    have f1 := hk2.frozen 1
    obtain ⟨e0, e1, ho2, hB2⟩ := fin_op (rc := 0) hk2 rfl (Nat.le_succ _) (nil_ownS _ (w.heap.size + 1 + 1)) (by omega) hB
    clear hk2 hB
    go_wp2_with fail
    exact bodyPost_ret (v := .tuple #[.agg #[.int .i64 0, .slice none 0 0], .bool false]) (by simp [results, Tryd.results37, go_sem, e0, e1]) rfl ⟨_, rfl, ho2, hB2⟩
  · have hpp := txnOk_parts hv
    have hx : ws.length ≤ 1000 := by omega
    have hR : recoverR rc ws = recoverT rc ws := by unfold recoverR; rw [hv]; rfl
    rw [hR]
    have HV := Lib.hid hv; clear hv hR
    have HPP := Lib.hid hpp; clear hpp
    cases he : isEnded rc
    case true =>
      have hge : (2 : Int) ≤ rc := by
        unfold isEnded at he
        simp at he
        omega
      have HT := Lib.hid (show recoverT rc ws = (rc, ws, false) by simp [recoverT, he]); clear he
      rw [HT.out]
      have hhi := h.2.1
      have hb1 : Below w.heap.size w (w.alloc (.cells #[.int .i64 rc, v] 25)) := (Below.refl _ _).alloc (Nat.le_refl _) _
      have hk1 := Blk.new w #[.int .i64 rc, v] 25
      have hb2 : Below (w.alloc (.cells #[.int .i64 rc, v] 25)).heap.size (w.alloc (.cells #[.int .i64 rc, v] 25)) ((w.alloc (.cells #[.int .i64 rc, v] 25)).alloc (.cells #[.int .i64 0, .slice none 0 0] 25)) := (Below.refl _ _).alloc (Nat.le_refl _) _
      have hk2 := Blk.new (w.alloc (.cells #[.int .i64 rc, v] 25)) #[.int .i64 0, .slice none 0 0] 25
      have he : (w.alloc (.cells #[.int .i64 rc, v] 25)).heap.size = w.heap.size + 1 := by simp
      rw [he] at hk2
      replace hk1 := hk1.below hb2
      replace h := (h.below hb1).below hb2
      have hB := below_step hb1 hb2 hb1.size

      have hs2 := hB.size
      have hl2 := hk2.lt
      clear hb1 hb2 he
      go_enter Tryd.func37, Tryd.ntmps37
      go_wp2_with fail
      generalize ((w.alloc (.cells #[.int .i64 rc, v] 25)).alloc (.cells #[.int .i64 0, .slice none 0 0] 25)) = w2 at *
      refine (specTxnValid_any rc v ws _ h true HV.out).mono ?_
      rintro e w3 ⟨rfl, hb3⟩
      replace hk1 := hk1.below hb3
      replace hk2 := hk2.below hb3
      replace h := h.below hb3
      replace hB := below_step hB hb3 hB.size
      have q0 := hk1.cell 0 rfl
      have q1 := hk1.cell 1 rfl
      have hs3 := hb3.size
      clear hb3
      go_wp2_with fail
      refine (specCopy_any rc v ws _ h (by omega)).mono ?_
      rintro e w4 ⟨y, rfl, ho, hb4⟩
      obtain ⟨ay, cy, hy⟩ := own_form ho
      subst hy
      replace hk1 := hk1.below hb4
      replace hk2 := hk2.below hb4
      replace h := h.below hb4
      replace hB := below_step hB hb4 hB.size
      have hs4 := hb4.size
      have hl1 : w.heap.size < w4.heap.size := by omega
      have hl4 : w.heap.size + 1 < w4.heap.size := by omega
      clear hb4 q0 q1
      have q0 := hk1.cell 0 rfl
      have q1 := hk1.cell 1 rfl
      have r0 := hk2.cell 0 rfl
      have r1 := hk2.cell 1 rfl
      have f0 := hk2.frozen 0
      have f1 := hk2.frozen 1
      obtain ⟨e0, e1, e2, e3, ho2, hB2⟩ := fin_opA (rc := rc) (.cells #[.int .i64 rc, .slice ay ws.length cy] 25) hk2 rfl (Nat.le_succ _) ho (by omega) hB
      clear hk2 hB ho h hk1
      go_wp2_with fail
      exact bodyPost_ret (v := .tuple #[.agg #[.int .i64 rc, .slice ay ws.length cy], .bool false]) (by simp [results, Tryd.results37, go_sem, e2, e3]) rfl ⟨_, rfl, ho2, hB2⟩
    case false =>
      have hlt : rc < 2 := by
        have := HPP.out
        unfold isEnded at he
        simp at he
        omega
      by_cases hf : (rc == 1 && fullW ws) = true
      · have HM := Lib.hid (show statOf rc ws = 2 by unfold statOf; rw [hf]; simp)
        have HT := Lib.hid (show recoverT rc ws = (2, ws, true) by simp [recoverT, he, hf]); clear he hf
        rw [HT.out]
        have hhi := h.2.1
        have hb1 : Below w.heap.size w (w.alloc (.cells #[.int .i64 rc, v] 25)) := (Below.refl _ _).alloc (Nat.le_refl _) _
        have hk1 := Blk.new w #[.int .i64 rc, v] 25
        have hb2 : Below (w.alloc (.cells #[.int .i64 rc, v] 25)).heap.size (w.alloc (.cells #[.int .i64 rc, v] 25)) ((w.alloc (.cells #[.int .i64 rc, v] 25)).alloc (.cells #[.int .i64 0, .slice none 0 0] 25)) := (Below.refl _ _).alloc (Nat.le_refl _) _
        have hk2 := Blk.new (w.alloc (.cells #[.int .i64 rc, v] 25)) #[.int .i64 0, .slice none 0 0] 25
        have he : (w.alloc (.cells #[.int .i64 rc, v] 25)).heap.size = w.heap.size + 1 := by simp
        rw [he] at hk2
        replace hk1 := hk1.below hb2
        replace h := (h.below hb1).below hb2
        have hB := below_step hb1 hb2 hb1.size

        have hs2 := hB.size
        have hl2 := hk2.lt
        clear hb1 hb2 he
        go_enter Tryd.func37, Tryd.ntmps37
        go_wp2_with fail
        generalize ((w.alloc (.cells #[.int .i64 rc, v] 25)).alloc (.cells #[.int .i64 0, .slice none 0 0] 25)) = w2 at *
        refine (specTxnValid_any rc v ws _ h true HV.out).mono ?_
        rintro e w3 ⟨rfl, hb3⟩
        replace hk1 := hk1.below hb3
        replace hk2 := hk2.below hb3
        replace h := h.below hb3
        replace hB := below_step hB hb3 hB.size
        have q0 := hk1.cell 0 rfl
        have q1 := hk1.cell 1 rfl
        have hs3 := hb3.size
        clear hb3
        go_wp2_with fail
        refine (specCopy_any rc v ws _ h (by omega)).mono ?_
        rintro e w4 ⟨y, rfl, ho, hb4⟩
        obtain ⟨ay, cy, hy⟩ := own_form ho
        subst hy
        replace hk1 := hk1.below hb4
        replace hk2 := hk2.below hb4
        replace h := h.below hb4
        replace hB := below_step hB hb4 hB.size
        have hs4 := hb4.size
        have hl1 : w.heap.size < w4.heap.size := by omega
        have hl4 : w.heap.size + 1 < w4.heap.size := by omega
        clear hb4 q0 q1
        have q0 := hk1.cell 0 rfl
        have q1 := hk1.cell 1 rfl
        have r0 := hk2.cell 0 rfl
        have r1 := hk2.cell 1 rfl
        have f0 := hk2.frozen 0
        have f1 := hk2.frozen 1
        have hoO := ho
        have hoS := Nat.le_refl w4.heap.size
        have hb5 : Below w4.heap.size w4 (w4.alloc (.cells #[.int .i64 rc, .slice ay ws.length cy] 25)) := (Below.refl _ _).alloc (Nat.le_refl _) _
        have hO := Blk.new w4 #[.int .i64 rc, .slice ay ws.length cy] 25
        have hs5 := hb5.size
        replace hk1 := hk1.below hb5
        replace hk2 := hk2.below hb5
        replace h := h.below hb5
        replace hB := below_step hB hb5 hB.size
        replace ho := IntsO.wide (lo' := w3.heap.size) (hi' := (w4.alloc (.cells #[.int .i64 rc, .slice ay ws.length cy] 25)).heap.size) (IntsO.below ho hb5) (Nat.le_refl _) hs5 (Nat.le_refl _)
        clear hb5
        replace hoO := IntsO.below hoO ((Below.refl _ _).alloc (Nat.le_refl _) (.cells #[.int .i64 rc, .slice ay ws.length cy] 25))
        have hOl := hO.lt
        clear r0 r1 f0 f1 hoS
        go_wp2_with fail
        generalize (w4.alloc (.cells #[.int .i64 rc, .slice ay ws.length cy] 25)) = w5 at *
        have hoOl := Nat.le_refl w4.heap.size
        generalize w4.heap.size = O at *
        refine (l41Status_any _ v ws _ h 2 HM.out).mono ?_
        rintro e w6 ⟨rfl, hb6⟩
        replace hk1 := hk1.below hb6
        replace hk2 := hk2.below hb6
        replace h := h.below hb6
        replace hO := hO.below hb6
        replace hB := below_step hB hb6 hB.size
        replace hoO := IntsO.below hoO hb6
        have hs6 := hb6.size
        have hoOs : O ≤ w6.heap.size := by omega
        replace ho := IntsO.wide (lo' := w3.heap.size) (hi' := w6.heap.size) (IntsO.below ho hb6) (Nat.le_refl _) hs6 (Nat.le_refl _)
        clear hb6 q0 q1
        have q0 := hk1.cell 0 rfl
        have q1 := hk1.cell 1 rfl
        have o0 := hO.cell 0 rfl
        have o1 := hO.cell 1 rfl
        have of0 := hO.frozen 0
        have of1 := hO.frozen 1
        have r0 := hk2.cell 0 rfl
        have r1 := hk2.cell 1 rfl
        have f0 := hk2.frozen 0
        have f1 := hk2.frozen 1
        have hkO : Keep O (O + 1) w6 (w6.setCell ⟨O, 0, none⟩ (.int .i64 2)) := keep_setCell (p := ⟨O, 0, none⟩) (Keep.refl _ _ _) (Nat.le_refl _) (Nat.lt_succ_self _) _
        have hk2' := hk2.keep hkO (.inl (by omega))
        have ho' := IntsO.wide (lo' := w3.heap.size) (hi' := (w6.setCell ⟨O, 0, none⟩ (.int .i64 2)).heap.size) (IntsO.keep hoO hkO (.inl hoOl)) (Nat.le_refl _) (Nat.le_trans hoOs hkO.size) (Nat.le_refl _)
        have hB' := hB.trans (hkO.below (B := w.heap.size) (by omega) (by omega))
        have b0 := (hO.set 0 (.int .i64 2)).cell 0 rfl
        have b1 := (hO.set 0 (.int .i64 2)).cell 1 rfl
        have r0' := hk2'.cell 0 rfl
        have r1' := hk2'.cell 1 rfl
        have f0' := hk2'.frozen 0
        have f1' := hk2'.frozen 1
        obtain ⟨e0, e1, ho2, hB2⟩ := fin_op (rc := 2) hk2' rfl (Nat.le_succ _) ho' (by omega) hB'
        clear hk2 hB ho h hk1 hk2' ho' hB' hkO hO
        go_wp2_with fail
        exact bodyPost_ret (v := .tuple #[.agg #[.int .i64 2, .slice ay ws.length cy], .bool true]) (by simp [results, Tryd.results37, go_sem, e0, e1]) rfl ⟨_, rfl, ho2, hB2⟩
      · have HM := Lib.hid (show statOf rc ws = 0 by
          have h3 : (rc == 3) = false := beq_eq_false_iff_ne.2 (by omega)
          have h2 : (rc == 2) = false := beq_eq_false_iff_ne.2 (by omega)
          unfold statOf; rw [h2, h3, Bool.false_or, if_neg hf]; rfl)
        have HT := Lib.hid (show recoverT rc ws = (3, refuse ws, true) by simp [recoverT, he, hf]); clear he hf
        rw [HT.out]
        have HRG := Lib.hid (show ∀ j, j < ws.length → 0 ≤ nth ws j ∧ nth ws j ≤ 2 from fun j hj => by
          have h5 := HPP.out.2.2.2.2.1
          unfold rangeW at h5
          rw [List.all_eq_true] at h5
          have := inB_true (h5 _ (nth_mem hj))
          omega)
        have hhi := h.2.1
        have hb1 : Below w.heap.size w (w.alloc (.cells #[.int .i64 rc, v] 25)) := (Below.refl _ _).alloc (Nat.le_refl _) _
        have hk1 := Blk.new w #[.int .i64 rc, v] 25
        have hb2 : Below (w.alloc (.cells #[.int .i64 rc, v] 25)).heap.size (w.alloc (.cells #[.int .i64 rc, v] 25)) ((w.alloc (.cells #[.int .i64 rc, v] 25)).alloc (.cells #[.int .i64 0, .slice none 0 0] 25)) := (Below.refl _ _).alloc (Nat.le_refl _) _
        have hk2 := Blk.new (w.alloc (.cells #[.int .i64 rc, v] 25)) #[.int .i64 0, .slice none 0 0] 25
        have he : (w.alloc (.cells #[.int .i64 rc, v] 25)).heap.size = w.heap.size + 1 := by simp
        rw [he] at hk2
        replace hk1 := hk1.below hb2
        replace h := (h.below hb1).below hb2
        have hB := below_step hb1 hb2 hb1.size

        have hs2 := hB.size
        have hl2 := hk2.lt
        clear hb1 hb2 he
        go_enter Tryd.func37, Tryd.ntmps37
        go_wp2_with fail
        generalize ((w.alloc (.cells #[.int .i64 rc, v] 25)).alloc (.cells #[.int .i64 0, .slice none 0 0] 25)) = w2 at *
        refine (specTxnValid_any rc v ws _ h true HV.out).mono ?_
        rintro e w3 ⟨rfl, hb3⟩
        replace hk1 := hk1.below hb3
        replace hk2 := hk2.below hb3
        replace h := h.below hb3
        replace hB := below_step hB hb3 hB.size
        have q0 := hk1.cell 0 rfl
        have q1 := hk1.cell 1 rfl
        have hs3 := hb3.size
        clear hb3
        go_wp2_with fail
        refine (specCopy_any rc v ws _ h (by omega)).mono ?_
        rintro e w4 ⟨y, rfl, ho, hb4⟩
        obtain ⟨ay, cy, hy⟩ := own_form ho
        subst hy
        replace hk1 := hk1.below hb4
        replace hk2 := hk2.below hb4
        replace h := h.below hb4
        replace hB := below_step hB hb4 hB.size
        have hs4 := hb4.size
        have hl1 : w.heap.size < w4.heap.size := by omega
        have hl4 : w.heap.size + 1 < w4.heap.size := by omega
        clear hb4 q0 q1
        have q0 := hk1.cell 0 rfl
        have q1 := hk1.cell 1 rfl
        have r0 := hk2.cell 0 rfl
        have r1 := hk2.cell 1 rfl
        have f0 := hk2.frozen 0
        have f1 := hk2.frozen 1
        have hoO := ho
        have hoS := Nat.le_refl w4.heap.size
        have hb5 : Below w4.heap.size w4 (w4.alloc (.cells #[.int .i64 rc, .slice ay ws.length cy] 25)) := (Below.refl _ _).alloc (Nat.le_refl _) _
        have hO := Blk.new w4 #[.int .i64 rc, .slice ay ws.length cy] 25
        have hs5 := hb5.size
        replace hk1 := hk1.below hb5
        replace hk2 := hk2.below hb5
        replace h := h.below hb5
        replace hB := below_step hB hb5 hB.size
        replace ho := IntsO.wide (lo' := w3.heap.size) (hi' := (w4.alloc (.cells #[.int .i64 rc, .slice ay ws.length cy] 25)).heap.size) (IntsO.below ho hb5) (Nat.le_refl _) hs5 (Nat.le_refl _)
        clear hb5
        replace hoO := IntsO.below hoO ((Below.refl _ _).alloc (Nat.le_refl _) (.cells #[.int .i64 rc, .slice ay ws.length cy] 25))
        have hOl := hO.lt
        clear r0 r1 f0 f1 hoS
        go_wp2_with fail
        generalize (w4.alloc (.cells #[.int .i64 rc, .slice ay ws.length cy] 25)) = w5 at *
        have hoOl := Nat.le_refl w4.heap.size
        generalize w4.heap.size = O at *
        refine (l41Status_any _ v ws _ h 0 HM.out).mono ?_
        rintro e w6 ⟨rfl, hb6⟩
        replace hk1 := hk1.below hb6
        replace hk2 := hk2.below hb6
        replace h := h.below hb6
        replace hO := hO.below hb6
        replace hB := below_step hB hb6 hB.size
        replace hoO := IntsO.below hoO hb6
        have hs6 := hb6.size
        have hoOs : O ≤ w6.heap.size := by omega
        replace ho := IntsO.wide (lo' := w3.heap.size) (hi' := w6.heap.size) (IntsO.below ho hb6) (Nat.le_refl _) hs6 (Nat.le_refl _)
        clear hb6 q0 q1
        have q0 := hk1.cell 0 rfl
        have q1 := hk1.cell 1 rfl
        have o0 := hO.cell 0 rfl
        have o1 := hO.cell 1 rfl
        have of0 := hO.frozen 0
        have of1 := hO.frozen 1
        obtain ⟨ay', cy', hyy, hny, hcy⟩ := IntsO.open hoO
        cases hyy
        have HC := Lib.hid hcy; clear hcy
        as_aux_lemma =>
         go_wp2_with fail
         go_loop [5] (fun i => ∃ k : Nat, k ≤ ws.length ∧ i = .int .i64 k ∧ ∀ j, j < k → (nth ws j != 1) = false) (fun i => ws.length - (intOf i).toNat)
         case atStart => exact ⟨0, Nat.zero_le _, rfl, fun j hj => absurd hj (by omega)⟩
         case round =>
          obtain ⟨k, hk, rfl, hc⟩ := hrel
          have HK := Lib.hid hc; clear hc
          by_cases hlt2 : k < ws.length
          · obtain ⟨p, hp1, hp2, hi', hst⟩ := HC.out k hlt2
            have hix := hi' k rfl
            obtain ⟨d1, g1, hset⟩ := hst _ ws rfl hoO
            have hr := HRG.out k hlt2
            clear hst hi'
            by_cases h1 : nth ws k = 1
            · have HS : Hid (∀ j, j < k + 1 → (nth ws j != 1) = false) := fun j hj => by
                by_cases e : j = k
                · subst e; simp [h1]
                · exact HK.out j (by omega)
              have hz0 : (nth ws k == 0) = false := beq_eq_false_iff_ne.2 (by omega)
              have hz2 : (nth ws k == 2) = false := beq_eq_false_iff_ne.2 (by omega)
              clear hset h1 hr
              go_wp2_with fail
              go_round
              case rel => exact ⟨k + 1, by omega, by go_num, HS.out⟩
              case measure => simp [intOf]; omega
            · have hne : (nth ws k != 1) = true := by simp [h1]
              have HI := Lib.hid (idxP_at (p := fun x => x != 1) hlt2 hne HK.out)
              by_cases h0 : nth ws k = 0
              · have HR := Lib.hid (show refuse ws = ws.set k 2 by unfold refuse; rw [HI.out, if_pos (by omega)]; rfl)
                have hz0 : (nth ws k == 0) = true := by simp [h0]
                have hO2 := hset 2
                have hkp : Keep w3.heap.size O w6 (w6.setCell p (.int .i64 2)) := keep_setCell (Keep.refl _ _ _) hp1 hp2 _
                have hp3 : p.block < O := hp2
                clear hset h1 hr hne h0
                replace hO := hO.keep hkp (.inr (Nat.le_refl _))
                replace hk2 := hk2.keep hkp (.inl (by omega))
                replace hB := hB.trans (hkp.below (B := w.heap.size) (by omega) (by omega))
                have hs7 := hkp.size
                clear hk1 h ho hoO hkp
                have hl7 := ws.length_set (i := k) (a := (2 : Int))
                have HL7 := Lib.hid hl7; clear hl7
                have hoO := hO2; clear hO2
                generalize ws.set k 2 = ys at *
                have of0' := hO.frozen 0
                have oc0' := hO.cell 0 rfl
                have oc1' := hO.cell 1 rfl
                have hoOs' : O ≤ (w6.setCell p (.int .i64 2)).heap.size := Nat.le_trans hoOs hs7
                have r0 := hk2.cell 0 rfl
                have r1 := hk2.cell 1 rfl
                have f0 := hk2.frozen 0
                have f1 := hk2.frozen 1
                have hkO : Keep O (O + 1) (w6.setCell p (.int .i64 2)) ((w6.setCell p (.int .i64 2)).setCell ⟨O, 0, none⟩ (.int .i64 3)) := keep_setCell (p := ⟨O, 0, none⟩) (Keep.refl _ _ _) (Nat.le_refl _) (Nat.lt_succ_self _) _
                have hk2' := hk2.keep hkO (.inl (by omega))
                have ho' := IntsO.wide (lo' := w3.heap.size) (hi' := ((w6.setCell p (.int .i64 2)).setCell ⟨O, 0, none⟩ (.int .i64 3)).heap.size) (IntsO.keep hoO hkO (.inl hoOl)) (Nat.le_refl _) (Nat.le_trans hoOs' hkO.size) (Nat.le_refl _)
                have hB' := hB.trans (hkO.below (B := w.heap.size) (by omega) (by omega))
                have b0 := (hO.set 0 (.int .i64 3)).cell 0 rfl
                have b1 := (hO.set 0 (.int .i64 3)).cell 1 rfl
                have r0' := hk2'.cell 0 rfl
                have r1' := hk2'.cell 1 rfl
                have f0' := hk2'.frozen 0
                have f1' := hk2'.frozen 1
                obtain ⟨e0, e1, ho2, hB2⟩ := fin_op (rc := 3) hk2' rfl (Nat.le_succ _) ho' (by omega) hB'
                clear hk2 hB hk2' ho' hB' hkO hO
                go_wp2_with fail
                exact bodyPost_ret (v := .tuple #[.agg #[.int .i64 3, .slice ay ws.length cy], .bool true]) (by simp [results, Tryd.results37, go_sem, e0, e1]) rfl ⟨_, rfl, by have hr := HR.out; dsimp only; rw [hr]; exact ho2, hB2⟩
              · have hz0 : (nth ws k == 0) = false := beq_eq_false_iff_ne.2 h0
                have hz2 : (nth ws k == 2) = true := by
                  have : nth ws k = 2 := by omega
                  simp [this]
                have HR := Lib.hid (show refuse ws = ws by
                  unfold refuse; rw [HI.out, if_pos (by omega)]
                  refine nth_ext (by simp) fun j hj => ?_
                  rw [nth_set]
                  split
                  · rename_i e
                    rw [← e.1]
                    have : nth ws k = 2 := by omega
                    simp [this]
                  · rfl)
                clear hset h1 hr hne h0
                have r0 := hk2.cell 0 rfl
                have r1 := hk2.cell 1 rfl
                have f0 := hk2.frozen 0
                have f1 := hk2.frozen 1
                have hkO : Keep O (O + 1) w6 (w6.setCell ⟨O, 0, none⟩ (.int .i64 3)) := keep_setCell (p := ⟨O, 0, none⟩) (Keep.refl _ _ _) (Nat.le_refl _) (Nat.lt_succ_self _) _
                have hk2' := hk2.keep hkO (.inl (by omega))
                have ho' := IntsO.wide (lo' := w3.heap.size) (hi' := (w6.setCell ⟨O, 0, none⟩ (.int .i64 3)).heap.size) (IntsO.keep hoO hkO (.inl hoOl)) (Nat.le_refl _) (Nat.le_trans hoOs hkO.size) (Nat.le_refl _)
                have hB' := hB.trans (hkO.below (B := w.heap.size) (by omega) (by omega))
                have b0 := (hO.set 0 (.int .i64 3)).cell 0 rfl
                have b1 := (hO.set 0 (.int .i64 3)).cell 1 rfl
                have r0' := hk2'.cell 0 rfl
                have r1' := hk2'.cell 1 rfl
                have f0' := hk2'.frozen 0
                have f1' := hk2'.frozen 1
                obtain ⟨e0, e1, ho2, hB2⟩ := fin_op (rc := 3) hk2' rfl (Nat.le_succ _) ho' (by omega) hB'
                clear hk2 hB hk2' ho' hB' hkO hO
                go_wp2_with fail
                exact bodyPost_ret (v := .tuple #[.agg #[.int .i64 3, .slice ay ws.length cy], .bool true]) (by simp [results, Tryd.results37, go_sem, e0, e1]) rfl ⟨_, rfl, by have hr := HR.out; dsimp only; rw [hr]; exact ho2, hB2⟩
          · have HR := Lib.hid (show refuse ws = ws by unfold refuse; rw [idxP_none (fun j hj => HK.out j (by omega))]; rfl)
            have r0 := hk2.cell 0 rfl
            have r1 := hk2.cell 1 rfl
            have f0 := hk2.frozen 0
            have f1 := hk2.frozen 1
            have hkO : Keep O (O + 1) w6 (w6.setCell ⟨O, 0, none⟩ (.int .i64 3)) := keep_setCell (p := ⟨O, 0, none⟩) (Keep.refl _ _ _) (Nat.le_refl _) (Nat.lt_succ_self _) _
            have hk2' := hk2.keep hkO (.inl (by omega))
            have ho' := IntsO.wide (lo' := w3.heap.size) (hi' := (w6.setCell ⟨O, 0, none⟩ (.int .i64 3)).heap.size) (IntsO.keep hoO hkO (.inl hoOl)) (Nat.le_refl _) (Nat.le_trans hoOs hkO.size) (Nat.le_refl _)
            have hB' := hB.trans (hkO.below (B := w.heap.size) (by omega) (by omega))
            have b0 := (hO.set 0 (.int .i64 3)).cell 0 rfl
            have b1 := (hO.set 0 (.int .i64 3)).cell 1 rfl
            have r0' := hk2'.cell 0 rfl
            have r1' := hk2'.cell 1 rfl
            have f0' := hk2'.frozen 0
            have f1' := hk2'.frozen 1
            obtain ⟨e0, e1, ho2, hB2⟩ := fin_op (rc := 3) hk2' rfl (Nat.le_succ _) ho' (by omega) hB'
            clear hk2 hB hk2' ho' hB' hkO hO
            go_wp2_with fail
            exact bodyPost_ret (v := .tuple #[.agg #[.int .i64 3, .slice ay ws.length cy], .bool true]) (by simp [results, Tryd.results37, go_sem, e0, e1]) rfl ⟨_, rfl, by have hr := HR.out; dsimp only; rw [hr]; exact ho2, hB2⟩

set_option maxRecDepth 100000 in
set_option maxHeartbeats 4000000 in
theorem specTxnWrite_any (rc : Int) (v : Value) (ws : List Int) (r : Int) (w : World) {lo hi : Nat} (h : Ints w lo hi v ws) :
    Calls Tryd.prog 24 #[.agg #[.int .i64 rc, v], .int .i64 r] w (RetOp w (writeR rc ws r)) := by
  obtain ⟨a, cap, hvv, hn, hcell⟩ := h.open
  clear hcell
  subst hvv
  cases hv : txnOk rc ws
  · have HT := Lib.hid (show writeR rc ws r = (0, [], false) by unfold writeR; rw [hv]; rfl)
    rw [HT.out]
    have HV := Lib.hid hv; clear hv
    have hhi := h.2.1
    have hb1 : Below w.heap.size w (w.alloc (.cells #[.int .i64 rc, .slice a ws.length cap] 25)) := (Below.refl _ _).alloc (Nat.le_refl _) _
    have hk1 := Blk.new w #[.int .i64 rc, .slice a ws.length cap] 25
    have hb2 : Below (w.alloc (.cells #[.int .i64 rc, .slice a ws.length cap] 25)).heap.size (w.alloc (.cells #[.int .i64 rc, .slice a ws.length cap] 25)) ((w.alloc (.cells #[.int .i64 rc, .slice a ws.length cap] 25)).alloc (.cells #[.int .i64 0, .slice none 0 0] 25)) := (Below.refl _ _).alloc (Nat.le_refl _) _
    have hk2 := Blk.new (w.alloc (.cells #[.int .i64 rc, .slice a ws.length cap] 25)) #[.int .i64 0, .slice none 0 0] 25
    have he : (w.alloc (.cells #[.int .i64 rc, .slice a ws.length cap] 25)).heap.size = w.heap.size + 1 := by simp
    rw [he] at hk2
    replace hk1 := hk1.below hb2
    replace h := (h.below hb1).below hb2
    have hB := below_step hb1 hb2 hb1.size

    have hs2 := hB.size
    have hl2 := hk2.lt
    clear hb1 hb2 he
    go_enter Tryd.func24, Tryd.ntmps24
    go_wp2_with fail
    generalize ((w.alloc (.cells #[.int .i64 rc, .slice a ws.length cap] 25)).alloc (.cells #[.int .i64 0, .slice none 0 0] 25)) = w2 at *
    refine (specTxnValid_any rc _ ws _ h false HV.out).mono ?_
    rintro e w3 ⟨rfl, hb3⟩
    replace hk2 := hk2.below hb3
    replace hB := below_step hB hb3 hB.size
    clear hb3 h hk1
    have r0 := hk2.cell 0 rfl
    have r1 := hk2.cell 1 rfl
    have f0 := hk2.frozen 0
    have f1 := hk2.frozen 1
    obtain ⟨e0, e1, ho2, hB2⟩ := fin_op (rc := 0) hk2 rfl (Nat.le_succ _) (nil_ownS _ (w.heap.size + 1 + 1)) (by omega) hB
    clear hk2 hB
    go_wp2_with fail
    exact bodyPost_ret (v := .tuple #[.agg #[.int .i64 0, .slice none 0 0], .bool false]) (by simp [results, Tryd.results24, go_sem, e0, e1]) rfl ⟨_, rfl, ho2, hB2⟩
  · have hpp := txnOk_parts hv
    have hx : ws.length ≤ 1000 := by omega
    have hw0 : IntKind.i64.wrap ((ws.length : Int) - 1) = (ws.length : Int) - 1 := IntWalk.i64_in _ ⟨by omega, by omega⟩
    by_cases hr : 0 ≤ r ∧ r < ws.length
    case neg =>
      have HT := Lib.hid (show writeR rc ws r = (0, [], false) by
        unfold writeR; rw [hv]
        have : (decide (0 ≤ r) && decide (r < (ws.length : Int))) = false := by
          rw [Bool.and_eq_false_iff, decide_eq_false_iff_not, decide_eq_false_iff_not]; omega
        rw [this]; rfl)
      rw [HT.out]
      have HI := Lib.hid (show inB r 0 ((ws.length : Int) - 1) = false from inB_mkF (by omega))
      have HV := Lib.hid hv; clear hv hpp hr
      have hhi := h.2.1
      have hb1 : Below w.heap.size w (w.alloc (.cells #[.int .i64 rc, .slice a ws.length cap] 25)) := (Below.refl _ _).alloc (Nat.le_refl _) _
      have hk1 := Blk.new w #[.int .i64 rc, .slice a ws.length cap] 25
      have hb2 : Below (w.alloc (.cells #[.int .i64 rc, .slice a ws.length cap] 25)).heap.size (w.alloc (.cells #[.int .i64 rc, .slice a ws.length cap] 25)) ((w.alloc (.cells #[.int .i64 rc, .slice a ws.length cap] 25)).alloc (.cells #[.int .i64 0, .slice none 0 0] 25)) := (Below.refl _ _).alloc (Nat.le_refl _) _
      have hk2 := Blk.new (w.alloc (.cells #[.int .i64 rc, .slice a ws.length cap] 25)) #[.int .i64 0, .slice none 0 0] 25
      have he : (w.alloc (.cells #[.int .i64 rc, .slice a ws.length cap] 25)).heap.size = w.heap.size + 1 := by simp
      rw [he] at hk2
      replace hk1 := hk1.below hb2
      replace h := (h.below hb1).below hb2
      have hB := below_step hb1 hb2 hb1.size

      have hs2 := hB.size
      have hl2 := hk2.lt
      clear hb1 hb2 he
      go_enter Tryd.func24, Tryd.ntmps24
      go_wp2_with fail
      generalize ((w.alloc (.cells #[.int .i64 rc, .slice a ws.length cap] 25)).alloc (.cells #[.int .i64 0, .slice none 0 0] 25)) = w2 at *
      refine (specTxnValid_any rc _ ws _ h true HV.out).mono ?_
      rintro e w3 ⟨rfl, hb3⟩
      replace hk2 := hk2.below hb3
      replace hk1 := hk1.below hb3
      replace hB := below_step hB hb3 hB.size
      have q0 := hk1.cell 0 rfl
      have q1 := hk1.cell 1 rfl
      clear hb3 h hk1
      go_wp2_with fail
      refine (l6In_any r 0 _ _ false HI.out).mono ?_
      rintro e w4 ⟨rfl, rfl⟩
      have r0 := hk2.cell 0 rfl
      have r1 := hk2.cell 1 rfl
      have f0 := hk2.frozen 0
      have f1 := hk2.frozen 1
      obtain ⟨e0, e1, ho2, hB2⟩ := fin_op (rc := 0) hk2 rfl (Nat.le_succ _) (nil_ownS _ (w.heap.size + 1 + 1)) (by omega) hB
      clear hk2 hB
      go_wp2_with fail
      exact bodyPost_ret (v := .tuple #[.agg #[.int .i64 0, .slice none 0 0], .bool false]) (by simp [results, Tryd.results24, go_sem, e0, e1]) rfl ⟨_, rfl, ho2, hB2⟩
    case pos =>
      obtain ⟨hr0, hr1⟩ := hr
      have hR : writeR rc ws r = writeT rc ws r := by
        unfold writeR; rw [hv]
        have : (decide (0 ≤ r) && decide (r < (ws.length : Int))) = true := by simp [hr0, hr1]
        rw [this]; rfl
      rw [hR]
      have HI := Lib.hid (show inB r 0 ((ws.length : Int) - 1) = true from inB_mk (by omega) (by omega))
      have HV := Lib.hid hv; clear hv hR
      have HPP := Lib.hid hpp; clear hpp
      have ways : (nth ws r.toNat != 0) = true ∨ ((nth ws r.toNat != 0) = false ∧ 2 ≤ rc) ∨ ((nth ws r.toNat != 0) = false ∧ rc < 2) := by
        cases h0 : (nth ws r.toNat != 0)
        · rcases Int.lt_or_le rc 2 with h | h
          · exact .inr (.inr ⟨rfl, h⟩)
          · exact .inr (.inl ⟨rfl, h⟩)
        · exact .inl rfl
      rcases ways with h0 | ⟨h0, hge⟩ | ⟨h0, hlt⟩
      · have HT := Lib.hid (show writeT rc ws r = (rc, ws, false) by simp [writeT, h0])
        rw [HT.out]
        have hhi := h.2.1
        have hb1 : Below w.heap.size w (w.alloc (.cells #[.int .i64 rc, .slice a ws.length cap] 25)) := (Below.refl _ _).alloc (Nat.le_refl _) _
        have hk1 := Blk.new w #[.int .i64 rc, .slice a ws.length cap] 25
        have hb2 : Below (w.alloc (.cells #[.int .i64 rc, .slice a ws.length cap] 25)).heap.size (w.alloc (.cells #[.int .i64 rc, .slice a ws.length cap] 25)) ((w.alloc (.cells #[.int .i64 rc, .slice a ws.length cap] 25)).alloc (.cells #[.int .i64 0, .slice none 0 0] 25)) := (Below.refl _ _).alloc (Nat.le_refl _) _
        have hk2 := Blk.new (w.alloc (.cells #[.int .i64 rc, .slice a ws.length cap] 25)) #[.int .i64 0, .slice none 0 0] 25
        have he : (w.alloc (.cells #[.int .i64 rc, .slice a ws.length cap] 25)).heap.size = w.heap.size + 1 := by simp
        rw [he] at hk2
        replace hk1 := hk1.below hb2
        replace h := (h.below hb1).below hb2
        have hB := below_step hb1 hb2 hb1.size

        have hs2 := hB.size
        have hl2 := hk2.lt
        clear hb1 hb2 he
        go_enter Tryd.func24, Tryd.ntmps24
        go_wp2_with fail
        generalize ((w.alloc (.cells #[.int .i64 rc, .slice a ws.length cap] 25)).alloc (.cells #[.int .i64 0, .slice none 0 0] 25)) = w2 at *
        refine (specTxnValid_any rc _ ws _ h true HV.out).mono ?_
        rintro e w3 ⟨rfl, hb3⟩
        replace hk1 := hk1.below hb3
        replace hk2 := hk2.below hb3
        replace h := h.below hb3
        replace hB := below_step hB hb3 hB.size
        have q0 := hk1.cell 0 rfl
        have q1 := hk1.cell 1 rfl
        have hs3 := hb3.size
        clear hb3
        go_wp2_with fail
        refine (l6In_any r 0 _ _ true HI.out).mono ?_
        rintro e wl ⟨rfl, rfl⟩
        go_wp2_with fail
        refine (specCopy_any rc _ ws _ h (by omega)).mono ?_
        rintro e w4 ⟨y, rfl, ho, hb4⟩
        obtain ⟨ay, cy, hy⟩ := own_form ho
        subst hy
        replace hk1 := hk1.below hb4
        replace hk2 := hk2.below hb4
        replace h := h.below hb4
        replace hB := below_step hB hb4 hB.size
        have hs4 := hb4.size
        have hl1 : w.heap.size < w4.heap.size := by omega
        have hl4 : w.heap.size + 1 < w4.heap.size := by omega
        clear hb4 q0 q1
        have q0 := hk1.cell 0 rfl
        have q1 := hk1.cell 1 rfl
        have r0 := hk2.cell 0 rfl
        have r1 := hk2.cell 1 rfl
        have f0 := hk2.frozen 0
        have f1 := hk2.frozen 1
        obtain ⟨a0, c0, hv0, _, hcx⟩ := h.open
        cases hv0
        obtain ⟨p, hix0, hcp⟩ := hcx r.toNat (by omega)
        have hix := hix0 r (by omega)
        have hpl : p.block < w4.heap.size := lt_of_cell hcp
        clear hix0 hcx
        obtain ⟨e0, e1, e2, e3, ho2, hB2⟩ := fin_opA (rc := rc) (.cells #[.int .i64 rc, .slice ay ws.length cy] 25) hk2 rfl (Nat.le_succ _) ho (by omega) hB
        clear hk2 hB ho h hk1
        go_wp2_with fail
        exact bodyPost_ret (v := .tuple #[.agg #[.int .i64 rc, .slice ay ws.length cy], .bool false]) (by simp [results, Tryd.results24, go_sem, e2, e3]) rfl ⟨_, rfl, ho2, hB2⟩
      · have HT := Lib.hid (show writeT rc ws r = (rc, ws, false) by
          have he : isEnded rc = true := by
            have h1 := HPP.out.1
            have h2 := HPP.out.2.1
            unfold isEnded
            rcases (show rc = 2 ∨ rc = 3 by omega) with e | e <;> subst e <;> rfl
          simp [writeT, he])
        rw [HT.out]
        have hhi := h.2.1
        have hb1 : Below w.heap.size w (w.alloc (.cells #[.int .i64 rc, .slice a ws.length cap] 25)) := (Below.refl _ _).alloc (Nat.le_refl _) _
        have hk1 := Blk.new w #[.int .i64 rc, .slice a ws.length cap] 25
        have hb2 : Below (w.alloc (.cells #[.int .i64 rc, .slice a ws.length cap] 25)).heap.size (w.alloc (.cells #[.int .i64 rc, .slice a ws.length cap] 25)) ((w.alloc (.cells #[.int .i64 rc, .slice a ws.length cap] 25)).alloc (.cells #[.int .i64 0, .slice none 0 0] 25)) := (Below.refl _ _).alloc (Nat.le_refl _) _
        have hk2 := Blk.new (w.alloc (.cells #[.int .i64 rc, .slice a ws.length cap] 25)) #[.int .i64 0, .slice none 0 0] 25
        have he : (w.alloc (.cells #[.int .i64 rc, .slice a ws.length cap] 25)).heap.size = w.heap.size + 1 := by simp
        rw [he] at hk2
        replace hk1 := hk1.below hb2
        replace h := (h.below hb1).below hb2
        have hB := below_step hb1 hb2 hb1.size

        have hs2 := hB.size
        have hl2 := hk2.lt
        clear hb1 hb2 he
        go_enter Tryd.func24, Tryd.ntmps24
        go_wp2_with fail
        generalize ((w.alloc (.cells #[.int .i64 rc, .slice a ws.length cap] 25)).alloc (.cells #[.int .i64 0, .slice none 0 0] 25)) = w2 at *
        refine (specTxnValid_any rc _ ws _ h true HV.out).mono ?_
        rintro e w3 ⟨rfl, hb3⟩
        replace hk1 := hk1.below hb3
        replace hk2 := hk2.below hb3
        replace h := h.below hb3
        replace hB := below_step hB hb3 hB.size
        have q0 := hk1.cell 0 rfl
        have q1 := hk1.cell 1 rfl
        have hs3 := hb3.size
        clear hb3
        go_wp2_with fail
        refine (l6In_any r 0 _ _ true HI.out).mono ?_
        rintro e wl ⟨rfl, rfl⟩
        go_wp2_with fail
        refine (specCopy_any rc _ ws _ h (by omega)).mono ?_
        rintro e w4 ⟨y, rfl, ho, hb4⟩
        obtain ⟨ay, cy, hy⟩ := own_form ho
        subst hy
        replace hk1 := hk1.below hb4
        replace hk2 := hk2.below hb4
        replace h := h.below hb4
        replace hB := below_step hB hb4 hB.size
        have hs4 := hb4.size
        have hl1 : w.heap.size < w4.heap.size := by omega
        have hl4 : w.heap.size + 1 < w4.heap.size := by omega
        clear hb4 q0 q1
        have q0 := hk1.cell 0 rfl
        have q1 := hk1.cell 1 rfl
        have r0 := hk2.cell 0 rfl
        have r1 := hk2.cell 1 rfl
        have f0 := hk2.frozen 0
        have f1 := hk2.frozen 1
        obtain ⟨a0, c0, hv0, _, hcx⟩ := h.open
        cases hv0
        obtain ⟨p, hix0, hcp⟩ := hcx r.toNat (by omega)
        have hix := hix0 r (by omega)
        have hpl : p.block < w4.heap.size := lt_of_cell hcp
        clear hix0 hcx
        obtain ⟨e0, e1, e2, e3, ho2, hB2⟩ := fin_opA (rc := rc) (.cells #[.int .i64 rc, .slice ay ws.length cy] 25) hk2 rfl (Nat.le_succ _) ho (by omega) hB
        clear hk2 hB ho h hk1
        go_wp2_with fail
        exact bodyPost_ret (v := .tuple #[.agg #[.int .i64 rc, .slice ay ws.length cy], .bool false]) (by simp [results, Tryd.results24, go_sem, e2, e3]) rfl ⟨_, rfl, ho2, hB2⟩
      · have HT := Lib.hid (show writeT rc ws r = (rc, ws.set r.toNat 1, true) by
          have he : isEnded rc = false := by
            unfold isEnded
            rw [beq_eq_false_iff_ne.2 (by omega), beq_eq_false_iff_ne.2 (by omega)]; rfl
          simp [writeT, he, h0])
        rw [HT.out]
        have hhi := h.2.1
        have hb1 : Below w.heap.size w (w.alloc (.cells #[.int .i64 rc, .slice a ws.length cap] 25)) := (Below.refl _ _).alloc (Nat.le_refl _) _
        have hk1 := Blk.new w #[.int .i64 rc, .slice a ws.length cap] 25
        have hb2 : Below (w.alloc (.cells #[.int .i64 rc, .slice a ws.length cap] 25)).heap.size (w.alloc (.cells #[.int .i64 rc, .slice a ws.length cap] 25)) ((w.alloc (.cells #[.int .i64 rc, .slice a ws.length cap] 25)).alloc (.cells #[.int .i64 0, .slice none 0 0] 25)) := (Below.refl _ _).alloc (Nat.le_refl _) _
        have hk2 := Blk.new (w.alloc (.cells #[.int .i64 rc, .slice a ws.length cap] 25)) #[.int .i64 0, .slice none 0 0] 25
        have he : (w.alloc (.cells #[.int .i64 rc, .slice a ws.length cap] 25)).heap.size = w.heap.size + 1 := by simp
        rw [he] at hk2
        replace hk1 := hk1.below hb2
        replace h := (h.below hb1).below hb2
        have hB := below_step hb1 hb2 hb1.size

        have hs2 := hB.size
        have hl2 := hk2.lt
        clear hb1 hb2 he
        go_enter Tryd.func24, Tryd.ntmps24
        go_wp2_with fail
        generalize ((w.alloc (.cells #[.int .i64 rc, .slice a ws.length cap] 25)).alloc (.cells #[.int .i64 0, .slice none 0 0] 25)) = w2 at *
        refine (specTxnValid_any rc _ ws _ h true HV.out).mono ?_
        rintro e w3 ⟨rfl, hb3⟩
        replace hk1 := hk1.below hb3
        replace hk2 := hk2.below hb3
        replace h := h.below hb3
        replace hB := below_step hB hb3 hB.size
        have q0 := hk1.cell 0 rfl
        have q1 := hk1.cell 1 rfl
        have hs3 := hb3.size
        clear hb3
        go_wp2_with fail
        refine (l6In_any r 0 _ _ true HI.out).mono ?_
        rintro e wl ⟨rfl, rfl⟩
        go_wp2_with fail
        refine (specCopy_any rc _ ws _ h (by omega)).mono ?_
        rintro e w4 ⟨y, rfl, ho, hb4⟩
        obtain ⟨ay, cy, hy⟩ := own_form ho
        subst hy
        replace hk1 := hk1.below hb4
        replace hk2 := hk2.below hb4
        replace h := h.below hb4
        replace hB := below_step hB hb4 hB.size
        have hs4 := hb4.size
        have hl1 : w.heap.size < w4.heap.size := by omega
        have hl4 : w.heap.size + 1 < w4.heap.size := by omega
        clear hb4 q0 q1
        have q0 := hk1.cell 0 rfl
        have q1 := hk1.cell 1 rfl
        have r0 := hk2.cell 0 rfl
        have r1 := hk2.cell 1 rfl
        have f0 := hk2.frozen 0
        have f1 := hk2.frozen 1
        obtain ⟨a0, c0, hv0, _, hcx⟩ := h.open
        cases hv0
        obtain ⟨p, hix0, hcp⟩ := hcx r.toNat (by omega)
        have hix := hix0 r (by omega)
        have hpl : p.block < w4.heap.size := lt_of_cell hcp
        clear hix0 hcx
        obtain ⟨a1, c1, hv1, _, hcy⟩ := IntsO.open ho
        cases hv1
        obtain ⟨p2, hp1, hp2, hi2, hst2⟩ := hcy r.toNat (by omega)
        have hiy := hi2 r (by omega)
        have hb5 : Below w4.heap.size w4 (w4.alloc (.cells #[.int .i64 rc, .slice ay ws.length cy] 25)) := (Below.refl _ _).alloc (Nat.le_refl _) _
        have hO := Blk.new w4 #[.int .i64 rc, .slice ay ws.length cy] 25
        obtain ⟨d1, g1, hset⟩ := hst2 _ ws rfl (IntsO.below ho hb5)
        have hO2 := hset 1
        have hkp : Keep w3.heap.size w4.heap.size (w4.alloc (.cells #[.int .i64 rc, .slice ay ws.length cy] 25)) ((w4.alloc (.cells #[.int .i64 rc, .slice ay ws.length cy] 25)).setCell p2 (.int .i64 1)) := keep_setCell (Keep.refl _ _ _) hp1 hp2 _
        have hk22 := (hk2.below hb5).keep hkp (.inl (by omega))
        have hO22 := hO.keep hkp (.inr (Nat.le_refl _))
        have hs5 := hb5.size
        have hB2 := (below_step hB hb5 hB.size).trans (hkp.below (B := w.heap.size) (by omega) (by omega))
        have r0' := hk22.cell 0 rfl
        have r1' := hk22.cell 1 rfl
        have f0' := hk22.frozen 0
        have f1' := hk22.frozen 1
        have o0' := hO22.cell 0 rfl
        have o1' := hO22.cell 1 rfl
        have HL := Lib.hid (ws.length_set (i := r.toNat) (a := (1 : Int)))
        obtain ⟨e0, e1, ho2, hBB⟩ := fin_op (rc := rc) hk22 rfl (Nat.le_succ _) (IntsO.wide hO2 (Nat.le_refl _) (Nat.le_trans hs5 hkp.size) (Nat.le_refl _)) (by omega) hB2
        clear hk2 hk22 hB ho h hk1 hkp hset hst2 hi2 hcy hB2 hO2 hO hO22 hb5
        go_wp2_with fail
        exact bodyPost_ret (v := .tuple #[.agg #[.int .i64 rc, .slice ay ws.length cy], .bool true]) (by simp [results, Tryd.results24, go_sem, e0, e1]) rfl ⟨_, rfl, ho2, hBB⟩

end Go.Proofs.YtocinffmdciihaaDoor
