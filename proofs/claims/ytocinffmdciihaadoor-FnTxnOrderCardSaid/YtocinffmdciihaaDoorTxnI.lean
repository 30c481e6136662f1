/-
  The walks of the program's transitions: TxnStage, TxnFinish, TxnRecover, TxnWrite.
-/
import Derived.Test.YtocinffmdciihaaDoorTxnU
namespace Go.Proofs.YtocinffmdciihaaDoor
open Go.RowKit
set_option linter.unusedVariables false

theorem stageT_ways (rc : Int) (ws : List Int) : stageT rc ws = (rc, ws, false) ∨ ∃ a l, stageT rc ws = (a, l, true) := by
  unfold stageT; split
  · exact .inr ⟨_, _, rfl⟩
  · exact .inl rfl
theorem finishT_ways (rc : Int) (ws : List Int) : finishT rc ws = (rc, ws, false) ∨ ∃ a l, finishT rc ws = (a, l, true) := by
  unfold finishT; split
  · exact .inr ⟨_, _, rfl⟩
  · exact .inl rfl
theorem recoverT_ways (rc : Int) (ws : List Int) : recoverT rc ws = (rc, ws, false) ∨ ∃ a l, recoverT rc ws = (a, l, true) := by
  unfold recoverT; split
  · exact .inl rfl
  · split <;> exact .inr ⟨_, _, rfl⟩
theorem writeT_ways (rc : Int) (ws : List Int) (r : Int) : writeT rc ws r = (rc, ws, false) ∨ ∃ a l, writeT rc ws r = (a, l, true) := by
  unfold writeT; split
  · exact .inl rfl
  · exact .inr ⟨_, _, rfl⟩
theorem nil_own (w : World) (L : Nat) : IntsO w L w.heap.size (.slice none 0 0) [] := IntsO.nil _ _ _ (Nat.le_refl _)
theorem does_stage (rc : Int) (ws : List Int) (w : World) (hl : ws.length ≤ 1000) : Does 46 #[] rc ws (stageT rc ws) w :=
  fun wx b lo hi vs _ hb ho hs => stage_any b lo hi vs rc ws wx hb ho hs hl
theorem does_finish (rc : Int) (ws : List Int) (w : World) (hl : ws.length ≤ 1000) : Does 55 #[] rc ws (finishT rc ws) w :=
  fun wx b lo hi vs _ hb ho hs => finish_any b lo hi vs rc ws wx hb ho hs hl
theorem does_recover (rc : Int) (ws : List Int) (w : World) (hl : ws.length ≤ 1000) : Does 63 #[] rc ws (recoverT rc ws) w :=
  fun wx b lo hi vs _ hb ho hs => recover_any b lo hi vs rc ws wx hb ho hs hl
set_option maxHeartbeats 400000 in
theorem writeClosure_any (b lo hi : Nat) (vs : Value) (rc : Int) (ws : List Int) (r : Int) (B : Nat) (w : World) (hr : w.cell? ⟨B, 0, none⟩ = some (.int .i64 r)) (hb : Blk w b #[.int .i64 rc, vs] 25) (ho : IntsO w lo hi vs ws) (hs : hi ≤ b ∨ b < lo) (hl : ws.length ≤ 1000) (r0 : 0 ≤ r) (r1 : r < ws.length) :
    Calls Tryd.prog 50 #[.pointer (some ⟨b, 0, none⟩), .pointer (some ⟨B, 0, none⟩)] w (Turned b lo hi vs (writeT rc ws r) w) := by
  have HB := Lib.hid hb; clear hb
  go_enter Tryd.func50, Tryd.ntmps50
  go_wp2_with fail
  refine (write_any b lo hi vs rc ws r _ HB.out ho hs hl r0 r1).mono ?_
  intro e w' ht
  have HT := Lib.hid ht
  generalize writeT rc ws r = t at *
  obtain ⟨a1, l1, ok⟩ := t
  cases ok
  · obtain ⟨p, rfl, hb'⟩ := ht
    go_wp2_with fail
    go_ret
    exact HT.out
  · obtain ⟨rfl, hh⟩ := ht
    clear hh
    go_wp2_with fail
    go_ret
    exact HT.out
theorem does_write (rc : Int) (ws : List Int) (r : Int) (B : Nat) (w : World) (hr : w.cell? ⟨B, 0, none⟩ = some (.int .i64 r)) (hl : ws.length ≤ 1000) (r0 : 0 ≤ r) (r1 : r < ws.length) : Does 50 #[.pointer (some ⟨B, 0, none⟩)] rc ws (writeT rc ws r) w :=
  fun wx b lo hi vs hw hb ho hs => writeClosure_any b lo hi vs rc ws r B wx (below_cell hw hr) hb ho hs hl r0 r1
theorem gate_yes (t : Int × List Int × Bool) : gate true t = t := rfl

set_option maxRecDepth 100000 in
set_option maxHeartbeats 2000000 in
theorem implTxnStage_any (rc : Int) (v : Value) (ws : List Int) (w : World) {lo hi : Nat} (h : Ints w lo hi v ws) (hL : Laid w) :
    Calls Tryd.prog 19 #[.agg #[.int .i64 rc, v]] w (RetOp w (stageR rc ws)) := by
  cases hv : txnOk rc ws
  · have HT := Lib.hid (show stageR rc ws = (0, [], false) by unfold stageR; rw [hv]; rfl)
    rw [HT.out]
    have HV := Lib.hid hv; clear hv
    have hhi := h.2.1
    have hb1 : Below w.heap.size w (w.alloc (.cells #[.int .i64 rc, v] 25)) := (Below.refl _ _).alloc (Nat.le_refl _) _
    have hk1 := Blk.new w #[.int .i64 rc, v] 25
    have hb2 : Below (w.alloc (.cells #[.int .i64 rc, v] 25)).heap.size (w.alloc (.cells #[.int .i64 rc, v] 25)) ((w.alloc (.cells #[.int .i64 rc, v] 25)).alloc (.cells #[.int .i64 0, .slice none 0 0] 25)) := (Below.refl _ _).alloc (Nat.le_refl _) _
    have hk2 := Blk.new (w.alloc (.cells #[.int .i64 rc, v] 25)) #[.int .i64 0, .slice none 0 0] 25
    have he : (w.alloc (.cells #[.int .i64 rc, v] 25)).heap.size = w.heap.size + 1 := by simp
    rw [he] at hk2
    replace hk1 := hk1.below hb2
    replace h := (h.below hb1).below hb2
    have hB := below_step hb1 hb2 hb1.size
    replace hL := hL.below hB
    have hs2 := hB.size
    have hl2 := hk2.lt
    clear hb1 hb2 he
    go_enter Tryd.func19, Tryd.ntmps19
    go_wp2_with fail
    generalize ((w.alloc (.cells #[.int .i64 rc, v] 25)).alloc (.cells #[.int .i64 0, .slice none 0 0] 25)) = w2 at *
    refine (implTxnValid_any rc v ws _ h false HV.out).mono ?_
    rintro e w3 ⟨rfl, hb3⟩
    replace hk2 := hk2.below hb3
    replace hB := below_step hB hb3 hB.size
    clear hb3 h hk1 hL
    have r0 := hk2.cell 0 rfl
    have r1 := hk2.cell 1 rfl
    have f0 := hk2.frozen 0
    have f1 := hk2.frozen 1
    obtain ⟨e0, e1, ho2, hB2⟩ := fin_op (rc := 0) hk2 rfl (Nat.le_succ _) (nil_own _ (w.heap.size + 1 + 1)) (by omega) hB
    clear hk2 hB
    go_wp2_with fail
    exact bodyPost_ret (v := .tuple #[.agg #[.int .i64 0, .slice none 0 0], .bool false]) (by simp [results, Tryd.results19, go_sem, e0, e1]) rfl ⟨_, rfl, ho2, hB2⟩
  · have hpp := txnOk_parts hv
    have hx : ws.length ≤ 1000 := by omega
    have hR : stageR rc ws = stageT rc ws := by unfold stageR; rw [hv]; rfl
    rw [hR]
    have HV := Lib.hid hv; clear hv hpp hR
    have HD := Lib.hid (fun wd => does_stage rc ws wd hx)
    rcases stageT_ways rc ws with hw | ⟨a1, l1, hw⟩
    all_goals
      rw [hw] at HD
      rw [hw]
      clear hw
      have hhi := h.2.1
      have hb1 : Below w.heap.size w (w.alloc (.cells #[.int .i64 rc, v] 25)) := (Below.refl _ _).alloc (Nat.le_refl _) _
      have hk1 := Blk.new w #[.int .i64 rc, v] 25
      have hb2 : Below (w.alloc (.cells #[.int .i64 rc, v] 25)).heap.size (w.alloc (.cells #[.int .i64 rc, v] 25)) ((w.alloc (.cells #[.int .i64 rc, v] 25)).alloc (.cells #[.int .i64 0, .slice none 0 0] 25)) := (Below.refl _ _).alloc (Nat.le_refl _) _
      have hk2 := Blk.new (w.alloc (.cells #[.int .i64 rc, v] 25)) #[.int .i64 0, .slice none 0 0] 25
      have he : (w.alloc (.cells #[.int .i64 rc, v] 25)).heap.size = w.heap.size + 1 := by simp
      rw [he] at hk2
      replace hk1 := hk1.below hb2
      replace h := (h.below hb1).below hb2
      have hB := below_step hb1 hb2 hb1.size
      replace hL := hL.below hB
      have hs2 := hB.size
      have hl2 := hk2.lt
      clear hb1 hb2 he
      go_enter Tryd.func19, Tryd.ntmps19
      go_wp2_with fail
      generalize ((w.alloc (.cells #[.int .i64 rc, v] 25)).alloc (.cells #[.int .i64 0, .slice none 0 0] 25)) = w2 at *
      refine (implTxnValid_any rc v ws _ h true HV.out).mono ?_
      rintro e w3 ⟨rfl, hb3⟩
      replace hk1 := hk1.below hb3
      replace hk2 := hk2.below hb3
      replace h := h.below hb3
      replace hL := hL.below hb3
      replace hB := below_step hB hb3 hB.size
      have q0 := hk1.cell 0 rfl
      have q1 := hk1.cell 1 rfl
      have hs3 := hb3.size
      clear hb3
      go_wp2_with fail
      first
        | refine (turned_no _ #[] (fun _ _ => by kernel_rfl) rc v ws _ _ _ h hL hx (HD.out _)).mono ?_
        | refine (turned_yes _ #[] (fun _ _ => by kernel_rfl) rc v ws _ _ _ h hx (HD.out _)).mono ?_
      rintro e w4 ⟨z, rfl, hz, hb4⟩
      obtain ⟨az, cz, hzz⟩ := own_form hz
      subst hzz
      replace hk2 := hk2.below hb4
      replace hB := below_step hB hb4 hB.size
      clear hb4 h hk1 hL HD q0 q1
      have r0 := hk2.cell 0 rfl
      have r1 := hk2.cell 1 rfl
      have f0 := hk2.frozen 0
      have f1 := hk2.frozen 1
      first
        | have hfin := fin_op (rc := a1) hk2 rfl (Nat.le_succ _) hz (by omega) hB
        | have hfin := fin_op (rc := rc) hk2 rfl (Nat.le_succ _) hz (by omega) hB
      obtain ⟨e0, e1, ho2, hB2⟩ := hfin
      clear hk2 hB
      dsimp only at e0 e1 ho2 hB2 ⊢
      go_wp2_with fail
      first
        | exact bodyPost_ret (v := .tuple #[.agg #[.int .i64 rc, .slice az ws.length cz], .bool false]) (by simp [results, Tryd.results19, go_sem, e0, e1]) rfl ⟨_, rfl, ho2, hB2⟩
        | exact bodyPost_ret (v := .tuple #[.agg #[.int .i64 a1, .slice az l1.length cz], .bool true]) (by simp [results, Tryd.results19, go_sem, e0, e1]) rfl ⟨_, rfl, ho2, hB2⟩

set_option maxRecDepth 100000 in
set_option maxHeartbeats 2000000 in
theorem implTxnFinish_any (rc : Int) (v : Value) (ws : List Int) (w : World) {lo hi : Nat} (h : Ints w lo hi v ws) (hL : Laid w) :
    Calls Tryd.prog 29 #[.agg #[.int .i64 rc, v]] w (RetOp w (finishR rc ws)) := by
  cases hv : txnOk rc ws
  · have HT := Lib.hid (show finishR rc ws = (0, [], false) by unfold finishR; rw [hv]; rfl)
    rw [HT.out]
    have HV := Lib.hid hv; clear hv
    have hhi := h.2.1
    have hb1 : Below w.heap.size w (w.alloc (.cells #[.int .i64 rc, v] 25)) := (Below.refl _ _).alloc (Nat.le_refl _) _
    have hk1 := Blk.new w #[.int .i64 rc, v] 25
    have hb2 : Below (w.alloc (.cells #[.int .i64 rc, v] 25)).heap.size (w.alloc (.cells #[.int .i64 rc, v] 25)) ((w.alloc (.cells #[.int .i64 rc, v] 25)).alloc (.cells #[.int .i64 0, .slice none 0 0] 25)) := (Below.refl _ _).alloc (Nat.le_refl _) _
    have hk2 := Blk.new (w.alloc (.cells #[.int .i64 rc, v] 25)) #[.int .i64 0, .slice none 0 0] 25
    have he : (w.alloc (.cells #[.int .i64 rc, v] 25)).heap.size = w.heap.size + 1 := by simp
    rw [he] at hk2
    replace hk1 := hk1.below hb2
    replace h := (h.below hb1).below hb2
    have hB := below_step hb1 hb2 hb1.size
    replace hL := hL.below hB
    have hs2 := hB.size
    have hl2 := hk2.lt
    clear hb1 hb2 he
    go_enter Tryd.func29, Tryd.ntmps29
    go_wp2_with fail
    generalize ((w.alloc (.cells #[.int .i64 rc, v] 25)).alloc (.cells #[.int .i64 0, .slice none 0 0] 25)) = w2 at *
    refine (implTxnValid_any rc v ws _ h false HV.out).mono ?_
    rintro e w3 ⟨rfl, hb3⟩
    replace hk2 := hk2.below hb3
    replace hB := below_step hB hb3 hB.size
    clear hb3 h hk1 hL
    have r0 := hk2.cell 0 rfl
    have r1 := hk2.cell 1 rfl
    have f0 := hk2.frozen 0
    have f1 := hk2.frozen 1
    obtain ⟨e0, e1, ho2, hB2⟩ := fin_op (rc := 0) hk2 rfl (Nat.le_succ _) (nil_own _ (w.heap.size + 1 + 1)) (by omega) hB
    clear hk2 hB
    go_wp2_with fail
    exact bodyPost_ret (v := .tuple #[.agg #[.int .i64 0, .slice none 0 0], .bool false]) (by simp [results, Tryd.results29, go_sem, e0, e1]) rfl ⟨_, rfl, ho2, hB2⟩
  · have hpp := txnOk_parts hv
    have hx : ws.length ≤ 1000 := by omega
    have hR : finishR rc ws = finishT rc ws := by unfold finishR; rw [hv]; rfl
    rw [hR]
    have HV := Lib.hid hv; clear hv hpp hR
    have HD := Lib.hid (fun wd => does_finish rc ws wd hx)
    rcases finishT_ways rc ws with hw | ⟨a1, l1, hw⟩
    all_goals
      rw [hw] at HD
      rw [hw]
      clear hw
      have hhi := h.2.1
      have hb1 : Below w.heap.size w (w.alloc (.cells #[.int .i64 rc, v] 25)) := (Below.refl _ _).alloc (Nat.le_refl _) _
      have hk1 := Blk.new w #[.int .i64 rc, v] 25
      have hb2 : Below (w.alloc (.cells #[.int .i64 rc, v] 25)).heap.size (w.alloc (.cells #[.int .i64 rc, v] 25)) ((w.alloc (.cells #[.int .i64 rc, v] 25)).alloc (.cells #[.int .i64 0, .slice none 0 0] 25)) := (Below.refl _ _).alloc (Nat.le_refl _) _
      have hk2 := Blk.new (w.alloc (.cells #[.int .i64 rc, v] 25)) #[.int .i64 0, .slice none 0 0] 25
      have he : (w.alloc (.cells #[.int .i64 rc, v] 25)).heap.size = w.heap.size + 1 := by simp
      rw [he] at hk2
      replace hk1 := hk1.below hb2
      replace h := (h.below hb1).below hb2
      have hB := below_step hb1 hb2 hb1.size
      replace hL := hL.below hB
      have hs2 := hB.size
      have hl2 := hk2.lt
      clear hb1 hb2 he
      go_enter Tryd.func29, Tryd.ntmps29
      go_wp2_with fail
      generalize ((w.alloc (.cells #[.int .i64 rc, v] 25)).alloc (.cells #[.int .i64 0, .slice none 0 0] 25)) = w2 at *
      refine (implTxnValid_any rc v ws _ h true HV.out).mono ?_
      rintro e w3 ⟨rfl, hb3⟩
      replace hk1 := hk1.below hb3
      replace hk2 := hk2.below hb3
      replace h := h.below hb3
      replace hL := hL.below hb3
      replace hB := below_step hB hb3 hB.size
      have q0 := hk1.cell 0 rfl
      have q1 := hk1.cell 1 rfl
      have hs3 := hb3.size
      clear hb3
      go_wp2_with fail
      first
        | refine (turned_no _ #[] (fun _ _ => by kernel_rfl) rc v ws _ _ _ h hL hx (HD.out _)).mono ?_
        | refine (turned_yes _ #[] (fun _ _ => by kernel_rfl) rc v ws _ _ _ h hx (HD.out _)).mono ?_
      rintro e w4 ⟨z, rfl, hz, hb4⟩
      obtain ⟨az, cz, hzz⟩ := own_form hz
      subst hzz
      replace hk2 := hk2.below hb4
      replace hB := below_step hB hb4 hB.size
      clear hb4 h hk1 hL HD q0 q1
      have r0 := hk2.cell 0 rfl
      have r1 := hk2.cell 1 rfl
      have f0 := hk2.frozen 0
      have f1 := hk2.frozen 1
      first
        | have hfin := fin_op (rc := a1) hk2 rfl (Nat.le_succ _) hz (by omega) hB
        | have hfin := fin_op (rc := rc) hk2 rfl (Nat.le_succ _) hz (by omega) hB
      obtain ⟨e0, e1, ho2, hB2⟩ := hfin
      clear hk2 hB
      dsimp only at e0 e1 ho2 hB2 ⊢
      go_wp2_with fail
      first
        | exact bodyPost_ret (v := .tuple #[.agg #[.int .i64 rc, .slice az ws.length cz], .bool false]) (by simp [results, Tryd.results29, go_sem, e0, e1]) rfl ⟨_, rfl, ho2, hB2⟩
        | exact bodyPost_ret (v := .tuple #[.agg #[.int .i64 a1, .slice az l1.length cz], .bool true]) (by simp [results, Tryd.results29, go_sem, e0, e1]) rfl ⟨_, rfl, ho2, hB2⟩

set_option maxRecDepth 100000 in
set_option maxHeartbeats 2000000 in
theorem implTxnRecover_any (rc : Int) (v : Value) (ws : List Int) (w : World) {lo hi : Nat} (h : Ints w lo hi v ws) (hL : Laid w) :
    Calls Tryd.prog 38 #[.agg #[.int .i64 rc, v]] w (RetOp w (recoverR rc ws)) := by
  cases hv : txnOk rc ws
  · have HT := Lib.hid (show recoverR rc ws = (0, [], false) by unfold recoverR; rw [hv]; rfl)
    rw [HT.out]
    have HV := Lib.hid hv; clear hv
    have hhi := h.2.1
    have hb1 : Below w.heap.size w (w.alloc (.cells #[.int .i64 rc, v] 25)) := (Below.refl _ _).alloc (Nat.le_refl _) _
    have hk1 := Blk.new w #[.int .i64 rc, v] 25
    have hb2 : Below (w.alloc (.cells #[.int .i64 rc, v] 25)).heap.size (w.alloc (.cells #[.int .i64 rc, v] 25)) ((w.alloc (.cells #[.int .i64 rc, v] 25)).alloc (.cells #[.int .i64 0, .slice none 0 0] 25)) := (Below.refl _ _).alloc (Nat.le_refl _) _
    have hk2 := Blk.new (w.alloc (.cells #[.int .i64 rc, v] 25)) #[.int .i64 0, .slice none 0 0] 25
    have he : (w.alloc (.cells #[.int .i64 rc, v] 25)).heap.size = w.heap.size + 1 := by simp
    rw [he] at hk2
    replace hk1 := hk1.below hb2
    replace h := (h.below hb1).below hb2
    have hB := below_step hb1 hb2 hb1.size
    replace hL := hL.below hB
    have hs2 := hB.size
    have hl2 := hk2.lt
    clear hb1 hb2 he
    go_enter Tryd.func38, Tryd.ntmps38
    go_wp2_with fail
    generalize ((w.alloc (.cells #[.int .i64 rc, v] 25)).alloc (.cells #[.int .i64 0, .slice none 0 0] 25)) = w2 at *
    refine (implTxnValid_any rc v ws _ h false HV.out).mono ?_
    rintro e w3 ⟨rfl, hb3⟩
    replace hk2 := hk2.below hb3
    replace hB := below_step hB hb3 hB.size
    clear hb3 h hk1 hL
    have r0 := hk2.cell 0 rfl
    have r1 := hk2.cell 1 rfl
    have f0 := hk2.frozen 0
    have f1 := hk2.frozen 1
    obtain ⟨e0, e1, ho2, hB2⟩ := fin_op (rc := 0) hk2 rfl (Nat.le_succ _) (nil_own _ (w.heap.size + 1 + 1)) (by omega) hB
    clear hk2 hB
    go_wp2_with fail
    exact bodyPost_ret (v := .tuple #[.agg #[.int .i64 0, .slice none 0 0], .bool false]) (by simp [results, Tryd.results38, go_sem, e0, e1]) rfl ⟨_, rfl, ho2, hB2⟩
  · have hpp := txnOk_parts hv
    have hx : ws.length ≤ 1000 := by omega
    have hR : recoverR rc ws = recoverT rc ws := by unfold recoverR; rw [hv]; rfl
    rw [hR]
    have HV := Lib.hid hv; clear hv hpp hR
    have HD := Lib.hid (fun wd => does_recover rc ws wd hx)
    rcases recoverT_ways rc ws with hw | ⟨a1, l1, hw⟩
    all_goals
      rw [hw] at HD
      rw [hw]
      clear hw
      have hhi := h.2.1
      have hb1 : Below w.heap.size w (w.alloc (.cells #[.int .i64 rc, v] 25)) := (Below.refl _ _).alloc (Nat.le_refl _) _
      have hk1 := Blk.new w #[.int .i64 rc, v] 25
      have hb2 : Below (w.alloc (.cells #[.int .i64 rc, v] 25)).heap.size (w.alloc (.cells #[.int .i64 rc, v] 25)) ((w.alloc (.cells #[.int .i64 rc, v] 25)).alloc (.cells #[.int .i64 0, .slice none 0 0] 25)) := (Below.refl _ _).alloc (Nat.le_refl _) _
      have hk2 := Blk.new (w.alloc (.cells #[.int .i64 rc, v] 25)) #[.int .i64 0, .slice none 0 0] 25
      have he : (w.alloc (.cells #[.int .i64 rc, v] 25)).heap.size = w.heap.size + 1 := by simp
      rw [he] at hk2
      replace hk1 := hk1.below hb2
      replace h := (h.below hb1).below hb2
      have hB := below_step hb1 hb2 hb1.size
      replace hL := hL.below hB
      have hs2 := hB.size
      have hl2 := hk2.lt
      clear hb1 hb2 he
      go_enter Tryd.func38, Tryd.ntmps38
      go_wp2_with fail
      generalize ((w.alloc (.cells #[.int .i64 rc, v] 25)).alloc (.cells #[.int .i64 0, .slice none 0 0] 25)) = w2 at *
      refine (implTxnValid_any rc v ws _ h true HV.out).mono ?_
      rintro e w3 ⟨rfl, hb3⟩
      replace hk1 := hk1.below hb3
      replace hk2 := hk2.below hb3
      replace h := h.below hb3
      replace hL := hL.below hb3
      replace hB := below_step hB hb3 hB.size
      have q0 := hk1.cell 0 rfl
      have q1 := hk1.cell 1 rfl
      have hs3 := hb3.size
      clear hb3
      go_wp2_with fail
      first
        | refine (turned_no _ #[] (fun _ _ => by kernel_rfl) rc v ws _ _ _ h hL hx (HD.out _)).mono ?_
        | refine (turned_yes _ #[] (fun _ _ => by kernel_rfl) rc v ws _ _ _ h hx (HD.out _)).mono ?_
      rintro e w4 ⟨z, rfl, hz, hb4⟩
      obtain ⟨az, cz, hzz⟩ := own_form hz
      subst hzz
      replace hk2 := hk2.below hb4
      replace hB := below_step hB hb4 hB.size
      clear hb4 h hk1 hL HD q0 q1
      have r0 := hk2.cell 0 rfl
      have r1 := hk2.cell 1 rfl
      have f0 := hk2.frozen 0
      have f1 := hk2.frozen 1
      first
        | have hfin := fin_op (rc := a1) hk2 rfl (Nat.le_succ _) hz (by omega) hB
        | have hfin := fin_op (rc := rc) hk2 rfl (Nat.le_succ _) hz (by omega) hB
      obtain ⟨e0, e1, ho2, hB2⟩ := hfin
      clear hk2 hB
      dsimp only at e0 e1 ho2 hB2 ⊢
      go_wp2_with fail
      first
        | exact bodyPost_ret (v := .tuple #[.agg #[.int .i64 rc, .slice az ws.length cz], .bool false]) (by simp [results, Tryd.results38, go_sem, e0, e1]) rfl ⟨_, rfl, ho2, hB2⟩
        | exact bodyPost_ret (v := .tuple #[.agg #[.int .i64 a1, .slice az l1.length cz], .bool true]) (by simp [results, Tryd.results38, go_sem, e0, e1]) rfl ⟨_, rfl, ho2, hB2⟩

set_option maxRecDepth 100000 in
set_option maxHeartbeats 4000000 in
theorem implTxnWrite_any (rc : Int) (v : Value) (ws : List Int) (r : Int) (w : World) {lo hi : Nat} (h : Ints w lo hi v ws) (hL : Laid w) :
    Calls Tryd.prog 25 #[.agg #[.int .i64 rc, v], .int .i64 r] w (RetOp w (writeR rc ws r)) := by
  obtain ⟨a, cap, hvv, hn, hcell⟩ := h.open
  clear hcell
  subst hvv
  generalize hvv : Value.slice a ws.length cap = v at *
  have hv0 := hvv
  cases hv : txnOk rc ws
  · have HT := Lib.hid (show writeR rc ws r = (0, [], false) by unfold writeR; rw [hv]; rfl)
    rw [HT.out]
    have HV := Lib.hid hv; clear hv
    clear hvv
    subst hv0
    have hhi := h.2.1
    have hb1 : Below w.heap.size w (w.alloc (.cells #[.int .i64 rc, .slice a ws.length cap] 25)) := (Below.refl _ _).alloc (Nat.le_refl _) _
    have hk1 := Blk.new w #[.int .i64 rc, .slice a ws.length cap] 25
    have hb2 : Below (w.alloc (.cells #[.int .i64 rc, .slice a ws.length cap] 25)).heap.size (w.alloc (.cells #[.int .i64 rc, .slice a ws.length cap] 25)) ((w.alloc (.cells #[.int .i64 rc, .slice a ws.length cap] 25)).alloc (.cells #[.int .i64 r] 3)) := (Below.refl _ _).alloc (Nat.le_refl _) _
    have hkr := Blk.new (w.alloc (.cells #[.int .i64 rc, .slice a ws.length cap] 25)) #[.int .i64 r] 3
    have hb3 : Below ((w.alloc (.cells #[.int .i64 rc, .slice a ws.length cap] 25)).alloc (.cells #[.int .i64 r] 3)).heap.size ((w.alloc (.cells #[.int .i64 rc, .slice a ws.length cap] 25)).alloc (.cells #[.int .i64 r] 3)) (((w.alloc (.cells #[.int .i64 rc, .slice a ws.length cap] 25)).alloc (.cells #[.int .i64 r] 3)).alloc (.cells #[.int .i64 0, .slice none 0 0] 25)) := (Below.refl _ _).alloc (Nat.le_refl _) _
    have hk2 := Blk.new ((w.alloc (.cells #[.int .i64 rc, .slice a ws.length cap] 25)).alloc (.cells #[.int .i64 r] 3)) #[.int .i64 0, .slice none 0 0] 25
    have he : (w.alloc (.cells #[.int .i64 rc, .slice a ws.length cap] 25)).heap.size = w.heap.size + 1 := by simp
    have he2 : ((w.alloc (.cells #[.int .i64 rc, .slice a ws.length cap] 25)).alloc (.cells #[.int .i64 r] 3)).heap.size = w.heap.size + 1 + 1 := by simp
    rw [he2] at hk2
    rw [he] at hkr
    replace hk1 := (hk1.below hb2).below hb3
    replace hkr := hkr.below hb3
    replace h := ((h.below hb1).below hb2).below hb3
    have hB := below_step (below_step hb1 hb2 hb1.size) hb3 (below_step hb1 hb2 hb1.size).size
    replace hL := hL.below hB
    have hs2 := hB.size
    have hl2 := hk2.lt
    clear hb1 hb2 hb3 he he2
    go_enter Tryd.func25, Tryd.ntmps25
    go_wp2_with fail
    generalize (((w.alloc (.cells #[.int .i64 rc, .slice a ws.length cap] 25)).alloc (.cells #[.int .i64 r] 3)).alloc (.cells #[.int .i64 0, .slice none 0 0] 25)) = w2 at *
    refine (implTxnValid_any rc _ ws _ h false HV.out).mono ?_
    rintro e w3 ⟨rfl, hb3⟩
    replace hk2 := hk2.below hb3
    replace hkr := hkr.below hb3
    replace hk1 := hk1.below hb3
    replace hB := below_step hB hb3 hB.size
    have x0 := hkr.cell 0 rfl
    have q0 := hk1.cell 0 rfl
    have q1 := hk1.cell 1 rfl
    clear hb3 h hk1 hL
    have r0 := hk2.cell 0 rfl
    have r1 := hk2.cell 1 rfl
    have f0 := hk2.frozen 0
    have f1 := hk2.frozen 1
    obtain ⟨e0, e1, ho2, hB2⟩ := fin_op (rc := 0) hk2 rfl (by omega) (nil_own _ (w.heap.size + 1 + 1 + 1)) (by omega) hB
    clear hk2 hB
    go_wp2_with fail
    exact bodyPost_ret (v := .tuple #[.agg #[.int .i64 0, .slice none 0 0], .bool false]) (by simp [results, Tryd.results25, go_sem, e0, e1]) rfl ⟨_, rfl, ho2, hB2⟩
  · have hpp := txnOk_parts hv
    have hx : ws.length ≤ 1000 := by omega
    by_cases hr : 0 ≤ r ∧ r < ws.length
    case neg =>
      have HT := Lib.hid (show writeR rc ws r = (0, [], false) by
        unfold writeR; rw [hv]
        have : (decide (0 ≤ r) && decide (r < (ws.length : Int))) = false := by
          rw [Bool.and_eq_false_iff, decide_eq_false_iff_not, decide_eq_false_iff_not]; omega
        rw [this]; rfl)
      rw [HT.out]
      have HV := Lib.hid hv; clear hv hpp
      clear hvv
      subst hv0
      by_cases hr0 : r < 0
      all_goals
        have hhi := h.2.1
        have hb1 : Below w.heap.size w (w.alloc (.cells #[.int .i64 rc, .slice a ws.length cap] 25)) := (Below.refl _ _).alloc (Nat.le_refl _) _
        have hk1 := Blk.new w #[.int .i64 rc, .slice a ws.length cap] 25
        have hb2 : Below (w.alloc (.cells #[.int .i64 rc, .slice a ws.length cap] 25)).heap.size (w.alloc (.cells #[.int .i64 rc, .slice a ws.length cap] 25)) ((w.alloc (.cells #[.int .i64 rc, .slice a ws.length cap] 25)).alloc (.cells #[.int .i64 r] 3)) := (Below.refl _ _).alloc (Nat.le_refl _) _
        have hkr := Blk.new (w.alloc (.cells #[.int .i64 rc, .slice a ws.length cap] 25)) #[.int .i64 r] 3
        have hb3 : Below ((w.alloc (.cells #[.int .i64 rc, .slice a ws.length cap] 25)).alloc (.cells #[.int .i64 r] 3)).heap.size ((w.alloc (.cells #[.int .i64 rc, .slice a ws.length cap] 25)).alloc (.cells #[.int .i64 r] 3)) (((w.alloc (.cells #[.int .i64 rc, .slice a ws.length cap] 25)).alloc (.cells #[.int .i64 r] 3)).alloc (.cells #[.int .i64 0, .slice none 0 0] 25)) := (Below.refl _ _).alloc (Nat.le_refl _) _
        have hk2 := Blk.new ((w.alloc (.cells #[.int .i64 rc, .slice a ws.length cap] 25)).alloc (.cells #[.int .i64 r] 3)) #[.int .i64 0, .slice none 0 0] 25
        have he : (w.alloc (.cells #[.int .i64 rc, .slice a ws.length cap] 25)).heap.size = w.heap.size + 1 := by simp
        have he2 : ((w.alloc (.cells #[.int .i64 rc, .slice a ws.length cap] 25)).alloc (.cells #[.int .i64 r] 3)).heap.size = w.heap.size + 1 + 1 := by simp
        rw [he2] at hk2
        rw [he] at hkr
        replace hk1 := (hk1.below hb2).below hb3
        replace hkr := hkr.below hb3
        replace h := ((h.below hb1).below hb2).below hb3
        have hB := below_step (below_step hb1 hb2 hb1.size) hb3 (below_step hb1 hb2 hb1.size).size
        replace hL := hL.below hB
        have hs2 := hB.size
        have hl2 := hk2.lt
        clear hb1 hb2 hb3 he he2
        go_enter Tryd.func25, Tryd.ntmps25
        go_wp2_with fail
        generalize (((w.alloc (.cells #[.int .i64 rc, .slice a ws.length cap] 25)).alloc (.cells #[.int .i64 r] 3)).alloc (.cells #[.int .i64 0, .slice none 0 0] 25)) = w2 at *
        refine (implTxnValid_any rc _ ws _ h true HV.out).mono ?_
        rintro e w3 ⟨rfl, hb3⟩
        replace hk2 := hk2.below hb3
        replace hkr := hkr.below hb3
        replace hk1 := hk1.below hb3
        replace hB := below_step hB hb3 hB.size
        have x0 := hkr.cell 0 rfl
        have q0 := hk1.cell 0 rfl
        have q1 := hk1.cell 1 rfl
        clear hb3 h hk1 hL
        have hge : r < 0 ∨ (ws.length : Int) ≤ r := by omega
        have r0 := hk2.cell 0 rfl
        have r1 := hk2.cell 1 rfl
        have f0 := hk2.frozen 0
        have f1 := hk2.frozen 1
        obtain ⟨e0, e1, ho2, hB2⟩ := fin_op (rc := 0) hk2 rfl (by omega) (nil_own _ (w.heap.size + 1 + 1 + 1)) (by omega) hB
        clear hk2 hB
        go_wp2_with fail
        exact bodyPost_ret (v := .tuple #[.agg #[.int .i64 0, .slice none 0 0], .bool false]) (by simp [results, Tryd.results25, go_sem, e0, e1]) rfl ⟨_, rfl, ho2, hB2⟩
    case pos =>
      obtain ⟨hr0, hr1⟩ := hr
      have hR : writeR rc ws r = writeT rc ws r := by
        unfold writeR; rw [hv]
        have : (decide (0 ≤ r) && decide (r < (ws.length : Int))) = true := by simp [hr0, hr1]
        rw [this]; rfl
      rw [hR]
      have HV := Lib.hid hv; clear hv hpp hR
      clear hvv
      subst hv0
      have HD := Lib.hid (fun B wd hc => does_write rc ws r B wd hc hx hr0 hr1)
      rcases writeT_ways rc ws r with hw | ⟨a1, l1, hw⟩
      all_goals
        rw [hw] at HD
        rw [hw]
        clear hw
        have hhi := h.2.1
        have hb1 : Below w.heap.size w (w.alloc (.cells #[.int .i64 rc, .slice a ws.length cap] 25)) := (Below.refl _ _).alloc (Nat.le_refl _) _
        have hk1 := Blk.new w #[.int .i64 rc, .slice a ws.length cap] 25
        have hb2 : Below (w.alloc (.cells #[.int .i64 rc, .slice a ws.length cap] 25)).heap.size (w.alloc (.cells #[.int .i64 rc, .slice a ws.length cap] 25)) ((w.alloc (.cells #[.int .i64 rc, .slice a ws.length cap] 25)).alloc (.cells #[.int .i64 r] 3)) := (Below.refl _ _).alloc (Nat.le_refl _) _
        have hkr := Blk.new (w.alloc (.cells #[.int .i64 rc, .slice a ws.length cap] 25)) #[.int .i64 r] 3
        have hb3 : Below ((w.alloc (.cells #[.int .i64 rc, .slice a ws.length cap] 25)).alloc (.cells #[.int .i64 r] 3)).heap.size ((w.alloc (.cells #[.int .i64 rc, .slice a ws.length cap] 25)).alloc (.cells #[.int .i64 r] 3)) (((w.alloc (.cells #[.int .i64 rc, .slice a ws.length cap] 25)).alloc (.cells #[.int .i64 r] 3)).alloc (.cells #[.int .i64 0, .slice none 0 0] 25)) := (Below.refl _ _).alloc (Nat.le_refl _) _
        have hk2 := Blk.new ((w.alloc (.cells #[.int .i64 rc, .slice a ws.length cap] 25)).alloc (.cells #[.int .i64 r] 3)) #[.int .i64 0, .slice none 0 0] 25
        have he : (w.alloc (.cells #[.int .i64 rc, .slice a ws.length cap] 25)).heap.size = w.heap.size + 1 := by simp
        have he2 : ((w.alloc (.cells #[.int .i64 rc, .slice a ws.length cap] 25)).alloc (.cells #[.int .i64 r] 3)).heap.size = w.heap.size + 1 + 1 := by simp
        rw [he2] at hk2
        rw [he] at hkr
        replace hk1 := (hk1.below hb2).below hb3
        replace hkr := hkr.below hb3
        replace h := ((h.below hb1).below hb2).below hb3
        have hB := below_step (below_step hb1 hb2 hb1.size) hb3 (below_step hb1 hb2 hb1.size).size
        replace hL := hL.below hB
        have hs2 := hB.size
        have hl2 := hk2.lt
        clear hb1 hb2 hb3 he he2
        go_enter Tryd.func25, Tryd.ntmps25
        go_wp2_with fail
        generalize (((w.alloc (.cells #[.int .i64 rc, .slice a ws.length cap] 25)).alloc (.cells #[.int .i64 r] 3)).alloc (.cells #[.int .i64 0, .slice none 0 0] 25)) = w2 at *
        refine (implTxnValid_any rc _ ws _ h true HV.out).mono ?_
        rintro e w3 ⟨rfl, hb3⟩
        replace hk1 := hk1.below hb3
        replace hk2 := hk2.below hb3
        replace hkr := hkr.below hb3
        replace h := h.below hb3
        replace hL := hL.below hb3
        replace hB := below_step hB hb3 hB.size
        have x0 := hkr.cell 0 rfl
        have q0 := hk1.cell 0 rfl
        have q1 := hk1.cell 1 rfl
        have hs3 := hb3.size
        clear hb3
        go_wp2_with fail
        first
          | refine (turned_no _ #[.pointer (some ⟨w.heap.size + 1, 0, none⟩)] (fun _ _ => by kernel_rfl) rc _ ws _ _ _ h hL hx (HD.out _ _ x0)).mono ?_
          | refine (turned_yes _ #[.pointer (some ⟨w.heap.size + 1, 0, none⟩)] (fun _ _ => by kernel_rfl) rc _ ws _ _ _ h hx (HD.out _ _ x0)).mono ?_
        rintro e w4 ⟨z, rfl, hz, hb4⟩
        obtain ⟨az, cz, hzz⟩ := own_form hz
        subst hzz
        replace hk2 := hk2.below hb4
        replace hB := below_step hB hb4 hB.size
        clear hb4 h hk1 hL HD q0 q1 x0
        have r0 := hk2.cell 0 rfl
        have r1 := hk2.cell 1 rfl
        have f0 := hk2.frozen 0
        have f1 := hk2.frozen 1
        first
          | have hfin := fin_op (rc := a1) hk2 rfl (by omega) hz (by omega) hB
          | have hfin := fin_op (rc := rc) hk2 rfl (by omega) hz (by omega) hB
        obtain ⟨e0, e1, ho2, hB2⟩ := hfin
        clear hk2 hB
        dsimp only at e0 e1 ho2 hB2 ⊢
        go_wp2_with fail
        first
          | exact bodyPost_ret (v := .tuple #[.agg #[.int .i64 rc, .slice az ws.length cz], .bool false]) (by simp [results, Tryd.results25, go_sem, e0, e1]) rfl ⟨_, rfl, ho2, hB2⟩
          | exact bodyPost_ret (v := .tuple #[.agg #[.int .i64 a1, .slice az l1.length cz], .bool true]) (by simp [results, Tryd.results25, go_sem, e0, e1]) rfl ⟨_, rfl, ho2, hB2⟩
end Go.Proofs.YtocinffmdciihaaDoor
