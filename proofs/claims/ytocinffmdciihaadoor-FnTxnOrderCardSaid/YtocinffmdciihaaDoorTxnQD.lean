/-
  The walks of the reference's draws of transactions: DrawTxnStage, DrawTxnFinish, DrawTxnRecover, DrawTxnWrite.
-/
import Derived.Test.YtocinffmdciihaaDoorTxnQ
namespace Go.Proofs.YtocinffmdciihaaDoor
open Go.RowKit
set_option linter.unusedVariables false


set_option maxHeartbeats 1000000 in
theorem DrawTxnStage_any (v : Value) (n : Nat) (w : World) {lo hi : Nat} (h : Bytes w lo hi v n) :
    Calls Tryd.prog 17 #[v] w (RetDrawT w) := by
  have hb0 : Below w.heap.size w (w.alloc (.cells #[.int .i64 0, .slice none 0 0] 25)) := (Below.refl _ _).alloc (Nat.le_refl _) _
  have hR := Blk.new w #[.int .i64 0, .slice none 0 0] 25
  replace h := h.below hb0
  have hl := hR.lt
  go_enter Tryd.func17, Tryd.ntmps17
  go_wp2_with fail
  generalize w.alloc (.cells #[.int .i64 0, .slice none 0 0] 25) = w0 at *
  refine (open_any v n _ h).mono ?_
  rintro e w1 ⟨rfl, hr1, hb1, hs1⟩
  replace hR := hR.below hb1
  have hB := below_step hb0 hb1 hb0.size
  clear hb1
  go_wp2_with fail
  refine (l92Txn_any _ 0 _ hr1 (by omega)).mono ?_
  rintro e w2 ⟨rc, ws, vs, rfl, rc0, rc1, l0, l1, hx, ho, hr2, hk2⟩
  obtain ⟨a, c, hv⟩ := own_form ho
  subst hv
  replace hR := hR.keep hk2 (.inl hl)
  have hs2 := hk2.size
  replace hB := hB.trans (hk2.below (B := w.heap.size) (by omega) (by omega))
  have r0 := hR.cell 0 rfl
  have r1 := hR.cell 1 rfl
  have f0 := hR.frozen 0
  have f1 := hR.frozen 1
  obtain ⟨e0, e1, ho2, hB2⟩ := fin_op (rc := rc) hR rfl (Nat.le_refl _) ho (by omega) hB
  clear hR hB ho hr2 hr1 hk2
  go_wp2_with fail
  exact bodyPost_ret (v := .agg #[.int .i64 rc, .slice a ws.length c]) (by simp [results, Tryd.results17, go_sem, e0, e1]) rfl ⟨_, ws, _, rfl, by omega, by omega, l0, l1, hx, ho2, hB2⟩

set_option maxHeartbeats 1000000 in
theorem DrawTxnFinish_any (v : Value) (n : Nat) (w : World) {lo hi : Nat} (h : Bytes w lo hi v n) :
    Calls Tryd.prog 27 #[v] w (RetDrawT w) := by
  have hb0 : Below w.heap.size w (w.alloc (.cells #[.int .i64 0, .slice none 0 0] 25)) := (Below.refl _ _).alloc (Nat.le_refl _) _
  have hR := Blk.new w #[.int .i64 0, .slice none 0 0] 25
  replace h := h.below hb0
  have hl := hR.lt
  go_enter Tryd.func27, Tryd.ntmps27
  go_wp2_with fail
  generalize w.alloc (.cells #[.int .i64 0, .slice none 0 0] 25) = w0 at *
  refine (open_any v n _ h).mono ?_
  rintro e w1 ⟨rfl, hr1, hb1, hs1⟩
  replace hR := hR.below hb1
  have hB := below_step hb0 hb1 hb0.size
  clear hb1
  go_wp2_with fail
  refine (l92Txn_any _ 0 _ hr1 (by omega)).mono ?_
  rintro e w2 ⟨rc, ws, vs, rfl, rc0, rc1, l0, l1, hx, ho, hr2, hk2⟩
  obtain ⟨a, c, hv⟩ := own_form ho
  subst hv
  replace hR := hR.keep hk2 (.inl hl)
  have hs2 := hk2.size
  replace hB := hB.trans (hk2.below (B := w.heap.size) (by omega) (by omega))
  have r0 := hR.cell 0 rfl
  have r1 := hR.cell 1 rfl
  have f0 := hR.frozen 0
  have f1 := hR.frozen 1
  obtain ⟨e0, e1, ho2, hB2⟩ := fin_op (rc := rc) hR rfl (Nat.le_refl _) ho (by omega) hB
  clear hR hB ho hr2 hr1 hk2
  go_wp2_with fail
  exact bodyPost_ret (v := .agg #[.int .i64 rc, .slice a ws.length c]) (by simp [results, Tryd.results27, go_sem, e0, e1]) rfl ⟨_, ws, _, rfl, by omega, by omega, l0, l1, hx, ho2, hB2⟩

set_option maxHeartbeats 1000000 in
theorem DrawTxnRecover_any (v : Value) (n : Nat) (w : World) {lo hi : Nat} (h : Bytes w lo hi v n) :
    Calls Tryd.prog 36 #[v] w (RetDrawT w) := by
  have hb0 : Below w.heap.size w (w.alloc (.cells #[.int .i64 0, .slice none 0 0] 25)) := (Below.refl _ _).alloc (Nat.le_refl _) _
  have hR := Blk.new w #[.int .i64 0, .slice none 0 0] 25
  replace h := h.below hb0
  have hl := hR.lt
  go_enter Tryd.func36, Tryd.ntmps36
  go_wp2_with fail
  generalize w.alloc (.cells #[.int .i64 0, .slice none 0 0] 25) = w0 at *
  refine (open_any v n _ h).mono ?_
  rintro e w1 ⟨rfl, hr1, hb1, hs1⟩
  replace hR := hR.below hb1
  have hB := below_step hb0 hb1 hb0.size
  clear hb1
  go_wp2_with fail
  refine (l92Txn_any _ 0 _ hr1 (by omega)).mono ?_
  rintro e w2 ⟨rc, ws, vs, rfl, rc0, rc1, l0, l1, hx, ho, hr2, hk2⟩
  obtain ⟨a, c, hv⟩ := own_form ho
  subst hv
  replace hR := hR.keep hk2 (.inl hl)
  have hs2 := hk2.size
  replace hB := hB.trans (hk2.below (B := w.heap.size) (by omega) (by omega))
  have r0 := hR.cell 0 rfl
  have r1 := hR.cell 1 rfl
  have f0 := hR.frozen 0
  have f1 := hR.frozen 1
  obtain ⟨e0, e1, ho2, hB2⟩ := fin_op (rc := rc) hR rfl (Nat.le_refl _) ho (by omega) hB
  clear hR hB ho hr2 hr1 hk2
  go_wp2_with fail
  exact bodyPost_ret (v := .agg #[.int .i64 rc, .slice a ws.length c]) (by simp [results, Tryd.results36, go_sem, e0, e1]) rfl ⟨_, ws, _, rfl, by omega, by omega, l0, l1, hx, ho2, hB2⟩

set_option maxHeartbeats 1000000 in
theorem DrawTxnWrite_any (v : Value) (n : Nat) (w : World) {lo hi : Nat} (h : Bytes w lo hi v n) :
    Calls Tryd.prog 23 #[v] w fun e w' => ∃ rc ws vs r, e = .returned (.tuple #[.agg #[.int .i64 rc, vs], .int .i64 r]) ∧ -1 ≤ rc ∧ rc ≤ 4 ∧ 1 ≤ ws.length ∧ ws.length ≤ 4 ∧ (∀ x ∈ ws, 0 ≤ x ∧ x ≤ 4) ∧ -1 ≤ r ∧ r ≤ 5 ∧ IntsO w' w.heap.size w'.heap.size vs ws ∧ Below w.heap.size w w' := by
  have hb0 : Below w.heap.size w (w.alloc (.cells #[.int .i64 0, .slice none 0 0] 25)) := (Below.refl _ _).alloc (Nat.le_refl _) _
  have hR := Blk.new w #[.int .i64 0, .slice none 0 0] 25
  replace h := h.below hb0
  have hl := hR.lt
  go_enter Tryd.func23, Tryd.ntmps23
  go_wp2_with fail
  generalize w.alloc (.cells #[.int .i64 0, .slice none 0 0] 25) = w0 at *
  refine (open_any v n _ h).mono ?_
  rintro e w1 ⟨rfl, hr1, hb1, hs1⟩
  replace hR := hR.below hb1
  have hB := below_step hb0 hb1 hb0.size
  clear hb1
  go_wp2_with fail
  refine (l92Txn_any _ 0 _ hr1 (by omega)).mono ?_
  rintro e w2 ⟨rc, ws, vs, rfl, rc0, rc1, l0, l1, hx, ho, hr2, hk2⟩
  obtain ⟨a, c, hv⟩ := own_form ho
  subst hv
  replace hR := hR.keep hk2 (.inl hl)
  have hs2 := hk2.size
  replace hB := hB.trans (hk2.below (B := w.heap.size) (by omega) (by omega))
  clear hr1 hk2
  as_aux_lemma =>
   go_wp2_with fail
   refine (pick_any _ _ 6 _ hr2 (by omega) (by omega)).mono ?_
   rintro e w3 ⟨y, rfl, y0, y1, hr3, hk3⟩
   replace hR := hR.keep hk3 (.inl hl)
   have hs3 := hk3.size
   replace hB := hB.trans (hk3.below (B := w.heap.size) (by omega) (by omega))
   replace ho := IntsO.wide (lo' := w1.heap.size) (hi' := w3.heap.size) (IntsO.keep ho hk3 (.inr (by omega))) (Nat.le_refl _) hs3 (Nat.le_refl _)
   have r0 := hR.cell 0 rfl
   have r1 := hR.cell 1 rfl
   have f0 := hR.frozen 0
   have f1 := hR.frozen 1
   obtain ⟨e0, e1, ho2, hB2⟩ := fin_op (rc := rc) hR rfl (Nat.le_refl _) ho (by omega) hB
   clear hR hB ho hr2 hr3 hk3
   go_wp2_with fail
   exact bodyPost_ret (v := .tuple #[.agg #[.int .i64 rc, .slice a ws.length c], .int .i64 (y - 1)]) (by simp [results, Tryd.results23, go_sem, e0, e1]) rfl ⟨_, ws, _, _, rfl, by omega, by omega, l0, l1, hx, by omega, by omega, ho2, hB2⟩
end Go.Proofs.YtocinffmdciihaaDoor
