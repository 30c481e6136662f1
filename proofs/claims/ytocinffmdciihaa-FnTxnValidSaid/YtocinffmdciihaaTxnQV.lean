/-
  The walks of the reference's draws of transactions: DrawTxnValid.
-/
import Derived.Test.YtocinffmdciihaaTxnQ
namespace Go.Proofs.Ytocinffmdciihaa
open Go.RowKit
set_option linter.unusedVariables false


set_option maxHeartbeats 1000000 in
theorem DrawTxnValid_any (v : Value) (n : Nat) (w : World) {lo hi : Nat} (h : Bytes w lo hi v n) :
    Calls Try.prog 7 #[v] w (RetDrawT w) := by
  have hb0 : Below w.heap.size w (w.alloc (.cells #[.int .i64 0, .slice none 0 0] 25)) := (Below.refl _ _).alloc (Nat.le_refl _) _
  have hR := Blk.new w #[.int .i64 0, .slice none 0 0] 25
  replace h := h.below hb0
  have hl := hR.lt
  go_enter Try.func7, Try.ntmps7
  go_wp2_with fail
  generalize w.alloc (.cells #[.int .i64 0, .slice none 0 0] 25) = w0 at *
  refine (open_any v n _ h).mono ?_
  rintro e w1 ⟨rfl, hr1, hb1, hs1⟩
  replace hR := hR.below hb1
  have hB := below_step hb0 hb1 hb0.size
  clear hb1
  go_wp2_with fail
  refine (l92Txn_any _ 0 _ hr1 (by omega)).mono ?_
  rintro e w2 ⟨rc, ws, vs, rfl, rc0, rc1, l0, l1, hx, ho, hr2, hk2⟩
  obtain ⟨a, c, hv⟩ := own_form ho
  subst hv
  replace hR := hR.keep hk2 (.inl hl)
  have hs2 := hk2.size
  replace hB := hB.trans (hk2.below (B := w.heap.size) (by omega) (by omega))
  have hb3 : Below w2.heap.size w2 (w2.alloc (.cells #[.int .i64 rc, .slice a ws.length c] 25)) := (Below.refl _ _).alloc (Nat.le_refl _) _
  have hT := Blk.new w2 #[.int .i64 rc, .slice a ws.length c] 25
  have hgg := hr1.lt
  clear hr1 hk2
  as_aux_lemma =>
   go_wp2_with fail
   replace hR := hR.below hb3
   replace ho := IntsO.wide (lo' := w1.heap.size) (hi' := w2.heap.size) (IntsO.below ho hb3) (Nat.le_refl _) (Nat.le_refl _) hb3.size
   replace hr2 := hr2.below hb3
   replace hB := below_step hB hb3 hB.size
   have hs3 := hb3.size
   have hTl := hT.lt
   have hT2 := Nat.le_refl w2.heap.size
   clear hb3
   generalize w2.alloc (.cells #[.int .i64 rc, .slice a ws.length c] 25) = w3 at *
   generalize w2.heap.size = T at *
   refine (pick_any _ _ 4 _ hr2 (by omega) (by omega)).mono ?_
   rintro e w4 ⟨y, rfl, y0, y1, hr4, hk4⟩
   replace hR := hR.keep hk4 (.inl hl)
   replace hT := hT.keep hk4 (.inr (by omega))
   have hs4 := hk4.size
   replace hB := hB.trans (hk4.below (B := w.heap.size) (by omega) (by omega))
   replace ho := IntsO.keep ho hk4 (.inr (by omega))
   clear hk4 hr2
   by_cases hy : y = 0
   · subst hy
     as_aux_lemma =>
      go_wp2_with fail
      refine (pick_any _ _ 6 _ hr4 (by omega) (by omega)).mono ?_
      rintro e w5 ⟨z, rfl, z0, z1, hr5, hk5⟩
      replace hR := hR.keep hk5 (.inl hl)
      replace hT := hT.keep hk5 (.inr (by omega))
      have hs5 := hk5.size
      replace hB := hB.trans (hk5.below (B := w.heap.size) (by omega) (by omega))
      replace ho := IntsO.keep ho hk5 (.inr (by omega))
      clear hk5 hr4 hr5
      have x0 := hT.cell 0 rfl
      have xf := hT.frozen 0
      have hkT : Keep T (T + 1) w5 (w5.setCell ⟨T, 0, none⟩ (.int .i64 (z - 1))) := keep_setCell (p := ⟨T, 0, none⟩) (Keep.refl _ _ _) (Nat.le_refl _) (Nat.lt_succ_self _) _
      have hTX := hT.set 0 (.int .i64 (z - 1))
      have hR' := hR.keep hkT (.inl (by omega))
      have o0 := hTX.cell 0 rfl
      have o1 := hTX.cell 1 rfl
      have r0 := hR'.cell 0 rfl
      have r1 := hR'.cell 1 rfl
      have f0 := hR'.frozen 0
      have f1 := hR'.frozen 1
      have ho' := IntsO.wide (lo' := w1.heap.size) (hi' := (w5.setCell ⟨T, 0, none⟩ (.int .i64 (z - 1))).heap.size) (IntsO.keep ho hkT (.inl hT2)) (Nat.le_refl _) (by have := hkT.size; omega) (Nat.le_refl _)
      have hB' := hB.trans (hkT.below (B := w.heap.size) (by omega) (by omega))
      obtain ⟨e0, e1, ho2, hB2⟩ := fin_op (rc := z - 1) hR' rfl (Nat.le_refl _) ho' (by omega) hB'
      clear hR hR' hT hTX hkT ho ho' hB hB'
      go_wp2_with fail
      exact bodyPost_ret (v := .agg #[.int .i64 (z - 1), .slice a ws.length c]) (by simp [results, Try.results7, go_sem, e0, e1]) rfl ⟨_, ws, _, rfl, by omega, by omega, l0, l1, hx, ho2, hB2⟩
   · have hyb : (y == 0) = false := beq_eq_false_iff_ne.2 hy
     have o0 := hT.cell 0 rfl
     have o1 := hT.cell 1 rfl
     have r0 := hR.cell 0 rfl
     have r1 := hR.cell 1 rfl
     have f0 := hR.frozen 0
     have f1 := hR.frozen 1
     have ho' := IntsO.wide (lo' := w1.heap.size) (hi' := w4.heap.size) ho (Nat.le_refl _) (by omega) (Nat.le_refl _)
     obtain ⟨e0, e1, ho2, hB2⟩ := fin_op (rc := rc) hR rfl (Nat.le_refl _) ho' (by omega) hB
     clear hR hT ho ho' hB hr4
     go_wp2_with fail
     exact bodyPost_ret (v := .agg #[.int .i64 rc, .slice a ws.length c]) (by simp [results, Try.results7, go_sem, e0, e1]) rfl ⟨_, ws, _, rfl, by omega, by omega, l0, l1, hx, ho2, hB2⟩
end Go.Proofs.Ytocinffmdciihaa
