/-
  The walk of the laws' txnStep: one of the steps that a coordinator or a recovering node can take.
-/
import Derived.Test.YtocinffmdciihaaDoorTxnI
import Derived.Test.YtocinffmdciihaaDoorTxnK
namespace Go.Proofs.YtocinffmdciihaaDoor
open Go.RowKit
set_option linter.unusedVariables false

def stepR (rc : Int) (ws : List Int) (n : Int) : Int × List Int :=
  if n % 7 = 0 then ((stageR rc ws).1, (stageR rc ws).2.1)
  else if n % 7 = 1 then ((finishR rc ws).1, (finishR rc ws).2.1)
  else if n % 7 = 2 then ((recoverR rc ws).1, (recoverR rc ws).2.1)
  else if n % 7 - 3 < ws.length then ((writeR rc ws (n % 7 - 3)).1, (writeR rc ws (n % 7 - 3)).2.1)
  else (rc, ws)

/-- what txnStep hands back: the writes lie where they lay, or in new memory -/
def RetStep (w : World) (lo hi : Nat) (t : Int × List Int) (e : Ending) (w' : World) : Prop :=
  ∃ a c lo' hi', e = .returned (.agg #[.int .i64 t.1, .slice a t.2.length c]) ∧ Ints w' lo' hi' (.slice a t.2.length c) t.2 ∧ ((lo' = lo ∧ hi' = hi) ∨ w.heap.size ≤ lo') ∧ Below w.heap.size w w'

/-- the answer of a transition, laid into the block X, then into the result's block R -/
theorem step_fin {w w4 : World} {R X L : Nat} {a : Int} {y : Value} {l : List Int} {c0 c1 c2 c3 : Value} (hX : Blk w4 X #[c0, c1] 25) (hR : Blk w4 R #[c2, c3] 25) (hRl : w.heap.size ≤ R) (hRX : R < X) (ho : IntsO w4 L w4.heap.size y l) (hXL : X < L) (hB : Below w.heap.size w w4) :
    let w5 := (w4.setCell ⟨X, 0, none⟩ (.int .i64 a)).setCell ⟨X, 1, none⟩ y
    let w6 := (w5.setCell ⟨R, 0, none⟩ (.int .i64 a)).setCell ⟨R, 1, none⟩ y
    w5.cell? ⟨X, 0, none⟩ = some (.int .i64 a) ∧ w5.cell? ⟨X, 1, none⟩ = some y ∧ w5.cell? ⟨R, 0, none⟩ = some c2 ∧ w5.cell? ⟨R, 1, none⟩ = some c3 ∧ w5.frozen? ⟨R, 0, none⟩ = false ∧ w5.frozen? ⟨R, 1, none⟩ = false ∧
    w6.cell? ⟨R, 0, none⟩ = some (.int .i64 a) ∧ w6.cell? ⟨R, 1, none⟩ = some y ∧ Ints w6 L w6.heap.size y l ∧ Below w.heap.size w w6 := by
  intro w5 w6
  have hl := hX.lt
  have hk : Keep X (X + 1) w4 w5 := keep_set2 (Keep.refl _ _ _) (Nat.le_refl _) (Nat.lt_succ_self _) _ _
  have bX := (hX.set 0 (.int .i64 a)).set 1 y
  have bR := hR.keep hk (.inl hRX)
  have ho5 := IntsO.wide (lo' := L) (hi' := w5.heap.size) (IntsO.keep ho hk (.inr hXL)) (Nat.le_refl _) hk.size (Nat.le_refl _)
  have hk6 : Keep R (R + 1) w5 w6 := keep_set2 (Keep.refl _ _ _) (Nat.le_refl _) (Nat.lt_succ_self _) _ _
  have bR6 := (bR.set 0 (.int .i64 a)).set 1 y
  have hB5 := hB.trans (hk.below (B := w.heap.size) (by omega) (by omega))
  exact ⟨bX.cell 0 rfl, bX.cell 1 rfl, bR.cell 0 rfl, bR.cell 1 rfl, bR.frozen 0, bR.frozen 1, bR6.cell 0 rfl, bR6.cell 1 rfl,
    (IntsO.wide (lo' := L) (hi' := w6.heap.size) (IntsO.keep ho5 hk6 (.inr (by omega))) (Nat.le_refl _) hk6.size (Nat.le_refl _)).ints, hB5.trans (hk6.below hRl (by have := hk.size; omega))⟩

set_option maxRecDepth 100000 in
set_option maxHeartbeats 4000000 in
theorem txnStep_any (rc : Int) (v : Value) (ws : List Int) (n : Int) (w : World) {lo hi : Nat} (h : Ints w lo hi v ws) (hL : Laid w) (n0 : 0 ≤ n) (n1 : n ≤ 1000000000) :
    Calls Tryd.prog 41 #[.agg #[.int .i64 rc, v], .int .i64 n] w (RetStep w lo hi (stepR rc ws n)) := by
  obtain ⟨a, cap, hvv, hn, hcell⟩ := h.open
  clear hcell
  subst hvv
  have hhi := h.2.1
  have h00 := Lib.hid h
  have hb1 : Below w.heap.size w (w.alloc (.cells #[.int .i64 rc, .slice a ws.length cap] 25)) := (Below.refl _ _).alloc (Nat.le_refl _) _
  have hk1 := Blk.new w #[.int .i64 rc, .slice a ws.length cap] 25
  have hb2 : Below (w.alloc (.cells #[.int .i64 rc, .slice a ws.length cap] 25)).heap.size (w.alloc (.cells #[.int .i64 rc, .slice a ws.length cap] 25)) ((w.alloc (.cells #[.int .i64 rc, .slice a ws.length cap] 25)).alloc (.cells #[.int .i64 0, .slice none 0 0] 25)) := (Below.refl _ _).alloc (Nat.le_refl _) _
  have hk2 := Blk.new (w.alloc (.cells #[.int .i64 rc, .slice a ws.length cap] 25)) #[.int .i64 0, .slice none 0 0] 25
  have hb3 : Below ((w.alloc (.cells #[.int .i64 rc, .slice a ws.length cap] 25)).alloc (.cells #[.int .i64 0, .slice none 0 0] 25)).heap.size ((w.alloc (.cells #[.int .i64 rc, .slice a ws.length cap] 25)).alloc (.cells #[.int .i64 0, .slice none 0 0] 25)) (((w.alloc (.cells #[.int .i64 rc, .slice a ws.length cap] 25)).alloc (.cells #[.int .i64 0, .slice none 0 0] 25)).alloc (.cells #[.int .i64 rc, .slice a ws.length cap] 25)) := (Below.refl _ _).alloc (Nat.le_refl _) _
  have hk3 := Blk.new ((w.alloc (.cells #[.int .i64 rc, .slice a ws.length cap] 25)).alloc (.cells #[.int .i64 0, .slice none 0 0] 25)) #[.int .i64 rc, .slice a ws.length cap] 25
  have he : (w.alloc (.cells #[.int .i64 rc, .slice a ws.length cap] 25)).heap.size = w.heap.size + 1 := by simp
  have he2 : ((w.alloc (.cells #[.int .i64 rc, .slice a ws.length cap] 25)).alloc (.cells #[.int .i64 0, .slice none 0 0] 25)).heap.size = w.heap.size + 1 + 1 := by simp
  rw [he2] at hk3
  rw [he] at hk2
  replace hk1 := (hk1.below hb2).below hb3
  replace hk2 := hk2.below hb3
  replace h := ((h.below hb1).below hb2).below hb3
  have hB := below_step (below_step hb1 hb2 hb1.size) hb3 (below_step hb1 hb2 hb1.size).size
  replace hL := hL.below hB
  have hs2 := hB.size
  have hl3 := hk3.lt
  clear hb1 hb2 hb3 he he2
  have q0 := hk1.cell 0 rfl
  have q1 := hk1.cell 1 rfl
  have htm : n.tmod 7 = n % 7 := Int.tmod_eq_emod_of_nonneg n0
  obtain ⟨m, hm⟩ : ∃ m, n % 7 = m := ⟨_, rfl⟩
  have m0 : 0 ≤ m := by omega
  have m1 : m ≤ 6 := by omega
  rw [hm] at htm
  have HSR : Hid (stepR rc ws n = (if m = 0 then ((stageR rc ws).1, (stageR rc ws).2.1) else if m = 1 then ((finishR rc ws).1, (finishR rc ws).2.1) else if m = 2 then ((recoverR rc ws).1, (recoverR rc ws).2.1) else if m - 3 < ws.length then ((writeR rc ws (m - 3)).1, (writeR rc ws (m - 3)).2.1) else (rc, ws))) := by
    show _ = _
    unfold stepR
    rw [hm]
  by_cases h0 : m = 0
  · subst h0
    obtain ⟨a1, l1, b1, hT⟩ : ∃ a1 l1 b1, stageR rc ws = (a1, l1, b1) := ⟨_, _, _, rfl⟩
    have HT := Lib.hid hT
    have HE := Lib.hid (show stepR rc ws n = (a1, l1) by rw [HSR.out]; rw [if_pos rfl]; rw [hT])
    clear hT
    rw [HE.out]
    go_enter Tryd.func41, Tryd.ntmps41
    go_wp2_with fail
    generalize (((w.alloc (.cells #[.int .i64 rc, .slice a ws.length cap] 25)).alloc (.cells #[.int .i64 0, .slice none 0 0] 25)).alloc (.cells #[.int .i64 rc, .slice a ws.length cap] 25)) = w3 at *
    refine (opOf (implTxnStage_any rc _ ws _ h hL) HT.out).mono ?_
    rintro e w4 ⟨y, rfl, ho, hb4⟩
    obtain ⟨ay, cy, hy⟩ := own_form ho
    subst hy
    have hk2' := hk2.below hb4
    have hk3' := hk3.below hb4
    have hB' := below_step hB hb4 hB.size
    have x0 := hk3'.cell 0 rfl
    have x1 := hk3'.cell 1 rfl
    have xf0 := hk3'.frozen 0
    have xf1 := hk3'.frozen 1
    obtain ⟨p0, p1, p2, p3, p4, p5, e0, e1, ii, hBB⟩ := step_fin (a := a1) hk3' hk2' (Nat.le_succ _) (Nat.lt_succ_self _) ho hl3 hB'
    clear hk2' hk3' hB' ho hb4 hk1 hk2 hk3 hB h
    go_wp2_with fail
    exact bodyPost_ret (v := .agg #[.int .i64 a1, .slice ay l1.length cy]) (by simp [results, Tryd.results41, go_sem, e0, e1]) rfl ⟨_, _, _, _, rfl, ii, .inr hs2, hBB⟩
  by_cases h1 : m = 1
  · subst h1
    obtain ⟨a1, l1, b1, hT⟩ : ∃ a1 l1 b1, finishR rc ws = (a1, l1, b1) := ⟨_, _, _, rfl⟩
    have HT := Lib.hid hT
    have HE := Lib.hid (show stepR rc ws n = (a1, l1) by rw [HSR.out]; rw [if_neg (by omega), if_pos rfl]; rw [hT])
    clear hT
    rw [HE.out]
    go_enter Tryd.func41, Tryd.ntmps41
    go_wp2_with fail
    generalize (((w.alloc (.cells #[.int .i64 rc, .slice a ws.length cap] 25)).alloc (.cells #[.int .i64 0, .slice none 0 0] 25)).alloc (.cells #[.int .i64 rc, .slice a ws.length cap] 25)) = w3 at *
    refine (opOf (implTxnFinish_any rc _ ws _ h hL) HT.out).mono ?_
    rintro e w4 ⟨y, rfl, ho, hb4⟩
    obtain ⟨ay, cy, hy⟩ := own_form ho
    subst hy
    have hk2' := hk2.below hb4
    have hk3' := hk3.below hb4
    have hB' := below_step hB hb4 hB.size
    have x0 := hk3'.cell 0 rfl
    have x1 := hk3'.cell 1 rfl
    have xf0 := hk3'.frozen 0
    have xf1 := hk3'.frozen 1
    obtain ⟨p0, p1, p2, p3, p4, p5, e0, e1, ii, hBB⟩ := step_fin (a := a1) hk3' hk2' (Nat.le_succ _) (Nat.lt_succ_self _) ho hl3 hB'
    clear hk2' hk3' hB' ho hb4 hk1 hk2 hk3 hB h
    go_wp2_with fail
    exact bodyPost_ret (v := .agg #[.int .i64 a1, .slice ay l1.length cy]) (by simp [results, Tryd.results41, go_sem, e0, e1]) rfl ⟨_, _, _, _, rfl, ii, .inr hs2, hBB⟩
  by_cases h2 : m = 2
  · subst h2
    obtain ⟨a1, l1, b1, hT⟩ : ∃ a1 l1 b1, recoverR rc ws = (a1, l1, b1) := ⟨_, _, _, rfl⟩
    have HT := Lib.hid hT
    have HE := Lib.hid (show stepR rc ws n = (a1, l1) by rw [HSR.out]; rw [if_neg (by omega), if_neg (by omega), if_pos rfl]; rw [hT])
    clear hT
    rw [HE.out]
    go_enter Tryd.func41, Tryd.ntmps41
    go_wp2_with fail
    generalize (((w.alloc (.cells #[.int .i64 rc, .slice a ws.length cap] 25)).alloc (.cells #[.int .i64 0, .slice none 0 0] 25)).alloc (.cells #[.int .i64 rc, .slice a ws.length cap] 25)) = w3 at *
    refine (opOf (implTxnRecover_any rc _ ws _ h hL) HT.out).mono ?_
    rintro e w4 ⟨y, rfl, ho, hb4⟩
    obtain ⟨ay, cy, hy⟩ := own_form ho
    subst hy
    have hk2' := hk2.below hb4
    have hk3' := hk3.below hb4
    have hB' := below_step hB hb4 hB.size
    have x0 := hk3'.cell 0 rfl
    have x1 := hk3'.cell 1 rfl
    have xf0 := hk3'.frozen 0
    have xf1 := hk3'.frozen 1
    obtain ⟨p0, p1, p2, p3, p4, p5, e0, e1, ii, hBB⟩ := step_fin (a := a1) hk3' hk2' (Nat.le_succ _) (Nat.lt_succ_self _) ho hl3 hB'
    clear hk2' hk3' hB' ho hb4 hk1 hk2 hk3 hB h
    go_wp2_with fail
    exact bodyPost_ret (v := .agg #[.int .i64 a1, .slice ay l1.length cy]) (by simp [results, Tryd.results41, go_sem, e0, e1]) rfl ⟨_, _, _, _, rfl, ii, .inr hs2, hBB⟩
  have hb0 : (m == 0) = false := beq_eq_false_iff_ne.2 h0
  have hb1' : (m == 1) = false := beq_eq_false_iff_ne.2 h1
  have hb2' : (m == 2) = false := beq_eq_false_iff_ne.2 h2
  have hwm : IntKind.i64.wrap (m - 3) = m - 3 := IntWalk.i64_in _ ⟨by omega, by omega⟩
  have hne : ¬ m = 0 ∧ ¬ m = 1 ∧ ¬ m = 2 := ⟨h0, h1, h2⟩
  have HNE := Lib.hid hne
  clear hne h0 h1 h2
  by_cases h3 : m - 3 < ws.length
  · skip
    obtain ⟨a1, l1, b1, hT⟩ : ∃ a1 l1 b1, writeR rc ws (m - 3) = (a1, l1, b1) := ⟨_, _, _, rfl⟩
    have HT := Lib.hid hT
    have HE := Lib.hid (show stepR rc ws n = (a1, l1) by rw [HSR.out]; rw [if_neg HNE.out.1, if_neg HNE.out.2.1, if_neg HNE.out.2.2, if_pos h3]; rw [hT])
    clear hT
    rw [HE.out]
    go_enter Tryd.func41, Tryd.ntmps41
    go_wp2_with fail
    generalize (((w.alloc (.cells #[.int .i64 rc, .slice a ws.length cap] 25)).alloc (.cells #[.int .i64 0, .slice none 0 0] 25)).alloc (.cells #[.int .i64 rc, .slice a ws.length cap] 25)) = w3 at *
    refine (opOf (implTxnWrite_any rc _ ws (m - 3) _ h hL) HT.out).mono ?_
    rintro e w4 ⟨y, rfl, ho, hb4⟩
    obtain ⟨ay, cy, hy⟩ := own_form ho
    subst hy
    have hk2' := hk2.below hb4
    have hk3' := hk3.below hb4
    have hB' := below_step hB hb4 hB.size
    have x0 := hk3'.cell 0 rfl
    have x1 := hk3'.cell 1 rfl
    have xf0 := hk3'.frozen 0
    have xf1 := hk3'.frozen 1
    obtain ⟨p0, p1, p2, p3, p4, p5, e0, e1, ii, hBB⟩ := step_fin (a := a1) hk3' hk2' (Nat.le_succ _) (Nat.lt_succ_self _) ho hl3 hB'
    clear hk2' hk3' hB' ho hb4 hk1 hk2 hk3 hB h
    go_wp2_with fail
    exact bodyPost_ret (v := .agg #[.int .i64 a1, .slice ay l1.length cy]) (by simp [results, Tryd.results41, go_sem, e0, e1]) rfl ⟨_, _, _, _, rfl, ii, .inr hs2, hBB⟩
  · have HE := Lib.hid (show stepR rc ws n = (rc, ws) by rw [HSR.out, if_neg HNE.out.1, if_neg HNE.out.2.1, if_neg HNE.out.2.2, if_neg h3])
    rw [HE.out]
    have g1 : Below w.heap.size w (w.alloc (.cells #[.int .i64 rc, .slice a ws.length cap] 25)) := (Below.refl _ _).alloc (Nat.le_refl _) _
    have g2 : Below (w.alloc (.cells #[.int .i64 rc, .slice a ws.length cap] 25)).heap.size (w.alloc (.cells #[.int .i64 rc, .slice a ws.length cap] 25)) ((w.alloc (.cells #[.int .i64 rc, .slice a ws.length cap] 25)).alloc (.cells #[.int .i64 rc, .slice a ws.length cap] 25)) := (Below.refl _ _).alloc (Nat.le_refl _) _
    have g3 : Below ((w.alloc (.cells #[.int .i64 rc, .slice a ws.length cap] 25)).alloc (.cells #[.int .i64 rc, .slice a ws.length cap] 25)).heap.size ((w.alloc (.cells #[.int .i64 rc, .slice a ws.length cap] 25)).alloc (.cells #[.int .i64 rc, .slice a ws.length cap] 25)) (((w.alloc (.cells #[.int .i64 rc, .slice a ws.length cap] 25)).alloc (.cells #[.int .i64 rc, .slice a ws.length cap] 25)).alloc (.cells #[.int .i64 rc, .slice a ws.length cap] 25)) := (Below.refl _ _).alloc (Nat.le_refl _) _
    have ii := ((h00.out.below g1).below g2).below g3
    have hBB := below_step (below_step g1 g2 g1.size) g3 (below_step g1 g2 g1.size).size
    clear g1 g2 g3 hk1 hk2 hk3 hB h
    go_enter Tryd.func41, Tryd.ntmps41
    go_wp2_with fail
    exact bodyPost_ret (v := .agg #[.int .i64 rc, .slice a ws.length cap]) (by simp [results, Tryd.results41, go_sem]) rfl ⟨_, _, _, _, rfl, ii, .inl ⟨rfl, rfl⟩, hBB⟩
end Go.Proofs.YtocinffmdciihaaDoor
