/-
  The transitions of the program's transactions: what each does to the transaction that a pointer names.
-/
import Derived.Test.YtocinffmdciihaaDoorTxnC
import Derived.Test.YtocinffmdciihaaDoorTxnO
import Derived.Test.YtocinffmdciihaaDoorAs
namespace Go.Proofs.YtocinffmdciihaaDoor
open Go.RowKit
set_option linter.unusedVariables false

/-- A transition at the transaction in block b with the writes vs: illegal: an error of the program's own, nothing has turned; legal: no error, the block and the writes hold what is told. -/
def Turned (b lo hi : Nat) (vs : Value) (t : Int × List Int × Bool) (w : World) (e : Ending) (w' : World) : Prop :=
  match t with
  | (_, _, false) => ∃ p, e = .returned (.iface 66 (.pointer (some p))) ∧ Below w.heap.size w w'
  | (rc', ws', true) => e = .returned .nilIface ∧ Blk w' b #[.int .i64 rc', vs] 25 ∧ IntsO w' lo hi vs ws' ∧ ∃ w1, Keep lo hi w w1 ∧ Keep b (b + 1) w1 w'

section
variable {w w' : World} {b lo hi : Nat} {vs : Value} {rc : Int} {ws : List Int}
/-- only the record is set -/
theorem turned_rec (hb : Blk w b #[.int .i64 rc, vs] 25) (ho : IntsO w lo hi vs ws) (hs : hi ≤ b ∨ b < lo) (hw : Below w.heap.size w w') (r : Int) :
    Turned b lo hi vs (r, ws, true) w (.returned .nilIface) (w'.setCell ⟨b, 0, none⟩ (.int .i64 r)) := by
  have hk : Keep b (b + 1) w' (w'.setCell ⟨b, 0, none⟩ (.int .i64 r)) := keep_setCell (p := ⟨b, 0, none⟩) (Keep.refl _ _ _) (Nat.le_refl _) (Nat.lt_succ_self _) _
  exact ⟨rfl, (hb.below hw).set 0 _, IntsO.keep (IntsO.below ho hw) hk (by omega), w', Keep.of_below hw _ _, hk⟩
theorem turned_err (p : Addr) (a : Int) (l : List Int) (hw : Below w.heap.size w w') : Turned b lo hi vs (a, l, false) w (.returned (.iface 66 (.pointer (some p)))) w' := ⟨p, rfl, hw⟩
end

set_option maxHeartbeats 1000000 in
theorem stage_any (b lo hi : Nat) (vs : Value) (rc : Int) (ws : List Int) (w : World) (hb : Blk w b #[.int .i64 rc, vs] 25) (ho : IntsO w lo hi vs ws) (hs : hi ≤ b ∨ b < lo) (hl : ws.length ≤ 1000) :
    Calls Tryd.prog 46 #[.pointer (some ⟨b, 0, none⟩)] w (Turned b lo hi vs (stageT rc ws) w) := by
  have q0 := hb.cell 0 rfl
  have f0 := hb.frozen 0
  have HF := Lib.hid (turned_rec hb ho hs (Below.refl _ _) 1)
  cases h0 : (rc == 0)
  · have HT := Lib.hid (show stageT rc ws = (rc, ws, false) by simp [stageT, h0])
    go_enter Tryd.func46, Tryd.ntmps46
    go_wp2_with fail
    go_ret
    rw [HT.out]
    exact turned_err _ _ _ ((Below.refl _ _).alloc (Nat.le_refl _) _)
  · have HT := Lib.hid (show stageT rc ws = (1, ws, true) by simp [stageT, h0])
    go_enter Tryd.func46, Tryd.ntmps46
    go_wp2_with fail
    go_ret
    rw [HT.out]
    exact HF.out

set_option maxHeartbeats 1000000 in
theorem finish_any (b lo hi : Nat) (vs : Value) (rc : Int) (ws : List Int) (w : World) (hb : Blk w b #[.int .i64 rc, vs] 25) (ho : IntsO w lo hi vs ws) (hs : hi ≤ b ∨ b < lo) (hl : ws.length ≤ 1000) :
    Calls Tryd.prog 55 #[.pointer (some ⟨b, 0, none⟩)] w (Turned b lo hi vs (finishT rc ws) w) := by
  have q0 := hb.cell 0 rfl
  have q1 := hb.cell 1 rfl
  have f0 := hb.frozen 0
  by_cases h1 : rc = 1
  · subst h1
    cases hf : fullW ws
    · have HF := Lib.hid hf
      have HT := Lib.hid (show finishT 1 ws = (1, ws, false) by simp [finishT, hf]); clear hf
      go_enter Tryd.func55, Tryd.ntmps55
      go_wp2_with fail
      refine (full_any _ vs ws _ ho.ints false HF.out).mono ?_
      rintro e w1 ⟨rfl, hb1⟩
      go_wp2_with fail
      go_ret
      rw [HT.out]
      exact turned_err _ _ _ (hb1.alloc hb1.size _)
    · have HF := Lib.hid hf
      have HT := Lib.hid (show finishT 1 ws = (2, ws, true) by simp [finishT, hf]); clear hf
      go_enter Tryd.func55, Tryd.ntmps55
      go_wp2_with fail
      refine (full_any _ vs ws _ ho.ints true HF.out).mono ?_
      rintro e w1 ⟨rfl, hb1⟩
      have z0 := (hb.below hb1).cell 0 rfl
      have zf := (hb.below hb1).frozen 0
      go_wp2_with fail
      go_ret
      rw [HT.out]
      exact turned_rec hb ho hs hb1 2
  · have h1b : (rc != 1) = true := by simp [h1]
    have HT := Lib.hid (show finishT rc ws = (rc, ws, false) by simp [finishT, h1])
    clear h1
    go_enter Tryd.func55, Tryd.ntmps55
    go_wp2_with fail
    go_ret
    rw [HT.out]
    exact turned_err _ _ _ ((Below.refl _ _).alloc (Nat.le_refl _) _)

set_option maxHeartbeats 1000000 in
theorem write_any (b lo hi : Nat) (vs : Value) (rc : Int) (ws : List Int) (r : Int) (w : World) (hb : Blk w b #[.int .i64 rc, vs] 25) (ho : IntsO w lo hi vs ws) (hs : hi ≤ b ∨ b < lo) (hl : ws.length ≤ 1000) (r0 : 0 ≤ r) (r1 : r < ws.length) :
    Calls Tryd.prog 51 #[.pointer (some ⟨b, 0, none⟩), .int .i64 r] w (Turned b lo hi vs (writeT rc ws r) w) := by
  obtain ⟨a, cap, hv, hn, hc⟩ := IntsO.open ho
  subst hv
  have q0 := hb.cell 0 rfl
  have q1 := hb.cell 1 rfl
  obtain ⟨p, hp1, hp2, hi', hst⟩ := hc r.toNat (by omega)
  have hix := hi' r (by omega)
  obtain ⟨c1, f1, hset⟩ := hst w ws rfl ho
  clear hi' hc
  cases h0 : (nth ws r.toNat != 0)
  · cases he : isEnded rc
    · have HT := Lib.hid (show writeT rc ws r = (rc, ws.set r.toNat 1, true) by simp [writeT, h0, he])
      have HE := Lib.hid he; clear he
      clear hset
      go_enter Tryd.func51, Tryd.ntmps51
      go_wp2_with fail
      refine (ended_any _ _ _ false HE.out).mono ?_
      rintro e w1 ⟨rfl, hb1⟩
      have z1 := (hb.below hb1).cell 1 rfl
      obtain ⟨d1, g1, hset1⟩ := hst w1 ws rfl (IntsO.below ho hb1)
      have hO := hset1 1
      have hk : Keep lo hi w1 (w1.setCell p (.int .i64 1)) := keep_setCell (Keep.refl _ _ _) hp1 hp2 _
      have hB := (hb.below hb1).keep hk (by omega)
      clear hset1 hst c1 f1
      go_wp2_with fail
      go_ret
      rw [HT.out]
      exact ⟨rfl, hB, hO, _, (Keep.of_below hb1 _ _).trans hk, Keep.refl _ _ _⟩
    · have HT := Lib.hid (show writeT rc ws r = (rc, ws, false) by simp [writeT, he])
      have HE := Lib.hid he; clear he
      clear hset hst
      go_enter Tryd.func51, Tryd.ntmps51
      go_wp2_with fail
      refine (ended_any _ _ _ true HE.out).mono ?_
      rintro e w1 ⟨rfl, hb1⟩
      go_wp2_with fail
      go_ret
      rw [HT.out]
      exact turned_err _ _ _ (hb1.alloc hb1.size _)
  · have HT := Lib.hid (show writeT rc ws r = (rc, ws, false) by simp [writeT, h0])
    clear hset hst
    go_enter Tryd.func51, Tryd.ntmps51
    go_wp2_with fail
    go_ret
    rw [HT.out]
    exact turned_err _ _ _ ((Below.refl _ _).alloc (Nat.le_refl _) _)

set_option maxHeartbeats 400000 in
theorem recoverClosure_any (x : Int) (w : World) : Calls Tryd.prog 68 #[.int .i64 x] w fun e w' => e = .returned (.bool (x != 1)) ∧ w = w' := by
  go_enter Tryd.func68, Tryd.ntmps68
  go_wp2
  go_ret
  exact ⟨rfl, rfl⟩

theorem refuse_yes {ws : List Int} {m : Int} (hm : idxP (fun x => x != 1) ws = m) (h : 0 ≤ m) : refuse ws = ws.set m.toNat 2 := by unfold refuse; rw [hm, if_pos h]
theorem refuse_no {ws : List Int} {m : Int} (hm : idxP (fun x => x != 1) ws = m) (h : ¬ 0 ≤ m) : refuse ws = ws := by unfold refuse; rw [hm, if_neg h]

/-- what recover does behind its tests: the first missing write refuses, the record is aborted -/
theorem turned_refuse {w w1 : World} {b lo hi : Nat} {vs : Value} {rc : Int} {ws' : List Int} (hb : Blk w b #[.int .i64 rc, vs] 25) (hs : hi ≤ b ∨ b < lo) (hw : Keep lo hi w w1) (ho : IntsO w1 lo hi vs ws') :
    Turned b lo hi vs (3, ws', true) w (.returned .nilIface) (w1.setCell ⟨b, 0, none⟩ (.int .i64 3)) := by
  have hk : Keep b (b + 1) w1 (w1.setCell ⟨b, 0, none⟩ (.int .i64 3)) := keep_setCell (p := ⟨b, 0, none⟩) (Keep.refl _ _ _) (Nat.le_refl _) (Nat.lt_succ_self _) _
  exact ⟨rfl, (hb.keep hw (by omega)).set 0 _, IntsO.keep ho hk (by omega), w1, hw, hk⟩

set_option maxHeartbeats 4000000 in
theorem recover_any (b lo hi : Nat) (vs : Value) (rc : Int) (ws : List Int) (w : World) (hb : Blk w b #[.int .i64 rc, vs] 25) (ho : IntsO w lo hi vs ws) (hs : hi ≤ b ∨ b < lo) (hl : ws.length ≤ 1000) :
    Calls Tryd.prog 63 #[.pointer (some ⟨b, 0, none⟩)] w (Turned b lo hi vs (recoverT rc ws) w) := by
  obtain ⟨a, cap, hv, hn, hc⟩ := IntsO.open ho
  subst hv
  have q0 := hb.cell 0 rfl
  have q1 := hb.cell 1 rfl
  have HC := Lib.hid hc; clear hc
  cases he : isEnded rc
  · obtain ⟨m, hm⟩ : ∃ m, idxP (fun x => x != 1) ws = m := ⟨_, rfl⟩
    have hm1 : m < ws.length := by rw [← hm]; exact idxP_lt
    have HM := Lib.hid hm
    have HE := Lib.hid he
    by_cases hf : (rc == 1 && fullW ws) = true
    · have HT := Lib.hid (show recoverT rc ws = (2, ws, true) by simp [recoverT, he, hf])
      simp only [Bool.and_eq_true, beq_iff_eq] at hf
      obtain ⟨rfl, hf⟩ := hf
      have HF := Lib.hid hf; clear hf he hm
      go_enter Tryd.func63, Tryd.ntmps63
      go_wp2_with fail
      refine (ended_any _ _ _ false HE.out).mono ?_
      rintro e w1 ⟨rfl, hb1⟩
      replace q0 := below_cell hb1 q0
      replace q1 := below_cell hb1 q1
      go_wp2_with fail
      refine (full_any _ _ ws _ (IntsO.below ho hb1).ints true HF.out).mono ?_
      rintro e w2 ⟨rfl, hb2⟩
      replace q0 := below_cell hb2 q0
      replace q1 := below_cell hb2 q1
      have hB := below_step hb1 hb2 hb1.size
      have f0 := (hb.below hB).frozen 0
      go_wp2_with fail
      go_ret
      rw [HT.out]
      exact turned_rec hb ho hs hB 2
    · have HT := Lib.hid (show recoverT rc ws = (3, refuse ws, true) by simp [recoverT, he, hf])
      have hff : rc = 1 → fullW ws = false := fun e => by subst e; simpa using hf
      have HFF := Lib.hid hff
      clear hf he hm hff
      by_cases h1 : rc = 1
      · subst h1
        have HF1 := Lib.hid (HFF.out rfl)
        clear HFF
        go_enter Tryd.func63, Tryd.ntmps63
        go_wp2_with fail
        refine (ended_any _ _ _ false HE.out).mono ?_
        rintro e w1 ⟨rfl, hb1⟩
        replace q0 := below_cell hb1 q0
        replace q1 := below_cell hb1 q1
        go_wp2_with fail
        refine (full_any _ _ ws _ (IntsO.below ho hb1).ints false HF1.out).mono ?_
        rintro e W ⟨rfl, hb2⟩
        replace q0 := below_cell hb2 q0
        replace q1 := below_cell hb2 q1
        have hB := below_step hb1 hb2 hb1.size
        go_wp2_with fail
        refine (indexFunc_any _ _ (fun _ _ => by kernel_rfl) recoverClosure_any _ ws _ (IntsO.below ho hB).ints m HM.out).mono ?_
        rintro e wi ⟨rfl, rfl⟩
        by_cases h0 : 0 ≤ m
        · obtain ⟨p, hp1, hp2, hi', hst⟩ := HC.out m.toNat (by omega)
          have hix := hi' m (by omega)
          obtain ⟨d1, g1, hset1⟩ := hst _ ws rfl (IntsO.below ho hB)
          have hO := hset1 2
          have hk := keep_setCell (Keep.refl lo hi W) hp1 hp2 (.int .i64 2)
          have hKK := (Keep.of_below hB lo hi).trans hk
          have y0 := keep_cell hk q0 (show b < lo ∨ hi ≤ b by omega)
          have f0 := (hb.keep hKK (by omega)).frozen 0
          have HR := Lib.hid (refuse_yes HM.out h0)
          clear hset1 hst hi'
          go_wp2_with fail
          go_ret
          rw [HT.out, HR.out]
          exact turned_refuse hb hs hKK hO
        · have HR := Lib.hid (refuse_no HM.out h0)
          have f0 := (hb.below hB).frozen 0
          go_wp2_with fail
          go_ret
          rw [HT.out, HR.out]
          exact turned_refuse hb hs (Keep.of_below hB lo hi) (IntsO.below ho hB)
      · have h1b : (rc == 1) = false := beq_eq_false_iff_ne.2 h1
        clear h1
        go_enter Tryd.func63, Tryd.ntmps63
        go_wp2_with fail
        refine (ended_any _ _ _ false HE.out).mono ?_
        rintro e W ⟨rfl, hB⟩
        replace q0 := below_cell hB q0
        replace q1 := below_cell hB q1
        go_wp2_with fail
        refine (indexFunc_any _ _ (fun _ _ => by kernel_rfl) recoverClosure_any _ ws _ (IntsO.below ho hB).ints m HM.out).mono ?_
        rintro e wi ⟨rfl, rfl⟩
        by_cases h0 : 0 ≤ m
        · obtain ⟨p, hp1, hp2, hi', hst⟩ := HC.out m.toNat (by omega)
          have hix := hi' m (by omega)
          obtain ⟨d1, g1, hset1⟩ := hst _ ws rfl (IntsO.below ho hB)
          have hO := hset1 2
          have hk := keep_setCell (Keep.refl lo hi W) hp1 hp2 (.int .i64 2)
          have hKK := (Keep.of_below hB lo hi).trans hk
          have y0 := keep_cell hk q0 (show b < lo ∨ hi ≤ b by omega)
          have f0 := (hb.keep hKK (by omega)).frozen 0
          have HR := Lib.hid (refuse_yes HM.out h0)
          clear hset1 hst hi'
          go_wp2_with fail
          go_ret
          rw [HT.out, HR.out]
          exact turned_refuse hb hs hKK hO
        · have HR := Lib.hid (refuse_no HM.out h0)
          have f0 := (hb.below hB).frozen 0
          go_wp2_with fail
          go_ret
          rw [HT.out, HR.out]
          exact turned_refuse hb hs (Keep.of_below hB lo hi) (IntsO.below ho hB)
  · have HT := Lib.hid (show recoverT rc ws = (rc, ws, false) by simp [recoverT, he])
    have HE := Lib.hid he; clear he
    go_enter Tryd.func63, Tryd.ntmps63
    go_wp2_with fail
    refine (ended_any _ _ _ true HE.out).mono ?_
    rintro e w1 ⟨rfl, hb1⟩
    go_wp2_with fail
    go_ret
    rw [HT.out]
    exact turned_err _ _ _ (hb1.alloc hb1.size _)
end Go.Proofs.YtocinffmdciihaaDoor
