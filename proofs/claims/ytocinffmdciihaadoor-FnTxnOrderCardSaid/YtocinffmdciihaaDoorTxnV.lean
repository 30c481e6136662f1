/-
  The walks of the program's ended and TxnStatus, and of the reference's TxnValid and TxnStatus.
-/
import Derived.Test.YtocinffmdciihaaDoorTxnW
namespace Go.Proofs.YtocinffmdciihaaDoor
open Go.RowKit
set_option linter.unusedVariables false

set_option maxHeartbeats 400000 in
theorem l6In_any (n lo hi : Int) (w : World) (r : Bool) (hr : inB n lo hi = r) :
    Calls Tryd.prog 47 #[.int .i64 n, .int .i64 lo, .int .i64 hi] w fun e w' => e = .returned (.bool r) ∧ w = w' := by
  subst hr
  by_cases h1 : lo ≤ n <;> by_cases h2 : n ≤ hi
  all_goals
    have HB := Lib.hid (show inB n lo hi = (decide (lo ≤ n) && decide (n ≤ hi)) from rfl)
    go_enter Tryd.func47, Tryd.ntmps47
    go_wp2
    go_ret
    exact ⟨by rw [HB.out]; simp [h1, h2], rfl⟩

def isEnded (rc : Int) : Bool := rc == 2 || rc == 3
set_option maxHeartbeats 400000 in
theorem ended_any (rc : Int) (v : Value) (w : World) (r : Bool) (hr : isEnded rc = r) :
    Calls Tryd.prog 56 #[.agg #[.int .i64 rc, v]] w fun e w' => e = .returned (.bool r) ∧ Below w.heap.size w w' := by
  have hb : Below w.heap.size w (w.alloc (.cells #[.int .i64 rc, v] 25)) := (Below.refl _ _).alloc (Nat.le_refl _) _
  have HR := Lib.hid (show (rc == 2 || rc == 3) = r from hr); clear hr
  cases h2 : (rc == 2)
  · have HS := Lib.hid (show (rc == 3) = r by rw [← HR.out, h2]; rfl)
    go_enter Tryd.func56, Tryd.ntmps56
    go_wp2_with fail
    go_ret
    exact ⟨ret_bool (by rw [← HS.out]), hb⟩
  · have HS := Lib.hid (show true = r by rw [← HR.out, h2]; rfl)
    go_enter Tryd.func56, Tryd.ntmps56
    go_wp2_with fail
    go_ret
    exact ⟨ret_bool (by rw [← HS.out]), hb⟩

set_option maxHeartbeats 1000000 in
theorem implTxnStatus_any (rc : Int) (v : Value) (ws : List Int) (w : World) {lo hi : Nat} (h : Ints w lo hi v ws) (m : Int) (hm : txnStat rc ws = m) :
    Calls Tryd.prog 30 #[.agg #[.int .i64 rc, v]] w fun e w' => e = .returned (.int .i64 m) ∧ Below w.heap.size w w' := by
  have hb : Below w.heap.size w (w.alloc (.cells #[.int .i64 rc, v] 25)) := (Below.refl _ _).alloc (Nat.le_refl _) _
  have hk := Blk.new w #[.int .i64 rc, v] 25
  have hs0 := hb.size
  cases hv : txnOk rc ws
  · have HV := Lib.hid hv
    have HM := Lib.hid (show -1 = m by rw [← hm]; simp [txnStat, hv]); clear hm hv
    go_enter Tryd.func30, Tryd.ntmps30
    go_wp2_with fail
    refine (implTxnValid_any rc v ws _ (h.below hb) false HV.out).mono ?_
    rintro e w1 ⟨rfl, hb1⟩
    go_wp2_with fail
    go_ret
    exact ⟨ret_int HM.out, below_step hb hb1 hs0⟩
  · have HV := Lib.hid hv
    have hp := txnOk_parts hv
    have hM := show statOf rc ws = m by rw [← hm]; simp [txnStat, hv]
    clear hm hv
    obtain ⟨g0, g1, g2, g3, g4, g5⟩ := hp
    have G5 := Lib.hid g5; clear g5 g4
    by_cases h1 : rc = 1
    · subst h1
      cases hf : fullW ws
      · have HF := Lib.hid hf
        have HM := Lib.hid (show 0 = m by rw [← hM]; simp [statOf, hf]); clear hM hf
        go_enter Tryd.func30, Tryd.ntmps30
        go_wp2_with fail
        refine (implTxnValid_any _ v ws _ (h.below hb) true HV.out).mono ?_
        rintro e w1 ⟨rfl, hb1⟩
        replace hb := below_step hb hb1 hs0
        replace hk := hk.below hb1
        have q0 := hk.cell 0 rfl
        have q1 := hk.cell 1 rfl
        clear hb1 hs0
        go_wp2_with fail
        refine (full_any _ v ws _ (h.below hb) false HF.out).mono ?_
        rintro e w2 ⟨rfl, hb2⟩
        replace hb := below_step hb hb2 hb.size
        replace hk := hk.below hb2
        have q0 := hk.cell 0 rfl
        have q1 := hk.cell 1 rfl
        clear hb2
        go_wp2_with fail
        refine (ended_any _ v _ false rfl).mono ?_
        rintro e w3 ⟨rfl, hb3⟩
        replace hb := below_step hb hb3 hb.size
        go_wp2_with fail
        go_ret
        exact ⟨ret_int HM.out, hb⟩
      · have HF := Lib.hid hf
        have HM := Lib.hid (show 2 = m by rw [← hM]; simp [statOf, hf]); clear hM hf
        go_enter Tryd.func30, Tryd.ntmps30
        go_wp2_with fail
        refine (implTxnValid_any _ v ws _ (h.below hb) true HV.out).mono ?_
        rintro e w1 ⟨rfl, hb1⟩
        replace hb := below_step hb hb1 hs0
        replace hk := hk.below hb1
        have q0 := hk.cell 0 rfl
        have q1 := hk.cell 1 rfl
        clear hb1 hs0
        go_wp2_with fail
        refine (full_any _ v ws _ (h.below hb) true HF.out).mono ?_
        rintro e w2 ⟨rfl, hb2⟩
        go_wp2_with fail
        go_ret
        exact ⟨ret_int HM.out, below_step hb hb2 hb.size⟩
    · have h1b : (rc == 1) = false := beq_eq_false_iff_ne.2 h1
      by_cases h0 : rc = 0
      · subst h0
        have HM := Lib.hid (show 0 = m by rw [← hM]; simp [statOf]); clear hM
        go_enter Tryd.func30, Tryd.ntmps30
        go_wp2_with fail
        refine (implTxnValid_any _ v ws _ (h.below hb) true HV.out).mono ?_
        rintro e w1 ⟨rfl, hb1⟩
        replace hb := below_step hb hb1 hs0
        replace hk := hk.below hb1
        have q0 := hk.cell 0 rfl
        have q1 := hk.cell 1 rfl
        clear hb1 hs0
        go_wp2_with fail
        refine (ended_any _ v _ false rfl).mono ?_
        rintro e w3 ⟨rfl, hb3⟩
        replace hb := below_step hb hb3 hb.size
        go_wp2_with fail
        go_ret
        exact ⟨ret_int HM.out, hb⟩
      · have hE := show isEnded rc = true by
          have : rc = 2 ∨ rc = 3 := by omega
          rcases this with rfl | rfl <;> rfl
        have HE := Lib.hid hE; clear hE
        have HM := Lib.hid (show rc = m by
          rw [← hM]
          have : rc = 2 ∨ rc = 3 := by omega
          rcases this with rfl | rfl <;> simp [statOf]); clear hM
        clear h0 h1
        go_enter Tryd.func30, Tryd.ntmps30
        go_wp2_with fail
        refine (implTxnValid_any _ v ws _ (h.below hb) true HV.out).mono ?_
        rintro e w1 ⟨rfl, hb1⟩
        replace hb := below_step hb hb1 hs0
        replace hk := hk.below hb1
        have q0 := hk.cell 0 rfl
        have q1 := hk.cell 1 rfl
        clear hb1 hs0
        go_wp2_with fail
        refine (ended_any _ v _ true HE.out).mono ?_
        rintro e w3 ⟨rfl, hb3⟩
        replace hb := below_step hb hb3 hb.size
        replace hk := hk.below hb3
        have q0 := hk.cell 0 rfl
        go_wp2_with fail
        go_ret
        exact ⟨ret_int HM.out, hb⟩
end Go.Proofs.YtocinffmdciihaaDoor
