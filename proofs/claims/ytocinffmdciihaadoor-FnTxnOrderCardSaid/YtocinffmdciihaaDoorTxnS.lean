/-
  The walks of the reference's TxnValid and TxnStatus.
-/
import Derived.Test.YtocinffmdciihaaDoorTxnV
namespace Go.Proofs.YtocinffmdciihaaDoor
open Go.RowKit
set_option linter.unusedVariables false

theorem all_at {p : Int → Bool} {ws : List Int} (h : ∀ j, j < ws.length → p (nth ws j) = true) : ws.all p = true := by
  rw [List.all_eq_true]
  intro x hx
  obtain ⟨j, hj, e⟩ := List.getElem_of_mem hx
  rw [← e, ← nth_eq hj]
  exact h j hj
theorem all_not {p : Int → Bool} {ws : List Int} {k : Nat} (hk : k < ws.length) (h : p (nth ws k) = false) : ws.all p = false := by
  rw [List.all_eq_false]
  exact ⟨_, nth_mem hk, by rw [h]; simp⟩

set_option maxHeartbeats 1000000 in
theorem l41All_any (rc : Int) (v : Value) (ws : List Int) (w : World) {lo hi : Nat} (h : Ints w lo hi v ws) (r : Bool) (hr : fullW ws = r) :
    Calls Tryd.prog 48 #[.agg #[.int .i64 rc, v]] w fun e w' => e = .returned (.bool r) ∧ Below w.heap.size w w' := by
  have hb : Below w.heap.size w (w.alloc (.cells #[.int .i64 rc, v] 25)) := (Below.refl _ _).alloc (Nat.le_refl _) _
  obtain ⟨a, cap, rfl, hn, hcell⟩ := h.open
  have HR := Lib.hid hr; clear hr
  go_enter Tryd.func48, Tryd.ntmps48
  go_wp2_with fail
  go_loop [3] (fun i => ∃ k : Nat, k ≤ ws.length ∧ i = .int .i64 k ∧ ∀ j, j < k → (nth ws j == 1) = true) (fun i => ws.length - (intOf i).toNat)
  case atStart => exact ⟨0, Nat.zero_le _, rfl, fun j hj => absurd hj (by omega)⟩
  case round =>
    obtain ⟨k, hk, rfl, hc⟩ := hrel
    have HC := Lib.hid hc; clear hc
    by_cases hlt : k < ws.length
    · obtain ⟨q, hi, hkc⟩ := hcell k hlt
      have hix := hi k rfl
      have hkd := below_cell hb hkc
      clear hi hcell hkc
      cases hp : (nth ws k == 1)
      · have HS := Lib.hid (show fullW ws = false from all_not hlt hp)
        have hp2 : (nth ws k != 1) = true := by rw [bne, hp]; rfl
        go_wp2_with fail
        go_ret
        exact ⟨ret_bool (HS.out.symm.trans HR.out), hb⟩
      · have HS : Hid (∀ j, j < k + 1 → (nth ws j == 1) = true) := fun j hj => by
          by_cases e : j = k
          · subst e; exact hp
          · exact HC.out j (by omega)
        have hp2 : (nth ws k != 1) = false := by rw [bne, hp]; rfl
        go_wp2_with fail
        go_round
        case rel => exact ⟨k + 1, by omega, by go_num, HS.out⟩
        case measure => simp [intOf]; omega
    · have HS := Lib.hid (show fullW ws = true from all_at fun j hj => HC.out j (by omega))
      clear hcell
      go_wp2_with fail
      go_ret
      exact ⟨ret_bool (HS.out.symm.trans HR.out), hb⟩

set_option maxHeartbeats 2000000 in
theorem specTxnValid_any (rc : Int) (v : Value) (ws : List Int) (w : World) {lo hi : Nat} (h : Ints w lo hi v ws) (r : Bool) (hr : txnOk rc ws = r) :
    Calls Tryd.prog 21 #[.agg #[.int .i64 rc, v]] w fun e w' => e = .returned (.bool r) ∧ Below w.heap.size w w' := by
  have hb : Below w.heap.size w (w.alloc (.cells #[.int .i64 rc, v] 25)) := (Below.refl _ _).alloc (Nat.le_refl _) _
  obtain ⟨a, cap, rfl, hn, hcell⟩ := h.open
  have HR := Lib.hid hr; clear hr
  go_enter Tryd.func21, Tryd.ntmps21
  go_wp2_with fail
  go_loop [3] (fun i => ∃ k : Nat, k ≤ ws.length ∧ i = .int .i64 k ∧ ∀ j, j < k → inB (nth ws j) 0 2 = true) (fun i => ws.length - (intOf i).toNat)
  case atStart => exact ⟨0, Nat.zero_le _, rfl, fun j hj => absurd hj (by omega)⟩
  case round =>
    obtain ⟨k, hk, rfl, hc⟩ := hrel
    have HC := Lib.hid hc; clear hc
    by_cases hlt : k < ws.length
    · obtain ⟨q, hi, hkc⟩ := hcell k hlt
      have hix := hi k rfl
      have hkd := below_cell hb hkc
      clear hi hcell hkc
      cases hp : inB (nth ws k) 0 2
      · have HS := Lib.hid (show txnOk rc ws = false by unfold txnOk; rw [show rangeW ws = false from all_not hlt hp]; simp)
        have HP := Lib.hid hp; clear hp
        go_wp2_with fail
        refine (l6In_any _ _ _ _ false HP.out).mono ?_
        rintro e w' ⟨rfl, rfl⟩
        go_wp2_with fail
        go_ret
        exact ⟨ret_bool (HS.out.symm.trans HR.out), hb⟩
      · have HS : Hid (∀ j, j < k + 1 → inB (nth ws j) 0 2 = true) := fun j hj => by
          by_cases e : j = k
          · subst e; exact hp
          · exact HC.out j (by omega)
        have HP := Lib.hid hp; clear hp
        go_wp2_with fail
        refine (l6In_any _ _ _ _ true HP.out).mono ?_
        rintro e w' ⟨rfl, rfl⟩
        go_wp2_with fail
        go_round
        case rel => exact ⟨k + 1, by omega, by go_num, HS.out⟩
        case measure => simp [intOf]; omega
    · have HT := Lib.hid (show txnOk rc ws = (inB rc 0 3 && lenW ws && (rc != 2 || fullW ws)) by
        unfold txnOk; rw [show rangeW ws = true from all_at fun j hj => HC.out j (by omega)]; simp)
      clear hcell
      cases hl : lenW ws
      · have HS := Lib.hid (show false = r by rw [← HR.out, HT.out, hl]; simp)
        have HL := Lib.hid (show inB (ws.length : Int) 1 4 = false from hl); clear hl
        go_wp2_with fail
        refine (l6In_any _ _ _ _ false HL.out).mono ?_
        rintro e w' ⟨rfl, rfl⟩
        go_wp2_with fail
        go_ret
        exact ⟨ret_bool HS.out, hb⟩
      · cases hi : inB rc 0 3
        · have HS := Lib.hid (show false = r by rw [← HR.out, HT.out, hi]; simp)
          have HL := Lib.hid (show inB (ws.length : Int) 1 4 = true from hl); clear hl
          have HI := Lib.hid hi; clear hi
          go_wp2_with fail
          refine (l6In_any _ _ _ _ true HL.out).mono ?_
          rintro e w' ⟨rfl, rfl⟩
          go_wp2_with fail
          refine (l6In_any _ _ _ _ false HI.out).mono ?_
          rintro e w' ⟨rfl, rfl⟩
          go_wp2_with fail
          go_ret
          exact ⟨ret_bool HS.out, hb⟩
        · have hq := show (rc != 2 || fullW ws) = r by rw [← HR.out, HT.out, hi, hl]; simp
          have HL := Lib.hid (show inB (ws.length : Int) 1 4 = true from hl); clear hl
          have HI := Lib.hid hi; clear hi
          by_cases h2 : rc = 2
          · subst h2
            have HF := Lib.hid (show fullW ws = r from hq); clear hq
            go_wp2_with fail
            refine (l6In_any _ _ _ _ true HL.out).mono ?_
            rintro e w' ⟨rfl, rfl⟩
            go_wp2_with fail
            refine (l6In_any _ _ _ _ true HI.out).mono ?_
            rintro e w' ⟨rfl, rfl⟩
            go_wp2_with fail
            refine (l41All_any _ _ ws _ (h.below hb) r HF.out).mono ?_
            rintro e w2 ⟨rfl, hb2⟩
            go_wp2_with fail
            go_ret
            exact ⟨rfl, below_step hb hb2 hb.size⟩
          · have h2b : (rc != 2) = true := by simp [h2]
            have HS := Lib.hid (show true = r by rw [← hq, h2b]; rfl); clear hq h2
            go_wp2_with fail
            refine (l6In_any _ _ _ _ true HL.out).mono ?_
            rintro e w' ⟨rfl, rfl⟩
            go_wp2_with fail
            refine (l6In_any _ _ _ _ true HI.out).mono ?_
            rintro e w' ⟨rfl, rfl⟩
            go_wp2_with fail
            go_ret
            exact ⟨ret_bool HS.out, hb⟩

set_option maxHeartbeats 1000000 in
theorem l41Status_any (rc : Int) (v : Value) (ws : List Int) (w : World) {lo hi : Nat} (h : Ints w lo hi v ws) (m : Int) (hm : statOf rc ws = m) :
    Calls Tryd.prog 62 #[.agg #[.int .i64 rc, v]] w fun e w' => e = .returned (.int .i64 m) ∧ Below w.heap.size w w' := by
  have hb : Below w.heap.size w (w.alloc (.cells #[.int .i64 rc, v] 25)) := (Below.refl _ _).alloc (Nat.le_refl _) _
  have hk := Blk.new w #[.int .i64 rc, v] 25
  by_cases h1 : rc = 1
  · subst h1
    cases hf : fullW ws
    all_goals
      have HF := Lib.hid hf
      have HM := Lib.hid hm; clear hm hf
      go_enter Tryd.func62, Tryd.ntmps62
      go_wp2_with fail
      refine (l41All_any _ v ws _ (h.below hb) _ HF.out).mono ?_
      rintro e w2 ⟨rfl, hb2⟩
      replace hb := below_step hb hb2 hb.size
      replace hk := hk.below hb2
      have q0 := hk.cell 0 rfl
      have q1 := hk.cell 1 rfl
      clear hb2
      go_wp2_with fail
      go_ret
      exact ⟨ret_int (by rw [← HM.out]; unfold statOf; rw [HF.out]; rfl), hb⟩
  · have h1b : (rc == 1) = false := beq_eq_false_iff_ne.2 h1
    have hs := show (if rc == 2 then (2 : Int) else if rc == 3 then 3 else 0) = m by rw [← hm]; unfold statOf; rw [h1b]; simp
    clear hm h1
    cases h2 : (rc == 2)
    · cases h3 : (rc == 3)
      all_goals
        have HM := Lib.hid hs; clear hs
        have H2 := Lib.hid h2
        have H3 := Lib.hid h3
        go_enter Tryd.func62, Tryd.ntmps62
        go_wp2_with fail
        go_ret
        exact ⟨ret_int (by rw [← HM.out, H2.out, H3.out]; rfl), hb⟩
    · have HM := Lib.hid (show (2 : Int) = m by rw [← hs, h2]; rfl); clear hs
      go_enter Tryd.func62, Tryd.ntmps62
      go_wp2_with fail
      go_ret
      exact ⟨ret_int HM.out, hb⟩

set_option maxHeartbeats 1000000 in
theorem specTxnStatus_any (rc : Int) (v : Value) (ws : List Int) (w : World) {lo hi : Nat} (h : Ints w lo hi v ws) (m : Int) (hm : txnStat rc ws = m) :
    Calls Tryd.prog 40 #[.agg #[.int .i64 rc, v]] w fun e w' => e = .returned (.int .i64 m) ∧ Below w.heap.size w w' := by
  have hb : Below w.heap.size w (w.alloc (.cells #[.int .i64 rc, v] 25)) := (Below.refl _ _).alloc (Nat.le_refl _) _
  have hk := Blk.new w #[.int .i64 rc, v] 25
  have hs0 := hb.size
  cases hv : txnOk rc ws
  · have HV := Lib.hid hv
    have HM := Lib.hid (show -1 = m by rw [← hm]; simp [txnStat, hv]); clear hm hv
    go_enter Tryd.func40, Tryd.ntmps40
    go_wp2_with fail
    refine (specTxnValid_any rc v ws _ (h.below hb) false HV.out).mono ?_
    rintro e w1 ⟨rfl, hb1⟩
    go_wp2_with fail
    go_ret
    exact ⟨ret_int HM.out, below_step hb hb1 hs0⟩
  · have HV := Lib.hid hv
    have HM := Lib.hid (show statOf rc ws = m by rw [← hm]; simp [txnStat, hv]); clear hm hv
    go_enter Tryd.func40, Tryd.ntmps40
    go_wp2_with fail
    refine (specTxnValid_any rc v ws _ (h.below hb) true HV.out).mono ?_
    rintro e w1 ⟨rfl, hb1⟩
    replace hb := below_step hb hb1 hs0
    replace hk := hk.below hb1
    have q0 := hk.cell 0 rfl
    have q1 := hk.cell 1 rfl
    clear hb1 hs0
    go_wp2_with fail
    refine (l41Status_any rc v ws _ (h.below hb) m HM.out).mono ?_
    rintro e w2 ⟨rfl, hb2⟩
    go_wp2_with fail
    go_ret
    exact ⟨rfl, below_step hb hb2 hb.size⟩
end Go.Proofs.YtocinffmdciihaaDoor
