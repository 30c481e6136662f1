/-
  The walks of the program's TxnValid and TxnStatus, and of what of package slices they use.
-/
import Derived.Test.YtocinffmdciihaaDoorTxnD
namespace Go.Proofs.YtocinffmdciihaaDoor
open Go.RowKit
set_option linter.unusedVariables false

set_option maxHeartbeats 1000000 in
theorem indexFunc_any (g : Nat) (p : Int → Bool) (hcf : ∀ (x : Value) (w : World), (callFunc g #[x]).run Tryd.prog w = .ok (.enter g #[x]) w)
    (hg : ∀ x w, Calls Tryd.prog g #[.int .i64 x] w fun e w' => e = .returned (.bool (p x)) ∧ w = w')
    (v : Value) (xs : List Int) (w : World) {lo hi : Nat} (h : Ints w lo hi v xs) (m : Int) (hm : idxP p xs = m) :
    Calls Tryd.prog 66 #[v, .func (.func g) #[] #[]] w fun e w' => e = .returned (.int .i64 m) ∧ w = w' := by
  obtain ⟨a, cap, rfl, hn, hcell⟩ := h.open
  have HG := Lib.hid hg; clear hg
  have HM := Lib.hid hm; clear hm
  go_enter Tryd.func66, Tryd.ntmps66
  go_wp2_with fail
  go_loop [5, 8] (fun q i => ∃ k : Nat, k ≤ xs.length ∧ i = .int .i64 k ∧ ∀ j, j < k → p (nth xs j) = false) (fun _ i => xs.length - (intOf i).toNat)
  case atStart => exact ⟨0, Nat.zero_le _, rfl, fun j hj => absurd hj (by omega)⟩
  case round =>
    obtain ⟨k, hk, rfl, hc⟩ := hrel
    have HC := Lib.hid hc; clear hc
    by_cases hlt : k < xs.length
    · obtain ⟨q, hi, hkc⟩ := hcell k hlt
      have hix := hi k rfl
      clear hi hcell
      cases hp : p (nth xs k)
      · have HS : Hid (∀ j, j < k + 1 → p (nth xs j) = false) := fun j hj => by
          by_cases e : j = k
          · subst e; exact hp
          · exact HC.out j (by omega)
        have HP := Lib.hid hp; clear hp
        go_wp2_with fail
        have hcall := HG.out (nth xs k) w
        rw [HP.out] at hcall
        refine hcall.mono ?_
        clear hcall
        rintro e w' ⟨rfl, rfl⟩
        go_wp2_with fail
        go_round
        case rel => exact ⟨k + 1, by omega, by go_num, HS.out⟩
        case measure => simp [intOf]; omega
      · have HR := Lib.hid (idxP_at hlt hp HC.out)
        have HP := Lib.hid hp; clear hp
        go_wp2_with fail
        have hcall := HG.out (nth xs k) w
        rw [HP.out] at hcall
        refine hcall.mono ?_
        clear hcall
        rintro e w' ⟨rfl, rfl⟩
        go_wp2_with fail
        go_ret
        exact ⟨ret_int (HR.out.symm.trans HM.out), rfl⟩
    · have HR := Lib.hid (idxP_none (p := p) (xs := xs) fun j hj => HC.out j (by omega))
      clear hcell
      go_wp2_with fail
      go_ret
      exact ⟨ret_int (HR.out.symm.trans HM.out), rfl⟩

set_option maxHeartbeats 400000 in
theorem containsFunc_any (g : Nat) (p : Int → Bool) (hcf : ∀ (x : Value) (w : World), (callFunc g #[x]).run Tryd.prog w = .ok (.enter g #[x]) w)
    (hg : ∀ x w, Calls Tryd.prog g #[.int .i64 x] w fun e w' => e = .returned (.bool (p x)) ∧ w = w')
    (v : Value) (xs : List Int) (w : World) {lo hi : Nat} (h : Ints w lo hi v xs) (r : Bool) (hr : xs.any p = r) :
    Calls Tryd.prog 52 #[v, .func (.func g) #[] #[]] w fun e w' => e = .returned (.bool r) ∧ w = w' := by
  obtain ⟨m, hm⟩ : ∃ m, idxP p xs = m := ⟨_, rfl⟩
  have HM := Lib.hid hm
  have HR := Lib.hid (show decide (0 ≤ m) = r by rw [← hm, ← hr]; exact idxP_any); clear hm hr
  have HG := Lib.hid hg; clear hg
  have HF := Lib.hid hcf; clear hcf
  go_enter Tryd.func52, Tryd.ntmps52
  go_wp2_with fail
  refine (indexFunc_any g p HF.out HG.out v xs _ h m HM.out).mono ?_
  rintro e w' ⟨rfl, rfl⟩
  go_wp2_with fail
  go_ret
  exact ⟨ret_bool HR.out, rfl⟩

set_option maxHeartbeats 400000 in
theorem validClosure_any (x : Int) (w : World) : Calls Tryd.prog 53 #[.int .i64 x] w fun e w' => e = .returned (.bool (!inB x 0 2)) ∧ w = w' := by
  by_cases h1 : x < 0
  · have HR := Lib.hid (show (!inB x 0 2) = true by rw [inB_mkF (.inl h1)]; rfl)
    rw [HR.out]
    go_enter Tryd.func53, Tryd.ntmps53
    go_wp2
    go_ret
    exact ⟨by simp, rfl⟩
  · by_cases h2 : 2 < x
    · have HR := Lib.hid (show (!inB x 0 2) = true by rw [inB_mkF (.inr h2)]; rfl)
      rw [HR.out]
      go_enter Tryd.func53, Tryd.ntmps53
      go_wp2
      go_ret
      exact ⟨by simp, rfl⟩
    · have HR := Lib.hid (show (!inB x 0 2) = false by rw [inB_mk (by omega) (by omega)]; rfl)
      rw [HR.out]
      go_enter Tryd.func53, Tryd.ntmps53
      go_wp2
      go_ret
      exact ⟨by simp, rfl⟩
set_option maxHeartbeats 400000 in
theorem fullClosure_any (x : Int) (w : World) : Calls Tryd.prog 67 #[.int .i64 x] w fun e w' => e = .returned (.bool (x != 1)) ∧ w = w' := by
  go_enter Tryd.func67, Tryd.ntmps67
  go_wp2
  go_ret
  exact ⟨rfl, rfl⟩

set_option maxHeartbeats 400000 in
theorem full_any (rc : Int) (v : Value) (ws : List Int) (w : World) {lo hi : Nat} (h : Ints w lo hi v ws) (r : Bool) (hr : fullW ws = r) :
    Calls Tryd.prog 54 #[.agg #[.int .i64 rc, v]] w fun e w' => e = .returned (.bool r) ∧ Below w.heap.size w w' := by
  have hb : Below w.heap.size w (w.alloc (.cells #[.int .i64 rc, v] 25)) := (Below.refl _ _).alloc (Nat.le_refl _) _
  have HA := Lib.hid (show (ws.any fun x => x != 1) = !r by rw [any_not_full, hr]); clear hr
  have HX := Lib.hid (show (!(!r)) = r by simp)
  obtain ⟨a, cap, rfl, _, _⟩ := h.open
  go_enter Tryd.func54, Tryd.ntmps54
  go_wp2_with fail
  refine (containsFunc_any _ _ (fun _ _ => by kernel_rfl) fullClosure_any _ ws _ (h.below hb) _ HA.out).mono ?_
  rintro e w' ⟨rfl, rfl⟩
  go_wp2_with fail
  go_ret
  exact ⟨ret_bool (by simp), hb⟩

set_option maxHeartbeats 1000000 in
theorem implTxnValid_any (rc : Int) (v : Value) (ws : List Int) (w : World) {lo hi : Nat} (h : Ints w lo hi v ws) (r : Bool) (hr : txnOk rc ws = r) :
    Calls Tryd.prog 26 #[.agg #[.int .i64 rc, v]] w fun e w' => e = .returned (.bool r) ∧ Below w.heap.size w w' := by
  have hb : Below w.heap.size w (w.alloc (.cells #[.int .i64 rc, v] 25)) := (Below.refl _ _).alloc (Nat.le_refl _) _
  obtain ⟨a, cap, rfl, hn, _⟩ := h.open
  by_cases h1 : rc < 0
  · have HR := Lib.hid (show false = r by rw [← hr]; unfold txnOk; rw [inB_mkF (.inl h1)]; rfl); clear hr
    go_enter Tryd.func26, Tryd.ntmps26
    go_wp2_with fail
    go_ret
    exact ⟨ret_bool HR.out, hb⟩
  by_cases h2 : 3 < rc
  · have HR := Lib.hid (show false = r by rw [← hr]; unfold txnOk; rw [inB_mkF (.inr h2)]; rfl); clear hr
    go_enter Tryd.func26, Tryd.ntmps26
    go_wp2_with fail
    go_ret
    exact ⟨ret_bool HR.out, hb⟩
  by_cases h3 : (ws.length : Int) < 1
  · have HR := Lib.hid (show false = r by rw [← hr]; unfold txnOk lenW; rw [inB_mkF (n := (ws.length : Int)) (.inl h3), Bool.and_false]; rfl); clear hr
    go_enter Tryd.func26, Tryd.ntmps26
    go_wp2_with fail
    go_ret
    exact ⟨ret_bool HR.out, hb⟩
  by_cases h4 : 4 < (ws.length : Int)
  · have HR := Lib.hid (show false = r by rw [← hr]; unfold txnOk lenW; rw [inB_mkF (n := (ws.length : Int)) (.inr h4), Bool.and_false]; rfl); clear hr
    go_enter Tryd.func26, Tryd.ntmps26
    go_wp2_with fail
    go_ret
    exact ⟨ret_bool HR.out, hb⟩
  have hA := any_not_range ws
  have hT : txnOk rc ws = (rangeW ws && (rc != 2 || fullW ws)) := by
    unfold txnOk lenW
    rw [inB_mk (by omega) (by omega), inB_mk (by omega) (by omega)]
    rfl
  rw [hT] at hr
  clear hT
  cases hw : rangeW ws
  · have HR := Lib.hid (show false = r by rw [← hr, hw]; rfl); clear hr
    have HA := Lib.hid (show (ws.any fun x => !inB x 0 2) = true by rw [hA, hw]; rfl); clear hA hw
    go_enter Tryd.func26, Tryd.ntmps26
    go_wp2_with fail
    refine (containsFunc_any _ _ (fun _ _ => by kernel_rfl) validClosure_any _ ws _ (h.below hb) _ HA.out).mono ?_
    rintro e w' ⟨rfl, rfl⟩
    go_wp2_with fail
    go_ret
    exact ⟨ret_bool HR.out, hb⟩
  · have HA := Lib.hid (show (ws.any fun x => !inB x 0 2) = false by rw [hA, hw]; rfl)
    by_cases h5 : rc = 2
    · subst h5
      have HR := Lib.hid (show fullW ws = r by rw [← hr, hw]; rfl); clear hr hA hw
      go_enter Tryd.func26, Tryd.ntmps26
      go_wp2_with fail
      refine (containsFunc_any _ _ (fun _ _ => by kernel_rfl) validClosure_any _ ws _ (h.below hb) _ HA.out).mono ?_
      rintro e w' ⟨rfl, rfl⟩
      go_wp2_with fail
      refine (full_any _ _ ws _ (h.below hb) r HR.out).mono ?_
      rintro e w2 ⟨rfl, hb2⟩
      go_wp2_with fail
      go_ret
      exact ⟨rfl, below_step hb hb2 hb.size⟩
    · have h5b : (rc != 2) = true := by simp [h5]
      have HR := Lib.hid (show true = r by rw [← hr, hw, h5b]; rfl); clear hr hA hw h5
      go_enter Tryd.func26, Tryd.ntmps26
      go_wp2_with fail
      refine (containsFunc_any _ _ (fun _ _ => by kernel_rfl) validClosure_any _ ws _ (h.below hb) _ HA.out).mono ?_
      rintro e w' ⟨rfl, rfl⟩
      go_wp2_with fail
      go_ret
      exact ⟨ret_bool HR.out, hb⟩
end Go.Proofs.YtocinffmdciihaaDoor
