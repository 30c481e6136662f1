/-
  The walk of the reference's StoreValid.
-/
import Derived.Test.YtlihmomopofdnaaGreatDoorPair
namespace Go.Proofs.YtlihmomopofdnaaGreatDoor
open Go.RowKit
set_option linter.unusedVariables false

set_option maxRecDepth 100000 in
set_option maxHeartbeats 4000000 in
theorem specStoreValid_any (v : Value) (ps : List (ByteArray × Int)) (w : World) {lo hi : Nat} (h : Prs w lo hi v ps) (r : Bool) (hr : storeOk ps = r) :
    Calls Tryz.prog 8 #[v] w fun e w' => e = .returned (.bool r) ∧ ∃ n, w' = w.drewN n := by
  obtain ⟨a, cap, rfl, hn, hcell⟩ := h.open
  have HR := Lib.hid hr; clear hr
  have HCELL := Lib.hid hcell; clear hcell
  go_enter Tryz.func8, Tryz.ntmps8
  go_wp2_with fail
  go_loopw [3] (fun i wr => ∃ k : Nat, k ≤ ps.length ∧ i = .int .i64 k ∧ (∀ j, j < k → okAt ps j = true) ∧ ∃ n, wr = w.drewN n) (fun i _ => ps.length - (intOf i).toNat)
  case atStart => exact ⟨0, Nat.zero_le _, rfl, fun j hj => absurd hj (by omega), 0, rfl⟩
  case round =>
    obtain ⟨k, hk, rfl, hc, hw⟩ := hrel
    have HC := Lib.hid hc; clear hc
    have HW := Lib.hid hw
    by_cases hlt : k < ps.length
    · obtain ⟨b, o, _, _, hi', c0, c1⟩ := HCELL.out k hlt
      have hix := hi' k rfl
      have d0 : wr.cell? ⟨b, o, none⟩ = some (.string (pk ps k)) := by obtain ⟨n, rfl⟩ := hw; exact c0
      have d1 : wr.cell? ⟨b, o + 1, none⟩ = some (.int .i64 (pv ps k)) := by obtain ⟨n, rfl⟩ := hw; exact c1
      clear hi' c0 c1
      have HNEXT : Hid (okAt ps k = true → ∀ j, j < k + 1 → okAt ps j = true) := fun e j hj => by
        by_cases ej : j = k
        · subst ej; exact e
        · exact HC.out j (by omega)
      cases hK : isK (pk ps k)
      · have HK := Lib.hid hK
        have HS := Lib.hid (show false = r by rw [← HR.out]; exact (storeOk_not hlt (by unfold okAt; rw [hK]; rfl)).symm)
        clear hK hw
        go_wp2_with fail
        go_quiet ((go_at_call 19; exact quietS (l32Key_any _ _ false HK.out)))
        go_wp2_with fail
        go_ret
        exact ⟨ret_bool HS.out, drawn_more HW.out _⟩
      · have HK := Lib.hid hK
        cases hV : isV (pv ps k)
        · have HV := Lib.hid hV
          have HS := Lib.hid (show false = r by rw [← HR.out]; exact (storeOk_not hlt (by unfold okAt; rw [hK, hV]; rfl)).symm)
          clear hK hV hw
          go_wp2_with fail
          go_quiet (first
            | (go_at_call 19; exact quietS (l32Key_any _ _ true HK.out))
            | (go_at_call 20; exact quietS (l21Value_any _ _ false HV.out)))
          go_wp2_with fail
          go_ret
          exact ⟨ret_bool HS.out, drawn_more HW.out _⟩
        · have HV := Lib.hid hV
          by_cases h0 : k = 0
          · have HS := Lib.hid (show okAt ps k = true by unfold okAt; rw [hK, hV, h0]; rfl)
            have hk0 : ¬ 0 < k := by omega
            have hkd : decide (0 < k) = false := decide_eq_false hk0
            clear hK hV hw h0
            go_wp2_with fail
            go_quiet (first
              | (go_at_call 19; exact quietS (l32Key_any _ _ true HK.out))
              | (go_at_call 20; exact quietS (l21Value_any _ _ true HV.out)))
            go_wp2_with fail
            go_roundw
            case rel => exact ⟨k + 1, by omega, by go_num, HNEXT.out HS.out, drawn_more HW.out _⟩
            case measure => simp [intOf]; omega
          · have hk0 : 0 < k := by omega
            have hkd : decide (0 < k) = true := decide_eq_true hk0
            obtain ⟨b', o', _, _, hj', e0, e1⟩ := HCELL.out (k - 1) (by omega)
            have hjx := hj' ((k : Int) - 1) (by omega)
            have hwk : IntKind.i64.wrap ((k : Int) - 1) = (k : Int) - 1 := IntWalk.i64_in _ ⟨by omega, by omega⟩
            have f0 : wr.cell? ⟨b', o', none⟩ = some (.string (pk ps (k - 1))) := by obtain ⟨n, rfl⟩ := hw; exact e0
            clear hj' e0 e1
            cases hl : Op.bytesLess (pk ps (k - 1)).toList (pk ps k).toList
            · have HS := Lib.hid (show false = r by
                rw [← HR.out]
                refine (storeOk_not hlt ?_).symm
                have : (k == 0) = false := beq_eq_false_iff_ne.2 h0
                unfold okAt lt; rw [hK, hV, this, hl]; rfl)
              clear hK hV hw h0
              go_wp2_with fail
              go_quiet (first
                | (go_at_call 19; exact quietS (l32Key_any _ _ true HK.out))
                | (go_at_call 20; exact quietS (l21Value_any _ _ true HV.out)))
              go_wp2_with fail
              go_ret
              exact ⟨ret_bool HS.out, drawn_more HW.out _⟩
            · have HS := Lib.hid (show okAt ps k = true by
                have : (k == 0) = false := beq_eq_false_iff_ne.2 h0
                unfold okAt lt; rw [hK, hV, this, hl]; rfl)
              clear hK hV hw h0
              go_wp2_with fail
              go_quiet (first
                | (go_at_call 19; exact quietS (l32Key_any _ _ true HK.out))
                | (go_at_call 20; exact quietS (l21Value_any _ _ true HV.out)))
              go_wp2_with fail
              go_roundw
              case rel => exact ⟨k + 1, by omega, by go_num, HNEXT.out HS.out, drawn_more HW.out _⟩
              case measure => simp [intOf]; omega
    · have HS := Lib.hid (show storeOk ps = true from storeOk_at fun j hj => HC.out j (by omega))
      clear hw
      go_wp2_with fail
      go_ret
      exact ⟨ret_bool (HS.out.symm.trans HR.out), HW.out⟩
end Go.Proofs.YtlihmomopofdnaaGreatDoor
