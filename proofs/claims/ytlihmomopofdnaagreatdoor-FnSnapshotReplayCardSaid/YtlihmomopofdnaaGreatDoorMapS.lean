/-
  The walks of the program's readStore (a map that the call makes) and StoreValid.
-/
import Derived.Test.YtlihmomopofdnaaGreatDoorPair
import Derived.Maps.Own
import Derived.Maps.OwnSet
namespace Go.Proofs.YtlihmomopofdnaaGreatDoor
open Go.RowKit Go.Maps Go.WideMaps
set_option linter.unusedVariables false

theorem keyLaw : Keyed Tryz.prog 9 := string_keyed Tryz.underlying9
/-- the map behind k puts, as a datum -/
def mapOf (ps : List (ByteArray × Int)) : Nat → DataW Unit
  | 0 => .map []
  | k + 1 => (mapOf ps k).put (.string (pk ps k).data.toList) (.lit (.int .i64 (pv ps k)))
def Store (w : World) (b n : Nat) (D : DataW Unit) : Prop := w.ownsMap Tryz.prog 9 (plainElem Tryz.prog 3) b n D
theorem Store.lt {w : World} {b n : Nat} {D : DataW Unit} (h : Store w b n D) : b < w.heap.size := World.ownsMap.lt h
theorem Store.below {w w' : World} {b n : Nat} {D : DataW Unit} (h : Store w b n D) (hb : Below w.heap.size w w') : Store w' b n D := by
  have hl := h.lt
  obtain ⟨es, clock, e, F, hs, hD⟩ := h
  exact ⟨es, clock, (hb.block b hl).trans e, F, hs, hD⟩

def RetRead (w : World) (ps : List (ByteArray × Int)) (r : Bool) (e : Ending) (w' : World) : Prop :=
  Below w.heap.size w w' ∧ (r = false → e = .returned (.tuple #[.map none, .bool false])) ∧ (r = true → e = .returned (.tuple #[.map (some w.heap.size), .bool true]) ∧ Store w' w.heap.size ps.length (mapOf ps ps.length))

theorem okAt_parts {ps : List (ByteArray × Int)} {k : Nat} (h : okAt ps k = true) : isK (pk ps k) = true ∧ isV (pv ps k) = true ∧ (k = 0 ∨ lt (pk ps (k - 1)) (pk ps k) = true) := by
  unfold okAt at h
  simp only [Bool.and_eq_true, Bool.or_eq_true, beq_iff_eq] at h
  exact h
theorem isK_size {s : ByteArray} (h : isK s = true) : s.size = 1 := by
  unfold isK at h
  simp only [Bool.and_eq_true, beq_iff_eq] at h
  exact h.1
theorem isV_wf {v : Int} (h : isV v = true) : (Lit.int .i64 v).wf = true := by
  have := inB_true h
  exact WalkArith.wf_i64 (by omega)

set_option maxRecDepth 100000 in
set_option maxHeartbeats 8000000 in
theorem readStore_any (v : Value) (ps : List (ByteArray × Int)) (w : World) {lo hi : Nat} (h : Prs w lo hi v ps) (hx : ps.length ≤ 1048576) (r : Bool) (hr : storeOk ps = r) :
    Calls Tryz.prog 16 #[v] w (RetRead w ps r) := by
  have hmm := @run_makeMap Tryz.prog
  obtain ⟨a, cap, rfl, hn, hcell⟩ := h.open
  have HR := Lib.hid hr; clear hr
  have HCELL := Lib.hid hcell; clear hcell
  go_enter Tryz.func16, Tryz.ntmps16
  go_wp2_with fail
  go_loopw [10] (fun i wr => ∃ k : Nat, k ≤ ps.length ∧ i = .int .i64 k ∧ (∀ j, j < k → okAt ps j = true) ∧ Store wr w.heap.size k (mapOf ps k) ∧ Below w.heap.size w wr) (fun i _ => ps.length - (intOf i).toNat)
  case atStart => exact ⟨0, Nat.zero_le _, rfl, fun j hj => absurd hj (by omega), World.ownsMap_made _ _ _ _, (Below.refl _ _).alloc (Nat.le_refl _) _⟩
  case round =>
    obtain ⟨k, hk, rfl, hc, hown, hb⟩ := hrel
    have HC := Lib.hid hc; clear hc
    have hsz := hb.size
    by_cases hlt : k < ps.length
    · obtain ⟨b, o, _, _, hi', c0, c1⟩ := HCELL.out k hlt
      have hix := hi' k rfl
      have d0 : wr.cell? ⟨b, o, none⟩ = some (.string (pk ps k)) := (hb.cell (lt_of_cell c0)).trans c0
      have d1 : wr.cell? ⟨b, o + 1, none⟩ = some (.int .i64 (pv ps k)) := (hb.cell (lt_of_cell c1)).trans c1
      clear hi' c0 c1
      have HNEXT : Hid (okAt ps k = true → ∀ j, j < k + 1 → okAt ps j = true) := fun e j hj => by
        by_cases ej : j = k
        · subst ej; exact e
        · exact HC.out j (by omega)
      have hb1 : Below wr.heap.size wr (wr.alloc (.cells #[.string (pk ps k), .int .i64 (pv ps k)] 52)) := (Below.refl _ _).alloc (Nat.le_refl _) _
      have kP := Blk.new wr #[.string (pk ps k), .int .i64 (pv ps k)] 52
      have hown1 := hown.below hb1
      have hbA := below_step hb hb1 hsz
      have p0 := kP.cell 0 rfl
      have p1 := kP.cell 1 rfl
      have hprev : k = 0 ∨ ∃ b' o', (∀ wx, (Instr.indexAt 23 (.slice a ps.length cap) (.int .i64 ((k : Int) - 1))).run Tryz.prog wx = .ok (.pointer (some ⟨b', o', none⟩)) wx) ∧ (wr.alloc (.cells #[.string (pk ps k), .int .i64 (pv ps k)] 52)).cell? ⟨b', o', none⟩ = some (.string (pk ps (k - 1))) := by
        by_cases h0 : k = 0
        · exact .inl h0
        · obtain ⟨b', o', _, _, hj', e0, e1⟩ := HCELL.out (k - 1) (by omega)
          exact .inr ⟨b', o', hj' ((k : Int) - 1) (by omega), below_cell hb1 ((hb.cell (lt_of_cell e0)).trans e0)⟩
      have HPREV := Lib.hid hprev
      clear hprev hown hb1
      go_wp2_with fail
      generalize wr.alloc (.cells #[.string (pk ps k), .int .i64 (pv ps k)] 52) = wa at *
      generalize wr.heap.size = BP at *
      clear d0 d1 hix
      have done : ∀ n, (Below w.heap.size w (wa.drewN n)) := fun n => below_drewN hbA n
      have HDONE := Lib.hid done; clear done
      cases hK : isK (pk ps k)
      · have HK := Lib.hid hK
        have HS := Lib.hid (show false = r by rw [← HR.out]; exact (storeOk_not hlt (by unfold okAt; rw [hK]; rfl)).symm)
        clear hK
        go_quiet ((go_at_call 33; exact quietS (isKey_any _ _ false HK.out)))
        go_wp2_with fail
        go_ret2
        exact ⟨HDONE.out _, fun _ => rfl, fun e => by rw [← HS.out] at e; cases e⟩
      · have HK := Lib.hid hK
        cases hV : isV (pv ps k)
        · have HV := Lib.hid hV
          have HS := Lib.hid (show false = r by rw [← HR.out]; exact (storeOk_not hlt (by unfold okAt; rw [hK, hV]; rfl)).symm)
          clear hK hV
          go_quiet (first
            | (go_at_call 33; exact quietS (isKey_any _ _ true HK.out))
            | (go_at_call 34; exact quietS (isValue_any _ _ false HV.out)))
          go_wp2_with fail
          go_ret2
          exact ⟨HDONE.out _, fun _ => rfl, fun e => by rw [← HS.out] at e; cases e⟩
        · have HV := Lib.hid hV
          have hkey : keyOf Tryz.prog 9 (.string (pk ps k)) = some (.string (pk ps k).data.toList) := keyOf_string_mk Tryz.underlying9 (by rw [isK_size hK]; unfold maxLen; omega)
          have hwf := isV_wf hV
          have HKEY := Lib.hid hkey; clear hkey
          have HWF := Lib.hid hwf; clear hwf
          by_cases h0 : k = 0
          · have HS := Lib.hid (show okAt ps k = true by unfold okAt; rw [hK, hV, h0]; rfl)
            have hk0 : ¬ 0 < k := by omega
            have hkd : decide (0 < k) = false := decide_eq_false hk0
            clear hK hV h0
            go_quiet (first
              | (go_at_call 33; exact quietS (isKey_any _ _ true HK.out))
              | (go_at_call 34; exact quietS (isValue_any _ _ true HV.out)))
            go_wp2_with (at_mapUpdate; refine wpList_mapUpdate_own _ rfl _ _ _ 45 rfl 9 3 keyLaw Tryz.underlying45 _ w.heap.size k _ rfl (hown1.below (below_drewN (Below.refl _ _) _)) (by unfold maxLen; omega) _ _ _ rfl rfl HKEY.out _ [] (plainElem_int Tryz.underlying3 HWF.out) ?_; intro w3 hown3 hgrow3)
            have hb3 := (HDONE.out _).grown hgrow3 (HDONE.out _).size (fun j hj => by cases hj; exact Nat.le_refl _)
            go_wp2_with fail
            go_roundw
            case rel => exact ⟨k + 1, by omega, by go_num, HNEXT.out HS.out, hown3, hb3⟩
            case measure => simp [intOf]; omega
          · have hk0 : 0 < k := by omega
            have hkd : decide (0 < k) = true := decide_eq_true hk0
            obtain ⟨b', o', hjx, f0⟩ := HPREV.out.resolve_left h0
            have hwk : IntKind.i64.wrap ((k : Int) - 1) = (k : Int) - 1 := IntWalk.i64_in _ ⟨by omega, by omega⟩
            cases hl : Op.bytesLess (pk ps (k - 1)).toList (pk ps k).toList
            · have HS := Lib.hid (show false = r by
                rw [← HR.out]
                refine (storeOk_not hlt ?_).symm
                have : (k == 0) = false := beq_eq_false_iff_ne.2 h0
                unfold okAt lt; rw [hK, hV, this, hl]; rfl)
              clear hK hV h0
              go_quiet (first
                | (go_at_call 33; exact quietS (isKey_any _ _ true HK.out))
                | (go_at_call 34; exact quietS (isValue_any _ _ true HV.out)))
              go_wp2_with fail
              go_ret2
              exact ⟨HDONE.out _, fun _ => rfl, fun e => by rw [← HS.out] at e; cases e⟩
            · have HS := Lib.hid (show okAt ps k = true by
                have : (k == 0) = false := beq_eq_false_iff_ne.2 h0
                unfold okAt lt; rw [hK, hV, this, hl]; rfl)
              clear hK hV h0
              go_quiet (first
                | (go_at_call 33; exact quietS (isKey_any _ _ true HK.out))
                | (go_at_call 34; exact quietS (isValue_any _ _ true HV.out)))
              go_wp2_with (at_mapUpdate; refine wpList_mapUpdate_own _ rfl _ _ _ 45 rfl 9 3 keyLaw Tryz.underlying45 _ w.heap.size k _ rfl (hown1.below (below_drewN (Below.refl _ _) _)) (by unfold maxLen; omega) _ _ _ rfl rfl HKEY.out _ [] (plainElem_int Tryz.underlying3 HWF.out) ?_; intro w3 hown3 hgrow3)
              have hb3 := (HDONE.out _).grown hgrow3 (HDONE.out _).size (fun j hj => by cases hj; exact Nat.le_refl _)
              go_wp2_with fail
              go_roundw
              case rel => exact ⟨k + 1, by omega, by go_num, HNEXT.out HS.out, hown3, hb3⟩
              case measure => simp [intOf]; omega
    · obtain rfl : k = ps.length := by omega
      have HS := Lib.hid (show storeOk ps = true from storeOk_at fun j hj => HC.out j hj)
      go_wp2_with fail
      go_ret2
      have hrt : r = true := HR.out.symm.trans HS.out
      subst hrt
      refine ⟨hb, fun e => ?_, fun _ => ⟨rfl, hown⟩⟩
      cases e

set_option maxHeartbeats 1000000 in
theorem implStoreValid_any (v : Value) (ps : List (ByteArray × Int)) (w : World) {lo hi : Nat} (h : Prs w lo hi v ps) (hx : ps.length ≤ 1048576) (r : Bool) (hr : storeOk ps = r) :
    Calls Tryz.prog 26 #[v] w fun e w' => e = .returned (.bool r) ∧ Below w.heap.size w w' := by
  go_enter Tryz.func26, Tryz.ntmps26
  go_wp2_with fail
  refine (readStore_any v ps _ h hx r hr).mono ?_
  rintro e w1 ⟨hb, h0, h1⟩
  cases r
  · obtain rfl := h0 rfl
    clear h0 h1
    go_wp2_with fail
    go_ret
    exact ⟨rfl, hb⟩
  · obtain ⟨rfl, _⟩ := h1 rfl
    clear h0 h1
    go_wp2_with fail
    go_ret
    exact ⟨rfl, hb⟩
end Go.Proofs.YtlihmomopofdnaaGreatDoor
