/-
  The walks of the functions on entries and logs: validity, configurations, values (the reference's).
-/
import Derived.Test.YthehnpkjnilgiaaLogD
namespace Go.Proofs.Ythehnpkjnilgiaa
open Go.RowKit
set_option linter.unusedVariables false

set_option maxHeartbeats 400000 in
theorem l6In_any (n lo hi : Int) (w : World) (r : Bool) (hr : inB n lo hi = r) :
    Calls Try.prog 38 #[.int .i64 n, .int .i64 lo, .int .i64 hi] w fun e w' => e = .returned (.bool r) ∧ w = w' := by
  subst hr
  by_cases h1 : lo ≤ n <;> by_cases h2 : n ≤ hi
  all_goals
    have HB := Lib.hid (show inB n lo hi = (decide (lo ≤ n) && decide (n ≤ hi)) from rfl)
    go_enter Try.func38, Try.ntmps38
    go_wp2
    go_ret
    exact ⟨by rw [HB.out]; simp [h1, h2], rfl⟩
set_option maxHeartbeats 400000 in
theorem isValue_any (n : Int) (w : World) (r : Bool) (hr : inB n 1 99 = r) :
    Calls Try.prog 44 #[.int .i64 n] w fun e w' => e = .returned (.bool r) ∧ w = w' := by
  subst hr
  by_cases h1 : 1 ≤ n <;> by_cases h2 : n ≤ 99
  all_goals
    have HB := Lib.hid (show inB n 1 99 = (decide (1 ≤ n) && decide (n ≤ 99)) from rfl)
    go_enter Try.func44, Try.ntmps44
    go_wp2
    go_ret
    exact ⟨by rw [HB.out]; simp [h1, h2], rfl⟩
set_option maxHeartbeats 400000 in
theorem isConfig_any (n hi : Int) (w : World) (r : Bool) (hr : inB n 1 hi = r) :
    Calls Try.prog 45 #[.int .i64 n, .int .i64 hi] w fun e w' => e = .returned (.bool r) ∧ w = w' := by
  subst hr
  by_cases h1 : 1 ≤ n <;> by_cases h2 : n ≤ hi
  all_goals
    have HB := Lib.hid (show inB n 1 hi = (decide (1 ≤ n) && decide (n ≤ hi)) from rfl)
    go_enter Try.func45, Try.ntmps45
    go_wp2
    go_ret
    exact ⟨by rw [HB.out]; simp [h1, h2], rfl⟩
set_option maxHeartbeats 400000 in
theorem l21Value_any (n : Int) (w : World) (r : Bool) (hr : inB n 1 99 = r) :
    Calls Try.prog 46 #[.int .i64 n] w fun e w' => e = .returned (.bool r) ∧ w = w' := by
  have HR := Lib.hid hr; clear hr
  go_enter Try.func46, Try.ntmps46
  go_wp2_with fail
  refine (l6In_any _ _ _ _ r HR.out).mono ?_
  rintro e w' ⟨rfl, rfl⟩
  go_wp2_with fail
  go_ret
  exact ⟨rfl, rfl⟩

set_option maxHeartbeats 1000000 in
theorem specEntry_any (v c n : Int) (w : World) (r : Bool) (hr : okE n v c = r) :
    Calls Try.prog 42 #[.agg #[.int .i64 v, .int .i64 c], .int .i64 n] w fun e w' => e = .returned (.bool r) ∧ Below w.heap.size w w' := by
  by_cases hc : c = 0
  · subst hc
    have HR := Lib.hid (show inB v 1 99 = r by rw [← hr]; rfl); clear hr
    go_enter Try.func42, Try.ntmps42
    go_wp2_with fail
    refine (l21Value_any _ _ r HR.out).mono ?_
    rintro e w' ⟨rfl, rfl⟩
    go_wp2_with fail
    go_ret
    exact ⟨rfl, (Below.refl _ _).alloc (Nat.le_refl _) _⟩
  · have hcf : (c == 0) = false := beq_eq_false_iff_ne.2 hc
    by_cases hv : v = 0
    · subst hv
      have HR := Lib.hid (show inB c 1 n = r by rw [← hr]; simp [okE, hc]); clear hr
      go_enter Try.func42, Try.ntmps42
      go_wp2_with fail
      refine (l6In_any _ _ _ _ r HR.out).mono ?_
      rintro e w' ⟨rfl, rfl⟩
      go_wp2_with fail
      go_ret
      exact ⟨rfl, (Below.refl _ _).alloc (Nat.le_refl _) _⟩
    · have hvf : (v == 0) = false := beq_eq_false_iff_ne.2 hv
      have HR := Lib.hid (show false = r by rw [← hr]; simp [okE, hc, hv]); clear hr
      go_enter Try.func42, Try.ntmps42
      go_wp2_with fail
      go_ret
      exact ⟨ret_bool HR.out, (Below.refl _ _).alloc (Nat.le_refl _) _⟩

set_option maxHeartbeats 1000000 in
theorem implEntry_any (v c n : Int) (w : World) (r : Bool) (hr : okE n v c = r) :
    Calls Try.prog 41 #[.agg #[.int .i64 v, .int .i64 c], .int .i64 n] w fun e w' => e = .returned (.bool r) ∧ Below w.heap.size w w' := by
  cases hv : inB v 1 99
  · have HV := Lib.hid hv
    by_cases h0 : v = 0
    · subst h0
      by_cases hc : c = 0
      · subst hc
        have HC := Lib.hid (show inB 0 1 n = false by simp [inB])
        have HR := Lib.hid (show false = r by rw [← hr]; rfl); clear hr hv
        go_enter Try.func41, Try.ntmps41
        go_wp2_with fail
        refine (isValue_any _ _ false HV.out).mono ?_
        rintro e w' ⟨rfl, rfl⟩
        go_wp2_with fail
        refine (isConfig_any _ _ _ false HC.out).mono ?_
        rintro e w' ⟨rfl, rfl⟩
        go_wp2_with fail
        go_ret
        exact ⟨ret_bool HR.out, (Below.refl _ _).alloc (Nat.le_refl _) _⟩
      · have HR := Lib.hid (show inB c 1 n = r by rw [← hr]; simp [okE, hc]); clear hr hv
        go_enter Try.func41, Try.ntmps41
        go_wp2_with fail
        refine (isValue_any _ _ false HV.out).mono ?_
        rintro e w' ⟨rfl, rfl⟩
        go_wp2_with fail
        refine (isConfig_any _ _ _ r HR.out).mono ?_
        rintro e w' ⟨rfl, rfl⟩
        go_wp2_with fail
        go_ret
        exact ⟨rfl, (Below.refl _ _).alloc (Nat.le_refl _) _⟩
    · have hvf : (v == 0) = false := beq_eq_false_iff_ne.2 h0
      have HR := Lib.hid (show false = r by rw [← hr]; unfold okE; rw [hv, hvf]; simp); clear hr hv
      go_enter Try.func41, Try.ntmps41
      go_wp2_with fail
      refine (isValue_any _ _ false HV.out).mono ?_
      rintro e w' ⟨rfl, rfl⟩
      go_wp2_with fail
      go_ret
      exact ⟨ret_bool HR.out, (Below.refl _ _).alloc (Nat.le_refl _) _⟩
  · have HV := Lib.hid hv
    have hv2 := inB_true hv
    by_cases hc : c = 0
    · subst hc
      have HR := Lib.hid (show true = r by rw [← hr]; unfold okE; rw [hv]; rfl); clear hr hv
      go_enter Try.func41, Try.ntmps41
      go_wp2_with fail
      refine (isValue_any _ _ true HV.out).mono ?_
      rintro e w' ⟨rfl, rfl⟩
      go_wp2_with fail
      go_ret
      exact ⟨ret_bool HR.out, (Below.refl _ _).alloc (Nat.le_refl _) _⟩
    · have hcf : (c == 0) = false := beq_eq_false_iff_ne.2 hc
      have hvf : (v == 0) = false := beq_eq_false_iff_ne.2 (by omega)
      have HR := Lib.hid (show false = r by rw [← hr]; unfold okE; rw [hcf, hvf]; simp); clear hr hv
      go_enter Try.func41, Try.ntmps41
      go_wp2_with fail
      refine (isValue_any _ _ true HV.out).mono ?_
      rintro e w' ⟨rfl, rfl⟩
      go_wp2_with fail
      go_ret
      exact ⟨ret_bool HR.out, (Below.refl _ _).alloc (Nat.le_refl _) _⟩

theorem elEntry : ElTy Try.prog 23 28 (.agg #[.int .i64 0, .int .i64 0]) 2 16 := ⟨Try.underlying23, by kernel_rfl, rfl, by decide⟩
def Ents (w : World) (lo hi : Nat) (v : Value) (es : List (Int × Int)) : Prop := Recs encE w lo hi v es
def EntsO (w : World) (lo hi : Nat) (v : Value) (es : List (Int × Int)) : Prop := RecsO encE 28 w lo hi v es
section
variable {w w' : World} {lo hi l1 h1 lo' hi' : Nat} {v : Value} {es : List (Int × Int)}
theorem EntsO.ents (h : EntsO w lo hi v es) : Ents w lo hi v es := RecsO.recs h
theorem Ents.below (h : Ents w lo hi v es) (hb : Below w.heap.size w w') : Ents w' lo hi v es := Recs.below h hb
theorem Ents.keep (h : Ents w lo hi v es) (hk : Keep l1 h1 w w') (ho : hi ≤ l1 ∨ h1 ≤ lo) : Ents w' lo hi v es := Recs.keep h hk ho
theorem EntsO.below (h : EntsO w lo hi v es) (hb : Below w.heap.size w w') : EntsO w' lo hi v es := RecsO.below h hb
theorem EntsO.keep (h : EntsO w lo hi v es) (hk : Keep l1 h1 w w') (ho : hi ≤ l1 ∨ h1 ≤ lo) : EntsO w' lo hi v es := RecsO.keep h hk ho
theorem Ents.wide (h : Ents w lo hi v es) (h1 : lo' ≤ lo) (h2 : hi ≤ hi') (h3 : hi' ≤ w.heap.size) : Ents w lo' hi' v es := Recs.wide h h1 h2 h3
theorem EntsO.wide (h : EntsO w lo hi v es) (h1 : lo' ≤ lo) (h2 : hi ≤ hi') (h3 : hi' ≤ w.heap.size) : EntsO w lo' hi' v es := RecsO.wide h h1 h2 h3
theorem Ents.open (h : Ents w lo hi v es) :
    ∃ a cap, v = .slice a es.length cap ∧ es.length ≤ 9223372036854775807 ∧ ∀ (k : Nat), k < es.length → ∃ b o, lo ≤ b ∧ b < hi ∧
      (∀ (i : Int), i = k → ∀ wx, (Instr.indexAt 23 (.slice a es.length cap) (.int .i64 i)).run Try.prog wx = .ok (.pointer (some ⟨b, o, none⟩)) wx) ∧
      w.cell? ⟨b, o, none⟩ = some (.int .i64 (ev es k)) ∧ w.cell? ⟨b, o + 1, none⟩ = some (.int .i64 (ec es k)) := by
  obtain ⟨a, cap, hv, hn, hc⟩ := Recs.open elEntry h
  refine ⟨a, cap, hv, hn, fun k hk => ?_⟩
  obtain ⟨b, o, h1, h2, hi', hcell⟩ := hc k _ (es_get hk)
  exact ⟨b, o, h1, h2, hi', entry_cells hcell⟩
end

set_option maxHeartbeats 1000000 in
theorem specLogValid_any (v : Value) (es : List (Int × Int)) (n : Int) (w : World) {lo hi : Nat} (h : Ents w lo hi v es) (r : Bool) (hr : logValid n es = r) :
    Calls Try.prog 25 #[v, .int .i64 n] w fun e w' => e = .returned (.bool r) ∧ Below w.heap.size w w' := by
  obtain ⟨a, cap, hv, hn, hcell⟩ := h.open
  subst hv
  have HB := Lib.hid hr; clear hr
  go_enter Try.func25, Try.ntmps25
  go_wp2_with fail
  go_loopw [5] (fun i wr => ∃ k : Nat, k ≤ es.length ∧ i = .int .i64 k ∧ logTo n es k = true ∧ Below w.heap.size w wr) (fun i _ => es.length - (intOf i).toNat)
  case atStart => exact ⟨0, Nat.zero_le _, rfl, rfl, Below.refl _ _⟩
  case round =>
    obtain ⟨k, hk, rfl, hc, hb⟩ := hrel
    have HC := Lib.hid hc; clear hc
    by_cases hlt : k < es.length
    · obtain ⟨b, o, _, _, hi, hc0, hc1⟩ := hcell k hlt
      have hix := hi k rfl
      have hd0 := (hb.cell (lt_of_cell hc0)).trans hc0
      have hd1 := (hb.cell (lt_of_cell hc1)).trans hc1
      clear hi hcell hc0 hc1
      cases e : okE n (ev es k) (ec es k)
      · have E := Lib.hid e
        have HS := Lib.hid (log_stop hlt e); clear e
        go_wp2_with fail
        refine (specEntry_any _ _ _ _ false E.out).mono ?_
        rintro e w1 ⟨rfl, hb1⟩
        go_wp2_with fail
        go_ret
        exact ⟨ret_bool (HS.out.symm.trans HB.out), below_step hb hb1 hb.size⟩
      · have E := Lib.hid e
        have HS := Lib.hid (logTo_step HC.out e); clear e
        go_wp2_with fail
        refine (specEntry_any _ _ _ _ true E.out).mono ?_
        rintro e w1 ⟨rfl, hb1⟩
        have hb2 := below_step hb hb1 hb.size
        go_wp2_with fail
        go_roundw
        case rel => exact ⟨k + 1, by omega, by go_num, HS.out, hb2⟩
        case measure => simp [intOf]; omega
    · have HE := Lib.hid (show headOk n es = r by
        rw [← HB.out]; unfold logValid; rw [show es.length = k by omega, HC.out, Bool.and_true])
      clear hcell
      cases g : inB n 1 5
      · have G := Lib.hid g
        have HF := Lib.hid (show false = r by rw [← HE.out]; simp [headOk, g]); clear g
        go_wp2_with fail
        refine (l6In_any _ _ _ _ false G.out).mono ?_
        rintro e w' ⟨rfl, rfl⟩
        go_wp2_with fail
        go_ret
        exact ⟨ret_bool HF.out, hb⟩
      · have G := Lib.hid g
        have HF := Lib.hid (show decide ((es.length : Int) ≤ 12) = r by rw [← HE.out]; simp [headOk, g]; omega); clear g
        go_wp2_with fail
        refine (l6In_any _ _ _ _ true G.out).mono ?_
        rintro e w' ⟨rfl, rfl⟩
        go_wp2_with fail
        go_ret
        exact ⟨ret_bool HF.out, hb⟩

set_option maxHeartbeats 1000000 in
theorem specConfig_any (v : Value) (es : List (Int × Int)) (slot : Int) (w : World) {lo hi : Nat} (h : Ents w lo hi v es) (hs : -9223372036854775808 ≤ slot ∧ slot ≤ 9223372036854775807) (hl : es.length ≤ 1048576) (m : Int) (hm : cfgAt es slot = m) :
    Calls Try.prog 39 #[v, .int .i64 slot] w fun e w' => e = .returned (.int .i64 m) ∧ w = w' := by
  obtain ⟨a, cap, hv, hn, hcell⟩ := h.open
  subst hv
  obtain ⟨hs1, hs2⟩ := hs
  have HM := Lib.hid hm; clear hm
  go_enter Try.func39, Try.ntmps39
  go_wp2_with fail
  go_loop [5, 6] (fun q i => ∃ k : Nat, k ≤ es.length ∧ (k : Int) ≤ max 0 (slot - 1) ∧ i = .int .i64 k ∧ q = .int .i64 (cfg es k)) (fun _ i => es.length - (intOf i).toNat)
  case atStart => exact ⟨0, Nat.zero_le _, by omega, rfl, rfl⟩
  case round =>
    obtain ⟨k, hk, hk2, rfl, rfl⟩ := hrel
    by_cases hlt : k < es.length
    · by_cases hsl : (k : Int) + 2 ≤ slot
      · obtain ⟨b, o, _, _, hi, hc0, hc1⟩ := hcell k hlt
        have hix := hi k rfl
        clear hi hcell hc0
        by_cases hp : 0 < ec es k
        · have HS := Lib.hid (show cfg es (k + 1) = ec es k by simp [cfg, hp])
          go_wp2_with fail
          go_round
          case rel => exact ⟨k + 1, by omega, by omega, by go_num, by rw [HS.out]⟩
          case measure => simp [intOf]; omega
        · have HS := Lib.hid (show cfg es (k + 1) = cfg es k by simp [cfg, hp])
          go_wp2_with fail
          go_round
          case rel => exact ⟨k + 1, by omega, by omega, by go_num, by rw [HS.out]⟩
          case measure => simp [intOf]; omega
      · have HS := Lib.hid (show cfg es k = m by rw [← HM.out, cfgAt]; congr 1; omega)
        have hd : decide ((k : Int) + 2 ≤ slot) = false := by simp; omega
        clear hcell
        go_wp2_with fail
        go_ret
        exact ⟨ret_int HS.out, rfl⟩
    · have HS := Lib.hid (show cfg es k = m by rw [← HM.out, cfgAt]; congr 1; omega)
      clear hcell
      go_wp2_with fail
      go_ret
      exact ⟨ret_int HS.out, rfl⟩
end Go.Proofs.Ythehnpkjnilgiaa
