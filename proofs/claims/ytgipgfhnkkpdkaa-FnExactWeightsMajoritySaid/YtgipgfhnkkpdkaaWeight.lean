/-
  Weighted votes: what the functions compute, their walks, and that the program's sums are the reference's.
-/
import Derived.Test.YtgipgfhnkkpdkaaLawKit
namespace Go.Proofs.Ytgipgfhnkkpdkaa
open Go.RowKit
set_option linter.unusedVariables false

def wTo (xs : List Int) : Nat → Bool
  | 0 => true
  | k + 1 => wTo xs k && inB (nth xs k) 0 9
def wValid (xs : List Int) : Bool := wTo xs xs.length && inB xs.length 1 6
theorem wTo_false {xs : List Int} {k : Nat} (h : wTo xs k = false) : ∀ n, k ≤ n → wTo xs n = false := by
  intro n hn
  induction n with
  | zero => obtain rfl : k = 0 := by omega
            exact h
  | succ n ih =>
    by_cases e : k = n + 1
    · subst e; exact h
    · simp [wTo, ih (by omega)]
theorem w_stop {xs : List Int} {k : Nat} (hk : k < xs.length) (hs : inB (nth xs k) 0 9 = false) : wValid xs = false := by
  unfold wValid
  rw [wTo_false (k := k + 1) (by simp [wTo, hs]) _ hk]
  rfl
theorem wTo_step {xs : List Int} {k : Nat} (h : wTo xs k = true) (hs : inB (nth xs k) 0 9 = true) : wTo xs (k + 1) = true := by simp [wTo, h, hs]
theorem wTo_nth {xs : List Int} (n : Nat) (h : wTo xs n = true) : ∀ k, k < n → 0 ≤ nth xs k ∧ nth xs k ≤ 9 := by
  induction n with
  | zero => intro k hk; omega
  | succ n ih =>
    simp only [wTo, Bool.and_eq_true] at h
    intro k hk
    by_cases e : k = n
    · subst e; exact inB_true h.2
    · exact ih h.1 k (by omega)
theorem wValid_len {xs : List Int} (h : wValid xs = true) : 1 ≤ xs.length ∧ xs.length ≤ 6 := by
  unfold wValid at h
  rw [Bool.and_eq_true] at h
  have := inB_true h.2
  omega
theorem wValid_nth {xs : List Int} (h : wValid xs = true) : ∀ k, k < xs.length → 0 ≤ nth xs k ∧ nth xs k ≤ 9 := by
  unfold wValid at h
  rw [Bool.and_eq_true] at h
  exact wTo_nth _ h.1

set_option maxHeartbeats 1000000 in
theorem specWValid_any (v : Value) (xs : List Int) (w : World) {lo hi : Nat} (h : Ints w lo hi v xs) (r : Bool) (hr : wValid xs = r) :
    Calls Try.prog 70 #[v] w fun e w' => e = .returned (.bool r) ∧ w = w' := by
  obtain ⟨a, cap, hv, hn, hcell⟩ := h.open
  subst hv
  have HB := Lib.hid hr; clear hr
  go_enter Try.func70, Try.ntmps70
  go_wp2
  go_loop [3] (fun i => ∃ k : Nat, k ≤ xs.length ∧ i = .int .i64 k ∧ wTo xs k = true) (fun i => xs.length - (intOf i).toNat)
  case atStart => exact ⟨0, Nat.zero_le _, rfl, rfl⟩
  case round =>
    obtain ⟨k, hk, rfl, hc⟩ := hrel
    have HC := Lib.hid hc; clear hc
    by_cases hlt : k < xs.length
    · obtain ⟨p, hi, hkc⟩ := hcell k hlt
      have hix := hi k rfl
      clear hi hcell
      cases e : inB (nth xs k) 0 9
      · have E := Lib.hid e
        have HS := Lib.hid (w_stop hlt e); clear e
        go_wp2_with fail
        refine (l6In_any _ _ _ _ false E.out).mono ?_
        rintro e w' ⟨rfl, rfl⟩
        go_wp2_with fail
        go_ret
        exact ⟨ret_bool (HS.out.symm.trans HB.out), rfl⟩
      · have E := Lib.hid e
        have HS := Lib.hid (wTo_step HC.out e); clear e
        go_wp2_with fail
        refine (l6In_any _ _ _ _ true E.out).mono ?_
        rintro e w' ⟨rfl, rfl⟩
        go_wp2_with fail
        go_round
        case rel => exact ⟨k + 1, by omega, by go_num, HS.out⟩
        case measure => simp [intOf]; omega
    · have HE := Lib.hid (show inB xs.length 1 6 = r by
        rw [← HB.out]; unfold wValid; rw [show xs.length = k by omega, HC.out]; rfl)
      clear hcell
      go_wp2_with fail
      refine (l6In_any _ _ _ _ r HE.out).mono ?_
      rintro e w' ⟨rfl, rfl⟩
      go_wp2_with fail
      go_ret
      exact ⟨rfl, rfl⟩

set_option maxHeartbeats 1000000 in
theorem implWValid_any (v : Value) (xs : List Int) (w : World) {lo hi : Nat} (h : Ints w lo hi v xs) (r : Bool) (hr : wValid xs = r) :
    Calls Try.prog 72 #[v] w fun e w' => e = .returned (.bool r) ∧ w = w' := by
  obtain ⟨a, cap, hv, hn, hcell⟩ := h.open
  subst hv
  have HB := Lib.hid hr; clear hr
  go_enter Try.func72, Try.ntmps72
  go_wp2
  go_loop [7] (fun i => ∃ k : Nat, k ≤ xs.length ∧ i = .int .i64 k ∧ wTo xs k = true) (fun i => xs.length - (intOf i).toNat)
  case atStart => exact ⟨0, Nat.zero_le _, rfl, rfl⟩
  case round =>
    obtain ⟨k, hk, rfl, hc⟩ := hrel
    have HC := Lib.hid hc; clear hc
    by_cases hlt : k < xs.length
    · obtain ⟨p, hi, hkc⟩ := hcell k hlt
      have hix := hi k rfl
      clear hi hcell
      cases e : inB (nth xs k) 0 9
      · have HS := Lib.hid (w_stop hlt e)
        rcases inB_false e with g | g
        · clear e
          go_wp2_with fail
          go_ret
          exact ⟨ret_bool (HS.out.symm.trans HB.out), rfl⟩
        · have g2 : ¬ nth xs k < 0 := by omega
          clear e
          go_wp2_with fail
          go_ret
          exact ⟨ret_bool (HS.out.symm.trans HB.out), rfl⟩
      · have HS := Lib.hid (wTo_step HC.out e)
        obtain ⟨g1, g2⟩ := inB_true e
        have g3 : ¬ nth xs k < 0 := by omega
        have g4 : ¬ 9 < nth xs k := by omega
        clear e
        go_wp2_with fail
        go_round
        case rel => exact ⟨k + 1, by omega, by go_num, HS.out⟩
        case measure => simp [intOf]; omega
    · have HE := Lib.hid (show inB xs.length 1 6 = r by
        rw [← HB.out]; unfold wValid; rw [show xs.length = k by omega, HC.out]; rfl)
      clear hcell
      by_cases g1 : 1 ≤ xs.length <;> by_cases g2 : xs.length ≤ 6
      all_goals
        have g3 : decide ((1 : Int) ≤ (xs.length : Int)) = decide (1 ≤ xs.length) := by congr 1; simp; omega
        have g4 : decide ((xs.length : Int) ≤ 6) = decide (xs.length ≤ 6) := by congr 1; simp; omega
        have HF := Lib.hid (show (decide (1 ≤ xs.length) && decide (xs.length ≤ 6)) = r by rw [← HE.out]; unfold inB; rw [g3, g4])
        clear g3
        have G4 := Lib.hid g4; clear g4
        go_wp2_with fail
        all_goals go_ret
        all_goals first
          | exact ⟨ret_bool (a := true) (by rw [← HF.out]; simp [g1, g2]), rfl⟩
          | exact ⟨ret_bool (a := false) (by rw [← HF.out]; simp [g1, g2]), rfl⟩
          | exact ⟨ret_bool (a := decide ((xs.length : Int) ≤ 6)) (by rw [← HF.out, G4.out]; simp [g1]), rfl⟩

/-! ### the sums -/
def sumL (w : List Int) (l : List Nat) : Int := l.foldl (fun a j => a + nth w j) 0
theorem sumL_snoc (w : List Int) (l : List Nat) (j : Nat) : sumL w (l ++ [j]) = sumL w l + nth w j := by simp [sumL, List.foldl_append]
def idxI (c : Int) : Nat → List Nat
  | 0 => []
  | k + 1 => if inB ((k : Int) + 1) 1 6 && hasM c ((k : Int) + 1) then idxI c k ++ [k] else idxI c k
def idxS (n : Nat) (s : List Int) : Nat → List Nat
  | 0 => []
  | k + 1 => if nth s k ≤ n then idxS n s k ++ [(nth s k - 1).toNat] else idxS n s k
theorem idx_eq : ∀ s ∈ subs 6, ∀ n : Fin 7, idxI (crewOf s) n.val = idxS n.val s s.length := by decide +kernel
theorem idxI_len (c : Int) (k : Nat) : (idxI c k).length ≤ k := by
  induction k with
  | zero => simp [idxI]
  | succ k ih =>
    unfold idxI; split
    · rw [List.length_append]; simp; omega
    · omega
theorem idxI_lt (c : Int) (k : Nat) : ∀ j ∈ idxI c k, j < k := by
  induction k with
  | zero => simp [idxI]
  | succ k ih =>
    intro j hj
    unfold idxI at hj
    split at hj
    · rcases List.mem_append.1 hj with h | h
      · have := ih j h; omega
      · have := List.mem_singleton.1 h; omega
    · have := ih j hj; omega
theorem sumL_range {w : List Int} : ∀ (l : List Nat), (∀ j ∈ l, 0 ≤ nth w j ∧ nth w j ≤ 9) → 0 ≤ sumL w l ∧ sumL w l ≤ 9 * l.length := by
  intro l
  have gen : ∀ (l : List Nat) (a : Int), (∀ j ∈ l, 0 ≤ nth w j ∧ nth w j ≤ 9) → a ≤ l.foldl (fun a j => a + nth w j) a ∧ l.foldl (fun a j => a + nth w j) a ≤ a + 9 * l.length := by
    intro l
    induction l with
    | nil => intro a _; simp
    | cons j t ih =>
      intro a h
      have h0 := h j List.mem_cons_self
      have := ih (a + nth w j) fun x hx => h x (List.mem_cons_of_mem _ hx)
      simp only [List.foldl_cons, List.length_cons]
      omega
  intro h
  have := gen l 0 h
  unfold sumL
  omega
theorem idxS_len (n : Nat) (s : List Int) (k : Nat) : (idxS n s k).length ≤ k := by
  induction k with
  | zero => simp [idxS]
  | succ k ih =>
    unfold idxS; split
    · rw [List.length_append]; simp; omega
    · omega
theorem idxS_lt {n : Nat} {s : List Int} (k : Nat) (h : ∀ i, i < k → 1 ≤ nth s i) : ∀ j ∈ idxS n s k, j < n := by
  induction k with
  | zero => simp [idxS]
  | succ k ih =>
    intro j hj
    unfold idxS at hj
    have hk := h k (by omega)
    split at hj
    · rcases List.mem_append.1 hj with h' | h'
      · exact ih (fun i hi => h i (by omega)) j h'
      · have := List.mem_singleton.1 h'; omega
    · exact ih (fun i hi => h i (by omega)) j hj

set_option maxHeartbeats 1000000 in
theorem sum_any (c : Int) (v : Value) (xs : List Int) (w : World) {lo hi : Nat} (h : Ints w lo hi v xs) (hc : Six c) (hv : wValid xs = true) (m : Int) (hm : sumL xs (idxI c xs.length) = m) :
    Calls Try.prog 73 #[.agg #[.int .u64 c, v]] w fun e w' => e = .returned (.int .i64 m) ∧ Below w.heap.size w w' := by
  obtain ⟨a, cap, hvv, hn, hcell⟩ := h.open
  subst hvv
  have HM := Lib.hid hm; clear hm
  have HV := Lib.hid hv; clear hv
  obtain ⟨s0, s1⟩ := hc
  have hl6 := (wValid_len HV.out).2
  go_enter Try.func73, Try.ntmps73
  go_wp2_with fail
  go_loop [3, 9] (fun q i => ∃ k : Nat, k ≤ xs.length ∧ i = .int .i64 k ∧ q = .int .i64 (sumL xs (idxI c k))) (fun _ i => xs.length - (intOf i).toNat)
  case atStart => exact ⟨0, Nat.zero_le _, rfl, rfl⟩
  case round =>
    obtain ⟨k, hk, rfl, rfl⟩ := hrel
    by_cases hlt : k < xs.length
    · obtain ⟨p, hi, hkc⟩ := hcell k hlt
      have hix := hi k rfl
      have hpl := lt_of_cell hkc
      obtain ⟨g0, g1⟩ := wValid_nth HV.out k hlt
      obtain ⟨t0, t1⟩ := sumL_range (w := xs) (idxI c k) fun j hj => wValid_nth HV.out j (by have := idxI_lt c k j hj; omega)
      have hil := idxI_len c k
      clear hi hcell
      cases hh : (inB ((k : Int) + 1) 1 6 && hasM c ((k : Int) + 1))
      · have HH := Lib.hid hh
        have HS := Lib.hid (show sumL xs (idxI c (k + 1)) = sumL xs (idxI c k) by simp only [idxI, hh, Bool.false_eq_true, if_false])
        clear hh
        go_wp2_with fail
        refine (has_any _ _ _ s0 s1 false HH.out).mono ?_
        rintro e w' ⟨rfl, rfl⟩
        go_wp2_with fail
        go_round
        case rel => exact ⟨k + 1, by omega, by go_num, by rw [HS.out]⟩
        case measure => simp [intOf]; omega
      · have HH := Lib.hid hh
        have HS := Lib.hid (show sumL xs (idxI c (k + 1)) = sumL xs (idxI c k) + nth xs k by simp only [idxI, hh, if_true]; exact sumL_snoc _ _ _)
        clear hh
        go_wp2_with fail
        refine (has_any _ _ _ s0 s1 true HH.out).mono ?_
        rintro e w' ⟨rfl, rfl⟩
        go_wp2_with fail
        go_round
        case rel => exact ⟨k + 1, by omega, by go_num, by rw [HS.out]⟩
        case measure => simp [intOf]; omega
    · have HS := Lib.hid (show sumL xs (idxI c k) = m by rw [← HM.out, show k = xs.length by omega])
      clear hcell
      go_wp2_with fail
      go_ret
      exact ⟨ret_int HS.out, (Below.refl _ _).alloc (Nat.le_refl _) _⟩

set_option maxHeartbeats 1000000 in
theorem l4Sum_any (v v2 : Value) (xs ys : List Int) (w : World) {lo hi lo2 hi2 : Nat} (h : Ints w lo hi v xs) (h2 : Ints w lo2 hi2 v2 ys) (hv : wValid xs = true) (hy : small ys) (hyl : ys.length ≤ 1000) (m : Int) (hm : sumL xs (idxS xs.length ys ys.length) = m) :
    Calls Try.prog 71 #[v, v2] w fun e w' => e = .returned (.int .i64 m) ∧ w = w' := by
  obtain ⟨a, cap, hvv, hn, hcell⟩ := h.open
  subst hvv
  obtain ⟨a2, cap2, hvv2, hn2, hcell2⟩ := h2.open
  subst hvv2
  have HM := Lib.hid hm; clear hm
  have HV := Lib.hid hv; clear hv
  have HY := Lib.hid hy; clear hy
  have hl6 := (wValid_len HV.out).2
  go_enter Try.func71, Try.ntmps71
  go_wp2_with fail
  go_loop [5, 6] (fun q i => ∃ k : Nat, k ≤ ys.length ∧ i = .int .i64 k ∧ q = .int .i64 (sumL xs (idxS xs.length ys k))) (fun _ i => ys.length - (intOf i).toNat)
  case atStart => exact ⟨0, Nat.zero_le _, rfl, rfl⟩
  case round =>
    obtain ⟨k, hk, rfl, rfl⟩ := hrel
    by_cases hlt : k < ys.length
    · obtain ⟨p, hi, hkc⟩ := hcell2 k hlt
      have hix := hi k rfl
      obtain ⟨y0, y1⟩ := HY.out _ (nth_mem hlt)
      obtain ⟨t0, t1⟩ := sumL_range (w := xs) (idxS xs.length ys k) fun j hj => wValid_nth HV.out j (idxS_lt k (fun i hi => (HY.out _ (nth_mem (xs := ys) (k := i) (by omega))).1) j hj)
      have hil := idxS_len xs.length ys k
      clear hi hcell2
      by_cases hle : nth ys k ≤ (xs.length : Int)
      · obtain ⟨p2, hi2, hkc2⟩ := hcell (nth ys k - 1).toNat (by omega)
        have hix2 := hi2 (nth ys k - 1) (by omega)
        obtain ⟨g0, g1⟩ := wValid_nth HV.out (nth ys k - 1).toNat (by omega)
        have HS := Lib.hid (show sumL xs (idxS xs.length ys (k + 1)) = sumL xs (idxS xs.length ys k) + nth xs (nth ys k - 1).toNat by simp only [idxS, hle, if_true]; exact sumL_snoc _ _ _)
        clear hi2 hcell
        generalize nth xs (nth ys k - 1).toNat = z at *
        go_wp2_with fail
        go_round
        case rel => exact ⟨k + 1, by omega, by go_num, by rw [HS.out]⟩
        case measure => simp [intOf]; omega
      · have HS := Lib.hid (show sumL xs (idxS xs.length ys (k + 1)) = sumL xs (idxS xs.length ys k) by simp only [idxS, hle, if_false])
        clear hcell
        go_wp2_with fail
        go_round
        case rel => exact ⟨k + 1, by omega, by go_num, by rw [HS.out]⟩
        case measure => simp [intOf]; omega
    · have HS := Lib.hid (show sumL xs (idxS xs.length ys k) = m by rw [← HM.out, show k = ys.length by omega])
      clear hcell hcell2
      go_wp2_with fail
      go_ret
      exact ⟨ret_int HS.out, rfl⟩

/-! ### the functions -/
def wSum (xs ys : List Int) : Int := if wValid xs && setValid ys then sumL xs (idxI (crewR ys) xs.length) else -1
theorem sum_same {xs ys : List Int} (h1 : wValid xs = true) (h2 : setValid ys = true) : sumL xs (idxS xs.length ys ys.length) = sumL xs (idxI (crewR ys) xs.length) := by
  have := idx_eq ys (valid_mem h2) ⟨xs.length, by have := (wValid_len h1).2; omega⟩
  rw [crewR_yes h2]
  exact congrArg (sumL xs) this.symm

set_option maxHeartbeats 1000000 in
theorem implWSum_any (v v2 : Value) (xs ys : List Int) (w : World) {lo hi lo2 hi2 : Nat} (h : Ints w lo hi v xs) (h2 : Ints w lo2 hi2 v2 ys) (m : Int) (hm : wSum xs ys = m) :
    Calls Try.prog 38 #[v, v2] w fun e w' => e = .returned (.int .i64 m) ∧ Below w.heap.size w w' := by
  obtain ⟨av, cv, hvv, _, _⟩ := h.open
  subst hvv
  have HM := Lib.hid hm; clear hm
  cases e2 : setValid ys
  · have E2 := Lib.hid e2; clear e2
    have HR := Lib.hid (show (-1 : Int) = m by rw [← HM.out]; simp [wSum, E2.out])
    go_enter Try.func38, Try.ntmps38
    go_wp2_with fail
    refine (readSet_any _ ys _ h2 _ false rfl E2.out).mono ?_
    rintro e w' ⟨rfl, rfl⟩
    go_wp2_with fail
    go_ret
    exact ⟨ret_int HR.out, Below.refl _ _⟩
  · have E2 := Lib.hid e2; clear e2
    cases e1 : wValid xs
    · have E1 := Lib.hid e1; clear e1
      have HR := Lib.hid (show (-1 : Int) = m by rw [← HM.out]; simp [wSum, E1.out])
      go_enter Try.func38, Try.ntmps38
      go_wp2_with fail
      refine (readSet_any _ ys _ h2 _ true rfl E2.out).mono ?_
      rintro e w' ⟨rfl, rfl⟩
      go_wp2_with fail
      refine (implWValid_any _ xs _ h false E1.out).mono ?_
      rintro e w' ⟨rfl, rfl⟩
      go_wp2_with fail
      go_ret
      exact ⟨ret_int HR.out, Below.refl _ _⟩
    · have E1 := Lib.hid e1; clear e1
      have HR := Lib.hid (show sumL xs (idxI (crewR ys) xs.length) = m by rw [← HM.out]; simp [wSum, E1.out, E2.out])
      go_enter Try.func38, Try.ntmps38
      go_wp2_with fail
      refine (readSet_any _ ys _ h2 _ true rfl E2.out).mono ?_
      rintro e w' ⟨rfl, rfl⟩
      go_wp2_with fail
      refine (implWValid_any _ xs _ h true E1.out).mono ?_
      rintro e w' ⟨rfl, rfl⟩
      go_wp2_with fail
      refine (sum_any _ _ xs _ h (crewR_six ys) E1.out m HR.out).mono ?_
      rintro e w1 ⟨rfl, hb⟩
      go_wp2_with fail
      go_ret
      exact ⟨rfl, hb⟩

set_option maxHeartbeats 1000000 in
theorem specWSum_any (v v2 : Value) (xs ys : List Int) (w : World) {lo hi lo2 hi2 : Nat} (h : Ints w lo hi v xs) (h2 : Ints w lo2 hi2 v2 ys) (m : Int) (hm : wSum xs ys = m) :
    Calls Try.prog 37 #[v, v2] w fun e w' => e = .returned (.int .i64 m) ∧ ∃ n, w' = w.drewN n := by
  have HM := Lib.hid hm; clear hm
  cases e1 : wValid xs
  · have E1 := Lib.hid e1; clear e1
    have HR := Lib.hid (show (-1 : Int) = m by rw [← HM.out]; simp [wSum, E1.out])
    go_enter Try.func37, Try.ntmps37
    go_wp2_with fail
    refine (specWValid_any _ xs _ h false E1.out).mono ?_
    rintro e w' ⟨rfl, rfl⟩
    go_wp2_with fail
    go_ret
    exact ⟨ret_int HR.out, drawn_refl _⟩
  · have E1 := Lib.hid e1; clear e1
    cases e2 : setValid ys
    · have E2 := Lib.hid e2; clear e2
      have HR := Lib.hid (show (-1 : Int) = m by rw [← HM.out]; simp [wSum, E2.out])
      go_enter Try.func37, Try.ntmps37
      go_wp2_with fail
      refine (specWValid_any _ xs _ h true E1.out).mono ?_
      rintro e w' ⟨rfl, rfl⟩
      go_wp2_with fail
      refine (specSetValid_any _ ys _ h2 false E2.out).mono ?_
      rintro e w1 ⟨rfl, hw1⟩
      go_wp2_with fail
      go_ret
      exact ⟨ret_int HR.out, hw1⟩
    · have E2 := Lib.hid e2; clear e2
      have HR := Lib.hid (show sumL xs (idxS xs.length ys ys.length) = m by rw [sum_same E1.out E2.out, ← HM.out]; simp [wSum, E1.out, E2.out])
      have HY := Lib.hid (valid_small E2.out).1
      have hyl := (valid_small E2.out).2
      go_enter Try.func37, Try.ntmps37
      go_wp2_with fail
      refine (specWValid_any _ xs _ h true E1.out).mono ?_
      rintro e w' ⟨rfl, rfl⟩
      go_wp2_with fail
      refine (specSetValid_any _ ys _ h2 true E2.out).mono ?_
      rintro e w1 ⟨rfl, hw1⟩
      go_wp2_with fail
      refine (l4Sum_any _ _ xs ys _ (h.below (drawn_below hw1)) (h2.below (drawn_below hw1)) E1.out HY.out (by omega) m HR.out).mono ?_
      rintro e w' ⟨rfl, rfl⟩
      go_wp2_with fail
      go_ret
      exact ⟨rfl, hw1⟩

def wMaj (xs : List Int) : Int := if wValid xs then sumL xs (idxI 63 xs.length) / 2 + 1 else 0
theorem sumI_range {xs : List Int} (h : wValid xs = true) (c : Int) : 0 ≤ sumL xs (idxI c xs.length) ∧ sumL xs (idxI c xs.length) ≤ 54 := by
  have hl := (wValid_len h).2
  have h1 := sumL_range (w := xs) (idxI c xs.length) fun j hj => wValid_nth h j (idxI_lt c _ j hj)
  have h2 := idxI_len c xs.length
  omega

set_option maxHeartbeats 1000000 in
theorem implWMaj_any (v : Value) (xs : List Int) (w : World) {lo hi : Nat} (h : Ints w lo hi v xs) (m : Int) (hm : wMaj xs = m) :
    Calls Try.prog 36 #[v] w fun e w' => e = .returned (.int .i64 m) ∧ Below w.heap.size w w' := by
  obtain ⟨av, cv, hvv, _, _⟩ := h.open
  subst hvv
  have HM := Lib.hid hm; clear hm
  cases e1 : wValid xs
  · have E1 := Lib.hid e1; clear e1
    have HR := Lib.hid (show (0 : Int) = m by rw [← HM.out]; simp [wMaj, E1.out])
    go_enter Try.func36, Try.ntmps36
    go_wp2_with fail
    refine (implWValid_any _ xs _ h false E1.out).mono ?_
    rintro e w' ⟨rfl, rfl⟩
    go_wp2_with fail
    go_ret
    exact ⟨ret_int HR.out, Below.refl _ _⟩
  · have E1 := Lib.hid e1; clear e1
    obtain ⟨r0, r1⟩ := sumI_range E1.out 63
    have HR := Lib.hid (show sumL xs (idxI 63 xs.length) / 2 + 1 = m by rw [← HM.out]; simp [wMaj, E1.out])
    generalize hq : sumL xs (idxI 63 xs.length) = q at *
    have HQ := Lib.hid hq; clear hq
    go_enter Try.func36, Try.ntmps36
    go_wp2_with fail
    refine (implWValid_any _ xs _ h true E1.out).mono ?_
    rintro e w' ⟨rfl, rfl⟩
    go_wp2_with fail
    refine (sum_any _ _ xs _ h ⟨by decide, by decide⟩ E1.out q HQ.out).mono ?_
    rintro e w1 ⟨rfl, hb⟩
    go_wp2_with fail
    go_ret
    exact ⟨ret_int HR.out, hb⟩

theorem all_small : small (bitsTo 63 6) ∧ (bitsTo 63 6).length ≤ 1000 := by
  have key : (∀ x ∈ bitsTo 63 6, 1 ≤ x ∧ x ≤ 6) ∧ (bitsTo 63 6).length ≤ 1000 := by decide +kernel
  exact key
theorem all_sum {xs : List Int} (h : wValid xs = true) : sumL xs (idxS xs.length (bitsTo 63 6) (bitsTo 63 6).length) = sumL xs (idxI 63 xs.length) := by
  have hv : setValid (bitsTo 63 6) = true := by decide +kernel
  have hc : crewR (bitsTo 63 6) = 63 := by decide +kernel
  rw [sum_same h hv, hc]

set_option maxHeartbeats 1000000 in
theorem specWMaj_any (v : Value) (xs : List Int) (w : World) {lo hi : Nat} (h : Ints w lo hi v xs) (m : Int) (hm : wMaj xs = m) :
    Calls Try.prog 35 #[v] w fun e w' => e = .returned (.int .i64 m) ∧ Below w.heap.size w w' := by
  have HM := Lib.hid hm; clear hm
  cases e1 : wValid xs
  · have E1 := Lib.hid e1; clear e1
    have HR := Lib.hid (show (0 : Int) = m by rw [← HM.out]; simp [wMaj, E1.out])
    go_enter Try.func35, Try.ntmps35
    go_wp2_with fail
    refine (specWValid_any _ xs _ h false E1.out).mono ?_
    rintro e w' ⟨rfl, rfl⟩
    go_wp2_with fail
    go_ret
    exact ⟨ret_int HR.out, Below.refl _ _⟩
  · have E1 := Lib.hid e1; clear e1
    obtain ⟨r0, r1⟩ := sumI_range E1.out 63
    have HR := Lib.hid (show sumL xs (idxI 63 xs.length) / 2 + 1 = m by rw [← HM.out]; simp [wMaj, E1.out])
    have HQ := Lib.hid (all_sum E1.out)
    generalize sumL xs (idxI 63 xs.length) = q at *
    have HA := Lib.hid all_small
    go_enter Try.func35, Try.ntmps35
    go_wp2_with fail
    refine (specWValid_any _ xs _ h true E1.out).mono ?_
    rintro e w' ⟨rfl, rfl⟩
    go_wp2_with fail
    refine (l1Masks_any _).mono ?_
    rintro e w' ⟨rfl, rfl⟩
    go_wp2_with fail
    refine (l1OfMask_any _ _ (by decide) (by decide) _ rfl).mono ?_
    rintro e w1 ⟨va, rfl, ho, hb⟩
    go_wp2_with fail
    refine (l4Sum_any _ _ xs _ _ (h.below hb) ho.ints E1.out HA.out.1 HA.out.2 q HQ.out).mono ?_
    rintro e w' ⟨rfl, rfl⟩
    go_wp2_with fail
    go_ret
    exact ⟨ret_int HR.out, hb⟩
end Go.Proofs.Ytgipgfhnkkpdkaa
