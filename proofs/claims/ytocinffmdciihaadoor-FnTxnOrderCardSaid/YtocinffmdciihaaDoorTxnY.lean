/-
  Plain facts on the steps of transactions: a decided one stays decided, a valid one stays valid.
-/
import Derived.Test.YtocinffmdciihaaDoorTxnX
namespace Go.Proofs.YtocinffmdciihaaDoor
open Go.RowKit
set_option linter.unusedVariables false

theorem stepOf {P : Program} {f : FuncId} {args : Array Value} {w : World} {lo hi : Nat} {t : Int × List Int} (h : Calls P f args w (RetStep w lo hi t)) {r : Int} {l : List Int} (ht : t = (r, l)) :
    Calls P f args w (fun e w' => ∃ a c lo' hi', e = .returned (.agg #[.int .i64 r, .slice a l.length c]) ∧ Ints w' lo' hi' (.slice a l.length c) l ∧ ((lo' = lo ∧ hi' = hi) ∨ w.heap.size ≤ lo') ∧ Below w.heap.size w w') := by
  subst ht; exact h

theorem okOf {r : Int} {ws : List Int} (h0 : 0 ≤ r) (h3 : r ≤ 3) (l0 : 1 ≤ ws.length) (l1 : ws.length ≤ 4) (hr : rangeW ws = true) (hf : r = 2 → fullW ws = true) : txnOk r ws = true := by
  unfold txnOk lenW
  rw [inB_mk (n := r) (by omega) (by omega), inB_mk (n := (ws.length : Int)) (by omega) (by omega), hr]
  by_cases e : r = 2
  · rw [hf e]; simp
  · simp [e]
theorem range_set {ws : List Int} {k : Nat} {x : Int} (h : rangeW ws = true) (h0 : 0 ≤ x) (h1 : x ≤ 2) : rangeW (ws.set k x) = true := by
  unfold rangeW at h ⊢
  rw [List.all_eq_true] at h ⊢
  intro y hy
  rcases List.mem_or_eq_of_mem_set hy with h' | h'
  · exact h y h'
  · rw [h']; exact inB_mk h0 h1
theorem range_refuse {ws : List Int} (h : rangeW ws = true) : rangeW (refuse ws) = true := by
  unfold refuse
  split
  · exact range_set h (by omega) (by omega)
  · exact h
theorem ended_not {rc : Int} (h : isEnded rc = false) : rc ≠ 2 ∧ rc ≠ 3 := by
  unfold isEnded at h
  simp at h
  exact h
theorem ended_or {rc : Int} (h : isEnded rc = true) : rc = 2 ∨ rc = 3 := by
  unfold isEnded at h
  simp at h
  exact h
theorem full_nth {ws : List Int} (h : fullW ws = true) {k : Nat} (hk : k < ws.length) : nth ws k = 1 := by
  unfold fullW at h
  rw [List.all_eq_true] at h
  simpa using h _ (nth_mem hk)

/-- every step's answer, case by case -/
theorem step_cases {rc : Int} {ws : List Int} {n : Int} (h : txnOk rc ws = true) :
    stepR rc ws n = (rc, ws) ∨ (rc = 0 ∧ stepR rc ws n = (1, ws)) ∨ (rc = 1 ∧ fullW ws = true ∧ stepR rc ws n = (2, ws)) ∨ (isEnded rc = false ∧ ¬ (rc = 1 ∧ fullW ws = true) ∧ stepR rc ws n = (3, refuse ws)) ∨
      (∃ k, k < ws.length ∧ isEnded rc = false ∧ nth ws k = 0 ∧ stepR rc ws n = (rc, ws.set k 1)) := by
  have hn := Int.emod_nonneg n (b := 7) (by omega)
  unfold stepR
  by_cases h0 : n % 7 = 0
  · rw [if_pos h0]
    unfold stageR stageT
    rw [h]
    by_cases e : rc = 0
    · subst e; exact .inr (.inl ⟨rfl, rfl⟩)
    · have : (rc == 0) = false := beq_eq_false_iff_ne.2 e
      rw [this]; exact .inl rfl
  rw [if_neg h0]
  by_cases h1 : n % 7 = 1
  · rw [if_pos h1]
    unfold finishR finishT
    rw [h]
    cases e : (rc == 1 && fullW ws)
    · exact .inl rfl
    · simp at e
      exact .inr (.inr (.inl ⟨e.1, e.2, rfl⟩))
  rw [if_neg h1]
  by_cases h2 : n % 7 = 2
  · rw [if_pos h2]
    unfold recoverR recoverT
    rw [h]
    cases e : isEnded rc
    · cases e2 : (rc == 1 && fullW ws)
      · exact .inr (.inr (.inr (.inl ⟨rfl, fun hh => by simp [hh.1, hh.2] at e2, rfl⟩)))
      · simp at e2
        exact .inr (.inr (.inl ⟨e2.1, e2.2, rfl⟩))
    · exact .inl rfl
  rw [if_neg h2]
  by_cases h3 : n % 7 - 3 < ws.length
  · rw [if_pos h3]
    have hg : (decide (0 ≤ n % 7 - 3) && decide (n % 7 - 3 < (ws.length : Int))) = true := by
      rw [Bool.and_eq_true, decide_eq_true_iff, decide_eq_true_iff]; omega
    unfold writeR writeT
    rw [h, hg]
    cases e : (nth ws (n % 7 - 3).toNat != 0 || isEnded rc)
    · simp only [Bool.or_eq_false_iff] at e
      refine .inr (.inr (.inr (.inr ⟨(n % 7 - 3).toNat, by omega, e.2, by simpa using e.1, rfl⟩)))
    · exact .inl rfl
  · rw [if_neg h3]; exact .inl rfl
theorem step_ok {rc : Int} {ws : List Int} {n : Int} {r : Int} {l : List Int} (h : txnOk rc ws = true) (ht : stepR rc ws n = (r, l)) : txnOk r l = true := by
  obtain ⟨g0, g1, g2, g3, g4, g5⟩ := txnOk_parts h
  rcases step_cases (n := n) h with e | ⟨e1, e⟩ | ⟨e1, e2, e⟩ | ⟨e1, e2, e⟩ | ⟨k, hk, e1, e2, e⟩
  all_goals
    rw [ht] at e
    cases e
  · exact h
  · exact okOf (by omega) (by omega) g2 g3 g4 (by omega)
  · exact okOf (by omega) (by omega) g2 g3 g4 fun _ => e2
  · exact okOf (by omega) (by omega) (by rw [refuse_len]; exact g2) (by rw [refuse_len]; exact g3) (range_refuse g4) (by omega)
  · exact okOf g0 g1 (by simpa using g2) (by simpa using g3) (range_set g4 (by omega) (by omega)) fun e => absurd e (ended_not e1).1
theorem stat_parts {rc : Int} {ws : List Int} {s : Int} (h : txnStat rc ws = s) (hs : 2 ≤ s) : txnOk rc ws = true ∧ ((s = 2 ∧ (rc = 2 ∨ (rc = 1 ∧ fullW ws = true))) ∨ (s = 3 ∧ rc = 3)) := by
  unfold txnStat at h
  cases hv : txnOk rc ws
  · rw [hv] at h; simp at h; omega
  · rw [hv, if_pos rfl] at h
    refine ⟨rfl, ?_⟩
    unfold statOf at h
    split at h
    · rename_i e
      simp at e
      exact .inl ⟨h.symm, e⟩
    · split at h
      · rename_i e
        exact .inr ⟨h.symm, by simpa using e⟩
      · omega
theorem step_keeps {rc : Int} {ws : List Int} {n s : Int} {r : Int} {l : List Int} (h : txnStat rc ws = s) (hs : 2 ≤ s) (ht : stepR rc ws n = (r, l)) : txnStat r l = s := by
  obtain ⟨hv, hc⟩ := stat_parts h hs
  have hok := step_ok hv ht
  rcases step_cases (n := n) hv with e | ⟨e1, e⟩ | ⟨e1, e2, e⟩ | ⟨e1, e2, e⟩ | ⟨k, hk, e1, e2, e⟩
  all_goals
    rw [ht] at e
    cases e
  · exact h
  · omega
  · unfold txnStat
    rw [hok, if_pos rfl]
    rcases hc with ⟨e, _⟩ | ⟨_, e⟩
    · rw [e]; rfl
    · omega
  · have := ended_not e1
    rcases hc with ⟨_, e | e⟩ | ⟨_, e⟩
    · exact absurd e this.1
    · exact absurd e e2
    · exact absurd e this.2
  · have := ended_not e1
    rcases hc with ⟨_, e | e⟩ | ⟨_, e⟩
    · exact absurd e this.1
    · have := full_nth e.2 hk
      omega
    · exact absurd e this.2
theorem stat_full {rc : Int} {ws : List Int} (h : txnStat rc ws = 2) : fullW ws = true := by
  obtain ⟨hv, hc⟩ := stat_parts h (by omega)
  obtain ⟨g0, g1, g2, g3, g4, g5⟩ := txnOk_parts hv
  rcases hc with ⟨_, e | e⟩ | ⟨e, _⟩
  · exact g5 e
  · exact e.2
  · omega

/-! ### the order of the writes in FnTxnOrder -/
def ordS (n m : Nat) : Nat → List Int
  | 0 => List.replicate n 0
  | k + 1 => (ordS n m k).set ((k + m) % n) 1
theorem ordS_len (n m : Nat) : ∀ k, (ordS n m k).length = n
  | 0 => by simp [ordS]
  | k + 1 => by simp [ordS, ordS_len n m k]
theorem ordS_mod (n m : Nat) : ∀ k, ordS n m k = ordS n (m % n) k
  | 0 => rfl
  | k + 1 => by
    unfold ordS
    rw [ordS_mod n m k, Nat.add_mod_mod]
def ordOk (n a k : Nat) : Bool := rangeW (ordS n a k) && (if k < n then !fullW (ordS n a k) && nth (ordS n a k) ((k + a) % n) == 0 else fullW (ordS n a k))
theorem ord_table : ((List.range 5).all fun n => (List.range n).all fun a => (List.range (n + 1)).all fun k => ordOk n a k) = true := by decide +kernel
theorem ord_at {n m k : Nat} (h0 : 1 ≤ n) (h1 : n ≤ 4) (hk : k ≤ n) : rangeW (ordS n m k) = true ∧ (k < n → fullW (ordS n m k) = false ∧ nth (ordS n m k) ((k + m) % n) = 0) ∧ (k = n → fullW (ordS n m k) = true) := by
  have h := ord_table
  rw [List.all_eq_true] at h
  have h := h n (List.mem_range.2 (by omega))
  rw [List.all_eq_true] at h
  have h := h (m % n) (List.mem_range.2 (Nat.mod_lt _ (by omega)))
  rw [List.all_eq_true] at h
  have h := h k (List.mem_range.2 (by omega))
  unfold ordOk at h
  rw [← ordS_mod, Nat.add_mod_mod, Bool.and_eq_true] at h
  refine ⟨h.1, fun hlt => ?_, fun e => ?_⟩
  · have h2 := h.2
    rw [if_pos hlt] at h2
    simpa using h2
  · have h2 := h.2
    rw [if_neg (by omega)] at h2
    exact h2
end Go.Proofs.YtocinffmdciihaaDoor
