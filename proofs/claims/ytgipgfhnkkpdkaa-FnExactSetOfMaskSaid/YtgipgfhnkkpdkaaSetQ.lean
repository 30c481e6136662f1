/-
  More plain facts on member sets: what the statements on unions, intersections, differences, masks ask.
-/
import Derived.Test.YtgipgfhnkkpdkaaSetP
namespace Go.Proofs.Ytgipgfhnkkpdkaa
open Go.RowKit
set_option linter.unusedVariables false

theorem comb_union (xs ys : List Int) : combL mixOr xs ys = uniL xs ys := by
  unfold combL uniL
  cases h1 : setValid xs <;> cases h2 : setValid ys <;> try rfl
  simp only [Bool.and_self, if_true]
  rw [crewR_yes h1, crewR_yes h2]
  exact or_eq xs (valid_mem h1) ys (valid_mem h2)
theorem comb_inter (xs ys : List Int) : combL mixAnd xs ys = interL xs ys := by
  unfold combL interL
  cases h1 : setValid xs <;> cases h2 : setValid ys <;> try rfl
  simp only [Bool.and_self, if_true]
  rw [crewR_yes h1, crewR_yes h2]
  exact and_eq xs (valid_mem h1) ys (valid_mem h2)
theorem comb_minus (xs ys : List Int) : combL mixNot xs ys = minusL xs ys := by
  unfold combL minusL
  cases h1 : setValid xs <;> cases h2 : setValid ys <;> try rfl
  simp only [Bool.and_self, if_true]
  rw [crewR_yes h1, crewR_yes h2]
  exact not_eq xs (valid_mem h1) ys (valid_mem h2)
theorem sub_same (xs ys : List Int) : subR xs ys = subB xs ys := by
  unfold subR subB
  cases h1 : setValid xs <;> cases h2 : setValid ys <;> try rfl
  simp only [Bool.and_self, Bool.true_and]
  rw [crewR_yes h1, crewR_yes h2]
  exact sub_eq xs (valid_mem h1) ys (valid_mem h2)
theorem contains_out {xs : List Int} (h : setValid xs = true) {m : Int} (hm : inB m 1 6 = false) : xs.contains m = false := by
  rw [List.contains_eq_mem, decide_eq_false_iff_not]
  intro hx
  have := (valid_small h).1 m hx
  have := inB_false hm
  omega
theorem has_same (xs : List Int) (m : Int) : (setValid xs && (inB m 1 6 && hasM (crewR xs) m)) = (setValid xs && xs.contains m) := by
  cases h1 : setValid xs
  · rfl
  · cases h2 : inB m 1 6
    · rw [contains_out h1 h2]; rfl
    · obtain ⟨a, b⟩ := inB_true h2
      rw [crewR_yes h1]
      simp only [Bool.true_and]
      refine has_eq xs (valid_mem h1) m ?_
      have : m = 1 ∨ m = 2 ∨ m = 3 ∨ m = 4 ∨ m = 5 ∨ m = 6 := by omega
      rcases this with rfl | rfl | rfl | rfl | rfl | rfl <;> decide
def maskS (xs : List Int) : Int := if setValid xs then maskL xs else -1
theorem mask_same (xs : List Int) : maskR xs = maskS xs := by
  unfold maskR maskS
  cases h : setValid xs
  · rfl
  · simp only [if_true]
    rw [crewR_yes h]
    exact mask_eq xs (valid_mem h)
theorem ofMask_same (m : Int) : ofMaskL m = ofMaskS m := by
  unfold ofMaskL ofMaskS
  cases h : inB m 0 63
  · rfl
  · obtain ⟨a, b⟩ := inB_true h
    simp only [if_true]
    have := of_eq ⟨m.toNat, by omega⟩
    simp only at this
    rwa [show ((m.toNat : Nat) : Int) = m by omega] at this

theorem valid_ext {xs ys : List Int} (h1 : setValid xs = true) (h2 : setValid ys = true) (h : ∀ m : Int, xs.contains m = ys.contains m) : xs = ys := by
  have key : ∀ xs ∈ subs 6, ∀ ys ∈ subs 6, (∀ m ∈ [(1 : Int), 2, 3, 4, 5, 6], xs.contains m = ys.contains m) → xs = ys := by decide +kernel
  exact key xs (valid_mem h1) ys (valid_mem h2) fun m _ => h m
theorem uni_mem (xs ys : List Int) (k : Nat) (x : Int) : x ∈ uniTo xs ys k ↔ (1 ≤ x ∧ x ≤ k) ∧ (x ∈ xs ∨ x ∈ ys) := by
  induction k with
  | zero => simp only [uniTo, List.not_mem_nil, false_iff]; omega
  | succ k ih =>
    unfold uniTo
    by_cases e : x = (k : Int) + 1
    · subst e
      split
      · rename_i h
        simp only [List.contains_eq_mem, Bool.or_eq_true, decide_eq_true_eq] at h
        simp only [List.mem_append, List.mem_singleton, or_true, true_iff]
        exact ⟨by omega, h⟩
      · rename_i h
        simp only [List.contains_eq_mem, Bool.or_eq_true, decide_eq_true_eq] at h
        constructor
        · intro hx; exact ⟨by omega, (ih.1 hx).2⟩
        · intro hx; exact absurd hx.2 h
    · split
      · rw [List.mem_append, List.mem_singleton, ih]
        constructor
        · rintro (h | h)
          · exact ⟨by omega, h.2⟩
          · exact absurd h e
        · intro h; exact .inl ⟨by omega, h.2⟩
      · rw [ih]
        constructor
        · intro h; exact ⟨by omega, h.2⟩
        · intro h; exact ⟨by omega, h.2⟩
theorem uni_valid : ∀ xs ∈ subs 6, ∀ ys ∈ subs 6, setValid (uniTo xs ys 6) = true := by decide +kernel
theorem inter_valid : ∀ xs ∈ subs 6, ∀ ys ∈ subs 6, setValid (xs.filter (ys.contains ·)) = true := by decide +kernel
theorem minus_valid : ∀ xs ∈ subs 6, ∀ ys ∈ subs 6, setValid (xs.filter (!ys.contains ·)) = true := by decide +kernel
theorem bits_valid : ∀ i : Fin 64, setValid (bitsTo (i.val : Int) 6) = true := by decide +kernel
theorem bits_valid' {m : Int} (h : inB m 0 63 = true) : setValid (bitsTo m 6) = true := by
  obtain ⟨a, b⟩ := inB_true h
  have := bits_valid ⟨m.toNat, by omega⟩
  simp only at this
  rwa [show ((m.toNat : Nat) : Int) = m by omega] at this

/-! ### over lists that are valid: the plain values -/
theorem uniL_yes {xs ys : List Int} (h1 : setValid xs = true) (h2 : setValid ys = true) : uniL xs ys = uniTo xs ys 6 := by simp [uniL, h1, h2]
theorem interL_yes {xs ys : List Int} (h1 : setValid xs = true) (h2 : setValid ys = true) : interL xs ys = xs.filter (ys.contains ·) := by simp [interL, h1, h2]
theorem minusL_yes {xs ys : List Int} (h1 : setValid xs = true) (h2 : setValid ys = true) : minusL xs ys = xs.filter (!ys.contains ·) := by simp [minusL, h1, h2]
theorem uniL_valid {xs ys : List Int} (h1 : setValid xs = true) (h2 : setValid ys = true) : setValid (uniL xs ys) = true := by
  rw [uniL_yes h1 h2]; exact uni_valid xs (valid_mem h1) ys (valid_mem h2)
theorem interL_valid {xs ys : List Int} (h1 : setValid xs = true) (h2 : setValid ys = true) : setValid (interL xs ys) = true := by
  rw [interL_yes h1 h2]; exact inter_valid xs (valid_mem h1) ys (valid_mem h2)
theorem minusL_valid {xs ys : List Int} (h1 : setValid xs = true) (h2 : setValid ys = true) : setValid (minusL xs ys) = true := by
  rw [minusL_yes h1 h2]; exact minus_valid xs (valid_mem h1) ys (valid_mem h2)
theorem uniL_has {xs ys : List Int} (h1 : setValid xs = true) (h2 : setValid ys = true) (m : Int) : (uniL xs ys).contains m = (xs.contains m || ys.contains m) := by
  rw [uniL_yes h1 h2, Bool.eq_iff_iff]
  simp only [List.contains_eq_mem, Bool.or_eq_true, decide_eq_true_eq, uni_mem]
  constructor
  · exact fun h => h.2
  · intro h
    refine ⟨?_, h⟩
    rcases h with h | h
    · have := (valid_small h1).1 m h; omega
    · have := (valid_small h2).1 m h; omega
theorem interL_has {xs ys : List Int} (h1 : setValid xs = true) (h2 : setValid ys = true) (m : Int) : (interL xs ys).contains m = (xs.contains m && ys.contains m) := by
  rw [interL_yes h1 h2, Bool.eq_iff_iff]
  simp [List.mem_filter]
theorem minusL_has {xs ys : List Int} (h1 : setValid xs = true) (h2 : setValid ys = true) (m : Int) : (minusL xs ys).contains m = (xs.contains m && !ys.contains m) := by
  rw [minusL_yes h1 h2, Bool.eq_iff_iff]
  simp [List.mem_filter]

theorem uni_comm {xs ys : List Int} (h1 : setValid xs = true) (h2 : setValid ys = true) : uniL ys xs = uniL xs ys :=
  valid_ext (uniL_valid h2 h1) (uniL_valid h1 h2) fun m => by rw [uniL_has h2 h1, uniL_has h1 h2, Bool.or_comm]
theorem uni_assoc {xs ys zs : List Int} (h1 : setValid xs = true) (h2 : setValid ys = true) (h3 : setValid zs = true) : uniL (uniL xs ys) zs = uniL xs (uniL ys zs) :=
  valid_ext (uniL_valid (uniL_valid h1 h2) h3) (uniL_valid h1 (uniL_valid h2 h3)) fun m => by
    rw [uniL_has (uniL_valid h1 h2) h3, uniL_has h1 h2, uniL_has h1 (uniL_valid h2 h3), uniL_has h2 h3, Bool.or_assoc]
theorem uni_self {xs : List Int} (h1 : setValid xs = true) : uniL xs xs = xs :=
  valid_ext (uniL_valid h1 h1) h1 fun m => by rw [uniL_has h1 h1, Bool.or_self]
theorem valid_nil : setValid [] = true := rfl
theorem uni_nil {xs : List Int} (h1 : setValid xs = true) : uniL xs [] = xs :=
  valid_ext (uniL_valid h1 valid_nil) h1 fun m => by rw [uniL_has h1 valid_nil]; simp
theorem minus_meets {xs ys : List Int} (h1 : setValid xs = true) (h2 : setValid ys = true) : interL (minusL xs ys) ys = [] :=
  valid_ext (interL_valid (minusL_valid h1 h2) h2) valid_nil fun m => by
    rw [interL_has (minusL_valid h1 h2) h2, minusL_has h1 h2]; cases xs.contains m <;> cases ys.contains m <;> simp
theorem minus_back {xs ys : List Int} (h1 : setValid xs = true) (h2 : setValid ys = true) : uniL (minusL xs ys) (interL xs ys) = xs :=
  valid_ext (uniL_valid (minusL_valid h1 h2) (interL_valid h1 h2)) h1 fun m => by
    rw [uniL_has (minusL_valid h1 h2) (interL_valid h1 h2), minusL_has h1 h2, interL_has h1 h2]; cases xs.contains m <;> cases ys.contains m <;> rfl
theorem sizes : ∀ xs ∈ subs 6, ∀ ys ∈ subs 6, (uniTo xs ys 6).length + (xs.filter (ys.contains ·)).length = xs.length + ys.length ∧ maskL (uniTo xs ys 6) + maskL (xs.filter (ys.contains ·)) = maskL xs + maskL ys := by decide +kernel

theorem subTo_iff {xs ys : List Int} (n : Nat) : subTo xs ys n = true ↔ ∀ k, k < n → ys.contains (nth xs k) = true := by
  induction n with
  | zero => simp [subTo]
  | succ n ih =>
    simp only [subTo, Bool.and_eq_true, ih]
    constructor
    · intro h k hk
      by_cases e : k = n
      · subst e; exact h.2
      · exact h.1 k (by omega)
    · exact fun h => ⟨fun k hk => h k (by omega), h n (by omega)⟩
theorem subAll_iff {xs ys : List Int} : subAll xs ys = true ↔ ∀ x ∈ xs, x ∈ ys := by
  unfold subAll
  rw [subTo_iff]
  constructor
  · intro h x hx
    obtain ⟨k, hk, e⟩ := List.getElem_of_mem hx
    have := h k hk
    rw [nth_eq hk, e, List.contains_eq_mem, decide_eq_true_eq] at this
    exact this
  · intro h k hk
    rw [List.contains_eq_mem, decide_eq_true_eq]
    exact h _ (nth_mem hk)
theorem sub_trans {xs ys zs : List Int} (h1 : subB xs ys = true) (h2 : subB ys zs = true) : subB xs zs = true := by
  unfold subB at *
  simp only [Bool.and_eq_true] at *
  exact ⟨⟨h1.1.1, h2.1.2⟩, subAll_iff.2 fun x hx => subAll_iff.1 h2.2 x (subAll_iff.1 h1.2 x hx)⟩

/-! ### masks -/
theorem mask_back : ∀ xs ∈ subs 6, inB (maskL xs) 0 63 = true ∧ bitsTo (maskL xs) 6 = xs := by decide +kernel
theorem mask_of : ∀ i : Fin 64, maskL (bitsTo (i.val : Int) 6) = (i.val : Int) := by decide +kernel
theorem mask_of' {m : Int} (h : inB m 0 63 = true) : maskL (bitsTo m 6) = m := by
  obtain ⟨a, b⟩ := inB_true h
  have := mask_of ⟨m.toNat, by omega⟩
  simp only at this
  rwa [show ((m.toNat : Nat) : Int) = m by omega] at this
theorem mask_inj {xs ys : List Int} (h1 : setValid xs = true) (h2 : setValid ys = true) : (maskL xs == maskL ys) = (xs == ys) := by
  rw [Bool.eq_iff_iff, beq_iff_eq, beq_iff_eq]
  constructor
  · intro h
    rw [← (mask_back xs (valid_mem h1)).2, h, (mask_back ys (valid_mem h2)).2]
  · intro h; rw [h]
end Go.Proofs.Ytgipgfhnkkpdkaa
