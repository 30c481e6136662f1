/-
  What the functions on member sets compute, as plain functions on lists of numbers.
-/
import Derived.Test.YtocinffmdciihaaDoorBase
namespace Go.Proofs.YtocinffmdciihaaDoor
open Go.RowKit
set_option linter.unusedVariables false

def inB (n lo hi : Int) : Bool := decide (lo ≤ n) && decide (n ≤ hi)
theorem inB_true {n lo hi : Int} (h : inB n lo hi = true) : lo ≤ n ∧ n ≤ hi := by simpa [inB] using h
theorem inB_mk {n lo hi : Int} (h1 : lo ≤ n) (h2 : n ≤ hi) : inB n lo hi = true := by simp [inB, h1, h2]
theorem inB_false {n lo hi : Int} (h : inB n lo hi = false) : n < lo ∨ hi < n := by
  simp only [inB, Bool.and_eq_false_iff, decide_eq_false_iff_not] at h; omega
theorem inB_mkF {n lo hi : Int} (h : n < lo ∨ hi < n) : inB n lo hi = false := by
  simp only [inB, Bool.and_eq_false_iff, decide_eq_false_iff_not]; omega

/-- the k-th member is in range and above the one before it -/
def stepOk (xs : List Int) (k : Nat) : Bool := inB (nth xs k) 1 6 && !(decide (0 < k) && decide (nth xs k ≤ nth xs (k - 1)))
def validTo (xs : List Int) : Nat → Bool
  | 0 => true
  | k + 1 => validTo xs k && stepOk xs k
def setValid (xs : List Int) : Bool := validTo xs xs.length
theorem validTo_false {xs : List Int} {k : Nat} (h : validTo xs k = false) : ∀ n, k ≤ n → validTo xs n = false := by
  intro n hn
  induction n with
  | zero => obtain rfl : k = 0 := by omega
            exact h
  | succ n ih =>
    by_cases e : k = n + 1
    · subst e; exact h
    · simp [validTo, ih (by omega)]
theorem validTo_step {xs : List Int} {k : Nat} (h : validTo xs k = true) (hs : stepOk xs k = true) : validTo xs (k + 1) = true := by simp [validTo, h, hs]
theorem valid_stop {xs : List Int} {k : Nat} (hk : k < xs.length) (hs : stepOk xs k = false) : setValid xs = false :=
  validTo_false (k := k + 1) (by simp [validTo, hs]) _ hk
theorem valid_end {xs : List Int} {k : Nat} (hk : k ≤ xs.length) (hk' : ¬ k < xs.length) (h : validTo xs k = true) : setValid xs = true := by
  obtain rfl : k = xs.length := by omega
  exact h
theorem stepOk_cases (xs : List Int) (k : Nat) (v : Bool) (h : stepOk xs k = v) :
    (inB (nth xs k) 1 6 = false ∧ v = false) ∨
    (inB (nth xs k) 1 6 = true ∧ k = 0 ∧ v = true) ∨
    (inB (nth xs k) 1 6 = true ∧ 0 < k ∧ nth xs k ≤ nth xs (k - 1) ∧ v = false) ∨
    (inB (nth xs k) 1 6 = true ∧ 0 < k ∧ nth xs (k - 1) < nth xs k ∧ v = true) := by
  subst h
  unfold stepOk
  cases h1 : inB (nth xs k) 1 6
  · simp
  · by_cases h0 : k = 0
    · simp [h0]
    · by_cases h2 : nth xs k ≤ nth xs (k - 1)
      · right; right; left; simp [h2]; omega
      · right; right; right; simp [h2]; omega

/-! ### the crew: a set of bits -/
def withM (c m : Int) : Int := bits .or .u64 c (IntKind.u64.wrap (2 ^ (m.toNat - 1)))
def hasM (c m : Int) : Bool := bits .and .u64 (c / 2 ^ (m.toNat - 1)) 1 == 1
def crewTo (xs : List Int) : Nat → Int
  | 0 => 0
  | k + 1 => withM (crewTo xs k) (nth xs k)
def crewOf (xs : List Int) : Int := crewTo xs xs.length
/-- c fits the six members. -/
def Six (c : Int) : Prop := 0 ≤ c ∧ c < 64
theorem withM_six {c m : Int} (h : Six c) (h1 : 1 ≤ m) (h2 : m ≤ 6) : Six (withM c m) := by
  obtain ⟨a, b⟩ := h
  have key : ∀ i : Fin 64, ∀ j : Fin 6, 0 ≤ withM (i.val : Int) (j.val + 1 : Int) ∧ withM (i.val : Int) (j.val + 1 : Int) < 64 := by decide +kernel
  have := key ⟨c.toNat, by omega⟩ ⟨(m - 1).toNat, by omega⟩
  simp only at this
  have e1 : ((c.toNat : Nat) : Int) = c := by omega
  have e2 : (((m - 1).toNat : Nat) : Int) + 1 = m := by omega
  rw [e1, e2] at this
  exact this
theorem crewTo_six {xs : List Int} (k : Nat) (h : validTo xs k = true) : Six (crewTo xs k) := by
  induction k with
  | zero => exact ⟨by simp [crewTo], by simp [crewTo]⟩
  | succ k ih =>
    simp only [validTo, stepOk, Bool.and_eq_true] at h
    obtain ⟨h1, h2⟩ := inB_true h.2.1
    exact withM_six (ih h.1) h1 h2

/-- what readSet makes of a list -/
def crewR (xs : List Int) : Int := if setValid xs then crewOf xs else 0
theorem crewR_yes {xs : List Int} (h : setValid xs = true) : crewR xs = crewTo xs xs.length := by simp [crewR, h, crewOf]
theorem crewR_no {xs : List Int} (h : setValid xs = false) : crewR xs = 0 := by simp [crewR, h]
theorem crewR_six (xs : List Int) : Six (crewR xs) := by
  cases h : setValid xs
  · rw [crewR_no h]; exact ⟨by decide, by decide⟩
  · rw [crewR_yes h]; exact crewTo_six _ h

/-- the members of c below k + 1, ascending -/
def memTo (c : Int) : Nat → List Int
  | 0 => []
  | k + 1 => if hasM c (k + 1) then memTo c k ++ [((k : Int) + 1)] else memTo c k
def membersOf (c : Int) : List Int := memTo c 6
theorem memTo_len (c : Int) (k : Nat) : (memTo c k).length ≤ k := by
  induction k with
  | zero => simp [memTo]
  | succ k ih => 
    unfold memTo; split
    · rw [List.length_append]; simp; omega
    · omega

/-- union as the reference makes it -/
def uniTo (xs ys : List Int) : Nat → List Int
  | 0 => []
  | k + 1 => if xs.contains ((k : Int) + 1) || ys.contains ((k : Int) + 1) then uniTo xs ys k ++ [((k : Int) + 1)] else uniTo xs ys k
theorem uniTo_len (xs ys : List Int) (k : Nat) : (uniTo xs ys k).length ≤ k := by
  induction k with
  | zero => simp [uniTo]
  | succ k ih => 
    unfold uniTo; split
    · rw [List.length_append]; simp; omega
    · omega

/-- what a combination of two member sets gives -/
def combL (f : Int → Int → Int) (xs ys : List Int) : List Int := if setValid xs && setValid ys then membersOf (f (crewR xs) (crewR ys)) else []
def mixOr (x y : Int) : Int := bits .or .u64 x y
def mixAnd (x y : Int) : Int := bits .and .u64 x y
def mixNot (x y : Int) : Int := bits .andNot .u64 x y
theorem six_mix (f : Int → Int → Int) (key : ∀ i j : Fin 64, 0 ≤ f (i.val : Int) (j.val : Int) ∧ f (i.val : Int) (j.val : Int) < 64) {x y : Int} (h : Six x) (k : Six y) : Six (f x y) := by
  obtain ⟨a, b⟩ := h; obtain ⟨c, d⟩ := k
  have := key ⟨x.toNat, by omega⟩ ⟨y.toNat, by omega⟩
  simp only at this
  have e1 : ((x.toNat : Nat) : Int) = x := by omega
  have e2 : ((y.toNat : Nat) : Int) = y := by omega
  rw [e1, e2] at this
  exact this
theorem six_or {x y : Int} (h : Six x) (k : Six y) : Six (mixOr x y) := six_mix mixOr (by decide +kernel) h k
theorem six_and {x y : Int} (h : Six x) (k : Six y) : Six (mixAnd x y) := six_mix mixAnd (by decide +kernel) h k
theorem six_not {x y : Int} (h : Six x) (k : Six y) : Six (mixNot x y) := six_mix mixNot (by decide +kernel) h k

/-! ### what a call hands back -/
/-- a slice of ints of the call's own; what was there stands -/
def RetInts (w : World) (xs : List Int) (e : Ending) (w' : World) : Prop :=
  ∃ v, e = .returned v ∧ IntsO w' w.heap.size w'.heap.size v xs ∧ Below w.heap.size w w'
/-- the same, and a bool -/
def RetIntsB (w : World) (xs : List Int) (r : Bool) (e : Ending) (w' : World) : Prop :=
  ∃ v, e = .returned (.tuple #[v, .bool r]) ∧ IntsO w' w.heap.size w'.heap.size v xs ∧ Below w.heap.size w w'

/-! ### contains -/
theorem take_succ_contains (xs : List Int) (k : Nat) (m : Int) (h : k < xs.length) :
    (xs.take (k + 1)).contains m = ((xs.take k).contains m || (nth xs k == m)) := by
  rw [take_snoc h, List.contains_eq_mem, List.contains_eq_mem, Bool.eq_iff_iff]
  simp only [List.mem_append, List.mem_singleton, decide_eq_true_eq, Bool.or_eq_true, beq_iff_eq, eq_comm (a := m)]
theorem contains_of_nth {xs : List Int} {k : Nat} {m : Int} (h : k < xs.length) (e : (nth xs k == m) = true) : xs.contains m = true := by
  rw [List.contains_eq_mem, decide_eq_true_eq, ← beq_iff_eq.1 e]
  exact nth_mem h
end Go.Proofs.YtocinffmdciihaaDoor
