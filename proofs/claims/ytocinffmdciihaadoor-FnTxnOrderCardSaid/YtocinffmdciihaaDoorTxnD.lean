/-
  What the functions on transactions compute, as plain functions.
-/
import Derived.Test.YtocinffmdciihaaDoorSetD
import Derived.Test.YtocinffmdciihaaDoorRecB
namespace Go.Proofs.YtocinffmdciihaaDoor
open Go.RowKit
set_option linter.unusedVariables false

def fullW (ws : List Int) : Bool := ws.all fun x => x == 1
def rangeW (ws : List Int) : Bool := ws.all fun x => inB x 0 2
def lenW (ws : List Int) : Bool := inB ws.length 1 4
def txnOk (rc : Int) (ws : List Int) : Bool := inB rc 0 3 && lenW ws && rangeW ws && (rc != 2 || fullW ws)
def statOf (rc : Int) (ws : List Int) : Int := if rc == 2 || (rc == 1 && fullW ws) then 2 else if rc == 3 then 3 else 0
def txnStat (rc : Int) (ws : List Int) : Int := if txnOk rc ws then statOf rc ws else -1
theorem lenW_true {ws : List Int} (h : lenW ws = true) : 1 ≤ ws.length ∧ ws.length ≤ 4 := by
  unfold lenW at h
  have := inB_true h
  omega
theorem txnOk_parts {rc : Int} {ws : List Int} (h : txnOk rc ws = true) : 0 ≤ rc ∧ rc ≤ 3 ∧ 1 ≤ ws.length ∧ ws.length ≤ 4 ∧ rangeW ws = true ∧ (rc = 2 → fullW ws = true) := by
  unfold txnOk at h
  simp only [Bool.and_eq_true] at h
  obtain ⟨⟨⟨h1, h2⟩, h3⟩, h4⟩ := h
  have := inB_true h1
  have := lenW_true h2
  refine ⟨by omega, by omega, by omega, by omega, h3, fun e => ?_⟩
  subst e
  simpa using h4

/-- the place of the first element of which p holds; -1 if there is none -/
def idxP (p : Int → Bool) (xs : List Int) : Int := match xs.findIdx? p with | some k => k | none => -1
theorem idxP_at {p : Int → Bool} {xs : List Int} {k : Nat} (hk : k < xs.length) (h : p (nth xs k) = true) (hb : ∀ j, j < k → p (nth xs j) = false) : idxP p xs = k := by
  have e : xs.findIdx? p = some k := by
    rw [List.findIdx?_eq_some_iff_getElem]
    refine ⟨hk, by rw [← nth_eq hk]; exact h, fun j hj => ?_⟩
    rw [← nth_eq (by omega), hb j hj]
    simp
  simp [idxP, e]
theorem idxP_none {p : Int → Bool} {xs : List Int} (hb : ∀ j, j < xs.length → p (nth xs j) = false) : idxP p xs = -1 := by
  have e : xs.findIdx? p = none := by
    rw [List.findIdx?_eq_none_iff]
    intro x hx
    obtain ⟨j, hj, e⟩ := List.getElem_of_mem hx
    rw [← e, ← nth_eq hj, hb j hj]
  simp [idxP, e]
theorem idxP_any {p : Int → Bool} {xs : List Int} : decide (0 ≤ idxP p xs) = xs.any p := by
  unfold idxP
  cases e : xs.findIdx? p with
  | none =>
    rw [List.findIdx?_eq_none_iff] at e
    have : xs.any p = false := by rw [List.any_eq_false]; exact fun x hx => by rw [e x hx]; simp
    rw [this]
    rfl
  | some k =>
    rw [List.findIdx?_eq_some_iff_getElem] at e
    obtain ⟨hk, h, _⟩ := e
    have : xs.any p = true := List.any_eq_true.2 ⟨_, List.getElem_mem hk, h⟩
    rw [this]
    simp
theorem any_not_full (ws : List Int) : ws.any (fun x => x != 1) = !fullW ws := by
  unfold fullW
  rw [List.not_all_eq_any_not]
  rfl
theorem any_not_range (ws : List Int) : ws.any (fun x => !inB x 0 2) = !rangeW ws := by
  unfold rangeW
  rw [List.not_all_eq_any_not]
end Go.Proofs.YtocinffmdciihaaDoor
