/-
  What the transitions of a transaction make of it, as plain functions: the record, the writes, whether the transition was legal.
-/
import Derived.Test.YtocinffmdciihaaDoorTxnV
namespace Go.Proofs.YtocinffmdciihaaDoor
open Go.RowKit
set_option linter.unusedVariables false

/-- the first write that is no intent refuses it -/
def refuse (ws : List Int) : List Int := if 0 ≤ idxP (fun x => x != 1) ws then ws.set (idxP (fun x => x != 1) ws).toNat 2 else ws

/-- what a transition makes of a valid transaction: record, writes, legal -/
def stageT (rc : Int) (ws : List Int) : Int × List Int × Bool := if rc == 0 then (1, ws, true) else (rc, ws, false)
def finishT (rc : Int) (ws : List Int) : Int × List Int × Bool := if rc == 1 && fullW ws then (2, ws, true) else (rc, ws, false)
def recoverT (rc : Int) (ws : List Int) : Int × List Int × Bool := if isEnded rc then (rc, ws, false) else if rc == 1 && fullW ws then (2, ws, true) else (3, refuse ws, true)
def writeT (rc : Int) (ws : List Int) (r : Int) : Int × List Int × Bool := if nth ws r.toNat != 0 || isEnded rc then (rc, ws, false) else (rc, ws.set r.toNat 1, true)

def gate (ok : Bool) (t : Int × List Int × Bool) : Int × List Int × Bool := if ok then t else (0, [], false)
def stageR (rc : Int) (ws : List Int) := gate (txnOk rc ws) (stageT rc ws)
def finishR (rc : Int) (ws : List Int) := gate (txnOk rc ws) (finishT rc ws)
def recoverR (rc : Int) (ws : List Int) := gate (txnOk rc ws) (recoverT rc ws)
def writeR (rc : Int) (ws : List Int) (r : Int) := gate (txnOk rc ws && (decide (0 ≤ r) && decide (r < ws.length))) (writeT rc ws r)

theorem idxP_lt {p : Int → Bool} {xs : List Int} : idxP p xs < xs.length := by
  unfold idxP
  cases e : xs.findIdx? p with
  | none => simp; omega
  | some k =>
    rw [List.findIdx?_eq_some_iff_getElem] at e
    obtain ⟨hk, _⟩ := e
    simp
    exact hk
theorem idxP_ge {p : Int → Bool} {xs : List Int} : -1 ≤ idxP p xs := by
  unfold idxP
  cases e : xs.findIdx? p <;> (dsimp only; omega)
theorem idxP_holds {p : Int → Bool} {xs : List Int} (h : 0 ≤ idxP p xs) : p (nth xs (idxP p xs).toNat) = true ∧ ∀ j, j < (idxP p xs).toNat → p (nth xs j) = false := by
  unfold idxP at h ⊢
  cases e : xs.findIdx? p with
  | none => rw [e] at h; simp at h
  | some k =>
    have e' := e
    rw [List.findIdx?_eq_some_iff_getElem] at e'
    obtain ⟨hk, hp, hb⟩ := e'
    simp
    exact ⟨by rw [nth_eq hk]; exact hp, fun j hj => by rw [nth_eq (by omega)]; simpa using hb j hj⟩
theorem refuse_len (ws : List Int) : (refuse ws).length = ws.length := by unfold refuse; split <;> simp
theorem gate_len {ok : Bool} {t : Int × List Int × Bool} {n : Nat} (h : t.2.1.length ≤ n) : (gate ok t).2.1.length ≤ n := by
  unfold gate; cases ok <;> simp [h]
theorem stageT_len (rc : Int) (ws : List Int) : (stageT rc ws).2.1.length = ws.length := by unfold stageT; split <;> rfl
theorem finishT_len (rc : Int) (ws : List Int) : (finishT rc ws).2.1.length = ws.length := by unfold finishT; split <;> rfl
theorem recoverT_len (rc : Int) (ws : List Int) : (recoverT rc ws).2.1.length = ws.length := by unfold recoverT; split <;> (try split) <;> simp [refuse_len]
theorem writeT_len (rc : Int) (ws : List Int) (r : Int) : (writeT rc ws r).2.1.length = ws.length := by unfold writeT; split <;> simp
end Go.Proofs.YtocinffmdciihaaDoor
