/-
  A transaction handed back: its writes a slice of the call's own, its block set and read.
-/
import Derived.Test.YtocinffmdciihaaDoorTxnD
namespace Go.Proofs.YtocinffmdciihaaDoor
open Go.RowKit
set_option linter.unusedVariables false

theorem own_form {w : World} {lo hi : Nat} {e : TypeId} {v : Value} {n sz : Nat} {cs : List Value} (h : Own w lo hi e v n sz cs) : ∃ a cap, v = .slice a n cap := by
  obtain ⟨_, _, a, cap, hv, _⟩ := h.sl
  exact ⟨a, cap, hv⟩

theorem own_form0 {w : World} {lo hi : Nat} {e : TypeId} {v : Value} {n m sz : Nat} {cs : List Value} (h : Own w lo hi e v (n + m) sz cs) (h0 : n = 0) : ∃ a cap, v = .slice a m cap := by
  subst h0
  rw [Nat.zero_add] at h
  exact own_form h

/-- a transaction of the call's own -/
def RetCopy (w : World) (rc : Int) (ws : List Int) (e : Ending) (w' : World) : Prop :=
  ∃ v, e = .returned (.agg #[.int .i64 rc, v]) ∧ IntsO w' w.heap.size w'.heap.size v ws ∧ Below w.heap.size w w'


/-- the result's block, set and read -/
theorem fin_op {w w8 : World} {R : Nat} {cs : Array Value} {rc : Int} {y : Value} {ws : List Int} {L : Nat} (hR : Blk w8 R cs 25) (hc : cs.size = 2) (hRl : w.heap.size ≤ R) (ho : IntsO w8 L w8.heap.size y ws) (hLR : R < L) (hB : Below w.heap.size w w8) :
    ((w8.setCell ⟨R, 0, none⟩ (.int .i64 rc)).setCell ⟨R, 1, none⟩ y).cell? ⟨R, 0, none⟩ = some (.int .i64 rc) ∧ ((w8.setCell ⟨R, 0, none⟩ (.int .i64 rc)).setCell ⟨R, 1, none⟩ y).cell? ⟨R, 1, none⟩ = some y ∧
    IntsO ((w8.setCell ⟨R, 0, none⟩ (.int .i64 rc)).setCell ⟨R, 1, none⟩ y) w.heap.size ((w8.setCell ⟨R, 0, none⟩ (.int .i64 rc)).setCell ⟨R, 1, none⟩ y).heap.size y ws ∧
    Below w.heap.size w ((w8.setCell ⟨R, 0, none⟩ (.int .i64 rc)).setCell ⟨R, 1, none⟩ y) := by
  have hk : Keep R (R + 1) w8 ((w8.setCell ⟨R, 0, none⟩ (.int .i64 rc)).setCell ⟨R, 1, none⟩ y) := keep_set2 (Keep.refl _ _ _) (Nat.le_refl _) (Nat.lt_succ_self _) _ _
  have b := (hR.set 0 (.int .i64 rc)).set 1 y
  have hl := hR.lt
  refine ⟨b.cell 0 ?_, b.cell 1 ?_, IntsO.wide (IntsO.keep ho hk (.inr (by omega))) (by omega) hk.size (Nat.le_refl _), hB.trans (hk.below hRl (by omega))⟩
  · obtain ⟨l⟩ := cs
    match l, hc with
    | [a, b], _ => rfl
  · obtain ⟨l⟩ := cs
    match l, hc with
    | [a, b], _ => rfl
end Go.Proofs.YtocinffmdciihaaDoor
