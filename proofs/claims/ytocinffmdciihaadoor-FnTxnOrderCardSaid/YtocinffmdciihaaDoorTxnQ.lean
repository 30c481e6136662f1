/-
  The walks of the reference's draws of transactions: DrawTxnStatus.
-/
import Derived.Test.YtocinffmdciihaaDoorTxnR
import Derived.Test.YtocinffmdciihaaDoorTxnF
namespace Go.Proofs.YtocinffmdciihaaDoor
open Go.RowKit
set_option linter.unusedVariables false

def RetDrawT (w : World) (e : Ending) (w' : World) : Prop :=
  ∃ rc ws vs, e = .returned (.agg #[.int .i64 rc, vs]) ∧ -1 ≤ rc ∧ rc ≤ 4 ∧ 1 ≤ ws.length ∧ ws.length ≤ 4 ∧ (∀ x ∈ ws, 0 ≤ x ∧ x ≤ 4) ∧ IntsO w' w.heap.size w'.heap.size vs ws ∧ Below w.heap.size w w'

set_option maxHeartbeats 1000000 in
theorem DrawTxnStatus_any (v : Value) (n : Nat) (w : World) {lo hi : Nat} (h : Bytes w lo hi v n) :
    Calls Tryd.prog 39 #[v] w (RetDrawT w) := by
  have hb0 : Below w.heap.size w (w.alloc (.cells #[.int .i64 0, .slice none 0 0] 25)) := (Below.refl _ _).alloc (Nat.le_refl _) _
  have hR := Blk.new w #[.int .i64 0, .slice none 0 0] 25
  replace h := h.below hb0
  have hl := hR.lt
  go_enter Tryd.func39, Tryd.ntmps39
  go_wp2_with fail
  generalize w.alloc (.cells #[.int .i64 0, .slice none 0 0] 25) = w0 at *
  refine (open_any v n _ h).mono ?_
  rintro e w1 ⟨rfl, hr1, hb1, hs1⟩
  replace hR := hR.below hb1
  have hB := below_step hb0 hb1 hb0.size
  clear hb1
  go_wp2_with fail
  refine (l92Txn_any _ 0 _ hr1 (by omega)).mono ?_
  rintro e w2 ⟨rc, ws, vs, rfl, rc0, rc1, l0, l1, hx, ho, hr2, hk2⟩
  obtain ⟨a, c, hv⟩ := own_form ho
  subst hv
  replace hR := hR.keep hk2 (.inl hl)
  have hs2 := hk2.size
  replace hB := hB.trans (hk2.below (B := w.heap.size) (by omega) (by omega))
  have r0 := hR.cell 0 rfl
  have r1 := hR.cell 1 rfl
  have f0 := hR.frozen 0
  have f1 := hR.frozen 1
  obtain ⟨e0, e1, ho2, hB2⟩ := fin_op (rc := rc) hR rfl (Nat.le_refl _) ho (by omega) hB
  clear hR hB ho hr2 hr1 hk2
  go_wp2_with fail
  exact bodyPost_ret (v := .agg #[.int .i64 rc, .slice a ws.length c]) (by simp [results, Tryd.results39, go_sem, e0, e1]) rfl ⟨_, ws, _, rfl, by omega, by omega, l0, l1, hx, ho2, hB2⟩
end Go.Proofs.YtocinffmdciihaaDoor
