/-
  From a reading of a law's transaction to the plain sentences of the walks.
-/
import Derived.Test.YtocinffmdciihaaDoorFrameR
namespace Go.Proofs.YtocinffmdciihaaDoor
open Go.ChangeShapes Go.WideShapes Go.ChangeAt Go.RowKit
set_option linter.unusedVariables false
set_option maxRecDepth 100000

section
variable {H : Type} {enc : TypeId × Value → H} {W : World} {base : Nat} {v : Value} {d : DataW H} {p : List MemPlace}
theorem Reads.slice {T E : TypeId} {k : IntKind} (ht : Tryd.prog.underlying T = some (.slice E)) (he : Tryd.prog.underlying E = some (.int k)) (hc : Tryd.prog.cellsOf E = 1)
    (h : Reads enc W T v) : ∃ zs : List Int, Sl W 0 W.heap.size v zs.length 1 (zs.map (.int k)) ∧ ∀ z ∈ zs, (Lit.int k z).wf = true := by
  obtain ⟨y, fuel, hf⟩ := h
  obtain ⟨y1, y2⟩ := y
  rcases open_ints ht he hc hf with ⟨hcs, _⟩ | ⟨x, len0, cap0, zs, hcs, _, hl, hm, hz, _, hcell, hwz⟩
  · simp at hcs
    subst hcs
    exact ⟨[], ⟨rfl, Nat.le_refl _, none, 0, rfl, ⟨Nat.zero_le _, Nat.zero_le _, fun _ => rfl⟩, fun h => absurd h (by simp)⟩, by simp⟩
  · simp at hcs
    subst hcs
    have hz' : zs.length = cap0 := by simpa using hz
    have hlen : (zs.take len0).length = len0 := by rw [List.length_take]; omega
    refine ⟨zs.take len0, ⟨by rw [List.length_map]; omega, Nat.le_refl _, some x, cap0, by rw [hlen], ⟨by omega, hm, fun h => by cases h⟩, fun h0 => ?_⟩, fun z hz => hwz z (List.mem_of_mem_take hz)⟩
    obtain ⟨b, off, spot⟩ := x
    have hsp : spot = none := by simpa [Addr.add] using World.cell?_spot (hcell 0 (by omega))
    subst hsp
    refine ⟨b, off, rfl, Nat.zero_le _, by have := World.block_lt_of_cell? _ _ (hcell 0 (by omega)); simpa [Addr.add] using this, fun j u hu => ?_⟩
    rw [List.map_take, List.getElem?_take] at hu
    split at hu
    · rename_i hj
      have := hcell j (by omega)
      rw [Addr.add_lit] at this
      rw [this]
      rw [← hu]
      simp [List.getD, show j < zs.length by omega]
    · cases hu
theorem txn_in (hv : Value.okWide Tryd.prog W .any base 37 v) (h : DataW.Trod enc Tryd.prog W 0 (fun _ => true) true 37 v d p) :
    ∃ rc vs xs, v = .agg #[.int .i64 rc, vs] ∧ I64 rc ∧ Ints W 0 W.heap.size vs xs ∧ ∀ x ∈ xs, I64 x := by
  obtain ⟨us, rfl, hl, hr⟩ := agg_in Tryd.underlying37 (by kernel_rfl) (by kernel_rfl) hv h
  obtain ⟨u0, e0, r0⟩ := hr 0 _ rfl
  obtain ⟨u1, e1, r1⟩ := hr 1 _ rfl
  obtain ⟨a, rfl, wa⟩ := r0.int Tryd.underlying3
  obtain ⟨zs, hs, hw⟩ := Reads.slice (k := .i64) elInt.under Tryd.underlying3 (by kernel_rfl) r1
  refine ⟨a, u1, zs, ?_, i64_of_wf wa, hs, fun z hz => i64_of_wf (hw z hz)⟩
  match us, hl with
  | [x, y], _ =>
    simp at e0 e1
    subst e0
    subst e1
    rfl
end
end Go.Proofs.YtocinffmdciihaaDoor
