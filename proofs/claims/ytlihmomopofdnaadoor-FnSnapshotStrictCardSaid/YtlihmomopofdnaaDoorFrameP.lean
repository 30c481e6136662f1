/-
  From a reading of a law's pairs to the plain sentences of the walks.
-/
import Derived.Test.YtlihmomopofdnaaDoorFrameR
import Derived.Test.YtlihmomopofdnaaDoorPair
namespace Go.Proofs.YtlihmomopofdnaaDoor
open Go.ChangeShapes Go.WideShapes Go.ChangeAt Go.RowKit
set_option linter.unusedVariables false
set_option maxRecDepth 100000

section
variable {H : Type} {enc : TypeId × Value → H} {W : World} {base : Nat} {v : Value} {d : DataW H} {p : List MemPlace}
def FitP (e : ByteArray × Int) : Prop := e.1.size ≤ maxLen ∧ I64 e.2
theorem pairs_in (hv : Value.okWide Tryd.prog W .any base 33 v) (h : DataW.Trod enc Tryd.prog W 0 (fun _ => true) true 33 v d p) :
    ∃ es, Prs W 0 W.heap.size v es ∧ ∀ e ∈ es, FitP e :=
  recs_in (E := encP) Tryd.underlying33 Tryd.underlying66 (by kernel_rfl) (by kernel_rfl) rfl (by decide)
    (fun vs hl hr => by
      obtain ⟨u0, e0, r0⟩ := hr 0 _ rfl
      obtain ⟨u1, e1, r1⟩ := hr 1 _ rfl
      obtain ⟨a, rfl, wa⟩ := r0.string Tryd.underlying9
      obtain ⟨b, rfl, wb⟩ := r1.int Tryd.underlying3
      refine ⟨(a, b), ?_, wa, i64_of_wf wb⟩
      match vs, hl with
      | [x, y], _ =>
        simp at e0 e1
        subst e0
        subst e1
        rfl) hv h
end
theorem fit_size {es : List (ByteArray × Int)} (h : ∀ e ∈ es, FitP e) : ∀ k, k < es.length → (pk es k).size ≤ maxLen := fun k hk => by
  have hm : es.getD k (ByteArray.empty, 0) ∈ es := by
    rw [List.getD_eq_getElem?_getD, List.getElem?_eq_getElem hk]
    exact List.getElem_mem hk
  exact (h _ hm).1
end Go.Proofs.YtlihmomopofdnaaDoor
