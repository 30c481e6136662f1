/-
  From a reading of a law's log, and of an entry, to the plain sentences of the walks.
-/
import Derived.Test.YthehnpkjnilgiaaFrameR
import Derived.Test.YthehnpkjnilgiaaLogW
namespace Go.Proofs.Ythehnpkjnilgiaa
open Go.ChangeShapes Go.WideShapes Go.ChangeAt Go.RowKit
set_option linter.unusedVariables false

section
variable {H : Type} {enc : TypeId × Value → H} {W : World} {base : Nat} {v : Value} {d : DataW H} {p : List MemPlace}
def FitE (e : Int × Int) : Prop := I64 e.1 ∧ I64 e.2
theorem two_ints {vs : List Value} {f0 f1 : Field} {k0 : Try.prog.underlying f0.type = some (.int .i64)} {k1 : Try.prog.underlying f1.type = some (.int .i64)} (hl : vs.length = 2)
    (h : ∀ (j : Nat) (f : Field), #[f0, f1][j]? = some f → ∃ u, vs[j]? = some u ∧ Reads enc W f.type u) : ∃ x : Int × Int, encE.enc x = vs ∧ FitE x := by
  obtain ⟨u0, e0, r0⟩ := h 0 f0 rfl
  obtain ⟨u1, e1, r1⟩ := h 1 f1 rfl
  obtain ⟨a, rfl, wa⟩ := r0.int k0
  obtain ⟨b, rfl, wb⟩ := r1.int k1
  refine ⟨(a, b), ?_, i64_of_wf wa, i64_of_wf wb⟩
  match vs, hl with
  | [x, y], _ =>
    simp at e0 e1
    subst e0
    subst e1
    rfl
theorem ents_in (hv : Value.okWide Try.prog W .any base 32 v) (h : DataW.Trod enc Try.prog W 0 (fun _ => true) true 32 v d p) :
    ∃ es, Ents W 0 W.heap.size v es ∧ ∀ e ∈ es, FitE e :=
  recs_in (E := encE) Try.underlying32 Try.underlying33 (by kernel_rfl) (by kernel_rfl) rfl (by decide)
    (fun vs hl hr => two_ints (k0 := Try.underlying3) (k1 := Try.underlying3) hl hr) hv h
theorem ent_in (hv : Value.okWide Try.prog W .any base 33 v) (h : DataW.Trod enc Try.prog W 0 (fun _ => true) true 33 v d p) :
    ∃ a b, v = .agg #[.int .i64 a, .int .i64 b] ∧ I64 a ∧ I64 b := by
  obtain ⟨vs, rfl, hl, hr⟩ := agg_in Try.underlying33 (by kernel_rfl) (by kernel_rfl) hv h
  obtain ⟨⟨a, b⟩, he, wa, wb⟩ := two_ints (k0 := Try.underlying3) (k1 := Try.underlying3) hl hr
  exact ⟨a, b, by rw [← he]; rfl, wa, wb⟩
end
end Go.Proofs.Ythehnpkjnilgiaa
