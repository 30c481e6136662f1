/-
  For all arguments the law FnExactCommandOfValue returns true: the program's function and the reference's agree, arguments are left alone, results are new memory. No condition.
-/
import Derived.Test.YtgipgfhnkkpdkaaFrame
import Derived.Test.YtgipgfhnkkpdkaaCmd
namespace Go.Proofs.Ytgipgfhnkkpdkaa.fnExactCommandOfValue
open Go.ChangeShapes Go.WideShapes Go.ChangeAt Go.RowKit
open Go.ChangeMaps (open_string shut_string)
set_option linter.unusedVariables false

set_option maxHeartbeats 4000000 in
theorem walk_at (w : World) (x0 : Int) (wf0 : I64 x0) :
    Calls Try.prog 3 #[.int .i64 x0] w fun e w' => e = .returned (.bool true) ∧ Below w.heap.size w w' := by
  obtain ⟨wf0a, wf0b⟩ := wf0
  cases hv : inB x0 1 99
  case false =>
    have HS := fun w => Lib.hid (specCmd_no x0 w hv)
    have HI := fun w => Lib.hid (implCmd_no x0 w hv)
    unfold noCmd cmdV at HS HI
    clear hv
    go_enter Try.func3, Try.ntmps3
    go_wp2_with fail
    refine (HS _).out.mono ?_
    rintro e w1 ⟨rfl, hb1⟩
    have hs1 := hb1.size
    go_wp2_with fail
    refine (HI _).out.mono ?_
    rintro e w2 ⟨rfl, hb2⟩
    obtain ⟨hc2, hf2⟩ := bcell hb2
    have hs2 := hb2.size
    have hz2 : w1.heap.size < w2.heap.size := by simp at hs2; omega
    go_wp2_with fail
    refine (eqCommand_same 0 ⟨#[]⟩ 0 0 _).mono ?_
    rintro e w3 ⟨rfl, hb3⟩
    have hs3 := hb3.size
    go_wp2_with fail
    go_ret
    refine ⟨rfl, ?_⟩
    have k1 := hb1.alloc hs1
    have k2 := (k1 _).trans (hb2.mono (by simp; omega))
    exact (k2.alloc (by simp at hs2; omega) _).trans (hb3.mono (by simp at hs2 ⊢; omega))
  case true =>
    obtain ⟨g1, g2⟩ := inB_true hv
    have HS := fun w => Lib.hid (specCmd_yes x0 w g1 g2)
    have HI := fun w => Lib.hid (implCmd_yes x0 w g1 g2)
    unfold cmdV at HS HI
    generalize opOf x0 = op at HS HI
    generalize keyAt (x0 % 10 % 6) = ky at HS HI
    generalize valOf x0 = vl at HS HI
    clear hv
    go_enter Try.func3, Try.ntmps3
    go_wp2_with fail
    refine (HS _).out.mono ?_
    rintro e w1 ⟨rfl, hb1⟩
    have hs1 := hb1.size
    go_wp2_with fail
    refine (HI _).out.mono ?_
    rintro e w2 ⟨rfl, hb2⟩
    obtain ⟨hc2, hf2⟩ := bcell hb2
    have hs2 := hb2.size
    have hz2 : w1.heap.size < w2.heap.size := by simp at hs2; omega
    go_wp2_with fail
    refine (eqCommand_same op ky vl 0 _).mono ?_
    rintro e w3 ⟨rfl, hb3⟩
    have hs3 := hb3.size
    go_wp2_with fail
    go_ret
    refine ⟨rfl, ?_⟩
    have k1 := hb1.alloc hs1
    have k2 := (k1 _).trans (hb2.mono (by simp; omega))
    exact (k2.alloc (by simp at hs2; omega) _).trans (hb3.mono (by simp at hs2 ⊢; omega))

/-! ### THE ROW's STEP -/
set_option maxRecDepth 100000 in
theorem lifted (os : Os) (started : os.Started) (H : Type) (enc : TypeId × Value → H) :
    ReturnsInHanded {} Try.checked os 3 .any (Rows.fnExactCommandOfValueSpec.pre6 enc Try.prog Try.f3 Rows.fnExactCommandOfValueRow.domain false) (Rows.fnExactCommandOfValueSpec.post enc Try.prog Try.f3 false true false false) := by
  refine returnsInHanded_of_change (C := Try.checked) own started (by kernel_rfl) Try.func3
    (ChangeSpec.witness6 (enc := enc) (C := Try.checked) false ⟨#[], #[.int .i64 0], []⟩ 8 (by kernel_rfl) (by kernel_rfl) (by kernel_rfl) (by kernel_rfl)) ?_
  intro W base args ds gs before hval0 hW hcnd _
  have hval : ∀ (j : Nat) t v, Try.f3.params[j]? = some t → args[j]? = some v → Value.okWide Try.prog W .any base t v := hval0
  have hW' := hW
  obtain ⟨p, q, hA0, hV, rfl, hfz, hnd⟩ := hW
  have hA : DataW.TrodAll enc Try.prog W 0 (fun _ => true) true Try.f3.params.toList args.toList ds p := hA0
  rw [Try.params3] at hA hval
  obtain ⟨v0, vs0, d0, ds0, p0, q0, hargs, rfl, rfl, h0, r0⟩ := trodAll_cons hA
  obtain ⟨rfl, rfl, rfl⟩ := trodAll_nil r0
  obtain rfl : args = #[v0] := by cases args; simp_all
  obtain ⟨rfl, rfl⟩ := trodVars_none hV
  obtain ⟨x0, rfl, rfl, rfl, w0⟩ := open_int Try.underlying3 (hval 0 3 v0 rfl rfl) h0
  clear hA0 hval0
  refine (walk_at W x0 (i64_of_wf w0)).mono fun e W' ⟨he, bel⟩ => ?_
  subst he
  exact ⟨_, rfl, _, _, _, [], _, [], hW', trodAll_mk1 (shut_bool Try.underlying4 _), (trodAll_cons_mk (shut_int Try.underlying3 w0) trodAll_mk0), rfl, bel.frame _, fun h => by cases h⟩

set_option maxRecDepth 100000 in
theorem closed : joinedFacts Try.prog 3 Try.f3 Rows.fnExactCommandOfValueSpec Rows.fnExactCommandOfValueRow = true := by
  unfold joinedFacts
  rw [may, lifts, mk]
  kernel_rfl
theorem over : Rows.fnExactCommandOfValueRow.holds Try.pinned (OpenSpec.ofChange Rows.fnExactCommandOfValueSpec) :=
  OpenClaim.holds_of_wide 3 Try.f3 rfl rfl rfl rfl rfl rfl rfl ⟨rfl, rfl, rfl, rfl, rfl⟩ rfl rfl rfl rfl rfl (by as_aux_lemma => kernel_rfl) Try.func3 closed
    (of_decide_eq_true (by as_aux_lemma => kernel_rfl)) (by unfold Func.isWrapper; rw [if_neg (of_decide_eq_false (by as_aux_lemma => kernel_rfl))]; exact ⟨rfl, rfl⟩)
    (fun os started H enc _ => lifted os started H enc)

/-- THE STATEMENT -/
theorem proved : Rows.FnExactCommandOfValueSaid := over
end Go.Proofs.Ytgipgfhnkkpdkaa.fnExactCommandOfValue
