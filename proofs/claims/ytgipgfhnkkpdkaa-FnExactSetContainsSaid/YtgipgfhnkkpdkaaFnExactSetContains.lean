/-
  For all arguments the law FnExactSetContains returns true: the program's function and the reference's agree, arguments are left alone, results are new memory. No condition.
-/
import Derived.Test.YtgipgfhnkkpdkaaFrame
import Derived.Test.YtgipgfhnkkpdkaaLawKit
namespace Go.Proofs.Ytgipgfhnkkpdkaa.fnExactSetContains
open Go.ChangeShapes Go.WideShapes Go.ChangeAt Go.RowKit
open Go.ChangeMaps (open_string shut_string)
set_option linter.unusedVariables false

set_option maxHeartbeats 4000000 in
theorem walk_at (w : World) (v0 : Value) (xs0 : List Int) (b0 : Ints w 0 w.heap.size v0 xs0) (wx0 : ∀ x ∈ xs0, I64 x) (x1 : Int) (wf1 : I64 x1) :
    Calls Try.prog 5 #[v0, .int .i64 x1] w fun e w' => e = .returned (.bool true) ∧ Below w.heap.size w w' := by
  obtain ⟨a0, c0, hv0, hn0, _⟩ := b0.open
  subst hv0
  have WX0 := Lib.hid wx0; clear wx0
  obtain ⟨wf1a, wf1b⟩ := wf1
  by_cases big0 : xs0.length ≤ 1048576
  case neg =>
    go_enter Try.func5, Try.ntmps5
    go_wp2_with fail
    go_ret
    exact ⟨rfl, Below.refl _ _⟩
  obtain ⟨r, hr⟩ : ∃ r, (setValid xs0 && xs0.contains x1) = r := ⟨_, rfl⟩
  have R1 := Lib.hid ((has_same xs0 x1).trans hr)
  have R2 := Lib.hid hr; clear hr
  have hrr : (r != r) = false := by simp
  go_enter Try.func5, Try.ntmps5
  go_wp2_with fail
  have HB : Below w.heap.size w w := Below.refl _ _
  refine (toIntS_any _ xs0 _ b0 big0).mono ?_
  rintro e w1 ⟨y0, rfl, o0, hb1⟩
  have hs1 := hb1.size
  replace HB := below_step HB hb1 HB.size
  replace b0 := b0.below hb1
  clear hb1
  as_aux_lemma =>
   go_wp2_with fail
   refine (specContains_any _ xs0 x1 _ o0.ints r R2.out).mono ?_
   rintro e w2 ⟨rfl, hw2⟩
   have hb2 := drawn_below hw2
   have hs2 := hb2.size
   replace HB := below_step HB hb2 HB.size
   replace b0 := b0.below hb2
   replace o0 := o0.below hb2
   clear hw2 hb2
   as_aux_lemma =>
    go_wp2_with fail
    refine (toIntS_any _ xs0 _ b0 big0).mono ?_
    rintro e w3 ⟨y1, rfl, o1, hb3⟩
    have hs3 := hb3.size
    replace HB := below_step HB hb3 HB.size
    replace b0 := b0.below hb3
    replace o0 := o0.below hb3
    clear hb3
    as_aux_lemma =>
     go_wp2_with fail
     refine (implSetContains_any _ xs0 x1 _ o1.ints r R1.out).mono ?_
     rintro e w' ⟨rfl, rfl⟩
     as_aux_lemma =>
      go_wp2_with fail
      refine (toIntS_any _ xs0 _ b0 big0).mono ?_
      rintro e w4 ⟨y2, rfl, o2, hb4⟩
      have hs4 := hb4.size
      replace HB := below_step HB hb4 HB.size
      replace b0 := b0.below hb4
      replace o0 := o0.below hb4
      replace o1 := o1.below hb4
      clear hb4
      as_aux_lemma =>
       go_wp2_with fail
       refine (eqIntS_any _ _ _ _ _ o1.ints o2.ints true (by simp)).mono ?_
       rintro e w5 ⟨rfl, hw5⟩
       have hb5 := drawn_below hw5
       have hs5 := hb5.size
       replace HB := below_step HB hb5 HB.size
       replace b0 := b0.below hb5
       replace o0 := o0.below hb5
       replace o1 := o1.below hb5
       replace o2 := o2.below hb5
       clear hw5 hb5
       as_aux_lemma =>
        go_wp2_with fail
        go_ret
        exact ⟨rfl, HB⟩

/-! ### THE ROW's STEP -/
set_option maxRecDepth 100000 in
theorem lifted (os : Os) (started : os.Started) (H : Type) (enc : TypeId × Value → H) :
    ReturnsInHanded {} Try.checked os 5 .any (Rows.fnExactSetContainsSpec.pre6 enc Try.prog Try.f5 Rows.fnExactSetContainsRow.domain false) (Rows.fnExactSetContainsSpec.post enc Try.prog Try.f5 false true false false) := by
  refine returnsInHanded_of_change (C := Try.checked) own started (by kernel_rfl) Try.func5
    (ChangeSpec.witness6 (enc := enc) (C := Try.checked) false ⟨#[], #[.slice none 0 0, .int .i64 0], []⟩ 8 (by kernel_rfl) (by kernel_rfl) (by kernel_rfl) (by kernel_rfl)) ?_
  intro W base args ds gs before hval0 hW hcnd _
  have hval : ∀ (j : Nat) t v, Try.f5.params[j]? = some t → args[j]? = some v → Value.okWide Try.prog W .any base t v := hval0
  have hW' := hW
  obtain ⟨p, q, hA0, hV, rfl, hfz, hnd⟩ := hW
  have hA : DataW.TrodAll enc Try.prog W 0 (fun _ => true) true Try.f5.params.toList args.toList ds p := hA0
  rw [Try.params5] at hA hval
  obtain ⟨v0, vs0, d0, ds0, p0, q0, hargs, rfl, rfl, h0, r0⟩ := trodAll_cons hA
  obtain ⟨v1, vs1, d1, ds1, p1, q1, rfl, rfl, rfl, h1, r1⟩ := trodAll_cons r0
  obtain ⟨rfl, rfl, rfl⟩ := trodAll_nil r1
  obtain rfl : args = #[v0, v1] := by cases args; simp_all
  obtain ⟨rfl, rfl⟩ := trodVars_none hV
  obtain ⟨xs0, b0, wx0⟩ := ints_in (hval 0 _ v0 rfl rfl) h0
  have lt0 := lt_in h0
  obtain ⟨x1, rfl, rfl, rfl, w1⟩ := open_int Try.underlying3 (hval 1 3 v1 rfl rfl) h1
  clear hA0 hval0
  refine (walk_at W v0 xs0 b0 wx0 x1 (i64_of_wf w1)).mono fun e W' ⟨he, bel⟩ => ?_
  subst he
  exact ⟨_, rfl, _, _, _, [], _, [], hW', trodAll_mk1 (shut_bool Try.underlying4 _), (trodAll_cons_mk (Below.trod laidOut (by kernel_rfl) (of_decide_eq_true (by kernel_rfl)) h0 bel lt0) (trodAll_cons_mk (shut_int Try.underlying3 w1) trodAll_mk0)), rfl, bel.frame _, fun h => by cases h⟩

set_option maxRecDepth 100000 in
theorem closed : joinedFacts Try.prog 5 Try.f5 Rows.fnExactSetContainsSpec Rows.fnExactSetContainsRow = true := by
  unfold joinedFacts
  rw [may, lifts, mk]
  kernel_rfl
theorem over : Rows.fnExactSetContainsRow.holds Try.pinned (OpenSpec.ofChange Rows.fnExactSetContainsSpec) :=
  OpenClaim.holds_of_wide 5 Try.f5 rfl rfl rfl rfl rfl rfl rfl ⟨rfl, rfl, rfl, rfl, rfl⟩ rfl rfl rfl rfl rfl (by as_aux_lemma => kernel_rfl) Try.func5 closed
    (of_decide_eq_true (by as_aux_lemma => kernel_rfl)) (by unfold Func.isWrapper; rw [if_neg (of_decide_eq_false (by as_aux_lemma => kernel_rfl))]; exact ⟨rfl, rfl⟩)
    (fun os started H enc _ => lifted os started H enc)

/-- THE STATEMENT -/
theorem proved : Rows.FnExactSetContainsSaid := over
end Go.Proofs.Ytgipgfhnkkpdkaa.fnExactSetContains
