/-
  For all arguments the law FnExactWeightsMajority returns true: the program's function and the reference's agree, arguments are left alone, results are new memory. No condition.
-/
import Derived.Test.YtgipgfhnkkpdkaaFrame
import Derived.Test.YtgipgfhnkkpdkaaWeight
namespace Go.Proofs.Ytgipgfhnkkpdkaa.fnExactWeightsMajority
open Go.ChangeShapes Go.WideShapes Go.ChangeAt Go.RowKit
open Go.ChangeMaps (open_string shut_string)
set_option linter.unusedVariables false

set_option maxHeartbeats 4000000 in
theorem walk_at (w : World) (v0 : Value) (xs0 : List Int) (b0 : Ints w 0 w.heap.size v0 xs0) (wx0 : ∀ x ∈ xs0, I64 x) :
    Calls Try.prog 8 #[v0] w fun e w' => e = .returned (.bool true) ∧ Below w.heap.size w w' := by
  obtain ⟨a0, c0, hv0, hn0, _⟩ := b0.open
  subst hv0
  have WX0 := Lib.hid wx0; clear wx0
  by_cases big0 : xs0.length ≤ 1048576
  case neg =>
    go_enter Try.func8, Try.ntmps8
    go_wp2_with fail
    go_ret
    exact ⟨rfl, Below.refl _ _⟩
  obtain ⟨m, hm⟩ : ∃ m, wMaj xs0 = m := ⟨_, rfl⟩
  have HM := Lib.hid hm; clear hm
  have hmm : (m != m) = false := by simp
  go_enter Try.func8, Try.ntmps8
  go_wp2_with fail
  have HB : Below w.heap.size w w := Below.refl _ _
  refine (toIntS_any _ xs0 _ b0 big0).mono ?_
  rintro e w1 ⟨y0, rfl, o0, hb1⟩
  have hs1 := hb1.size
  replace HB := below_step HB hb1 HB.size
  replace b0 := b0.below hb1
  clear hb1
  as_aux_lemma =>
   go_wp2_with fail
   refine (specWMaj_any _ xs0 _ o0.ints m HM.out).mono ?_
   rintro e w2 ⟨rfl, hb2⟩
   have hs2 := hb2.size
   replace HB := below_step HB hb2 HB.size
   replace b0 := b0.below hb2
   replace o0 := o0.below hb2
   clear hb2
   as_aux_lemma =>
    go_wp2_with fail
    refine (toIntS_any _ xs0 _ b0 big0).mono ?_
    rintro e w3 ⟨y1, rfl, o1, hb3⟩
    have hs3 := hb3.size
    replace HB := below_step HB hb3 HB.size
    replace b0 := b0.below hb3
    replace o0 := o0.below hb3
    clear hb3
    as_aux_lemma =>
     go_wp2_with fail
     refine (implWMaj_any _ xs0 _ o1.ints m HM.out).mono ?_
     rintro e w4 ⟨rfl, hb4⟩
     have hs4 := hb4.size
     replace HB := below_step HB hb4 HB.size
     replace b0 := b0.below hb4
     replace o0 := o0.below hb4
     replace o1 := o1.below hb4
     clear hb4
     as_aux_lemma =>
      go_wp2_with fail
      refine (toIntS_any _ xs0 _ b0 big0).mono ?_
      rintro e w5 ⟨y2, rfl, o2, hb5⟩
      have hs5 := hb5.size
      replace HB := below_step HB hb5 HB.size
      replace b0 := b0.below hb5
      replace o0 := o0.below hb5
      replace o1 := o1.below hb5
      clear hb5
      as_aux_lemma =>
       go_wp2_with fail
       refine (eqIntS_any _ _ _ _ _ o1.ints o2.ints true (by simp)).mono ?_
       rintro e w6 ⟨rfl, hw6⟩
       have hb6 := drawn_below hw6
       have hs6 := hb6.size
       replace HB := below_step HB hb6 HB.size
       replace b0 := b0.below hb6
       replace o0 := o0.below hb6
       replace o1 := o1.below hb6
       replace o2 := o2.below hb6
       clear hw6 hb6
       as_aux_lemma =>
        go_wp2_with fail
        go_ret
        exact ⟨rfl, HB⟩

/-! ### THE ROW's STEP -/
set_option maxRecDepth 100000 in
theorem lifted (os : Os) (started : os.Started) (H : Type) (enc : TypeId × Value → H) :
    ReturnsInHanded {} Try.checked os 8 .any (Rows.fnExactWeightsMajoritySpec.pre6 enc Try.prog Try.f8 Rows.fnExactWeightsMajorityRow.domain false) (Rows.fnExactWeightsMajoritySpec.post enc Try.prog Try.f8 false true false false) := by
  refine returnsInHanded_of_change (C := Try.checked) own started (by kernel_rfl) Try.func8
    (ChangeSpec.witness6 (enc := enc) (C := Try.checked) false ⟨#[], #[.slice none 0 0], []⟩ 8 (by kernel_rfl) (by kernel_rfl) (by kernel_rfl) (by kernel_rfl)) ?_
  intro W base args ds gs before hval0 hW hcnd _
  have hval : ∀ (j : Nat) t v, Try.f8.params[j]? = some t → args[j]? = some v → Value.okWide Try.prog W .any base t v := hval0
  have hW' := hW
  obtain ⟨p, q, hA0, hV, rfl, hfz, hnd⟩ := hW
  have hA : DataW.TrodAll enc Try.prog W 0 (fun _ => true) true Try.f8.params.toList args.toList ds p := hA0
  rw [Try.params8] at hA hval
  obtain ⟨v0, vs0, d0, ds0, p0, q0, hargs, rfl, rfl, h0, r0⟩ := trodAll_cons hA
  obtain ⟨rfl, rfl, rfl⟩ := trodAll_nil r0
  obtain rfl : args = #[v0] := by cases args; simp_all
  obtain ⟨rfl, rfl⟩ := trodVars_none hV
  obtain ⟨xs0, b0, wx0⟩ := ints_in (hval 0 _ v0 rfl rfl) h0
  have lt0 := lt_in h0
  clear hA0 hval0
  refine (walk_at W v0 xs0 b0 wx0).mono fun e W' ⟨he, bel⟩ => ?_
  subst he
  exact ⟨_, rfl, _, _, _, [], _, [], hW', trodAll_mk1 (shut_bool Try.underlying4 _), (trodAll_cons_mk (Below.trod laidOut (by kernel_rfl) (of_decide_eq_true (by kernel_rfl)) h0 bel lt0) trodAll_mk0), rfl, bel.frame _, fun h => by cases h⟩

set_option maxRecDepth 100000 in
theorem closed : joinedFacts Try.prog 8 Try.f8 Rows.fnExactWeightsMajoritySpec Rows.fnExactWeightsMajorityRow = true := by
  unfold joinedFacts
  rw [may, lifts, mk]
  kernel_rfl
theorem over : Rows.fnExactWeightsMajorityRow.holds Try.pinned (OpenSpec.ofChange Rows.fnExactWeightsMajoritySpec) :=
  OpenClaim.holds_of_wide 8 Try.f8 rfl rfl rfl rfl rfl rfl rfl ⟨rfl, rfl, rfl, rfl, rfl⟩ rfl rfl rfl rfl rfl (by as_aux_lemma => kernel_rfl) Try.func8 closed
    (of_decide_eq_true (by as_aux_lemma => kernel_rfl)) (by unfold Func.isWrapper; rw [if_neg (of_decide_eq_false (by as_aux_lemma => kernel_rfl))]; exact ⟨rfl, rfl⟩)
    (fun os started H enc _ => lifted os started H enc)

/-- THE STATEMENT -/
theorem proved : Rows.FnExactWeightsMajoritySaid := over
end Go.Proofs.Ytgipgfhnkkpdkaa.fnExactWeightsMajority
