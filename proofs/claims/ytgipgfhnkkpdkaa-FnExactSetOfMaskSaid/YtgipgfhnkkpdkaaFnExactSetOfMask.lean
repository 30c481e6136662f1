/-
  For all arguments the law FnExactSetOfMask returns true: the program's function and the reference's agree, arguments are left alone, results are new memory. No condition.
-/
import Derived.Test.YtgipgfhnkkpdkaaFrame
import Derived.Test.YtgipgfhnkkpdkaaLawKit
namespace Go.Proofs.Ytgipgfhnkkpdkaa.fnExactSetOfMask
open Go.ChangeShapes Go.WideShapes Go.ChangeAt Go.RowKit
open Go.ChangeMaps (open_string shut_string)
set_option linter.unusedVariables false

set_option maxHeartbeats 4000000 in
theorem walk_at (w : World) (x0 : Int) (wf0 : I64 x0) :
    Calls Try.prog 6 #[.int .i64 x0] w fun e w' => e = .returned (.bool true) ∧ Below w.heap.size w w' := by
  obtain ⟨wf0a, wf0b⟩ := wf0
  obtain ⟨r, hr⟩ : ∃ r, inB x0 0 63 = r := ⟨_, rfl⟩
  have R := Lib.hid hr; clear hr
  have hrr : (r != r) = false := by simp
  have hl : (ofMaskS x0).length ≤ 6 := by unfold ofMaskS; split; exact bitsTo_len _ _; simp
  generalize hZ : ofMaskS x0 = zs at *
  have HZ := Lib.hid hZ; clear hZ
  go_enter Try.func6, Try.ntmps6
  go_wp2_with fail
  have HB : Below w.heap.size w w := Below.refl _ _
  refine (specSetOfMask_any x0 _ zs r HZ.out R.out).mono ?_
  rintro e w1 ⟨v1, rfl, o1, hb1⟩
  have hs1 := hb1.size
  replace HB := below_step HB hb1 HB.size
  clear hb1
  as_aux_lemma =>
   go_wp2_with fail
   refine (implSetOfMask_any x0 _ zs r ((ofMask_same x0).trans HZ.out) R.out).mono ?_
   rintro e w2 ⟨v2, rfl, o2, hb2⟩
   have hs2 := hb2.size
   replace HB := below_step HB hb2 HB.size
   replace o1 := o1.below hb2
   clear hb2
   as_aux_lemma =>
    go_wp2_with fail
    refine (eqIntS_any _ _ _ _ _ o2.ints o1.ints true (by simp)).mono ?_
    rintro e w3 ⟨rfl, hw3⟩
    have hb3 := drawn_below hw3
    have hs3 := hb3.size
    replace HB := below_step HB hb3 HB.size
    replace o1 := o1.below hb3
    replace o2 := o2.below hb3
    clear hw3 hb3
    as_aux_lemma =>
     go_wp2_with fail
     refine (markIntS_any _ zs 1 _ o2 (by omega) (by omega)).mono ?_
     rintro e w4 ⟨rfl, hm4, hk4⟩
     replace HB := HB.trans (hk4.below (B := w.heap.size) (by omega) HB.size)
     have hs4 := hk4.size
     replace o1 := o1.keep hk4 (by omega)
     replace o2 := hm4
     clear hm4 hk4
     as_aux_lemma =>
      go_wp2_with fail
      refine (heldIntS_any _ zs.length 1 _ o2.ints (by omega) (by omega)).mono ?_
      rintro e w' ⟨rfl, rfl⟩
      as_aux_lemma =>
       go_wp2_with fail
       refine (implSetOfMask_any x0 _ zs r ((ofMask_same x0).trans HZ.out) R.out).mono ?_
       rintro e w5 ⟨v3, rfl, o3, hb5⟩
       have hs5 := hb5.size
       replace HB := below_step HB hb5 HB.size
       replace o1 := o1.below hb5
       replace o2 := o2.below hb5
       clear hb5
       as_aux_lemma =>
        go_wp2_with fail
        refine (eqIntS_any _ _ _ _ _ o3.ints o1.ints true (by simp)).mono ?_
        rintro e w6 ⟨rfl, hw6⟩
        have hb6 := drawn_below hw6
        have hs6 := hb6.size
        replace HB := below_step HB hb6 HB.size
        replace o1 := o1.below hb6
        replace o2 := o2.below hb6
        replace o3 := o3.below hb6
        clear hw6 hb6
        as_aux_lemma =>
         go_wp2_with fail
         refine (heldIntS_any _ zs.length 1 _ o2.ints (by omega) (by omega)).mono ?_
         rintro e w' ⟨rfl, rfl⟩
         as_aux_lemma =>
          go_wp2_with fail
          go_ret
          exact ⟨rfl, HB⟩

/-! ### THE ROW's STEP -/
set_option maxRecDepth 100000 in
theorem lifted (os : Os) (started : os.Started) (H : Type) (enc : TypeId × Value → H) :
    ReturnsInHanded {} Try.checked os 6 .any (Rows.fnExactSetOfMaskSpec.pre6 enc Try.prog Try.f6 Rows.fnExactSetOfMaskRow.domain false) (Rows.fnExactSetOfMaskSpec.post enc Try.prog Try.f6 false true false false) := by
  refine returnsInHanded_of_change (C := Try.checked) own started (by kernel_rfl) Try.func6
    (ChangeSpec.witness6 (enc := enc) (C := Try.checked) false ⟨#[], #[.int .i64 0], []⟩ 8 (by kernel_rfl) (by kernel_rfl) (by kernel_rfl) (by kernel_rfl)) ?_
  intro W base args ds gs before hval0 hW hcnd _
  have hval : ∀ (j : Nat) t v, Try.f6.params[j]? = some t → args[j]? = some v → Value.okWide Try.prog W .any base t v := hval0
  have hW' := hW
  obtain ⟨p, q, hA0, hV, rfl, hfz, hnd⟩ := hW
  have hA : DataW.TrodAll enc Try.prog W 0 (fun _ => true) true Try.f6.params.toList args.toList ds p := hA0
  rw [Try.params6] at hA hval
  obtain ⟨v0, vs0, d0, ds0, p0, q0, hargs, rfl, rfl, h0, r0⟩ := trodAll_cons hA
  obtain ⟨rfl, rfl, rfl⟩ := trodAll_nil r0
  obtain rfl : args = #[v0] := by cases args; simp_all
  obtain ⟨rfl, rfl⟩ := trodVars_none hV
  obtain ⟨x0, rfl, rfl, rfl, w0⟩ := open_int Try.underlying3 (hval 0 3 v0 rfl rfl) h0
  clear hA0 hval0
  refine (walk_at W x0 (i64_of_wf w0)).mono fun e W' ⟨he, bel⟩ => ?_
  subst he
  exact ⟨_, rfl, _, _, _, [], _, [], hW', trodAll_mk1 (shut_bool Try.underlying4 _), (trodAll_cons_mk (shut_int Try.underlying3 w0) trodAll_mk0), rfl, bel.frame _, fun h => by cases h⟩

set_option maxRecDepth 100000 in
theorem closed : joinedFacts Try.prog 6 Try.f6 Rows.fnExactSetOfMaskSpec Rows.fnExactSetOfMaskRow = true := by
  unfold joinedFacts
  rw [may, lifts, mk]
  kernel_rfl
theorem over : Rows.fnExactSetOfMaskRow.holds Try.pinned (OpenSpec.ofChange Rows.fnExactSetOfMaskSpec) :=
  OpenClaim.holds_of_wide 6 Try.f6 rfl rfl rfl rfl rfl rfl rfl ⟨rfl, rfl, rfl, rfl, rfl⟩ rfl rfl rfl rfl rfl (by as_aux_lemma => kernel_rfl) Try.func6 closed
    (of_decide_eq_true (by as_aux_lemma => kernel_rfl)) (by unfold Func.isWrapper; rw [if_neg (of_decide_eq_false (by as_aux_lemma => kernel_rfl))]; exact ⟨rfl, rfl⟩)
    (fun os started H enc _ => lifted os started H enc)

/-- THE STATEMENT -/
theorem proved : Rows.FnExactSetOfMaskSaid := over
end Go.Proofs.Ytgipgfhnkkpdkaa.fnExactSetOfMask
