/-
  For every input the law FnExactStoreValid returns true, and what it was given reads afterwards as before. No condition beyond the row's own.
-/
import Derived.Test.YtbhcgdjdkdiceaaFrameP
import Derived.Test.YtbhcgdjdkdiceaaStoreS
import Derived.Test.YtbhcgdjdkdiceaaMapS
import Derived.Test.YtbhcgdjdkdiceaaPairU
import Derived.Deep.DeepCutAuto
import Derived.Deep.QuietTactic
import Derived.BigQuiet
namespace Go.Proofs.Ytbhcgdjdkdiceaa.fnExactStoreValid
open Go.ChangeShapes Go.WideShapes Go.ChangeAt Go.RowKit
open Go.ChangeMaps (open_string shut_string)
set_option linter.unusedVariables false

set_option maxRecDepth 100000 in
set_option maxHeartbeats 8000000 in
theorem walk_at (w : World) (v0 : Value) (xs0 : List (ByteArray × Int)) (b0 : Prs w 0 w.heap.size v0 xs0) (hz0 : ∀ k, k < xs0.length → (pk xs0 k).size ≤ maxLen) :
    Calls Try.prog 3 #[v0] w fun e w' => e = .returned (.bool true) ∧ Below w.heap.size w w' := by
  obtain ⟨r, hr⟩ : ∃ r, storeOk xs0 = r := ⟨_, rfl⟩
  have HR := Lib.hid hr; clear hr
  have hrr : (r != r) = false := by cases r <;> rfl
  go_enter Try.func3, Try.ntmps3
  go_wp2_with fail
  have HB : Below w.heap.size w w := Below.refl _ _
  refine (szPairS_any _ xs0 _ b0 hz0).mono ?_
  rintro e w1 ⟨m, rfl, hm, hb1⟩
  have hs1 := hb1.size
  replace b0 := b0.below hb1
  replace HB := below_step HB hb1 HB.size
  clear hb1
  rcases hm with rfl | ⟨hm0, big0⟩
  · go_wp2_with fail
    go_ret
    exact ⟨rfl, HB⟩
  have hmn : ¬ m < 0 := by omega
  as_aux_lemma =>
   go_wp2_with fail
   refine (toPairS_any _ xs0 _ b0 big0).mono ?_
   rintro e w2 ⟨y0, rfl, o0, hb2⟩
   have hs2 := hb2.size
   replace b0 := b0.below hb2
   replace HB := below_step HB hb2 HB.size
   clear hb2
   as_aux_lemma =>
    go_wp2_with fail
    refine (specStoreValid_any _ xs0 _ o0.prs r HR.out).mono ?_
    rintro e w3 ⟨rfl, hw3⟩
    have hb3 := drawn_below hw3
    have hs3 := hb3.size
    replace b0 := b0.below hb3
    replace o0 := o0.below hb3
    replace HB := below_step HB hb3 HB.size
    clear hb3 hw3
    as_aux_lemma =>
     go_wp2_with fail
     refine (toPairS_any _ xs0 _ b0 big0).mono ?_
     rintro e w4 ⟨y1, rfl, o1, hb4⟩
     have hs4 := hb4.size
     replace b0 := b0.below hb4
     replace o0 := o0.below hb4
     replace HB := below_step HB hb4 HB.size
     clear hb4
     as_aux_lemma =>
      go_wp2_with fail
      refine (implStoreValid_any _ xs0 _ o1.prs big0 r HR.out).mono ?_
      rintro e w5 ⟨rfl, hb5⟩
      have hs5 := hb5.size
      replace b0 := b0.below hb5
      replace o0 := o0.below hb5
      replace o1 := o1.below hb5
      replace HB := below_step HB hb5 HB.size
      clear hb5
      as_aux_lemma =>
       go_wp2_with fail
       refine (toPairS_any _ xs0 _ b0 big0).mono ?_
       rintro e w6 ⟨y2, rfl, o2, hb6⟩
       have hs6 := hb6.size
       replace b0 := b0.below hb6
       replace o0 := o0.below hb6
       replace o1 := o1.below hb6
       replace HB := below_step HB hb6 HB.size
       clear hb6
       as_aux_lemma =>
        go_wp2_with fail
        refine (eqPairS_same _ _ xs0 _ o1.prs o2.prs).mono ?_
        rintro e w7 ⟨rfl, hb7⟩
        have hs7 := hb7.size
        replace b0 := b0.below hb7
        replace o0 := o0.below hb7
        replace o1 := o1.below hb7
        replace o2 := o2.below hb7
        replace HB := below_step HB hb7 HB.size
        clear hb7
        as_aux_lemma =>
         go_wp2_with fail
         go_ret
         exact ⟨rfl, HB⟩

/-! ### THE ROW's STEP -/
set_option maxRecDepth 100000 in
theorem lifted (os : Os) (started : os.Started) (H : Type) (enc : TypeId × Value → H) :
    ReturnsInHanded {} Try.checked os 3 .any (Rows.fnExactStoreValidSpec.pre6 enc Try.prog Try.f3 Rows.fnExactStoreValidRow.domain false) (Rows.fnExactStoreValidSpec.post enc Try.prog Try.f3 false true false false) := by
  refine returnsInHanded_of_change (C := Try.checked) own started (by kernel_rfl) Try.func3
    (ChangeSpec.witness6 (enc := enc) (C := Try.checked) false ⟨#[], #[.slice none 0 0], []⟩ 8 (by kernel_rfl) (by kernel_rfl) (by kernel_rfl) (by kernel_rfl)) ?_
  intro W base args ds gs before hval0 hW hcnd _
  have hval : ∀ (j : Nat) t v, Try.f3.params[j]? = some t → args[j]? = some v → Value.okWide Try.prog W .any base t v := hval0
  have hW' := hW
  obtain ⟨p, q, hA0, hV, rfl, hfz, hnd⟩ := hW
  have hA : DataW.TrodAll enc Try.prog W 0 (fun _ => true) true Try.f3.params.toList args.toList ds p := hA0
  rw [Try.params3] at hA hval
  obtain ⟨v0, vs0, d0, ds0, p0, q0, hargs, rfl, rfl, h0, r0⟩ := trodAll_cons hA
  obtain ⟨rfl, rfl, rfl⟩ := trodAll_nil r0
  obtain rfl : args = #[v0] := by cases args; simp_all
  obtain ⟨rfl, rfl⟩ := trodVars_none hV
  obtain ⟨xs0, b0, wx0⟩ := pairs_in (hval 0 _ v0 rfl rfl) h0
  have lt0 := lt_in h0
  clear hA0 hval0
  refine (walk_at W v0 xs0 b0 (fit_size wx0)).mono fun e W' ⟨he, bel⟩ => ?_
  subst he
  exact ⟨_, rfl, _, _, _, [], _, [], hW', trodAll_mk1 (shut_bool Try.underlying4 _), (trodAll_cons_mk (Below.trod laidOut (by kernel_rfl) (of_decide_eq_true (by kernel_rfl)) h0 bel lt0) trodAll_mk0), rfl, bel.frame _, fun h => by cases h⟩

set_option maxRecDepth 100000 in
theorem closed : joinedFacts Try.prog 3 Try.f3 Rows.fnExactStoreValidSpec Rows.fnExactStoreValidRow = true := by
  unfold joinedFacts
  rw [may, lifts, mk]
  kernel_rfl
theorem over : Rows.fnExactStoreValidRow.holds Try.pinned (OpenSpec.ofChange Rows.fnExactStoreValidSpec) :=
  OpenClaim.holds_of_wide 3 Try.f3 rfl rfl rfl rfl rfl rfl rfl ⟨rfl, rfl, rfl, rfl, rfl⟩ rfl rfl rfl rfl rfl (by as_aux_lemma => kernel_rfl) Try.func3 closed
    (of_decide_eq_true (by as_aux_lemma => kernel_rfl)) (by unfold Func.isWrapper; rw [if_neg (of_decide_eq_false (by as_aux_lemma => kernel_rfl))]; exact ⟨rfl, rfl⟩)
    (fun os started H enc _ => lifted os started H enc)

/-- THE STATEMENT -/
theorem proved : Rows.FnExactStoreValidSaid := over
end Go.Proofs.Ytbhcgdjdkdiceaa.fnExactStoreValid
