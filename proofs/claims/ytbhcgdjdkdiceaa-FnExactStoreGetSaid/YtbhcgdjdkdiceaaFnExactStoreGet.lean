/-
  For every input the law FnExactStoreGet returns true, and what it was given reads afterwards as before. No condition beyond the row's own.
-/
import Derived.Test.YtbhcgdjdkdiceaaFrameP
import Derived.Test.YtbhcgdjdkdiceaaGetI
import Derived.Test.YtbhcgdjdkdiceaaPairU
import Derived.Deep.DeepCutAuto
import Derived.Deep.QuietTactic
import Derived.BigQuiet
namespace Go.Proofs.Ytbhcgdjdkdiceaa.fnExactStoreGet
open Go.ChangeShapes Go.WideShapes Go.ChangeAt Go.RowKit
open Go.ChangeMaps (open_string shut_string)
set_option linter.unusedVariables false

set_option maxRecDepth 100000 in
set_option maxHeartbeats 8000000 in
theorem walk_at (w : World) (v0 : Value) (xs0 : List (ByteArray × Int)) (b0 : Prs w 0 w.heap.size v0 xs0) (hz0 : ∀ k, k < xs0.length → (pk xs0 k).size ≤ maxLen) (s1 : ByteArray) (ws1 : s1.size ≤ maxLen) :
    Calls Try.prog 5 #[v0, .string s1] w fun e w' => e = .returned (.bool true) ∧ Below w.heap.size w w' := by
  have hs1s : s1.size ≤ 9223372036854775807 := by unfold maxLen at ws1; omega
  by_cases big1 : s1.size ≤ 1048576
  case neg =>
    have hbg : (1048576 : Int) < (s1.size : Int) := by omega
    go_enter Try.func5, Try.ntmps5
    go_wp2_with fail
    go_ret
    exact ⟨rfl, Below.refl _ _⟩
  have hbg1 : ¬ (1048576 : Int) < (s1.size : Int) := by omega
  obtain ⟨gm, gr, hr⟩ : ∃ gm gr, getP xs0 s1 = (gm, gr) := ⟨_, _, rfl⟩
  have HR := Lib.hid hr; clear hr
  have hrr : (gr != gr) = false := by cases gr <;> rfl
  have hmm : (gm != gm) = false := by simp
  go_enter Try.func5, Try.ntmps5
  go_wp2_with fail
  have HB : Below w.heap.size w w := Below.refl _ _
  refine (szPairS_any _ xs0 _ b0 hz0).mono ?_
  rintro e w1 ⟨m, rfl, hm, hb1⟩
  have hs1 := hb1.size
  replace b0 := b0.below hb1
  replace HB := below_step HB hb1 HB.size
  clear hb1
  rcases hm with rfl | ⟨hm0, big0⟩
  · go_wp2_with fail
    go_ret
    exact ⟨rfl, HB⟩
  have hmn : ¬ m < 0 := by omega
  as_aux_lemma =>
   go_wp2_with fail
   refine (toPairS_any _ xs0 _ b0 big0).mono ?_
   rintro e w2 ⟨y0, rfl, o0, hb2⟩
   have hs2 := hb2.size
   replace b0 := b0.below hb2
   replace HB := below_step HB hb2 HB.size
   clear hb2
   as_aux_lemma =>
    go_wp2_with fail
    refine (specStoreGet_any _ xs0 s1 _ o0.prs gm gr HR.out).mono ?_
    rintro e w3 ⟨rfl, hw3⟩
    have hb3 := drawn_below hw3
    have hs3 := hb3.size
    replace b0 := b0.below hb3
    replace o0 := o0.below hb3
    replace HB := below_step HB hb3 HB.size
    clear hb3 hw3
    as_aux_lemma =>
     go_wp2_with fail
     refine (toPairS_any _ xs0 _ b0 big0).mono ?_
     rintro e w4 ⟨y1, rfl, o1, hb4⟩
     have hs4 := hb4.size
     replace b0 := b0.below hb4
     replace o0 := o0.below hb4
     replace HB := below_step HB hb4 HB.size
     clear hb4
     as_aux_lemma =>
      go_wp2_with fail
      refine (implStoreGet_any _ xs0 s1 _ o1.prs big0 ws1 gm gr HR.out).mono ?_
      rintro e w5 ⟨rfl, hb5⟩
      have hs5 := hb5.size
      replace b0 := b0.below hb5
      replace o0 := o0.below hb5
      replace o1 := o1.below hb5
      replace HB := below_step HB hb5 HB.size
      clear hb5
      as_aux_lemma =>
       go_wp2_with fail
       refine (toPairS_any _ xs0 _ b0 big0).mono ?_
       rintro e w6 ⟨y2, rfl, o2, hb6⟩
       have hs6 := hb6.size
       replace b0 := b0.below hb6
       replace o0 := o0.below hb6
       replace o1 := o1.below hb6
       replace HB := below_step HB hb6 HB.size
       clear hb6
       as_aux_lemma =>
        go_wp2_with fail
        refine (eqPairS_same _ _ xs0 _ o1.prs o2.prs).mono ?_
        rintro e w7 ⟨rfl, hb7⟩
        have hs7 := hb7.size
        replace b0 := b0.below hb7
        replace o0 := o0.below hb7
        replace o1 := o1.below hb7
        replace o2 := o2.below hb7
        replace HB := below_step HB hb7 HB.size
        clear hb7
        as_aux_lemma =>
         go_wp2_with fail
         go_ret
         exact ⟨rfl, HB⟩

/-! ### THE ROW's STEP -/
set_option maxRecDepth 100000 in
theorem lifted (os : Os) (started : os.Started) (H : Type) (enc : TypeId × Value → H) :
    ReturnsInHanded {} Try.checked os 5 .any (Rows.fnExactStoreGetSpec.pre6 enc Try.prog Try.f5 Rows.fnExactStoreGetRow.domain false) (Rows.fnExactStoreGetSpec.post enc Try.prog Try.f5 false true false false) := by
  refine returnsInHanded_of_change (C := Try.checked) own started (by kernel_rfl) Try.func5
    (ChangeSpec.witness6 (enc := enc) (C := Try.checked) false ⟨#[], #[.slice none 0 0, .string ByteArray.empty], []⟩ 8 (by kernel_rfl) (by kernel_rfl) (by kernel_rfl) (by kernel_rfl)) ?_
  intro W base args ds gs before hval0 hW hcnd _
  have hval : ∀ (j : Nat) t v, Try.f5.params[j]? = some t → args[j]? = some v → Value.okWide Try.prog W .any base t v := hval0
  have hW' := hW
  obtain ⟨p, q, hA0, hV, rfl, hfz, hnd⟩ := hW
  have hA : DataW.TrodAll enc Try.prog W 0 (fun _ => true) true Try.f5.params.toList args.toList ds p := hA0
  rw [Try.params5] at hA hval
  obtain ⟨v0, vs0, d0, ds0, p0, q0, hargs, rfl, rfl, h0, r0⟩ := trodAll_cons hA
  obtain ⟨v1, vs1, d1, ds1, p1, q1, rfl, rfl, rfl, h1, r1⟩ := trodAll_cons r0
  obtain ⟨rfl, rfl, rfl⟩ := trodAll_nil r1
  obtain rfl : args = #[v0, v1] := by cases args; simp_all
  obtain ⟨rfl, rfl⟩ := trodVars_none hV
  obtain ⟨xs0, b0, wx0⟩ := pairs_in (hval 0 _ v0 rfl rfl) h0
  have lt0 := lt_in h0
  obtain ⟨s1, rfl, rfl, rfl, w1⟩ := open_string Try.underlying9 (hval 1 9 v1 rfl rfl) h1
  clear hA0 hval0
  refine (walk_at W v0 xs0 b0 (fit_size wx0) s1 w1).mono fun e W' ⟨he, bel⟩ => ?_
  subst he
  exact ⟨_, rfl, _, _, _, [], _, [], hW', trodAll_mk1 (shut_bool Try.underlying4 _), (trodAll_cons_mk (Below.trod laidOut (by kernel_rfl) (of_decide_eq_true (by kernel_rfl)) h0 bel lt0) (trodAll_cons_mk (shut_string Try.underlying9 w1) trodAll_mk0)), rfl, bel.frame _, fun h => by cases h⟩

set_option maxRecDepth 100000 in
theorem closed : joinedFacts Try.prog 5 Try.f5 Rows.fnExactStoreGetSpec Rows.fnExactStoreGetRow = true := by
  unfold joinedFacts
  rw [may, lifts, mk]
  kernel_rfl
theorem over : Rows.fnExactStoreGetRow.holds Try.pinned (OpenSpec.ofChange Rows.fnExactStoreGetSpec) :=
  OpenClaim.holds_of_wide 5 Try.f5 rfl rfl rfl rfl rfl rfl rfl ⟨rfl, rfl, rfl, rfl, rfl⟩ rfl rfl rfl rfl rfl (by as_aux_lemma => kernel_rfl) Try.func5 closed
    (of_decide_eq_true (by as_aux_lemma => kernel_rfl)) (by unfold Func.isWrapper; rw [if_neg (of_decide_eq_false (by as_aux_lemma => kernel_rfl))]; exact ⟨rfl, rfl⟩)
    (fun os started H enc _ => lifted os started H enc)

/-- THE STATEMENT -/
theorem proved : Rows.FnExactStoreGetSaid := over
end Go.Proofs.Ytbhcgdjdkdiceaa.fnExactStoreGet
