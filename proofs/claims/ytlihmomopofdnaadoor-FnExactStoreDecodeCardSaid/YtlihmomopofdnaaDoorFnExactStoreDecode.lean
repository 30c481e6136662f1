/-
  For every input the law FnExactStoreDecode returns true, and what it was given reads afterwards as before. No condition beyond the row's own.
-/
import Derived.Test.YtlihmomopofdnaaDoorFrameP
import Derived.Test.YtlihmomopofdnaaDoorFrameF
import Derived.Test.YtlihmomopofdnaaDoorTie
import Derived.Test.YtlihmomopofdnaaDoorCards
import Derived.Test.YtlihmomopofdnaaDoorDecK
import Derived.Test.YtlihmomopofdnaaDoorMark
import Derived.Test.YtlihmomopofdnaaDoorPairU
import Derived.SevenTiedAt
import Derived.Deep.DeepCutAuto
import Derived.Deep.QuietTactic
import Derived.BigQuiet
namespace Go.Proofs.YtlihmomopofdnaaDoor.fnExactStoreDecode
open Go.ChangeShapes Go.WideShapes Go.ChangeAt Go.RowKit
open Go.ChangeMaps (open_string shut_string)
set_option linter.unusedVariables false

set_option maxRecDepth 100000 in
set_option maxHeartbeats 8000000 in
theorem walk_at (w : World) (s0 : ByteArray) (ws0 : s0.size ≤ maxLen) (hm : Met w) :
    Calls Tryd.prog 3 #[.string s0] w fun e w' => e = .returned (.bool true) ∧ Below w.heap.size w w' := by
  have hs0s : s0.size ≤ 9223372036854775807 := by unfold maxLen at ws0; omega
  by_cases big0 : s0.size ≤ 1048576
  case neg =>
    have hbg : (1048576 : Int) < (s0.size : Int) := by omega
    go_enter Tryd.func3, Tryd.ntmps3
    go_wp2_with fail
    go_ret
    exact ⟨rfl, Below.refl _ _⟩
  have hbg0 : ¬ (1048576 : Int) < (s0.size : Int) := by omega
  have HM := Lib.hid hm
  clear hm
  obtain ⟨zs, ok, hd⟩ := isDec_ex s0
  have HZL := Lib.hid (isDec_len hd)
  have HD := Lib.hid hd
  clear hd
  have hbb : (ok != ok) = false := by cases ok <;> rfl
  go_enter Tryd.func3, Tryd.ntmps3
  go_wp2_with fail
  have HB : Below w.heap.size w w := Below.refl _ _
  refine (specDecode_eq s0 zs ok _ big0 HD.out).mono ?_
  rintro e w1 ⟨vw, rfl, ow, hb1⟩
  have hs1 := hb1.size
  replace HB := below_step HB hb1 HB.size
  clear hb1
  obtain ⟨aow, cow, hvow⟩ := ow.form
  subst hvow
  as_aux_lemma =>
   go_wp2_with fail
   refine (implDecode_eq s0 zs ok _ big0 (HM.out.below HB) HD.out).mono ?_
   rintro e w2 ⟨vg, rfl, og, hb2⟩
   have hs2 := hb2.size
   replace ow := ow.below hb2
   replace HB := below_step HB hb2 HB.size
   clear hb2
   obtain ⟨aog, cog, hvog⟩ := og.form
   subst hvog
   as_aux_lemma =>
    go_wp2_with fail
    refine (eqPairS_same _ _ zs _ og.prs ow.prs).mono ?_
    rintro e w3 ⟨rfl, hb3⟩
    have hs3 := hb3.size
    replace ow := ow.below hb3
    replace og := og.below hb3
    replace HB := below_step HB hb3 HB.size
    clear hb3
    as_aux_lemma =>
     go_wp2_with fail
     have hqn : ¬ (1 + 2 * (zs.length : Int) < 0) := by omega
     have hqq : (1 + 2 * (zs.length : Int) != 1 + 2 * (zs.length : Int)) = false := by simp
     refine (markPairS_any _ zs 1 _ og (by omega) (by have := HZL.out; omega)).mono ?_
     rintro e w4 ⟨rfl, hm4, hk4⟩
     have hs4 := hk4.size
     replace ow := PrsO.keep ow hk4 (by omega)
     replace HB := HB.trans (hk4.below (B := w.heap.size) (by omega) HB.size)
     replace og := hm4
     clear hk4
     as_aux_lemma =>
      go_wp2_with fail
      refine (heldPairS_any _ zs.length 1 _ og.prs (by omega) (by have := HZL.out; omega)).mono ?_
      rintro e w5 ⟨rfl, hb5⟩
      have hs5 := hb5.size
      replace ow := ow.below hb5
      replace og := og.below hb5
      replace HB := below_step HB hb5 HB.size
      clear hb5
      as_aux_lemma =>
       go_wp2_with fail
       refine (implDecode_eq s0 zs ok _ big0 (HM.out.below HB) HD.out).mono ?_
       rintro e w6 ⟨vh, rfl, oh, hb6⟩
       have hs6 := hb6.size
       replace ow := ow.below hb6
       replace og := og.below hb6
       replace HB := below_step HB hb6 HB.size
       clear hb6
       obtain ⟨aoh, coh, hvoh⟩ := oh.form
       subst hvoh
       as_aux_lemma =>
        go_wp2_with fail
        refine (eqPairS_same _ _ zs _ oh.prs ow.prs).mono ?_
        rintro e w7 ⟨rfl, hb7⟩
        have hs7 := hb7.size
        replace ow := ow.below hb7
        replace og := og.below hb7
        replace oh := oh.below hb7
        replace HB := below_step HB hb7 HB.size
        clear hb7
        as_aux_lemma =>
         go_wp2_with fail
         refine (heldPairS_any _ zs.length 1 _ og.prs (by omega) (by have := HZL.out; omega)).mono ?_
         rintro e w8 ⟨rfl, hb8⟩
         have hs8 := hb8.size
         replace ow := ow.below hb8
         replace og := og.below hb8
         replace oh := oh.below hb8
         replace HB := below_step HB hb8 HB.size
         clear hb8
         as_aux_lemma =>
          go_wp2_with fail
          go_ret
          exact ⟨rfl, HB⟩

/-! ### THE ROW's STEP -/
set_option maxRecDepth 100000 in
theorem lifted (os : Os) (started : os.Started) (H : Type) (enc : TypeId × Value → H) :
    ReturnsInHanded {} Tryd.checked os 3 .any (fun w args => (Rows.fnExactStoreDecodeSpec.pre enc Tryd.prog Tryd.f3 [] false w args ∧ laidMetH Tryd.prog laidL w) ∧ sizedMet enc Tryd.prog Tryd.f3 (OpenSpec.ofChange Rows.fnExactStoreDecodeSpec) false w args)
      (Rows.fnExactStoreDecodeSpec.post enc Tryd.prog Tryd.f3 false true false false) := by
  refine handed_shaped_and (C := Tryd.checked) (X := fun w _ => laidMetH Tryd.prog laidL w) (fun _ _ _ hh h => h.of_heap hh) own started (by kernel_rfl) Tryd.func3
    (ChangeSpec.witness_at (enc := enc) (C := Tryd.checked) (os := os) (X := fun w _ => laidMetH Tryd.prog laidL w) false (laidWorld os) #[.string ByteArray.empty] 8 (laidWorld_os os) (by kernel_rfl) (by kernel_rfl) (by kernel_rfl) (by kernel_rfl) (by kernel_rfl) (laidWorld_met os _)) ?_
  intro W base args ds gs before hval0 hW _ _ hL hsh _
  have hval : ∀ (j : Nat) t v, Tryd.f3.params[j]? = some t → args[j]? = some v → Value.okWide Tryd.prog W .any base t v := hval0
  have hW' := hW
  obtain ⟨p, q, hA0, hV, rfl, hfz, hnd⟩ := hW
  have hA : DataW.TrodAll enc Tryd.prog W 0 (fun _ => true) true Tryd.f3.params.toList args.toList ds p := hA0
  rw [Tryd.params3] at hA hval
  obtain ⟨v0, vs0, d0, ds0, p0, q0, hargs, rfl, rfl, h0, r0⟩ := trodAll_cons hA
  obtain ⟨rfl, rfl, rfl⟩ := trodAll_nil r0
  obtain rfl : args = #[v0] := by cases args; simp_all
  obtain ⟨rfl, rfl⟩ := trodVars_none hV
  obtain ⟨s0, rfl, rfl, rfl, w0⟩ := open_string Tryd.underlying9 (hval 0 9 v0 rfl rfl) h0
  clear hA0 hval0
  refine (walk_at W s0 w0 (met_of hL hsh)).mono fun e W' ⟨he, bel⟩ => ?_
  subst he
  exact ⟨_, rfl, _, _, _, [], _, [], hW', trodAll_mk1 (shut_bool Tryd.underlying4 _), (trodAll_cons_mk (shut_string Tryd.underlying9 w0) trodAll_mk0), rfl, bel.frame _, fun h => by cases h⟩

set_option maxRecDepth 100000 in
theorem closed : joinedFacts Tryd.prog 3 Tryd.f3 Rows.fnExactStoreDecodeSpec Rows.fnExactStoreDecodeRow = true := by
  unfold joinedFacts
  rw [may, lifts, mk]
  kernel_rfl
theorem over : Rows.fnExactStoreDecodeRow.holds Tryd.pinned (OpenSpec.ofChange Rows.fnExactStoreDecodeSpec) :=
  OpenClaim.holds_of_wide 3 Tryd.f3 rfl rfl rfl rfl rfl rfl rfl ⟨rfl, rfl, rfl, rfl, rfl⟩ rfl rfl rfl rfl rfl (by as_aux_lemma => kernel_rfl) Tryd.func3 closed
    (of_decide_eq_true (by as_aux_lemma => kernel_rfl)) (by unfold Func.isWrapper; rw [if_neg (of_decide_eq_false (by as_aux_lemma => kernel_rfl))]; exact ⟨rfl, rfl⟩)
    (fun os started H enc _ => lifted os started H enc)

/-- THE STATEMENT: the tied card -/
theorem proved : Rows.FnExactStoreDecodeCardSaid :=
  Claim7.holds_tied_plain_at .later [] [.data, .data, .data, .data, .sentinel, .sentinel, .pinned] true Rows.fnExactStoreDecodeCard.stood.harness true
    over (fun _ h => by cases h) (by kernel_rfl) (fun _ h => by cases h) fnExactStoreDecode_row_tie rfl ⟨rfl, rfl⟩ (by kernel_rfl) rfl
    (fun f fn hf hfn => by
      obtain rfl : f = 3 := Option.some.inj ((show Tryd.prog.funcNamed "loop.example/flexquorum/laws.FnExactStoreDecode" = some 3 by kernel_rfl).symm.trans hf) |>.symm
      obtain rfl : fn = Tryd.f3 := (Option.some.inj (Tryd.func3.symm.trans hfn)).symm
      exact ⟨by kernel_rfl, fun j t ht => by
        rw [Tryd.params3] at ht
        have hm := Array.mem_of_getElem? ht
        simp only [List.mem_toArray, List.mem_cons, List.not_mem_nil, or_false] at hm
        (subst hm; exact (show Tryd.prog.wantsStandIn 9 = false by kernel_rfl))⟩)
    (by kernel_rfl)
end Go.Proofs.YtlihmomopofdnaaDoor.fnExactStoreDecode
