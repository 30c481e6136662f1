/-
  For every input the law FnExactStoreEncode returns true, and what it was given reads afterwards as before. No condition beyond the row's own.
-/
import Derived.Test.YtlihmomopofdnaaDoorFrameP
import Derived.Test.YtlihmomopofdnaaDoorFrameE
import Derived.Test.YtlihmomopofdnaaDoorTie
import Derived.Test.YtlihmomopofdnaaDoorCards
import Derived.Test.YtlihmomopofdnaaDoorEncW
import Derived.Test.YtlihmomopofdnaaDoorPairU
import Derived.SevenTiedAt
import Derived.Deep.DeepCutAuto
import Derived.Deep.QuietTactic
import Derived.BigQuiet
namespace Go.Proofs.YtlihmomopofdnaaDoor.fnExactStoreEncode
open Go.ChangeShapes Go.WideShapes Go.ChangeAt Go.RowKit
open Go.ChangeMaps (open_string shut_string)
set_option linter.unusedVariables false

set_option maxRecDepth 100000 in
set_option maxHeartbeats 8000000 in
theorem walk_at (w : World) (v0 : Value) (xs0 : List (ByteArray × Int)) (b0 : Prs w 0 w.heap.size v0 xs0) (hz0 : ∀ k, k < xs0.length → (pk xs0 k).size ≤ maxLen) :
    Calls Tryd.prog 5 #[v0] w fun e w' => e = .returned (.bool true) ∧ Below w.heap.size w w' := by
  have hss : ((encE xs0).toList != (encE xs0).toList) = false := by simp
  go_enter Tryd.func5, Tryd.ntmps5
  go_wp2_with fail
  have HB : Below w.heap.size w w := Below.refl _ _
  refine (szPairS_any _ xs0 _ b0 hz0).mono ?_
  rintro e w1 ⟨m, rfl, hm, hb1⟩
  have hs1 := hb1.size
  replace b0 := b0.below hb1
  replace HB := below_step HB hb1 HB.size
  clear hb1
  rcases hm with rfl | ⟨hm0, big0, hm1⟩
  · go_wp2_with fail
    go_ret
    exact ⟨rfl, HB⟩
  have hmn : ¬ m < 0 := by omega
  as_aux_lemma =>
   go_wp2_with fail
   refine (toPairS_any _ xs0 _ b0 big0).mono ?_
   rintro e w2 ⟨vo0, rfl, o0, hb2⟩
   have hs2 := hb2.size
   replace b0 := b0.below hb2
   replace HB := below_step HB hb2 HB.size
   clear hb2
   obtain ⟨ao0, co0, hvo0⟩ := o0.form
   subst hvo0
   as_aux_lemma =>
    go_wp2_with fail
    refine (specEncode_any _ xs0 _ o0.prs big0).mono ?_
    rintro e w3 ⟨rfl, hb3⟩
    have hs3 := hb3.size
    replace b0 := b0.below hb3
    replace o0 := o0.below hb3
    replace HB := below_step HB hb3 HB.size
    clear hb3
    as_aux_lemma =>
     go_wp2_with fail
     refine (toPairS_any _ xs0 _ b0 big0).mono ?_
     rintro e w4 ⟨vox, rfl, ox, hb4⟩
     have hs4 := hb4.size
     replace b0 := b0.below hb4
     replace o0 := o0.below hb4
     replace HB := below_step HB hb4 HB.size
     clear hb4
     obtain ⟨aox, cox, hvox⟩ := ox.form
     subst hvox
     as_aux_lemma =>
      go_wp2_with fail
      refine (implEncode_any _ xs0 _ ox.prs big0).mono ?_
      rintro e w5 ⟨rfl, hb5⟩
      have hs5 := hb5.size
      replace b0 := b0.below hb5
      replace o0 := o0.below hb5
      replace ox := ox.below hb5
      replace HB := below_step HB hb5 HB.size
      clear hb5
      as_aux_lemma =>
       go_wp2_with fail
       refine (toPairS_any _ xs0 _ b0 big0).mono ?_
       rintro e w6 ⟨vo2, rfl, o2, hb6⟩
       have hs6 := hb6.size
       replace b0 := b0.below hb6
       replace o0 := o0.below hb6
       replace ox := ox.below hb6
       replace HB := below_step HB hb6 HB.size
       clear hb6
       obtain ⟨ao2, co2, hvo2⟩ := o2.form
       subst hvo2
       as_aux_lemma =>
        go_wp2_with fail
        refine (eqPairS_same _ _ xs0 _ ox.prs o2.prs).mono ?_
        rintro e w7 ⟨rfl, hb7⟩
        have hs7 := hb7.size
        replace b0 := b0.below hb7
        replace o0 := o0.below hb7
        replace ox := ox.below hb7
        replace o2 := o2.below hb7
        replace HB := below_step HB hb7 HB.size
        clear hb7
        as_aux_lemma =>
         go_wp2_with fail
         go_ret
         exact ⟨rfl, HB⟩

/-! ### THE ROW's STEP -/
set_option maxRecDepth 100000 in
theorem lifted (os : Os) (started : os.Started) (H : Type) (enc : TypeId × Value → H) :
    ReturnsInHanded {} Tryd.checked os 5 .any (fun w args => (Rows.fnExactStoreEncodeSpec.pre enc Tryd.prog Tryd.f5 [] false w args ∧ laidMetH Tryd.prog laidL w) ∧ sizedMet enc Tryd.prog Tryd.f5 (OpenSpec.ofChange Rows.fnExactStoreEncodeSpec) false w args)
      (Rows.fnExactStoreEncodeSpec.post enc Tryd.prog Tryd.f5 false true false false) := by
  refine returnsInHanded_of_change_and (C := Tryd.checked) (X := fun w _ => laidMetH Tryd.prog laidL w) (fun _ _ _ hh h => h.of_heap hh) own started (by kernel_rfl) Tryd.func5
    (ChangeSpec.witness_at (enc := enc) (C := Tryd.checked) (os := os) (X := fun w _ => laidMetH Tryd.prog laidL w) false (laidWorld os) #[.slice none 0 0] 8 (laidWorld_os os) (by kernel_rfl) (by kernel_rfl) (by kernel_rfl) (by kernel_rfl) (by kernel_rfl) (laidWorld_met os _)) ?_
  intro W base args ds gs before hval0 hW _ _ hL _
  have hval : ∀ (j : Nat) t v, Tryd.f5.params[j]? = some t → args[j]? = some v → Value.okWide Tryd.prog W .any base t v := hval0
  have hW' := hW
  obtain ⟨p, q, hA0, hV, rfl, hfz, hnd⟩ := hW
  have hA : DataW.TrodAll enc Tryd.prog W 0 (fun _ => true) true Tryd.f5.params.toList args.toList ds p := hA0
  rw [Tryd.params5] at hA hval
  obtain ⟨v0, vs0, d0, ds0, p0, q0, hargs, rfl, rfl, h0, r0⟩ := trodAll_cons hA
  obtain ⟨rfl, rfl, rfl⟩ := trodAll_nil r0
  obtain rfl : args = #[v0] := by cases args; simp_all
  obtain ⟨rfl, rfl⟩ := trodVars_none hV
  obtain ⟨xs0, b0, wx0⟩ := pairs_in (hval 0 _ v0 rfl rfl) h0
  have lt0 := lt_in h0
  clear hA0 hval0
  refine (walk_at W v0 xs0 b0 (fit_size wx0)).mono fun e W' ⟨he, bel⟩ => ?_
  subst he
  exact ⟨_, rfl, _, _, _, [], _, [], hW', trodAll_mk1 (shut_bool Tryd.underlying4 _), (trodAll_cons_mk (Below.trod laidOut (by kernel_rfl) (of_decide_eq_true (by kernel_rfl)) h0 bel lt0) trodAll_mk0), rfl, bel.frame _, fun h => by cases h⟩

set_option maxRecDepth 100000 in
theorem closed : joinedFacts Tryd.prog 5 Tryd.f5 Rows.fnExactStoreEncodeSpec Rows.fnExactStoreEncodeRow = true := by
  unfold joinedFacts
  rw [may, lifts, mk]
  kernel_rfl
theorem over : Rows.fnExactStoreEncodeRow.holds Tryd.pinned (OpenSpec.ofChange Rows.fnExactStoreEncodeSpec) :=
  OpenClaim.holds_of_wide 5 Tryd.f5 rfl rfl rfl rfl rfl rfl rfl ⟨rfl, rfl, rfl, rfl, rfl⟩ rfl rfl rfl rfl rfl (by as_aux_lemma => kernel_rfl) Tryd.func5 closed
    (of_decide_eq_true (by as_aux_lemma => kernel_rfl)) (by unfold Func.isWrapper; rw [if_neg (of_decide_eq_false (by as_aux_lemma => kernel_rfl))]; exact ⟨rfl, rfl⟩)
    (fun os started H enc _ => lifted os started H enc)

/-- THE STATEMENT: the tied card -/
theorem proved : Rows.FnExactStoreEncodeCardSaid :=
  Claim7.holds_tied_plain_at .later [] [.data, .data, .data] true Rows.fnExactStoreEncodeCard.stood.harness true
    over (fun _ h => by cases h) (by kernel_rfl) (fun _ h => by cases h) fnExactStoreEncode_row_tie rfl ⟨rfl, rfl⟩ (by kernel_rfl) rfl
    (fun f fn hf hfn => by
      obtain rfl : f = 5 := Option.some.inj ((show Tryd.prog.funcNamed "loop.example/flexquorum/laws.FnExactStoreEncode" = some 5 by kernel_rfl).symm.trans hf) |>.symm
      obtain rfl : fn = Tryd.f5 := (Option.some.inj (Tryd.func5.symm.trans hfn)).symm
      exact ⟨by kernel_rfl, fun j t ht => by
        rw [Tryd.params5] at ht
        have hm := Array.mem_of_getElem? ht
        simp only [List.mem_toArray, List.mem_cons, List.not_mem_nil, or_false] at hm
        (subst hm; exact (show Tryd.prog.wantsStandIn 33 = false by kernel_rfl))⟩)
    (by kernel_rfl)
end Go.Proofs.YtlihmomopofdnaaDoor.fnExactStoreEncode
