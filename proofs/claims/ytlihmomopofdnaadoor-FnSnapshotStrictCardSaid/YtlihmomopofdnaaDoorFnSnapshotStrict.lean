/-
  For every input the law FnSnapshotStrict returns true, and what it was given reads afterwards as before. No condition beyond the row's own.
-/
import Derived.Test.YtlihmomopofdnaaDoorFrameP
import Derived.Test.YtlihmomopofdnaaDoorFrameF
import Derived.Test.YtlihmomopofdnaaDoorTie
import Derived.Test.YtlihmomopofdnaaDoorCards
import Derived.Test.YtlihmomopofdnaaDoorPlainE
import Derived.Test.YtlihmomopofdnaaDoorDecK
import Derived.Test.YtlihmomopofdnaaDoorDrawD
import Derived.SevenTiedAt
import Derived.Deep.DeepCutAuto
import Derived.Deep.QuietTactic
import Derived.BigQuiet
namespace Go.Proofs.YtlihmomopofdnaaDoor.fnSnapshotStrict
open Go.ChangeShapes Go.WideShapes Go.ChangeAt Go.RowKit
open Go.ChangeMaps (open_string shut_string)
set_option linter.unusedVariables false
theorem isDec_true {t : ByteArray} {ps : List (ByteArray × Int)} (h : IsDec t ps true) : Good ps ∧ encE ps = t := by
  rcases h with ⟨_, h1, h2⟩ | ⟨h, _, _⟩
  · refine ⟨h1, ?_⟩
    unfold encE
    rw [if_pos (ok_of h1)]
    exact h2
  · cases h

set_option maxRecDepth 100000 in
set_option maxHeartbeats 8000000 in
theorem walk_at (w : World) (v0 : Value) (n0 : Nat) (b0 : Bytes w 0 w.heap.size v0 n0) (hm : Met w) :
    Calls Tryd.prog 4 #[v0] w fun e w' => e = .returned (.bool true) ∧ Below w.heap.size w w' := by
  obtain ⟨a0, c0, hv0, hn0, hx0⟩ := b0.open
  clear hx0
  subst hv0
  by_cases big0 : n0 ≤ 1048576
  case neg =>
    go_enter Tryd.func4, Tryd.ntmps4
    go_wp2_with fail
    go_ret
    exact ⟨rfl, Below.refl _ _⟩
  have HM := Lib.hid hm
  clear hm
  go_enter Tryd.func4, Tryd.ntmps4
  go_wp2_with fail
  have HB : Below w.heap.size w w := Below.refl _ _
  refine (DrawStoreDecode_any _ n0 _ b0).mono ?_
  rintro e w1 ⟨tx, rfl, htl, hb1⟩
  have hs1 := hb1.size
  replace b0 := b0.below hb1
  replace HB := below_step HB hb1 HB.size
  clear hb1
  have HTL := Lib.hid htl
  obtain ⟨zs, ok, hd⟩ := isDec_ex tx
  have HZL := Lib.hid (Nat.le_trans (isDec_len hd) (show 6 ≤ 1048576 by decide))
  have HD := Lib.hid hd
  clear hd htl
  have hbb : (ok != ok) = false := by cases ok <;> rfl
  as_aux_lemma =>
   go_wp2_with fail
   refine (specDecode_eq tx zs ok _ HTL.out HD.out).mono ?_
   rintro e w2 ⟨vw, rfl, ow, hb2⟩
   have hs2 := hb2.size
   replace b0 := b0.below hb2
   replace HB := below_step HB hb2 HB.size
   clear hb2
   obtain ⟨aow, cow, hvow⟩ := ow.form
   subst hvow
   as_aux_lemma =>
    go_wp2_with fail
    refine (implDecode_eq tx zs ok _ HTL.out (HM.out.below HB) HD.out).mono ?_
    rintro e w3 ⟨vg, rfl, og, hb3⟩
    have hs3 := hb3.size
    replace b0 := b0.below hb3
    replace ow := ow.below hb3
    replace HB := below_step HB hb3 HB.size
    clear hb3
    obtain ⟨aog, cog, hvog⟩ := og.form
    subst hvog
    as_aux_lemma =>
     go_wp2_with fail
     refine (samePairs_same _ _ zs _ og.prs ow.prs).mono ?_
     rintro e w4 ⟨rfl, hw4⟩
     have hb4 := drawn_below hw4
     have hs4 := hb4.size
     replace b0 := b0.below hb4
     replace ow := ow.below hb4
     replace og := og.below hb4
     replace HB := below_step HB hb4 HB.size
     clear hb4 hw4
     cases ok
     · as_aux_lemma =>
        go_wp2_with fail
        refine (samePairs_same _ _ zs _ og.prs ow.prs).mono ?_
        rintro e w5 ⟨rfl, hw5⟩
        have hb5 := drawn_below hw5
        have hs5 := hb5.size
        replace b0 := b0.below hb5
        replace ow := ow.below hb5
        replace og := og.below hb5
        replace HB := below_step HB hb5 HB.size
        clear hb5 hw5
        as_aux_lemma =>
         go_wp2_with fail
         go_ret
         exact ⟨rfl, HB⟩
     · have HG := Lib.hid (isDec_true HD.out).1
       have HE := Lib.hid (isDec_true HD.out).2
       have hss : (tx.toList == tx.toList) = true := by simp
       as_aux_lemma =>
        go_wp2_with fail
        refine (implStoreValid_any _ zs _ og.prs HZL.out true (ok_of HG.out)).mono ?_
        rintro e w5 ⟨rfl, hb5⟩
        have hs5 := hb5.size
        replace b0 := b0.below hb5
        replace ow := ow.below hb5
        replace og := og.below hb5
        replace HB := below_step HB hb5 HB.size
        clear hb5
        as_aux_lemma =>
         go_wp2_with fail
         refine (implEncode_eq _ zs tx _ og.prs HZL.out HE.out).mono ?_
         rintro e w6 ⟨rfl, hb6⟩
         have hs6 := hb6.size
         replace b0 := b0.below hb6
         replace ow := ow.below hb6
         replace og := og.below hb6
         replace HB := below_step HB hb6 HB.size
         clear hb6
         as_aux_lemma =>
          go_wp2_with fail
          go_ret
          exact ⟨rfl, HB⟩

/-! ### THE ROW's STEP -/
set_option maxRecDepth 100000 in
theorem lifted (os : Os) (started : os.Started) (H : Type) (enc : TypeId × Value → H) :
    ReturnsInHanded {} Tryd.checked os 4 .any (fun w args => (Rows.fnSnapshotStrictSpec.pre enc Tryd.prog Tryd.f4 [] false w args ∧ laidMetH Tryd.prog laidL w) ∧ sizedMet enc Tryd.prog Tryd.f4 (OpenSpec.ofChange Rows.fnSnapshotStrictSpec) false w args)
      (Rows.fnSnapshotStrictSpec.post enc Tryd.prog Tryd.f4 false true false false) := by
  refine handed_shaped_and (C := Tryd.checked) (X := fun w _ => laidMetH Tryd.prog laidL w) (fun _ _ _ hh h => h.of_heap hh) own started (by kernel_rfl) Tryd.func4
    (ChangeSpec.witness_at (enc := enc) (C := Tryd.checked) (os := os) (X := fun w _ => laidMetH Tryd.prog laidL w) false (laidWorld os) #[.slice none 0 0] 8 (laidWorld_os os) (by kernel_rfl) (by kernel_rfl) (by kernel_rfl) (by kernel_rfl) (by kernel_rfl) (laidWorld_met os _)) ?_
  intro W base args ds gs before hval0 hW _ _ hL hsh _
  have hval : ∀ (j : Nat) t v, Tryd.f4.params[j]? = some t → args[j]? = some v → Value.okWide Tryd.prog W .any base t v := hval0
  have hW' := hW
  obtain ⟨p, q, hA0, hV, rfl, hfz, hnd⟩ := hW
  have hA : DataW.TrodAll enc Tryd.prog W 0 (fun _ => true) true Tryd.f4.params.toList args.toList ds p := hA0
  rw [Tryd.params4] at hA hval
  obtain ⟨v0, vs0, d0, ds0, p0, q0, hargs, rfl, rfl, h0, r0⟩ := trodAll_cons hA
  obtain ⟨rfl, rfl, rfl⟩ := trodAll_nil r0
  obtain rfl : args = #[v0] := by cases args; simp_all
  obtain ⟨rfl, rfl⟩ := trodVars_none hV
  obtain ⟨n0, b0⟩ := bytes_in (hval 0 _ v0 rfl rfl) h0
  have lt0 := lt_in h0
  clear hA0 hval0
  refine (walk_at W v0 n0 b0 (met_of hL hsh)).mono fun e W' ⟨he, bel⟩ => ?_
  subst he
  exact ⟨_, rfl, _, _, _, [], _, [], hW', trodAll_mk1 (shut_bool Tryd.underlying4 _), (trodAll_cons_mk (Below.trod laidOut (by kernel_rfl) (of_decide_eq_true (by kernel_rfl)) h0 bel lt0) trodAll_mk0), rfl, bel.frame _, fun h => by cases h⟩

set_option maxRecDepth 100000 in
theorem closed : joinedFacts Tryd.prog 4 Tryd.f4 Rows.fnSnapshotStrictSpec Rows.fnSnapshotStrictRow = true := by
  unfold joinedFacts
  rw [may, lifts, mk]
  kernel_rfl
theorem over : Rows.fnSnapshotStrictRow.holds Tryd.pinned (OpenSpec.ofChange Rows.fnSnapshotStrictSpec) :=
  OpenClaim.holds_of_wide 4 Tryd.f4 rfl rfl rfl rfl rfl rfl rfl ⟨rfl, rfl, rfl, rfl, rfl⟩ rfl rfl rfl rfl rfl (by as_aux_lemma => kernel_rfl) Tryd.func4 closed
    (of_decide_eq_true (by as_aux_lemma => kernel_rfl)) (by unfold Func.isWrapper; rw [if_neg (of_decide_eq_false (by as_aux_lemma => kernel_rfl))]; exact ⟨rfl, rfl⟩)
    (fun os started H enc _ => lifted os started H enc)

/-- THE STATEMENT: the tied card -/
theorem proved : Rows.FnSnapshotStrictCardSaid :=
  Claim7.holds_tied_plain_at .later [] [.data, .data, .data, .data, .sentinel, .sentinel, .pinned] true Rows.fnSnapshotStrictCard.stood.harness true
    over (fun _ h => by cases h) (by kernel_rfl) (fun _ h => by cases h) fnSnapshotStrict_row_tie rfl ⟨rfl, rfl⟩ (by kernel_rfl) rfl
    (fun f fn hf hfn => by
      obtain rfl : f = 4 := Option.some.inj ((show Tryd.prog.funcNamed "loop.example/flexquorum/laws.FnSnapshotStrict" = some 4 by kernel_rfl).symm.trans hf) |>.symm
      obtain rfl : fn = Tryd.f4 := (Option.some.inj (Tryd.func4.symm.trans hfn)).symm
      exact ⟨by kernel_rfl, fun j t ht => by
        rw [Tryd.params4] at ht
        have hm := Array.mem_of_getElem? ht
        simp only [List.mem_toArray, List.mem_cons, List.not_mem_nil, or_false] at hm
        (subst hm; exact (show Tryd.prog.wantsStandIn 28 = false by kernel_rfl))⟩)
    (by kernel_rfl)
end Go.Proofs.YtlihmomopofdnaaDoor.fnSnapshotStrict
