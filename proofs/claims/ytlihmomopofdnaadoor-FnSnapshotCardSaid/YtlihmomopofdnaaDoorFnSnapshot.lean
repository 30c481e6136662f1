/-
  For every input the law FnSnapshot returns true, and what it was given reads afterwards as before. No condition beyond the row's own.
-/
import Derived.Test.YtlihmomopofdnaaDoorFrameP
import Derived.Test.YtlihmomopofdnaaDoorFrameF
import Derived.Test.YtlihmomopofdnaaDoorTie
import Derived.Test.YtlihmomopofdnaaDoorCards
import Derived.Test.YtlihmomopofdnaaDoorPlainE
import Derived.Test.YtlihmomopofdnaaDoorDecK
import Derived.SevenTiedAt
import Derived.Deep.DeepCutAuto
import Derived.Deep.QuietTactic
import Derived.BigQuiet
namespace Go.Proofs.YtlihmomopofdnaaDoor.fnSnapshot
open Go.ChangeShapes Go.WideShapes Go.ChangeAt Go.RowKit
open Go.ChangeMaps (open_string shut_string)
set_option linter.unusedVariables false

set_option maxRecDepth 100000 in
set_option maxHeartbeats 8000000 in
theorem walk_at (w : World) (v0 : Value) (n0 : Nat) (b0 : Bytes w 0 w.heap.size v0 n0) (hm : Met w) :
    Calls Tryd.prog 7 #[v0] w fun e w' => e = .returned (.bool true) ∧ Below w.heap.size w w' := by
  obtain ⟨a0, c0, hv0, hn0, hx0⟩ := b0.open
  clear hx0
  subst hv0
  by_cases big0 : n0 ≤ 1048576
  case neg =>
    go_enter Tryd.func7, Tryd.ntmps7
    go_wp2_with fail
    go_ret
    exact ⟨rfl, Below.refl _ _⟩
  have HM := Lib.hid hm
  clear hm
  go_enter Tryd.func7, Tryd.ntmps7
  go_wp2_with fail
  have HB : Below w.heap.size w w := Below.refl _ _
  refine (DrawStoreEncode_any _ n0 _ b0).mono ?_
  rintro e w1 ⟨sv, ps, rfl, o, hlen, hb1⟩
  have hs1 := hb1.size
  replace b0 := b0.below hb1
  replace HB := below_step HB hb1 HB.size
  clear hb1
  obtain ⟨ao, co, hvo⟩ := o.form
  subst hvo
  have HL := Lib.hid (Nat.le_trans hlen (show 5 ≤ 1048576 by decide))
  clear hlen
  cases hv : storeOk ps
  · have HE := Lib.hid (show encE ps = ⟨#[]⟩ by unfold encE; rw [hv]; rfl)
    clear hv
    as_aux_lemma =>
     go_wp2_with fail
     refine (implEncode_eq _ ps ⟨#[]⟩ _ o.prs HL.out HE.out).mono ?_
     rintro e w2 ⟨rfl, hb2⟩
     have hs2 := hb2.size
     replace b0 := b0.below hb2
     replace o := o.below hb2
     replace HB := below_step HB hb2 HB.size
     clear hb2
     as_aux_lemma =>
      go_wp2_with fail
      refine (specEncode_eq _ ps ⟨#[]⟩ _ o.prs HL.out HE.out).mono ?_
      rintro e w3 ⟨rfl, hb3⟩
      have hs3 := hb3.size
      replace b0 := b0.below hb3
      replace o := o.below hb3
      replace HB := below_step HB hb3 HB.size
      clear hb3
      as_aux_lemma =>
       go_wp2_with fail
       refine (specEncode_eq _ ps ⟨#[]⟩ _ o.prs HL.out HE.out).mono ?_
       rintro e w4 ⟨rfl, hb4⟩
       have hs4 := hb4.size
       replace b0 := b0.below hb4
       replace o := o.below hb4
       replace HB := below_step HB hb4 HB.size
       clear hb4
       as_aux_lemma =>
        go_wp2_with fail
        go_ret
        exact ⟨rfl, HB⟩
  · have HG := Lib.hid (good_of hv)
    have HET := Lib.hid (show encE ps = textE ps by unfold encE; rw [hv]; rfl)
    obtain ⟨tx, htx⟩ : ∃ tx, textE ps = tx := ⟨_, rfl⟩
    have hnt := text_ne ps
    rw [htx] at hnt
    have HTX := Lib.hid htx
    have HE := Lib.hid (show encE ps = tx by rw [HET.out, HTX.out])
    have hss : (tx.toList != tx.toList) = false := by simp
    have hs0 : (tx.toList == []) = false := by simpa using hnt
    have hs1 : (tx.toList == (⟨#[]⟩ : ByteArray).toList) = false := by
      rw [show (⟨#[]⟩ : ByteArray).toList = [] from by rw [Lib.toList_data]]
      exact hs0
    clear hv htx hnt
    as_aux_lemma =>
     go_wp2_with fail
     refine (implEncode_eq _ ps tx _ o.prs HL.out HE.out).mono ?_
     rintro e w2 ⟨rfl, hb2⟩
     have hs2 := hb2.size
     replace b0 := b0.below hb2
     replace o := o.below hb2
     replace HB := below_step HB hb2 HB.size
     clear hb2
     as_aux_lemma =>
      go_wp2_with fail
      refine (specEncode_eq _ ps tx _ o.prs HL.out HE.out).mono ?_
      rintro e w3 ⟨rfl, hb3⟩
      have hs3 := hb3.size
      replace b0 := b0.below hb3
      replace o := o.below hb3
      replace HB := below_step HB hb3 HB.size
      clear hb3
      have HD := Lib.hid (show IsDec tx ps true from .inl ⟨rfl, HG.out, HTX.out⟩)
      have HTL := Lib.hid (show tx.size ≤ 1048576 by rw [← HTX.out]; exact text_size HG.out)
      as_aux_lemma =>
       go_wp2_with fail
       refine (implDecode_eq tx ps true _ HTL.out (HM.out.below HB) HD.out).mono ?_
       rintro e w4 ⟨vx, rfl, ox, hb4⟩
       have hs4 := hb4.size
       replace b0 := b0.below hb4
       replace o := o.below hb4
       replace HB := below_step HB hb4 HB.size
       clear hb4
       obtain ⟨aox, cox, hvox⟩ := ox.form
       subst hvox
       as_aux_lemma =>
        go_wp2_with fail
        refine (samePairs_same _ _ ps _ ox.prs o.prs).mono ?_
        rintro e w5 ⟨rfl, hw5⟩
        have hb5 := drawn_below hw5
        have hs5 := hb5.size
        replace b0 := b0.below hb5
        replace o := o.below hb5
        replace ox := ox.below hb5
        replace HB := below_step HB hb5 HB.size
        clear hb5 hw5
        as_aux_lemma =>
         go_wp2_with fail
         go_ret
         exact ⟨rfl, HB⟩

/-! ### THE ROW's STEP -/
set_option maxRecDepth 100000 in
theorem lifted (os : Os) (started : os.Started) (H : Type) (enc : TypeId × Value → H) :
    ReturnsInHanded {} Tryd.checked os 7 .any (fun w args => (Rows.fnSnapshotSpec.pre enc Tryd.prog Tryd.f7 [] false w args ∧ laidMetH Tryd.prog laidL w) ∧ sizedMet enc Tryd.prog Tryd.f7 (OpenSpec.ofChange Rows.fnSnapshotSpec) false w args)
      (Rows.fnSnapshotSpec.post enc Tryd.prog Tryd.f7 false true false false) := by
  refine handed_shaped_and (C := Tryd.checked) (X := fun w _ => laidMetH Tryd.prog laidL w) (fun _ _ _ hh h => h.of_heap hh) own started (by kernel_rfl) Tryd.func7
    (ChangeSpec.witness_at (enc := enc) (C := Tryd.checked) (os := os) (X := fun w _ => laidMetH Tryd.prog laidL w) false (laidWorld os) #[.slice none 0 0] 8 (laidWorld_os os) (by kernel_rfl) (by kernel_rfl) (by kernel_rfl) (by kernel_rfl) (by kernel_rfl) (laidWorld_met os _)) ?_
  intro W base args ds gs before hval0 hW _ _ hL hsh _
  have hval : ∀ (j : Nat) t v, Tryd.f7.params[j]? = some t → args[j]? = some v → Value.okWide Tryd.prog W .any base t v := hval0
  have hW' := hW
  obtain ⟨p, q, hA0, hV, rfl, hfz, hnd⟩ := hW
  have hA : DataW.TrodAll enc Tryd.prog W 0 (fun _ => true) true Tryd.f7.params.toList args.toList ds p := hA0
  rw [Tryd.params7] at hA hval
  obtain ⟨v0, vs0, d0, ds0, p0, q0, hargs, rfl, rfl, h0, r0⟩ := trodAll_cons hA
  obtain ⟨rfl, rfl, rfl⟩ := trodAll_nil r0
  obtain rfl : args = #[v0] := by cases args; simp_all
  obtain ⟨rfl, rfl⟩ := trodVars_none hV
  obtain ⟨n0, b0⟩ := bytes_in (hval 0 _ v0 rfl rfl) h0
  have lt0 := lt_in h0
  clear hA0 hval0
  refine (walk_at W v0 n0 b0 (met_of hL hsh)).mono fun e W' ⟨he, bel⟩ => ?_
  subst he
  exact ⟨_, rfl, _, _, _, [], _, [], hW', trodAll_mk1 (shut_bool Tryd.underlying4 _), (trodAll_cons_mk (Below.trod laidOut (by kernel_rfl) (of_decide_eq_true (by kernel_rfl)) h0 bel lt0) trodAll_mk0), rfl, bel.frame _, fun h => by cases h⟩

set_option maxRecDepth 100000 in
theorem closed : joinedFacts Tryd.prog 7 Tryd.f7 Rows.fnSnapshotSpec Rows.fnSnapshotRow = true := by
  unfold joinedFacts
  rw [may, lifts, mk]
  kernel_rfl
theorem over : Rows.fnSnapshotRow.holds Tryd.pinned (OpenSpec.ofChange Rows.fnSnapshotSpec) :=
  OpenClaim.holds_of_wide 7 Tryd.f7 rfl rfl rfl rfl rfl rfl rfl ⟨rfl, rfl, rfl, rfl, rfl⟩ rfl rfl rfl rfl rfl (by as_aux_lemma => kernel_rfl) Tryd.func7 closed
    (of_decide_eq_true (by as_aux_lemma => kernel_rfl)) (by unfold Func.isWrapper; rw [if_neg (of_decide_eq_false (by as_aux_lemma => kernel_rfl))]; exact ⟨rfl, rfl⟩)
    (fun os started H enc _ => lifted os started H enc)

/-- THE STATEMENT: the tied card -/
theorem proved : Rows.FnSnapshotCardSaid :=
  Claim7.holds_tied_plain_at .later [] [.data, .data, .data, .data, .sentinel, .sentinel, .pinned] true Rows.fnSnapshotCard.stood.harness true
    over (fun _ h => by cases h) (by kernel_rfl) (fun _ h => by cases h) fnSnapshot_row_tie rfl ⟨rfl, rfl⟩ (by kernel_rfl) rfl
    (fun f fn hf hfn => by
      obtain rfl : f = 7 := Option.some.inj ((show Tryd.prog.funcNamed "loop.example/flexquorum/laws.FnSnapshot" = some 7 by kernel_rfl).symm.trans hf) |>.symm
      obtain rfl : fn = Tryd.f7 := (Option.some.inj (Tryd.func7.symm.trans hfn)).symm
      exact ⟨by kernel_rfl, fun j t ht => by
        rw [Tryd.params7] at ht
        have hm := Array.mem_of_getElem? ht
        simp only [List.mem_toArray, List.mem_cons, List.not_mem_nil, or_false] at hm
        (subst hm; exact (show Tryd.prog.wantsStandIn 28 = false by kernel_rfl))⟩)
    (by kernel_rfl)
end Go.Proofs.YtlihmomopofdnaaDoor.fnSnapshot
