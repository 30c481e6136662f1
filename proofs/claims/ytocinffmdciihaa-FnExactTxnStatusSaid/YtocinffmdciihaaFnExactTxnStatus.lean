/-
  For every input the law FnExactTxnStatus returns true, and what it was given reads afterwards as before. No condition beyond the row's own.
-/
import Derived.Test.YtocinffmdciihaaFrame
import Derived.Test.YtocinffmdciihaaFrameT
import Derived.Test.YtocinffmdciihaaTxnS
import Derived.Test.YtocinffmdciihaaTxnE
import Derived.Deep.DeepCutAuto
import Derived.Deep.QuietTactic
import Derived.Deep.RegionHeld3
import Derived.BigQuiet
namespace Go.Proofs.Ytocinffmdciihaa.fnExactTxnStatus
open Go.ChangeShapes Go.WideShapes Go.ChangeAt Go.RowKit
open Go.ChangeMaps (open_string shut_string)
set_option linter.unusedVariables false

set_option maxRecDepth 100000 in
set_option maxHeartbeats 8000000 in
theorem walk_at (w : World) (rc0 : Int) (sv0 : Value) (xs0 : List Int) (b0 : Ints w 0 w.heap.size sv0 xs0) :
    Calls Try.prog 6 #[.agg #[.int .i64 rc0, sv0]] w fun e w' => e = .returned (.bool true) ∧ Below w.heap.size w w' := by
  have h0L := Nat.le_refl w.heap.size
  have hbA : Below w.heap.size w (w.alloc (.cells #[.int .i64 rc0, sv0] 29)) := (Below.refl _ _).alloc (Nat.le_refl _) _
  have kA := Blk.new w #[.int .i64 rc0, sv0] 29
  have b0s := b0.2.1
  replace b0 := b0.below hbA
  have HB := hbA
  have hsA := hbA.size
  have hlA := kA.lt
  clear hbA
  by_cases big0 : xs0.length ≤ 1048576
  case neg =>
    go_enter Try.func6, Try.ntmps6
    go_wp2_with fail
    generalize w.alloc (.cells #[.int .i64 rc0, sv0] 29) = w1 at *
    refine (szTxn_any rc0 _ xs0 _ b0 (-1) (if_neg (by omega))).mono ?_
    rintro e w2 ⟨rfl, hb2⟩
    have hs2 := hb2.size
    replace b0 := b0.below hb2
    replace kA := kA.below hb2
    replace HB := below_step HB hb2 HB.size
    clear hb2
    have q19_kA0 := kA.cell 0 rfl
    have q20_kA1 := kA.cell 1 rfl
    as_aux_lemma =>
     go_wp2_with fail
     go_ret
     exact ⟨rfl, HB⟩
  have hnl : ¬ (1048576 - (xs0.length : Int) < 0) := by omega
  obtain ⟨r, hr⟩ : ∃ r, txnStat rc0 xs0 = r := ⟨_, rfl⟩
  have HR := Lib.hid hr; clear hr
  have hrr : (r != r) = false := by simp
  go_enter Try.func6, Try.ntmps6
  go_wp2_with fail
  generalize w.alloc (.cells #[.int .i64 rc0, sv0] 29) = w1 at *
  refine (szTxn_any rc0 _ xs0 _ b0 (1048576 - (xs0.length : Int)) (if_pos (by omega))).mono ?_
  rintro e w2 ⟨rfl, hb2⟩
  have hs2 := hb2.size
  replace b0 := b0.below hb2
  replace kA := kA.below hb2
  replace HB := below_step HB hb2 HB.size
  clear hb2
  have q21_kA0 := kA.cell 0 rfl
  have q22_kA1 := kA.cell 1 rfl
  as_aux_lemma =>
   go_wp2_with fail
   clear q21_kA0 q22_kA1
   refine (toTxn_any rc0 _ xs0 _ b0 big0).mono ?_
   rintro e w3 ⟨y0, rfl, o0, hb3⟩
   have hs3 := hb3.size
   replace b0 := b0.below hb3
   replace kA := kA.below hb3
   replace HB := below_step HB hb3 HB.size
   clear hb3
   have q23_kA0 := kA.cell 0 rfl
   have q24_kA1 := kA.cell 1 rfl
   as_aux_lemma =>
    go_wp2_with fail
    clear q23_kA0 q24_kA1
    refine (specTxnStatus_any rc0 _ xs0 _ o0.ints r HR.out).mono ?_
    rintro e w4 ⟨rfl, hb4⟩
    have hs4 := hb4.size
    replace b0 := b0.below hb4
    replace o0 := o0.below hb4
    replace kA := kA.below hb4
    replace HB := below_step HB hb4 HB.size
    clear hb4
    have q25_kA0 := kA.cell 0 rfl
    have q26_kA1 := kA.cell 1 rfl
    as_aux_lemma =>
     go_wp2_with fail
     clear q25_kA0 q26_kA1
     refine (toTxn_any rc0 _ xs0 _ b0 big0).mono ?_
     rintro e w5 ⟨yx, rfl, ox, hb5⟩
     have hs5 := hb5.size
     replace b0 := b0.below hb5
     replace o0 := o0.below hb5
     replace kA := kA.below hb5
     replace HB := below_step HB hb5 HB.size
     clear hb5
     obtain ⟨ax, cx, hv_yx⟩ := own_form ox
     subst hv_yx
     have q27_kA0 := kA.cell 0 rfl
     have q28_kA1 := kA.cell 1 rfl
     have hb6 : Below w5.heap.size w5 (w5.alloc (.cells #[.int .i64 rc0, .slice ax xs0.length cx] 25)) := (Below.refl _ _).alloc (Nat.le_refl _) _
     have hs6 := hb6.size
     replace b0 := b0.below hb6
     replace o0 := o0.below hb6
     replace ox := ox.below hb6
     replace kA := kA.below hb6
     replace HB := below_step HB hb6 HB.size
     have kX := Blk.new w5 #[.int .i64 rc0, .slice ax xs0.length cx] 25
     clear hb6
     have q29_kA0 := kA.cell 0 rfl
     have q30_kA1 := kA.cell 1 rfl
     have q31_kX0 := kX.cell 0 rfl
     have q32_kX1 := kX.cell 1 rfl
     as_aux_lemma =>
      go_wp2_with fail
      generalize w5.alloc (.cells #[.int .i64 rc0, .slice ax xs0.length cx] 25) = w6 at *
      generalize w5.heap.size = B6 at *
      clear q27_kA0 q28_kA1 q29_kA0 q30_kA1 q31_kX0 q32_kX1
      refine (implTxnStatus_any rc0 _ xs0 _ ox.ints r HR.out).mono ?_
      rintro e w7 ⟨rfl, hb7⟩
      have hs7 := hb7.size
      replace b0 := b0.below hb7
      replace o0 := o0.below hb7
      replace ox := ox.below hb7
      replace kA := kA.below hb7
      replace kX := kX.below hb7
      replace HB := below_step HB hb7 HB.size
      clear hb7
      have hc0 := kA.cell 0 rfl
      have hc1 := kA.cell 1 rfl
      have hc2 := kX.cell 0 rfl
      have hc3 := kX.cell 1 rfl
      have hB0 : Below w7.heap.size w7 w7.drew := (Below.refl _ _).drew
      as_aux_lemma =>
       go_upto_region 10 with fail
       go_cut [26] (fun s26 wx => s26 = .bool false ∧ Below w7.heap.size w7 wx)
       case first =>
         go_region_held3 (fun w' => w'.cell? ⟨w.heap.size, 0, none⟩ = some (.int .i64 rc0) ∧ w'.cell? ⟨w.heap.size, 1, none⟩ = some (sv0) ∧ w'.cell? ⟨B6, 0, none⟩ = some (.int .i64 rc0) ∧ w'.cell? ⟨B6, 1, none⟩ = some (.slice ax xs0.length cx) ∧ Below w7.heap.size w7 w')
           (first
             | exact ⟨hc0, hc1, hc2, hc3, hB2⟩
             | exact ⟨hc0, hc1, hc2, hc3, hB0⟩
             | (go_split_ands; refine ⟨?_, ?_, ?_, ?_, ?_⟩ <;> assumption))
           (first
             | (go_at_call 11; obtain ⟨hc0, hc1, hc2, hc3, hB⟩ := ‹_ ∧ _ ∧ _ ∧ _ ∧ Below w7.heap.size w7 _›; refine (toTxn_any rc0 _ xs0 _ (b0.below hB) big0).mono ?_; rintro e wr0 ⟨y, rfl, oo, hb⟩; replace hc0 := below_cell hb hc0; replace hc1 := below_cell hb hc1; replace hc2 := below_cell hb hc2; replace hc3 := below_cell hb hc3; have hB2 := below_step hB hb hB.size)
             | (go_at_call 12; obtain ⟨hc0, hc1, hc2, hc3, hB⟩ := ‹_ ∧ _ ∧ _ ∧ _ ∧ Below w7.heap.size w7 _›; refine (eqTxn_any rc0 rc0 _ _ xs0 xs0 _ (ox.below hB).ints oo.ints true (by simp)).mono ?_; rintro e wr1 ⟨rfl, hb⟩; replace hc0 := below_cell hb hc0; replace hc1 := below_cell hb hc1; replace hc2 := below_cell hb hc2; replace hc3 := below_cell hb hc3; have hB2 := below_step hB hb hB.size))
         all_goals
           go_wp2_with fail
           go_meet
           exact ⟨rfl, hB2⟩
       case rest =>
         obtain ⟨rfl, hb8⟩ := hcut
         generalize wc = w8 at *
         clear hc0 hc1 hc2 hc3
         have hs8 := hb8.size
         replace b0 := b0.below hb8
         replace o0 := o0.below hb8
         replace ox := ox.below hb8
         replace kA := kA.below hb8
         replace kX := kX.below hb8
         replace HB := below_step HB hb8 HB.size
         clear hb8 hB0
         have q33_kA0 := kA.cell 0 rfl
         have q34_kA1 := kA.cell 1 rfl
         have q35_kX0 := kX.cell 0 rfl
         have q36_kX1 := kX.cell 1 rfl
         as_aux_lemma =>
          go_wp2_with fail
          go_ret
          exact ⟨rfl, HB⟩

/-! ### THE ROW's STEP -/
set_option maxRecDepth 100000 in
theorem lifted (os : Os) (started : os.Started) (H : Type) (enc : TypeId × Value → H) :
    ReturnsInHanded {} Try.checked os 6 .any (Rows.fnExactTxnStatusSpec.pre6 enc Try.prog Try.f6 Rows.fnExactTxnStatusRow.domain false) (Rows.fnExactTxnStatusSpec.post enc Try.prog Try.f6 false true false false) := by
  refine returnsInHanded_of_change (C := Try.checked) own started (by kernel_rfl) Try.func6
    (ChangeSpec.witness6 (enc := enc) (C := Try.checked) false ⟨#[], #[.agg #[.int .i64 0, .slice none 0 0]], []⟩ 8 (by kernel_rfl) (by kernel_rfl) (by kernel_rfl) (by kernel_rfl)) ?_
  intro W base args ds gs before hval0 hW hcnd _
  have hval : ∀ (j : Nat) t v, Try.f6.params[j]? = some t → args[j]? = some v → Value.okWide Try.prog W .any base t v := hval0
  have hW' := hW
  obtain ⟨p, q, hA0, hV, rfl, hfz, hnd⟩ := hW
  have hA : DataW.TrodAll enc Try.prog W 0 (fun _ => true) true Try.f6.params.toList args.toList ds p := hA0
  rw [Try.params6] at hA hval
  obtain ⟨v0, vs0, d0, ds0, p0, q0, hargs, rfl, rfl, h0, r0⟩ := trodAll_cons hA
  obtain ⟨rfl, rfl, rfl⟩ := trodAll_nil r0
  obtain rfl : args = #[v0] := by cases args; simp_all
  obtain ⟨rfl, rfl⟩ := trodVars_none hV
  obtain ⟨rc0, sv0, xs0, rfl, wr0, b0, wx0⟩ := txn_in (hval 0 _ v0 rfl rfl) h0
  have lt0 := lt_in h0
  clear hA0 hval0
  refine (walk_at W rc0 sv0 xs0 b0).mono fun e W' ⟨he, bel⟩ => ?_
  subst he
  exact ⟨_, rfl, _, _, _, [], _, [], hW', trodAll_mk1 (shut_bool Try.underlying4 _), (trodAll_cons_mk (Below.trod laidOut (by kernel_rfl) (of_decide_eq_true (by kernel_rfl)) h0 bel lt0) trodAll_mk0), rfl, bel.frame _, fun h => by cases h⟩

set_option maxRecDepth 100000 in
theorem closed : joinedFacts Try.prog 6 Try.f6 Rows.fnExactTxnStatusSpec Rows.fnExactTxnStatusRow = true := by
  unfold joinedFacts
  rw [may, lifts, mk]
  kernel_rfl
theorem over : Rows.fnExactTxnStatusRow.holds Try.pinned (OpenSpec.ofChange Rows.fnExactTxnStatusSpec) :=
  OpenClaim.holds_of_wide 6 Try.f6 rfl rfl rfl rfl rfl rfl rfl ⟨rfl, rfl, rfl, rfl, rfl⟩ rfl rfl rfl rfl rfl (by as_aux_lemma => kernel_rfl) Try.func6 closed
    (of_decide_eq_true (by as_aux_lemma => kernel_rfl)) (by unfold Func.isWrapper; rw [if_neg (of_decide_eq_false (by as_aux_lemma => kernel_rfl))]; exact ⟨rfl, rfl⟩)
    (fun os started H enc _ => lifted os started H enc)

/-- THE STATEMENT -/
theorem proved : Rows.FnExactTxnStatusSaid := over
end Go.Proofs.Ytocinffmdciihaa.fnExactTxnStatus
