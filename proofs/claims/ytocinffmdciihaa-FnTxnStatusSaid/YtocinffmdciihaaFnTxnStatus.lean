/-
  For every input the law FnTxnStatus returns true, and what it was given reads afterwards as before. No condition beyond the row's own.
-/
import Derived.Test.YtocinffmdciihaaFrame
import Derived.Test.YtocinffmdciihaaFrameT
import Derived.Test.YtocinffmdciihaaTxnS
import Derived.Test.YtocinffmdciihaaTxnQ
import Derived.Deep.DeepCutAuto
import Derived.Deep.QuietTactic
import Derived.BigQuiet
namespace Go.Proofs.Ytocinffmdciihaa.fnTxnStatus
open Go.ChangeShapes Go.WideShapes Go.ChangeAt Go.RowKit
open Go.ChangeMaps (open_string shut_string)
set_option linter.unusedVariables false
theorem full_take {ws : List Int} {k : Nat} {b : Bool} (hk : k < ws.length) (hb : fullW (ws.take k) = b) : fullW (ws.take (k + 1)) = (b && (nth ws k == 1)) := by
  rw [take_snoc hk, ← hb]
  unfold fullW
  rw [List.all_append]
  simp

set_option maxRecDepth 100000 in
set_option maxHeartbeats 8000000 in
theorem walk_at (w : World) (v0 : Value) (n0 : Nat) (b0 : Bytes w 0 w.heap.size v0 n0) :
    Calls Try.prog 5 #[v0] w fun e w' => e = .returned (.bool true) ∧ Below w.heap.size w w' := by
  obtain ⟨a0, c0, hv0, hn0, hx0⟩ := b0.open
  clear hx0
  subst hv0
  by_cases big0 : n0 ≤ 1048576
  case neg =>
    go_enter Try.func5, Try.ntmps5
    go_wp2_with fail
    go_ret
    exact ⟨rfl, Below.refl _ _⟩
  go_enter Try.func5, Try.ntmps5
  go_wp2_with fail
  have HB : Below w.heap.size w w := Below.refl _ _
  refine (DrawTxnStatus_any _ n0 _ b0).mono ?_
  rintro e w1 ⟨rc, ws, tv, rfl, rr0, rr1, l0, l1, rng, it, hb1⟩
  have hs1 := hb1.size
  replace HB := below_step HB hb1 HB.size
  clear hb1
  obtain ⟨at0, ct0, hv_tv⟩ := own_form it
  subst hv_tv
  have hb2 : Below w1.heap.size w1 (w1.alloc (.cells #[.int .i64 rc, .slice at0 ws.length ct0] 25)) := (Below.refl _ _).alloc (Nat.le_refl _) _
  have hs2 := hb2.size
  replace it := it.below hb2
  replace HB := below_step HB hb2 HB.size
  have kT := Blk.new w1 #[.int .i64 rc, .slice at0 ws.length ct0] 25
  clear hb2
  have q1_kT0 := kT.cell 0 rfl
  have q2_kT1 := kT.cell 1 rfl
  as_aux_lemma =>
   go_wp2_with fail
   generalize w1.alloc (.cells #[.int .i64 rc, .slice at0 ws.length ct0] 25) = w2 at *
   generalize w1.heap.size = B2 at *
   obtain ⟨s, hs⟩ : ∃ s, txnStat rc ws = s := ⟨_, rfl⟩
   have HM := Lib.hid hs; clear hs
   clear q1_kT0 q2_kT1
   refine (implTxnStatus_any rc _ ws _ it.ints s HM.out).mono ?_
   rintro e w3 ⟨rfl, hb3⟩
   have hs3 := hb3.size
   replace it := it.below hb3
   replace kT := kT.below hb3
   replace HB := below_step HB hb3 HB.size
   clear hb3
   have q3_kT0 := kT.cell 0 rfl
   have q4_kT1 := kT.cell 1 rfl
   as_aux_lemma =>
    go_wp2_with fail
    clear q3_kT0 q4_kT1
    refine (specTxnStatus_any rc _ ws _ it.ints s HM.out).mono ?_
    rintro e w4 ⟨rfl, hb4⟩
    have hs4 := hb4.size
    replace it := it.below hb4
    replace kT := kT.below hb4
    replace HB := below_step HB hb4 HB.size
    clear hb4
    have hss : (s != s) = false := by simp
    have hse : (s == s) = true := by simp
    cases hv : txnOk rc ws
    case false =>
      obtain rfl : s = -1 := by rw [← HM.out]; simp [txnStat, hv]
      have HV := Lib.hid hv; clear hv
      have q5_kT0 := kT.cell 0 rfl
      have q6_kT1 := kT.cell 1 rfl
      as_aux_lemma =>
       go_wp2_with fail
       clear q5_kT0 q6_kT1
       refine (specTxnStatus_any rc _ ws _ it.ints (-1) HM.out).mono ?_
       rintro e w5 ⟨rfl, hb5⟩
       have hs5 := hb5.size
       replace it := it.below hb5
       replace kT := kT.below hb5
       replace HB := below_step HB hb5 HB.size
       clear hb5
       have q7_kT0 := kT.cell 0 rfl
       have q8_kT1 := kT.cell 1 rfl
       as_aux_lemma =>
        go_wp2_with fail
        clear q7_kT0 q8_kT1
        refine (implTxnValid_any rc _ ws _ it.ints false HV.out).mono ?_
        rintro e w6 ⟨rfl, hb6⟩
        have hs6 := hb6.size
        replace it := it.below hb6
        replace kT := kT.below hb6
        replace HB := below_step HB hb6 HB.size
        clear hb6
        have q9_kT0 := kT.cell 0 rfl
        have q10_kT1 := kT.cell 1 rfl
        as_aux_lemma =>
         go_wp2_with fail
         go_ret
         exact ⟨rfl, HB⟩
    case true =>
      have hpp := txnOk_parts hv
      have hsv : statOf rc ws = s := by rw [← HM.out]; simp [txnStat, hv]
      have h0s : 0 ≤ s := by rw [← hsv]; unfold statOf; split; omega; split <;> omega
      have hrc : rc = 0 ∨ rc = 1 ∨ rc = 2 ∨ rc = 3 := by omega
      have HSV := Lib.hid hsv; clear hsv hpp hv
      have HRC := Lib.hid hrc; clear hrc
      have hns : ¬ s < 0 := by omega
      have q11_kT0 := kT.cell 0 rfl
      have q12_kT1 := kT.cell 1 rfl
      as_aux_lemma =>
       go_wp2_with fail
       obtain ⟨ax, axc, hvax, hnax, hcax⟩ := it.ints.open
       cases hvax
       have HCax := Lib.hid hcax; clear hcax
       go_loop [5, 6] (fun al i => ∃ (k : Nat) (b : Bool), k ≤ ws.length ∧ i = .int .i64 k ∧ al = .bool b ∧ fullW (ws.take k) = b) (fun _ i => ws.length - (intOf i).toNat)
       case atStart => exact ⟨0, true, Nat.zero_le _, rfl, rfl, rfl⟩
       case round =>
        obtain ⟨k, b, hk, rfl, rfl, hb⟩ := hrel
        by_cases hlt : k < ws.length
        · obtain ⟨p, hi', hkc⟩ := HCax.out k hlt
          have hix := hi' k rfl
          have HS := Lib.hid (full_take hlt hb)
          clear hi' hb
          cases b
          all_goals
            go_wp2_with fail
            go_round
            case rel => exact ⟨k + 1, _, by omega, by go_num, rfl, HS.out⟩
            case measure => simp [intOf]; omega
        have HF := Lib.hid (show fullW ws = b by rw [List.take_of_length_le (by omega)] at hb; exact hb)
        clear hb
        cases b
        all_goals
          rcases HRC.out with rfl | rfl | rfl | rfl
          all_goals
            have hs2 := HSV.out
            simp [statOf, HF.out] at hs2
            subst hs2
            go_wp2_with fail
            go_ret
            exact ⟨rfl, HB⟩

/-! ### THE ROW's STEP -/
set_option maxRecDepth 100000 in
theorem lifted (os : Os) (started : os.Started) (H : Type) (enc : TypeId × Value → H) :
    ReturnsInHanded {} Try.checked os 5 .any (Rows.fnTxnStatusSpec.pre6 enc Try.prog Try.f5 Rows.fnTxnStatusRow.domain false) (Rows.fnTxnStatusSpec.post enc Try.prog Try.f5 false true false false) := by
  refine returnsInHanded_of_change (C := Try.checked) own started (by kernel_rfl) Try.func5
    (ChangeSpec.witness6 (enc := enc) (C := Try.checked) false ⟨#[], #[.slice none 0 0], []⟩ 8 (by kernel_rfl) (by kernel_rfl) (by kernel_rfl) (by kernel_rfl)) ?_
  intro W base args ds gs before hval0 hW hcnd _
  have hval : ∀ (j : Nat) t v, Try.f5.params[j]? = some t → args[j]? = some v → Value.okWide Try.prog W .any base t v := hval0
  have hW' := hW
  obtain ⟨p, q, hA0, hV, rfl, hfz, hnd⟩ := hW
  have hA : DataW.TrodAll enc Try.prog W 0 (fun _ => true) true Try.f5.params.toList args.toList ds p := hA0
  rw [Try.params5] at hA hval
  obtain ⟨v0, vs0, d0, ds0, p0, q0, hargs, rfl, rfl, h0, r0⟩ := trodAll_cons hA
  obtain ⟨rfl, rfl, rfl⟩ := trodAll_nil r0
  obtain rfl : args = #[v0] := by cases args; simp_all
  obtain ⟨rfl, rfl⟩ := trodVars_none hV
  obtain ⟨n0, b0⟩ := bytes_in (hval 0 _ v0 rfl rfl) h0
  have lt0 := lt_in h0
  clear hA0 hval0
  refine (walk_at W v0 n0 b0).mono fun e W' ⟨he, bel⟩ => ?_
  subst he
  exact ⟨_, rfl, _, _, _, [], _, [], hW', trodAll_mk1 (shut_bool Try.underlying4 _), (trodAll_cons_mk (Below.trod laidOut (by kernel_rfl) (of_decide_eq_true (by kernel_rfl)) h0 bel lt0) trodAll_mk0), rfl, bel.frame _, fun h => by cases h⟩

set_option maxRecDepth 100000 in
theorem closed : joinedFacts Try.prog 5 Try.f5 Rows.fnTxnStatusSpec Rows.fnTxnStatusRow = true := by
  unfold joinedFacts
  rw [may, lifts, mk]
  kernel_rfl
theorem over : Rows.fnTxnStatusRow.holds Try.pinned (OpenSpec.ofChange Rows.fnTxnStatusSpec) :=
  OpenClaim.holds_of_wide 5 Try.f5 rfl rfl rfl rfl rfl rfl rfl ⟨rfl, rfl, rfl, rfl, rfl⟩ rfl rfl rfl rfl rfl (by as_aux_lemma => kernel_rfl) Try.func5 closed
    (of_decide_eq_true (by as_aux_lemma => kernel_rfl)) (by unfold Func.isWrapper; rw [if_neg (of_decide_eq_false (by as_aux_lemma => kernel_rfl))]; exact ⟨rfl, rfl⟩)
    (fun os started H enc _ => lifted os started H enc)

/-- THE STATEMENT -/
theorem proved : Rows.FnTxnStatusSaid := over
end Go.Proofs.Ytocinffmdciihaa.fnTxnStatus
