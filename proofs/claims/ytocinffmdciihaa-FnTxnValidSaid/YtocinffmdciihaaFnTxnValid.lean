/-
  For every input the law FnTxnValid returns true, and what it was given reads afterwards as before. No condition beyond the row's own.
-/
import Derived.Test.YtocinffmdciihaaFrame
import Derived.Test.YtocinffmdciihaaFrameT
import Derived.Test.YtocinffmdciihaaTxnS
import Derived.Test.YtocinffmdciihaaTxnQV
import Derived.Deep.DeepCutAuto
import Derived.Deep.QuietTactic
import Derived.BigQuiet
namespace Go.Proofs.Ytocinffmdciihaa.fnTxnValid
open Go.ChangeShapes Go.WideShapes Go.ChangeAt Go.RowKit
open Go.ChangeMaps (open_string shut_string)
set_option linter.unusedVariables false
theorem full_take {ws : List Int} {k : Nat} {b : Bool} (hk : k < ws.length) (hb : fullW (ws.take k) = b) : fullW (ws.take (k + 1)) = (b && (nth ws k == 1)) := by
  rw [take_snoc hk, ← hb]
  unfold fullW
  rw [List.all_append]
  simp
theorem txnOk_three {rc : Int} {ws : List Int} (h : txnOk rc ws = true) : txnOk 3 ws = true := by
  obtain ⟨g0, g1, g2, g3, g4, g5⟩ := txnOk_parts h
  unfold txnOk lenW
  rw [inB_mk (n := (3 : Int)) (by omega) (by omega), inB_mk (n := (ws.length : Int)) (by omega) (by omega), g4]
  rfl
theorem txnOk_two {rc : Int} {ws : List Int} (h : txnOk rc ws = true) : txnOk 2 ws = fullW ws := by
  obtain ⟨g0, g1, g2, g3, g4, g5⟩ := txnOk_parts h
  unfold txnOk lenW
  rw [inB_mk (n := (2 : Int)) (by omega) (by omega), inB_mk (n := (ws.length : Int)) (by omega) (by omega), g4]
  simp

set_option maxRecDepth 100000 in
set_option maxHeartbeats 8000000 in
theorem walk_at (w : World) (v0 : Value) (n0 : Nat) (b0 : Bytes w 0 w.heap.size v0 n0) :
    Calls Try.prog 3 #[v0] w fun e w' => e = .returned (.bool true) ∧ Below w.heap.size w w' := by
  obtain ⟨a0, c0, hv0, hn0, hx0⟩ := b0.open
  clear hx0
  subst hv0
  by_cases big0 : n0 ≤ 1048576
  case neg =>
    go_enter Try.func3, Try.ntmps3
    go_wp2_with fail
    go_ret
    exact ⟨rfl, Below.refl _ _⟩
  go_enter Try.func3, Try.ntmps3
  go_wp2_with fail
  have HB : Below w.heap.size w w := Below.refl _ _
  refine (DrawTxnValid_any _ n0 _ b0).mono ?_
  rintro e w1 ⟨rc, ws, tv, rfl, rr0, rr1, l0, l1, rng, it, hb1⟩
  have hs1 := hb1.size
  replace HB := below_step HB hb1 HB.size
  clear hb1
  obtain ⟨at0, ct0, hv_tv⟩ := own_form it
  subst hv_tv
  have hb2 : Below w1.heap.size w1 (w1.alloc (.cells #[.int .i64 rc, .slice at0 ws.length ct0] 25)) := (Below.refl _ _).alloc (Nat.le_refl _) _
  have hs2 := hb2.size
  replace it := it.below hb2
  replace HB := below_step HB hb2 HB.size
  have kT := Blk.new w1 #[.int .i64 rc, .slice at0 ws.length ct0] 25
  clear hb2
  have q13_kT0 := kT.cell 0 rfl
  have q14_kT1 := kT.cell 1 rfl
  as_aux_lemma =>
   go_wp2_with fail
   generalize w1.alloc (.cells #[.int .i64 rc, .slice at0 ws.length ct0] 25) = w2 at *
   generalize w1.heap.size = B2 at *
   cases hv : txnOk rc ws
   case false =>
     have HV := Lib.hid hv; clear hv
     clear q13_kT0 q14_kT1
     refine (implTxnValid_any rc _ ws _ it.ints false HV.out).mono ?_
     rintro e w3 ⟨rfl, hb3⟩
     have hs3 := hb3.size
     replace it := it.below hb3
     replace kT := kT.below hb3
     replace HB := below_step HB hb3 HB.size
     clear hb3
     have q15_kT0 := kT.cell 0 rfl
     have q16_kT1 := kT.cell 1 rfl
     as_aux_lemma =>
      go_wp2_with fail
      clear q15_kT0 q16_kT1
      refine (specTxnValid_any rc _ ws _ it.ints false HV.out).mono ?_
      rintro e w4 ⟨rfl, hb4⟩
      have hs4 := hb4.size
      replace it := it.below hb4
      replace kT := kT.below hb4
      replace HB := below_step HB hb4 HB.size
      clear hb4
      have q17_kT0 := kT.cell 0 rfl
      have q18_kT1 := kT.cell 1 rfl
      as_aux_lemma =>
       go_wp2_with fail
       clear q17_kT0 q18_kT1
       refine (specTxnValid_any rc _ ws _ it.ints false HV.out).mono ?_
       rintro e w5 ⟨rfl, hb5⟩
       have hs5 := hb5.size
       replace it := it.below hb5
       replace kT := kT.below hb5
       replace HB := below_step HB hb5 HB.size
       clear hb5
       have q19_kT0 := kT.cell 0 rfl
       have q20_kT1 := kT.cell 1 rfl
       as_aux_lemma =>
        go_wp2_with fail
        go_ret
        exact ⟨rfl, HB⟩
   case true =>
     have H3 := Lib.hid (txnOk_three hv)
     have H2 := Lib.hid (txnOk_two hv)
     have H0 := Lib.hid (show txnOk 0 [] = false from rfl)
     have HV := Lib.hid hv; clear hv
     clear q13_kT0 q14_kT1
     refine (implTxnValid_any rc _ ws _ it.ints true HV.out).mono ?_
     rintro e w3 ⟨rfl, hb3⟩
     have hs3 := hb3.size
     replace it := it.below hb3
     replace kT := kT.below hb3
     replace HB := below_step HB hb3 HB.size
     clear hb3
     have q21_kT0 := kT.cell 0 rfl
     have q22_kT1 := kT.cell 1 rfl
     as_aux_lemma =>
      go_wp2_with fail
      clear q21_kT0 q22_kT1
      refine (specTxnValid_any rc _ ws _ it.ints true HV.out).mono ?_
      rintro e w4 ⟨rfl, hb4⟩
      have hs4 := hb4.size
      replace it := it.below hb4
      replace kT := kT.below hb4
      replace HB := below_step HB hb4 HB.size
      clear hb4
      have q23_kT0 := kT.cell 0 rfl
      have q24_kT1 := kT.cell 1 rfl
      as_aux_lemma =>
       go_wp2_with fail
       obtain ⟨ax, axc, hvax, hnax, hcax⟩ := it.ints.open
       cases hvax
       have HCax := Lib.hid hcax; clear hcax
       go_loop [5, 6] (fun al i => ∃ (k : Nat) (b : Bool), k ≤ ws.length ∧ i = .int .i64 k ∧ al = .bool b ∧ fullW (ws.take k) = b) (fun _ i => ws.length - (intOf i).toNat)
       case atStart => exact ⟨0, true, Nat.zero_le _, rfl, rfl, rfl⟩
       case round =>
        obtain ⟨k, b, hk, rfl, rfl, hb⟩ := hrel
        by_cases hlt : k < ws.length
        · obtain ⟨p, hi', hkc⟩ := HCax.out k hlt
          have hix := hi' k rfl
          have HS := Lib.hid (full_take hlt hb)
          clear hi' hb
          cases b
          all_goals
            go_wp2_with fail
            go_round
            case rel => exact ⟨k + 1, _, by omega, by go_num, rfl, HS.out⟩
            case measure => simp [intOf]; omega
        have HF := Lib.hid (show fullW ws = b by rw [List.take_of_length_le (by omega)] at hb; exact hb)
        clear hb
        have H2b := Lib.hid (H2.out.trans HF.out)
        have q25_kT0 := kT.cell 0 rfl
        have q26_kT1 := kT.cell 1 rfl
        have hb5 : Below w4.heap.size w4 (w4.alloc (.cells #[.int .i64 3, .slice at0 ws.length ct0] 25)) := (Below.refl _ _).alloc (Nat.le_refl _) _
        have hs5 := hb5.size
        replace it := it.below hb5
        replace kT := kT.below hb5
        replace HB := below_step HB hb5 HB.size
        have kA := Blk.new w4 #[.int .i64 3, .slice at0 ws.length ct0] 25
        clear hb5
        have q27_kT0 := kT.cell 0 rfl
        have q28_kT1 := kT.cell 1 rfl
        have q29_kA0 := kA.cell 0 rfl
        have q30_kA1 := kA.cell 1 rfl
        have hb6 : Below (w4.alloc (.cells #[.int .i64 3, .slice at0 ws.length ct0] 25)).heap.size (w4.alloc (.cells #[.int .i64 3, .slice at0 ws.length ct0] 25)) ((w4.alloc (.cells #[.int .i64 3, .slice at0 ws.length ct0] 25)).alloc (.cells #[.int .i64 2, .slice at0 ws.length ct0] 25)) := (Below.refl _ _).alloc (Nat.le_refl _) _
        have hs6 := hb6.size
        replace it := it.below hb6
        replace kT := kT.below hb6
        replace kA := kA.below hb6
        replace HB := below_step HB hb6 HB.size
        have kB := Blk.new (w4.alloc (.cells #[.int .i64 3, .slice at0 ws.length ct0] 25)) #[.int .i64 2, .slice at0 ws.length ct0] 25
        have heB : (w4.alloc (.cells #[.int .i64 3, .slice at0 ws.length ct0] 25)).heap.size = w4.heap.size + 1 := by simp
        rw [heB] at kB
        clear hb6 heB
        have q31_kT0 := kT.cell 0 rfl
        have q32_kT1 := kT.cell 1 rfl
        have q33_kA0 := kA.cell 0 rfl
        have q34_kA1 := kA.cell 1 rfl
        have q35_kB0 := kB.cell 0 rfl
        have q36_kB1 := kB.cell 1 rfl
        as_aux_lemma =>
         go_wp2_with fail
         generalize (w4.alloc (.cells #[.int .i64 3, .slice at0 ws.length ct0] 25)).alloc (.cells #[.int .i64 2, .slice at0 ws.length ct0] 25) = w6 at *
         generalize w4.heap.size = BA at *
         clear q23_kT0 q24_kT1 q25_kT0 q26_kT1 q27_kT0 q28_kT1 q29_kA0 q30_kA1 q31_kT0 q32_kT1 q33_kA0 q34_kA1 q35_kB0 q36_kB1
         refine (implTxnValid_any 3 _ ws _ it.ints true H3.out).mono ?_
         rintro e w7 ⟨rfl, hb7⟩
         have hs7 := hb7.size
         replace it := it.below hb7
         replace kT := kT.below hb7
         replace kA := kA.below hb7
         replace kB := kB.below hb7
         replace HB := below_step HB hb7 HB.size
         clear hb7
         have q37_kT0 := kT.cell 0 rfl
         have q38_kT1 := kT.cell 1 rfl
         have q39_kA0 := kA.cell 0 rfl
         have q40_kA1 := kA.cell 1 rfl
         have q41_kB0 := kB.cell 0 rfl
         have q42_kB1 := kB.cell 1 rfl
         as_aux_lemma =>
          go_wp2_with fail
          clear q37_kT0 q38_kT1 q39_kA0 q40_kA1 q41_kB0 q42_kB1
          refine (implTxnValid_any 2 _ ws _ it.ints b H2b.out).mono ?_
          rintro e w8 ⟨rfl, hb8⟩
          have hs8 := hb8.size
          replace it := it.below hb8
          replace kT := kT.below hb8
          replace kA := kA.below hb8
          replace kB := kB.below hb8
          replace HB := below_step HB hb8 HB.size
          clear hb8
          have hbb : (b == b) = true := by cases b <;> rfl
          have q43_kT0 := kT.cell 0 rfl
          have q44_kT1 := kT.cell 1 rfl
          have q45_kA0 := kA.cell 0 rfl
          have q46_kA1 := kA.cell 1 rfl
          have q47_kB0 := kB.cell 0 rfl
          have q48_kB1 := kB.cell 1 rfl
          as_aux_lemma =>
           go_wp2_with fail
           clear q43_kT0 q44_kT1 q45_kA0 q46_kA1 q47_kB0 q48_kB1
           refine (implTxnValid_any 0 _ [] _ (Ints.nil _) false H0.out).mono ?_
           rintro e w9 ⟨rfl, hb9⟩
           have hs9 := hb9.size
           replace it := it.below hb9
           replace kT := kT.below hb9
           replace kA := kA.below hb9
           replace kB := kB.below hb9
           replace HB := below_step HB hb9 HB.size
           clear hb9
           have q49_kT0 := kT.cell 0 rfl
           have q50_kT1 := kT.cell 1 rfl
           have q51_kA0 := kA.cell 0 rfl
           have q52_kA1 := kA.cell 1 rfl
           have q53_kB0 := kB.cell 0 rfl
           have q54_kB1 := kB.cell 1 rfl
           as_aux_lemma =>
            go_wp2_with fail
            go_ret
            exact ⟨rfl, HB⟩

/-! ### THE ROW's STEP -/
set_option maxRecDepth 100000 in
theorem lifted (os : Os) (started : os.Started) (H : Type) (enc : TypeId × Value → H) :
    ReturnsInHanded {} Try.checked os 3 .any (Rows.fnTxnValidSpec.pre6 enc Try.prog Try.f3 Rows.fnTxnValidRow.domain false) (Rows.fnTxnValidSpec.post enc Try.prog Try.f3 false true false false) := by
  refine returnsInHanded_of_change (C := Try.checked) own started (by kernel_rfl) Try.func3
    (ChangeSpec.witness6 (enc := enc) (C := Try.checked) false ⟨#[], #[.slice none 0 0], []⟩ 8 (by kernel_rfl) (by kernel_rfl) (by kernel_rfl) (by kernel_rfl)) ?_
  intro W base args ds gs before hval0 hW hcnd _
  have hval : ∀ (j : Nat) t v, Try.f3.params[j]? = some t → args[j]? = some v → Value.okWide Try.prog W .any base t v := hval0
  have hW' := hW
  obtain ⟨p, q, hA0, hV, rfl, hfz, hnd⟩ := hW
  have hA : DataW.TrodAll enc Try.prog W 0 (fun _ => true) true Try.f3.params.toList args.toList ds p := hA0
  rw [Try.params3] at hA hval
  obtain ⟨v0, vs0, d0, ds0, p0, q0, hargs, rfl, rfl, h0, r0⟩ := trodAll_cons hA
  obtain ⟨rfl, rfl, rfl⟩ := trodAll_nil r0
  obtain rfl : args = #[v0] := by cases args; simp_all
  obtain ⟨rfl, rfl⟩ := trodVars_none hV
  obtain ⟨n0, b0⟩ := bytes_in (hval 0 _ v0 rfl rfl) h0
  have lt0 := lt_in h0
  clear hA0 hval0
  refine (walk_at W v0 n0 b0).mono fun e W' ⟨he, bel⟩ => ?_
  subst he
  exact ⟨_, rfl, _, _, _, [], _, [], hW', trodAll_mk1 (shut_bool Try.underlying4 _), (trodAll_cons_mk (Below.trod laidOut (by kernel_rfl) (of_decide_eq_true (by kernel_rfl)) h0 bel lt0) trodAll_mk0), rfl, bel.frame _, fun h => by cases h⟩

set_option maxRecDepth 100000 in
theorem closed : joinedFacts Try.prog 3 Try.f3 Rows.fnTxnValidSpec Rows.fnTxnValidRow = true := by
  unfold joinedFacts
  rw [may, lifts, mk]
  kernel_rfl
theorem over : Rows.fnTxnValidRow.holds Try.pinned (OpenSpec.ofChange Rows.fnTxnValidSpec) :=
  OpenClaim.holds_of_wide 3 Try.f3 rfl rfl rfl rfl rfl rfl rfl ⟨rfl, rfl, rfl, rfl, rfl⟩ rfl rfl rfl rfl rfl (by as_aux_lemma => kernel_rfl) Try.func3 closed
    (of_decide_eq_true (by as_aux_lemma => kernel_rfl)) (by unfold Func.isWrapper; rw [if_neg (of_decide_eq_false (by as_aux_lemma => kernel_rfl))]; exact ⟨rfl, rfl⟩)
    (fun os started H enc _ => lifted os started H enc)

/-- THE STATEMENT -/
theorem proved : Rows.FnTxnValidSaid := over
end Go.Proofs.Ytocinffmdciihaa.fnTxnValid
