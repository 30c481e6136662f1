/-
  For every code the law FnUnionMembers returns true, and what it was given reads afterwards as before. No condition.
-/
import Derived.Test.YtgipgfhnkkpdkaaFrame
import Derived.Test.YtgipgfhnkkpdkaaLawKit
namespace Go.Proofs.Ytgipgfhnkkpdkaa.fnUnionMembers
open Go.ChangeShapes Go.WideShapes Go.ChangeAt Go.RowKit
open Go.ChangeMaps (open_string shut_string)
set_option linter.unusedVariables false

set_option maxHeartbeats 4000000 in
theorem walk_at (w : World) (v0 : Value) (n0 : Nat) (b0 : Bytes w 0 w.heap.size v0 n0) :
    Calls Try.prog 15 #[v0] w fun e w' => e = .returned (.bool true) ∧ Below w.heap.size w w' := by
  obtain ⟨a0, c0, hv0, hn0, _⟩ := b0.open
  subst hv0
  by_cases big0 : n0 ≤ 1048576
  case neg =>
    go_enter Try.func15, Try.ntmps15
    go_wp2_with fail
    go_ret
    exact ⟨rfl, Below.refl _ _⟩
  go_enter Try.func15, Try.ntmps15
  go_wp2_with fail
  have HB : Below w.heap.size w w := Below.refl _ _
  refine (DrawSetUnion_any _ n0 _ b0).mono ?_
  rintro e w1 ⟨va, vb, xs, ys, rfl, ia, ib, ta, tb, hb1⟩
  replace HB := below_step HB hb1 HB.size
  clear hb1
  as_aux_lemma =>
   go_wp2_with fail
   refine (implSetUnion_any _ _ xs ys _ _ ia ib (comb_union xs ys)).mono ?_
   rintro e w2 ⟨u, rfl, iu, hb2⟩
   replace HB := below_step HB hb2 HB.size
   replace ia := ia.below hb2
   replace ib := ib.below hb2
   replace iu := iu.ints
   clear hb2
   as_aux_lemma =>
    go_wp2_with fail
    refine (specSetUnion_any _ _ xs ys _ _ ia ib rfl).mono ?_
    rintro e w3 ⟨z, rfl, iz, hb3⟩
    replace HB := below_step HB hb3 HB.size
    replace ia := ia.below hb3
    replace ib := ib.below hb3
    replace iu := iu.below hb3
    replace iz := iz.ints
    clear hb3
    as_aux_lemma =>
     go_wp2_with fail
     refine (sameInts_any _ _ _ _ _ iu iz true (by simp)).mono ?_
     rintro e w4 ⟨rfl, hw4⟩
     have hb4 := drawn_below hw4
     replace HB := below_step HB hb4 HB.size
     replace ia := ia.below hb4
     replace ib := ib.below hb4
     replace iu := iu.below hb4
     replace iz := iz.below hb4
     clear hw4 hb4
     as_aux_lemma =>
      go_wp2_with fail
      cases hv : setValid xs
      case false =>
        have HV := Lib.hid hv; clear hv
        refine (specSetValid_any _ xs _ ia false HV.out).mono ?_
        rintro e w5 ⟨rfl, hw5⟩
        have hb5 := drawn_below hw5
        replace HB := below_step HB hb5 HB.size
        replace ia := ia.below hb5
        replace ib := ib.below hb5
        replace iu := iu.below hb5
        replace iz := iz.below hb5
        clear hw5 hb5
        as_aux_lemma =>
         go_wp2_with fail
         refine (specSetUnion_any _ _ xs ys _ _ ia ib rfl).mono ?_
         rintro e w6 ⟨z2, rfl, iz2, hb6⟩
         replace HB := below_step HB hb6 HB.size
         replace ia := ia.below hb6
         replace ib := ib.below hb6
         replace iu := iu.below hb6
         replace iz := iz.below hb6
         replace iz2 := iz2.ints
         clear hb6
         as_aux_lemma =>
          go_wp2_with fail
          refine (sameInts_any _ _ _ _ _ iu iz2 true (by simp)).mono ?_
          rintro e w7 ⟨rfl, hw7⟩
          have hb7 := drawn_below hw7
          replace HB := below_step HB hb7 HB.size
          replace ia := ia.below hb7
          replace ib := ib.below hb7
          replace iu := iu.below hb7
          replace iz := iz.below hb7
          replace iz2 := iz2.below hb7
          clear hw7 hb7
          as_aux_lemma =>
           go_wp2_with fail
           go_ret
           exact ⟨rfl, HB⟩
      case true =>
        have HV := Lib.hid hv; clear hv
        refine (specSetValid_any _ xs _ ia true HV.out).mono ?_
        rintro e w5 ⟨rfl, hw5⟩
        have hb5 := drawn_below hw5
        replace HB := below_step HB hb5 HB.size
        replace ia := ia.below hb5
        replace ib := ib.below hb5
        replace iu := iu.below hb5
        replace iz := iz.below hb5
        clear hw5 hb5
        as_aux_lemma =>
         go_wp2_with fail
         cases hu : setValid ys
         case false =>
           have HU := Lib.hid hu; clear hu
           refine (specSetValid_any _ ys _ ib false HU.out).mono ?_
           rintro e w6 ⟨rfl, hw6⟩
           have hb6 := drawn_below hw6
           replace HB := below_step HB hb6 HB.size
           replace ia := ia.below hb6
           replace ib := ib.below hb6
           replace iu := iu.below hb6
           replace iz := iz.below hb6
           clear hw6 hb6
           as_aux_lemma =>
            go_wp2_with fail
            refine (specSetUnion_any _ _ xs ys _ _ ia ib rfl).mono ?_
            rintro e w7 ⟨z2, rfl, iz2, hb7⟩
            replace HB := below_step HB hb7 HB.size
            replace ia := ia.below hb7
            replace ib := ib.below hb7
            replace iu := iu.below hb7
            replace iz := iz.below hb7
            replace iz2 := iz2.ints
            clear hb7
            as_aux_lemma =>
             go_wp2_with fail
             refine (sameInts_any _ _ _ _ _ iu iz2 true (by simp)).mono ?_
             rintro e w8 ⟨rfl, hw8⟩
             have hb8 := drawn_below hw8
             replace HB := below_step HB hb8 HB.size
             replace ia := ia.below hb8
             replace ib := ib.below hb8
             replace iu := iu.below hb8
             replace iz := iz.below hb8
             replace iz2 := iz2.below hb8
             clear hw8 hb8
             as_aux_lemma =>
              go_wp2_with fail
              go_ret
              exact ⟨rfl, HB⟩
         case true =>
           have HU := Lib.hid hu; clear hu
           refine (specSetValid_any _ ys _ ib true HU.out).mono ?_
           rintro e w6 ⟨rfl, hw6⟩
           have hb6 := drawn_below hw6
           replace HB := below_step HB hb6 HB.size
           replace ia := ia.below hb6
           replace ib := ib.below hb6
           replace iu := iu.below hb6
           replace iz := iz.below hb6
           clear hw6 hb6
           as_aux_lemma =>
            go_wp2_with fail
            have HUV := Lib.hid (uniL_valid HV.out HU.out)
            go_loop [6] (fun i => ∃ k : Nat, k ≤ 8 ∧ i = .int .i64 k) (fun i => 8 - (intOf i).toNat)
            case atStart => exact ⟨0, by omega, rfl⟩
            case round =>
              obtain ⟨k, hk, rfl⟩ := hrel
              by_cases hlt : k < 8
              case pos =>
                cases ha : xs.contains (k : Int) <;> cases hb : ys.contains (k : Int)
                case false.false =>
                  have HA := Lib.hid ha; clear ha
                  have HB2 := Lib.hid hb; clear hb
                  have HU2 := Lib.hid ((uniL_has HV.out HU.out (k : Int)).trans (show _ = false by rw [HA.out, HB2.out]; rfl))
                  have R1 : Hid (_ = false) := (has_same _ (k : Int)).trans (show (setValid _ && _) = false by rw [HUV.out, HU2.out]; rfl)
                  have R2 : Hid (_ = false) := (has_same xs (k : Int)).trans (by rw [HV.out, HA.out]; rfl)
                  have R3 : Hid (_ = false) := (has_same ys (k : Int)).trans (by rw [HU.out, HB2.out]; rfl)
                  as_aux_lemma =>
                   go_wp2_with fail
                   refine (implSetContains_any _ _ _ _ iu false R1.out).mono ?_
                   rintro e w' ⟨rfl, rfl⟩
                   as_aux_lemma =>
                    go_wp2_with fail
                    refine (implSetContains_any _ xs _ _ ia false R2.out).mono ?_
                    rintro e w' ⟨rfl, rfl⟩
                    as_aux_lemma =>
                     go_wp2_with fail
                     refine (implSetContains_any _ ys _ _ ib false R3.out).mono ?_
                     rintro e w' ⟨rfl, rfl⟩
                     as_aux_lemma =>
                      go_wp2_with fail
                      go_round
                      case rel => exact ⟨k + 1, by omega, by go_num⟩
                      case measure => simp [intOf]; omega
                case false.true =>
                  have HA := Lib.hid ha; clear ha
                  have HB2 := Lib.hid hb; clear hb
                  have HU2 := Lib.hid ((uniL_has HV.out HU.out (k : Int)).trans (show _ = true by rw [HA.out, HB2.out]; rfl))
                  have R1 : Hid (_ = true) := (has_same _ (k : Int)).trans (show (setValid _ && _) = true by rw [HUV.out, HU2.out]; rfl)
                  have R2 : Hid (_ = false) := (has_same xs (k : Int)).trans (by rw [HV.out, HA.out]; rfl)
                  have R3 : Hid (_ = true) := (has_same ys (k : Int)).trans (by rw [HU.out, HB2.out]; rfl)
                  as_aux_lemma =>
                   go_wp2_with fail
                   refine (implSetContains_any _ _ _ _ iu true R1.out).mono ?_
                   rintro e w' ⟨rfl, rfl⟩
                   as_aux_lemma =>
                    go_wp2_with fail
                    refine (implSetContains_any _ xs _ _ ia false R2.out).mono ?_
                    rintro e w' ⟨rfl, rfl⟩
                    as_aux_lemma =>
                     go_wp2_with fail
                     refine (implSetContains_any _ ys _ _ ib true R3.out).mono ?_
                     rintro e w' ⟨rfl, rfl⟩
                     as_aux_lemma =>
                      go_wp2_with fail
                      go_round
                      case rel => exact ⟨k + 1, by omega, by go_num⟩
                      case measure => simp [intOf]; omega
                case true.false =>
                  have HA := Lib.hid ha; clear ha
                  have HB2 := Lib.hid hb; clear hb
                  have HU2 := Lib.hid ((uniL_has HV.out HU.out (k : Int)).trans (show _ = true by rw [HA.out, HB2.out]; rfl))
                  have R1 : Hid (_ = true) := (has_same _ (k : Int)).trans (show (setValid _ && _) = true by rw [HUV.out, HU2.out]; rfl)
                  have R2 : Hid (_ = true) := (has_same xs (k : Int)).trans (by rw [HV.out, HA.out]; rfl)
                  have R3 : Hid (_ = false) := (has_same ys (k : Int)).trans (by rw [HU.out, HB2.out]; rfl)
                  as_aux_lemma =>
                   go_wp2_with fail
                   refine (implSetContains_any _ _ _ _ iu true R1.out).mono ?_
                   rintro e w' ⟨rfl, rfl⟩
                   as_aux_lemma =>
                    go_wp2_with fail
                    refine (implSetContains_any _ xs _ _ ia true R2.out).mono ?_
                    rintro e w' ⟨rfl, rfl⟩
                    as_aux_lemma =>
                     go_wp2_with fail
                     go_round
                     case rel => exact ⟨k + 1, by omega, by go_num⟩
                     case measure => simp [intOf]; omega
                case true.true =>
                  have HA := Lib.hid ha; clear ha
                  have HB2 := Lib.hid hb; clear hb
                  have HU2 := Lib.hid ((uniL_has HV.out HU.out (k : Int)).trans (show _ = true by rw [HA.out, HB2.out]; rfl))
                  have R1 : Hid (_ = true) := (has_same _ (k : Int)).trans (show (setValid _ && _) = true by rw [HUV.out, HU2.out]; rfl)
                  have R2 : Hid (_ = true) := (has_same xs (k : Int)).trans (by rw [HV.out, HA.out]; rfl)
                  have R3 : Hid (_ = true) := (has_same ys (k : Int)).trans (by rw [HU.out, HB2.out]; rfl)
                  as_aux_lemma =>
                   go_wp2_with fail
                   refine (implSetContains_any _ _ _ _ iu true R1.out).mono ?_
                   rintro e w' ⟨rfl, rfl⟩
                   as_aux_lemma =>
                    go_wp2_with fail
                    refine (implSetContains_any _ xs _ _ ia true R2.out).mono ?_
                    rintro e w' ⟨rfl, rfl⟩
                    as_aux_lemma =>
                     go_wp2_with fail
                     go_round
                     case rel => exact ⟨k + 1, by omega, by go_num⟩
                     case measure => simp [intOf]; omega
              case neg =>
                as_aux_lemma =>
                 go_wp2_with fail
                 refine (implSetValid_any _ _ _ iu true HUV.out).mono ?_
                 rintro e w' ⟨rfl, rfl⟩
                 as_aux_lemma =>
                  go_wp2_with fail
                  go_ret
                  exact ⟨rfl, HB⟩

/-! ### THE ROW's STEP -/
set_option maxRecDepth 100000 in
theorem lifted (os : Os) (started : os.Started) (H : Type) (enc : TypeId × Value → H) :
    ReturnsInHanded {} Try.checked os 15 .any (Rows.fnUnionMembersSpec.pre6 enc Try.prog Try.f15 Rows.fnUnionMembersRow.domain false) (Rows.fnUnionMembersSpec.post enc Try.prog Try.f15 false true false false) := by
  refine returnsInHanded_of_change (C := Try.checked) own started (by kernel_rfl) Try.func15
    (ChangeSpec.witness6 (enc := enc) (C := Try.checked) false ⟨#[], #[.slice none 0 0], []⟩ 8 (by kernel_rfl) (by kernel_rfl) (by kernel_rfl) (by kernel_rfl)) ?_
  intro W base args ds gs before hval0 hW hcnd _
  have hval : ∀ (j : Nat) t v, Try.f15.params[j]? = some t → args[j]? = some v → Value.okWide Try.prog W .any base t v := hval0
  have hW' := hW
  obtain ⟨p, q, hA0, hV, rfl, hfz, hnd⟩ := hW
  have hA : DataW.TrodAll enc Try.prog W 0 (fun _ => true) true Try.f15.params.toList args.toList ds p := hA0
  rw [Try.params15] at hA hval
  obtain ⟨v0, vs0, d0, ds0, p0, q0, hargs, rfl, rfl, h0, r0⟩ := trodAll_cons hA
  obtain ⟨rfl, rfl, rfl⟩ := trodAll_nil r0
  obtain rfl : args = #[v0] := by cases args; simp_all
  obtain ⟨rfl, rfl⟩ := trodVars_none hV
  obtain ⟨n0, b0⟩ := bytes_in (hval 0 _ v0 rfl rfl) h0
  have lt0 := lt_in h0
  clear hA0 hval0
  refine (walk_at W v0 n0 b0).mono fun e W' ⟨he, bel⟩ => ?_
  subst he
  exact ⟨_, rfl, _, _, _, [], _, [], hW', trodAll_mk1 (shut_bool Try.underlying4 _), (trodAll_cons_mk (Below.trod laidOut (by kernel_rfl) (of_decide_eq_true (by kernel_rfl)) h0 bel lt0) trodAll_mk0), rfl, bel.frame _, fun h => by cases h⟩

set_option maxRecDepth 100000 in
theorem closed : joinedFacts Try.prog 15 Try.f15 Rows.fnUnionMembersSpec Rows.fnUnionMembersRow = true := by
  unfold joinedFacts
  rw [may, lifts, mk]
  kernel_rfl
theorem over : Rows.fnUnionMembersRow.holds Try.pinned (OpenSpec.ofChange Rows.fnUnionMembersSpec) :=
  OpenClaim.holds_of_wide 15 Try.f15 rfl rfl rfl rfl rfl rfl rfl ⟨rfl, rfl, rfl, rfl, rfl⟩ rfl rfl rfl rfl rfl (by as_aux_lemma => kernel_rfl) Try.func15 closed
    (of_decide_eq_true (by as_aux_lemma => kernel_rfl)) (by unfold Func.isWrapper; rw [if_neg (of_decide_eq_false (by as_aux_lemma => kernel_rfl))]; exact ⟨rfl, rfl⟩)
    (fun os started H enc _ => lifted os started H enc)

/-- THE STATEMENT -/
theorem proved : Rows.FnUnionMembersSaid := over
end Go.Proofs.Ytgipgfhnkkpdkaa.fnUnionMembers
