/-
  For all arguments the law FnExactLogAppend returns true: the program's function and the reference's agree, arguments are left alone, results are new memory. No condition.
-/
import Derived.Test.YthehnpkjnilgiaaFrame
import Derived.Test.YthehnpkjnilgiaaFrameL
import Derived.Test.YthehnpkjnilgiaaLogU
import Derived.Deep.DeepCutAuto
namespace Go.Proofs.Ythehnpkjnilgiaa.fnExactLogAppend
open Go.ChangeShapes Go.WideShapes Go.ChangeAt Go.RowKit
open Go.ChangeMaps (open_string shut_string)
set_option linter.unusedVariables false

set_option maxRecDepth 100000 in
set_option maxHeartbeats 4000000 in
theorem walk_at (w : World) (v0 : Value) (xs0 : List (Int × Int)) (b0 : Ents w 0 w.heap.size v0 xs0) (wx0 : ∀ x ∈ xs0, FitE x) (x1 : Int) (wf1 : I64 x1) (xa2 xb2 : Int) (wa2 : I64 xa2) (wb2 : I64 xb2) :
    Calls Try.prog 4 #[v0, .int .i64 x1, .agg #[.int .i64 xa2, .int .i64 xb2]] w fun e w' => e = .returned (.bool true) ∧ Below w.heap.size w w' := by
  clear wx0
  have lw0 := b0.wide (Nat.le_refl _) (Nat.le_refl _) (Nat.le_refl _)
  clear lw0
  obtain ⟨wf1a, wf1b⟩ := wf1
  obtain ⟨wa2a, wa2b⟩ := wa2
  obtain ⟨wb2a, wb2b⟩ := wb2
  by_cases big0 : xs0.length ≤ 1048576
  case neg =>
    go_enter Try.func4, Try.ntmps4
    go_wp2_with fail
    have hbe : Below w.heap.size w (w.alloc (.cells #[.int .i64 xa2, .int .i64 xb2] 33)) := (Below.refl _ _).alloc (Nat.le_refl _) _
    refine (szLog_no _ xs0 _ (b0.below hbe) big0).mono ?_
    rintro e w' ⟨rfl, rfl⟩
    go_wp2_with fail
    go_ret
    exact ⟨rfl, hbe⟩
  obtain ⟨r, hr⟩ : ∃ r, appendB x1 xs0 xa2 xb2 = r := ⟨_, rfl⟩
  have HR := Lib.hid hr; clear hr
  have hrr : (r != r) = false := by simp
  have hl : (appendL x1 xs0 xa2 xb2).length ≤ 12 := appendL_len _ _ _ _
  generalize hZ : appendL x1 xs0 xa2 xb2 = zs at *
  have HZ := Lib.hid hZ; clear hZ
  go_enter Try.func4, Try.ntmps4
  go_wp2_with fail
  have HB : Below w.heap.size w (w.alloc (.cells #[.int .i64 xa2, .int .i64 xb2] 33)) := (Below.refl _ _).alloc (Nat.le_refl _) _
  have hc0 : (w.alloc (.cells #[.int .i64 xa2, .int .i64 xb2] 33)).cell? ⟨w.heap.size, 0, none⟩ = some (.int .i64 xa2) := by rw [World.cell?_alloc_at _ _ _ _ rfl]; rfl
  have hc1 : (w.alloc (.cells #[.int .i64 xa2, .int .i64 xb2] 33)).cell? ⟨w.heap.size, 1, none⟩ = some (.int .i64 xb2) := by rw [World.cell?_alloc_at _ _ _ _ rfl]; rfl
  replace b0 := b0.below HB
  have hz0 := HB.size
  refine (szLog_yes _ xs0 _ b0 big0).mono ?_
  rintro e w' ⟨rfl, rfl⟩
  have hzz : w.heap.size < (w.alloc (.cells #[.int .i64 xa2, .int .i64 xb2] 33)).heap.size := by simp
  generalize w.alloc (.cells #[.int .i64 xa2, .int .i64 xb2] 33) = w1 at *
  go_upto_region 5 with fail
  go_cut [8, 9] (fun s t wx => ∃ v, s = v ∧ t = .bool r ∧ EntsO wx w1.heap.size wx.heap.size v zs ∧ Below w1.heap.size w1 wx)
  case first =>
    have hB0 : Below w1.heap.size w1 w1.drew := (Below.refl _ _).drew
    go_region_held3 (fun w' => w'.cell? ⟨w.heap.size, 0, none⟩ = some (.int .i64 xa2) ∧ w'.cell? ⟨w.heap.size, 1, none⟩ = some (.int .i64 xb2) ∧ Below w1.heap.size w1 w')
      (first
        | exact ⟨hc0, hc1, hB2⟩
        | exact ⟨hc0, hc1, hB0⟩
        | (go_split_ands; refine ⟨?_, ?_, ?_⟩ <;> assumption))
      (first
        | (go_at_call 16; obtain ⟨hc0, hc1, hB⟩ := ‹_ ∧ _ ∧ Below w1.heap.size w1 _›; refine (toLogEntryS_any _ xs0 _ (b0.below hB) big0).mono ?_; rintro e w3 ⟨y, rfl, oo, hb⟩; replace hc0 := below_cell hb hc0; replace hc1 := below_cell hb hc1; have hB2 := below_step hB hb hB.size; replace oo := EntsO.wide oo hB.size (Nat.le_refl _) (Nat.le_refl _))
        | (go_at_call 17; obtain ⟨hc0, hc1, hB⟩ := ‹_ ∧ _ ∧ Below w1.heap.size w1 _›; refine (toLogEntry_any xa2 xb2 _).mono ?_; rintro e w4 ⟨rfl, hb⟩; replace hc0 := below_cell hb hc0; replace hc1 := below_cell hb hc1; have hB2 := below_step hB hb hB.size; try replace oo := EntsO.below oo hb)
        | (go_at_call 15; obtain ⟨hc0, hc1, hB⟩ := ‹_ ∧ _ ∧ Below w1.heap.size w1 _›; refine (specLogAppend_any _ xs0 x1 xa2 xb2 _ oo.ents zs r HZ.out HR.out).mono ?_; rintro e w5 ⟨v, rfl, pp, hb⟩; replace hc0 := below_cell hb hc0; replace hc1 := below_cell hb hc1; have hB2 := below_step hB hb hB.size; replace pp := EntsO.wide pp hB.size (Nat.le_refl _) (Nat.le_refl _)))
    all_goals
      go_wp2_with fail
      go_meet
      exact ⟨v, rfl, rfl, pp, hB2⟩
  case rest =>
    obtain ⟨p0v, rfl, rfl, p0, hb2⟩ := hcut
    generalize wc = w12 at *
    have hs2 := hb2.size
    replace HB := below_step HB hb2 HB.size
    replace b0 := b0.below hb2
    replace hc0 := below_cell hb2 hc0
    replace hc1 := below_cell hb2 hc1
    clear hb2
    as_aux_lemma =>
     go_wp2_with fail
     refine (toLogEntryS_any _ xs0 _ b0 big0).mono ?_
     rintro e w3 ⟨y1, rfl, o1, hb3⟩
     have hs3 := hb3.size
     replace HB := below_step HB hb3 HB.size
     replace b0 := b0.below hb3
     replace p0 := p0.below hb3
     replace hc0 := below_cell hb3 hc0
     replace hc1 := below_cell hb3 hc1
     clear hb3
     as_aux_lemma =>
      go_wp2_with fail
      refine (toLogEntry_any xa2 xb2 _).mono ?_
      rintro e w4 ⟨rfl, hb4⟩
      have hs4 := hb4.size
      replace HB := below_step HB hb4 HB.size
      replace b0 := b0.below hb4
      replace p0 := p0.below hb4
      replace o1 := o1.below hb4
      replace hc0 := below_cell hb4 hc0
      replace hc1 := below_cell hb4 hc1
      clear hb4
      as_aux_lemma =>
       go_wp2_with fail
       refine (implLogAppend_any _ xs0 x1 xa2 xb2 _ o1.ents zs r HZ.out HR.out).mono ?_
       rintro e w5 ⟨p1v, rfl, p1, hb5⟩
       have hs5 := hb5.size
       replace HB := below_step HB hb5 HB.size
       replace b0 := b0.below hb5
       replace p0 := p0.below hb5
       replace o1 := o1.below hb5
       replace hc0 := below_cell hb5 hc0
       replace hc1 := below_cell hb5 hc1
       clear hb5
       as_aux_lemma =>
        go_wp2_with fail
        refine (eqEnts_same _ _ zs _ p1.ents p0.ents).mono ?_
        rintro e w6 ⟨rfl, hb6⟩
        have hs6 := hb6.size
        replace HB := below_step HB hb6 HB.size
        replace b0 := b0.below hb6
        replace p0 := p0.below hb6
        replace o1 := o1.below hb6
        replace p1 := p1.below hb6
        replace hc0 := below_cell hb6 hc0
        replace hc1 := below_cell hb6 hc1
        clear hb6
        as_aux_lemma =>
         go_wp2_with fail
         refine (toLogEntryS_any _ xs0 _ b0 big0).mono ?_
         rintro e w7 ⟨y2, rfl, o2, hb7⟩
         have hs7 := hb7.size
         replace HB := below_step HB hb7 HB.size
         replace b0 := b0.below hb7
         replace p0 := p0.below hb7
         replace o1 := o1.below hb7
         replace p1 := p1.below hb7
         replace hc0 := below_cell hb7 hc0
         replace hc1 := below_cell hb7 hc1
         clear hb7
         as_aux_lemma =>
          go_wp2_with fail
          refine (eqEnts_same _ _ xs0 _ o1.ents o2.ents).mono ?_
          rintro e w8 ⟨rfl, hb8⟩
          have hs8 := hb8.size
          replace HB := below_step HB hb8 HB.size
          replace b0 := b0.below hb8
          replace p0 := p0.below hb8
          replace o1 := o1.below hb8
          replace p1 := p1.below hb8
          replace o2 := o2.below hb8
          replace hc0 := below_cell hb8 hc0
          replace hc1 := below_cell hb8 hc1
          clear hb8
          as_aux_lemma =>
           go_wp2_with fail
           refine (markEnts_any _ xs0 1 _ o1 (by omega) (by omega)).mono ?_
           rintro e w9 ⟨rfl, hm9, hk9⟩
           replace HB := HB.trans (hk9.below (B := w.heap.size) (by omega) HB.size)
           have hs9 := hk9.size
           replace b0 := b0.keep hk9 (by omega)
           replace p0 := p0.keep hk9 (by omega)
           replace p1 := p1.keep hk9 (by omega)
           replace o2 := o2.keep hk9 (by omega)
           replace hc0 := keep_cell hk9 hc0 (by first | (left; dsimp only; omega) | (right; dsimp only; omega))
           replace hc1 := keep_cell hk9 hc1 (by first | (left; dsimp only; omega) | (right; dsimp only; omega))
           replace o1 := hm9
           clear hm9 hk9
           as_aux_lemma =>
            go_wp2_with fail
            refine (eqEnts_same _ _ zs _ p1.ents p0.ents).mono ?_
            rintro e w10 ⟨rfl, hb10⟩
            have hs10 := hb10.size
            replace HB := below_step HB hb10 HB.size
            replace b0 := b0.below hb10
            replace p0 := p0.below hb10
            replace o1 := o1.below hb10
            replace p1 := p1.below hb10
            replace o2 := o2.below hb10
            replace hc0 := below_cell hb10 hc0
            replace hc1 := below_cell hb10 hc1
            clear hb10
            as_aux_lemma =>
             go_wp2_with fail
             refine (markEnts_any _ zs 1 _ p1 (by omega) (by omega)).mono ?_
             rintro e w11 ⟨rfl, hm11, hk11⟩
             replace HB := HB.trans (hk11.below (B := w.heap.size) (by omega) HB.size)
             have hs11 := hk11.size
             replace b0 := b0.keep hk11 (by omega)
             replace p0 := p0.keep hk11 (by omega)
             replace o1 := o1.keep hk11 (by omega)
             replace o2 := o2.keep hk11 (by omega)
             replace hc0 := keep_cell hk11 hc0 (by first | (left; dsimp only; omega) | (right; dsimp only; omega))
             replace hc1 := keep_cell hk11 hc1 (by first | (left; dsimp only; omega) | (right; dsimp only; omega))
             replace p1 := hm11
             clear hm11 hk11
             as_aux_lemma =>
              go_wp2_with fail
              refine (heldEnts_any _ zs.length 1 _ p1.ents (by omega) (by omega)).mono ?_
              rintro e w' ⟨rfl, rfl⟩
              as_aux_lemma =>
               go_upto_region 24 with fail
               go_cut [16, 17] (fun s t wx => ∃ v, s = v ∧ t = .bool r ∧ EntsO wx w11.heap.size wx.heap.size v zs ∧ Below w11.heap.size w11 wx)
               case first =>
                 have hB0 : Below w11.heap.size w11 w11.drew := (Below.refl _ _).drew
                 go_region_held3 (fun w' => w'.cell? ⟨w.heap.size, 0, none⟩ = some (.int .i64 xa2) ∧ w'.cell? ⟨w.heap.size, 1, none⟩ = some (.int .i64 xb2) ∧ Below w11.heap.size w11 w')
                   (first
                     | exact ⟨hc0, hc1, hB2⟩
                     | exact ⟨hc0, hc1, hB0⟩
                     | (go_split_ands; refine ⟨?_, ?_, ?_⟩ <;> assumption))
                   (first
                     | (go_at_call 16; obtain ⟨hc0, hc1, hB⟩ := ‹_ ∧ _ ∧ Below w11.heap.size w11 _›; refine (toLogEntryS_any _ xs0 _ (b0.below hB) big0).mono ?_; rintro e w3 ⟨y, rfl, oo, hb⟩; replace hc0 := below_cell hb hc0; replace hc1 := below_cell hb hc1; have hB2 := below_step hB hb hB.size; replace oo := EntsO.wide oo hB.size (Nat.le_refl _) (Nat.le_refl _))
                     | (go_at_call 17; obtain ⟨hc0, hc1, hB⟩ := ‹_ ∧ _ ∧ Below w11.heap.size w11 _›; refine (toLogEntry_any xa2 xb2 _).mono ?_; rintro e w4 ⟨rfl, hb⟩; replace hc0 := below_cell hb hc0; replace hc1 := below_cell hb hc1; have hB2 := below_step hB hb hB.size; try replace oo := EntsO.below oo hb)
                     | (go_at_call 13; obtain ⟨hc0, hc1, hB⟩ := ‹_ ∧ _ ∧ Below w11.heap.size w11 _›; refine (implLogAppend_any _ xs0 x1 xa2 xb2 _ oo.ents zs r HZ.out HR.out).mono ?_; rintro e w5 ⟨v, rfl, pp, hb⟩; replace hc0 := below_cell hb hc0; replace hc1 := below_cell hb hc1; have hB2 := below_step hB hb hB.size; replace pp := EntsO.wide pp hB.size (Nat.le_refl _) (Nat.le_refl _)))
                 all_goals
                   go_wp2_with fail
                   go_meet
                   exact ⟨v, rfl, rfl, pp, hB2⟩
               case rest =>
                 obtain ⟨p2v, rfl, rfl, p2, hb12⟩ := hcut
                 generalize wc = w22 at *
                 have hs12 := hb12.size
                 replace HB := below_step HB hb12 HB.size
                 replace b0 := b0.below hb12
                 replace p0 := p0.below hb12
                 replace o1 := o1.below hb12
                 replace p1 := p1.below hb12
                 replace o2 := o2.below hb12
                 replace hc0 := below_cell hb12 hc0
                 replace hc1 := below_cell hb12 hc1
                 clear hb12
                 as_aux_lemma =>
                  go_wp2_with fail
                  refine (eqEnts_same _ _ zs _ p2.ents p0.ents).mono ?_
                  rintro e w13 ⟨rfl, hb13⟩
                  have hs13 := hb13.size
                  replace HB := below_step HB hb13 HB.size
                  replace b0 := b0.below hb13
                  replace p0 := p0.below hb13
                  replace o1 := o1.below hb13
                  replace p1 := p1.below hb13
                  replace o2 := o2.below hb13
                  replace p2 := p2.below hb13
                  replace hc0 := below_cell hb13 hc0
                  replace hc1 := below_cell hb13 hc1
                  clear hb13
                  as_aux_lemma =>
                   go_wp2_with fail
                   refine (heldEnts_any _ zs.length 1 _ p1.ents (by omega) (by omega)).mono ?_
                   rintro e w' ⟨rfl, rfl⟩
                   as_aux_lemma =>
                    go_wp2_with fail
                    go_ret
                    exact ⟨rfl, HB⟩

/-! ### THE ROW's STEP -/
set_option maxRecDepth 100000 in
theorem lifted (os : Os) (started : os.Started) (H : Type) (enc : TypeId × Value → H) :
    ReturnsInHanded {} Try.checked os 4 .any (Rows.fnExactLogAppendSpec.pre6 enc Try.prog Try.f4 Rows.fnExactLogAppendRow.domain false) (Rows.fnExactLogAppendSpec.post enc Try.prog Try.f4 false true false false) := by
  refine returnsInHanded_of_change (C := Try.checked) own started (by kernel_rfl) Try.func4
    (ChangeSpec.witness6 (enc := enc) (C := Try.checked) false ⟨#[], #[.slice none 0 0, .int .i64 0, .agg #[.int .i64 0, .int .i64 0]], []⟩ 8 (by kernel_rfl) (by kernel_rfl) (by kernel_rfl) (by kernel_rfl)) ?_
  intro W base args ds gs before hval0 hW hcnd _
  have hval : ∀ (j : Nat) t v, Try.f4.params[j]? = some t → args[j]? = some v → Value.okWide Try.prog W .any base t v := hval0
  have hW' := hW
  obtain ⟨p, q, hA0, hV, rfl, hfz, hnd⟩ := hW
  have hA : DataW.TrodAll enc Try.prog W 0 (fun _ => true) true Try.f4.params.toList args.toList ds p := hA0
  rw [Try.params4] at hA hval
  obtain ⟨v0, vs0, d0, ds0, p0, q0, hargs, rfl, rfl, h0, r0⟩ := trodAll_cons hA
  obtain ⟨v1, vs1, d1, ds1, p1, q1, rfl, rfl, rfl, h1, r1⟩ := trodAll_cons r0
  obtain ⟨v2, vs2, d2, ds2, p2, q2, rfl, rfl, rfl, h2, r2⟩ := trodAll_cons r1
  obtain ⟨rfl, rfl, rfl⟩ := trodAll_nil r2
  obtain rfl : args = #[v0, v1, v2] := by cases args; simp_all
  obtain ⟨rfl, rfl⟩ := trodVars_none hV
  obtain ⟨xs0, b0, wx0⟩ := ents_in (hval 0 _ v0 rfl rfl) h0
  have lt0 := lt_in h0
  obtain ⟨x1, rfl, rfl, rfl, w1⟩ := open_int Try.underlying3 (hval 1 3 v1 rfl rfl) h1
  obtain ⟨xa2, xb2, rfl, wa2, wb2⟩ := ent_in (hval 2 _ v2 rfl rfl) h2
  have lt2 := lt_in h2
  clear hA0 hval0
  refine (walk_at W v0 xs0 b0 wx0 x1 (i64_of_wf w1) xa2 xb2 wa2 wb2).mono fun e W' ⟨he, bel⟩ => ?_
  subst he
  exact ⟨_, rfl, _, _, _, [], _, [], hW', trodAll_mk1 (shut_bool Try.underlying4 _), (trodAll_cons_mk (Below.trod laidOut (by kernel_rfl) (of_decide_eq_true (by kernel_rfl)) h0 bel lt0) (trodAll_cons_mk (shut_int Try.underlying3 w1) (trodAll_cons_mk (Below.trod laidOut (by kernel_rfl) (of_decide_eq_true (by kernel_rfl)) h2 bel lt2) trodAll_mk0))), rfl, bel.frame _, fun h => by cases h⟩

set_option maxRecDepth 100000 in
theorem closed : joinedFacts Try.prog 4 Try.f4 Rows.fnExactLogAppendSpec Rows.fnExactLogAppendRow = true := by
  unfold joinedFacts
  rw [may, lifts, mk]
  kernel_rfl
theorem over : Rows.fnExactLogAppendRow.holds Try.pinned (OpenSpec.ofChange Rows.fnExactLogAppendSpec) :=
  OpenClaim.holds_of_wide 4 Try.f4 rfl rfl rfl rfl rfl rfl rfl ⟨rfl, rfl, rfl, rfl, rfl⟩ rfl rfl rfl rfl rfl (by as_aux_lemma => kernel_rfl) Try.func4 closed
    (of_decide_eq_true (by as_aux_lemma => kernel_rfl)) (by unfold Func.isWrapper; rw [if_neg (of_decide_eq_false (by as_aux_lemma => kernel_rfl))]; exact ⟨rfl, rfl⟩)
    (fun os started H enc _ => lifted os started H enc)

/-- THE STATEMENT -/
theorem proved : Rows.FnExactLogAppendSaid := over
end Go.Proofs.Ythehnpkjnilgiaa.fnExactLogAppend
