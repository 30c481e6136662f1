/-
  For every code the law FnLogValuesAppend returns true, and what it was given reads afterwards as before. No condition.
-/
import Derived.Test.YthehnpkjnilgiaaFrame
import Derived.Test.YthehnpkjnilgiaaUtil
import Derived.Test.YthehnpkjnilgiaaLogK
import Derived.Test.YthehnpkjnilgiaaLogT
import Derived.Test.YthehnpkjnilgiaaLogU
import Derived.Test.YthehnpkjnilgiaaLogP
import Derived.Test.YthehnpkjnilgiaaSlc
import Derived.Test.YthehnpkjnilgiaaStp
import Derived.Deep.RegionWith
import Derived.Deep.RegionHeld3
import Derived.Deep.DeepCutAuto
import Derived.Deep.QuietTactic
import Derived.BigQuiet
namespace Go.Proofs.Ythehnpkjnilgiaa.fnLogValuesAppend
open Go.ChangeShapes Go.WideShapes Go.ChangeAt Go.RowKit
open Go.ChangeMaps (open_string shut_string)
set_option linter.unusedVariables false

set_option maxRecDepth 100000 in
set_option maxHeartbeats 4000000 in
theorem walk_at (w : World) (v0 : Value) (n0 : Nat) (b0 : Bytes w 0 w.heap.size v0 n0) :
    Calls Try.prog 8 #[v0] w fun e w' => e = .returned (.bool true) ∧ Below w.heap.size w w' := by
  obtain ⟨a0, c0, hv0, hn0, hx0⟩ := b0.open
  clear hx0
  subst hv0
  by_cases big0 : n0 ≤ 1048576
  case neg =>
    go_enter Try.func8, Try.ntmps8
    go_wp2_with fail
    go_ret
    exact ⟨rfl, Below.refl _ _⟩
  go_enter Try.func8, Try.ntmps8
  go_wp2_with fail
  have HB : Below w.heap.size w w := Below.refl _ _
  refine (DrawLogAppend_any _ n0 _ b0).mono ?_
  rintro e w1 ⟨s, es, m, av, bv, rfl, ie, hl, m0, m1, ea0, ea1, eb0, eb1, hb1⟩
  have hs1 := hb1.size
  replace HB := below_step HB hb1 HB.size
  clear hb1
  as_aux_lemma =>
   go_wp2_with fail
   obtain ⟨r, hrr⟩ : ∃ r, appendB m es av bv = r := ⟨_, rfl⟩
   obtain ⟨zs, hzs⟩ : ∃ zs, appendL m es av bv = zs := ⟨_, rfl⟩
   have HR := Lib.hid hrr
   have HZ := Lib.hid hzs
   have HX := Lib.hid (show r = true → valuesL m zs = (if bv == 0 then valuesL m es ++ [av] else valuesL m es) ∧ (valuesL m es).length ≤ 12 from fun e => by rw [e] at hrr; obtain ⟨a1, _, _, a4, a5⟩ := appB hrr; rw [← hzs, a4]; exact ⟨values_snoc a1 a5, valuesL_len _ _⟩)
   clear hrr hzs
   have hb2 : Below w1.heap.size w1 (w1.alloc (.cells #[.int .i64 av, .int .i64 bv] 28)) := (Below.refl _ _).alloc (Nat.le_refl _) _
   have bk := Blk.new w1 #[.int .i64 av, .int .i64 bv] 28
   have hs2 := hb2.size
   replace HB := below_step HB hb2 HB.size
   replace ie := ie.below hb2
   clear hb2
   generalize w1.alloc (.cells #[.int .i64 av, .int .i64 bv] 28) = w2 at *
   refine (specLogAppend_any _ es m av bv _ ie zs r HZ.out HR.out).mono ?_
   rintro e w3 ⟨want, rfl, iw, hb3⟩
   have hs3 := hb3.size
   replace HB := below_step HB hb3 HB.size
   replace ie := ie.below hb3
   replace bk := bk.below hb3
   clear hb3
   have q0 := bk.cell 0 rfl
   have q1 := bk.cell 1 rfl
   as_aux_lemma =>
    go_wp2_with fail
    clear q0 q1
    refine (implLogAppend_any _ es m av bv _ ie zs r HZ.out HR.out).mono ?_
    rintro e w4 ⟨x, rfl, ix, hb4⟩
    have hs4 := hb4.size
    replace HB := below_step HB hb4 HB.size
    replace ie := ie.below hb4
    replace iw := iw.below hb4
    replace bk := bk.below hb4
    clear hb4
    have q0 := bk.cell 0 rfl
    have q1 := bk.cell 1 rfl
    cases r
    case false =>
      clear q0 q1
      as_aux_lemma =>
       go_wp2_with fail
       refine (sameLog_same _ _ zs _ ix.ents iw.ents).mono ?_
       rintro e w5 ⟨rfl, hb5⟩
       have hs5 := hb5.size
       replace HB := below_step HB hb5 HB.size
       replace ie := ie.below hb5
       replace iw := iw.below hb5
       replace ix := ix.below hb5
       replace bk := bk.below hb5
       clear hb5
       as_aux_lemma =>
        go_wp2_with fail
        refine (sameLog_same _ _ zs _ ix.ents iw.ents).mono ?_
        rintro e w6 ⟨rfl, hb6⟩
        have hs6 := hb6.size
        replace HB := below_step HB hb6 HB.size
        replace ie := ie.below hb6
        replace iw := iw.below hb6
        replace ix := ix.below hb6
        replace bk := bk.below hb6
        clear hb6
        as_aux_lemma =>
         go_wp2_with fail
         go_ret
         exact ⟨rfl, HB⟩
    case true =>
      obtain ⟨hV, hVl⟩ := HX.out rfl
      have HV := Lib.hid hV; clear hV HX
      generalize hys : valuesL m es = ys at HV hVl
      have HY := Lib.hid hys; clear hys
      clear q0 q1
      as_aux_lemma =>
       go_wp2_with fail
       refine (sameLog_same _ _ zs _ ix.ents iw.ents).mono ?_
       rintro e w5 ⟨rfl, hb5⟩
       have hs5 := hb5.size
       replace HB := below_step HB hb5 HB.size
       replace ie := ie.below hb5
       replace iw := iw.below hb5
       replace ix := ix.below hb5
       replace bk := bk.below hb5
       clear hb5
       as_aux_lemma =>
        go_wp2_with fail
        refine (implLogValues_any _ es m _ ie ys HY.out).mono ?_
        rintro e w6 ⟨bf, rfl, ib, hb6⟩
        have hs6 := hb6.size
        replace HB := below_step HB hb6 HB.size
        replace ie := ie.below hb6
        replace iw := iw.below hb6
        replace ix := ix.below hb6
        replace bk := bk.below hb6
        replace ib := ib.ints
        clear hb6
        have q1 := bk.cell 1 rfl
        by_cases hb0 : bv = 0
        case neg =>
          have hbb : (bv == 0) = false := beq_eq_false_iff_ne.2 hb0
          have HV2 := Lib.hid (show valuesL m zs = ys by rw [HV.out, hbb]; rfl)
          clear hb0 HV
          as_aux_lemma =>
           go_wp2_with fail
           refine (implLogValues_any _ zs m _ ix.ents ys HV2.out).mono ?_
           rintro e w7 ⟨y2, rfl, iy2, hb7⟩
           have hs7 := hb7.size
           replace HB := below_step HB hb7 HB.size
           replace ie := ie.below hb7
           replace iw := iw.below hb7
           replace ix := ix.below hb7
           replace ib := ib.below hb7
           replace bk := bk.below hb7
           replace iy2 := iy2.ints
           clear hb7
           as_aux_lemma =>
            go_wp2_with fail
            refine (sameInts_any _ _ _ _ _ iy2 ib true (by simp)).mono ?_
            rintro e w8 ⟨rfl, hw8⟩
            have hb8 := drawn_below hw8
            have hs8 := hb8.size
            replace HB := below_step HB hb8 HB.size
            replace ie := ie.below hb8
            replace iw := iw.below hb8
            replace ix := ix.below hb8
            replace ib := ib.below hb8
            replace iy2 := iy2.below hb8
            replace bk := bk.below hb8
            clear hw8 hb8
            as_aux_lemma =>
             go_wp2_with fail
             go_ret
             exact ⟨rfl, HB⟩
        case pos =>
          subst hb0
          have HV2 := Lib.hid (show valuesL m zs = ys ++ [av] by rw [HV.out]; rfl)
          clear HV
          have hone := ints_oneCell .i64 ys
          generalize hnw : ys.map (Value.int .i64) = news at hone
          have HN := Lib.hid hnw
          have isrc := ib
          unfold Ints at isrc
          rw [hnw] at isrc
          clear hnw
          have q0 := bk.cell 0 rfl
          have hlt0 := lt_of_cell q0
          go_upto_region 10 with fail
          go_cut [10] (fun s wx => ∃ v, s = v ∧ IntsO wx w6.heap.size wx.heap.size v (ys ++ [av]) ∧ Below w6.heap.size w6 wx)
          case first =>
            have hB0 : Below w6.heap.size w6 w6.drew := (Below.refl _ _).drew
            have x1 : Below w6.heap.size w6 (w6.alloc (.cells #[] 3)) := (Below.refl _ _).alloc (Nat.le_refl _) _
            have x2 : Below w6.heap.size w6 (w6.alloc (.cells #[.int .i64 av] 3)) := (Below.refl _ _).alloc (Nat.le_refl _) _
            have x3 : Below w6.heap.size w6 ((w6.alloc (.cells #[] 3)).alloc (.cells #[.int .i64 av] 3)) := x1.alloc x1.size _
            have x4 : Below w6.heap.size w6 ((w6.alloc (.cells #[.int .i64 av] 3)).alloc (.cells #[] 3)) := x2.alloc x2.size _
            have O1 := Own.below (IntsO.empty w6 w6.heap.size (Nat.le_refl _)) (Below.refl _ _).drew
            have O2 := Own.below (Own.below (IntsO.empty w6 w6.heap.size (Nat.le_refl _)) ((Below.refl _ _).alloc (Nat.le_refl _) (.cells #[.int .i64 av] 3))) (Below.refl _ _).drew
            have O3 := Own.below (IntsO.empty (w6.alloc (.cells #[.int .i64 av] 3)) (w6.alloc (.cells #[.int .i64 av] 3)).heap.size (Nat.le_refl _)) (Below.refl _ _).drew
            have J1 := isrc.below x1.drew
            have J2 := isrc.below x3.drew
            have J3 := isrc.below x4.drew
            have hby : (0 + ys.length) * 8 ≤ 140737488355328 := by omega
            have hml : 0 + ys.length ≤ maxLen := by unfold maxLen; omega
            have e1 : (w6.alloc (.cells #[] 3)).heap.size = w6.heap.size + 1 := by simp
            have K2 : ∀ wx, Keep w6.heap.size (w6.alloc (.cells #[] 3)).heap.size ((w6.alloc (.cells #[] 3)).alloc (.cells #[.int .i64 av] 3)).drew wx → Blk wx (w6.heap.size + 1) #[.int .i64 av] 3 := fun wx hk => e1 ▸ ((Blk.new (w6.alloc (.cells #[] 3)) #[.int .i64 av] 3).below (Below.refl _ _).drew).keep hk (.inr (Nat.le_refl _))
            have K3 : ∀ wx, Keep (w6.alloc (.cells #[.int .i64 av] 3)).heap.size ((w6.alloc (.cells #[.int .i64 av] 3)).alloc (.cells #[] 3)).heap.size ((w6.alloc (.cells #[.int .i64 av] 3)).alloc (.cells #[] 3)).drew wx → Blk wx w6.heap.size #[.int .i64 av] 3 := fun wx hk => (((Blk.new w6 #[.int .i64 av] 3).below ((Below.refl _ _).alloc (Nat.le_refl _) (.cells #[] 3))).below (Below.refl _ _).drew).keep hk (.inl (by simp))
            have e3 : (w6.alloc (.cells #[.int .i64 av] 3)).heap.size = w6.heap.size + 1 := by simp
            rw [e3] at O3
            have hx2 : w6.heap.size ≤ w6.heap.size + 1 := by omega
            have hx4 : w6.heap.size + 1 ≤ ((w6.alloc (.cells #[.int .i64 av] 3)).alloc (.cells #[] 3)).heap.size := by simp
            have K4 : ∀ wx, Keep (w6.heap.size + 1) ((w6.alloc (.cells #[.int .i64 av] 3)).alloc (.cells #[] 3)).heap.size ((w6.alloc (.cells #[.int .i64 av] 3)).alloc (.cells #[] 3)).drew wx → Blk wx w6.heap.size #[.int .i64 av] 3 := by rw [e3] at K3; exact K3
            clear e3 K3
            have hone1 : ∀ u ∈ [Value.int .i64 av], u.oneCell' = true := ints_oneCell .i64 [av]
            have hlen1 : [Value.int .i64 av].length = 1 * 1 := rfl
            have hby2 : (0 + ys.length + 1) * 8 ≤ 140737488355328 := by omega
            have hml2 : 0 + ys.length + 1 ≤ maxLen := by unfold maxLen; omega
            have fin : ∀ wx v lo, Own wx lo wx.heap.size 3 v (0 + ys.length + 1) 1 (([] ++ news) ++ [.int .i64 av]) → w6.heap.size ≤ lo → IntsO wx w6.heap.size wx.heap.size v (ys ++ [av]) := fun wx v lo hO hlo => by
              rw [Nat.zero_add, List.nil_append, ← HN.out] at hO
              exact (ints_snoc hO).wide hlo (Nat.le_refl _) (Nat.le_refl _)
            clear e1
            go_region_held3 (fun w' => w'.cell? ⟨w1.heap.size, 0, none⟩ = some (.int .i64 av) ∧ Below w6.heap.size w6 w')
              (first
                | exact ⟨q0, hB0⟩
                | exact ⟨below_cell hB9 q0, hB9⟩
                | (obtain ⟨c0, c1⟩ := ‹_ ∧ Below w6.heap.size w6 _›; exact ⟨below_cell ((Below.refl _ _).alloc (Nat.le_refl _) _) c0, c1.alloc c1.size _⟩)
                | (go_split_ands; refine ⟨?_, ?_⟩ <;> assumption))
              (first
                | ((with_reducible refine stp_append_all elInt rfl (.tmp 61) (.tmp 62) rfl rfl O1 x1.size rfl J1 hone hby hml ?_); intro v' w3 hown1 hk1; have hB9 := x1.drew.trans (hk1.below (Nat.le_refl _) x1.size))
                | ((with_reducible refine stp_append_all elInt rfl (.tmp 61) (.tmp 62) rfl rfl O2 x1.size rfl J2 hone hby hml ?_); intro v' w3 hown1 hk1; have hB9 := x3.drew.trans (hk1.below (Nat.le_refl _) x3.size); have hV9 := (K2 _ hk1).news)
                | ((with_reducible refine stp_append_all elInt rfl (.tmp 61) (.tmp 62) rfl rfl O3 hx4 rfl J3 hone hby hml ?_); intro v' w3 hown1 hk1; have hB9 := x4.drew.trans (hk1.below hx2 x4.size); have hV9 := (K4 _ hk1).news; have hl9 := Nat.le_trans hx4 hk1.size)
                | ((with_reducible refine stp_append elInt rfl (.tmp 63) (.tmp 66) rfl rfl (Own.below hown1 ((Below.refl _ _).alloc (Nat.le_refl _) (.cells #[.int .i64 av] 3))) hB9.size ⟨w3.heap.size, 0, none⟩ 1 1 [.int .i64 av] rfl hlen1 (cell_one_new _ _ _) hone1 hby2 hml2 ?_); intro v'' w5 hown2 hk2; replace hB9 := (hB9.alloc hB9.size _).trans (hk2.below (Nat.le_refl _) (hB9.alloc hB9.size _).size); have hfin := fin _ _ _ hown2 (Nat.le_refl _))
                | ((with_reducible refine stp_append elInt rfl (.tmp 63) (.tmp 66) rfl rfl hown1 hB9.size ⟨w6.heap.size + 1, 0, none⟩ 1 1 [.int .i64 av] rfl hlen1 hV9 hone1 hby2 hml2 ?_); intro v'' w5 hown2 hk2; replace hB9 := hB9.trans (hk2.below (Nat.le_refl _) hB9.size); have hfin := fin _ _ _ hown2 (Nat.le_refl _))
                | ((with_reducible refine stp_append elInt rfl (.tmp 63) (.tmp 66) rfl rfl hown1 hl9 ⟨w6.heap.size, 0, none⟩ 1 1 [.int .i64 av] rfl hlen1 hV9 hone1 hby2 hml2 ?_); intro v'' w5 hown2 hk2; replace hB9 := hB9.trans (hk2.below hx2 hB9.size); have hfin := fin _ _ _ hown2 hx2)
                | (trace_state; fail))
            all_goals
              go_wp2_with fail
              go_meet
              exact ⟨v'', rfl, hfin, hB9⟩
          case rest =>
            clear q0 q1 isrc hone HN hlt0
            obtain ⟨b2, rfl, ib2, hb7⟩ := hcut
            generalize wc = w17 at *
            have hs7 := hb7.size
            replace HB := below_step HB hb7 HB.size
            replace ie := ie.below hb7
            replace iw := iw.below hb7
            replace ix := ix.below hb7
            replace ib := ib.below hb7
            replace bk := bk.below hb7
            replace ib2 := ib2.ints
            clear hb7
            as_aux_lemma =>
             go_wp2_with fail
             refine (implLogValues_any _ zs m _ ix.ents (ys ++ [av]) HV2.out).mono ?_
             rintro e w8 ⟨y2, rfl, iy2, hb8⟩
             have hs8 := hb8.size
             replace HB := below_step HB hb8 HB.size
             replace ie := ie.below hb8
             replace iw := iw.below hb8
             replace ix := ix.below hb8
             replace ib := ib.below hb8
             replace ib2 := ib2.below hb8
             replace bk := bk.below hb8
             replace iy2 := iy2.ints
             clear hb8
             as_aux_lemma =>
              go_wp2_with fail
              refine (sameInts_any _ _ _ _ _ iy2 ib2 true (by simp)).mono ?_
              rintro e w9 ⟨rfl, hw9⟩
              have hb9 := drawn_below hw9
              have hs9 := hb9.size
              replace HB := below_step HB hb9 HB.size
              replace ie := ie.below hb9
              replace iw := iw.below hb9
              replace ix := ix.below hb9
              replace ib := ib.below hb9
              replace ib2 := ib2.below hb9
              replace iy2 := iy2.below hb9
              replace bk := bk.below hb9
              clear hw9 hb9
              as_aux_lemma =>
               go_wp2_with fail
               go_ret
               exact ⟨rfl, HB⟩

/-! ### THE ROW's STEP -/
set_option maxRecDepth 100000 in
theorem lifted (os : Os) (started : os.Started) (H : Type) (enc : TypeId × Value → H) :
    ReturnsInHanded {} Try.checked os 8 .any (Rows.fnLogValuesAppendSpec.pre6 enc Try.prog Try.f8 Rows.fnLogValuesAppendRow.domain false) (Rows.fnLogValuesAppendSpec.post enc Try.prog Try.f8 false true false false) := by
  refine returnsInHanded_of_change (C := Try.checked) own started (by kernel_rfl) Try.func8
    (ChangeSpec.witness6 (enc := enc) (C := Try.checked) false ⟨#[], #[.slice none 0 0], []⟩ 8 (by kernel_rfl) (by kernel_rfl) (by kernel_rfl) (by kernel_rfl)) ?_
  intro W base args ds gs before hval0 hW hcnd _
  have hval : ∀ (j : Nat) t v, Try.f8.params[j]? = some t → args[j]? = some v → Value.okWide Try.prog W .any base t v := hval0
  have hW' := hW
  obtain ⟨p, q, hA0, hV, rfl, hfz, hnd⟩ := hW
  have hA : DataW.TrodAll enc Try.prog W 0 (fun _ => true) true Try.f8.params.toList args.toList ds p := hA0
  rw [Try.params8] at hA hval
  obtain ⟨v0, vs0, d0, ds0, p0, q0, hargs, rfl, rfl, h0, r0⟩ := trodAll_cons hA
  obtain ⟨rfl, rfl, rfl⟩ := trodAll_nil r0
  obtain rfl : args = #[v0] := by cases args; simp_all
  obtain ⟨rfl, rfl⟩ := trodVars_none hV
  obtain ⟨n0, b0⟩ := bytes_in (hval 0 _ v0 rfl rfl) h0
  have lt0 := lt_in h0
  clear hA0 hval0
  refine (walk_at W v0 n0 b0).mono fun e W' ⟨he, bel⟩ => ?_
  subst he
  exact ⟨_, rfl, _, _, _, [], _, [], hW', trodAll_mk1 (shut_bool Try.underlying4 _), (trodAll_cons_mk (Below.trod laidOut (by kernel_rfl) (of_decide_eq_true (by kernel_rfl)) h0 bel lt0) trodAll_mk0), rfl, bel.frame _, fun h => by cases h⟩

set_option maxRecDepth 100000 in
theorem closed : joinedFacts Try.prog 8 Try.f8 Rows.fnLogValuesAppendSpec Rows.fnLogValuesAppendRow = true := by
  unfold joinedFacts
  rw [may, lifts, mk]
  kernel_rfl
theorem over : Rows.fnLogValuesAppendRow.holds Try.pinned (OpenSpec.ofChange Rows.fnLogValuesAppendSpec) :=
  OpenClaim.holds_of_wide 8 Try.f8 rfl rfl rfl rfl rfl rfl rfl ⟨rfl, rfl, rfl, rfl, rfl⟩ rfl rfl rfl rfl rfl (by as_aux_lemma => kernel_rfl) Try.func8 closed
    (of_decide_eq_true (by as_aux_lemma => kernel_rfl)) (by unfold Func.isWrapper; rw [if_neg (of_decide_eq_false (by as_aux_lemma => kernel_rfl))]; exact ⟨rfl, rfl⟩)
    (fun os started H enc _ => lifted os started H enc)

/-- THE STATEMENT -/
theorem proved : Rows.FnLogValuesAppendSaid := over
end Go.Proofs.Ythehnpkjnilgiaa.fnLogValuesAppend
