/-
  For every code the law FnContains returns true, and what it was given reads afterwards as before. No condition.
-/
import Derived.Test.YtgipgfhnkkpdkaaFrame
import Derived.Test.YtgipgfhnkkpdkaaLawKit
namespace Go.Proofs.Ytgipgfhnkkpdkaa.fnContains
open Go.ChangeShapes Go.WideShapes Go.ChangeAt Go.RowKit
open Go.ChangeMaps (open_string shut_string)
set_option linter.unusedVariables false

set_option maxHeartbeats 4000000 in
theorem walk_at (w : World) (v0 : Value) (n0 : Nat) (b0 : Bytes w 0 w.heap.size v0 n0) :
    Calls Try.prog 7 #[v0] w fun e w' => e = .returned (.bool true) ∧ Below w.heap.size w w' := by
  obtain ⟨a0, c0, hv0, hn0, _⟩ := b0.open
  subst hv0
  by_cases big0 : n0 ≤ 1048576
  case neg =>
    go_enter Try.func7, Try.ntmps7
    go_wp2_with fail
    go_ret
    exact ⟨rfl, Below.refl _ _⟩
  go_enter Try.func7, Try.ntmps7
  go_wp2_with fail
  have HB : Below w.heap.size w w := Below.refl _ _
  refine (DrawSetContains_any _ n0 _ b0).mono ?_
  rintro e w1 ⟨vs, xs, m, rfl, is, ts, m0, m1, hb1⟩
  replace HB := below_step HB hb1 HB.size
  clear hb1
  as_aux_lemma =>
   go_wp2_with fail
   cases hs : setValid xs
   case false =>
     have HS := Lib.hid hs; clear hs
     have R1 := Lib.hid ((has_same xs m).trans (show (setValid xs && xs.contains m) = false by rw [HS.out]; rfl))
     have R2 := Lib.hid (show (setValid xs && xs.contains m) = false by rw [HS.out]; rfl)
     as_aux_lemma =>
      go_wp2_with fail
      refine (implSetContains_any _ xs m _ is false R1.out).mono ?_
      rintro e w' ⟨rfl, rfl⟩
      as_aux_lemma =>
       go_wp2_with fail
       refine (specContains_any _ xs m _ is false R2.out).mono ?_
       rintro e w2 ⟨rfl, hw2⟩
       have hb2 := drawn_below hw2
       replace HB := below_step HB hb2 HB.size
       replace is := is.below hb2
       clear hw2 hb2
       as_aux_lemma =>
        go_wp2_with fail
        refine (specSetValid_any _ xs _ is false HS.out).mono ?_
        rintro e w3 ⟨rfl, hw3⟩
        have hb3 := drawn_below hw3
        replace HB := below_step HB hb3 HB.size
        replace is := is.below hb3
        clear hw3 hb3
        as_aux_lemma =>
         go_wp2_with fail
         refine (specContains_any _ xs m _ is false R2.out).mono ?_
         rintro e w4 ⟨rfl, hw4⟩
         have hb4 := drawn_below hw4
         replace HB := below_step HB hb4 HB.size
         replace is := is.below hb4
         clear hw4 hb4
         as_aux_lemma =>
          go_wp2_with fail
          go_ret
          exact ⟨rfl, HB⟩
   case true =>
     have HS := Lib.hid hs; clear hs
     cases hc : xs.contains m
     case false =>
       have HC := Lib.hid hc; clear hc
       have R2 := Lib.hid (show (setValid xs && xs.contains m) = false by rw [HS.out, HC.out]; rfl)
       have R1 := Lib.hid ((has_same xs m).trans R2.out)
       have HN := Lib.hid (show count xs m = 0 by rw [count_valid HS.out, HC.out]; rfl)
       as_aux_lemma =>
        go_wp2_with fail
        refine (implSetContains_any _ xs m _ is false R1.out).mono ?_
        rintro e w' ⟨rfl, rfl⟩
        as_aux_lemma =>
         go_wp2_with fail
         refine (specContains_any _ xs m _ is false R2.out).mono ?_
         rintro e w2 ⟨rfl, hw2⟩
         have hb2 := drawn_below hw2
         replace HB := below_step HB hb2 HB.size
         replace is := is.below hb2
         clear hw2 hb2
         as_aux_lemma =>
          go_wp2_with fail
          refine (specSetValid_any _ xs _ is true HS.out).mono ?_
          rintro e w3 ⟨rfl, hw3⟩
          have hb3 := drawn_below hw3
          replace HB := below_step HB hb3 HB.size
          replace is := is.below hb3
          clear hw3 hb3
          as_aux_lemma =>
           go_wp2_with fail
           obtain ⟨a1, c1, hv, hn1, hcell⟩ := is.open
           subst hv
           go_loop [6, 7] (fun q i => ∃ k : Nat, k ≤ xs.length ∧ i = .int .i64 k ∧ q = .int .i64 (countTo xs m k)) (fun _ i => xs.length - (intOf i).toNat)
           case atStart => exact ⟨0, by omega, rfl, rfl⟩
           case round =>
             obtain ⟨k, hk, rfl, rfl⟩ := hrel
             obtain ⟨q0, q1⟩ := countTo_range xs m k
             by_cases hlt : k < xs.length
             case pos =>
               obtain ⟨p, hi, hkc⟩ := hcell k hlt
               have hix := hi k rfl
               clear hi hcell
               cases he : (nth xs k == m)
               case false =>
                 have HT := Lib.hid (show countTo xs m (k + 1) = countTo xs m k by simp [countTo, he])
                 as_aux_lemma =>
                  go_wp2_with fail
                  go_round
                  case rel => exact ⟨k + 1, by omega, by go_num, by rw [HT.out]⟩
                  case measure => simp [intOf]; omega
               case true =>
                 have HT := Lib.hid (show countTo xs m (k + 1) = countTo xs m k + 1 by simp [countTo, he])
                 as_aux_lemma =>
                  go_wp2_with fail
                  go_round
                  case rel => exact ⟨k + 1, by omega, by go_num, by rw [HT.out]⟩
                  case measure => simp [intOf]; omega
             case neg =>
               have HK := Lib.hid (show countTo xs m k = 0 by rw [← HN.out, show k = xs.length by omega]; rfl)
               rw [HK.out]
               clear hcell q0 q1
               as_aux_lemma =>
                go_wp2_with fail
                go_ret
                exact ⟨rfl, HB⟩
     case true =>
       have HC := Lib.hid hc; clear hc
       have R2 := Lib.hid (show (setValid xs && xs.contains m) = true by rw [HS.out, HC.out]; rfl)
       have R1 := Lib.hid ((has_same xs m).trans R2.out)
       have HN := Lib.hid (show count xs m = 1 by rw [count_valid HS.out, HC.out]; rfl)
       as_aux_lemma =>
        go_wp2_with fail
        refine (implSetContains_any _ xs m _ is true R1.out).mono ?_
        rintro e w' ⟨rfl, rfl⟩
        as_aux_lemma =>
         go_wp2_with fail
         refine (specContains_any _ xs m _ is true R2.out).mono ?_
         rintro e w2 ⟨rfl, hw2⟩
         have hb2 := drawn_below hw2
         replace HB := below_step HB hb2 HB.size
         replace is := is.below hb2
         clear hw2 hb2
         as_aux_lemma =>
          go_wp2_with fail
          refine (specSetValid_any _ xs _ is true HS.out).mono ?_
          rintro e w3 ⟨rfl, hw3⟩
          have hb3 := drawn_below hw3
          replace HB := below_step HB hb3 HB.size
          replace is := is.below hb3
          clear hw3 hb3
          as_aux_lemma =>
           go_wp2_with fail
           obtain ⟨a1, c1, hv, hn1, hcell⟩ := is.open
           subst hv
           go_loop [6, 7] (fun q i => ∃ k : Nat, k ≤ xs.length ∧ i = .int .i64 k ∧ q = .int .i64 (countTo xs m k)) (fun _ i => xs.length - (intOf i).toNat)
           case atStart => exact ⟨0, by omega, rfl, rfl⟩
           case round =>
             obtain ⟨k, hk, rfl, rfl⟩ := hrel
             obtain ⟨q0, q1⟩ := countTo_range xs m k
             by_cases hlt : k < xs.length
             case pos =>
               obtain ⟨p, hi, hkc⟩ := hcell k hlt
               have hix := hi k rfl
               clear hi hcell
               cases he : (nth xs k == m)
               case false =>
                 have HT := Lib.hid (show countTo xs m (k + 1) = countTo xs m k by simp [countTo, he])
                 as_aux_lemma =>
                  go_wp2_with fail
                  go_round
                  case rel => exact ⟨k + 1, by omega, by go_num, by rw [HT.out]⟩
                  case measure => simp [intOf]; omega
               case true =>
                 have HT := Lib.hid (show countTo xs m (k + 1) = countTo xs m k + 1 by simp [countTo, he])
                 as_aux_lemma =>
                  go_wp2_with fail
                  go_round
                  case rel => exact ⟨k + 1, by omega, by go_num, by rw [HT.out]⟩
                  case measure => simp [intOf]; omega
             case neg =>
               have HK := Lib.hid (show countTo xs m k = 1 by rw [← HN.out, show k = xs.length by omega]; rfl)
               rw [HK.out]
               clear hcell q0 q1
               as_aux_lemma =>
                go_wp2_with fail
                go_ret
                exact ⟨rfl, HB⟩

/-! ### THE ROW's STEP -/
set_option maxRecDepth 100000 in
theorem lifted (os : Os) (started : os.Started) (H : Type) (enc : TypeId × Value → H) :
    ReturnsInHanded {} Try.checked os 7 .any (Rows.fnContainsSpec.pre6 enc Try.prog Try.f7 Rows.fnContainsRow.domain false) (Rows.fnContainsSpec.post enc Try.prog Try.f7 false true false false) := by
  refine returnsInHanded_of_change (C := Try.checked) own started (by kernel_rfl) Try.func7
    (ChangeSpec.witness6 (enc := enc) (C := Try.checked) false ⟨#[], #[.slice none 0 0], []⟩ 8 (by kernel_rfl) (by kernel_rfl) (by kernel_rfl) (by kernel_rfl)) ?_
  intro W base args ds gs before hval0 hW hcnd _
  have hval : ∀ (j : Nat) t v, Try.f7.params[j]? = some t → args[j]? = some v → Value.okWide Try.prog W .any base t v := hval0
  have hW' := hW
  obtain ⟨p, q, hA0, hV, rfl, hfz, hnd⟩ := hW
  have hA : DataW.TrodAll enc Try.prog W 0 (fun _ => true) true Try.f7.params.toList args.toList ds p := hA0
  rw [Try.params7] at hA hval
  obtain ⟨v0, vs0, d0, ds0, p0, q0, hargs, rfl, rfl, h0, r0⟩ := trodAll_cons hA
  obtain ⟨rfl, rfl, rfl⟩ := trodAll_nil r0
  obtain rfl : args = #[v0] := by cases args; simp_all
  obtain ⟨rfl, rfl⟩ := trodVars_none hV
  obtain ⟨n0, b0⟩ := bytes_in (hval 0 _ v0 rfl rfl) h0
  have lt0 := lt_in h0
  clear hA0 hval0
  refine (walk_at W v0 n0 b0).mono fun e W' ⟨he, bel⟩ => ?_
  subst he
  exact ⟨_, rfl, _, _, _, [], _, [], hW', trodAll_mk1 (shut_bool Try.underlying4 _), (trodAll_cons_mk (Below.trod laidOut (by kernel_rfl) (of_decide_eq_true (by kernel_rfl)) h0 bel lt0) trodAll_mk0), rfl, bel.frame _, fun h => by cases h⟩

set_option maxRecDepth 100000 in
theorem closed : joinedFacts Try.prog 7 Try.f7 Rows.fnContainsSpec Rows.fnContainsRow = true := by
  unfold joinedFacts
  rw [may, lifts, mk]
  kernel_rfl
theorem over : Rows.fnContainsRow.holds Try.pinned (OpenSpec.ofChange Rows.fnContainsSpec) :=
  OpenClaim.holds_of_wide 7 Try.f7 rfl rfl rfl rfl rfl rfl rfl ⟨rfl, rfl, rfl, rfl, rfl⟩ rfl rfl rfl rfl rfl (by as_aux_lemma => kernel_rfl) Try.func7 closed
    (of_decide_eq_true (by as_aux_lemma => kernel_rfl)) (by unfold Func.isWrapper; rw [if_neg (of_decide_eq_false (by as_aux_lemma => kernel_rfl))]; exact ⟨rfl, rfl⟩)
    (fun os started H enc _ => lifted os started H enc)

/-- THE STATEMENT -/
theorem proved : Rows.FnContainsSaid := over
end Go.Proofs.Ytgipgfhnkkpdkaa.fnContains
