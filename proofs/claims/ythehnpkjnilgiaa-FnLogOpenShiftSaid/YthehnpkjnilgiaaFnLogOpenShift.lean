/-
  For every code the law FnLogOpenShift returns true, and what it was given reads afterwards as before. No condition.
-/
import Derived.Test.YthehnpkjnilgiaaFrame
import Derived.Test.YthehnpkjnilgiaaUtil
import Derived.Test.YthehnpkjnilgiaaLogK
import Derived.Test.YthehnpkjnilgiaaLogT
import Derived.Test.YthehnpkjnilgiaaLogU
import Derived.Test.YthehnpkjnilgiaaLogP
import Derived.Test.YthehnpkjnilgiaaSlc
import Derived.Test.YthehnpkjnilgiaaStp
import Derived.Deep.RegionWith
import Derived.Deep.RegionHeld3
import Derived.Deep.DeepCutAuto
import Derived.Deep.QuietTactic
import Derived.BigQuiet
namespace Go.Proofs.Ythehnpkjnilgiaa.fnLogOpenShift
open Go.ChangeShapes Go.WideShapes Go.ChangeAt Go.RowKit
open Go.ChangeMaps (open_string shut_string)
set_option linter.unusedVariables false

set_option maxRecDepth 100000 in
set_option maxHeartbeats 4000000 in
theorem walk_at (w : World) (v0 : Value) (n0 : Nat) (b0 : Bytes w 0 w.heap.size v0 n0) (v1 : Value) (n1 : Nat) (b1 : Bytes w 0 w.heap.size v1 n1) :
    Calls Try.prog 7 #[v0, v1] w fun e w' => e = .returned (.bool true) ∧ Below w.heap.size w w' := by
  obtain ⟨a0, c0, hv0, hn0, hx0⟩ := b0.open
  clear hx0
  subst hv0
  obtain ⟨a1, c1, hv1, hn1, hx1⟩ := b1.open
  clear hx1
  subst hv1
  by_cases big0 : n0 ≤ 1048576
  case neg =>
    go_enter Try.func7, Try.ntmps7
    go_wp2_with fail
    go_ret
    exact ⟨rfl, Below.refl _ _⟩
  by_cases big1 : n1 ≤ 1048576
  case neg =>
    go_enter Try.func7, Try.ntmps7
    go_wp2_with fail
    go_ret
    exact ⟨rfl, Below.refl _ _⟩
  go_enter Try.func7, Try.ntmps7
  go_wp2_with fail
  have HB : Below w.heap.size w w := Below.refl _ _
  refine (DrawLogOpen_any _ n0 _ b0).mono ?_
  rintro e w1 ⟨s, es, m, rfl, ie, hl, m0, m1, hb1⟩
  have hs1 := hb1.size
  replace HB := below_step HB hb1 HB.size
  clear hb1
  obtain ⟨a, cap, hse, hn, hx⟩ := ie.open
  clear hx
  subst hse
  generalize hzs : openL m es = zs
  have HZ := Lib.hid hzs; clear hzs
  as_aux_lemma =>
   go_wp2_with fail
   refine (implLogOpen_any _ es m _ ie zs HZ.out).mono ?_
   rintro e w2 ⟨u, rfl, iu, hb2⟩
   have hs2 := hb2.size
   replace HB := below_step HB hb2 HB.size
   replace ie := ie.below hb2
   replace iu := iu.ints
   clear hb2
   as_aux_lemma =>
    go_wp2_with fail
    refine (specLogOpen_any _ es m _ ie zs HZ.out).mono ?_
    rintro e w3 ⟨z, rfl, iz, hb3⟩
    have hs3 := hb3.size
    replace HB := below_step HB hb3 HB.size
    replace ie := ie.below hb3
    replace iu := iu.below hb3
    replace iz := iz.ints
    clear hb3
    as_aux_lemma =>
     go_wp2_with fail
     refine (sameInts_any _ _ _ _ _ iu iz true (by simp)).mono ?_
     rintro e w4 ⟨rfl, hw4⟩
     have hb4 := drawn_below hw4
     have hs4 := hb4.size
     replace HB := below_step HB hb4 HB.size
     replace ie := ie.below hb4
     replace iu := iu.below hb4
     replace iz := iz.below hb4
     clear hw4 hb4
     as_aux_lemma =>
      go_wp2_with fail
      cases hv : logValid m es
      case false =>
        have HV := Lib.hid hv; clear hv
        refine (specLogValid_any _ es m _ ie false HV.out).mono ?_
        rintro e w5 ⟨rfl, hb5⟩
        have hs5 := hb5.size
        replace HB := below_step HB hb5 HB.size
        replace ie := ie.below hb5
        replace iu := iu.below hb5
        replace iz := iz.below hb5
        clear hb5
        as_aux_lemma =>
         go_wp2_with fail
         refine (specLogOpen_any _ es m _ ie zs HZ.out).mono ?_
         rintro e w6 ⟨z2, rfl, iz2, hb6⟩
         have hs6 := hb6.size
         replace HB := below_step HB hb6 HB.size
         replace ie := ie.below hb6
         replace iu := iu.below hb6
         replace iz := iz.below hb6
         replace iz2 := iz2.ints
         clear hb6
         as_aux_lemma =>
          go_wp2_with fail
          refine (sameInts_any _ _ _ _ _ iu iz2 true (by simp)).mono ?_
          rintro e w7 ⟨rfl, hw7⟩
          have hb7 := drawn_below hw7
          have hs7 := hb7.size
          replace HB := below_step HB hb7 HB.size
          replace ie := ie.below hb7
          replace iu := iu.below hb7
          replace iz := iz.below hb7
          replace iz2 := iz2.below hb7
          clear hw7 hb7
          as_aux_lemma =>
           go_wp2_with fail
           go_ret
           exact ⟨rfl, HB⟩
      case true =>
        have HV := Lib.hid hv
        generalize hcf : 1 + (n1 : Int) % m = d
        have hd0 : 1 ≤ d ∧ d ≤ m := by rw [← hcf]; have := Int.emod_nonneg (n1 : Int) (show m ≠ 0 by omega); have := Int.emod_lt_of_pos (n1 : Int) (show 0 < m by omega); omega
        have HD := Lib.hid hcf; clear hcf
        have hq0 : 0 ≤ (n1 : Int) % m := Int.emod_nonneg _ (by omega)
        have hq1 : (n1 : Int) % m < m := Int.emod_lt_of_pos _ (by omega)
        have hok : okE m 0 d = true := by unfold okE; rw [if_neg (by simp; omega), inB_mk (by omega) (by omega)]; rfl
        obtain ⟨r, hrr⟩ : ∃ r, appendB m es 0 d = r := ⟨_, rfl⟩
        obtain ⟨ys, hys⟩ : ∃ ys, appendL m es 0 d = ys := ⟨_, rfl⟩
        have HR := Lib.hid hrr
        have HY := Lib.hid hys
        have HX := Lib.hid (show r = true → ∃ p q, zs = [p, q] ∧ openL m ys = [q, d] from fun e => by rw [e] at hrr; obtain ⟨_, _, _, a4, a5⟩ := appB hrr; rw [← hys, a4, ← HZ.out]; exact open_shift hv a5 (by omega))
        have HF := Lib.hid (show r = false → es.length = 12 from fun e => by rw [e] at hrr; unfold appendB at hrr; rw [hv, hok] at hrr; simpa using hrr)
        have hm0 : ¬ m = 0 := by omega
        clear hrr hys hv hok
        refine (specLogValid_any _ es m _ ie true HV.out).mono ?_
        rintro e w5 ⟨rfl, hb5⟩
        have hs5 := hb5.size
        replace HB := below_step HB hb5 HB.size
        replace ie := ie.below hb5
        replace iu := iu.below hb5
        replace iz := iz.below hb5
        clear hb5
        as_aux_lemma =>
         go_wp2_with fail
         rw [HD.out]
         refine (implLogAppend_any _ es m 0 d _ ie ys r HY.out HR.out).mono ?_
         rintro e w6 ⟨x, rfl, ix, hb6⟩
         have hs6 := hb6.size
         replace HB := below_step HB hb6 HB.size
         replace ie := ie.below hb6
         replace iu := iu.below hb6
         replace iz := iz.below hb6
         clear hb6
         cases r
         case false =>
           have h12 : ((es.length : Int) == 12) = true := by have := HF.out rfl; simp; omega
           as_aux_lemma =>
            go_wp2_with fail
            go_ret
            exact ⟨rfl, HB⟩
         case true =>
           obtain ⟨p, q, hz1, hz2⟩ := HX.out rfl
           subst hz1
           have HQ := Lib.hid hz2; clear hz2
           as_aux_lemma =>
            go_wp2_with fail
            refine (implLogOpen_any _ ys m _ ix.ents [q, d] HQ.out).mono ?_
            rintro e w7 ⟨y, rfl, iy, hb7⟩
            have hs7 := hb7.size
            replace HB := below_step HB hb7 HB.size
            replace ie := ie.below hb7
            replace iu := iu.below hb7
            replace iz := iz.below hb7
            replace ix := ix.below hb7
            replace iy := iy.ints
            clear hb7
            obtain ⟨au, cu, hu, _, hcu⟩ := iu.open
            obtain ⟨ay, cy, hy, _, hcy⟩ := iy.open
            change u = .slice au 2 cu at hu
            change y = .slice ay 2 cy at hy
            subst hu
            subst hy
            obtain ⟨p1, hi1, hk1⟩ := hcy 1 (by simp)
            change _ = some (Value.int .i64 d) at hk1
            have hix := hi1 1 rfl
            change ∀ wx, (Instr.indexAt _ (.slice ay 2 cy) (.int .i64 1)).run _ wx = _ at hix
            obtain ⟨vt, hvt, it⟩ := ints_tail iu 1 (by simp)
            obtain ⟨vh, hvh, ih⟩ := ints_head iy 1 (by simp)
            change Ints _ _ _ vt [q] at it
            change Ints _ _ _ vh [q] at ih
            have hsT := hvt 1 rfl
            have hsH := hvh 1 rfl
            change ∀ wx, (Instr.slice _ (.slice au 2 cu) _ none none).run _ wx = _ at hsT
            change ∀ wx, (Instr.slice _ (.slice ay 2 cy) none _ none).run _ wx = _ at hsH
            have hdd : (d == d) = true := by simp
            have hwr : IntKind.i64.wrap (1 + (n1 : Int) % m) = 1 + (n1 : Int) % m := wrap_i64 (by omega) (by omega)
            clear hcu hcy hi1 hvt hvh
            as_aux_lemma =>
             go_wp2_with fail
             go_quiet ((go_at_call 23; exact Calls.quiet_of (sameInts_any _ _ [q] [q] _ (ih.below (drawn_below ⟨_, rfl⟩)) (it.below (drawn_below ⟨_, rfl⟩)) true (by simp))))
             rw [HD.out]
             go_wp2_with fail
             go_ret
             exact ⟨by simp, HB.trans (drawn_below ⟨_, rfl⟩ |>.mono HB.size)⟩

/-! ### THE ROW's STEP -/
set_option maxRecDepth 100000 in
theorem lifted (os : Os) (started : os.Started) (H : Type) (enc : TypeId × Value → H) :
    ReturnsInHanded {} Try.checked os 7 .any (Rows.fnLogOpenShiftSpec.pre6 enc Try.prog Try.f7 Rows.fnLogOpenShiftRow.domain false) (Rows.fnLogOpenShiftSpec.post enc Try.prog Try.f7 false true false false) := by
  refine returnsInHanded_of_change (C := Try.checked) own started (by kernel_rfl) Try.func7
    (ChangeSpec.witness6 (enc := enc) (C := Try.checked) false ⟨#[], #[.slice none 0 0, .slice none 0 0], []⟩ 8 (by kernel_rfl) (by kernel_rfl) (by kernel_rfl) (by kernel_rfl)) ?_
  intro W base args ds gs before hval0 hW hcnd _
  have hval : ∀ (j : Nat) t v, Try.f7.params[j]? = some t → args[j]? = some v → Value.okWide Try.prog W .any base t v := hval0
  have hW' := hW
  obtain ⟨p, q, hA0, hV, rfl, hfz, hnd⟩ := hW
  have hA : DataW.TrodAll enc Try.prog W 0 (fun _ => true) true Try.f7.params.toList args.toList ds p := hA0
  rw [Try.params7] at hA hval
  obtain ⟨v0, vs0, d0, ds0, p0, q0, hargs, rfl, rfl, h0, r0⟩ := trodAll_cons hA
  obtain ⟨v1, vs1, d1, ds1, p1, q1, rfl, rfl, rfl, h1, r1⟩ := trodAll_cons r0
  obtain ⟨rfl, rfl, rfl⟩ := trodAll_nil r1
  obtain rfl : args = #[v0, v1] := by cases args; simp_all
  obtain ⟨rfl, rfl⟩ := trodVars_none hV
  obtain ⟨n0, b0⟩ := bytes_in (hval 0 _ v0 rfl rfl) h0
  have lt0 := lt_in h0
  obtain ⟨n1, b1⟩ := bytes_in (hval 1 _ v1 rfl rfl) h1
  have lt1 := lt_in h1
  clear hA0 hval0
  refine (walk_at W v0 n0 b0 v1 n1 b1).mono fun e W' ⟨he, bel⟩ => ?_
  subst he
  exact ⟨_, rfl, _, _, _, [], _, [], hW', trodAll_mk1 (shut_bool Try.underlying4 _), (trodAll_cons_mk (Below.trod laidOut (by kernel_rfl) (of_decide_eq_true (by kernel_rfl)) h0 bel lt0) (trodAll_cons_mk (Below.trod laidOut (by kernel_rfl) (of_decide_eq_true (by kernel_rfl)) h1 bel lt1) trodAll_mk0)), rfl, bel.frame _, fun h => by cases h⟩

set_option maxRecDepth 100000 in
theorem closed : joinedFacts Try.prog 7 Try.f7 Rows.fnLogOpenShiftSpec Rows.fnLogOpenShiftRow = true := by
  unfold joinedFacts
  rw [may, lifts, mk]
  kernel_rfl
theorem over : Rows.fnLogOpenShiftRow.holds Try.pinned (OpenSpec.ofChange Rows.fnLogOpenShiftSpec) :=
  OpenClaim.holds_of_wide 7 Try.f7 rfl rfl rfl rfl rfl rfl rfl ⟨rfl, rfl, rfl, rfl, rfl⟩ rfl rfl rfl rfl rfl (by as_aux_lemma => kernel_rfl) Try.func7 closed
    (of_decide_eq_true (by as_aux_lemma => kernel_rfl)) (by unfold Func.isWrapper; rw [if_neg (of_decide_eq_false (by as_aux_lemma => kernel_rfl))]; exact ⟨rfl, rfl⟩)
    (fun os started H enc _ => lifted os started H enc)

/-- THE STATEMENT -/
theorem proved : Rows.FnLogOpenShiftSaid := over
end Go.Proofs.Ythehnpkjnilgiaa.fnLogOpenShift
