/-
  For every code the law FnLogConfigStable returns true, and what it was given reads afterwards as before. No condition.
-/
import Derived.Test.YthehnpkjnilgiaaFrame
import Derived.Test.YthehnpkjnilgiaaUtil
import Derived.Test.YthehnpkjnilgiaaLogK
import Derived.Test.YthehnpkjnilgiaaLogT
import Derived.Test.YthehnpkjnilgiaaLogU
import Derived.Test.YthehnpkjnilgiaaLogP
import Derived.Test.YthehnpkjnilgiaaSlc
import Derived.Test.YthehnpkjnilgiaaStp
import Derived.Deep.RegionWith
import Derived.Deep.RegionHeld3
import Derived.Deep.DeepCutAuto
import Derived.Deep.QuietTactic
import Derived.BigQuiet
namespace Go.Proofs.Ythehnpkjnilgiaa.fnLogConfigStable
open Go.ChangeShapes Go.WideShapes Go.ChangeAt Go.RowKit
open Go.ChangeMaps (open_string shut_string)
set_option linter.unusedVariables false

set_option maxRecDepth 100000 in
set_option maxHeartbeats 4000000 in
theorem walk_at (w : World) (v0 : Value) (n0 : Nat) (b0 : Bytes w 0 w.heap.size v0 n0) (v1 : Value) (n1 : Nat) (b1 : Bytes w 0 w.heap.size v1 n1) :
    Calls Try.prog 3 #[v0, v1] w fun e w' => e = .returned (.bool true) ∧ Below w.heap.size w w' := by
  obtain ⟨a0, c0, hv0, hn0, hx0⟩ := b0.open
  clear hx0
  subst hv0
  obtain ⟨a1, c1, hv1, hn1, hx1⟩ := b1.open
  clear hx1
  subst hv1
  by_cases big0 : n0 ≤ 1048576
  case neg =>
    go_enter Try.func3, Try.ntmps3
    go_wp2_with fail
    go_ret
    exact ⟨rfl, Below.refl _ _⟩
  by_cases big1 : n1 ≤ 1048576
  case neg =>
    go_enter Try.func3, Try.ntmps3
    go_wp2_with fail
    go_ret
    exact ⟨rfl, Below.refl _ _⟩
  go_enter Try.func3, Try.ntmps3
  go_wp2_with fail
  have HB : Below w.heap.size w w := Below.refl _ _
  refine (DrawLogConfig_any _ n0 _ b0).mono ?_
  rintro e w1 ⟨s, es, m, t, rfl, ie, hl, m0, m1, t0, t1, hb1⟩
  have hs1 := hb1.size
  replace HB := below_step HB hb1 HB.size
  clear hb1
  as_aux_lemma =>
   go_wp2_with fail
   have hr : -9223372036854775808 ≤ t ∧ t ≤ 9223372036854775807 := by omega
   generalize hc : logConfig m es t = c
   have HC := Lib.hid hc; clear hc
   have hcc : (c != c) = false := by simp
   have hce : (c == c) = true := by simp
   refine (implLogConfig_any _ es m t _ ie hr c HC.out).mono ?_
   rintro e w2 ⟨rfl, hb2⟩
   have hs2 := hb2.size
   replace HB := below_step HB hb2 HB.size
   replace ie := ie.below hb2
   clear hb2
   as_aux_lemma =>
    go_wp2_with fail
    by_cases h0 : c = 0
    case pos =>
      have h0b : (c == 0) = true := by simp [h0]
      clear h0
      refine (specLogConfig_any _ es m t _ ie hr c HC.out).mono ?_
      rintro e w3 ⟨rfl, hb3⟩
      have hs3 := hb3.size
      replace HB := below_step HB hb3 HB.size
      replace ie := ie.below hb3
      clear hb3
      as_aux_lemma =>
       go_wp2_with fail
       refine (specLogConfig_any _ es m t _ ie hr c HC.out).mono ?_
       rintro e w4 ⟨rfl, hb4⟩
       have hs4 := hb4.size
       replace HB := below_step HB hb4 HB.size
       replace ie := ie.below hb4
       clear hb4
       as_aux_lemma =>
        go_wp2_with fail
        go_ret
        exact ⟨rfl, HB⟩
    case neg =>
      have h0b : (c == 0) = false := beq_eq_false_iff_ne.2 h0
      have H0 := Lib.hid h0; clear h0
      generalize hcf : 1 + (n1 : Int) % m = d
      have hd0 : 1 ≤ d ∧ d ≤ m := by rw [← hcf]; have := Int.emod_nonneg (n1 : Int) (show m ≠ 0 by omega); have := Int.emod_lt_of_pos (n1 : Int) (show 0 < m by omega); omega
      have HD := Lib.hid hcf; clear hcf
      have hq0 : 0 ≤ (n1 : Int) % m := Int.emod_nonneg _ (by omega)
      have hq1 : (n1 : Int) % m < m := Int.emod_lt_of_pos _ (by omega)
      obtain ⟨r, hrr⟩ : ∃ r, appendB m es 0 d = r := ⟨_, rfl⟩
      obtain ⟨zs, hzs⟩ : ∃ zs, appendL m es 0 d = zs := ⟨_, rfl⟩
      have HR := Lib.hid hrr
      have HZ := Lib.hid hzs
      have HX := Lib.hid (show r = true → logConfig m zs t = c from fun e => by rw [e] at hrr; obtain ⟨_, _, _, a4, a5⟩ := appB hrr; rw [← hzs, a4]; exact log_stable HC.out H0.out a5)
      clear hrr hzs
      have hm0 : ¬ m = 0 := by omega
      refine (specLogConfig_any _ es m t _ ie hr c HC.out).mono ?_
      rintro e w3 ⟨rfl, hb3⟩
      have hs3 := hb3.size
      replace HB := below_step HB hb3 HB.size
      replace ie := ie.below hb3
      clear hb3
      as_aux_lemma =>
       go_wp2_with fail
       rw [HD.out]
       have hb4 : Below w3.heap.size w3 (w3.alloc (.cells #[.int .i64 0, .int .i64 d] 28)) := (Below.refl _ _).alloc (Nat.le_refl _) _
       have hs4 := hb4.size
       replace HB := below_step HB hb4 HB.size
       replace ie := ie.below hb4
       clear hb4
       generalize w3.alloc (.cells #[.int .i64 0, .int .i64 d] 28) = w4 at *
       refine (implLogAppend_any _ es m 0 d _ ie zs r HZ.out HR.out).mono ?_
       rintro e w5 ⟨x, rfl, ix, hb5⟩
       have hs5 := hb5.size
       replace HB := below_step HB hb5 HB.size
       replace ie := ie.below hb5
       clear hb5
       cases r
       case false =>
         as_aux_lemma =>
          go_wp2_with fail
          go_ret
          exact ⟨rfl, HB⟩
       case true =>
         have HY := Lib.hid (HX.out rfl)
         as_aux_lemma =>
          go_wp2_with fail
          refine (implLogConfig_any _ zs m t _ ix.ents hr c HY.out).mono ?_
          rintro e w6 ⟨rfl, hb6⟩
          have hs6 := hb6.size
          replace HB := below_step HB hb6 HB.size
          replace ie := ie.below hb6
          replace ix := ix.below hb6
          clear hb6
          as_aux_lemma =>
           go_wp2_with fail
           go_ret
           exact ⟨rfl, HB⟩

/-! ### THE ROW's STEP -/
set_option maxRecDepth 100000 in
theorem lifted (os : Os) (started : os.Started) (H : Type) (enc : TypeId × Value → H) :
    ReturnsInHanded {} Try.checked os 3 .any (Rows.fnLogConfigStableSpec.pre6 enc Try.prog Try.f3 Rows.fnLogConfigStableRow.domain false) (Rows.fnLogConfigStableSpec.post enc Try.prog Try.f3 false true false false) := by
  refine returnsInHanded_of_change (C := Try.checked) own started (by kernel_rfl) Try.func3
    (ChangeSpec.witness6 (enc := enc) (C := Try.checked) false ⟨#[], #[.slice none 0 0, .slice none 0 0], []⟩ 8 (by kernel_rfl) (by kernel_rfl) (by kernel_rfl) (by kernel_rfl)) ?_
  intro W base args ds gs before hval0 hW hcnd _
  have hval : ∀ (j : Nat) t v, Try.f3.params[j]? = some t → args[j]? = some v → Value.okWide Try.prog W .any base t v := hval0
  have hW' := hW
  obtain ⟨p, q, hA0, hV, rfl, hfz, hnd⟩ := hW
  have hA : DataW.TrodAll enc Try.prog W 0 (fun _ => true) true Try.f3.params.toList args.toList ds p := hA0
  rw [Try.params3] at hA hval
  obtain ⟨v0, vs0, d0, ds0, p0, q0, hargs, rfl, rfl, h0, r0⟩ := trodAll_cons hA
  obtain ⟨v1, vs1, d1, ds1, p1, q1, rfl, rfl, rfl, h1, r1⟩ := trodAll_cons r0
  obtain ⟨rfl, rfl, rfl⟩ := trodAll_nil r1
  obtain rfl : args = #[v0, v1] := by cases args; simp_all
  obtain ⟨rfl, rfl⟩ := trodVars_none hV
  obtain ⟨n0, b0⟩ := bytes_in (hval 0 _ v0 rfl rfl) h0
  have lt0 := lt_in h0
  obtain ⟨n1, b1⟩ := bytes_in (hval 1 _ v1 rfl rfl) h1
  have lt1 := lt_in h1
  clear hA0 hval0
  refine (walk_at W v0 n0 b0 v1 n1 b1).mono fun e W' ⟨he, bel⟩ => ?_
  subst he
  exact ⟨_, rfl, _, _, _, [], _, [], hW', trodAll_mk1 (shut_bool Try.underlying4 _), (trodAll_cons_mk (Below.trod laidOut (by kernel_rfl) (of_decide_eq_true (by kernel_rfl)) h0 bel lt0) (trodAll_cons_mk (Below.trod laidOut (by kernel_rfl) (of_decide_eq_true (by kernel_rfl)) h1 bel lt1) trodAll_mk0)), rfl, bel.frame _, fun h => by cases h⟩

set_option maxRecDepth 100000 in
theorem closed : joinedFacts Try.prog 3 Try.f3 Rows.fnLogConfigStableSpec Rows.fnLogConfigStableRow = true := by
  unfold joinedFacts
  rw [may, lifts, mk]
  kernel_rfl
theorem over : Rows.fnLogConfigStableRow.holds Try.pinned (OpenSpec.ofChange Rows.fnLogConfigStableSpec) :=
  OpenClaim.holds_of_wide 3 Try.f3 rfl rfl rfl rfl rfl rfl rfl ⟨rfl, rfl, rfl, rfl, rfl⟩ rfl rfl rfl rfl rfl (by as_aux_lemma => kernel_rfl) Try.func3 closed
    (of_decide_eq_true (by as_aux_lemma => kernel_rfl)) (by unfold Func.isWrapper; rw [if_neg (of_decide_eq_false (by as_aux_lemma => kernel_rfl))]; exact ⟨rfl, rfl⟩)
    (fun os started H enc _ => lifted os started H enc)

/-- THE STATEMENT -/
theorem proved : Rows.FnLogConfigStableSaid := over
end Go.Proofs.Ythehnpkjnilgiaa.fnLogConfigStable
