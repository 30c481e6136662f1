/-
  For every code the law FnLogOpen returns true, and what it was given reads afterwards as before. No condition.
-/
import Derived.Test.YthehnpkjnilgiaaFrame
import Derived.Test.YthehnpkjnilgiaaUtil
import Derived.Test.YthehnpkjnilgiaaLogK
import Derived.Test.YthehnpkjnilgiaaLogS
import Derived.Deep.RegionWith
import Derived.Deep.RegionHeld3
namespace Go.Proofs.Ythehnpkjnilgiaa.fnLogOpen
open Go.ChangeShapes Go.WideShapes Go.ChangeAt Go.RowKit
open Go.ChangeMaps (open_string shut_string)
set_option linter.unusedVariables false

set_option maxHeartbeats 1000000 in
theorem walk_at (w : World) (v0 : Value) (n0 : Nat) (b0 : Bytes w 0 w.heap.size v0 n0) :
    Calls Try.prog 5 #[v0] w fun e w' => e = .returned (.bool true) ∧ Below w.heap.size w w' := by
  obtain ⟨a0, c0, hv0, hn0, hx⟩ := b0.open
  clear hx
  subst hv0
  by_cases big0 : n0 ≤ 1048576
  case neg =>
    go_enter Try.func5, Try.ntmps5
    go_wp2_with fail
    go_ret
    exact ⟨rfl, Below.refl _ _⟩
  go_enter Try.func5, Try.ntmps5
  go_wp2_with fail
  refine (DrawLogOpen_any _ n0 _ b0).mono ?_
  rintro e w1 ⟨s, es, n, rfl, ie, hl, n1, n2, HB⟩
  obtain ⟨a, cap, hse, hn, hx⟩ := ie.open
  clear hx
  subst hse
  as_aux_lemma =>
   go_wp2_with fail
   generalize hzs : openL n es = zs
   have HZ := Lib.hid hzs; clear hzs
   refine (implLogOpen_any _ es n _ ie zs HZ.out).mono ?_
   rintro e w2 ⟨u, rfl, iu, hb2⟩
   replace HB := below_step HB hb2 HB.size
   replace ie := ie.below hb2
   replace iu := iu.ints
   clear hb2
   as_aux_lemma =>
    go_wp2_with fail
    refine (specLogOpen_any _ es n _ ie zs HZ.out).mono ?_
    rintro e w3 ⟨z, rfl, iz, hb3⟩
    replace HB := below_step HB hb3 HB.size
    replace ie := ie.below hb3
    replace iu := iu.below hb3
    replace iz := iz.ints
    clear hb3
    as_aux_lemma =>
     go_wp2_with fail
     refine (sameInts_any _ _ _ _ _ iu iz true (by simp)).mono ?_
     rintro e w4 ⟨rfl, hw4⟩
     have hb4 := drawn_below hw4
     replace HB := below_step HB hb4 HB.size
     replace ie := ie.below hb4
     replace iu := iu.below hb4
     clear hw4 hb4 iz
     as_aux_lemma =>
      go_wp2_with fail
      cases hv : logValid n es
      case false =>
        have HV := Lib.hid hv; clear hv
        refine (specLogValid_any _ es n _ ie false HV.out).mono ?_
        rintro e w5 ⟨rfl, hb5⟩
        replace HB := below_step HB hb5 HB.size
        replace ie := ie.below hb5
        replace iu := iu.below hb5
        clear hb5
        go_wp2_with fail
        refine (specLogOpen_any _ es n _ ie zs HZ.out).mono ?_
        rintro e w6 ⟨z, rfl, iz, hb6⟩
        replace HB := below_step HB hb6 HB.size
        replace iu := iu.below hb6
        replace iz := iz.ints
        clear hb6
        go_wp2_with fail
        refine (sameInts_any _ _ _ _ _ iu iz true (by simp)).mono ?_
        rintro e w7 ⟨rfl, hw7⟩
        have hb7 := drawn_below hw7
        replace HB := below_step HB hb7 HB.size
        go_wp2_with fail
        go_ret
        exact ⟨rfl, HB⟩
      case true =>
        have HV := Lib.hid hv
        have hz2 : zs.length = 2 := by rw [← HZ.out]; simp [openL, hv, openTo]
        have HN := Lib.hid (show ∀ k : Nat, k < 2 → logConfig n es ((es.length : Int) + k) = nth zs k by
          intro k hk
          rw [← HZ.out]
          unfold openL logConfig
          rw [hv, inB_mk (by omega) (by omega)]
          have : k = 0 ∨ k = 1 := by omega
          rcases this with rfl | rfl <;> simp [openTo, nth, List.range_succ])
        have hlen := (valid_len hv).1
        clear hv
        refine (specLogValid_any _ es n _ ie true HV.out).mono ?_
        rintro e w5 ⟨rfl, hb5⟩
        replace HB := below_step HB hb5 HB.size
        replace ie := ie.below hb5
        replace iu := iu.below hb5
        clear hb5
        obtain ⟨a1, c1, hu1, hn1, hcell1⟩ := iu.open
        have HZ2 := Lib.hid hz2
        have hzI : ((zs.length : Int) == 2) = true := by simp; omega
        have hzl : ∀ k, k < 2 → k < zs.length := by omega
        clear hz2
        subst hu1
        go_wp2_with fail
        go_loopw [6] (fun i wr => ∃ k : Nat, k ≤ 2 ∧ i = .int .i64 k ∧ Below w.heap.size w wr ∧ Below w5.heap.size w5 wr) (fun i _ => 2 - (intOf i).toNat)
        case atStart => exact ⟨0, by omega, rfl, HB, Below.refl _ _⟩
        case round =>
          obtain ⟨k, hk, rfl, hb, hbw⟩ := hrel
          have hsz := hb.size
          by_cases hlt : k < 2
          · obtain ⟨p, hi, hkc0⟩ := hcell1 k (hzl k hlt)
            have hix := hi k rfl
            have hkc := (hbw.cell (lt_of_cell hkc0)).trans hkc0
            have HC := Lib.hid (HN.out k hlt)
            have je := ie.below hbw
            have hpl := lt_of_cell hkc
            clear hi hkc0 hcell1 hzl HN iu HZ2
            generalize nth zs k = x at HC hkc
            have hd : Below wr.heap.size wr wr.drew := (Below.refl _ _).drew
            have jd := je.below hd
            have hrange : -9223372036854775808 ≤ (es.length : Int) + k ∧ (es.length : Int) + k ≤ 9223372036854775807 := by omega
            have hxx : (x != x) = false := by simp
            have hwrap : IntKind.i64.wrap ((es.length : Int) + (k : Int)) = (es.length : Int) + (k : Int) := wrap_i64 (by omega) (by omega)
            go_wp2_with fail
            go_region_held3 (fun w' => w'.cell? p = some (.int .i64 x) ∧ Below wr.heap.size wr w')
              (first
                | exact ⟨hkc, hd⟩
                | exact ⟨(hb6.cell hpl).trans hkc, hb6⟩
                | (go_split_ands; refine ⟨?_, ?_⟩ <;> assumption))
              ((go_at_call 11; refine (implLogConfig_any _ es n _ _ jd hrange x HC.out).mono ?_; rintro e w6 ⟨rfl, hb6⟩; replace hb6 := below_step hd hb6 (Nat.le_refl _)))
            all_goals
              clear hwrap
              go_wp2_with fail
              go_roundw
            all_goals first | exact ⟨k + 1, by omega, by go_num, below_step hb hb6 hsz, below_step hbw hb6 hbw.size⟩ | (simp [intOf]; omega)
          · obtain rfl : k = 2 := by omega
            clear hcell1
            go_wp2_with fail
            go_ret
            exact ⟨rfl, hb⟩


/-! ### THE ROW's STEP -/
set_option maxRecDepth 100000 in
theorem lifted (os : Os) (started : os.Started) (H : Type) (enc : TypeId × Value → H) :
    ReturnsInHanded {} Try.checked os 5 .any (Rows.fnLogOpenSpec.pre6 enc Try.prog Try.f5 Rows.fnLogOpenRow.domain false) (Rows.fnLogOpenSpec.post enc Try.prog Try.f5 false true false false) := by
  refine returnsInHanded_of_change (C := Try.checked) own started (by kernel_rfl) Try.func5
    (ChangeSpec.witness6 (enc := enc) (C := Try.checked) false ⟨#[], #[.slice none 0 0], []⟩ 8 (by kernel_rfl) (by kernel_rfl) (by kernel_rfl) (by kernel_rfl)) ?_
  intro W base args ds gs before hval0 hW hcnd _
  have hval : ∀ (j : Nat) t v, Try.f5.params[j]? = some t → args[j]? = some v → Value.okWide Try.prog W .any base t v := hval0
  have hW' := hW
  obtain ⟨p, q, hA0, hV, rfl, hfz, hnd⟩ := hW
  have hA : DataW.TrodAll enc Try.prog W 0 (fun _ => true) true Try.f5.params.toList args.toList ds p := hA0
  rw [Try.params5] at hA hval
  obtain ⟨v0, vs0, d0, ds0, p0, q0, hargs, rfl, rfl, h0, r0⟩ := trodAll_cons hA
  obtain ⟨rfl, rfl, rfl⟩ := trodAll_nil r0
  obtain rfl : args = #[v0] := by cases args; simp_all
  obtain ⟨rfl, rfl⟩ := trodVars_none hV
  obtain ⟨n0, b0⟩ := bytes_in (hval 0 _ v0 rfl rfl) h0
  have lt0 := lt_in h0
  clear hA0 hval0
  refine (walk_at W v0 n0 b0).mono fun e W' ⟨he, bel⟩ => ?_
  subst he
  exact ⟨_, rfl, _, _, _, [], _, [], hW', trodAll_mk1 (shut_bool Try.underlying4 _), (trodAll_cons_mk (Below.trod laidOut (by kernel_rfl) (of_decide_eq_true (by kernel_rfl)) h0 bel lt0) trodAll_mk0), rfl, bel.frame _, fun h => by cases h⟩

set_option maxRecDepth 100000 in
theorem closed : joinedFacts Try.prog 5 Try.f5 Rows.fnLogOpenSpec Rows.fnLogOpenRow = true := by
  unfold joinedFacts
  rw [may, lifts, mk]
  kernel_rfl
theorem over : Rows.fnLogOpenRow.holds Try.pinned (OpenSpec.ofChange Rows.fnLogOpenSpec) :=
  OpenClaim.holds_of_wide 5 Try.f5 rfl rfl rfl rfl rfl rfl rfl ⟨rfl, rfl, rfl, rfl, rfl⟩ rfl rfl rfl rfl rfl (by as_aux_lemma => kernel_rfl) Try.func5 closed
    (of_decide_eq_true (by as_aux_lemma => kernel_rfl)) (by unfold Func.isWrapper; rw [if_neg (of_decide_eq_false (by as_aux_lemma => kernel_rfl))]; exact ⟨rfl, rfl⟩)
    (fun os started H enc _ => lifted os started H enc)

/-- THE STATEMENT -/
theorem proved : Rows.FnLogOpenSaid := over
end Go.Proofs.Ythehnpkjnilgiaa.fnLogOpen
