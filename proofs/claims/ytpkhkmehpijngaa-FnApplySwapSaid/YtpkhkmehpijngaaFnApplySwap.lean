/-
  For every input the law FnApplySwap returns true, and what it was given reads afterwards as before. No condition beyond the row's own.
-/
import Derived.Test.YtpkhkmehpijngaaFrameP
import Derived.Test.YtpkhkmehpijngaaDrawA
import Derived.Test.YtpkhkmehpijngaaPlainA
import Derived.Test.YtpkhkmehpijngaaGetJ
import Derived.Deep.DeepCutAuto
import Derived.Deep.QuietTactic
import Derived.BigQuiet
namespace Go.Proofs.Ytpkhkmehpijngaa.fnApplySwap
open Go.ChangeShapes Go.WideShapes Go.ChangeAt Go.RowKit
open Go.ChangeMaps (open_string shut_string)
set_option linter.unusedVariables false
theorem swap_is {ps zs : List (ByteArray × Int)} {key : ByteArray} {val exp m : Int} {zb r : Bool} (hs : Good ps) (hp : applyP ps 3 key val exp = (zs, zb)) (hf : findP ps key = (m, r)) : zb = (r && (m == exp && (decide (1 ≤ val) && decide (val ≤ 99)))) := by
  have h1 := apply_ok ps 3 key val exp
  rw [hp, hf] at h1
  replace h1 : zb = outB 3 key val exp (m, r) := h1
  rw [h1]
  unfold outB
  cases r
  · split
    · rw [if_neg (by decide), if_neg (by decide)]
      exact decide_eq_false fun h => by cases (Prod.mk.inj h.2.2).2
    · rfl
  · rw [if_pos (find_good hs hf).1, if_neg (by decide), if_neg (by decide)]
    have hv : isV val = (decide (1 ≤ val) && decide (val ≤ 99)) := rfl
    rw [hv]
    by_cases e : m = exp
    · subst e
      by_cases a : 1 ≤ val <;> by_cases b : val ≤ 99 <;> simp [a, b]
    · have eb : (m == exp) = false := by simpa using e
      rw [eb]
      exact decide_eq_false fun h => e (Prod.mk.inj h.2.2).1

set_option maxRecDepth 100000 in
set_option maxHeartbeats 8000000 in
theorem walk_at (w : World) (v0 : Value) (n0 : Nat) (b0 : Bytes w 0 w.heap.size v0 n0) :
    Calls Try.prog 7 #[v0] w fun e w' => e = .returned (.bool true) ∧ Below w.heap.size w w' := by
  obtain ⟨a0, c0, hv0, hn0, hx0⟩ := b0.open
  clear hx0
  subst hv0
  by_cases big0 : n0 ≤ 1048576
  case neg =>
    go_enter Try.func7, Try.ntmps7
    go_wp2_with fail
    go_ret
    exact ⟨rfl, Below.refl _ _⟩
  go_enter Try.func7, Try.ntmps7
  go_wp2_with fail
  have HB : Below w.heap.size w w := Below.refl _ _
  refine (DrawStoreApply_any _ n0 _ b0).mono ?_
  rintro e w1 ⟨sv, ps, op, key, val, exp, rfl, o, hlen, hk1, hb1⟩
  have hs1 := hb1.size
  replace b0 := b0.below hb1
  replace HB := below_step HB hb1 HB.size
  clear hb1
  obtain ⟨ao, co, hvo⟩ := o.form
  subst hvo
  have HL := Lib.hid (Nat.le_trans hlen (show 5 ≤ 1048576 by decide))
  have HK1 := Lib.hid (show key.size ≤ maxLen by unfold maxLen; omega)
  clear hlen hk1
  obtain ⟨zs, zb, hz⟩ : ∃ zs zb, applyS ps op key val exp = (zs, zb) := ⟨_, _, rfl⟩
  have HZ := Lib.hid hz; clear hz
  have hbb : (zb != zb) = false := by cases zb <;> rfl
  have hbe : (zb == zb) = true := by cases zb <;> rfl
  have hb2 : Below w1.heap.size w1 (w1.alloc (.cells #[.int .i64 op, .string key, .int .i64 val, .int .i64 exp] 25)) := (Below.refl _ _).alloc (Nat.le_refl _) _
  have hs2 := hb2.size
  replace b0 := b0.below hb2
  replace o := o.below hb2
  replace HB := below_step HB hb2 HB.size
  have kC := Blk.new w1 #[.int .i64 op, .string key, .int .i64 val, .int .i64 exp] 25
  have hl2 := kC.lt
  clear hb2
  have q57_kC0 := kC.cell 0 rfl
  have q58_kC1 := kC.cell 1 rfl
  have q59_kC2 := kC.cell 2 rfl
  have q60_kC3 := kC.cell 3 rfl
  as_aux_lemma =>
   go_wp2_with fail
   generalize w1.alloc (.cells #[.int .i64 op, .string key, .int .i64 val, .int .i64 exp] 25) = w2 at *
   generalize w1.heap.size = B2 at *
   clear q57_kC0 q58_kC1 q59_kC2 q60_kC3
   refine (specApply_eq _ ps op key val exp _ _ _ o.prs HL.out HZ.out).mono ?_
   rintro e w3 ⟨vow, rfl, ow, hb3⟩
   have hs3 := hb3.size
   replace b0 := b0.below hb3
   replace o := o.below hb3
   replace kC := kC.below hb3
   replace HB := below_step HB hb3 HB.size
   clear hb3
   obtain ⟨aow, cow, hvow⟩ := ow.form
   subst hvow
   have q61_kC0 := kC.cell 0 rfl
   have q62_kC1 := kC.cell 1 rfl
   have q63_kC2 := kC.cell 2 rfl
   have q64_kC3 := kC.cell 3 rfl
   as_aux_lemma =>
    go_wp2_with fail
    clear q61_kC0 q62_kC1 q63_kC2 q64_kC3
    refine (implApply_eq _ ps op key val exp _ _ _ o.prs HL.out HK1.out HZ.out).mono ?_
    rintro e w4 ⟨vox, rfl, ox, hb4⟩
    have hs4 := hb4.size
    replace b0 := b0.below hb4
    replace o := o.below hb4
    replace ow := ow.below hb4
    replace kC := kC.below hb4
    replace HB := below_step HB hb4 HB.size
    clear hb4
    obtain ⟨aox, cox, hvox⟩ := ox.form
    subst hvox
    have q65_kC0 := kC.cell 0 rfl
    have q66_kC1 := kC.cell 1 rfl
    have q67_kC2 := kC.cell 2 rfl
    have q68_kC3 := kC.cell 3 rfl
    as_aux_lemma =>
     go_wp2_with fail
     clear q65_kC0 q66_kC1 q67_kC2 q68_kC3
     refine (samePairs_same _ _ zs _ ox.prs ow.prs).mono ?_
     rintro e w5 ⟨rfl, hw5⟩
     have hb5 := drawn_below hw5
     have hs5 := hb5.size
     replace b0 := b0.below hb5
     replace o := o.below hb5
     replace ow := ow.below hb5
     replace ox := ox.below hb5
     replace kC := kC.below hb5
     replace HB := below_step HB hb5 HB.size
     clear hb5 hw5
     have q69_kC0 := kC.cell 0 rfl
     have q70_kC1 := kC.cell 1 rfl
     have q71_kC2 := kC.cell 2 rfl
     have q72_kC3 := kC.cell 3 rfl
     as_aux_lemma =>
      go_wp2_with fail
      cases hv : storeOk ps
      · have HV := Lib.hid hv; clear hv
        clear q69_kC0 q70_kC1 q71_kC2 q72_kC3
        refine (specStoreValid_any _ ps _ o.prs false HV.out).mono ?_
        rintro e w6 ⟨rfl, hw6⟩
        have hb6 := drawn_below hw6
        have hs6 := hb6.size
        replace b0 := b0.below hb6
        replace o := o.below hb6
        replace ow := ow.below hb6
        replace ox := ox.below hb6
        replace kC := kC.below hb6
        replace HB := below_step HB hb6 HB.size
        clear hb6 hw6
        have q73_kC0 := kC.cell 0 rfl
        have q74_kC1 := kC.cell 1 rfl
        have q75_kC2 := kC.cell 2 rfl
        have q76_kC3 := kC.cell 3 rfl
        as_aux_lemma =>
         go_wp2_with fail
         clear q73_kC0 q74_kC1 q75_kC2 q76_kC3
         refine (samePairs_same _ _ zs _ ox.prs ow.prs).mono ?_
         rintro e w7 ⟨rfl, hw7⟩
         have hb7 := drawn_below hw7
         have hs7 := hb7.size
         replace b0 := b0.below hb7
         replace o := o.below hb7
         replace ow := ow.below hb7
         replace ox := ox.below hb7
         replace kC := kC.below hb7
         replace HB := below_step HB hb7 HB.size
         clear hb7 hw7
         have q77_kC0 := kC.cell 0 rfl
         have q78_kC1 := kC.cell 1 rfl
         have q79_kC2 := kC.cell 2 rfl
         have q80_kC3 := kC.cell 3 rfl
         as_aux_lemma =>
          go_wp2_with fail
          go_ret
          exact ⟨rfl, HB⟩
      · have HV := Lib.hid hv
        have HG := Lib.hid (good_of hv); clear hv
        have HP : Hid (applyP ps op key val exp = (zs, zb)) := Lib.hid (by rw [← applyS_good HG.out]; exact HZ.out)
        have HGZ : Hid (Good zs) := Lib.hid (by have := good_apply HG.out op key val exp; rw [HP.out] at this; exact this)
        have HZL := Lib.hid (Nat.le_trans (good_len HGZ.out) (show 6 ≤ 1048576 by decide))
        clear hbb hbe
        clear q69_kC0 q70_kC1 q71_kC2 q72_kC3
        refine (specStoreValid_any _ ps _ o.prs true HV.out).mono ?_
        rintro e w6 ⟨rfl, hw6⟩
        have hb6 := drawn_below hw6
        have hs6 := hb6.size
        replace b0 := b0.below hb6
        replace o := o.below hb6
        replace ow := ow.below hb6
        replace ox := ox.below hb6
        replace kC := kC.below hb6
        replace HB := below_step HB hb6 HB.size
        clear hb6 hw6
        by_cases h3 : op = 3
        · subst h3
          obtain ⟨m, r, hf⟩ : ∃ m r, findP ps key = (m, r) := ⟨_, _, rfl⟩
          have HE := Lib.hid (show getP ps key = (m, r) by rw [getP_good HG.out, hf])
          have hzb : zb = (r && (m == exp && (decide (1 ≤ val) && decide (val ≤ 99)))) := swap_is HG.out HP.out hf
          clear hf
          have q81_kC0 := kC.cell 0 rfl
          have q82_kC1 := kC.cell 1 rfl
          have q83_kC2 := kC.cell 2 rfl
          have q84_kC3 := kC.cell 3 rfl
          as_aux_lemma =>
           go_wp2_with fail
           clear q81_kC0 q82_kC1 q83_kC2 q84_kC3
           refine (implStoreGet_any _ ps key _ o.prs HL.out HK1.out m r HE.out).mono ?_
           rintro e w7 ⟨rfl, hb7⟩
           have hs7 := hb7.size
           replace b0 := b0.below hb7
           replace o := o.below hb7
           replace ow := ow.below hb7
           replace ox := ox.below hb7
           replace kC := kC.below hb7
           replace HB := below_step HB hb7 HB.size
           clear hb7
           cases r
           · replace hzb : zb = false := hzb
             subst hzb
             have q85_kC0 := kC.cell 0 rfl
             have q86_kC1 := kC.cell 1 rfl
             have q87_kC2 := kC.cell 2 rfl
             have q88_kC3 := kC.cell 3 rfl
             as_aux_lemma =>
              go_wp2_with fail
              go_ret
              exact ⟨rfl, HB⟩
           · by_cases hm : m = exp
             · subst hm
               have hmm : (m == m) = true := by simp
               rw [hmm] at hzb
               by_cases h1 : 1 ≤ val
               · by_cases h2 : val ≤ 99
                 · replace hzb : zb = true := by rw [hzb]; simp [h1, h2]
                   subst hzb
                   have q89_kC0 := kC.cell 0 rfl
                   have q90_kC1 := kC.cell 1 rfl
                   have q91_kC2 := kC.cell 2 rfl
                   have q92_kC3 := kC.cell 3 rfl
                   as_aux_lemma =>
                    go_wp2_with fail
                    go_ret
                    exact ⟨rfl, HB⟩
                 · replace hzb : zb = false := by rw [hzb]; simp [h1, h2]
                   subst hzb
                   have q93_kC0 := kC.cell 0 rfl
                   have q94_kC1 := kC.cell 1 rfl
                   have q95_kC2 := kC.cell 2 rfl
                   have q96_kC3 := kC.cell 3 rfl
                   as_aux_lemma =>
                    go_wp2_with fail
                    go_ret
                    exact ⟨rfl, HB⟩
               · replace hzb : zb = false := by rw [hzb]; simp [h1]
                 subst hzb
                 have q97_kC0 := kC.cell 0 rfl
                 have q98_kC1 := kC.cell 1 rfl
                 have q99_kC2 := kC.cell 2 rfl
                 have q100_kC3 := kC.cell 3 rfl
                 as_aux_lemma =>
                  go_wp2_with fail
                  go_ret
                  exact ⟨rfl, HB⟩
             · have hmb : (m == exp) = false := by simpa using hm
               rw [hmb] at hzb
               replace hzb : zb = false := hzb
               subst hzb
               clear hm
               have q101_kC0 := kC.cell 0 rfl
               have q102_kC1 := kC.cell 1 rfl
               have q103_kC2 := kC.cell 2 rfl
               have q104_kC3 := kC.cell 3 rfl
               as_aux_lemma =>
                go_wp2_with fail
                go_ret
                exact ⟨rfl, HB⟩
        · have h3b : (op != 3) = true := by simpa using h3
          clear h3
          have q105_kC0 := kC.cell 0 rfl
          have q106_kC1 := kC.cell 1 rfl
          have q107_kC2 := kC.cell 2 rfl
          have q108_kC3 := kC.cell 3 rfl
          as_aux_lemma =>
           go_wp2_with fail
           clear q105_kC0 q106_kC1 q107_kC2 q108_kC3
           refine (implStoreValid_any _ zs _ ox.prs HZL.out true (ok_of HGZ.out)).mono ?_
           rintro e w7 ⟨rfl, hb7⟩
           have hs7 := hb7.size
           replace b0 := b0.below hb7
           replace o := o.below hb7
           replace ow := ow.below hb7
           replace ox := ox.below hb7
           replace kC := kC.below hb7
           replace HB := below_step HB hb7 HB.size
           clear hb7
           have q109_kC0 := kC.cell 0 rfl
           have q110_kC1 := kC.cell 1 rfl
           have q111_kC2 := kC.cell 2 rfl
           have q112_kC3 := kC.cell 3 rfl
           as_aux_lemma =>
            go_wp2_with fail
            go_ret
            exact ⟨rfl, HB⟩

/-! ### THE ROW's STEP -/
set_option maxRecDepth 100000 in
theorem lifted (os : Os) (started : os.Started) (H : Type) (enc : TypeId × Value → H) :
    ReturnsInHanded {} Try.checked os 7 .any (Rows.fnApplySwapSpec.pre6 enc Try.prog Try.f7 Rows.fnApplySwapRow.domain false) (Rows.fnApplySwapSpec.post enc Try.prog Try.f7 false true false false) := by
  refine returnsInHanded_of_change (C := Try.checked) own started (by kernel_rfl) Try.func7
    (ChangeSpec.witness6 (enc := enc) (C := Try.checked) false ⟨#[], #[.slice none 0 0], []⟩ 8 (by kernel_rfl) (by kernel_rfl) (by kernel_rfl) (by kernel_rfl)) ?_
  intro W base args ds gs before hval0 hW hcnd _
  have hval : ∀ (j : Nat) t v, Try.f7.params[j]? = some t → args[j]? = some v → Value.okWide Try.prog W .any base t v := hval0
  have hW' := hW
  obtain ⟨p, q, hA0, hV, rfl, hfz, hnd⟩ := hW
  have hA : DataW.TrodAll enc Try.prog W 0 (fun _ => true) true Try.f7.params.toList args.toList ds p := hA0
  rw [Try.params7] at hA hval
  obtain ⟨v0, vs0, d0, ds0, p0, q0, hargs, rfl, rfl, h0, r0⟩ := trodAll_cons hA
  obtain ⟨rfl, rfl, rfl⟩ := trodAll_nil r0
  obtain rfl : args = #[v0] := by cases args; simp_all
  obtain ⟨rfl, rfl⟩ := trodVars_none hV
  obtain ⟨n0, b0⟩ := bytes_in (hval 0 _ v0 rfl rfl) h0
  have lt0 := lt_in h0
  clear hA0 hval0
  refine (walk_at W v0 n0 b0).mono fun e W' ⟨he, bel⟩ => ?_
  subst he
  exact ⟨_, rfl, _, _, _, [], _, [], hW', trodAll_mk1 (shut_bool Try.underlying4 _), (trodAll_cons_mk (Below.trod laidOut (by kernel_rfl) (of_decide_eq_true (by kernel_rfl)) h0 bel lt0) trodAll_mk0), rfl, bel.frame _, fun h => by cases h⟩

set_option maxRecDepth 100000 in
theorem closed : joinedFacts Try.prog 7 Try.f7 Rows.fnApplySwapSpec Rows.fnApplySwapRow = true := by
  unfold joinedFacts
  rw [may, lifts, mk]
  kernel_rfl
theorem over : Rows.fnApplySwapRow.holds Try.pinned (OpenSpec.ofChange Rows.fnApplySwapSpec) :=
  OpenClaim.holds_of_wide 7 Try.f7 rfl rfl rfl rfl rfl rfl rfl ⟨rfl, rfl, rfl, rfl, rfl⟩ rfl rfl rfl rfl rfl (by as_aux_lemma => kernel_rfl) Try.func7 closed
    (of_decide_eq_true (by as_aux_lemma => kernel_rfl)) (by unfold Func.isWrapper; rw [if_neg (of_decide_eq_false (by as_aux_lemma => kernel_rfl))]; exact ⟨rfl, rfl⟩)
    (fun os started H enc _ => lifted os started H enc)

/-- THE STATEMENT -/
theorem proved : Rows.FnApplySwapSaid := over
end Go.Proofs.Ytpkhkmehpijngaa.fnApplySwap
