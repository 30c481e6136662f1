/-
  For every input the law FnApplyPut returns true, and what it was given reads afterwards as before. No condition beyond the row's own.
-/
import Derived.Test.YtpkhkmehpijngaaFrameP
import Derived.Test.YtpkhkmehpijngaaDrawA
import Derived.Test.YtpkhkmehpijngaaPlainA
import Derived.Test.YtpkhkmehpijngaaGetJ
import Derived.Deep.DeepCutAuto
import Derived.Deep.QuietTactic
import Derived.BigQuiet
namespace Go.Proofs.Ytpkhkmehpijngaa.fnApplyPut
open Go.ChangeShapes Go.WideShapes Go.ChangeAt Go.RowKit
open Go.ChangeMaps (open_string shut_string)
set_option linter.unusedVariables false
theorem put_get {ps zs : List (ByteArray × Int)} {op : Int} {key : ByteArray} {val exp : Int} (hs : Good ps) (hp : applyP ps op key val exp = (zs, true)) (h2 : ¬ op = 2) :
    findP zs key = (val, true) ∧ ∀ k : ByteArray, ¬ k.toList = key.toList → findP ps k = findP zs k := by
  have h1 := apply_ok ps op key val exp
  rw [hp] at h1
  replace h1 : true = outB op key val exp (findP ps key) := h1
  refine ⟨?_, fun k e => ?_⟩
  · have := apply_find hs op key val exp key
    rw [hp, if_pos rfl] at this
    rw [this]
    unfold outB at h1
    unfold outF
    by_cases hk : isK key = true
    · rw [if_pos hk] at h1 ⊢
      by_cases e1 : op = 1
      · rw [if_pos e1] at h1 ⊢
        rw [if_pos h1.symm]
      · rw [if_neg e1, if_neg h2] at h1 ⊢
        rw [if_pos (of_decide_eq_true h1.symm)]
    · rw [if_neg hk] at h1
      cases h1
  · have := apply_find hs op key val exp k
    rw [hp, if_neg e] at this
    exact this.symm

set_option maxRecDepth 100000 in
set_option maxHeartbeats 8000000 in
theorem walk_at (w : World) (v0 : Value) (n0 : Nat) (b0 : Bytes w 0 w.heap.size v0 n0) :
    Calls Try.prog 11 #[v0] w fun e w' => e = .returned (.bool true) ∧ Below w.heap.size w w' := by
  obtain ⟨a0, c0, hv0, hn0, hx0⟩ := b0.open
  clear hx0
  subst hv0
  by_cases big0 : n0 ≤ 1048576
  case neg =>
    go_enter Try.func11, Try.ntmps11
    go_wp2_with fail
    go_ret
    exact ⟨rfl, Below.refl _ _⟩
  go_enter Try.func11, Try.ntmps11
  go_wp2_with fail
  have HB : Below w.heap.size w w := Below.refl _ _
  refine (DrawStoreApply_any _ n0 _ b0).mono ?_
  rintro e w1 ⟨sv, ps, op, key, val, exp, rfl, o, hlen, hk1, hb1⟩
  have hs1 := hb1.size
  replace b0 := b0.below hb1
  replace HB := below_step HB hb1 HB.size
  clear hb1
  obtain ⟨ao, co, hvo⟩ := o.form
  subst hvo
  have HL := Lib.hid (Nat.le_trans hlen (show 5 ≤ 1048576 by decide))
  have HK1 := Lib.hid (show key.size ≤ maxLen by unfold maxLen; omega)
  clear hlen hk1
  obtain ⟨zs, zb, hz⟩ : ∃ zs zb, applyS ps op key val exp = (zs, zb) := ⟨_, _, rfl⟩
  have HZ := Lib.hid hz; clear hz
  have hbb : (zb != zb) = false := by cases zb <;> rfl
  have hbe : (zb == zb) = true := by cases zb <;> rfl
  have hb2 : Below w1.heap.size w1 (w1.alloc (.cells #[.int .i64 op, .string key, .int .i64 val, .int .i64 exp] 25)) := (Below.refl _ _).alloc (Nat.le_refl _) _
  have hs2 := hb2.size
  replace b0 := b0.below hb2
  replace o := o.below hb2
  replace HB := below_step HB hb2 HB.size
  have kC := Blk.new w1 #[.int .i64 op, .string key, .int .i64 val, .int .i64 exp] 25
  have hl2 := kC.lt
  clear hb2
  have q145_kC0 := kC.cell 0 rfl
  have q146_kC1 := kC.cell 1 rfl
  have q147_kC2 := kC.cell 2 rfl
  have q148_kC3 := kC.cell 3 rfl
  as_aux_lemma =>
   go_wp2_with fail
   generalize w1.alloc (.cells #[.int .i64 op, .string key, .int .i64 val, .int .i64 exp] 25) = w2 at *
   generalize w1.heap.size = B2 at *
   clear q145_kC0 q146_kC1 q147_kC2 q148_kC3
   refine (specApply_eq _ ps op key val exp _ _ _ o.prs HL.out HZ.out).mono ?_
   rintro e w3 ⟨vow, rfl, ow, hb3⟩
   have hs3 := hb3.size
   replace b0 := b0.below hb3
   replace o := o.below hb3
   replace kC := kC.below hb3
   replace HB := below_step HB hb3 HB.size
   clear hb3
   obtain ⟨aow, cow, hvow⟩ := ow.form
   subst hvow
   have q149_kC0 := kC.cell 0 rfl
   have q150_kC1 := kC.cell 1 rfl
   have q151_kC2 := kC.cell 2 rfl
   have q152_kC3 := kC.cell 3 rfl
   as_aux_lemma =>
    go_wp2_with fail
    clear q149_kC0 q150_kC1 q151_kC2 q152_kC3
    refine (implApply_eq _ ps op key val exp _ _ _ o.prs HL.out HK1.out HZ.out).mono ?_
    rintro e w4 ⟨vox, rfl, ox, hb4⟩
    have hs4 := hb4.size
    replace b0 := b0.below hb4
    replace o := o.below hb4
    replace ow := ow.below hb4
    replace kC := kC.below hb4
    replace HB := below_step HB hb4 HB.size
    clear hb4
    obtain ⟨aox, cox, hvox⟩ := ox.form
    subst hvox
    have q153_kC0 := kC.cell 0 rfl
    have q154_kC1 := kC.cell 1 rfl
    have q155_kC2 := kC.cell 2 rfl
    have q156_kC3 := kC.cell 3 rfl
    as_aux_lemma =>
     go_wp2_with fail
     clear q153_kC0 q154_kC1 q155_kC2 q156_kC3
     refine (samePairs_same _ _ zs _ ox.prs ow.prs).mono ?_
     rintro e w5 ⟨rfl, hw5⟩
     have hb5 := drawn_below hw5
     have hs5 := hb5.size
     replace b0 := b0.below hb5
     replace o := o.below hb5
     replace ow := ow.below hb5
     replace ox := ox.below hb5
     replace kC := kC.below hb5
     replace HB := below_step HB hb5 HB.size
     clear hb5 hw5
     have q157_kC0 := kC.cell 0 rfl
     have q158_kC1 := kC.cell 1 rfl
     have q159_kC2 := kC.cell 2 rfl
     have q160_kC3 := kC.cell 3 rfl
     as_aux_lemma =>
      go_wp2_with fail
      cases hv : storeOk ps
      · have HV := Lib.hid hv; clear hv
        clear q157_kC0 q158_kC1 q159_kC2 q160_kC3
        refine (specStoreValid_any _ ps _ o.prs false HV.out).mono ?_
        rintro e w6 ⟨rfl, hw6⟩
        have hb6 := drawn_below hw6
        have hs6 := hb6.size
        replace b0 := b0.below hb6
        replace o := o.below hb6
        replace ow := ow.below hb6
        replace ox := ox.below hb6
        replace kC := kC.below hb6
        replace HB := below_step HB hb6 HB.size
        clear hb6 hw6
        have q161_kC0 := kC.cell 0 rfl
        have q162_kC1 := kC.cell 1 rfl
        have q163_kC2 := kC.cell 2 rfl
        have q164_kC3 := kC.cell 3 rfl
        as_aux_lemma =>
         go_wp2_with fail
         clear q161_kC0 q162_kC1 q163_kC2 q164_kC3
         refine (samePairs_same _ _ zs _ ox.prs ow.prs).mono ?_
         rintro e w7 ⟨rfl, hw7⟩
         have hb7 := drawn_below hw7
         have hs7 := hb7.size
         replace b0 := b0.below hb7
         replace o := o.below hb7
         replace ow := ow.below hb7
         replace ox := ox.below hb7
         replace kC := kC.below hb7
         replace HB := below_step HB hb7 HB.size
         clear hb7 hw7
         have q165_kC0 := kC.cell 0 rfl
         have q166_kC1 := kC.cell 1 rfl
         have q167_kC2 := kC.cell 2 rfl
         have q168_kC3 := kC.cell 3 rfl
         as_aux_lemma =>
          go_wp2_with fail
          go_ret
          exact ⟨rfl, HB⟩
      · have HV := Lib.hid hv
        have HG := Lib.hid (good_of hv); clear hv
        have HP : Hid (applyP ps op key val exp = (zs, zb)) := Lib.hid (by rw [← applyS_good HG.out]; exact HZ.out)
        have HGZ : Hid (Good zs) := Lib.hid (by have := good_apply HG.out op key val exp; rw [HP.out] at this; exact this)
        have HZL := Lib.hid (Nat.le_trans (good_len HGZ.out) (show 6 ≤ 1048576 by decide))
        clear hbb hbe
        clear q157_kC0 q158_kC1 q159_kC2 q160_kC3
        refine (specStoreValid_any _ ps _ o.prs true HV.out).mono ?_
        rintro e w6 ⟨rfl, hw6⟩
        have hb6 := drawn_below hw6
        have hs6 := hb6.size
        replace b0 := b0.below hb6
        replace o := o.below hb6
        replace ow := ow.below hb6
        replace ox := ox.below hb6
        replace kC := kC.below hb6
        replace HB := below_step HB hb6 HB.size
        clear hb6 hw6
        cases zb
        · have q169_kC0 := kC.cell 0 rfl
          have q170_kC1 := kC.cell 1 rfl
          have q171_kC2 := kC.cell 2 rfl
          have q172_kC3 := kC.cell 3 rfl
          as_aux_lemma =>
           go_wp2_with fail
           clear q169_kC0 q170_kC1 q171_kC2 q172_kC3
           refine (implStoreValid_any _ zs _ ox.prs HZL.out true (ok_of HGZ.out)).mono ?_
           rintro e w7 ⟨rfl, hb7⟩
           have hs7 := hb7.size
           replace b0 := b0.below hb7
           replace o := o.below hb7
           replace ow := ow.below hb7
           replace ox := ox.below hb7
           replace kC := kC.below hb7
           replace HB := below_step HB hb7 HB.size
           clear hb7
           have q173_kC0 := kC.cell 0 rfl
           have q174_kC1 := kC.cell 1 rfl
           have q175_kC2 := kC.cell 2 rfl
           have q176_kC3 := kC.cell 3 rfl
           as_aux_lemma =>
            go_wp2_with fail
            go_ret
            exact ⟨rfl, HB⟩
        · by_cases h2 : op = 2
          · subst h2
            have q177_kC0 := kC.cell 0 rfl
            have q178_kC1 := kC.cell 1 rfl
            have q179_kC2 := kC.cell 2 rfl
            have q180_kC3 := kC.cell 3 rfl
            as_aux_lemma =>
             go_wp2_with fail
             clear q177_kC0 q178_kC1 q179_kC2 q180_kC3
             refine (implStoreValid_any _ zs _ ox.prs HZL.out true (ok_of HGZ.out)).mono ?_
             rintro e w7 ⟨rfl, hb7⟩
             have hs7 := hb7.size
             replace b0 := b0.below hb7
             replace o := o.below hb7
             replace ow := ow.below hb7
             replace ox := ox.below hb7
             replace kC := kC.below hb7
             replace HB := below_step HB hb7 HB.size
             clear hb7
             have q181_kC0 := kC.cell 0 rfl
             have q182_kC1 := kC.cell 1 rfl
             have q183_kC2 := kC.cell 2 rfl
             have q184_kC3 := kC.cell 3 rfl
             as_aux_lemma =>
              go_wp2_with fail
              go_ret
              exact ⟨rfl, HB⟩
          · have h2b : (op == 2) = false := by simpa using h2
            obtain ⟨hfz, hex⟩ := put_get HG.out HP.out h2
            have HZE := Lib.hid (show getP zs key = (val, true) by rw [getP_good HGZ.out, hfz])
            have HEX := Lib.hid hex
            have hvv : (val == val) = true := by simp
            clear h2 hfz hex
            have q185_kC0 := kC.cell 0 rfl
            have q186_kC1 := kC.cell 1 rfl
            have q187_kC2 := kC.cell 2 rfl
            have q188_kC3 := kC.cell 3 rfl
            as_aux_lemma =>
             go_wp2_with fail
             clear q185_kC0 q186_kC1 q187_kC2 q188_kC3
             refine (implStoreGet_any _ zs key _ ox.prs HZL.out HK1.out val true HZE.out).mono ?_
             rintro e w7 ⟨rfl, hb7⟩
             have hs7 := hb7.size
             replace b0 := b0.below hb7
             replace o := o.below hb7
             replace ow := ow.below hb7
             replace ox := ox.below hb7
             replace kC := kC.below hb7
             replace HB := below_step HB hb7 HB.size
             clear hb7
             have q189_kC0 := kC.cell 0 rfl
             have q190_kC1 := kC.cell 1 rfl
             have q191_kC2 := kC.cell 2 rfl
             have q192_kC3 := kC.cell 3 rfl
             as_aux_lemma =>
              go_wp2_with fail
              clear q189_kC0 q190_kC1 q191_kC2 q192_kC3
              refine (sameExcept_any _ _ ps zs key _ o.prs ox.prs HG.out HGZ.out HEX.out).mono ?_
              rintro e w8 ⟨rfl, hb8⟩
              have hs8 := hb8.size
              replace b0 := b0.below hb8
              replace o := o.below hb8
              replace ow := ow.below hb8
              replace ox := ox.below hb8
              replace kC := kC.below hb8
              replace HB := below_step HB hb8 HB.size
              clear hb8
              have q193_kC0 := kC.cell 0 rfl
              have q194_kC1 := kC.cell 1 rfl
              have q195_kC2 := kC.cell 2 rfl
              have q196_kC3 := kC.cell 3 rfl
              as_aux_lemma =>
               go_wp2_with fail
               clear q193_kC0 q194_kC1 q195_kC2 q196_kC3
               refine (implStoreValid_any _ zs _ ox.prs HZL.out true (ok_of HGZ.out)).mono ?_
               rintro e w9 ⟨rfl, hb9⟩
               have hs9 := hb9.size
               replace b0 := b0.below hb9
               replace o := o.below hb9
               replace ow := ow.below hb9
               replace ox := ox.below hb9
               replace kC := kC.below hb9
               replace HB := below_step HB hb9 HB.size
               clear hb9
               have q197_kC0 := kC.cell 0 rfl
               have q198_kC1 := kC.cell 1 rfl
               have q199_kC2 := kC.cell 2 rfl
               have q200_kC3 := kC.cell 3 rfl
               as_aux_lemma =>
                go_wp2_with fail
                go_ret
                exact ⟨rfl, HB⟩

/-! ### THE ROW's STEP -/
set_option maxRecDepth 100000 in
theorem lifted (os : Os) (started : os.Started) (H : Type) (enc : TypeId × Value → H) :
    ReturnsInHanded {} Try.checked os 11 .any (Rows.fnApplyPutSpec.pre6 enc Try.prog Try.f11 Rows.fnApplyPutRow.domain false) (Rows.fnApplyPutSpec.post enc Try.prog Try.f11 false true false false) := by
  refine returnsInHanded_of_change (C := Try.checked) own started (by kernel_rfl) Try.func11
    (ChangeSpec.witness6 (enc := enc) (C := Try.checked) false ⟨#[], #[.slice none 0 0], []⟩ 8 (by kernel_rfl) (by kernel_rfl) (by kernel_rfl) (by kernel_rfl)) ?_
  intro W base args ds gs before hval0 hW hcnd _
  have hval : ∀ (j : Nat) t v, Try.f11.params[j]? = some t → args[j]? = some v → Value.okWide Try.prog W .any base t v := hval0
  have hW' := hW
  obtain ⟨p, q, hA0, hV, rfl, hfz, hnd⟩ := hW
  have hA : DataW.TrodAll enc Try.prog W 0 (fun _ => true) true Try.f11.params.toList args.toList ds p := hA0
  rw [Try.params11] at hA hval
  obtain ⟨v0, vs0, d0, ds0, p0, q0, hargs, rfl, rfl, h0, r0⟩ := trodAll_cons hA
  obtain ⟨rfl, rfl, rfl⟩ := trodAll_nil r0
  obtain rfl : args = #[v0] := by cases args; simp_all
  obtain ⟨rfl, rfl⟩ := trodVars_none hV
  obtain ⟨n0, b0⟩ := bytes_in (hval 0 _ v0 rfl rfl) h0
  have lt0 := lt_in h0
  clear hA0 hval0
  refine (walk_at W v0 n0 b0).mono fun e W' ⟨he, bel⟩ => ?_
  subst he
  exact ⟨_, rfl, _, _, _, [], _, [], hW', trodAll_mk1 (shut_bool Try.underlying4 _), (trodAll_cons_mk (Below.trod laidOut (by kernel_rfl) (of_decide_eq_true (by kernel_rfl)) h0 bel lt0) trodAll_mk0), rfl, bel.frame _, fun h => by cases h⟩

set_option maxRecDepth 100000 in
theorem closed : joinedFacts Try.prog 11 Try.f11 Rows.fnApplyPutSpec Rows.fnApplyPutRow = true := by
  unfold joinedFacts
  rw [may, lifts, mk]
  kernel_rfl
theorem over : Rows.fnApplyPutRow.holds Try.pinned (OpenSpec.ofChange Rows.fnApplyPutSpec) :=
  OpenClaim.holds_of_wide 11 Try.f11 rfl rfl rfl rfl rfl rfl rfl ⟨rfl, rfl, rfl, rfl, rfl⟩ rfl rfl rfl rfl rfl (by as_aux_lemma => kernel_rfl) Try.func11 closed
    (of_decide_eq_true (by as_aux_lemma => kernel_rfl)) (by unfold Func.isWrapper; rw [if_neg (of_decide_eq_false (by as_aux_lemma => kernel_rfl))]; exact ⟨rfl, rfl⟩)
    (fun os started H enc _ => lifted os started H enc)

/-- THE STATEMENT -/
theorem proved : Rows.FnApplyPutSaid := over
end Go.Proofs.Ytpkhkmehpijngaa.fnApplyPut
