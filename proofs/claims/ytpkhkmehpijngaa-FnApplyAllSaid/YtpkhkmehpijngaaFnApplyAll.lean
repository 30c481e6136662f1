/-
  For every input the law FnApplyAll returns true, and what it was given reads afterwards as before. No condition beyond the row's own.
-/
import Derived.Test.YtpkhkmehpijngaaFrameP
import Derived.Test.YtpkhkmehpijngaaDrawAll
import Derived.Test.YtpkhkmehpijngaaRunL
import Derived.Deep.DeepCutAuto
import Derived.Deep.QuietTactic
import Derived.BigQuiet
namespace Go.Proofs.Ytpkhkmehpijngaa.fnApplyAll
open Go.ChangeShapes Go.WideShapes Go.ChangeAt Go.RowKit
open Go.ChangeMaps (open_string shut_string)
set_option linter.unusedVariables false

set_option maxRecDepth 100000 in
set_option maxHeartbeats 8000000 in
theorem walk_at (w : World) (v0 : Value) (n0 : Nat) (b0 : Bytes w 0 w.heap.size v0 n0) :
    Calls Try.prog 10 #[v0] w fun e w' => e = .returned (.bool true) ∧ Below w.heap.size w w' := by
  obtain ⟨a0, c0, hv0, hn0, hx0⟩ := b0.open
  clear hx0
  subst hv0
  by_cases big0 : n0 ≤ 1048576
  case neg =>
    go_enter Try.func10, Try.ntmps10
    go_wp2_with fail
    go_ret
    exact ⟨rfl, Below.refl _ _⟩
  go_enter Try.func10, Try.ntmps10
  go_wp2_with fail
  have HB : Below w.heap.size w w := Below.refl _ _
  refine (DrawStoreApplyAll_any _ n0 _ b0).mono ?_
  rintro e w1 ⟨sv, ps, lv, cs, rfl, o, ol, hlen, hcl, HCK, hb1⟩
  have hs1 := hb1.size
  replace b0 := b0.below hb1
  replace HB := below_step HB hb1 HB.size
  clear hb1
  obtain ⟨ao, co, hvo⟩ := o.form
  subst hvo
  obtain ⟨aol, col, hvol⟩ := ol.form
  subst hvol
  have HL := Lib.hid (Nat.le_trans hlen (show 5 ≤ 1048576 by decide))
  have HCL := Lib.hid (Nat.le_trans hcl (show 6 ≤ 1048576 by decide))
  have HC6 := Lib.hid hcl
  have HKM : Hid (∀ c ∈ cs, ByteArray.size c.2.1 ≤ maxLen) := Lib.hid fun c hc => Nat.le_trans (HCK.out c hc) (by decide)
  clear hlen hcl HCK
  obtain ⟨zs, bs, hz⟩ : ∃ zs bs, runS ps cs = (zs, bs) := ⟨_, _, rfl⟩
  have HZ := Lib.hid hz; clear hz
  have hbb : ((bs.length : Int) != (bs.length : Int)) = false := by simp
  have hbe : ((bs.length : Int) == (bs.length : Int)) = true := by simp
  as_aux_lemma =>
   go_wp2_with fail
   refine (specApplyAll_any _ _ ps cs zs bs _ o.prs ol HL.out HCL.out HZ.out).mono ?_
   rintro e w2 ⟨v1, bv1, rfl, ow, obw, hb2⟩
   have hs2 := hb2.size
   replace b0 := b0.below hb2
   replace o := o.below hb2
   replace ol := ol.below hb2
   replace HB := below_step HB hb2 HB.size
   clear hb2
   obtain ⟨aow, cow, hvow⟩ := Prs.form ow
   subst hvow
   obtain ⟨aobw, cobw, hvobw⟩ := Bs.form obw
   subst hvobw
   as_aux_lemma =>
    go_wp2_with fail
    refine (implApplyAll_any _ _ ps cs zs bs _ o.prs ol HL.out HCL.out HKM.out HZ.out).mono ?_
    rintro e w3 ⟨v2, bv2, m2, rfl, hma, hmb, obx, ox, hb3⟩
    have hs3 := hb3.size
    replace b0 := b0.below hb3
    replace o := o.below hb3
    replace ol := ol.below hb3
    replace ow := ow.below hb3
    replace obw := obw.below hb3
    replace HB := below_step HB hb3 HB.size
    clear hb3
    obtain ⟨aox, cox, hvox⟩ := ox.form
    subst hvox
    obtain ⟨aobx, cobx, hvobx⟩ := obx.form
    subst hvobx
    as_aux_lemma =>
     go_wp2_with fail
     refine (samePairs_same _ _ zs _ ox.prs ow).mono ?_
     rintro e w4 ⟨rfl, hw4⟩
     have hb4 := drawn_below hw4
     have hs4 := hb4.size
     replace b0 := b0.below hb4
     replace o := o.below hb4
     replace ol := ol.below hb4
     replace ow := ow.below hb4
     replace obw := obw.below hb4
     replace obx := obx.below hb4
     replace ox := ox.below hb4
     replace HB := below_step HB hb4 HB.size
     clear hb4 hw4
     as_aux_lemma =>
      go_wp2_with fail
      cases hv : storeOk ps
      · have HV := Lib.hid hv; clear hv
        refine (specStoreValid_any _ ps _ o.prs false HV.out).mono ?_
        rintro e w5 ⟨rfl, hw5⟩
        have hb5 := drawn_below hw5
        have hs5 := hb5.size
        replace b0 := b0.below hb5
        replace o := o.below hb5
        replace ol := ol.below hb5
        replace ow := ow.below hb5
        replace obw := obw.below hb5
        replace obx := obx.below hb5
        replace ox := ox.below hb5
        replace HB := below_step HB hb5 HB.size
        clear hb5 hw5
        as_aux_lemma =>
         go_wp2_with fail
         refine (samePairs_same _ _ zs _ ox.prs ow).mono ?_
         rintro e w6 ⟨rfl, hw6⟩
         have hb6 := drawn_below hw6
         have hs6 := hb6.size
         replace b0 := b0.below hb6
         replace o := o.below hb6
         replace ol := ol.below hb6
         replace ow := ow.below hb6
         replace obw := obw.below hb6
         replace obx := obx.below hb6
         replace ox := ox.below hb6
         replace HB := below_step HB hb6 HB.size
         clear hb6 hw6
         as_aux_lemma =>
          go_wp2_with fail
          go_ret
          exact ⟨rfl, HB⟩
      · have HV := Lib.hid hv
        have HG := Lib.hid (good_of hv); clear hv
        have HP : Hid (runP ps cs = (zs, bs)) := Lib.hid (by rw [← runS_good HG.out]; exact HZ.out)
        clear hbb
        refine (specStoreValid_any _ ps _ o.prs true HV.out).mono ?_
        rintro e w5 ⟨rfl, hw5⟩
        have hb5 := drawn_below hw5
        have hs5 := hb5.size
        replace b0 := b0.below hb5
        replace o := o.below hb5
        replace ol := ol.below hb5
        replace ow := ow.below hb5
        replace obw := obw.below hb5
        replace obx := obx.below hb5
        replace ox := ox.below hb5
        replace HB := below_step HB hb5 HB.size
        clear hb5 hw5
        as_aux_lemma =>
         go_wp2_with fail
         have HO := Lib.hid o.prs
         have HOX := Lib.hid ox
         have HOB := Lib.hid obx
         have HOL := Lib.hid ol
         have HBW := Lib.hid HB
         have hc6 := HC6.out
         obtain ⟨_, _, hvl, _, hcell⟩ := Recs.open elCmd ol
         cases hvl
         have HCELL := Lib.hid hcell
         obtain ⟨_, _, hvb, _, hbcell⟩ := Recs.open elBool obx.bool
         cases hvb
         have HBCELL := Lib.hid hbcell
         have HBL : Hid (bs.length = cs.length) := Lib.hid (by have := run_len ps cs; rw [HP.out] at this; exact this)
         clear hcell hbcell o ox obx ol ow obw HB b0
         go_loopw [9, 10] (fun yv i wr => ∃ (k : Nat) (y : List (ByteArray × Int)) (ds : List Bool), k ≤ cs.length ∧ i = .int .i64 k ∧ Hid (runP ps (cs.take k) = (y, ds)) ∧ (∃ l1 h1, Prs wr l1 h1 yv y) ∧ Below w5.heap.size w5 wr) (fun _ i _ => cs.length - (intOf i).toNat)
         case atStart => exact ⟨0, ps, [], Nat.zero_le _, rfl, Lib.hid rfl, ⟨_, _, HO.out⟩, Below.refl _ _⟩
         case round =>
           obtain ⟨k, y, ds, hk, rfl, HR, ⟨l1, h1, hy⟩, hb⟩ := hrel
           obtain ⟨ay, cy, hvy⟩ := Prs.form hy
           subst hvy
           by_cases hlt : k < cs.length
           · obtain ⟨⟨op, key, val, exp⟩, hck⟩ : ∃ c, cs[k]? = some c := ⟨_, List.getElem?_eq_getElem hlt⟩
             obtain ⟨b', o, _, _, hix', hcl⟩ := HCELL.out k _ hck
             have hix := hix' k rfl
             have c0 := below_cell hb (hcl 0 _ rfl)
             have c1 := below_cell hb (hcl 1 _ rfl)
             have c2 := below_cell hb (hcl 2 _ rfl)
             have c3 := below_cell hb (hcl 3 _ rfl)
             replace c0 : wr.cell? ⟨b', o, none⟩ = some (.int .i64 op) := c0
             replace c1 : wr.cell? ⟨b', o + 1, none⟩ = some (.string key) := c1
             replace c2 : wr.cell? ⟨b', o + 2, none⟩ = some (.int .i64 val) := c2
             replace c3 : wr.cell? ⟨b', o + 3, none⟩ = some (.int .i64 exp) := c3
             have hgy : Good y := by have := run_good HG.out (cs.take k); rw [HR.out] at this; exact this
             obtain ⟨yz, yb, hyz⟩ : ∃ yz yb, applyP y op key val exp = (yz, yb) := ⟨_, _, rfl⟩
             have hbk : bs[k]? = some yb := by rw [run_at HG.out HP.out hck HR.out]; show some (applyP y op key val exp).2 = _; rw [hyz]
             obtain ⟨b2, o2, _, _, hjx', hbl⟩ := HBCELL.out k _ hbk
             have hjx := hjx' k rfl
             have HD := Lib.hid (show w5.cell? ⟨b2, o2, none⟩ = some (.bool yb) from hbl 0 _ rfl)
             have HRN := Lib.hid (show runP ps (cs.take (k + 1)) = (yz, ds ++ [yb]) by
               rw [runP_step hck HR.out]
               show ((applyP y op key val exp).1, ds ++ [(applyP y op key val exp).2]) = _
               rw [hyz])
             have HYS := Lib.hid (show applyS y op key val exp = (yz, yb) by rw [applyS_good hgy, hyz])
             have HYL := Lib.hid (Nat.le_trans (good_len hgy) (show 6 ≤ 1048576 by decide))
             have HKK := Lib.hid (show key.size ≤ maxLen from HKM.out _ (List.mem_of_getElem? hck))
             have HBB := Lib.hid hb
             have hyy : (yb != yb) = false := by cases yb <;> rfl
             clear hix' hcl hck hgy hyz hbk hjx' hbl hb
             go_wp2_with fail
             refine (implApply_eq _ y op key val exp yz yb _ hy HYL.out HKK.out HYS.out).mono ?_
             rintro e wx ⟨vx, rfl, oy, hbx⟩
             obtain ⟨ax, cx, hvx⟩ := Prs.form oy.prs
             subst hvx
             have HBX := Lib.hid (below_step HBB.out hbx HBB.out.size)
             have d0 := below_cell HBX.out HD.out
             have HOY := Lib.hid oy
             clear hbx hy oy c0 c1 c2 c3 hix
             as_aux_lemma =>
               go_wp2_with fail
               go_roundw
               case rel => exact ⟨k + 1, yz, _, by omega, by go_num, HRN, ⟨_, _, HOY.out.prs⟩, HBX.out⟩
               case measure => simp [intOf]; omega
           · obtain rfl : k = cs.length := by omega
             have HRF := Lib.hid (show zs = y by have := HR.out; rw [List.take_length, HP.out] at this; exact (Prod.mk.inj this).1)
             obtain rfl := HRF.out
             have hlb : ((bs.length : Int) == (cs.length : Int)) = true := by rw [HBL.out]; simp
             go_wp2_with fail
             refine (samePairs_same _ _ zs _ hy (HOX.out.prs.below hb)).mono ?_
             rintro e wx ⟨rfl, hwx⟩
             have hbx := drawn_below hwx
             have HBX := Lib.hid (below_step (below_step HBW.out hb HBW.out.size) hbx (Nat.le_trans HBW.out.size hb.size))
             clear hwx hbx
             go_wp2_with fail
             go_ret
             exact ⟨rfl, HBX.out⟩

/-! ### THE ROW's STEP -/
set_option maxRecDepth 100000 in
theorem lifted (os : Os) (started : os.Started) (H : Type) (enc : TypeId × Value → H) :
    ReturnsInHanded {} Try.checked os 10 .any (Rows.fnApplyAllSpec.pre6 enc Try.prog Try.f10 Rows.fnApplyAllRow.domain false) (Rows.fnApplyAllSpec.post enc Try.prog Try.f10 false true false false) := by
  refine returnsInHanded_of_change (C := Try.checked) own started (by kernel_rfl) Try.func10
    (ChangeSpec.witness6 (enc := enc) (C := Try.checked) false ⟨#[], #[.slice none 0 0], []⟩ 8 (by kernel_rfl) (by kernel_rfl) (by kernel_rfl) (by kernel_rfl)) ?_
  intro W base args ds gs before hval0 hW hcnd _
  have hval : ∀ (j : Nat) t v, Try.f10.params[j]? = some t → args[j]? = some v → Value.okWide Try.prog W .any base t v := hval0
  have hW' := hW
  obtain ⟨p, q, hA0, hV, rfl, hfz, hnd⟩ := hW
  have hA : DataW.TrodAll enc Try.prog W 0 (fun _ => true) true Try.f10.params.toList args.toList ds p := hA0
  rw [Try.params10] at hA hval
  obtain ⟨v0, vs0, d0, ds0, p0, q0, hargs, rfl, rfl, h0, r0⟩ := trodAll_cons hA
  obtain ⟨rfl, rfl, rfl⟩ := trodAll_nil r0
  obtain rfl : args = #[v0] := by cases args; simp_all
  obtain ⟨rfl, rfl⟩ := trodVars_none hV
  obtain ⟨n0, b0⟩ := bytes_in (hval 0 _ v0 rfl rfl) h0
  have lt0 := lt_in h0
  clear hA0 hval0
  refine (walk_at W v0 n0 b0).mono fun e W' ⟨he, bel⟩ => ?_
  subst he
  exact ⟨_, rfl, _, _, _, [], _, [], hW', trodAll_mk1 (shut_bool Try.underlying4 _), (trodAll_cons_mk (Below.trod laidOut (by kernel_rfl) (of_decide_eq_true (by kernel_rfl)) h0 bel lt0) trodAll_mk0), rfl, bel.frame _, fun h => by cases h⟩

set_option maxRecDepth 100000 in
theorem closed : joinedFacts Try.prog 10 Try.f10 Rows.fnApplyAllSpec Rows.fnApplyAllRow = true := by
  unfold joinedFacts
  rw [may, lifts, mk]
  kernel_rfl
theorem over : Rows.fnApplyAllRow.holds Try.pinned (OpenSpec.ofChange Rows.fnApplyAllSpec) :=
  OpenClaim.holds_of_wide 10 Try.f10 rfl rfl rfl rfl rfl rfl rfl ⟨rfl, rfl, rfl, rfl, rfl⟩ rfl rfl rfl rfl rfl (by as_aux_lemma => kernel_rfl) Try.func10 closed
    (of_decide_eq_true (by as_aux_lemma => kernel_rfl)) (by unfold Func.isWrapper; rw [if_neg (of_decide_eq_false (by as_aux_lemma => kernel_rfl))]; exact ⟨rfl, rfl⟩)
    (fun os started H enc _ => lifted os started H enc)

/-- THE STATEMENT -/
theorem proved : Rows.FnApplyAllSaid := over
end Go.Proofs.Ytpkhkmehpijngaa.fnApplyAll
