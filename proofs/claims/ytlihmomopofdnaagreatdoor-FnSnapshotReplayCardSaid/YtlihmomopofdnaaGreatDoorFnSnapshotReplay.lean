/-
  For every input the law FnSnapshotReplay returns true, and what it was given reads afterwards as before. No condition beyond the row's own.
-/
import Derived.Test.YtlihmomopofdnaaGreatDoorFrameP
import Derived.Test.YtlihmomopofdnaaGreatDoorFrameF
import Derived.Test.YtlihmomopofdnaaGreatDoorTie
import Derived.Test.YtlihmomopofdnaaGreatDoorCards
import Derived.Test.YtlihmomopofdnaaGreatDoorDrawAll
import Derived.Test.YtlihmomopofdnaaGreatDoorRunL
import Derived.Test.YtlihmomopofdnaaGreatDoorEncW
import Derived.Test.YtlihmomopofdnaaGreatDoorDecK
import Derived.SevenTiedAt
import Derived.Deep.DeepCutAuto
import Derived.Deep.QuietTactic
import Derived.BigQuiet
namespace Go.Proofs.YtlihmomopofdnaaGreatDoor.fnSnapshotReplay
open Go.ChangeShapes Go.WideShapes Go.ChangeAt Go.RowKit
open Go.ChangeMaps (open_string shut_string)
set_option linter.unusedVariables false
theorem implEncode_at (v : Value) (ps : List (ByteArray × Int)) (t : ByteArray) (w : World) {lo hi : Nat} (h : Prs w lo hi v ps) (hx : ps.length ≤ 1048576) (ht : encE ps = t) :
    Calls Tryz.prog 10 #[v] w fun e w' => e = .returned (.string t) ∧ Below w.heap.size w w' := by
  subst ht
  exact implEncode_any v ps w h hx

set_option maxRecDepth 100000 in
set_option maxHeartbeats 8000000 in
theorem walk_at (w : World) (v0 : Value) (n0 : Nat) (b0 : Bytes w 0 w.heap.size v0 n0) (v1 : Value) (n1 : Nat) (b1 : Bytes w 0 w.heap.size v1 n1) (hm : Met w) :
    Calls Tryz.prog 3 #[v0, v1] w fun e w' => e = .returned (.bool true) ∧ Below w.heap.size w w' := by
  obtain ⟨a0, c0, hv0, hn0, hx0⟩ := b0.open
  clear hx0
  subst hv0
  by_cases big0 : n0 ≤ 1048576
  case neg =>
    go_enter Tryz.func3, Tryz.ntmps3
    go_wp2_with fail
    go_ret
    exact ⟨rfl, Below.refl _ _⟩
  obtain ⟨a1, c1, hv1, hn1, hx1⟩ := b1.open
  clear hx1
  subst hv1
  by_cases big1 : n1 ≤ 1048576
  case neg =>
    go_enter Tryz.func3, Tryz.ntmps3
    go_wp2_with fail
    go_ret
    exact ⟨rfl, Below.refl _ _⟩
  have HM := Lib.hid hm
  clear hm
  go_enter Tryz.func3, Tryz.ntmps3
  go_wp2_with fail
  have HB : Below w.heap.size w w := Below.refl _ _
  refine (DrawStoreApplyAll_any _ n0 _ b0).mono ?_
  rintro e w1 ⟨sv, ps, lv, cs, rfl, o, ol, hlen, hcl, HCK, hb1⟩
  have hs1 := hb1.size
  replace b0 := b0.below hb1
  replace HB := below_step HB hb1 HB.size
  clear hb1
  obtain ⟨ao, co, hvo⟩ := o.form
  subst hvo
  obtain ⟨aol, col, hvol⟩ := ol.form
  subst hvol
  have HL := Lib.hid (Nat.le_trans hlen (show 5 ≤ 1048576 by decide))
  have HCL := Lib.hid (Nat.le_trans hcl (show 6 ≤ 1048576 by decide))
  have HC6 := Lib.hid hcl
  have HKM : Hid (∀ c ∈ cs, ByteArray.size c.2.1 ≤ maxLen) := Lib.hid fun c hc => Nat.le_trans (HCK.out c hc) (by decide)
  clear hlen hcl HCK
  obtain ⟨zs, bs, hz⟩ : ∃ zs bs, runS ps cs = (zs, bs) := ⟨_, _, rfl⟩
  have HZ := Lib.hid hz; clear hz
  have hbb : ((bs.length : Int) != (bs.length : Int)) = false := by simp
  have hbe : ((bs.length : Int) == (bs.length : Int)) = true := by simp
  as_aux_lemma =>
   go_wp2_with fail
   refine (specApplyAll_any _ _ ps cs zs bs _ o.prs ol HL.out HCL.out HZ.out).mono ?_
   rintro e w2 ⟨v1, bv1, rfl, ow, obw, hb2⟩
   have hs2 := hb2.size
   replace b0 := b0.below hb2
   replace o := o.below hb2
   replace ol := ol.below hb2
   replace HB := below_step HB hb2 HB.size
   clear hb2
   obtain ⟨aow, cow, hvow⟩ := Prs.form ow
   subst hvow
   obtain ⟨aobw, cobw, hvobw⟩ := Bs.form obw
   subst hvobw
   as_aux_lemma =>
    go_wp2_with fail
    refine (implApplyAll_any _ _ ps cs zs bs _ o.prs ol HL.out HCL.out HKM.out HZ.out).mono ?_
    rintro e w3 ⟨v2, bv2, m2, rfl, hma, hmb, obx, ox, hb3⟩
    have hs3 := hb3.size
    replace b0 := b0.below hb3
    replace o := o.below hb3
    replace ol := ol.below hb3
    replace ow := ow.below hb3
    replace obw := obw.below hb3
    replace HB := below_step HB hb3 HB.size
    clear hb3
    obtain ⟨aox, cox, hvox⟩ := ox.form
    subst hvox
    obtain ⟨aobx, cobx, hvobx⟩ := obx.form
    subst hvobx
    as_aux_lemma =>
     go_wp2_with fail
     refine (samePairs_same _ _ zs _ ox.prs ow).mono ?_
     rintro e w4 ⟨rfl, hw4⟩
     have hb4 := drawn_below hw4
     have hs4 := hb4.size
     replace b0 := b0.below hb4
     replace o := o.below hb4
     replace ol := ol.below hb4
     replace ow := ow.below hb4
     replace obw := obw.below hb4
     replace obx := obx.below hb4
     replace ox := ox.below hb4
     replace HB := below_step HB hb4 HB.size
     clear hb4 hw4
     as_aux_lemma =>
      go_wp2_with fail
      cases hv : storeOk ps
      · have HV := Lib.hid hv; clear hv
        refine (specStoreValid_any _ ps _ o.prs false HV.out).mono ?_
        rintro e w5 ⟨rfl, hw5⟩
        have hb5 := drawn_below hw5
        have hs5 := hb5.size
        replace b0 := b0.below hb5
        replace o := o.below hb5
        replace ol := ol.below hb5
        replace ow := ow.below hb5
        replace obw := obw.below hb5
        replace obx := obx.below hb5
        replace ox := ox.below hb5
        replace HB := below_step HB hb5 HB.size
        clear hb5 hw5
        as_aux_lemma =>
         go_wp2_with fail
         refine (samePairs_same _ _ zs _ ox.prs ow).mono ?_
         rintro e w6 ⟨rfl, hw6⟩
         have hb6 := drawn_below hw6
         have hs6 := hb6.size
         replace b0 := b0.below hb6
         replace o := o.below hb6
         replace ol := ol.below hb6
         replace ow := ow.below hb6
         replace obw := obw.below hb6
         replace obx := obx.below hb6
         replace ox := ox.below hb6
         replace HB := below_step HB hb6 HB.size
         clear hb6 hw6
         as_aux_lemma =>
          go_wp2_with fail
          go_ret
          exact ⟨rfl, HB⟩
      · have HV := Lib.hid hv
        have HG := Lib.hid (good_of hv); clear hv
        have HP : Hid (runP ps cs = (zs, bs)) := Lib.hid (by rw [← runS_good HG.out]; exact HZ.out)
        clear hbb
        refine (specStoreValid_any _ ps _ o.prs true HV.out).mono ?_
        rintro e w5 ⟨rfl, hw5⟩
        have hb5 := drawn_below hw5
        have hs5 := hb5.size
        replace b0 := b0.below hb5
        replace o := o.below hb5
        replace ol := ol.below hb5
        replace ow := ow.below hb5
        replace obw := obw.below hb5
        replace obx := obx.below hb5
        replace ox := ox.below hb5
        replace HB := below_step HB hb5 HB.size
        clear hb5 hw5
        have hc6 := HC6.out
        obtain ⟨k, hkm⟩ : ∃ k : Nat, n1 % (cs.length + 1) = k := ⟨_, rfl⟩
        have hk : k ≤ cs.length := by have := Nat.mod_lt n1 (show 0 < cs.length + 1 by omega); omega
        have hw1 : IntKind.i64.wrap ((cs.length : Int) + 1) = (cs.length : Int) + 1 := wrap_i64 (by omega) (by omega)
        have hnz : ¬ ((cs.length : Int) + 1 = 0) := by omega
        have hnzb : ((cs.length : Int) + 1 == 0) = false := by simp; omega
        have hrem : (n1 : Int).tmod ((cs.length : Int) + 1) = (k : Int) := by
          rw [Int.tmod_eq_emod_of_nonneg (by omega)]
          have : ((n1 % (cs.length + 1) : Nat) : Int) = (k : Int) := by rw [hkm]
          rw [← this]
          simp
        have hws : IntKind.i64.wrap ((cs.length : Int) - (k : Int)) = (cs.length : Int) - (k : Int) := wrap_i64 (by omega) (by omega)
        obtain ⟨ys, ds, rs, hy1, hy2, hy3, hy4, _, _⟩ := run_split HG.out HP.out k hk
        have HY1 := Lib.hid hy1
        have HYL := Lib.hid (Nat.le_trans (good_len hy2) (show 6 ≤ 1048576 by decide))
        have HY3 := Lib.hid hy3
        have hfin : ((rs.length : Int) == (cs.length : Int) - (k : Int)) = true := by rw [hy4]; simp
        obtain ⟨vA, hrA, hpA⟩ := recs_head elCmd (E := encC) ol k hk
        obtain ⟨vB, hrB, hpB⟩ := recs_tail elCmd (E := encC) ol k hk
        replace hrA := hrA k rfl
        replace hrB := hrB k rfl
        have HAL := Lib.hid (show (cs.take k).length ≤ 1048576 by rw [List.length_take]; omega)
        have HBL := Lib.hid (show (cs.drop k).length ≤ 1048576 by rw [List.length_drop]; omega)
        have HAK : Hid (∀ c ∈ cs.take k, ByteArray.size c.2.1 ≤ maxLen) := Lib.hid fun c hc => HKM.out c (List.mem_of_mem_take hc)
        have HBK : Hid (∀ c ∈ cs.drop k, ByteArray.size c.2.1 ≤ maxLen) := Lib.hid fun c hc => HKM.out c (List.mem_of_mem_drop hc)
        generalize cs.take k = csA at *
        generalize cs.drop k = csB at *
        clear hkm hy1 hy3 hy4 hbe hc6
        replace hpA : Cms _ _ _ vA csA := hpA
        replace hpB : Cms _ _ _ vB csB := hpB
        have HET := Lib.hid (show encE ys = textE ys by unfold encE; rw [ok_of hy2]; rfl)
        obtain ⟨tx, htx⟩ : ∃ tx, textE ys = tx := ⟨_, rfl⟩
        have HTX := Lib.hid htx
        have HEN := Lib.hid (show encE ys = tx by rw [HET.out, HTX.out])
        have HDY := Lib.hid (show IsDec tx ys true from .inl ⟨rfl, hy2, HTX.out⟩)
        have HTL := Lib.hid (show tx.size ≤ 1048576 by rw [← HTX.out]; exact text_size hy2)
        clear hy2 htx
        as_aux_lemma =>
         go_wp2_with fail
         refine (implApplyAll_any _ _ ps csA ys ds _ o.prs hpA HL.out HAL.out HAK.out HY1.out).mono ?_
         rintro e w6 ⟨v3, bv3, m3, rfl, hmc, hmd, oby, oy, hb6⟩
         have hs6 := hb6.size
         replace b0 := b0.below hb6
         replace o := o.below hb6
         replace ol := ol.below hb6
         replace ow := ow.below hb6
         replace obw := obw.below hb6
         replace obx := obx.below hb6
         replace ox := ox.below hb6
         replace hpA := hpA.below hb6
         replace hpB := hpB.below hb6
         replace HB := below_step HB hb6 HB.size
         clear hb6
         obtain ⟨aoy, coy, hvoy⟩ := oy.form
         subst hvoy
         obtain ⟨aoby, coby, hvoby⟩ := oby.form
         subst hvoby
         as_aux_lemma =>
          go_wp2_with fail
          refine (implEncode_at _ ys tx _ oy.prs HYL.out HEN.out).mono ?_
          rintro e w7 ⟨rfl, hb7⟩
          have hs7 := hb7.size
          replace b0 := b0.below hb7
          replace o := o.below hb7
          replace ol := ol.below hb7
          replace ow := ow.below hb7
          replace obw := obw.below hb7
          replace obx := obx.below hb7
          replace ox := ox.below hb7
          replace hpA := hpA.below hb7
          replace hpB := hpB.below hb7
          replace oby := oby.below hb7
          replace oy := oy.below hb7
          replace HB := below_step HB hb7 HB.size
          clear hb7
          as_aux_lemma =>
           go_wp2_with fail
           refine (implDecode_eq tx ys true _ HTL.out (HM.out.below HB) HDY.out).mono ?_
           rintro e w8 ⟨vd, rfl, od, hb8⟩
           have hs8 := hb8.size
           replace b0 := b0.below hb8
           replace o := o.below hb8
           replace ol := ol.below hb8
           replace ow := ow.below hb8
           replace obw := obw.below hb8
           replace obx := obx.below hb8
           replace ox := ox.below hb8
           replace hpA := hpA.below hb8
           replace hpB := hpB.below hb8
           replace oby := oby.below hb8
           replace oy := oy.below hb8
           replace HB := below_step HB hb8 HB.size
           clear hb8
           obtain ⟨aod, cod, hvod⟩ := od.form
           subst hvod
           as_aux_lemma =>
            go_wp2_with fail
            refine (implApplyAll_any _ _ ys csB zs rs _ od.prs hpB HYL.out HBL.out HBK.out HY3.out).mono ?_
            rintro e w9 ⟨v4, bv4, m4, rfl, hme, hmf, obz, oz, hb9⟩
            have hs9 := hb9.size
            replace b0 := b0.below hb9
            replace o := o.below hb9
            replace ol := ol.below hb9
            replace ow := ow.below hb9
            replace obw := obw.below hb9
            replace obx := obx.below hb9
            replace ox := ox.below hb9
            replace hpA := hpA.below hb9
            replace hpB := hpB.below hb9
            replace oby := oby.below hb9
            replace oy := oy.below hb9
            replace od := od.below hb9
            replace HB := below_step HB hb9 HB.size
            clear hb9
            obtain ⟨aoz, coz, hvoz⟩ := oz.form
            subst hvoz
            obtain ⟨aobz, cobz, hvobz⟩ := obz.form
            subst hvobz
            as_aux_lemma =>
             go_wp2_with fail
             refine (samePairs_same _ _ zs _ oz.prs ox.prs).mono ?_
             rintro e w10 ⟨rfl, hw10⟩
             have hb10 := drawn_below hw10
             have hs10 := hb10.size
             replace b0 := b0.below hb10
             replace o := o.below hb10
             replace ol := ol.below hb10
             replace ow := ow.below hb10
             replace obw := obw.below hb10
             replace obx := obx.below hb10
             replace ox := ox.below hb10
             replace hpA := hpA.below hb10
             replace hpB := hpB.below hb10
             replace oby := oby.below hb10
             replace oy := oy.below hb10
             replace od := od.below hb10
             replace obz := obz.below hb10
             replace oz := oz.below hb10
             replace HB := below_step HB hb10 HB.size
             clear hb10 hw10
             as_aux_lemma =>
              go_wp2_with fail
              go_ret
              exact ⟨rfl, HB⟩

/-! ### THE ROW's STEP -/
set_option maxRecDepth 100000 in
theorem lifted (os : Os) (started : os.Started) (H : Type) (enc : TypeId × Value → H) :
    ReturnsInHanded {} Tryz.checked os 3 .any (fun w args => (Rows.fnSnapshotReplaySpec.pre enc Tryz.prog Tryz.f3 [] false w args ∧ laidMetH Tryz.prog laidL w) ∧ sizedMet enc Tryz.prog Tryz.f3 (OpenSpec.ofChange Rows.fnSnapshotReplaySpec) false w args)
      (Rows.fnSnapshotReplaySpec.post enc Tryz.prog Tryz.f3 false true false false) := by
  refine handed_shaped_and (C := Tryz.checked) (X := fun w _ => laidMetH Tryz.prog laidL w) (fun _ _ _ hh h => h.of_heap hh) own started (by kernel_rfl) Tryz.func3
    (ChangeSpec.witness_at (enc := enc) (C := Tryz.checked) (os := os) (X := fun w _ => laidMetH Tryz.prog laidL w) false (laidWorld os) #[.slice none 0 0, .slice none 0 0] 8 (laidWorld_os os) (by kernel_rfl) (by kernel_rfl) (by kernel_rfl) (by kernel_rfl) (by kernel_rfl) (laidWorld_met os _)) ?_
  intro W base args ds gs before hval0 hW _ _ hL hsh _
  have hval : ∀ (j : Nat) t v, Tryz.f3.params[j]? = some t → args[j]? = some v → Value.okWide Tryz.prog W .any base t v := hval0
  have hW' := hW
  obtain ⟨p, q, hA0, hV, rfl, hfz, hnd⟩ := hW
  have hA : DataW.TrodAll enc Tryz.prog W 0 (fun _ => true) true Tryz.f3.params.toList args.toList ds p := hA0
  rw [Tryz.params3] at hA hval
  obtain ⟨v0, vs0, d0, ds0, p0, q0, hargs, rfl, rfl, h0, r0⟩ := trodAll_cons hA
  obtain ⟨v1, vs1, d1, ds1, p1, q1, rfl, rfl, rfl, h1, r1⟩ := trodAll_cons r0
  obtain ⟨rfl, rfl, rfl⟩ := trodAll_nil r1
  obtain rfl : args = #[v0, v1] := by cases args; simp_all
  obtain ⟨rfl, rfl⟩ := trodVars_none hV
  obtain ⟨n0, b0⟩ := bytes_in (hval 0 _ v0 rfl rfl) h0
  have lt0 := lt_in h0
  obtain ⟨n1, b1⟩ := bytes_in (hval 1 _ v1 rfl rfl) h1
  have lt1 := lt_in h1
  clear hA0 hval0
  refine (walk_at W v0 n0 b0 v1 n1 b1 (met_of hL hsh)).mono fun e W' ⟨he, bel⟩ => ?_
  subst he
  exact ⟨_, rfl, _, _, _, [], _, [], hW', trodAll_mk1 (shut_bool Tryz.underlying4 _), (trodAll_cons_mk (Below.trod laidOut (by kernel_rfl) (of_decide_eq_true (by kernel_rfl)) h0 bel lt0) (trodAll_cons_mk (Below.trod laidOut (by kernel_rfl) (of_decide_eq_true (by kernel_rfl)) h1 bel lt1) trodAll_mk0)), rfl, bel.frame _, fun h => by cases h⟩

set_option maxRecDepth 100000 in
theorem closed : joinedFacts Tryz.prog 3 Tryz.f3 Rows.fnSnapshotReplaySpec Rows.fnSnapshotReplayRow = true := by
  unfold joinedFacts
  rw [may, lifts, mk]
  kernel_rfl
theorem over : Rows.fnSnapshotReplayRow.holds Tryz.pinned (OpenSpec.ofChange Rows.fnSnapshotReplaySpec) :=
  OpenClaim.holds_of_wide 3 Tryz.f3 rfl rfl rfl rfl rfl rfl rfl ⟨rfl, rfl, rfl, rfl, rfl⟩ rfl rfl rfl rfl rfl (by as_aux_lemma => kernel_rfl) Tryz.func3 closed
    (of_decide_eq_true (by as_aux_lemma => kernel_rfl)) (by unfold Func.isWrapper; rw [if_neg (of_decide_eq_false (by as_aux_lemma => kernel_rfl))]; exact ⟨rfl, rfl⟩)
    (fun os started H enc _ => lifted os started H enc)

/-- THE STATEMENT: the tied card -/
theorem proved : Rows.FnSnapshotReplayCardSaid :=
  Claim7.holds_tied_plain_at .later [] [.data, .data, .data, .data, .sentinel, .sentinel, .pinned] true Rows.fnSnapshotReplayCard.stood.harness true
    over (fun _ h => by cases h) (by kernel_rfl) (fun _ h => by cases h) fnSnapshotReplay_row_tie rfl ⟨rfl, rfl⟩ (by kernel_rfl) rfl
    (fun f fn hf hfn => by
      obtain rfl : f = 3 := Option.some.inj ((show Tryz.prog.funcNamed "loop.example/flexquorum/laws.FnSnapshotReplay" = some 3 by kernel_rfl).symm.trans hf) |>.symm
      obtain rfl : fn = Tryz.f3 := (Option.some.inj (Tryz.func3.symm.trans hfn)).symm
      exact ⟨by kernel_rfl, fun j t ht => by
        rw [Tryz.params3] at ht
        have hm := Array.mem_of_getElem? ht
        simp only [List.mem_toArray, List.mem_cons, List.not_mem_nil, or_false] at hm
        (rcases hm with hm | hm)
        · (subst hm; exact (show Tryz.prog.wantsStandIn 22 = false by kernel_rfl))
        · (subst hm; exact (show Tryz.prog.wantsStandIn 22 = false by kernel_rfl))⟩)
    (by kernel_rfl)
end Go.Proofs.YtlihmomopofdnaaGreatDoor.fnSnapshotReplay
