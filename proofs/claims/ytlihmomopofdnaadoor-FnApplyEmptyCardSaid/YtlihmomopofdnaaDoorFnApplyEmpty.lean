/-
  For every input the law FnApplyEmpty returns true, and what it was given reads afterwards as before. No condition beyond the row's own.
-/
import Derived.Test.YtlihmomopofdnaaDoorFrameP
import Derived.Test.YtlihmomopofdnaaDoorFrameE
import Derived.Test.YtlihmomopofdnaaDoorTie
import Derived.Test.YtlihmomopofdnaaDoorCards
import Derived.Test.YtlihmomopofdnaaDoorPlainE
import Derived.SevenTiedAt
import Derived.Deep.DeepCutAuto
import Derived.Deep.QuietTactic
import Derived.BigQuiet
import Derived.Deep.RegionHeld3
namespace Go.Proofs.YtlihmomopofdnaaDoor.fnApplyEmpty
open Go.ChangeShapes Go.WideShapes Go.ChangeAt Go.RowKit
open Go.ChangeMaps (open_string shut_string)
set_option linter.unusedVariables false

set_option maxRecDepth 100000 in
set_option maxHeartbeats 8000000 in
theorem walk_at (w : World) (v0 : Value) (n0 : Nat) (b0 : Bytes w 0 w.heap.size v0 n0) :
    Calls Tryd.prog 6 #[v0] w fun e w' => e = .returned (.bool true) ∧ Below w.heap.size w w' := by
  obtain ⟨a0, c0, hv0, hn0, hx0⟩ := b0.open
  clear hx0
  subst hv0
  by_cases big0 : n0 ≤ 1048576
  case neg =>
    go_enter Tryd.func6, Tryd.ntmps6
    go_wp2_with fail
    go_ret
    exact ⟨rfl, Below.refl _ _⟩
  go_enter Tryd.func6, Tryd.ntmps6
  go_wp2_with fail
  have HB : Below w.heap.size w w := Below.refl _ _
  refine (DrawStoreEncode_any _ n0 _ b0).mono ?_
  rintro e w1 ⟨sv, ps, rfl, o, hlen, hb1⟩
  have hs1 := hb1.size
  replace b0 := b0.below hb1
  replace HB := below_step HB hb1 HB.size
  clear hb1
  obtain ⟨ao, co, hvo⟩ := o.form
  subst hvo
  have HL := Lib.hid (Nat.le_trans hlen (show 5 ≤ 1048576 by decide))
  clear hlen
  cases hv : storeOk ps
  · have HE := Lib.hid (show encE ps = ⟨#[]⟩ by unfold encE; rw [hv]; rfl)
    clear hv
    as_aux_lemma =>
     go_wp2_with fail
     refine (implEncode_eq _ ps ⟨#[]⟩ _ o.prs HL.out HE.out).mono ?_
     rintro e w2 ⟨rfl, hb2⟩
     have hs2 := hb2.size
     replace b0 := b0.below hb2
     replace o := o.below hb2
     replace HB := below_step HB hb2 HB.size
     clear hb2
     as_aux_lemma =>
      go_wp2_with fail
      refine (specEncode_eq _ ps ⟨#[]⟩ _ o.prs HL.out HE.out).mono ?_
      rintro e w3 ⟨rfl, hb3⟩
      have hs3 := hb3.size
      replace b0 := b0.below hb3
      replace o := o.below hb3
      replace HB := below_step HB hb3 HB.size
      clear hb3
      as_aux_lemma =>
       go_wp2_with fail
       refine (specEncode_eq _ ps ⟨#[]⟩ _ o.prs HL.out HE.out).mono ?_
       rintro e w4 ⟨rfl, hb4⟩
       have hs4 := hb4.size
       replace b0 := b0.below hb4
       replace o := o.below hb4
       replace HB := below_step HB hb4 HB.size
       clear hb4
       as_aux_lemma =>
        go_wp2_with fail
        go_ret
        exact ⟨rfl, HB⟩
  · have HG := Lib.hid (good_of hv)
    have HET := Lib.hid (show encE ps = textE ps by unfold encE; rw [hv]; rfl)
    obtain ⟨tx, htx⟩ : ∃ tx, textE ps = tx := ⟨_, rfl⟩
    have hnt := text_ne ps
    rw [htx] at hnt
    have HTX := Lib.hid htx
    have HE := Lib.hid (show encE ps = tx by rw [HET.out, HTX.out])
    have hss : (tx.toList != tx.toList) = false := by simp
    have hs0 : (tx.toList == []) = false := by simpa using hnt
    have hs1 : (tx.toList == (⟨#[]⟩ : ByteArray).toList) = false := by
      rw [show (⟨#[]⟩ : ByteArray).toList = [] from by rw [Lib.toList_data]]
      exact hs0
    clear hv htx hnt
    as_aux_lemma =>
     go_wp2_with fail
     refine (implEncode_eq _ ps tx _ o.prs HL.out HE.out).mono ?_
     rintro e w2 ⟨rfl, hb2⟩
     have hs2 := hb2.size
     replace b0 := b0.below hb2
     replace o := o.below hb2
     replace HB := below_step HB hb2 HB.size
     clear hb2
     as_aux_lemma =>
      go_wp2_with fail
      refine (specEncode_eq _ ps tx _ o.prs HL.out HE.out).mono ?_
      rintro e w3 ⟨rfl, hb3⟩
      have hs3 := hb3.size
      replace b0 := b0.below hb3
      replace o := o.below hb3
      replace HB := below_step HB hb3 HB.size
      clear hb3
      as_aux_lemma =>
       go_wp2_with fail
       have HO := Lib.hid o.prs
       have HBW := Lib.hid HB
       have hl6 := good_len HG.out
       obtain ⟨_, _, hvl, _, hcell⟩ := o.prs.open
       cases hvl
       have HCELL := Lib.hid hcell
       have hwl : IntKind.i64.wrap ((ps.length : Int) - 1) = (ps.length : Int) - 1 := wrap_i64 (by omega) (by omega)
       clear hcell o HB b0 hss hs0 hs1
       go_loopw [5, 6] (fun xv i wr => ∃ (k : Nat) (y : List (ByteArray × Int)) (x6 : Int), k ≤ 6 ∧ i = .int .i64 x6 ∧ x6 = (k : Int) ∧ Hid (Good y) ∧ Hid (gone k y) ∧ (∃ l1 h1, Prs wr l1 h1 xv y) ∧ Below w3.heap.size w3 wr) (fun _ i _ => 6 - (intOf i).toNat)
       case atStart => exact ⟨0, ps, 0, Nat.zero_le _, rfl, rfl, HG, Lib.hid (fun j hj => absurd hj (by omega)), ⟨_, _, HO.out⟩, Below.refl _ _⟩
       case round =>
         obtain ⟨k, y, x6, hk, rfl, hx6, HY, HGO, ⟨l1, h1, hy⟩, hb⟩ := hrel
         obtain ⟨ay, cy, hvy⟩ := Prs.form hy
         subst hvy
         by_cases hlt : k < 6
         · subst hx6
           have hkm : (k : Int).toNat % 6 = k := by omega
           obtain ⟨zb, hzb⟩ := del_at HY.out hlt
           have HZ := Lib.hid hzb
           have HYL := Lib.hid (Nat.le_trans (good_len HY.out) (show 6 ≤ 1048576 by decide))
           have HY2 := Lib.hid (good_without HY.out (letter k))
           have HG2 := Lib.hid (gone_step HGO.out)
           have HLL := Lib.hid (letter_len k)
           have HBB := Lib.hid hb
           have HKO : Hid (∀ wx, Calls Tryd.prog 22 #[.int .i64 (k : Int)] wx fun e w' => e = .returned (.string (letter k)) ∧ wx = w') := Lib.hid fun wx => by
             have := keyOf_any (k : Int) wx (by omega) (by omega)
             rwa [hkm] at this
           clear hzb hkm hb
           generalize withoutP y (letter k) = y2 at *
           generalize letter k = s at *
           go_wp2_with fail
           refine (HKO.out _).mono ?_
           rintro e wx ⟨rfl, rfl⟩
           as_aux_lemma =>
             go_wp2_with fail
             refine (implApply_eq _ y 2 s 0 0 y2 zb _ hy HYL.out HLL.out HZ.out).mono ?_
             rintro e wx ⟨vx, rfl, oy, hbx⟩
             have HBX := Lib.hid (below_step HBB.out hbx HBB.out.size)
             obtain ⟨ax, cx, hvx⟩ := oy.form
             subst hvx
             have HOY := Lib.hid oy
             clear hbx hy oy
             as_aux_lemma =>
               go_wp2_with fail
               go_roundw
               case rel => exact ⟨k + 1, y2, _, by omega, rfl, by omega, HY2, HG2, ⟨_, _, HOY.out.prs⟩, HBX.out⟩
               case measure => simp [intOf]; omega
         · obtain rfl : k = 6 := by omega
           obtain rfl : x6 = 6 := hx6
           have hye : y = [] := gone_all HY.out HGO.out
           have hb' := hb
           clear HY HGO hlt hk
           have hy0 : Prs wr l1 h1 (.slice ay y.length cy) (ps.drop ps.length) := by rw [List.drop_length]; rw [hye] at hy ⊢; exact hy
           have HY0 := Lib.hid hy0
           have hz : y.length = 0 := by rw [hye]; rfl
           clear hy hy0 hye
           generalize y.length = ny at *
           subst hz
           go_wp2_with fail
           go_loopw [5, 10] (fun xv i wq => ∃ (j : Nat) (x : Int), j ≤ ps.length ∧ i = .int .i64 x ∧ x = (j : Int) - 1 ∧ Hid (∃ l1 h1, Prs wq l1 h1 xv (ps.drop j)) ∧ Below w3.heap.size w3 wq) (fun _ i _ => (intOf i + 1).toNat)
           case atStart => exact ⟨ps.length, _, Nat.le_refl _, rfl, rfl, Lib.hid ⟨_, _, HY0.out⟩, hb'⟩
           case round =>
             obtain ⟨j, x, hj, rfl, hxj, HY, hbq⟩ := hrel
             obtain ⟨l2, h2, hyq⟩ := HY.out
             obtain ⟨aq, cq, hvq⟩ := Prs.form hyq
             subst hvq
             by_cases h0 : 0 < j
             · obtain ⟨i', rfl⟩ : ∃ i', j = i' + 1 := ⟨j - 1, by omega⟩
               obtain rfl : x = (i' : Int) := by omega
               have hil : i' < ps.length := by omega
               obtain ⟨b, o', _, _, hi', c0, c1⟩ := HCELL.out i' hil
               have hix := hi' i' rfl
               have d0 := below_cell hbq c0
               have d1 := below_cell hbq c1
               have HZ := Lib.hid (put_at HG.out hil)
               have HDL := Lib.hid (Nat.le_trans (good_len (drop_good HG.out (i' + 1))) (show 6 ≤ 1048576 by decide))
               have h3 := HG.out.1 _ (List.getElem_mem hil)
               rw [get_eq hil] at h3
               have HKS := Lib.hid (show (pk ps i').size ≤ maxLen by have := isK_size h3.1; replace this : (pk ps i').size = 1 := this; rw [this]; unfold maxLen; omega)
               have HBQ := Lib.hid hbq
               have hw1 : IntKind.i64.wrap ((i' : Int) - 1) = (i' : Int) - 1 := wrap_i64 (by omega) (by omega)
               clear hi' c0 c1 h3 hbq HY hxj
               generalize ps.drop (i' + 1) = y1 at *
               generalize pk ps i' = key at *
               generalize pv ps i' = val at *
               obtain ⟨y2, hy2⟩ : ∃ y2, ps.drop i' = y2 := ⟨_, rfl⟩
               rw [hy2] at HZ
               have HY2 := Lib.hid hy2
               clear hy2
               have hD : Below wr.heap.size wr wr.drew := (Below.refl _ _).drew
               have hyd := Prs.below hyq hD
               go_wp2_with fail
               go_region_held3 (fun w' => w'.cell? ⟨b, o', none⟩ = some (.string key) ∧ w'.cell? ⟨b, o' + 1, none⟩ = some (.int .i64 val) ∧ Below wr.heap.size wr w')
                 (first
                   | exact ⟨d0, d1, hD⟩
                   | exact ⟨below_cell hb6 d0, below_cell hb6 d1, hb6⟩
                   | (go_split_ands; refine ⟨?_, ?_, ?_⟩ <;> assumption))
                 ((go_at_call 21; (with_reducible refine (implApply_eq _ y1 1 key val 0 y2 true _ hyd HDL.out HKS.out HZ.out).mono ?_); rintro e w6 ⟨vx, rfl, oy, hbx⟩; obtain ⟨ax, cx, hvx⟩ := oy.form; subst hvx; have hb6 := below_step hD hbx (Nat.le_refl _); have HOY := Lib.hid (show ∃ l1 h1, Prs w6 l1 h1 (.slice ax y2.length cx) (ps.drop i') from ⟨_, _, by rw [HY2.out]; exact oy.prs⟩); clear hbx oy))
               all_goals
                 have HBX := Lib.hid (below_step HBQ.out hb6 HBQ.out.size)
                 clear hb6 hyq hyd d0 d1 hix hD
                 go_wp2_with fail
                 go_roundw
               all_goals first | exact ⟨i', _, by omega, rfl, by omega, HOY, HBX.out⟩ | (show ((i' : Int) - 1 + 1).toNat < ((i' : Int) + 1).toNat; omega)
             · obtain rfl : j = 0 := by omega
               obtain rfl : x = -1 := by omega
               have hyq0 : Prs wr l2 h2 (.slice aq ps.length cq) ps := hyq
               have HQ := Lib.hid hyq0
               clear hyq HY hxj
               go_wp2_with fail
               refine (samePairs_same _ _ ps _ HQ.out (HO.out.below hbq)).mono ?_
               rintro e wx ⟨rfl, hwx⟩
               have hbx := drawn_below hwx
               have HBX := Lib.hid (below_step (below_step HBW.out hbq HBW.out.size) hbx (Nat.le_trans HBW.out.size hbq.size))
               clear hwx hbx
               go_wp2_with fail
               go_ret
               exact ⟨rfl, HBX.out⟩

/-! ### THE ROW's STEP -/
set_option maxRecDepth 100000 in
theorem lifted (os : Os) (started : os.Started) (H : Type) (enc : TypeId × Value → H) :
    ReturnsInHanded {} Tryd.checked os 6 .any (fun w args => (Rows.fnApplyEmptySpec.pre enc Tryd.prog Tryd.f6 [] false w args ∧ laidMetH Tryd.prog laidL w) ∧ sizedMet enc Tryd.prog Tryd.f6 (OpenSpec.ofChange Rows.fnApplyEmptySpec) false w args)
      (Rows.fnApplyEmptySpec.post enc Tryd.prog Tryd.f6 false true false false) := by
  refine returnsInHanded_of_change_and (C := Tryd.checked) (X := fun w _ => laidMetH Tryd.prog laidL w) (fun _ _ _ hh h => h.of_heap hh) own started (by kernel_rfl) Tryd.func6
    (ChangeSpec.witness_at (enc := enc) (C := Tryd.checked) (os := os) (X := fun w _ => laidMetH Tryd.prog laidL w) false (laidWorld os) #[.slice none 0 0] 8 (laidWorld_os os) (by kernel_rfl) (by kernel_rfl) (by kernel_rfl) (by kernel_rfl) (by kernel_rfl) (laidWorld_met os _)) ?_
  intro W base args ds gs before hval0 hW _ _ hL _
  have hval : ∀ (j : Nat) t v, Tryd.f6.params[j]? = some t → args[j]? = some v → Value.okWide Tryd.prog W .any base t v := hval0
  have hW' := hW
  obtain ⟨p, q, hA0, hV, rfl, hfz, hnd⟩ := hW
  have hA : DataW.TrodAll enc Tryd.prog W 0 (fun _ => true) true Tryd.f6.params.toList args.toList ds p := hA0
  rw [Tryd.params6] at hA hval
  obtain ⟨v0, vs0, d0, ds0, p0, q0, hargs, rfl, rfl, h0, r0⟩ := trodAll_cons hA
  obtain ⟨rfl, rfl, rfl⟩ := trodAll_nil r0
  obtain rfl : args = #[v0] := by cases args; simp_all
  obtain ⟨rfl, rfl⟩ := trodVars_none hV
  obtain ⟨n0, b0⟩ := bytes_in (hval 0 _ v0 rfl rfl) h0
  have lt0 := lt_in h0
  clear hA0 hval0
  refine (walk_at W v0 n0 b0).mono fun e W' ⟨he, bel⟩ => ?_
  subst he
  exact ⟨_, rfl, _, _, _, [], _, [], hW', trodAll_mk1 (shut_bool Tryd.underlying4 _), (trodAll_cons_mk (Below.trod laidOut (by kernel_rfl) (of_decide_eq_true (by kernel_rfl)) h0 bel lt0) trodAll_mk0), rfl, bel.frame _, fun h => by cases h⟩

set_option maxRecDepth 100000 in
theorem closed : joinedFacts Tryd.prog 6 Tryd.f6 Rows.fnApplyEmptySpec Rows.fnApplyEmptyRow = true := by
  unfold joinedFacts
  rw [may, lifts, mk]
  kernel_rfl
theorem over : Rows.fnApplyEmptyRow.holds Tryd.pinned (OpenSpec.ofChange Rows.fnApplyEmptySpec) :=
  OpenClaim.holds_of_wide 6 Tryd.f6 rfl rfl rfl rfl rfl rfl rfl ⟨rfl, rfl, rfl, rfl, rfl⟩ rfl rfl rfl rfl rfl (by as_aux_lemma => kernel_rfl) Tryd.func6 closed
    (of_decide_eq_true (by as_aux_lemma => kernel_rfl)) (by unfold Func.isWrapper; rw [if_neg (of_decide_eq_false (by as_aux_lemma => kernel_rfl))]; exact ⟨rfl, rfl⟩)
    (fun os started H enc _ => lifted os started H enc)

/-- THE STATEMENT: the tied card -/
theorem proved : Rows.FnApplyEmptyCardSaid :=
  Claim7.holds_tied_plain_at .later [] [.data, .data, .data] true Rows.fnApplyEmptyCard.stood.harness true
    over (fun _ h => by cases h) (by kernel_rfl) (fun _ h => by cases h) fnApplyEmpty_row_tie rfl ⟨rfl, rfl⟩ (by kernel_rfl) rfl
    (fun f fn hf hfn => by
      obtain rfl : f = 6 := Option.some.inj ((show Tryd.prog.funcNamed "loop.example/flexquorum/laws.FnApplyEmpty" = some 6 by kernel_rfl).symm.trans hf) |>.symm
      obtain rfl : fn = Tryd.f6 := (Option.some.inj (Tryd.func6.symm.trans hfn)).symm
      exact ⟨by kernel_rfl, fun j t ht => by
        rw [Tryd.params6] at ht
        have hm := Array.mem_of_getElem? ht
        simp only [List.mem_toArray, List.mem_cons, List.not_mem_nil, or_false] at hm
        (subst hm; exact (show Tryd.prog.wantsStandIn 28 = false by kernel_rfl))⟩)
    (by kernel_rfl)
end Go.Proofs.YtlihmomopofdnaaDoor.fnApplyEmpty
