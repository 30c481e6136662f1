/-
  The walk of the reference's StoreApplyAll.
-/
import Derived.Test.YtlihmomopofdnaaGreatDoorAllI
import Derived.Test.YtlihmomopofdnaaGreatDoorAppS
namespace Go.Proofs.YtlihmomopofdnaaGreatDoor
open Go.RowKit
set_option linter.unusedVariables false

def RetAllS (w : World) (z : List (ByteArray × Int)) (bs : List Bool) (e : Ending) (w' : World) : Prop :=
  ∃ v bv, e = .returned (.tuple #[v, bv]) ∧ Prs w' w.heap.size w'.heap.size v z ∧ Bs w' w.heap.size w'.heap.size bv bs ∧ Below w.heap.size w w'
theorem l32Apply_eq (v : Value) (ps : List (ByteArray × Int)) (op : Int) (key : ByteArray) (val exp : Int) (zs : List (ByteArray × Int)) (zb : Bool) (w : World) {lo hi : Nat} (h : Prs w lo hi v ps) (hx : ps.length ≤ 1048576) (hz : applyP ps op key val exp = (zs, zb)) :
    Calls Tryz.prog 15 #[v, .agg #[.int .i64 op, .string key, .int .i64 val, .int .i64 exp]] w fun e w' => ∃ v, e = .returned (.tuple #[v, .bool zb]) ∧ PrsO w' w.heap.size w'.heap.size v zs ∧ Below w.heap.size w w' := by
  have := l32Apply_any v ps op key val exp w h hx
  rw [hz] at this
  exact this
theorem Prs.form {w : World} {lo hi : Nat} {v : Value} {ps : List (ByteArray × Int)} (h : Prs w lo hi v ps) : ∃ a c, v = .slice a ps.length c := by
  obtain ⟨_, _, a, cap, hv, _⟩ := h
  exact ⟨a, cap, hv⟩

set_option maxRecDepth 100000 in
set_option maxHeartbeats 16000000 in
theorem specApplyAll_any (v lv : Value) (ps : List (ByteArray × Int)) (cs : List CT) (z : List (ByteArray × Int)) (bs : List Bool) (w : World) {lo hi l1 h1 : Nat} (h : Prs w lo hi v ps) (hl : Cms w l1 h1 lv cs) (hx : ps.length ≤ 1048576) (hc : cs.length ≤ 1048576) (hz : runS ps cs = (z, bs)) :
    Calls Tryz.prog 5 #[v, lv] w (RetAllS w z bs) := by
  obtain ⟨al, cl, rfl, hnl, hcell⟩ := Recs.open elCmd hl
  have HCELL := Lib.hid hcell; clear hcell hl
  obtain ⟨a, cap, rfl, _⟩ := h.open
  have hbd : Below w.heap.size w (w.alloc (.cells #[] 4)) := (Below.refl _ _).alloc (Nat.le_refl _) _
  have HD0 : Hid (BsO (w.alloc (.cells #[] 4)) w.heap.size (w.alloc (.cells #[] 4)).heap.size (.slice (some ⟨w.heap.size, 0, none⟩) 0 0) []) := Lib.hid (RecsO.empty _ _ (Nat.le_refl _))
  have HH := Lib.hid (h.below hbd)
  have HBD := Lib.hid hbd
  clear h hbd
  go_enter Tryz.func5, Tryz.ntmps5
  go_wp2_with fail
  generalize w.alloc (.cells #[] 4) = wd at *
  cases hv : storeOk ps
  · have HV := Lib.hid hv
    have HZ := Lib.hid (show ([], []) = (z, bs) by rw [← hz]; unfold runS; rw [hv]; rfl); clear hz hv
    refine (specStoreValid_any _ ps _ HH.out false HV.out).mono ?_
    rintro e w1 ⟨rfl, hw⟩
    have hb1 := drawn_below hw
    have HB := Lib.hid (below_step HBD.out hb1 HBD.out.size)
    have HD1 := Lib.hid (BsO.below HD0.out hb1)
    have hs1 := hb1.size
    clear hw hb1
    go_wp2_with fail
    go_ret2
    have e := HZ.out
    cases e
    have hbl : Below w1.heap.size w1 (w1.alloc (.cells #[] 52)) := (Below.refl _ _).alloc (Nat.le_refl _) _
    exact ⟨_, _, rfl, Recs.wide (RecsO.recs (RecsO.empty w1 w1.heap.size (Nat.le_refl _))) HB.out.size (Nat.le_refl _) (Nat.le_refl _), Recs.wide (BsO.below HD1.out hbl).bool (Nat.le_refl _) (Nat.le_trans hs1 hbl.size) (Nat.le_refl _), below_step HB.out hbl HB.out.size⟩
  · have HV := Lib.hid hv
    have HG := Lib.hid (good_of hv)
    have HZ := Lib.hid (show runP ps cs = (z, bs) by rw [← hz]; unfold runS; rw [hv]; rfl); clear hz hv
    refine (specStoreValid_any _ ps _ HH.out true HV.out).mono ?_
    rintro e w1 ⟨rfl, hw⟩
    have hb1 := drawn_below hw
    have HB := Lib.hid (below_step HBD.out hb1 HBD.out.size)
    have hP1 := HH.out.below hb1
    have hD1 := BsO.wide (BsO.below HD0.out hb1) (Nat.le_refl _) hb1.size (Nat.le_refl _)
    have hbA : Below w1.heap.size w1 (w1.alloc (.cells #[] 52)) := (Below.refl _ _).alloc (Nat.le_refl _) _
    have hnil := Own.empty w1 w1.heap.size 52 2 (Nat.le_refl _)
    have hsrc : Sl (w1.alloc (.cells #[] 52)) lo hi (.slice a ps.length cap) ps.length 2 (flat encP ps) := Prs.below hP1 hbA
    have hone := flat_all encP ps
    have HD1 := Lib.hid hD1
    clear hw hb1 hP1 hD1
    as_aux_lemma =>
      go_wp2_with (at_builtin; refine wpl_append_all elPair rfl _ _ rfl rfl hnil hbA.size rfl hsrc hone (by omega) (by unfold maxLen; omega) ?_; intro vs w2 hown2 hk2)
      have hb2 := hbA.trans (hk2.below (Nat.le_refl _) hbA.size)
      have HO2 : Hid (Prs w2 w1.heap.size w2.heap.size vs ps) := Lib.hid (PrsO.prs (by
        unfold PrsO RecsO
        rw [Nat.zero_add, List.nil_append] at hown2
        exact hown2))
      have HD2 := Lib.hid (BsO.below HD1.out hb2)
      have HB2 := Lib.hid (below_step HB.out hb2 HB.out.size)
      have hs1 := HB.out.size
      have hs2 := hb2.size
      clear hbA hnil hsrc hone hown2 hk2 hb2
      go_loopw [6, 7, 8] (fun dn out i wr => ∃ (k : Nat) (y : List (ByteArray × Int)) (ds : List Bool), k ≤ cs.length ∧ i = .int .i64 k ∧ Hid (runP ps (cs.take k) = (y, ds)) ∧ ds.length ≤ k ∧ Hid (Prs wr w.heap.size wr.heap.size out y) ∧ Hid (BsO wr w.heap.size wr.heap.size dn ds) ∧ Hid (Below w.heap.size w wr) ∧ w2.heap.size ≤ wr.heap.size) (fun _ _ i _ => cs.length - (intOf i).toNat)
      case atStart => exact ⟨0, ps, [], Nat.zero_le _, rfl, Lib.hid rfl, by simp, Lib.hid (Recs.wide HO2.out hs1 (Nat.le_refl _) (Nat.le_refl _)), Lib.hid (BsO.wide HD2.out (Nat.le_refl _) hs2 (Nat.le_refl _)), HB2, Nat.le_refl _⟩
      case round =>
        obtain ⟨k, y, ds, hk, rfl, HR, hdl, HS, HO, HBR, hsr⟩ := hrel
        obtain ⟨ao, co, hvo⟩ := HO.out.form
        subst hvo
        obtain ⟨ay, cy, hvy⟩ := Prs.form HS.out
        subst hvy
        have hsw := HBR.out.size
        by_cases hlt : k < cs.length
        · obtain ⟨⟨op, key, val, exp⟩, hck⟩ : ∃ c, cs[k]? = some c := ⟨_, List.getElem?_eq_getElem hlt⟩
          obtain ⟨b', o, _, _, hix', hcl⟩ := HCELL.out k _ hck
          have hix := hix' k rfl
          have c0 := below_cell HBR.out (hcl 0 _ rfl)
          have c1 := below_cell HBR.out (hcl 1 _ rfl)
          have c2 := below_cell HBR.out (hcl 2 _ rfl)
          have c3 := below_cell HBR.out (hcl 3 _ rfl)
          replace c0 : wr.cell? ⟨b', o, none⟩ = some (.int .i64 op) := c0
          replace c1 : wr.cell? ⟨b', o + 1, none⟩ = some (.string key) := c1
          replace c2 : wr.cell? ⟨b', o + 2, none⟩ = some (.int .i64 val) := c2
          replace c3 : wr.cell? ⟨b', o + 3, none⟩ = some (.int .i64 exp) := c3
          obtain ⟨yz, yb, hyz⟩ : ∃ yz yb, applyP y op key val exp = (yz, yb) := ⟨_, _, rfl⟩
          have HRN := Lib.hid (show runP ps (cs.take (k + 1)) = (yz, ds ++ [yb]) by
            rw [runP_step hck HR.out]
            show ((applyP y op key val exp).1, ds ++ [(applyP y op key val exp).2]) = _
            rw [hyz])
          have HYZ := Lib.hid hyz
          have hgy : Good y := by have := run_good HG.out (cs.take k); rw [HR.out] at this; exact this
          have HYL := Lib.hid (Nat.le_trans (good_len hgy) (show 6 ≤ 1048576 by decide))
          clear hix' hcl hck hgy hyz
          go_wp2_with fail
          refine (l32Apply_eq _ y op key val exp yz yb _ HS.out HYL.out HYZ.out).mono ?_
          rintro e w3 ⟨v3, rfl, o3, hb3⟩
          obtain ⟨a3, c3', hv3⟩ := Prs.form o3.prs
          subst hv3
          have hbl : Below w3.heap.size w3 (w3.alloc (.cells #[.bool yb] 4)) := (Below.refl _ _).alloc (Nat.le_refl _) _
          have HO4 := Lib.hid (BsO.below (BsO.below HO.out hb3) hbl)
          have HP4 := Lib.hid (Prs.below o3.prs hbl)
          have HB4 := Lib.hid (below_step (below_step HBR.out hb3 HBR.out.size) hbl (Nat.le_trans HBR.out.size hb3.size))
          have hs3 := hb3.size
          have hs4 := hbl.size
          clear hbl hb3 o3 c0 c1 c2 c3 hix
          as_aux_lemma =>
            go_wp2_with (at_builtin; refine wpl_append elBool rfl _ _ rfl rfl HO4.out hsw ⟨w3.heap.size, 0, none⟩ 1 1 [.bool yb] rfl rfl (cell_one_bool _ _) (bool_one _) (by omega) (by unfold maxLen; omega) ?_; intro v5 w5 hown5 hk5)
            have HO5 : Hid (BsO w5 w.heap.size w5.heap.size v5 (ds ++ [yb])) := Lib.hid (by
              unfold BsO RecsO
              rw [List.length_append, flat_append, flat_one]
              exact hown5)
            have HP5 := Lib.hid (Recs.wide (lo' := w.heap.size) (Recs.keep HP4.out hk5 (.inr (Nat.le_refl _))) hsw (Nat.le_trans hs4 hk5.size) (Nat.le_refl _))
            have HB5 := Lib.hid (HB4.out.trans (hk5.below (B := w.heap.size) (Nat.le_refl _) HB4.out.size))
            have hs5 := hk5.size
            have HDL := Lib.hid (show (ds ++ [yb]).length ≤ k + 1 by rw [List.length_append]; exact Nat.succ_le_succ hdl)
            clear hown5 hk5
            go_wp2_with fail
            go_roundw
            case rel => exact ⟨k + 1, _, _, by omega, by go_num, HRN, HDL.out, HP5, HO5, HB5, by omega⟩
            case measure => simp [intOf]; omega
        · obtain rfl : k = cs.length := by omega
          have HRF := Lib.hid (show runP ps cs = (y, ds) by have := HR.out; rwa [List.take_length] at this)
          go_wp2_with fail
          go_ret2
          have e := HRF.out.symm.trans HZ.out
          cases e
          exact ⟨_, _, rfl, HS.out, HO.out.bool, HBR.out⟩
end Go.Proofs.YtlihmomopofdnaaGreatDoor
