/-
  The walk of the program's StoreApplyAll.
-/
import Derived.Test.YtlihmomopofdnaaGreatDoorAll
import Derived.Test.YtlihmomopofdnaaGreatDoorAppI
namespace Go.Proofs.YtlihmomopofdnaaGreatDoor
open Go.RowKit Go.Maps Go.WideMaps
set_option linter.unusedVariables false

def RetAll (w : World) (z : List (ByteArray × Int)) (bs : List Bool) (e : Ending) (w' : World) : Prop :=
  ∃ v bv m, e = .returned (.tuple #[v, bv]) ∧ w.heap.size ≤ m ∧ m ≤ w'.heap.size ∧ BsO w' w.heap.size m bv bs ∧ PrsO w' m w'.heap.size v z ∧ Below w.heap.size w w'

set_option maxRecDepth 100000 in
set_option maxHeartbeats 16000000 in
theorem implApplyAll_any (v lv : Value) (ps : List (ByteArray × Int)) (cs : List CT) (z : List (ByteArray × Int)) (bs : List Bool) (w : World) {lo hi l1 h1 : Nat} (h : Prs w lo hi v ps) (hl : Cms w l1 h1 lv cs) (hx : ps.length ≤ 1048576) (hc : cs.length ≤ 1048576) (hks : ∀ c ∈ cs, c.2.1.size ≤ maxLen) (hz : runS ps cs = (z, bs)) :
    Calls Tryz.prog 6 #[v, lv] w (RetAll w z bs) := by
  have HKS := Lib.hid hks; clear hks
  have HL := Lib.hid hl
  obtain ⟨al, cl, rfl, hnl, hcell⟩ := Recs.open elCmd hl
  have HCELL := Lib.hid hcell; clear hcell hl
  have HH := Lib.hid h
  obtain ⟨a, cap, rfl, _⟩ := h.open
  clear h
  cases hv : storeOk ps
  · have HV := Lib.hid hv
    have HZ := Lib.hid (show ([], []) = (z, bs) by rw [← hz]; unfold runS; rw [hv]; rfl); clear hz hv
    go_enter Tryz.func6, Tryz.ntmps6
    go_wp2_with fail
    refine (readStore_any _ ps _ HH.out hx false HV.out).mono ?_
    rintro e w1 ⟨hb, h0, h1⟩
    obtain rfl := h0 rfl
    clear h0 h1
    have HB := Lib.hid hb; clear hb
    go_wp2_with fail
    go_ret2
    have e := HZ.out
    cases e
    exact ⟨.slice none 0 0, .slice none 0 0, w.heap.size, rfl, Nat.le_refl _, HB.out.size, RecsO.nil _ _ _ HB.out.size, RecsO.nil _ _ _ (Nat.le_refl _), HB.out⟩
  · have HV := Lib.hid hv
    have HG := Lib.hid (good_of hv)
    have HZ := Lib.hid (show runP ps cs = (z, bs) by rw [← hz]; unfold runS; rw [hv]; rfl); clear hz hv
    go_enter Tryz.func6, Tryz.ntmps6
    go_wp2_with fail
    refine (readStore_any _ ps _ HH.out hx true HV.out).mono ?_
    rintro e w1 ⟨hb, h0, h1⟩
    obtain ⟨rfl, hst⟩ := h1 rfl
    have HSM : Hid (SM w1 w.heap.size ps.length ps) := Lib.hid ⟨_, hst, rep_of HV.out⟩
    have HB := Lib.hid hb
    have HLT := Lib.hid (show w.heap.size < w1.heap.size from hst.lt)
    have hs1 := hb.size
    clear h0 h1 hb hst
    go_wp2_with fail
    go_loopw [8, 20] (fun out i wr => ∃ (k : Nat) (y : List (ByteArray × Int)) (ds : List Bool), k ≤ cs.length ∧ i = .int .i64 k ∧ Hid (runP ps (cs.take k) = (y, ds)) ∧ ds.length ≤ k ∧ Hid (SM wr w.heap.size (ps.length + k) y) ∧ Hid (BsO wr w1.heap.size wr.heap.size out ds) ∧ Hid (Below w.heap.size w wr) ∧ w1.heap.size ≤ wr.heap.size) (fun _ i _ => cs.length - (intOf i).toNat)
    case atStart => exact ⟨0, ps, [], Nat.zero_le _, rfl, Lib.hid rfl, by simp, HSM, Lib.hid (RecsO.nil _ _ _ (Nat.le_refl _)), HB, Nat.le_refl _⟩
    case round =>
      obtain ⟨k, y, ds, hk, rfl, HR, hdl, HS, HO, HBR, hsr⟩ := hrel
      obtain ⟨ao, co, hvo⟩ := HO.out.form
      subst hvo
      by_cases hlt : k < cs.length
      · obtain ⟨⟨op, key, val, exp⟩, hck⟩ : ∃ c, cs[k]? = some c := ⟨_, List.getElem?_eq_getElem hlt⟩
        obtain ⟨b', o, _, _, hix', hcl⟩ := HCELL.out k _ hck
        have hix := hix' k rfl
        have c0 := below_cell HBR.out (hcl 0 _ rfl)
        have c1 := below_cell HBR.out (hcl 1 _ rfl)
        have c2 := below_cell HBR.out (hcl 2 _ rfl)
        have c3 := below_cell HBR.out (hcl 3 _ rfl)
        replace c0 : wr.cell? ⟨b', o, none⟩ = some (.int .i64 op) := c0
        replace c1 : wr.cell? ⟨b', o + 1, none⟩ = some (.string key) := c1
        replace c2 : wr.cell? ⟨b', o + 2, none⟩ = some (.int .i64 val) := c2
        replace c3 : wr.cell? ⟨b', o + 3, none⟩ = some (.int .i64 exp) := c3
        have HKK := Lib.hid (show key.size ≤ maxLen from HKS.out _ (List.mem_of_getElem? hck))
        have HRN := Lib.hid (runP_step hck HR.out)
        have hgy : Good y := by have := run_good HG.out (cs.take k); rw [HR.out] at this; exact this
        have HGY := Lib.hid hgy
        have hbA : Below wr.heap.size wr (wr.alloc (.cells #[.int .i64 op, .string key, .int .i64 val, .int .i64 exp] 41)) := (Below.refl _ _).alloc (Nat.le_refl _) _
        have HSA := Lib.hid (HS.out.below hbA)
        have HOA := Lib.hid (HO.out.below hbA)
        have HBA := Lib.hid (below_step HBR.out hbA HBR.out.size)
        have hsA := hbA.size
        clear hix' hcl hck hgy hbA
        go_wp2_with fail
        generalize wr.alloc (.cells #[.int .i64 op, .string key, .int .i64 val, .int .i64 exp] 41) = wa at *
        refine (bind_any w.heap.size (ps.length + k) y op key val exp wa HSA.out HKK.out).mono ?_
        rintro e w2 ⟨hb2, hlt2, cA, cB1, cB2, t0, t1, t2⟩
        have HSM2 := Lib.hid (HSA.out.below hb2)
        have HB2 := Lib.hid (below_step HBA.out hb2 HBA.out.size)
        have HO2 := Lib.hid (HOA.out.below hb2)
        have hs2 := hb2.size
        have HA := Lib.hid cA
        have HB_1 := Lib.hid cB1
        have HB_2 := Lib.hid cB2
        clear hb2 hlt2 c0 c1 c2 c3 cA cB1 cB2 hix
        rcases bindK_le y op key exp with hkk | hkk | hkk
        · have HP := Lib.hid (apply_fail val hkk)
          obtain rfl := t0 hkk
          clear t0 t1 t2 hkk
          go_wp2_with fail
          refine (fail_any _).mono ?_
          rintro e w3 ⟨rfl, rfl⟩
          have HSM3 : Hid (SM w2 w.heap.size (ps.length + (k + 1)) y) := Lib.hid (HSM2.out.mono (by omega))
          have HB3 := HB2
          have HO3 := HO2
          have HN : Hid (runP ps (cs.take (k + 1)) = (y, ds ++ [false])) := Lib.hid (by
            rw [HRN.out]
            show ((applyP y op key val exp).1, ds ++ [(applyP y op key val exp).2]) = _
            rw [HP.out])
          have hbl : Below w2.heap.size w2 (w2.alloc (.cells #[.bool false] 4)) := (Below.refl _ _).alloc (Nat.le_refl _) _
          have HO4 := Lib.hid (BsO.below HO3.out hbl)
          have HSM4 := Lib.hid (HSM3.out.below hbl)
          have HB4 := Lib.hid (below_step HB3.out hbl HB3.out.size)
          have hs4 := hbl.size
          clear hbl
          go_wp2_with (at_builtin; refine wpl_append elBool rfl _ _ rfl rfl HO4.out (by omega) ⟨w2.heap.size, 0, none⟩ 1 1 [.bool false] rfl rfl (cell_one_bool _ _) (bool_one _) (by omega) (by unfold maxLen; omega) ?_; intro v5 w5 hown5 hk5)
          have HO5 : Hid (BsO w5 w1.heap.size w5.heap.size v5 (ds ++ [false])) := Lib.hid (by
            unfold BsO RecsO
            rw [List.length_append, flat_append, flat_one]
            exact hown5)
          have HSM5 : Hid (SM w5 w.heap.size (ps.length + (k + 1)) y) := Lib.hid (by
            obtain ⟨D, hd, hr⟩ := HSM4.out
            refine ⟨D, ?_, hr⟩
            obtain ⟨es, clock, e, F, hs, hD⟩ := hd
            exact ⟨es, clock, (hk5.block _ (by have := HB4.out.size; have := HLT.out; omega) (.inl HLT.out)).trans e, F, hs, hD⟩)
          have HB5 := Lib.hid (HB4.out.trans (hk5.below (B := w.heap.size) hs1 HB4.out.size))
          have hs5 := hk5.size
          have HDL := Lib.hid (show (ds ++ [false]).length ≤ k + 1 by rw [List.length_append]; exact Nat.succ_le_succ hdl)
          clear hown5 hk5
          go_wp2_with fail
          go_roundw
          case rel => exact ⟨k + 1, _, _, by omega, by go_num, HN, HDL.out, HSM5, HO5, HB5, by omega⟩
          case measure => simp [intOf]; omega
        · obtain ⟨hik, hp⟩ := apply_put val hkk
          have HP := Lib.hid hp
          have HIK := Lib.hid hik
          obtain rfl := t1 hkk
          clear t0 t1 t2 hkk hp hik
          go_wp2_with fail
          refine (put_any wa.heap.size (wa.heap.size + 1) w.heap.size (ps.length + k) y key val _ HA.out HB_1.out HB_2.out HSM2.out HGY.out HIK.out (by unfold maxLen; omega)).mono ?_
          rintro e w3 ⟨rfl, hsm3, hk3⟩
          have HSM3 : Hid (SM w3 w.heap.size (ps.length + (k + 1)) (if isV val = true then withP y key val else y)) := Lib.hid (hsm3.mono (by omega))
          have HB3 := Lib.hid (HB2.out.trans (hk3.below (Nat.le_refl _) HB2.out.size))
          have HO3 := Lib.hid (HO2.out.keep hk3 (.inr HLT.out))
          have hs3 := hk3.size
          clear hsm3 hk3
          have HN : Hid (runP ps (cs.take (k + 1)) = ((if isV val = true then withP y key val else y), ds ++ [isV val])) := Lib.hid (by
            rw [HRN.out]
            show ((applyP y op key val exp).1, ds ++ [(applyP y op key val exp).2]) = _
            rw [HP.out]
            cases isV val <;> rfl)
          clear HSM2 HB2 HO2
          have hbl : Below w3.heap.size w3 (w3.alloc (.cells #[.bool (isV val)] 4)) := (Below.refl _ _).alloc (Nat.le_refl _) _
          have HO4 := Lib.hid (BsO.below HO3.out hbl)
          have HSM4 := Lib.hid (HSM3.out.below hbl)
          have HB4 := Lib.hid (below_step HB3.out hbl HB3.out.size)
          have hs4 := hbl.size
          clear hbl
          go_wp2_with (at_builtin; refine wpl_append elBool rfl _ _ rfl rfl HO4.out (by omega) ⟨w3.heap.size, 0, none⟩ 1 1 [.bool (isV val)] rfl rfl (cell_one_bool _ _) (bool_one _) (by omega) (by unfold maxLen; omega) ?_; intro v5 w5 hown5 hk5)
          have HO5 : Hid (BsO w5 w1.heap.size w5.heap.size v5 (ds ++ [isV val])) := Lib.hid (by
            unfold BsO RecsO
            rw [List.length_append, flat_append, flat_one]
            exact hown5)
          have HSM5 : Hid (SM w5 w.heap.size (ps.length + (k + 1)) (if isV val = true then withP y key val else y)) := Lib.hid (by
            obtain ⟨D, hd, hr⟩ := HSM4.out
            refine ⟨D, ?_, hr⟩
            obtain ⟨es, clock, e, F, hs, hD⟩ := hd
            exact ⟨es, clock, (hk5.block _ (by have := HB4.out.size; have := HLT.out; omega) (.inl HLT.out)).trans e, F, hs, hD⟩)
          have HB5 := Lib.hid (HB4.out.trans (hk5.below (B := w.heap.size) hs1 HB4.out.size))
          have hs5 := hk5.size
          have HDL := Lib.hid (show (ds ++ [isV val]).length ≤ k + 1 by rw [List.length_append]; exact Nat.succ_le_succ hdl)
          clear hown5 hk5
          go_wp2_with fail
          go_roundw
          case rel => exact ⟨k + 1, _, _, by omega, by go_num, HN, HDL.out, HSM5, HO5, HB5, by omega⟩
          case measure => simp [intOf]; omega
        · obtain ⟨hik, hp⟩ := apply_del val hkk
          have HP := Lib.hid hp
          have HIK := Lib.hid hik
          obtain rfl := t2 hkk
          clear t0 t1 t2 hkk hp hik
          go_wp2_with fail
          refine (del_any wa.heap.size (wa.heap.size + 1) w.heap.size (ps.length + k) y key _ HA.out HB_1.out HSM2.out HIK.out).mono ?_
          rintro e w3 ⟨rfl, hsm3, hk3⟩
          have HSM3 : Hid (SM w3 w.heap.size (ps.length + (k + 1)) (withoutP y key)) := Lib.hid (hsm3.mono (by omega))
          have HB3 := Lib.hid (HB2.out.trans (hk3.below (Nat.le_refl _) HB2.out.size))
          have HO3 := Lib.hid (HO2.out.keep hk3 (.inr HLT.out))
          have hs3 := hk3.size
          clear hsm3 hk3
          have HN : Hid (runP ps (cs.take (k + 1)) = ((withoutP y key), ds ++ [true])) := Lib.hid (by
            rw [HRN.out]
            show ((applyP y op key val exp).1, ds ++ [(applyP y op key val exp).2]) = _
            rw [HP.out])
          have hbl : Below w3.heap.size w3 (w3.alloc (.cells #[.bool true] 4)) := (Below.refl _ _).alloc (Nat.le_refl _) _
          have HO4 := Lib.hid (BsO.below HO3.out hbl)
          have HSM4 := Lib.hid (HSM3.out.below hbl)
          have HB4 := Lib.hid (below_step HB3.out hbl HB3.out.size)
          have hs4 := hbl.size
          clear hbl
          go_wp2_with (at_builtin; refine wpl_append elBool rfl _ _ rfl rfl HO4.out (by omega) ⟨w3.heap.size, 0, none⟩ 1 1 [.bool true] rfl rfl (cell_one_bool _ _) (bool_one _) (by omega) (by unfold maxLen; omega) ?_; intro v5 w5 hown5 hk5)
          have HO5 : Hid (BsO w5 w1.heap.size w5.heap.size v5 (ds ++ [true])) := Lib.hid (by
            unfold BsO RecsO
            rw [List.length_append, flat_append, flat_one]
            exact hown5)
          have HSM5 : Hid (SM w5 w.heap.size (ps.length + (k + 1)) (withoutP y key)) := Lib.hid (by
            obtain ⟨D, hd, hr⟩ := HSM4.out
            refine ⟨D, ?_, hr⟩
            obtain ⟨es, clock, e, F, hs, hD⟩ := hd
            exact ⟨es, clock, (hk5.block _ (by have := HB4.out.size; have := HLT.out; omega) (.inl HLT.out)).trans e, F, hs, hD⟩)
          have HB5 := Lib.hid (HB4.out.trans (hk5.below (B := w.heap.size) hs1 HB4.out.size))
          have hs5 := hk5.size
          have HDL := Lib.hid (show (ds ++ [true]).length ≤ k + 1 by rw [List.length_append]; exact Nat.succ_le_succ hdl)
          clear hown5 hk5
          go_wp2_with fail
          go_roundw
          case rel => exact ⟨k + 1, _, _, by omega, by go_num, HN, HDL.out, HSM5, HO5, HB5, by omega⟩
          case measure => simp [intOf]; omega
      · obtain rfl : k = cs.length := by omega
        have HRF := Lib.hid (show runP ps cs = (y, ds) by have := HR.out; rwa [List.take_length] at this)
        obtain ⟨D, hst, hrep⟩ := HS.out
        have HST := Lib.hid hst
        have HREP := Lib.hid hrep
        have hgy : Good y := by have := run_good HG.out cs; rw [HRF.out] at this; exact this
        have HGY := Lib.hid hgy
        clear hst hrep hgy
        go_wp2_with fail
        refine (pairs_any w.heap.size (ps.length + cs.length) D _ _ HST.out HREP.out HGY.out (by omega)).mono ?_
        rintro e w4 ⟨v4, rfl, o4, hb4⟩
        have HO4 := Lib.hid (BsO.wide (lo' := w.heap.size) (BsO.below HO.out hb4) (by omega) (Nat.le_refl _) hb4.size)
        have HP4 := Lib.hid o4
        have HB4 := Lib.hid (below_step HBR.out hb4 HBR.out.size)
        have hs4 := hb4.size
        clear o4 hb4
        go_wp2_with fail
        go_ret2
        have e := HRF.out.symm.trans HZ.out
        cases e
        exact ⟨v4, _, wr.heap.size, rfl, by omega, hs4, HO4.out, HP4.out, HB4.out⟩
end Go.Proofs.YtlihmomopofdnaaGreatDoor
