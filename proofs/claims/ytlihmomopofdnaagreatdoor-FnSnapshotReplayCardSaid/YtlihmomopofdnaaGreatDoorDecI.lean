/-
  The walk of the program's StoreDecode.
-/
import Derived.Test.YtlihmomopofdnaaGreatDoorDig
import Derived.Test.YtlihmomopofdnaaGreatDoorPrsI
namespace Go.Proofs.YtlihmomopofdnaaGreatDoor
open Go.RowKit
set_option linter.unusedVariables false

theorem flatW : ∀ ws : List ByteArray, flat encW ws = ws.map Value.string
  | [] => rfl
  | x :: r => by
    show [Value.string x] ++ flat encW r = _
    rw [flatW r]
    rfl
theorem recs_new (w : World) (ws : List ByteArray) (T : TypeId) (hn : ws.length ≤ 1048576) : Recs encW (w.alloc (.cells (ws.map Value.string).toArray T)) w.heap.size (w.alloc (.cells (ws.map Value.string).toArray T)).heap.size (.slice (some ⟨w.heap.size, 0, none⟩) ws.length ws.length) ws := by
  refine ⟨?_, Nat.le_refl _, _, _, rfl, ⟨Nat.le_refl _, by unfold maxLen; omega, fun h => by cases h⟩, fun _ => ⟨_, 0, rfl, Nat.le_refl _, (Blk.new w _ T).lt, fun j u hu => ?_⟩⟩
  · rw [flatW, List.length_map]; exact (Nat.mul_one _).symm
  · rw [flatW] at hu
    rw [Nat.zero_add]
    exact (Blk.new w _ T).cell j (by simpa using hu)
theorem words_at {t : ByteArray} {k : Nat} {x : ByteArray} (h : (words t)[k]? = some x) : x.size ≤ t.size :=
  Nat.le_trans (piece_le _ _ x (List.mem_of_getElem? h)) (inn_size t)

set_option maxRecDepth 100000 in
set_option maxHeartbeats 8000000 in
theorem implDecode_any (t : ByteArray) (w : World) (ht : t.size ≤ 1048576) (hm : Met w) :
    Calls Tryz.prog 9 #[.string t] w (RetDec t w) := by
  have HM := Lib.hid hm
  have HTS := Lib.hid ht
  have HC1 : Hid (∀ wx, Calls Tryz.prog 21 #[.string t, .string ⟨#[91]⟩] wx fun e w' => e = .returned (.tuple #[.string (mid t), .bool (pre t)]) ∧ wx = w') := Lib.hid fun wx => (Shf.strings_CutPrefix t ⟨#[91]⟩ wx).mono fun e w' h => ⟨h.1, h.2.symm⟩
  have hms : (mid t).size ≤ 1048576 := by
    have h2 : (mid t).data.toList.length ≤ t.data.toList.length := by
      unfold mid Lib.trimPrefix
      split
      · simp
      · simp
    rw [size_data, size_data] at h2
    omega
  have HC2 : Hid (∀ wx, Calls Tryz.prog 22 #[.string (mid t), .string ⟨#[93]⟩] wx fun e w' => e = .returned (.tuple #[.string (inn t), .bool (suf t)]) ∧ wx = w') := Lib.hid fun wx => (Shf.strings_CutSuffix (mid t) ⟨#[93]⟩ wx (by omega)).mono fun e w' h => ⟨h.1, h.2.symm⟩
  have HIS := Lib.hid (Nat.le_trans (inn_size t) ht)
  clear hm hms
  cases hp : pre t
  · have HD := Lib.hid (isDec_bare (.inl hp))
    have HP := Lib.hid hp
    clear hp
    replace HC1 : Hid (∀ wx, Calls Tryz.prog 21 #[.string t, .string ⟨#[91]⟩] wx fun e w' => e = .returned (.tuple #[.string (mid t), .bool false]) ∧ wx = w') := Lib.hid fun wx => by have := HC1.out wx; rwa [HP.out] at this
    go_enter Tryz.func9, Tryz.ntmps9
    go_wp2_with fail
    refine (HC1.out _).mono ?_
    rintro e w1 ⟨rfl, rfl⟩
    go_wp2_with fail
    refine (HC2.out _).mono ?_
    rintro e w1 ⟨rfl, rfl⟩
    go_wp2_with fail
    go_ret2
    exact ⟨_, [], false, rfl, HD.out, RecsO.nil _ _ _ (Nat.le_refl _), Below.refl _ _⟩
  · have HP := Lib.hid hp
    have HWL := Lib.hid (Nat.le_trans (words_le hp) ht)
    have HNE := Lib.hid (pre_ne hp)
    replace HC1 : Hid (∀ wx, Calls Tryz.prog 21 #[.string t, .string ⟨#[91]⟩] wx fun e w' => e = .returned (.tuple #[.string (mid t), .bool true]) ∧ wx = w') := Lib.hid fun wx => by have := HC1.out wx; rwa [HP.out] at this
    clear hp
    cases hf : suf t
    · have HD := Lib.hid (isDec_bare (.inr hf))
      replace HC2 : Hid (∀ wx, Calls Tryz.prog 22 #[.string (mid t), .string ⟨#[93]⟩] wx fun e w' => e = .returned (.tuple #[.string (inn t), .bool false]) ∧ wx = w') := Lib.hid fun wx => by have := HC2.out wx; rwa [hf] at this
      clear hf
      go_enter Tryz.func9, Tryz.ntmps9
      go_wp2_with fail
      refine (HC1.out _).mono ?_
      rintro e w1 ⟨rfl, rfl⟩
      go_wp2_with fail
      refine (HC2.out _).mono ?_
      rintro e w1 ⟨rfl, rfl⟩
      go_wp2_with fail
      go_ret2
      exact ⟨_, [], false, rfl, HD.out, RecsO.nil _ _ _ (Nat.le_refl _), Below.refl _ _⟩
    · replace HC2 : Hid (∀ wx, Calls Tryz.prog 22 #[.string (mid t), .string ⟨#[93]⟩] wx fun e w' => e = .returned (.tuple #[.string (inn t), .bool true]) ∧ wx = w') := Lib.hid fun wx => by have := HC2.out wx; rwa [hf] at this
      clear hf
      have HSP : Hid (Calls Tryz.prog 23 #[.string (inn t), .string ⟨#[59]⟩] w fun e w' => ∃ v, e = .returned v ∧ Recs encW w' w.heap.size w'.heap.size v (words t) ∧ Below w.heap.size w w') := Lib.hid (by
        obtain ⟨m, hmc⟩ := HM.out.ml
        refine (Shf.strings_Split (inn t) ⟨#[59]⟩ m w (by have := HIS.out; omega) hmc (Nat.le_refl 1)).mono ?_
        rintro e w' ⟨rfl, rfl⟩
        have hl : (words t).length = Lib.countB (inn t) ⟨#[59]⟩ + 1 := Lib.splitB_all ⟨#[59]⟩ (show 1 ≤ (⟨#[59]⟩ : ByteArray).size from Nat.le_refl 1) 0 _ _ rfl
        refine ⟨_, rfl, ?_, (Below.refl _ _).alloc (Nat.le_refl _) _⟩
        have := recs_new w (words t) 9 HWL.out
        rw [hl] at this
        exact this)
      have HPI := Lib.hid (show ∀ k x, (words t)[k]? = some x → x.size ≤ 1048576 from fun k x hx => Nat.le_trans (words_at hx) ht)
      obtain ⟨ws, hws⟩ : ∃ ws, words t = ws := ⟨_, rfl⟩
      rw [hws] at HSP HWL HPI
      have HWS := Lib.hid hws
      clear hws
      go_enter Tryz.func9, Tryz.ntmps9
      go_wp2_with fail
      refine (HC1.out _).mono ?_
      rintro e w1 ⟨rfl, rfl⟩
      go_wp2_with fail
      refine (HC2.out _).mono ?_
      rintro e w1 ⟨rfl, rfl⟩
      go_wp2_with fail
      refine HSP.out.mono ?_
      rintro e w1 ⟨v, rfl, hrec, hb1⟩
      obtain ⟨a, cap, rfl, hl, hcell⟩ := Recs.open elStr hrec
      have HCELL := Lib.hid hcell
      have HB1 := Lib.hid hb1
      have HM1 := Lib.hid (HM.out.below hb1)
      have hs1 := hb1.size
      clear hcell hrec hb1 HSP HC1 HC2
      have hwl := HWL.out
      as_aux_lemma =>
        go_wp2_with fail
        go_loopw [7, 34] (fun out i wr => ∃ (k : Nat) (acc : List (ByteArray × Int)), k ≤ ws.length ∧ i = .int .i64 k ∧ acc.length ≤ k ∧ Hid (Took t acc k) ∧ PrsO wr w1.heap.size wr.heap.size out acc ∧ Below w1.heap.size w1 wr) (fun _ i _ => ws.length - (intOf i).toNat)
        case atStart => exact ⟨0, [], Nat.zero_le _, rfl, Nat.le_refl _, Lib.hid (fun qs _ _ => rfl), RecsO.nil _ _ _ (Nat.le_refl _), Below.refl _ _⟩
        case round =>
          obtain ⟨k, acc, hk, rfl, hal, HT, hO, hbr⟩ := hrel
          obtain ⟨ao, co, hvo⟩ := prso_form hO
          subst hvo
          have hsr := hbr.size
          by_cases hlt : k < ws.length
          · obtain ⟨x, hx⟩ : ∃ x, ws[k]? = some x := ⟨_, List.getElem?_eq_getElem hlt⟩
            obtain ⟨b', o, _, _, hix', hc⟩ := HCELL.out k x hx
            have hix := hix' k rfl
            have d0 : wr.cell? ⟨b', o, none⟩ = some (.string x) := below_cell hbr (hc 0 _ rfl)
            have HX := Lib.hid (show (words t)[k]? = some x by rw [HWS.out]; exact hx)
            have HXS := Lib.hid (HPI.out k x hx)
            have HMR := Lib.hid (HM1.out.below hbr)
            have HCUT : Hid (Calls Tryz.prog 24 #[.string x, .string ⟨#[61]⟩] wr fun e w' => ∃ fd, e = .returned (.tuple #[.string (cutK x), .string (cutV x), .bool fd]) ∧ Below wr.heap.size wr w') := Lib.hid (by
              obtain ⟨m, hmc⟩ := HMR.out.ml
              refine (Shf.strings_Cut x ⟨#[61]⟩ m wr (by have := HXS.out; omega) hmc).mono ?_
              rintro e w' ⟨rfl, n, rfl⟩
              exact ⟨_, rfl, below_drewN (Below.refl _ _) n⟩)
            have HO := Lib.hid hO
            have HBR := Lib.hid hbr
            clear hix' hc hO hbr hx
            as_aux_lemma =>
              go_wp2_with fail
              refine HCUT.out.mono ?_
              rintro e w2 ⟨fd, rfl, hb2⟩
              have HB2 := Lib.hid (below_step HBR.out hb2 hsr)
              have HO2 := Lib.hid (PrsO.below HO.out hb2)
              have HM2 := Lib.hid (HMR.out.below hb2)
              have HCS := Lib.hid (Nat.le_trans (cutV_le x) HXS.out)
              have hs2 := hb2.size
              clear hb2 d0 hix HCUT
              as_aux_lemma =>
                go_wp2_with fail
                refine (digits_any (cutV x) _ HCS.out HM2.out).mono ?_
                rintro e w3 ⟨v, ok, rfl, hr, hb3⟩
                have HR := Lib.hid (took_next HT.out HX.out hr)
                have HB3 := Lib.hid (below_step HB2.out hb3 HB2.out.size)
                have HO3 := Lib.hid (PrsO.below HO2.out hb3)
                have hs3 := hb3.size
                clear hb3 hr
                generalize cutK x = key at *
                generalize cutV x = val at *
                cases ok
                · have HR2 : Hid (Took t acc (k + 1)) := Lib.hid (by have := HR.out; rwa [if_neg (by decide)] at this)
                  clear HR
                  go_wp2_with fail
                  go_roundw
                  case rel => exact ⟨k + 1, acc, by omega, by go_num, by omega, HR2, PrsO.wide HO3.out (Nat.le_refl _) (Nat.le_trans hs2 hs3) (Nat.le_refl _), HB3.out⟩
                  case measure => simp [intOf]; omega
                · have HR2 : Hid (Took t (acc ++ [(key, v)]) (k + 1)) := Lib.hid (by have := HR.out; rwa [if_pos rfl] at this)
                  clear HR
                  go_wp2_with (at_builtin; refine wpl_append elPair rfl _ _ rfl rfl (PrsO.below HO3.out ((Below.refl _ _).alloc (Nat.le_refl _) _)) hsr ⟨w3.heap.size, 0, none⟩ 1 1 [.string key, .int .i64 v] rfl rfl (cell_two_new _ _ _ _) (pair_one _ _) (by omega) (by unfold maxLen; omega) ?_; intro v2 w4 hown2 hk2)
                  have hsz3 : w1.heap.size ≤ w3.heap.size := HB3.out.size
                  have HO4 : Hid (PrsO w4 w1.heap.size w4.heap.size v2 (acc ++ [(key, v)])) := Lib.hid (by
                    unfold PrsO RecsO
                    rw [List.length_append, flat_append, flat_one]
                    exact hown2)
                  have HB4 := Lib.hid ((HB3.out.trans (((Below.refl w3.heap.size w3).alloc (Nat.le_refl _) _).mono hsz3)).trans (hk2.below (B := w1.heap.size) (Nat.le_refl _) (Nat.le_trans hsz3 (by simp))))
                  have HAL := Lib.hid (show (acc ++ [(key, v)]).length ≤ k + 1 by rw [List.length_append]; show acc.length + 1 ≤ _; omega)
                  clear hown2 hk2
                  go_wp2_with fail
                  go_roundw
                  case rel => exact ⟨k + 1, _, by omega, by go_num, HAL.out, HR2, HO4.out, HB4.out⟩
                  case measure => simp [intOf]; omega
          · obtain rfl : k = ws.length := by omega
            have HE := Lib.hid (took_end HT.out (by rw [HWS.out]))
            have HB2 := Lib.hid (below_step HB1.out hbr hs1)
            have HO := Lib.hid (PrsO.wide hO hs1 (Nat.le_refl _) (Nat.le_refl _))
            have hsw := HB2.out.size
            have HEN : Hid (∀ wx, wx = wr → Calls Tryz.prog 10 #[.slice ao acc.length co] wx fun e w' => e = .returned (.string (encE acc)) ∧ Below wx.heap.size wx w') := Lib.hid fun wx e => by
              subst e
              exact implEncode_any _ acc wx (PrsO.prs HO.out) (by omega)
            clear hO hbr
            go_wp2_with fail
            refine (HEN.out _ rfl).mono ?_
            rintro e w4 ⟨rfl, hb4⟩
            have HB4 := Lib.hid (below_step HB2.out hb4 hsw)
            have HO4 := Lib.hid (PrsO.wide (PrsO.below HO.out hb4) (Nat.le_refl _) hb4.size (Nat.le_refl _))
            by_cases hq : encE acc = t
            · have hne : ((encE acc).toList == t.toList) = true := by rw [hq]; simp
              have HD := Lib.hid (isDec_yes HNE.out hq)
              clear hq hb4 HEN
              generalize encE acc = enc at *
              go_wp2_with fail
              go_ret2
              exact ⟨_, acc, true, rfl, HD.out, HO4.out, HB4.out⟩
            · have hne : ((encE acc).toList == t.toList) = false := beq_eq_false_iff_ne.2 fun e => hq (bytes_inj e)
              have HD := Lib.hid (isDec_no HE.out hq)
              clear hq hb4 HEN
              generalize encE acc = enc at *
              go_wp2_with fail
              go_ret2
              exact ⟨_, [], false, rfl, HD.out, RecsO.nil _ _ _ (Nat.le_refl _), HB4.out⟩
end Go.Proofs.YtlihmomopofdnaaGreatDoor
