/-
  The walk of the program's pairs: the sorted keys of the map, each with its value.
-/
import Derived.Test.YtlihmomopofdnaaGreatDoorApp
import Derived.Test.YtlihmomopofdnaaGreatDoorIter
namespace Go.Proofs.YtlihmomopofdnaaGreatDoor
open Go.RowKit Go.Maps Go.WideMaps Go.Sort
set_option linter.unusedVariables false

theorem keys_any (mb : Option Nat) (W : World) : Calls Tryz.prog 39 #[.map mb] W fun e w' => e = .returned (.func (.func 53) #[] #[.pointer (some ⟨W.heap.size, 0, none⟩)]) ∧ w' = W.alloc (.cells #[.map mb] 45) :=
  (callsIn_wide (n := 5)).1 (maps_Keys_39 mb W)

def encS : Enc (ByteArray × Int) where
  sz := 1
  enc := fun p => [.string p.1]
  len := fun _ => rfl
  one := fun a u hu => by
    simp at hu
    subst hu
    rfl
theorem elStr : ElTy Tryz.prog 57 9 (.string ByteArray.empty) 1 16 := ⟨Tryz.underlying57, by kernel_rfl, rfl, by decide⟩
theorem flatS (ps : List (ByteArray × Int)) : flat encS ps = (ps.map (fun p => p.1.data.toList)).map encStr := by
  induction ps with
  | nil => rfl
  | cons x r ih =>
    show encS.enc x ++ flat encS r = _
    rw [ih]
    rfl
theorem sorted_any (b n : Nat) (D : DataW Unit) (ps : List (ByteArray × Int)) (w : World) (hown : Store w b n D) (hr : Rep D ps) (hs : Good ps) (hn : n ≤ 4194304) :
    Calls Tryz.prog 38 #[.func (.func 53) #[] #[.pointer (some ⟨w.heap.size, 0, none⟩)]] (w.alloc (.cells #[.map (some b)] 45)) fun e w' => ∃ v, e = .returned v ∧ RecsO encS 9 w' w.heap.size w'.heap.size v ps ∧ Below w.heap.size w w' := by
  have hsz := hown.size_le
  refine ((callsIn_wide (n := 5)).1 (slices_Sorted_keys_38_39 b n D (plainElem Tryz.prog 3) w hown (by unfold maxLen; omega) (by omega))).mono ?_
  rintro e w' ⟨v, ss, rfl, hp, hrow, hnil, hb⟩
  have hss := rep_sorted hown hr hs hp
  have hlen : ss.length = ps.length := by
    have := congrArg List.length hss
    rw [List.length_mergeSort, List.length_map] at this
    exact this
  rw [hss, hlen, ← flatS] at hrow
  have hb2 := ((Below.refl _ w).alloc (Nat.le_refl _) (.cells #[.map (some b)] 45)).trans (hb.mono (by simp))
  refine ⟨v, rfl, RecsO.wide (lo := (w.alloc (.cells #[.map (some b)] 45)).heap.size) ⟨hrow, fun g hg => (hrow.lt g hg).2, Nat.le_refl _⟩ (by simp) (Nat.le_refl _) (Nat.le_refl _), hb2⟩

set_option maxRecDepth 100000 in
set_option maxHeartbeats 8000000 in
theorem pairs_any (b n : Nat) (D : DataW Unit) (ps : List (ByteArray × Int)) (w : World) (hown : Store w b n D) (hr : Rep D ps) (hs : Good ps) (hn : n ≤ 4194304) :
    Calls Tryz.prog 18 #[.map (some b)] w (RetPairs w ps) := by
  have hl6 := good_len hs
  have HOWN := Lib.hid hown
  have HR := Lib.hid hr
  have HS := Lib.hid hs
  clear hown hr hs
  go_enter Tryz.func18, Tryz.ntmps18
  go_wp2_with fail
  refine (keys_any _ _).mono ?_
  rintro e w1 ⟨rfl, rfl⟩
  as_aux_lemma =>
    go_wp2_with fail
    refine (sorted_any b n D ps w HOWN.out HR.out HS.out hn).mono ?_
    rintro e w2 ⟨v, rfl, hks, hb⟩
    obtain ⟨a, cap, rfl, hl, hcell⟩ := Recs.open elStr (RecsO.recs hks)
    have HCELL := Lib.hid hcell; clear hcell hks
    have HB := Lib.hid hb
    have hbs := hb.size
    clear hb
    have h0 : PrsO w2 w2.heap.size w2.heap.size (.slice none 0 0) [] := RecsO.nil _ _ _ (Nat.le_refl _)
    have H0 := Lib.hid h0; clear h0
    as_aux_lemma =>
      go_wp2_with fail
      go_loopw [3, 10] (fun out i wr => ∃ (k : Nat) (acc : List (ByteArray × Int)), k ≤ ps.length ∧ i = .int .i64 k ∧ Hid (ps.take k = acc) ∧ acc.length ≤ 6 ∧ PrsO wr w2.heap.size wr.heap.size out acc ∧ Below w2.heap.size w2 wr) (fun _ i _ => ps.length - (intOf i).toNat)
      case atStart => exact ⟨0, [], Nat.zero_le _, rfl, Lib.hid rfl, by simp, H0.out, Below.refl _ _⟩
      case round =>
        obtain ⟨k, acc, hk, rfl, HA, hal, hO, hbr⟩ := hrel
        obtain ⟨_, _, ao, co, hvo, _⟩ := Own.sl hO
        subst hvo
        have hsr := hbr.size
        by_cases hlt : k < ps.length
        · obtain ⟨b', o, _, _, hix', hc⟩ := HCELL.out k _ (ps_get hlt)
          have hix := hix' k rfl
          have c0 := hc 0 _ rfl
          have d0 : wr.cell? ⟨b', o, none⟩ = some (.string (pk ps k)) := below_cell hbr c0
          have hisk := (HS.out.1 _ (List.getElem_mem hlt)).1
          rw [get_eq hlt] at hisk
          have hkey : keyOf Tryz.prog 9 (.string (pk ps k)) = some (.string (pk ps k).data.toList) := keyOf_string_mk Tryz.underlying9 (by rw [isK_size hisk]; unfold maxLen; omega)
          have hst := (HOWN.out.below HB.out).below hbr
          obtain ⟨c, hrun, hat, _⟩ := hst.lookup_int keyLaw Tryz.underlying45 Tryz.underlying3 (zeroInt _) hkey
          have hfk : findP ps (pk ps k) = (pv ps k, true) := findP_at hlt (by simp) fun j hj => beq_eq_false_iff_ne.2 (distinct (ok_of HS.out) hj hlt)
          have hcv : c = pv ps k := by
            have := (rep_at HR.out _ hat).2
            rw [hfk] at this
            exact this
          subst hcv
          have HN := Lib.hid (show ps.take (k + 1) = acc ++ [(pk ps k, pv ps k)] by rw [List.take_succ_eq_append_getElem hlt, HA.out, get_eq hlt])
          have HO := Lib.hid hO
          have HBR := Lib.hid hbr
          clear hkey hst hat hfk hisk hix' hc c0 hO hbr
          go_wp2_with (at_builtin; refine wpl_append elPair rfl _ _ rfl rfl (PrsO.below HO.out ((Below.refl _ _).alloc (Nat.le_refl _) _)) hsr ⟨wr.heap.size, 0, none⟩ 1 1 [.string (pk ps k), .int .i64 (pv ps k)] rfl rfl (cell_two_new _ _ _ _) (pair_one _ _) (by omega) (by unfold maxLen; omega) ?_; intro v2 w3 hown2 hk2)
          have HO2 : Hid (PrsO w3 w2.heap.size w3.heap.size v2 (acc ++ [(pk ps k, pv ps k)])) := Lib.hid (by
            unfold PrsO RecsO
            rw [List.length_append, flat_append, flat_one]
            exact hown2)
          have HK2 := Lib.hid ((HBR.out.trans (((Below.refl wr.heap.size wr).alloc (Nat.le_refl _) _).mono hsr)).trans (hk2.below (B := w2.heap.size) (Nat.le_refl _) (Nat.le_trans hsr (by simp))))
          have HAL := Lib.hid (show (acc ++ [(pk ps k, pv ps k)]).length ≤ 6 by rw [← HN.out]; have := List.length_take_le (k + 1) ps; have := List.length_take_le' (k + 1) ps; omega)
          clear hown2 hk2 hix d0 hrun
          go_wp2_with fail
          go_roundw
          case rel => exact ⟨k + 1, _, by omega, by go_num, HN, HAL.out, HO2.out, HK2.out⟩
          case measure => simp [intOf]; omega
        · obtain rfl : k = ps.length := by omega
          have HO := Lib.hid (show PrsO wr w.heap.size wr.heap.size (.slice ao acc.length co) ps by
            have e := HA.out
            rw [List.take_length] at e
            rw [e]
            exact PrsO.wide hO hbs (Nat.le_refl _) (Nat.le_refl _))
          have HBR := Lib.hid (HB.out.trans (hbr.mono hbs))
          clear hO hbr
          go_wp2_with fail
          go_ret
          exact ⟨_, rfl, HO.out, HBR.out⟩
end Go.Proofs.YtlihmomopofdnaaGreatDoor
