/-
  The walk of the reference's StoreDecode.
-/
import Derived.Test.YtlihmomopofdnaaDoorDecS
namespace Go.Proofs.YtlihmomopofdnaaDoor
open Go.RowKit
set_option linter.unusedVariables false

def RetDec (t : ByteArray) (w : World) (e : Ending) (w' : World) : Prop := ∃ v ps ok, e = .returned (.tuple #[v, .bool ok]) ∧ IsDec t ps ok ∧ PrsO w' w.heap.size w'.heap.size v ps ∧ Below w.heap.size w w'
theorem prso_form {w : World} {lo hi : Nat} {v : Value} {ps : List (ByteArray × Int)} (h : PrsO w lo hi v ps) : ∃ a c, v = .slice a ps.length c := by
  obtain ⟨_, _, a, c, hv, _⟩ := Own.sl h
  exact ⟨a, c, hv⟩
theorem cut_run (t : ByteArray) (i : Nat) (z : Int) (hz : z = (i : Int)) (hi : i < t.size) (w : World) : (Instr.slice 9 (.string t) (some (.int .i64 z)) (some (.int .i64 (z + 1))) none).run Tryd.prog w = .ok (.string (t.extract i (i + 1))) w := by
  subst hz
  rw [run_slice_string w 9 t .i64 .i64 _ _ Tryd.underlying9 (by omega) (by omega) (by omega)]
  have e1 : ((i : Int)).toNat = i := by omega
  have e2 : ((i : Int) + 1).toNat = i + 1 := by omega
  rw [e1, e2]

set_option maxRecDepth 100000 in
set_option maxHeartbeats 8000000 in
theorem specDecode_any (t : ByteArray) (w : World) (ht : t.size ≤ 1048576) :
    Calls Tryd.prog 8 #[.string t] w (RetDec t w) := by
  have hb1 : Below w.heap.size w (w.alloc (.cells #[] 43)) := (Below.refl _ _).alloc (Nat.le_refl _) _
  have hO : PrsO (w.alloc (.cells #[] 43)) w.heap.size (w.alloc (.cells #[] 43)).heap.size (.slice (some ⟨w.heap.size, 0, none⟩) 0 0) [] := RecsO.empty _ _ (Nat.le_refl _)
  have HB1 := Lib.hid hb1
  have HO := Lib.hid hO
  have HTS := Lib.hid ht
  clear hb1 hO
  go_enter Tryd.func8, Tryd.ntmps8
  go_wp2_with fail
  go_loopw [4, 5] (fun out a wr => ∃ (i : Nat) (acc : List (ByteArray × Int)), a = .int .i64 i ∧ 1 ≤ i ∧ i ≤ t.size + 1 ∧ acc.length + 1 ≤ i ∧ Hid (ReadTo t acc i) ∧ PrsO wr w.heap.size wr.heap.size out acc ∧ Below w.heap.size w wr) (fun _ a _ => t.size + 1 - (intOf a).toNat)
  case atStart => exact ⟨1, [], rfl, Nat.le_refl _, by omega, Nat.le_refl _, Lib.hid (readTo_start t), HO.out, HB1.out⟩
  case round =>
    obtain ⟨i, acc, rfl, h1, h2, hal, HR, hO, hb⟩ := hrel
    obtain ⟨ao, co, hvo⟩ := prso_form hO
    subst hvo
    have hsr := hb.size
    have hw2 : IntKind.i64.wrap ((i : Int) + 2) = (i : Int) + 2 := wrap_i64 (by omega) (by omega)
    have hw1 : IntKind.i64.wrap ((i : Int) + 1) = (i : Int) + 1 := wrap_i64 (by omega) (by omega)
    have e0 : (0 : Int) < (i : Int) := by omega
    by_cases hlt : i + 2 < t.size
    · have e1 : (i : Int) + 2 < (t.size : Int) := by omega
      have HC : Hid (∀ wx, Calls Tryd.prog 23 #[.string t, .int .i64 ((i : Int) + 2)] wx fun e w' => ∃ k, StopK t (i + 2) k ∧ i + 2 + k ≤ t.size ∧ valK t (i + 2) k ≤ 99 ∧ e = .returned (.tuple #[.int .i64 (valK t (i + 2) k : Nat), .int .i64 ((i + 2 + k : Nat) : Int)]) ∧ Below wx.heap.size wx w') := Lib.hid fun wx => l32Num_any t (i + 2) wx (by omega) ht
      have hsl := cut_run t i i rfl (by omega)
      have HO := Lib.hid hO
      have HB := Lib.hid hb
      clear hO hb
      as_aux_lemma =>
        go_wp2_with fail
        refine (HC.out _).mono ?_
        rintro e w3 ⟨k, hk, hks, hv, rfl, hb3⟩
        have HRN := Lib.hid (readTo_next HR.out hlt hk)
        obtain ⟨x, hx⟩ : ∃ x, valK t (i + 2) k = x := ⟨_, rfl⟩
        obtain ⟨p, hp⟩ : ∃ p, i + 2 + k = p := ⟨_, rfl⟩
        rw [hx, hp] at HRN
        rw [hx] at hv
        rw [hx, hp]
        have hip : i + 2 ≤ p := by omega
        have hpt : p ≤ t.size := by omega
        have hwp : IntKind.i64.wrap ((p : Int) + 1) = (p : Int) + 1 := wrap_i64 (by omega) (by omega)
        have hO3 := PrsO.below HO.out hb3
        have hB3 := below_step HB.out hb3 hsr
        have HO3 := Lib.hid hO3
        have HB3 := Lib.hid hB3
        have hs3 := hB3.size
        clear hx hp hk hks hb3 hO3 hB3 HC
        generalize t.extract i (i + 1) = key at *
        go_wp2_with (at_builtin; refine wpl_append elPair rfl _ _ rfl rfl (PrsO.below HO3.out ((Below.refl _ _).alloc (Nat.le_refl _) _)) hsr ⟨w3.heap.size, 0, none⟩ 1 1 [.string key, .int .i64 (x : Int)] rfl rfl (cell_two_new _ _ _ _) (pair_one _ _) (by omega) (by unfold maxLen; omega) ?_; intro v2 w4 hown2 hk2)
        have HO4 : Hid (PrsO w4 w.heap.size w4.heap.size v2 (acc ++ [(key, (x : Int))])) := Lib.hid (by
          unfold PrsO RecsO
          rw [List.length_append, flat_append, flat_one]
          exact hown2)
        have HB4 := Lib.hid ((HB3.out.trans (((Below.refl w3.heap.size w3).alloc (Nat.le_refl _) _).mono hs3)).trans (hk2.below (B := w.heap.size) (Nat.le_refl _) (Nat.le_trans hs3 (by simp))))
        have HAL := Lib.hid (show (acc ++ [(key, (x : Int))]).length + 1 ≤ p + 1 by rw [List.length_append]; show acc.length + 1 + 1 ≤ _; omega)
        clear hown2 hk2 hsl
        go_wp2_with fail
        go_roundw
        case rel => exact ⟨p + 1, _, by go_num, by omega, by omega, HAL.out, HRN, HO4.out, HB4.out⟩
        case measure => simp [intOf]; omega
    · have e1 : ¬ (i : Int) + 2 < (t.size : Int) := by omega
      have HE := Lib.hid (readTo_end HR.out hlt)
      have HO := Lib.hid hO
      have HB := Lib.hid hb
      have hE : PrsO (wr.alloc (.cells #[] 43)) wr.heap.size (wr.alloc (.cells #[] 43)).heap.size (.slice (some ⟨wr.heap.size, 0, none⟩) 0 0) [] := RecsO.empty _ _ (Nat.le_refl _)
      have HEM := Lib.hid hE
      clear hO hb hE
      by_cases h0 : t = ⟨#[]⟩
      · have hz0 : (t.toList == []) = true := by rw [h0, Lib.toList_data]; rfl
        have hz1 : (t.toList == (⟨#[]⟩ : ByteArray).toList) = true := by rw [h0]; simp
        have HD := Lib.hid (show IsDec t [] false by rw [h0]; exact isDec_empty)
        clear h0
        go_wp2_with fail
        go_ret2
        exact ⟨_, [], false, rfl, HD.out, PrsO.wide HEM.out hsr (Nat.le_refl _) (Nat.le_refl _), HB.out.alloc hsr _⟩
      · have hz1 : (t.toList == (⟨#[]⟩ : ByteArray).toList) = false := beq_eq_false_iff_ne.2 fun e => h0 (bytes_inj e)
        have hz0 : (t.toList == []) = false := by
          rw [show (⟨#[]⟩ : ByteArray).toList = [] from by rw [Lib.toList_data]] at hz1
          exact hz1
        have HEN : Hid (∀ wx, wx = wr → Calls Tryd.prog 18 #[.slice ao acc.length co] wx fun e w' => e = .returned (.string (encE acc)) ∧ Below wx.heap.size wx w') := Lib.hid fun wx e => by
          subst e
          exact specEncode_any _ acc wx (PrsO.prs HO.out) (by omega)
        have HT0 := Lib.hid h0
        clear h0
        go_wp2_with fail
        refine (HEN.out _ rfl).mono ?_
        rintro e w4 ⟨rfl, hb4⟩
        have HB4 := Lib.hid (below_step HB.out hb4 hsr)
        have hs4 := HB4.out.size
        have HO4 := Lib.hid (PrsO.wide (PrsO.below HO.out hb4) (Nat.le_refl _) hb4.size (Nat.le_refl _))
        by_cases hq : encE acc = t
        · have hne : ((encE acc).toList == t.toList) = true := by rw [hq]; simp
          have HD := Lib.hid (isDec_yes HT0.out hq)
          clear hq hb4 HEN
          generalize encE acc = enc at *
          go_wp2_with fail
          go_ret2
          exact ⟨_, acc, true, rfl, HD.out, HO4.out, HB4.out⟩
        · have hne : ((encE acc).toList == t.toList) = false := beq_eq_false_iff_ne.2 fun e => hq (bytes_inj e)
          have HD := Lib.hid (isDec_no HE.out hq)
          have hE4 : PrsO (w4.alloc (.cells #[] 43)) w4.heap.size (w4.alloc (.cells #[] 43)).heap.size (.slice (some ⟨w4.heap.size, 0, none⟩) 0 0) [] := RecsO.empty _ _ (Nat.le_refl _)
          have HE4 := Lib.hid hE4
          clear hq hb4 HEN hE4
          generalize encE acc = enc at *
          go_wp2_with fail
          go_ret2
          exact ⟨_, [], false, rfl, HD.out, PrsO.wide HE4.out hs4 (Nat.le_refl _) (Nat.le_refl _), HB4.out.alloc hs4 _⟩
end Go.Proofs.YtlihmomopofdnaaDoor
