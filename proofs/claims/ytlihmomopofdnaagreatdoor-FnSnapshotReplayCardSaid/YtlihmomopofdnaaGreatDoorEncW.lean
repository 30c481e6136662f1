/-
  The walks of StoreEncode, the reference's and the program's.
-/
import Derived.Test.YtlihmomopofdnaaGreatDoorEnc
import Derived.Test.YtlihmomopofdnaaGreatDoorMapS
import Derived.Test.YtlihmomopofdnaaGreatDoorStoreR
import Derived.Test.YtlihmomopofdnaaGreatDoorShelf
import Derived.Test.YtlihmomopofdnaaGreatDoorStp
import Derived.Deep.RegionHeld3
namespace Go.Proofs.YtlihmomopofdnaaGreatDoor
open Go.RowKit
set_option linter.unusedVariables false

def encW : Enc ByteArray where
  sz := 1
  enc := fun s => [.string s]
  len := fun _ => rfl
  one := fun a u hu => by
    simp at hu
    subst hu
    rfl
theorem str_one (s : ByteArray) : ∀ u ∈ [Value.string s], u.oneCell' = true := encW.one s
theorem itoa_num (n : Nat) (h : n < 100) (w : World) : Calls Tryz.prog 27 #[.int .i64 n] w fun e w' => e = .returned (.string (num n)) ∧ w' = w := by
  have := Shf.strconv_Itoa_small n h w
  rwa [num_digits h] at this
theorem join_size {ps : List (ByteArray × Int)} (hs : Good ps) : (Lib.join (wordsL ps) [59]).length ≤ 30 := by
  have h1 := accE_join ps ps.length (Nat.le_refl _)
  have h2 := accE_size hs ps.length (Nat.le_refl _)
  have h3 := congrArg List.length h1
  rw [List.take_length, List.length_cons, Array.length_toList] at h3
  have h4 := good_len hs
  have h5 : (accE ps ps.length).size = (accE ps ps.length).data.size := rfl
  omega
theorem joinW (ps : List (ByteArray × Int)) (v : Value) (w : World) {lo hi : Nat} (hs : Good ps) (h : Recs encW w lo hi v (ps.map word)) :
    Calls Tryz.prog 28 #[v, .string ⟨#[59]⟩] w fun e w' => e = .returned (.string ⟨(Lib.join (wordsL ps) [59]).toArray⟩) ∧ Below w.heap.size w w' := by
  have hjs := join_size hs
  obtain ⟨hl, hh, a, cap, rfl, hn, hc⟩ := h
  by_cases h0 : 0 < (ps.map word).length
  · obtain ⟨b, off, rfl, h1, h2, hcell⟩ := hc h0
    have := Shf.strings_Join b off cap (ps.map word) ⟨#[59]⟩ w (fun j x hx => by
      have := flat_get encW (ps.map word) j x hx 0 (by decide)
      have h3 := hcell (j * 1 + 0) (.string x) (this.trans rfl)
      rw [show off + (j * 1 + 0) = off + j by omega] at h3
      exact h3) (by omega) (by rw [List.length_map]; have := good_len hs; omega) hn.1 (by
        show (Lib.join (wordsL ps) [59]).length ≤ _
        omega)
    exact this
  · have hp : ps = [] := by
      cases ps with
      | nil => rfl
      | cons x r => exact absurd (Nat.succ_pos _) h0
    subst hp
    refine (Shf.strings_Join_none a cap ⟨#[59]⟩ w).mono ?_
    rintro e w' ⟨rfl, rfl⟩
    exact ⟨rfl, Below.refl _ _⟩

set_option maxRecDepth 100000 in
set_option maxHeartbeats 8000000 in
theorem implEncode_any (v : Value) (ps : List (ByteArray × Int)) (w : World) {lo hi : Nat} (h : Prs w lo hi v ps) (hx : ps.length ≤ 1048576) :
    Calls Tryz.prog 10 #[v] w fun e w' => e = .returned (.string (encE ps)) ∧ Below w.heap.size w w' := by
  cases hv : storeOk ps
  · have HV := Lib.hid hv
    have HZ := Lib.hid (show encE ps = ⟨#[]⟩ by unfold encE; rw [hv]; rfl); clear hv
    go_enter Tryz.func10, Tryz.ntmps10
    go_wp2_with fail
    refine (implStoreValid_any v ps _ h hx false HV.out).mono ?_
    rintro e w1 ⟨rfl, hb⟩
    go_wp2_with fail
    go_ret
    exact ⟨by rw [HZ.out]; rfl, hb⟩
  · have HV := Lib.hid hv
    have HG := Lib.hid (good_of hv)
    have HZ := Lib.hid (show encE ps = textE ps by unfold encE; rw [hv]; rfl); clear hv
    obtain ⟨a, cap, rfl, hn, hcell⟩ := h.open
    have HCELL := Lib.hid hcell; clear hcell
    have hl6 := good_len HG.out
    go_enter Tryz.func10, Tryz.ntmps10
    go_wp2_with fail
    refine (implStoreValid_any _ ps _ h hx true HV.out).mono ?_
    rintro e w1 ⟨rfl, hb1⟩
    have HB := Lib.hid hb1
    have hs1 := hb1.size
    clear hb1 h
    go_wp2_with fail
    go_loopw [3, 11] (fun out i wr => ∃ (k : Nat) (acc : List ByteArray), k ≤ ps.length ∧ i = .int .i64 k ∧ Hid ((ps.take k).map word = acc) ∧ acc.length ≤ 6 ∧ RecsO encW 9 wr w1.heap.size wr.heap.size out acc ∧ Below w1.heap.size w1 wr) (fun _ i _ => ps.length - (intOf i).toNat)
    case atStart => exact ⟨0, [], Nat.zero_le _, rfl, Lib.hid rfl, by simp, RecsO.nil _ _ _ (Nat.le_refl _), Below.refl _ _⟩
    case round =>
      obtain ⟨k, acc, hk, rfl, HA, hal, hO, hb⟩ := hrel
      obtain ⟨_, _, ao, co, hvo, _⟩ := Own.sl hO
      subst hvo
      have hsr := hb.size
      by_cases hlt : k < ps.length
      · obtain ⟨b, o, _, _, hi', c0, c1⟩ := HCELL.out k hlt
        have hix := hi' k rfl
        have hbw := below_step HB.out hb HB.out.size
        have d0 := below_cell hbw c0
        have d1 := below_cell hbw c1
        have h1 := HG.out.1 _ (List.getElem_mem hlt)
        rw [get_eq hlt] at h1
        have hv := inB_true h1.2
        obtain ⟨x, hxv⟩ : ∃ x : Nat, pv ps k = (x : Int) := ⟨(pv ps k).toNat, by have := hv.1; replace this : 1 ≤ pv ps k := this; omega⟩
        have hx99 : x < 100 := by have := hv.2; replace this : pv ps k ≤ 99 := this; omega
        have hks : (pk ps k).size = 1 := isK_size h1.1
        have hns := num_size hx99
        have HN := Lib.hid (show (ps.take (k + 1)).map word = acc ++ [((pk ps k ++ ⟨#[61]⟩) ++ num x)] by
          rw [List.take_succ_eq_append_getElem hlt, get_eq hlt, List.map_append, HA.out, hxv]
          rfl)
        have HAL := Lib.hid (show (acc ++ [((pk ps k ++ ⟨#[61]⟩) ++ num x)]).length ≤ 6 by rw [← HN.out, List.length_map, List.length_take]; omega)
        rw [hxv] at d1
        have hl1 : ¬ 9223372036854775807 < (pk ps k).size + 1 := by omega
        have hl1' : ¬ 9223372036854775807 < (pk ps k).size + (⟨#[61]⟩ : ByteArray).size := by have : (⟨#[61]⟩ : ByteArray).size = 1 := rfl; omega
        have hl2 : ¬ 9223372036854775807 < (pk ps k).size + 1 + (num x).size := by omega
        have hl2' : ¬ 9223372036854775807 < (pk ps k ++ ⟨#[61]⟩).size + (num x).size := by rw [ByteArray.size_append]; have : (⟨#[61]⟩ : ByteArray).size = 1 := rfl; omega
        have HDEC : Hid (∀ wx, Calls Tryz.prog 27 #[.int .i64 (x : Int)] wx fun e w' => e = .returned (.string (num x)) ∧ w' = wx) := Lib.hid fun wx => itoa_num x hx99 wx
        clear hi' c0 c1 h1 hv hxv hks hns hbw hx
        generalize num x = nm at *
        generalize pk ps k = key at *
        have kP := Blk.new wr #[.string key, .int .i64 (x : Int)] 52
        have hbP : Below wr.heap.size wr (wr.alloc (.cells #[.string key, .int .i64 (x : Int)] 52)) := (Below.refl _ _).alloc (Nat.le_refl _) _
        have p0 : (wr.alloc (.cells #[.string key, .int .i64 (x : Int)] 52)).cell? ⟨wr.heap.size, 0, none⟩ = some (.string key) := kP.cell 0 rfl
        have p1 : (wr.alloc (.cells #[.string key, .int .i64 (x : Int)] 52)).cell? ⟨wr.heap.size, 1, none⟩ = some (.int .i64 (x : Int)) := kP.cell 1 rfl
        have HOP := Lib.hid (RecsO.below hO hbP)
        have hBP := below_step hb hbP hsr
        have HBP := Lib.hid hBP
        have hsP := hbP.size
        clear kP hbP hO hb
        as_aux_lemma =>
          go_wp2_with fail
          clear d0 d1 hix
          generalize wr.alloc (.cells #[.string key, .int .i64 (x : Int)] 52) = wP at *
          have hD : Below w1.heap.size w1 wP.drew := hBP.drew
          have hbl : Below wP.heap.size wP (wP.alloc (.cells #[.string ((key ++ ⟨#[61]⟩) ++ nm)] 9)).drew := ((Below.refl _ _).alloc (Nat.le_refl _) _).drew
          have hL : Below w1.heap.size w1 (wP.alloc (.cells #[.string ((key ++ ⟨#[61]⟩) ++ nm)] 9)).drew := below_step hBP hbl hBP.size
          have q0 := below_cell hbl p0
          have q1 := below_cell hbl p1
          have hOw := Own.below (RecsO.below HOP.out hbl) (Below.refl _ _)
          have hnew : ∀ j u, [Value.string ((key ++ ⟨#[61]⟩) ++ nm)][j]? = some u → (wP.alloc (.cells #[.string ((key ++ ⟨#[61]⟩) ++ nm)] 9)).drew.cell? ((⟨wP.heap.size, 0, none⟩ : Addr).add j) = some u := (Blk.new wP #[.string ((key ++ ⟨#[61]⟩) ++ nm)] 9).news
          have hone := str_one ((key ++ (⟨#[61]⟩ : ByteArray)) ++ nm)
          have hby : (acc.length + 1) * 16 ≤ 140737488355328 := by omega
          have hml : acc.length + 1 ≤ maxLen := by unfold maxLen; omega
          have HQ := Lib.hid (And.intro q0 q1)
          have HL := Lib.hid hL
          have HOW := Lib.hid hOw
          clear hOw
          go_region_held3 (fun w' => w'.cell? ⟨wr.heap.size, 0, none⟩ = some (.string key) ∧ w'.cell? ⟨wr.heap.size, 1, none⟩ = some (.int .i64 (x : Int)) ∧ Below w1.heap.size w1 w')
            (first
              | exact ⟨p0, p1, hD⟩
              | exact ⟨q0, q1, hL⟩
              | exact ⟨y0, y1, hB9⟩
              | (go_split_ands; refine ⟨?_, ?_, ?_⟩ <;> assumption))
            (first
              | (go_at_call 27; (with_reducible refine (HDEC.out _).mono ?_); rintro e w6 ⟨rfl, rfl⟩)
              | ((with_reducible refine stp_append elString rfl (.tmp 15) (.tmp 23) rfl rfl HOW.out hsr ⟨wP.heap.size, 0, none⟩ 1 1 _ rfl rfl hnew hone hby hml ?_); intro v9 w9 hown9 hk9; have y0 := keep_cell hk9 HQ.out.1 (.inr (Nat.le_refl _)); have y1 := keep_cell hk9 HQ.out.2 (.inr (Nat.le_refl _)); have hB9 := HL.out.trans (hk9.below (B := w1.heap.size) (Nat.le_refl _) HL.out.size)))
          all_goals
            have HO9 : Hid (RecsO encW 9 w9 w1.heap.size w9.heap.size v9 (acc ++ [((key ++ ⟨#[61]⟩) ++ nm)])) := Lib.hid (by
              unfold RecsO
              rw [List.length_append, flat_append, flat_one]
              exact hown9)
            have HB9 := Lib.hid hB9
            clear hown9 hk9 y0 y1 hB9 hD hL p0 p1 q0 q1 hbl
            go_wp2_with fail
            go_roundw
          all_goals first | exact ⟨k + 1, _, by omega, by go_num, HN, HAL.out, HO9.out, HB9.out⟩ | (simp [intOf]; omega)
      · obtain rfl : k = ps.length := by omega
        have HW : Hid (RecsO encW 9 wr w1.heap.size wr.heap.size (.slice ao acc.length co) (ps.map word)) := Lib.hid (by
          have e := HA.out
          rw [List.take_length] at e
          rw [e]
          exact hO)
        have HB2 := Lib.hid (below_step HB.out hb HB.out.size)
        have hjs := join_size HG.out
        have HT := Lib.hid (join_text ps)
        have hz1 : (⟨(Lib.join (wordsL ps) [59]).toArray⟩ : ByteArray).size = (Lib.join (wordsL ps) [59]).length := List.size_toArray
        have HJ : Hid (∀ wx, wx = wr → Calls Tryz.prog 28 #[.slice ao acc.length co, .string ⟨#[59]⟩] wx fun e w' => e = .returned (.string ⟨(Lib.join (wordsL ps) [59]).toArray⟩) ∧ Below wx.heap.size wx w') := Lib.hid fun wx e => by
          subst e
          exact joinW ps _ wx HG.out (RecsO.recs HW.out)
        have hjz : (⟨(Lib.join (wordsL ps) [59]).toArray⟩ : ByteArray).size ≤ 30 := by rw [hz1]; exact hjs
        clear hz1 hjs hO hb
        generalize (⟨(Lib.join (wordsL ps) [59]).toArray⟩ : ByteArray) = jb at *
        have e1 : (⟨#[91]⟩ : ByteArray).size = 1 := rfl
        have e2 : (⟨#[93]⟩ : ByteArray).size = 1 := rfl
        have hl1 : ¬ 9223372036854775807 < 1 + jb.size := by omega
        have hl1' : ¬ 9223372036854775807 < (⟨#[91]⟩ : ByteArray).size + jb.size := by omega
        have hl2 : ¬ 9223372036854775807 < 1 + jb.size + 1 := by omega
        have hl2' : ¬ 9223372036854775807 < ((⟨#[91]⟩ : ByteArray) ++ jb).size + (⟨#[93]⟩ : ByteArray).size := by rw [ByteArray.size_append]; omega
        have hl2'' : ¬ 9223372036854775807 < ((⟨#[91]⟩ : ByteArray) ++ jb).size + 1 := by rw [ByteArray.size_append]; omega
        clear e1 e2 hjz
        go_wp2_with fail
        refine (HJ.out _ rfl).mono ?_
        rintro e w6 ⟨rfl, hb6⟩
        have HB6 := Lib.hid (below_step HB2.out hb6 HB2.out.size)
        clear hb6
        go_wp2_with fail
        go_ret
        exact ⟨by rw [HZ.out, ← HT.out]; rfl, HB6.out⟩
end Go.Proofs.YtlihmomopofdnaaGreatDoor
