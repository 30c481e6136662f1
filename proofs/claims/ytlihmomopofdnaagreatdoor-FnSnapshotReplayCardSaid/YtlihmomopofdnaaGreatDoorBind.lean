/-
  The walks of the program's bind and of the functions that it makes.
-/
import Derived.Test.YtlihmomopofdnaaGreatDoorApp
import Derived.Maps.OwnOps
namespace Go.Proofs.YtlihmomopofdnaaGreatDoor
open Go.RowKit Go.Maps Go.WideMaps
set_option linter.unusedVariables false

def SM (w : World) (b n : Nat) (ps : List (ByteArray × Int)) : Prop := ∃ D, Store w b n D ∧ Rep D ps
theorem SM.below {w w' : World} {b n : Nat} {ps : List (ByteArray × Int)} (h : SM w b n ps) (hb : Below w.heap.size w w') : SM w' b n ps := let ⟨D, h1, h2⟩ := h; ⟨D, h1.below hb, h2⟩
theorem SM.mono {w : World} {b n n' : Nat} {ps : List (ByteArray × Int)} (h : SM w b n ps) (hn : n ≤ n') : SM w b n' ps := let ⟨D, h1, h2⟩ := h; ⟨D, World.ownsMap.mono h1 hn, h2⟩
theorem SM.lt {w : World} {b n : Nat} {ps : List (ByteArray × Int)} (h : SM w b n ps) : b < w.heap.size := let ⟨D, h1, h2⟩ := h; h1.lt
theorem keep_grown {w w' : World} {b : Nat} (h : w.grownBy w' (some b)) : Keep b (b + 1) w w' := ⟨h.os, h.tape, h.output, h.size, fun k hk ho => h.block k hk fun e => by injection e with e; omega⟩

/-- what bind makes: 0: fail, 1: put, 2: delete -/
def bindK (ps : List (ByteArray × Int)) (op : Int) (key : ByteArray) (exp : Int) : Nat :=
  if isK key = true then if op = 1 then 1 else if op = 2 ∧ (findP ps key).2 = true then 2 else if op = 3 ∧ findP ps key = (exp, true) then 1 else 0 else 0
theorem apply_fail {ps : List (ByteArray × Int)} {op : Int} {key : ByteArray} {exp : Int} (val : Int) (h : bindK ps op key exp = 0) : applyP ps op key val exp = (ps, false) := by
  unfold bindK at h
  unfold applyP
  by_cases hk : isK key = true
  · rw [if_pos hk] at h ⊢
    by_cases h1 : op = 1
    · rw [if_pos h1] at h; cases h
    · rw [if_neg h1] at h ⊢
      by_cases h2 : op = 2
      · rw [if_pos h2]
        by_cases hf : (findP ps key).2 = true
        · rw [if_pos ⟨h2, hf⟩] at h; cases h
        · have hf : (findP ps key).2 = false := by simpa using hf
          rw [without_none hf, hf]
      · rw [if_neg (fun e => h2 e.1)] at h
        rw [if_neg h2]
        by_cases h3 : op = 3 ∧ findP ps key = (exp, true)
        · rw [if_pos h3] at h; cases h
        · rw [if_neg (fun e => h3 ⟨e.1, e.2.2⟩)]
  · rw [if_neg hk]
theorem apply_put {ps : List (ByteArray × Int)} {op : Int} {key : ByteArray} {exp : Int} (val : Int) (h : bindK ps op key exp = 1) : isK key = true ∧ applyP ps op key val exp = if isV val = true then (withP ps key val, true) else (ps, false) := by
  unfold bindK at h
  unfold applyP
  by_cases hk : isK key = true
  · refine ⟨hk, ?_⟩
    rw [if_pos hk] at h ⊢
    by_cases h1 : op = 1
    · rw [if_pos h1]
    · rw [if_neg h1] at h ⊢
      by_cases h2 : op = 2
      · subst h2
        split at h
        · cases h
        · rw [if_neg (fun e => by omega)] at h; cases h
      · rw [if_neg (fun e => h2 e.1)] at h
        rw [if_neg h2]
        by_cases h3 : op = 3 ∧ findP ps key = (exp, true)
        · by_cases hv : isV val = true
          · rw [if_pos ⟨h3.1, hv, h3.2⟩, if_pos hv]
          · rw [if_neg (fun e => hv e.2.1), if_neg hv]
        · rw [if_neg h3] at h; cases h
  · rw [if_neg hk] at h; cases h
theorem apply_del {ps : List (ByteArray × Int)} {op : Int} {key : ByteArray} {exp : Int} (val : Int) (h : bindK ps op key exp = 2) : isK key = true ∧ applyP ps op key val exp = (withoutP ps key, true) := by
  unfold bindK at h
  unfold applyP
  by_cases hk : isK key = true
  · refine ⟨hk, ?_⟩
    rw [if_pos hk] at h ⊢
    by_cases h1 : op = 1
    · rw [if_pos h1] at h; cases h
    · rw [if_neg h1] at h ⊢
      by_cases h2 : op = 2 ∧ (findP ps key).2 = true
      · rw [if_pos h2.1, h2.2]
      · rw [if_neg h2] at h
        split at h <;> cases h
  · rw [if_neg hk] at h; cases h
theorem bindK_le (ps : List (ByteArray × Int)) (op : Int) (key : ByteArray) (exp : Int) : bindK ps op key exp = 0 ∨ bindK ps op key exp = 1 ∨ bindK ps op key exp = 2 := by
  unfold bindK
  repeat' split
  all_goals simp

/-! ### the functions that bind makes -/
set_option maxHeartbeats 1000000 in
theorem fail_any (w : World) : Calls Tryz.prog 36 #[] w fun e w' => e = .returned (.bool false) ∧ w = w' := by
  go_enter Tryz.func36, Tryz.ntmps36
  go_wp2_with fail
  go_ret
  exact ⟨rfl, rfl⟩
set_option maxRecDepth 100000 in
set_option maxHeartbeats 4000000 in
theorem put_any (A B b n : Nat) (ps : List (ByteArray × Int)) (key : ByteArray) (val : Int) (w : World) (hA : w.cell? ⟨A, 0, none⟩ = some (.map (some b))) (hB1 : w.cell? ⟨B, 1, none⟩ = some (.string key)) (hB2 : w.cell? ⟨B, 2, none⟩ = some (.int .i64 val))
    (hs : SM w b n ps) (hg : Good ps) (hk : isK key = true) (hn : n < maxLen) :
    Calls Tryz.prog 35 #[.pointer (some ⟨B, 0, none⟩), .pointer (some ⟨A, 0, none⟩)] w fun e w' => e = .returned (.bool (isV val)) ∧ SM w' b (n + 1) (if isV val = true then withP ps key val else ps) ∧ Keep b (b + 1) w w' := by
  have hkey : keyOf Tryz.prog 9 (.string key) = some (.string key.data.toList) := keyOf_string_mk Tryz.underlying9 (by rw [isK_size hk]; unfold maxLen; omega)
  have HKEY := Lib.hid hkey
  have HSM := Lib.hid hs
  have HG := Lib.hid hg
  have HK := Lib.hid hk
  have HN := Lib.hid hn
  obtain ⟨D, hst, hrep⟩ := hs
  have HREP := Lib.hid hrep
  clear hkey hg hk hrep hn
  go_enter Tryz.func35, Tryz.ntmps35
  cases hV : isV val
  · have HV := Lib.hid hV; clear hV
    go_wp2_with (go_at_call 34; refine (isValue_any _ _ false HV.out).mono ?_; rintro e w' ⟨rfl, rfl⟩)
    go_ret
    exact ⟨rfl, HSM.out.mono (Nat.le_succ _), Keep.refl _ _ _⟩
  · have hwf := isV_wf hV
    have HWF := Lib.hid hwf
    have HV := Lib.hid hV; clear hV hwf
    go_wp2_with first
      | (go_at_call 34; refine (isValue_any _ _ true HV.out).mono ?_; rintro e w' ⟨rfl, rfl⟩)
      | (at_mapUpdate; refine wpList_mapUpdate_own _ rfl _ _ _ 45 rfl 9 3 keyLaw Tryz.underlying45 _ b n _ rfl hst HN.out _ _ _ rfl rfl HKEY.out _ [] (plainElem_int Tryz.underlying3 HWF.out) ?_; intro w3 hown3 hgrow3)
    go_ret
    exact ⟨rfl, ⟨_, hown3, rep_put HREP.out HG.out HK.out val⟩, keep_grown hgrow3⟩
set_option maxRecDepth 100000 in
set_option maxHeartbeats 4000000 in
theorem del_any (A B b n : Nat) (ps : List (ByteArray × Int)) (key : ByteArray) (w : World) (hA : w.cell? ⟨A, 0, none⟩ = some (.map (some b))) (hB1 : w.cell? ⟨B, 1, none⟩ = some (.string key))
    (hs : SM w b n ps) (hk : isK key = true) :
    Calls Tryz.prog 37 #[.pointer (some ⟨A, 0, none⟩), .pointer (some ⟨B, 0, none⟩)] w fun e w' => e = .returned (.bool true) ∧ SM w' b n (withoutP ps key) ∧ Keep b (b + 1) w w' := by
  have hkey : keyOf Tryz.prog 9 (.string key) = some (.string key.data.toList) := keyOf_string_mk Tryz.underlying9 (by rw [isK_size hk]; unfold maxLen; omega)
  have HKEY := Lib.hid hkey
  obtain ⟨D, hst, hrep⟩ := hs
  have HREP := Lib.hid hrep
  clear hkey hk hrep
  go_enter Tryz.func37, Tryz.ntmps37
  go_wp2_with (at_delete; refine wpList_delete_own _ rfl _ _ 45 9 rfl 3 keyLaw Tryz.underlying45 _ b n D rfl hst _ _ rfl HKEY.out ?_; intro w3 hown3 hturn3)
  go_ret
  exact ⟨rfl, ⟨_, hown3, rep_del HREP.out key⟩, keep_grown hturn3.grown⟩
end Go.Proofs.YtlihmomopofdnaaGreatDoor
