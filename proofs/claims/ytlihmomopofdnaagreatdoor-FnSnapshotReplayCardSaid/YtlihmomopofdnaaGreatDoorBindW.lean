/-
  The walk of the program's bind: which function it makes.
-/
import Derived.Test.YtlihmomopofdnaaGreatDoorBind
namespace Go.Proofs.YtlihmomopofdnaaGreatDoor
open Go.RowKit Go.Maps Go.WideMaps
set_option linter.unusedVariables false

def RetBind (w : World) (b : Nat) (key : ByteArray) (val : Int) (t : Nat) (e : Ending) (w' : World) : Prop :=
  Below w.heap.size w w' ∧ w.heap.size + 1 < w'.heap.size ∧ w'.cell? ⟨w.heap.size, 0, none⟩ = some (.map (some b)) ∧ w'.cell? ⟨w.heap.size + 1, 1, none⟩ = some (.string key) ∧ w'.cell? ⟨w.heap.size + 1, 2, none⟩ = some (.int .i64 val) ∧
  (t = 0 → e = .returned (.func (.func 36) #[] #[])) ∧
  (t = 1 → e = .returned (.func (.func 35) #[] #[.pointer (some ⟨w.heap.size + 1, 0, none⟩), .pointer (some ⟨w.heap.size, 0, none⟩)])) ∧
  (t = 2 → e = .returned (.func (.func 37) #[] #[.pointer (some ⟨w.heap.size, 0, none⟩), .pointer (some ⟨w.heap.size + 1, 0, none⟩)]))

set_option maxRecDepth 100000 in
set_option maxHeartbeats 16000000 in
theorem bind_any (b n : Nat) (ps : List (ByteArray × Int)) (op : Int) (key : ByteArray) (val exp : Int) (w : World) (hs : SM w b n ps) (hks : key.size ≤ maxLen) :
    Calls Tryz.prog 17 #[.map (some b), .agg #[.int .i64 op, .string key, .int .i64 val, .int .i64 exp]] w (RetBind w b key val (bindK ps op key exp)) := by
  obtain ⟨D, hst, hrep⟩ := hs
  have hkey : keyOf Tryz.prog 9 (.string key) = some (.string key.data.toList) := keyOf_string_mk Tryz.underlying9 hks
  have HKEY := Lib.hid hkey
  have hb1 : Below w.heap.size w (w.alloc (.cells #[.map (some b)] 45)) := (Below.refl _ _).alloc (Nat.le_refl _) _
  have he : (w.alloc (.cells #[.map (some b)] 45)).heap.size = w.heap.size + 1 := by simp
  have kA := Blk.new w #[.map (some b)] 45
  have kB := Blk.new (w.alloc (.cells #[.map (some b)] 45)) #[.int .i64 op, .string key, .int .i64 val, .int .i64 exp] 41
  have hb2 : Below (w.alloc (.cells #[.map (some b)] 45)).heap.size (w.alloc (.cells #[.map (some b)] 45)) ((w.alloc (.cells #[.map (some b)] 45)).alloc (.cells #[.int .i64 op, .string key, .int .i64 val, .int .i64 exp] 41)) := (Below.refl _ _).alloc (Nat.le_refl _) _
  have kA2 := kA.below hb2
  rw [he] at kB
  have HST := Lib.hid ((Store.below hst hb1).below hb2)
  have HB := Lib.hid (below_step hb1 hb2 hb1.size)
  have HLT := Lib.hid (show w.heap.size + 1 < ((w.alloc (.cells #[.map (some b)] 45)).alloc (.cells #[.int .i64 op, .string key, .int .i64 val, .int .i64 exp] 41)).heap.size from kB.lt)
  have pa := kA2.cell 0 rfl
  have p0 := kB.cell 0 rfl
  have p1 := kB.cell 1 rfl
  have p2 := kB.cell 2 rfl
  have p3 := kB.cell 3 rfl
  have HPA := Lib.hid pa
  have HP1 := Lib.hid p1
  have HP2 := Lib.hid p2
  have HREP := Lib.hid hrep
  obtain ⟨m, r, hf⟩ : ∃ m r, findP ps key = (m, r) := ⟨_, _, rfl⟩
  have HF := Lib.hid hf
  clear hkey hb1 he kA kB hb2 kA2 hst hrep hf hks
  cases hk : isK key
  · have HK := Lib.hid hk
    have HT := Lib.hid (show bindK ps op key exp = 0 by unfold bindK; rw [hk, if_neg (by simp)])
    clear hk
    go_enter Tryz.func17, Tryz.ntmps17
    go_wp2_with (at_lookup; refine wpList_lookup_own_ok_int _ rfl _ _ 45 rfl 9 3 .i64 keyLaw Tryz.underlying45 Tryz.underlying3 (zeroInt _) b n D rfl HST.out _ _ rfl HKEY.out ?_; intro c hat hwc; obtain ⟨g1, g2⟩ := rep_at HREP.out _ hat; rw [HF.out] at g1 g2; replace g2 : c = m := g2; subst g2; rw [g1]; clear hat hwc g1)
    go_wp2_with (go_at_call 33; refine (isKey_any _ _ false HK.out).mono ?_; rintro e w' ⟨rfl, rfl⟩)
    go_ret
    exact ⟨HB.out, HLT.out, HPA.out, HP1.out, HP2.out, fun _ => rfl, fun e => (by rw [HT.out] at e; cases e), fun e => (by rw [HT.out] at e; cases e)⟩
  · have HK := Lib.hid hk
    by_cases h1 : op = 1
    · subst h1
      have HT := Lib.hid (show bindK ps 1 key exp = 1 by unfold bindK; rw [hk, if_pos rfl, if_pos rfl])
      clear hk
      go_enter Tryz.func17, Tryz.ntmps17
      go_wp2_with (at_lookup; refine wpList_lookup_own_ok_int _ rfl _ _ 45 rfl 9 3 .i64 keyLaw Tryz.underlying45 Tryz.underlying3 (zeroInt _) b n D rfl HST.out _ _ rfl HKEY.out ?_; intro c hat hwc; obtain ⟨g1, g2⟩ := rep_at HREP.out _ hat; rw [HF.out] at g1 g2; replace g2 : c = m := g2; subst g2; rw [g1]; clear hat hwc g1)
      go_wp2_with (go_at_call 33; refine (isKey_any _ _ true HK.out).mono ?_; rintro e w' ⟨rfl, rfl⟩)
      go_ret
      exact ⟨HB.out, HLT.out, HPA.out, HP1.out, HP2.out, fun e => (by rw [HT.out] at e; cases e), fun _ => rfl, fun e => (by rw [HT.out] at e; cases e)⟩
    · have b1 : (op == 1) = false := by simpa using h1
      by_cases h2 : op = 2
      · subst h2
        cases r
        · have HT := Lib.hid (show bindK ps 2 key exp = 0 by unfold bindK; rw [hk, if_pos rfl, if_neg h1, HF.out, if_neg (by simp), if_neg (fun e => absurd e.1 (by decide))])
          clear hk
          go_enter Tryz.func17, Tryz.ntmps17
          go_wp2_with (at_lookup; refine wpList_lookup_own_ok_int _ rfl _ _ 45 rfl 9 3 .i64 keyLaw Tryz.underlying45 Tryz.underlying3 (zeroInt _) b n D rfl HST.out _ _ rfl HKEY.out ?_; intro c hat hwc; obtain ⟨g1, g2⟩ := rep_at HREP.out _ hat; rw [HF.out] at g1 g2; replace g2 : c = m := g2; subst g2; rw [g1]; clear hat hwc g1)
          go_wp2_with (go_at_call 33; refine (isKey_any _ _ true HK.out).mono ?_; rintro e w' ⟨rfl, rfl⟩)
          go_ret
          exact ⟨HB.out, HLT.out, HPA.out, HP1.out, HP2.out, fun _ => rfl, fun e => (by rw [HT.out] at e; cases e), fun e => (by rw [HT.out] at e; cases e)⟩
        · have HT := Lib.hid (show bindK ps 2 key exp = 2 by unfold bindK; rw [hk, if_pos rfl, if_neg h1, HF.out, if_pos ⟨rfl, rfl⟩])
          clear hk
          go_enter Tryz.func17, Tryz.ntmps17
          go_wp2_with (at_lookup; refine wpList_lookup_own_ok_int _ rfl _ _ 45 rfl 9 3 .i64 keyLaw Tryz.underlying45 Tryz.underlying3 (zeroInt _) b n D rfl HST.out _ _ rfl HKEY.out ?_; intro c hat hwc; obtain ⟨g1, g2⟩ := rep_at HREP.out _ hat; rw [HF.out] at g1 g2; replace g2 : c = m := g2; subst g2; rw [g1]; clear hat hwc g1)
          go_wp2_with (go_at_call 33; refine (isKey_any _ _ true HK.out).mono ?_; rintro e w' ⟨rfl, rfl⟩)
          go_ret
          exact ⟨HB.out, HLT.out, HPA.out, HP1.out, HP2.out, fun e => (by rw [HT.out] at e; cases e), fun e => (by rw [HT.out] at e; cases e), fun _ => rfl⟩
      · have b2 : (op == 2) = false := by simpa using h2
        by_cases h3 : op = 3
        · subst h3
          cases r
          · have HT := Lib.hid (show bindK ps 3 key exp = 0 by unfold bindK; rw [hk, if_pos rfl, if_neg h1, if_neg (fun e => h2 e.1), HF.out, if_neg (by simp)])
            clear hk
            go_enter Tryz.func17, Tryz.ntmps17
            go_wp2_with (at_lookup; refine wpList_lookup_own_ok_int _ rfl _ _ 45 rfl 9 3 .i64 keyLaw Tryz.underlying45 Tryz.underlying3 (zeroInt _) b n D rfl HST.out _ _ rfl HKEY.out ?_; intro c hat hwc; obtain ⟨g1, g2⟩ := rep_at HREP.out _ hat; rw [HF.out] at g1 g2; replace g2 : c = m := g2; subst g2; rw [g1]; clear hat hwc g1)
            go_wp2_with (go_at_call 33; refine (isKey_any _ _ true HK.out).mono ?_; rintro e w' ⟨rfl, rfl⟩)
            go_ret
            exact ⟨HB.out, HLT.out, HPA.out, HP1.out, HP2.out, fun _ => rfl, fun e => (by rw [HT.out] at e; cases e), fun e => (by rw [HT.out] at e; cases e)⟩
          · by_cases h4 : m = exp
            · subst h4
              have HT := Lib.hid (show bindK ps 3 key m = 1 by unfold bindK; rw [hk, if_pos rfl, if_neg h1, if_neg (fun e => h2 e.1), HF.out, if_pos ⟨rfl, rfl⟩])
              clear hk
              go_enter Tryz.func17, Tryz.ntmps17
              go_wp2_with (at_lookup; refine wpList_lookup_own_ok_int _ rfl _ _ 45 rfl 9 3 .i64 keyLaw Tryz.underlying45 Tryz.underlying3 (zeroInt _) b n D rfl HST.out _ _ rfl HKEY.out ?_; intro c hat hwc; obtain ⟨g1, g2⟩ := rep_at HREP.out _ hat; rw [HF.out] at g1 g2; replace g2 : c = m := g2; subst g2; rw [g1]; clear hat hwc g1)
              go_wp2_with (go_at_call 33; refine (isKey_any _ _ true HK.out).mono ?_; rintro e w' ⟨rfl, rfl⟩)
              go_ret
              exact ⟨HB.out, HLT.out, HPA.out, HP1.out, HP2.out, fun e => (by rw [HT.out] at e; cases e), fun _ => rfl, fun e => (by rw [HT.out] at e; cases e)⟩
            · have b4 : (m == exp) = false := by simpa using h4
              have HT := Lib.hid (show bindK ps 3 key exp = 0 by unfold bindK; rw [hk, if_pos rfl, if_neg h1, if_neg (fun e => h2 e.1), HF.out, if_neg (fun e => h4 (Prod.mk.inj e.2).1)])
              clear hk
              go_enter Tryz.func17, Tryz.ntmps17
              go_wp2_with (at_lookup; refine wpList_lookup_own_ok_int _ rfl _ _ 45 rfl 9 3 .i64 keyLaw Tryz.underlying45 Tryz.underlying3 (zeroInt _) b n D rfl HST.out _ _ rfl HKEY.out ?_; intro c hat hwc; obtain ⟨g1, g2⟩ := rep_at HREP.out _ hat; rw [HF.out] at g1 g2; replace g2 : c = m := g2; subst g2; rw [g1]; clear hat hwc g1)
              go_wp2_with (go_at_call 33; refine (isKey_any _ _ true HK.out).mono ?_; rintro e w' ⟨rfl, rfl⟩)
              go_ret
              exact ⟨HB.out, HLT.out, HPA.out, HP1.out, HP2.out, fun _ => rfl, fun e => (by rw [HT.out] at e; cases e), fun e => (by rw [HT.out] at e; cases e)⟩
        · have b3 : (op == 3) = false := by simpa using h3
          have HT := Lib.hid (show bindK ps op key exp = 0 by unfold bindK; rw [hk, if_pos rfl, if_neg h1, if_neg (fun e => h2 e.1), if_neg (fun e => h3 e.1)])
          clear hk
          go_enter Tryz.func17, Tryz.ntmps17
          go_wp2_with (at_lookup; refine wpList_lookup_own_ok_int _ rfl _ _ 45 rfl 9 3 .i64 keyLaw Tryz.underlying45 Tryz.underlying3 (zeroInt _) b n D rfl HST.out _ _ rfl HKEY.out ?_; intro c hat hwc; obtain ⟨g1, g2⟩ := rep_at HREP.out _ hat; rw [HF.out] at g1 g2; replace g2 : c = m := g2; subst g2; rw [g1]; clear hat hwc g1)
          go_wp2_with (go_at_call 33; refine (isKey_any _ _ true HK.out).mono ?_; rintro e w' ⟨rfl, rfl⟩)
          go_ret
          exact ⟨HB.out, HLT.out, HPA.out, HP1.out, HP2.out, fun _ => rfl, fun e => (by rw [HT.out] at e; cases e), fun e => (by rw [HT.out] at e; cases e)⟩
end Go.Proofs.YtlihmomopofdnaaGreatDoor
