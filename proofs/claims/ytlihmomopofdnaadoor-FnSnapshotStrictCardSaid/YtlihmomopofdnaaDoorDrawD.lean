/-
  The walk of the reference's draw DrawStoreDecode.
-/
import Derived.Test.YtlihmomopofdnaaDoorEncW
import Derived.Test.YtlihmomopofdnaaDoorStoreR
namespace Go.Proofs.YtlihmomopofdnaaDoor
open Go.RowKit
set_option linter.unusedVariables false

theorem encE_size {ps : List (ByteArray × Int)} : (encE ps).size ≤ 100 := by
  unfold encE
  split
  · rename_i hv
    have hg := good_of hv
    have h1 := accE_size hg ps.length (Nat.le_refl _)
    have h2 := good_len hg
    unfold textE
    rw [ByteArray.size_append]
    have : (⟨#[93]⟩ : ByteArray).size = 1 := rfl
    omega
  · exact Nat.zero_le _
theorem to_run (t : ByteArray) (m : Nat) (hm : m ≤ t.size) (w : World) : (Instr.slice 9 (.string t) none (some (.int .i64 (m : Int))) none).run Tryd.prog w = .ok (.string (t.extract 0 m)) w := by
  rw [run_slice_string_to_if w 9 t .i64 _ Tryd.underlying9, if_pos ⟨by omega, by omega⟩]
  congr
theorem from_run (t : ByteArray) (m : Nat) (hm : m ≤ t.size) (w : World) : (Instr.slice 9 (.string t) (some (.int .i64 (m : Int))) none none).run Tryd.prog w = .ok (.string (t.extract m t.size)) w := by
  rw [run_slice_string_from_if w 9 t .i64 _ Tryd.underlying9, if_pos ⟨by omega, by omega⟩]
  congr

def strs5 : List ByteArray := [⟨#[48]⟩, ⟨#[59]⟩, ⟨#[97]⟩, ⟨#[61]⟩, ⟨#[49]⟩]
theorem strs5_size {s : ByteArray} (h : s ∈ strs5) : s.size = 1 := by
  unfold strs5 at h
  simp at h
  rcases h with rfl | rfl | rfl | rfl | rfl <;> rfl

set_option maxRecDepth 100000 in
set_option maxHeartbeats 4000000 in
theorem DrawStoreDecode_any (v : Value) (n : Nat) (w : World) {lo hi : Nat} (h : Bytes w lo hi v n) :
    Calls Tryd.prog 13 #[v] w fun e w' => ∃ t, e = .returned (.string t) ∧ t.size ≤ 1048576 ∧ Below w.heap.size w w' := by
  go_enter Tryd.func13, Tryd.ntmps13
  go_wp2_with fail
  refine (open_any v n _ h).mono ?_
  rintro e w1 ⟨rfl, hr1, hb1, hs1⟩
  go_wp2_with fail
  refine (l92Store_any _ 0 _ hr1 (by omega)).mono ?_
  rintro e w2 ⟨sv, ps, rfl, ho, hl, hr2, hk2⟩
  have hs2 := hk2.size
  have hb2 := hb1.trans (hk2.below (Nat.le_refl _) (by omega))
  obtain ⟨a, c, hv⟩ := ho.form
  subst hv
  clear hr1 hk2 hb1
  generalize hg : w.heap.size = g at *
  go_wp2_with fail
  refine (specEncode_any _ ps _ ho.prs (by omega)).mono ?_
  rintro e w3 ⟨rfl, hb3⟩
  have hs3 := hb3.size
  have hrl := hr2.lt
  replace hr2 := hr2.below hb3
  replace hb2 := hb2.trans (hb3.mono (by omega))
  have hes := encE_size (ps := ps)
  clear hb3 ho
  generalize encE ps = t at *
  have hwl : IntKind.i64.wrap ((t.size : Int) + 1) = (t.size : Int) + 1 := wrap_i64 (by omega) (by omega)
  go_wp2_with fail
  refine (pick_any g _ ((t.size : Int) + 1) _ hr2 (by omega) (by omega)).mono ?_
  rintro e w4 ⟨m0, rfl, m1, m2, hr4, hk4⟩
  have hs4 := hk4.size
  replace hb2 := hb2.trans (hk4.below (Nat.le_refl _) (by omega))
  clear hk4 hr2 hwl
  obtain ⟨m, rfl⟩ : ∃ m : Nat, m0 = (m : Int) := ⟨m0.toNat, by omega⟩
  have hmt : m ≤ t.size := by omega
  have hto := to_run t m hmt
  have hfrom := from_run t m hmt
  have hts : (t.extract 0 m).size ≤ 100 := by rw [ByteArray.size_extract]; omega
  have hfs : (t.extract m t.size).size ≤ 100 := by rw [ByteArray.size_extract]; omega
  generalize t.extract 0 m = tA at *
  generalize t.extract m t.size = tB at *
  clear m1 m2
  go_wp2_with fail
  refine (pick_any g _ 6 _ hr4 (by omega) (by omega)).mono ?_
  rintro e w5 ⟨y, rfl, y0, y1, hr5, hk5⟩
  have hs5 := hk5.size
  replace hb2 := hb2.trans (hk5.below (Nat.le_refl _) (by omega))
  clear hk5 hr4
  by_cases hy0 : y = 0
  · subst hy0
    go_wp2_with fail
    go_ret
    exact ⟨_, rfl, by omega, by rw [hg]; exact hb2⟩
  · have hy0b : (y == 0) = false := beq_eq_false_iff_ne.2 hy0
    by_cases hy1 : y = 1
    · subst hy1
      have hbn : Below w5.heap.size w5 (w5.alloc (.cells #[.string ⟨#[48]⟩, .string ⟨#[59]⟩, .string ⟨#[97]⟩, .string ⟨#[61]⟩, .string ⟨#[49]⟩] 9)).drew := ((Below.refl _ _).alloc (Nat.le_refl _) _).drew
      have hst0 := strs_new w5 strs5 #[.string ⟨#[48]⟩, .string ⟨#[59]⟩, .string ⟨#[97]⟩, .string ⟨#[61]⟩, .string ⟨#[49]⟩] 5 rfl rfl (by decide)
      have hst : Strs (w5.alloc (.cells #[.string ⟨#[48]⟩, .string ⟨#[59]⟩, .string ⟨#[97]⟩, .string ⟨#[61]⟩, .string ⟨#[49]⟩] 9)).drew w5.heap.size (w5.heap.size + 1) (.slice (some ⟨w5.heap.size, 0, none⟩) 5 5) strs5 := Sl.below hst0 ((Below.refl _ _).drew)
      have hrb := hr5.below hbn
      have hsb := hbn.size
      replace hb2 := hb2.trans (hbn.mono (by omega))
      have HST := Lib.hid hst
      have HRB := Lib.hid hrb
      have HB2 := Lib.hid hb2
      have hrl5 := hr5.lt
      clear hbn hst0 hst hrb hb2 hr5
      go_wp2_with fail
      go_region_law (go_simp; go_at_call 34; (with_reducible refine (of_any g _ _ strs5 _ HRB.out (by omega) HST.out (by decide) (.inr (by omega))).mono ?_); rintro e w6 ⟨s, rfl, hs, hr6, hk6⟩; have hs1 := strs5_size hs; have HS1 := Lib.hid hs1; have HB3 := Lib.hid (HB2.out.trans (hk6.below (Nat.le_refl _) (by have := HB2.out.size; omega))); have hl1 : ¬ 9223372036854775807 < tA.size + s.size := (by omega); have hl2 : ¬ 9223372036854775807 < tA.size + s.size + tB.size := (by omega); clear hk6 hr6 hs hs1)
      go_wp2_with fail
      go_ret
      exact ⟨_, rfl, by rw [ByteArray.size_append, ByteArray.size_append]; have := HS1.out; omega, by rw [hg]; exact HB3.out⟩
    · have hy1b : (y == 1) = false := beq_eq_false_iff_ne.2 hy1
      go_wp2_with fail
      go_ret
      exact ⟨_, rfl, by omega, by rw [hg]; exact hb2⟩
end Go.Proofs.YtlihmomopofdnaaDoor
