/-
  The walk of the program's digits.
-/
import Derived.Test.YtlihmomopofdnaaGreatDoorDecP
import Derived.Test.YtlihmomopofdnaaGreatDoorEncW
import Derived.Test.YtlihmomopofdnaaGreatDoorDecT
import Derived.Test.YtlihmomopofdnaaGreatDoorShelf
import Derived.Test.YtlihmomopofdnaaGreatDoorMet
import Derived.Lib.SmallJoins
namespace Go.Proofs.YtlihmomopofdnaaGreatDoor
open Go.RowKit
set_option linter.unusedVariables false

theorem atoi_any (s : ByteArray) (w : World) (hs : s.size ≤ 1048576) (hm : Met w) :
    Calls Tryz.prog 45 #[.string s] w fun e w' =>
      (∃ v : Int, Lib.atoiAll s.data.toList = .ok v ∧ e = .returned (.tuple #[.int .i64 v, .nilIface]) ∧ Below w.heap.size w w') ∨
      (∃ (v : Int) (T : TypeId) (p : Value), (∀ u, Lib.atoiAll s.data.toList ≠ .ok u) ∧ e = .returned (.tuple #[.int .i64 v, .iface T p]) ∧ Below w.heap.size w w') := by
  rcases h : Lib.atoiAll s.data.toList with v | _ | _
  · refine (Shf.strconv_Atoi_ok s (by omega) v h w).mono ?_
    rintro e w' ⟨rfl, hw⟩
    refine .inl ⟨v, rfl, rfl, ?_⟩
    rcases hw with rfl | ⟨t, rfl⟩
    · exact Below.refl _ _
    · exact Lib.bytesWorld_below _ _ _
  · obtain ⟨te, pe, hc⟩ := hm.es
    refine (Shf.strconv_Atoi_syntax s (by omega) (fun u hu => by rw [h] at hu; cases hu) (fun hu => by rw [h] at hu; cases hu) _ w hc (.inr ⟨te, pe, rfl⟩)).mono ?_
    rintro e w' ⟨N, rfl, _, _, hb⟩
    exact .inr ⟨_, _, _, fun u hu => (by cases hu), rfl, hb⟩
  · obtain ⟨te, pe, hc⟩ := hm.er
    refine (Shf.strconv_Atoi_range s (by omega) h _ w hc (.inr ⟨te, pe, rfl⟩)).mono ?_
    rintro e w' ⟨N, rfl, _, _, hb⟩
    exact .inr ⟨_, _, _, fun u hu => (by cases hu), rfl, hb⟩
theorem itoa_any (n : Int) (w : World) (h0 : 0 ≤ n) (h1 : n ≤ 9223372036854775807) (hm : Met w) :
    Calls Tryz.prog 27 #[.int .i64 n] w fun e w' => ∃ d : ByteArray, e = .returned (.string d) ∧ (∀ x : Nat, x < 100 → n = (x : Int) → d = num x) ∧ Below w.heap.size w w' := by
  by_cases h : n < 100
  · obtain ⟨x, rfl⟩ : ∃ x : Nat, n = (x : Int) := ⟨n.toNat, by omega⟩
    refine (itoa_num x (by omega) w).mono ?_
    rintro e w' ⟨rfl, rfl⟩
    refine ⟨_, rfl, fun y _ hy => ?_, Below.refl _ _⟩
    obtain rfl : x = y := by omega
    rfl
  · refine (Shf.strconv_Itoa n (by omega) h1 w hm.tab).mono ?_
    rintro e w' ⟨rfl, k, os, rfl⟩
    exact ⟨_, rfl, fun x hx hn => absurd hn (by omega), Lib.below_grow _ _ (Nat.le_refl _) _ _⟩

def RetDig (s : ByteArray) (w : World) (e : Ending) (w' : World) : Prop := ∃ (v : Int) (ok : Bool), e = .returned (.tuple #[.int .i64 v, .bool ok]) ∧ ReadN s v ok ∧ Below w.heap.size w w'
set_option maxRecDepth 100000 in
set_option maxHeartbeats 4000000 in
theorem digits_any (s : ByteArray) (w : World) (hs : s.size ≤ 1048576) (hm : Met w) :
    Calls Tryz.prog 25 #[.string s] w (RetDig s w) := by
  have HM := Lib.hid hm
  have HS := Lib.hid hs
  clear hm
  go_enter Tryz.func25, Tryz.ntmps25
  go_wp2_with fail
  refine (atoi_any s _ HS.out HM.out).mono ?_
  rintro e w1 (⟨v, hv, rfl, hb⟩ | ⟨v, T, p, hv, rfl, hb⟩)
  · have hbd := Lib.atoiAll_bounds hv
    have HV := Lib.hid hv
    have HB := Lib.hid hb
    have HM1 := Lib.hid (HM.out.below hb)
    clear hv hb
    by_cases h0 : 0 ≤ v
    · have HI := Lib.hid (itoa_any v w1 h0 hbd.2 HM1.out)
      go_wp2_with fail
      refine HI.out.mono ?_
      rintro e w2 ⟨d, rfl, hd, hb2⟩
      have HB2 := Lib.hid (below_step HB.out hb2 HB.out.size)
      have HD := Lib.hid hd
      clear hd hb2 HI
      obtain ⟨q, hq⟩ : ∃ q, (d.toList == s.toList) = q := ⟨_, rfl⟩
      have HQ := Lib.hid hq
      go_wp2_with fail
      go_ret2
      refine ⟨v, q, rfl, ⟨fun n hn hsn => ?_, fun hz => ?_⟩, HB2.out⟩
      · subst hsn
        have h1 := HV.out
        rw [atoi_num hn] at h1
        injection h1 with h1
        subst h1
        refine ⟨?_, rfl⟩
        rw [← HQ.out, HD.out n hn rfl]
        simp
      · have h1 := HV.out
        have : s.data.toList = [] := List.length_eq_zero_iff.1 (by rw [size_data]; exact hz)
        rw [this] at h1
        cases h1
    · go_wp2_with fail
      go_ret2
      refine ⟨v, false, rfl, ⟨fun n hn hsn => ?_, fun _ => rfl⟩, HB.out⟩
      subst hsn
      have h1 := HV.out
      rw [atoi_num hn] at h1
      injection h1 with h1
      omega
  · have HV := Lib.hid hv
    have HB := Lib.hid hb
    clear hv hb
    go_wp2_with fail
    go_ret2
    refine ⟨v, false, rfl, ⟨fun n hn hsn => ?_, fun _ => rfl⟩, HB.out⟩
    subst hsn
    exact absurd (atoi_num hn) (HV.out _)
end Go.Proofs.YtlihmomopofdnaaGreatDoor
