/-
  The walk of the program's StoreGet: a look-up in the map that readStore made.
-/
import Derived.Test.YtpkhkmehpijngaaGetI
namespace Go.Proofs.Ytpkhkmehpijngaa
open Go.RowKit Go.Maps Go.WideMaps
set_option linter.unusedVariables false

set_option maxHeartbeats 1000000 in
theorem implStoreGet_any (v : Value) (ps : List (ByteArray × Int)) (key : ByteArray) (w : World) {lo hi : Nat} (h : Prs w lo hi v ps) (hx : ps.length ≤ 1048576) (hks : key.size ≤ maxLen) (m : Int) (r : Bool) (hr : getP ps key = (m, r)) :
    Calls Try.prog 21 #[v, .string key] w fun e w' => e = .returned (.tuple #[.int .i64 m, .bool r]) ∧ Below w.heap.size w w' := by
  have hkey : keyOf Try.prog 9 (.string key) = some (.string key.data.toList) := keyOf_string_mk Try.underlying9 hks
  have HKEY := Lib.hid hkey; clear hkey hks
  cases hv : storeOk ps
  · have HV := Lib.hid hv
    have HS := Lib.hid (show ((0 : Int), false) = (m, r) by rw [← hr]; unfold getP; rw [hv]; rfl); clear hr hv
    go_enter Try.func21, Try.ntmps21
    go_wp2_with fail
    refine (readStore_any v ps _ h hx false HV.out).mono ?_
    rintro e w1 ⟨hb, h0, h1⟩
    obtain rfl := h0 rfl
    clear h0 h1
    go_wp2_with fail
    go_ret2
    have e := HS.out
    cases e
    exact ⟨rfl, hb⟩
  · have HV := Lib.hid hv
    have HS := Lib.hid (show findP ps key = (m, r) by rw [← hr]; unfold getP; rw [hv]; rfl); clear hr hv
    go_enter Try.func21, Try.ntmps21
    go_wp2_with fail
    refine (readStore_any v ps _ h hx true HV.out).mono ?_
    rintro e w1 ⟨hb, h0, h1⟩
    obtain ⟨rfl, hown⟩ := h1 rfl
    clear h0 h1
    go_wp2_with (at_lookup; refine wpList_lookup_own_ok_int _ rfl _ _ 65 rfl 9 3 .i64 keyLaw Try.underlying65 Try.underlying3 (zeroInt _) w.heap.size ps.length _ rfl hown _ _ rfl HKEY.out ?_; intro c hat hwc)
    obtain ⟨hc1, hc2⟩ := mapOf_find HV.out HS.out hat
    have HC := Lib.hid (And.intro hc1 hc2)
    clear hc1 hc2 hat hown
    go_wp2_with fail
    go_ret2
    refine ⟨?_, hb⟩
    show Ending.returned (.tuple #[.int .i64 c, .bool _]) = _
    rw [HC.out.1, HC.out.2]
end Go.Proofs.Ytpkhkmehpijngaa
