/-
  The walks of the exact laws' small functions on slices of commands and of bools; the reading of a law's commands.
-/
import Derived.Test.YtpkhkmehpijngaaAll
import Derived.Test.YtpkhkmehpijngaaCmdU
import Derived.Test.YtpkhkmehpijngaaMark
import Derived.Deep.RegionHeld3
namespace Go.Proofs.Ytpkhkmehpijngaa
open Go.RowKit
set_option linter.unusedVariables false

theorem elLawC : ElTy Try.prog 52 45 (.agg #[.int .i64 0, .string ByteArray.empty, .int .i64 0, .int .i64 0]) 4 40 := ⟨Try.underlying52, by kernel_rfl, rfl, by decide⟩
theorem cmd_cells {w : World} {b o : Nat} {x : CT} (h : ∀ j u, (encC.enc x)[j]? = some u → w.cell? ⟨b, o + j, none⟩ = some u) : w.cell? ⟨b, o, none⟩ = some (.int .i64 x.1) ∧ w.cell? ⟨b, o + 1, none⟩ = some (.string x.2.1) ∧ w.cell? ⟨b, o + 2, none⟩ = some (.int .i64 x.2.2.1) ∧ w.cell? ⟨b, o + 3, none⟩ = some (.int .i64 x.2.2.2) :=
  ⟨h 0 _ rfl, h 1 _ rfl, h 2 _ rfl, h 3 _ rfl⟩

/-! ### an owned slice of commands, written cell by cell -/
def Slot4 (w : World) (b o : Nat) : Prop := (∃ u0 u1 u2 u3, w.cell? ⟨b, o, none⟩ = some u0 ∧ w.cell? ⟨b, o + 1, none⟩ = some u1 ∧ w.cell? ⟨b, o + 2, none⟩ = some u2 ∧ w.cell? ⟨b, o + 3, none⟩ = some u3) ∧
  w.frozen? ⟨b, o, none⟩ = false ∧ w.frozen? ⟨b, o + 1, none⟩ = false ∧ w.frozen? ⟨b, o + 2, none⟩ = false ∧ w.frozen? ⟨b, o + 3, none⟩ = false
theorem own4 {w : World} {lo hi n : Nat} {v : Value} {fl : List Value} (h : Own w lo hi 25 v n 4 fl) :
    ∃ a cap, v = .slice a n cap ∧ n ≤ 9223372036854775807 ∧ ∀ k, k < n → ∃ b o, lo ≤ b ∧ b < hi ∧
      (∀ (i : Int), i = k → ∀ wx, (Instr.indexAt 37 (.slice a n cap) (.int .i64 i)).run Try.prog wx = .ok (.pointer (some ⟨b, o, none⟩)) wx) ∧
      ∀ wx fx, Own wx lo hi 25 v n 4 fx → Slot4 wx b o ∧
        (∀ j u, j < 4 → Own (wx.setCell ⟨b, o + j, none⟩ u) lo hi 25 v n 4 (fx.set (k * 4 + j) u)) := by
  obtain ⟨a, cap, hv, hn, hc⟩ := Own.cell elCmd h
  refine ⟨a, cap, hv, hn, fun k hk => ?_⟩
  obtain ⟨b, o, h1, h2, hi', hcell⟩ := hc k hk
  refine ⟨b, o, h1, h2, hi', fun wx fx hO => ?_⟩
  have hl : fx.length = n * 4 := hO.1.1
  obtain ⟨a0, a1, a2⟩ := hcell 0 (by omega) wx _ hO
  obtain ⟨b0, b1, b2⟩ := hcell 1 (by omega) wx _ hO
  obtain ⟨c0, c1, c2⟩ := hcell 2 (by omega) wx _ hO
  obtain ⟨d0, d1, d2⟩ := hcell 3 (by omega) wx _ hO
  refine ⟨⟨⟨fx[k * 4 + 0]'(by omega), fx[k * 4 + 1]'(by omega), fx[k * 4 + 2]'(by omega), fx[k * 4 + 3]'(by omega), ?_, ?_, ?_, ?_⟩, a1, b1, c1, d1⟩, fun j u hj => (hcell j hj wx _ hO).2.2 u⟩
  · rw [show o = o + 0 from rfl, a0]; exact List.getElem?_eq_getElem _
  · rw [b0]; exact List.getElem?_eq_getElem _
  · rw [c0]; exact List.getElem?_eq_getElem _
  · rw [d0]; exact List.getElem?_eq_getElem _

set_option maxRecDepth 100000 in
set_option maxHeartbeats 4000000 in
theorem markCommandS_any (v : Value) (cs : List CT) (k0 : Int) (w : World) {lo hi : Nat} (h : CmsO w lo hi v cs) (h0 : 0 ≤ k0) (h1 : k0 + 4 * cs.length ≤ 1000000000) :
    Calls Try.prog 37 #[v, .int .i64 k0] w fun e w' => e = .returned (.int .i64 (k0 + 4 * cs.length)) ∧ Keep lo hi w w' := by
  have hO0 : Own w lo hi 25 v cs.length 4 (flat encC cs) := h
  generalize flat encC cs = fl0 at *
  generalize cs.length = n at *
  clear h
  obtain ⟨a, cap, rfl, hn, hcell⟩ := own4 hO0
  have HCELL := Lib.hid hcell; clear hcell
  go_enter Try.func37, Try.ntmps37
  go_wp2_with fail
  go_loopw [1, 5] (fun q i wr => ∃ k : Nat, k ≤ n ∧ i = .int .i64 k ∧ q = .int .i64 (k0 + 4 * k) ∧ Hid (Keep lo hi w wr) ∧ Hid (∃ fl, Own wr lo hi 25 (.slice a n cap) n 4 fl)) (fun _ i _ => n - (intOf i).toNat)
  case atStart => exact ⟨0, Nat.zero_le _, rfl, by simp, Lib.hid (Keep.refl _ _ _), Lib.hid ⟨_, hO0⟩⟩
  case round =>
    obtain ⟨k, hk, rfl, rfl, HK, HO⟩ := hrel
    by_cases hlt : k < n
    · obtain ⟨b, o, hp1, hp2, hi', hst⟩ := HCELL.out k hlt
      have hix := hi' k rfl
      have HST := Lib.hid hst
      have HP := Lib.hid (And.intro hp1 hp2)
      obtain ⟨fl, hO⟩ := HO.out
      obtain ⟨⟨⟨u0, u1, u2, u3, r0, r1, r2, r3⟩, f0, f1, f2, f3⟩, hset⟩ := hst wr fl hO
      have HO1 := Lib.hid (hset 0 (.int .i64 (k0 + 4 * (k : Int))) (by omega))
      have HK1 := Lib.hid (keep_setCell (p := ⟨b, o, none⟩) HK.out hp1 hp2 (.int .i64 (k0 + 4 * (k : Int))))
      clear hi' hst hp1 hp2 hO hset r1 r2 r3 f1 f2 f3
      go_wp2_with fail
      replace HO1 : Hid (Own (wr.setCell ⟨b, o, none⟩ (.int .i64 (k0 + 4 * (k : Int)))) lo hi 25 (.slice a n cap) n 4 _) := HO1
      clear r0 f0
      generalize wr.setCell ⟨b, o, none⟩ (.int .i64 (k0 + 4 * (k : Int))) = wq at *
      refine (markText_any (k0 + 4 * (k : Int) + 1) _ (by omega) (by omega)).mono ?_
      rintro e w2 ⟨rfl, hb2⟩
      have hO2 := Own.below HO1.out hb2
      have HK2 := Lib.hid (HK1.out.trans (Keep.of_below hb2 _ _))
      obtain ⟨⟨⟨u0, u1, u2, u3, r0, r1, r2, r3⟩, f0, f1, f2, f3⟩, hset⟩ := HST.out w2 _ hO2
      generalize mtext (k0 + 4 * (k : Int) + 1).toNat = mt at *
      have hO3 := hset 1 (.string mt) (by omega)
      have hO4 := (HST.out _ _ hO3).2 2 (.int .i64 (k0 + 4 * (k : Int) + 1 + 1)) (by omega)
      have hO5 := (HST.out _ _ hO4).2 3 (.int .i64 (k0 + 4 * (k : Int) + 1 + 1 + 1)) (by omega)
      have HO5 : Hid (∃ fl, Own (((w2.setCell ⟨b, o + 1, none⟩ (.string mt)).setCell ⟨b, o + 2, none⟩ (.int .i64 (k0 + 4 * (k : Int) + 1 + 1))).setCell ⟨b, o + 3, none⟩ (.int .i64 (k0 + 4 * (k : Int) + 1 + 1 + 1))) lo hi 25 (.slice a n cap) n 4 fl) := Lib.hid ⟨_, hO5⟩
      have HK5 := Lib.hid (keep_setCell (p := ⟨b, o + 3, none⟩) (keep_setCell (p := ⟨b, o + 2, none⟩) (keep_setCell (p := ⟨b, o + 1, none⟩) HK2.out HP.out.1 HP.out.2 (.string mt)) HP.out.1 HP.out.2 (.int .i64 (k0 + 4 * (k : Int) + 1 + 1))) HP.out.1 HP.out.2 (.int .i64 (k0 + 4 * (k : Int) + 1 + 1 + 1)))
      clear hb2 hO2 hset hO3 hO4 hO5 r0 f0
      as_aux_lemma =>
        go_wp2_with fail
        go_roundw
        case rel => exact ⟨k + 1, by omega, by go_num, congrArg (Value.int .i64) (by omega), HK5, HO5⟩
        case measure => simp [intOf]; omega
    · have HE := Lib.hid (show k = n by omega)
      go_wp2_with fail
      go_ret
      exact ⟨ret_int (by rw [HE.out]), HK.out⟩
end Go.Proofs.Ytpkhkmehpijngaa
