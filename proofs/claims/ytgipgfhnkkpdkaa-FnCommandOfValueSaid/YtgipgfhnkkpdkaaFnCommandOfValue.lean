/-
  For every code the law FnCommandOfValue returns true, and what it was given reads afterwards as before. No condition.
-/
import Derived.Test.YtgipgfhnkkpdkaaFrame
import Derived.Test.YtgipgfhnkkpdkaaCmd
namespace Go.Proofs.Ytgipgfhnkkpdkaa.fnCommandOfValue
open Go.ChangeShapes Go.WideShapes Go.ChangeAt Go.RowKit
open Go.ChangeMaps (open_string shut_string)
set_option linter.unusedVariables false

set_option maxHeartbeats 4000000 in
theorem walk_at (w : World) (v0 : Value) (n0 : Nat) (b0 : Bytes w 0 w.heap.size v0 n0) :
    Calls Try.prog 4 #[v0] w fun e w' => e = .returned (.bool true) ∧ Below w.heap.size w w' := by
  obtain ⟨a0, c0, hv0, hn0, _⟩ := b0.open
  subst hv0
  by_cases big0 : n0 ≤ 1048576
  case neg =>
    go_enter Try.func4, Try.ntmps4
    go_wp2_with fail
    go_ret
    exact ⟨rfl, Below.refl _ _⟩
  have HB : Below w.heap.size w w := Below.refl _ _
  go_enter Try.func4, Try.ntmps4
  go_wp2_with fail
  refine (DrawCommandOfValue_any _ n0 _ b0).mono ?_
  rintro e w0 ⟨v, rfl, v0', v1', hb0⟩
  have hs0 := hb0.size
  cases hv : inB v 1 99
  case false =>
    rcases inB_false hv with g | g
    case inl =>
      have HS := fun w => Lib.hid (specCmd_no v w hv)
      have HI := fun w => Lib.hid (implCmd_no v w hv)
      unfold noCmd cmdV at HS HI
      clear hv
      as_aux_lemma =>
        go_wp2_with fail
        refine (HS _).out.mono ?_
        rintro e w1 ⟨rfl, hb1⟩
        have hs1 := hb1.size
        go_wp2_with fail
        refine (HI _).out.mono ?_
        rintro e w2 ⟨rfl, hb2⟩
        obtain ⟨hc2, hf2⟩ := bcell hb2
        have hs2 := hb2.size
        have hz2 : w1.heap.size < w2.heap.size := by simp at hs2; omega
        go_wp2_with fail
        go_ret
        refine ⟨rfl, ?_⟩
        have k0 := hb0.trans (hb1.mono hs0)
        have k1 := k0.alloc (by omega)
        have k2 := (k1 _).trans (hb2.mono (by simp; omega))
        exact k2.alloc (by simp at hs2; omega) _
    case inr =>
      have HS := fun w => Lib.hid (specCmd_no v w hv)
      have HI := fun w => Lib.hid (implCmd_no v w hv)
      unfold noCmd cmdV at HS HI
      clear hv
      have g3 : 1 ≤ v := by omega
      have g4 : decide (v ≤ 99) = false := by simp; omega
      as_aux_lemma =>
        go_wp2_with fail
        refine (HS _).out.mono ?_
        rintro e w1 ⟨rfl, hb1⟩
        have hs1 := hb1.size
        go_wp2_with fail
        refine (HI _).out.mono ?_
        rintro e w2 ⟨rfl, hb2⟩
        obtain ⟨hc2, hf2⟩ := bcell hb2
        have hs2 := hb2.size
        have hz2 : w1.heap.size < w2.heap.size := by simp at hs2; omega
        go_wp2_with fail
        go_ret
        refine ⟨rfl, ?_⟩
        have k0 := hb0.trans (hb1.mono hs0)
        have k1 := k0.alloc (by omega)
        have k2 := (k1 _).trans (hb2.mono (by simp; omega))
        exact k2.alloc (by simp at hs2; omega) _
  case true =>
    obtain ⟨g1, g2⟩ := inB_true hv
    by_cases g : v < 10
    case pos =>
      have HS := fun w => Lib.hid (specCmd_yes v w g1 g2)
      have HI := fun w => Lib.hid (implCmd_yes v w g1 g2)
      unfold cmdV at HS HI
      rw [show opOf v = 2 by simp [opOf, g], show valOf v = 0 by simp [valOf, g]] at HS HI
      obtain ⟨ky, hky⟩ : ∃ ky, keyAt (v % 10 % 6) = ky := ⟨_, rfl⟩
      rw [hky] at HS HI
      have HKY := Lib.hid hky; clear hky hv
      as_aux_lemma =>
        go_wp2_with fail
        refine (HS _).out.mono ?_
        rintro e w1 ⟨rfl, hb1⟩
        have hs1 := hb1.size
        go_wp2_with fail
        refine (HI _).out.mono ?_
        rintro e w2 ⟨rfl, hb2⟩
        obtain ⟨hc2, hf2⟩ := bcell hb2
        have hs2 := hb2.size
        have hz2 : w1.heap.size < w2.heap.size := by simp at hs2; omega
        go_wp2_with fail
        refine (keyOf_any _ _ (by omega) (by omega)).mono ?_
        rintro e w' ⟨rfl, rfl⟩
        rw [HKY.out]
        go_wp2_with fail
        go_ret
        refine ⟨rfl, ?_⟩
        have k0 := hb0.trans (hb1.mono hs0)
        have k1 := k0.alloc (by omega)
        have k2 := (k1 _).trans (hb2.mono (by simp; omega))
        exact k2.alloc (by simp at hs2; omega) _
    case neg =>
      have HS := fun w => Lib.hid (specCmd_yes v w g1 g2)
      have HI := fun w => Lib.hid (implCmd_yes v w g1 g2)
      unfold cmdV at HS HI
      rw [show opOf v = 1 by simp [opOf, g], show valOf v = v / 10 by simp [valOf, g]] at HS HI
      obtain ⟨ky, hky⟩ : ∃ ky, keyAt (v % 10 % 6) = ky := ⟨_, rfl⟩
      rw [hky] at HS HI
      have HKY := Lib.hid hky; clear hky hv
      as_aux_lemma =>
        go_wp2_with fail
        refine (HS _).out.mono ?_
        rintro e w1 ⟨rfl, hb1⟩
        have hs1 := hb1.size
        go_wp2_with fail
        refine (HI _).out.mono ?_
        rintro e w2 ⟨rfl, hb2⟩
        obtain ⟨hc2, hf2⟩ := bcell hb2
        have hs2 := hb2.size
        have hz2 : w1.heap.size < w2.heap.size := by simp at hs2; omega
        go_wp2_with fail
        refine (keyOf_any _ _ (by omega) (by omega)).mono ?_
        rintro e w' ⟨rfl, rfl⟩
        rw [HKY.out]
        go_wp2_with fail
        go_ret
        refine ⟨rfl, ?_⟩
        have k0 := hb0.trans (hb1.mono hs0)
        have k1 := k0.alloc (by omega)
        have k2 := (k1 _).trans (hb2.mono (by simp; omega))
        exact k2.alloc (by simp at hs2; omega) _

/-! ### THE ROW's STEP -/
set_option maxRecDepth 100000 in
theorem lifted (os : Os) (started : os.Started) (H : Type) (enc : TypeId × Value → H) :
    ReturnsInHanded {} Try.checked os 4 .any (Rows.fnCommandOfValueSpec.pre6 enc Try.prog Try.f4 Rows.fnCommandOfValueRow.domain false) (Rows.fnCommandOfValueSpec.post enc Try.prog Try.f4 false true false false) := by
  refine returnsInHanded_of_change (C := Try.checked) own started (by kernel_rfl) Try.func4
    (ChangeSpec.witness6 (enc := enc) (C := Try.checked) false ⟨#[], #[.slice none 0 0], []⟩ 8 (by kernel_rfl) (by kernel_rfl) (by kernel_rfl) (by kernel_rfl)) ?_
  intro W base args ds gs before hval0 hW hcnd _
  have hval : ∀ (j : Nat) t v, Try.f4.params[j]? = some t → args[j]? = some v → Value.okWide Try.prog W .any base t v := hval0
  have hW' := hW
  obtain ⟨p, q, hA0, hV, rfl, hfz, hnd⟩ := hW
  have hA : DataW.TrodAll enc Try.prog W 0 (fun _ => true) true Try.f4.params.toList args.toList ds p := hA0
  rw [Try.params4] at hA hval
  obtain ⟨v0, vs0, d0, ds0, p0, q0, hargs, rfl, rfl, h0, r0⟩ := trodAll_cons hA
  obtain ⟨rfl, rfl, rfl⟩ := trodAll_nil r0
  obtain rfl : args = #[v0] := by cases args; simp_all
  obtain ⟨rfl, rfl⟩ := trodVars_none hV
  obtain ⟨n0, b0⟩ := bytes_in (hval 0 _ v0 rfl rfl) h0
  have lt0 := lt_in h0
  clear hA0 hval0
  refine (walk_at W v0 n0 b0).mono fun e W' ⟨he, bel⟩ => ?_
  subst he
  exact ⟨_, rfl, _, _, _, [], _, [], hW', trodAll_mk1 (shut_bool Try.underlying4 _), (trodAll_cons_mk (Below.trod laidOut (by kernel_rfl) (of_decide_eq_true (by kernel_rfl)) h0 bel lt0) trodAll_mk0), rfl, bel.frame _, fun h => by cases h⟩

set_option maxRecDepth 100000 in
theorem closed : joinedFacts Try.prog 4 Try.f4 Rows.fnCommandOfValueSpec Rows.fnCommandOfValueRow = true := by
  unfold joinedFacts
  rw [may, lifts, mk]
  kernel_rfl
theorem over : Rows.fnCommandOfValueRow.holds Try.pinned (OpenSpec.ofChange Rows.fnCommandOfValueSpec) :=
  OpenClaim.holds_of_wide 4 Try.f4 rfl rfl rfl rfl rfl rfl rfl ⟨rfl, rfl, rfl, rfl, rfl⟩ rfl rfl rfl rfl rfl (by as_aux_lemma => kernel_rfl) Try.func4 closed
    (of_decide_eq_true (by as_aux_lemma => kernel_rfl)) (by unfold Func.isWrapper; rw [if_neg (of_decide_eq_false (by as_aux_lemma => kernel_rfl))]; exact ⟨rfl, rfl⟩)
    (fun os started H enc _ => lifted os started H enc)

/-- THE STATEMENT -/
theorem proved : Rows.FnCommandOfValueSaid := over
end Go.Proofs.Ytgipgfhnkkpdkaa.fnCommandOfValue
