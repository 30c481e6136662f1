/-
  For every input the law FnStoreGet returns true, and what it was given reads afterwards as before. No condition beyond the row's own.
-/
import Derived.Test.YtbhcgdjdkdiceaaFrameP
import Derived.Test.YtbhcgdjdkdiceaaStoreQ
import Derived.Test.YtbhcgdjdkdiceaaGetI
import Derived.Deep.DeepCutAuto
import Derived.Deep.QuietTactic
import Derived.BigQuiet
namespace Go.Proofs.Ytbhcgdjdkdiceaa.fnStoreGet
open Go.ChangeShapes Go.WideShapes Go.ChangeAt Go.RowKit
open Go.ChangeMaps (open_string shut_string)
set_option linter.unusedVariables false

set_option maxRecDepth 100000 in
set_option maxHeartbeats 8000000 in
theorem walk_at (w : World) (v0 : Value) (n0 : Nat) (b0 : Bytes w 0 w.heap.size v0 n0) :
    Calls Try.prog 6 #[v0] w fun e w' => e = .returned (.bool true) ∧ Below w.heap.size w w' := by
  obtain ⟨a0, c0, hv0, hn0, hx0⟩ := b0.open
  clear hx0
  subst hv0
  by_cases big0 : n0 ≤ 1048576
  case neg =>
    go_enter Try.func6, Try.ntmps6
    go_wp2_with fail
    go_ret
    exact ⟨rfl, Below.refl _ _⟩
  go_enter Try.func6, Try.ntmps6
  go_wp2_with fail
  have HB : Below w.heap.size w w := Below.refl _ _
  refine (DrawStoreGet_any _ n0 _ b0).mono ?_
  rintro e w1 ⟨sv, ps, key, rfl, o, hlen, hks, hb1⟩
  have hs1 := hb1.size
  replace b0 := b0.below hb1
  replace HB := below_step HB hb1 HB.size
  clear hb1
  obtain ⟨aa, ca, hva⟩ := o.form
  subst hva
  obtain ⟨gm, gr, hr⟩ : ∃ gm gr, getP ps key = (gm, gr) := ⟨_, _, rfl⟩
  have HR := Lib.hid hr; clear hr
  have hrr : (gr != gr) = false := by cases gr <;> rfl
  have hmm : (gm != gm) = false := by simp
  have hme : (gr == gr) = true := by cases gr <;> rfl
  have HKS := Lib.hid hks; clear hks
  have HLEN := Lib.hid hlen; clear hlen
  as_aux_lemma =>
   go_wp2_with fail
   refine (specStoreGet_any _ ps key _ o.prs gm gr HR.out).mono ?_
   rintro e w2 ⟨rfl, hw2⟩
   have hb2 := drawn_below hw2
   have hs2 := hb2.size
   replace b0 := b0.below hb2
   replace o := o.below hb2
   replace HB := below_step HB hb2 HB.size
   clear hb2 hw2
   as_aux_lemma =>
    go_wp2_with fail
    refine (implStoreGet_any _ ps key _ o.prs (Nat.le_trans HLEN.out (by decide)) HKS.out gm gr HR.out).mono ?_
    rintro e w3 ⟨rfl, hb3⟩
    have hs3 := hb3.size
    replace b0 := b0.below hb3
    replace o := o.below hb3
    replace HB := below_step HB hb3 HB.size
    clear hb3
    as_aux_lemma =>
     go_wp2_with fail
     cases hv : storeOk ps
     · have HV := Lib.hid hv; clear hv
       refine (specStoreValid_any _ ps _ o.prs false HV.out).mono ?_
       rintro e w4 ⟨rfl, hw4⟩
       have hb4 := drawn_below hw4
       have hs4 := hb4.size
       replace b0 := b0.below hb4
       replace o := o.below hb4
       replace HB := below_step HB hb4 HB.size
       clear hb4 hw4
       as_aux_lemma =>
        go_wp2_with fail
        go_ret
        exact ⟨rfl, HB⟩
     · have HV := Lib.hid hv; clear hv
       refine (specStoreValid_any _ ps _ o.prs true HV.out).mono ?_
       rintro e w4 ⟨rfl, hw4⟩
       have hb4 := drawn_below hw4
       have hs4 := hb4.size
       replace b0 := b0.below hb4
       replace o := o.below hb4
       replace HB := below_step HB hb4 HB.size
       clear hb4 hw4
       as_aux_lemma =>
        go_wp2_with fail
        have HF := Lib.hid (show findP ps key = (gm, gr) by have := HR.out; unfold getP at this; rw [HV.out] at this; exact this)
        have HM : Hid (∀ k, k < ps.length → ((pk ps k).toList == key.toList) = true → pv ps k = gm ∧ gr = true) := fun k hk hp => by
          have e := findP_at hk hp fun j hj => by
            rw [beq_eq_false_iff_ne]
            intro e
            exact distinct HV.out hj hk (e.trans (beq_iff_eq.1 hp).symm)
          rw [HF.out] at e
          cases e
          exact ⟨rfl, rfl⟩
        have HN : Hid ((∀ j, j < ps.length → ((pk ps j).toList == key.toList) = false) → gr = false) := fun h => by
          have e := findP_none h
          rw [HF.out] at e
          cases e
          rfl
        obtain ⟨ax, axc, hvax, hnax, hcax⟩ := o.prs.open
        cases hvax
        have HC := Lib.hid hcax; clear hcax
        go_loop [9, 10] (fun c i => ∃ (k : Nat) (x : Int), k ≤ ps.length ∧ i = .int .i64 k ∧ c = .int .i64 x ∧ ((x = 0 ∧ ∀ j, j < k → ((pk ps j).toList == key.toList) = false) ∨ (x = 1 ∧ ∃ j, j < k ∧ ((pk ps j).toList == key.toList) = true))) (fun _ i => ps.length - (intOf i).toNat)
        case atStart => exact ⟨0, 0, Nat.zero_le _, rfl, rfl, .inl ⟨rfl, fun j hj => absurd hj (by omega)⟩⟩
        case round =>
          obtain ⟨k, x, hk, rfl, rfl, hx⟩ := hrel
          have HX := Lib.hid hx; clear hx
          by_cases hlt : k < ps.length
          · obtain ⟨b, o', _, _, hi', c0, c1⟩ := HC.out k hlt
            have hix := hi' k rfl
            clear hi'
            cases hp : ((pk ps k).toList == key.toList)
            · have HS : Hid ((x = 0 ∧ ∀ j, j < k + 1 → ((pk ps j).toList == key.toList) = false) ∨ (x = 1 ∧ ∃ j, j < k + 1 ∧ ((pk ps j).toList == key.toList) = true)) := by
                rcases HX.out with ⟨e, h⟩ | ⟨e, j, hj, h⟩
                · refine .inl ⟨e, fun j hj => ?_⟩
                  by_cases ej : j = k
                  · subst ej; exact hp
                  · exact h j (by omega)
                · exact .inr ⟨e, j, by omega, h⟩
              go_wp2_with fail
              go_round
              case rel => exact ⟨k + 1, x, by omega, by go_num, rfl, HS.out⟩
              case measure => simp [intOf]; omega
            · obtain ⟨hgm, hgr⟩ := HM.out k hlt hp
              rw [hgm] at c1
              clear hgm hgr
              obtain rfl : x = 0 := by
                rcases HX.out with ⟨e, h⟩ | ⟨e, j, hj, h⟩
                · exact e
                · exact absurd ((beq_iff_eq.1 h).trans (beq_iff_eq.1 hp).symm) (distinct HV.out hj hlt)
              have HS := Lib.hid (show ∃ j, j < k + 1 ∧ ((pk ps j).toList == key.toList) = true from ⟨k, Nat.lt_succ_self k, hp⟩)
              go_wp2_with fail
              go_round
              case rel => exact ⟨k + 1, 1, by omega, by go_num, rfl, .inr ⟨rfl, HS.out⟩⟩
              case measure => simp [intOf]; omega
          · rcases HX.out with ⟨rfl, h⟩ | ⟨rfl, j, hj, h⟩
            · obtain rfl := HN.out fun j hj => h j (by omega)
              clear h hrr hme
              go_wp2_with fail
              go_ret
              exact ⟨rfl, HB⟩
            · obtain ⟨hgm, rfl⟩ := HM.out j (by omega) h
              clear h hrr hme hgm
              go_wp2_with fail
              go_ret
              exact ⟨rfl, HB⟩

/-! ### THE ROW's STEP -/
set_option maxRecDepth 100000 in
theorem lifted (os : Os) (started : os.Started) (H : Type) (enc : TypeId × Value → H) :
    ReturnsInHanded {} Try.checked os 6 .any (Rows.fnStoreGetSpec.pre6 enc Try.prog Try.f6 Rows.fnStoreGetRow.domain false) (Rows.fnStoreGetSpec.post enc Try.prog Try.f6 false true false false) := by
  refine returnsInHanded_of_change (C := Try.checked) own started (by kernel_rfl) Try.func6
    (ChangeSpec.witness6 (enc := enc) (C := Try.checked) false ⟨#[], #[.slice none 0 0], []⟩ 8 (by kernel_rfl) (by kernel_rfl) (by kernel_rfl) (by kernel_rfl)) ?_
  intro W base args ds gs before hval0 hW hcnd _
  have hval : ∀ (j : Nat) t v, Try.f6.params[j]? = some t → args[j]? = some v → Value.okWide Try.prog W .any base t v := hval0
  have hW' := hW
  obtain ⟨p, q, hA0, hV, rfl, hfz, hnd⟩ := hW
  have hA : DataW.TrodAll enc Try.prog W 0 (fun _ => true) true Try.f6.params.toList args.toList ds p := hA0
  rw [Try.params6] at hA hval
  obtain ⟨v0, vs0, d0, ds0, p0, q0, hargs, rfl, rfl, h0, r0⟩ := trodAll_cons hA
  obtain ⟨rfl, rfl, rfl⟩ := trodAll_nil r0
  obtain rfl : args = #[v0] := by cases args; simp_all
  obtain ⟨rfl, rfl⟩ := trodVars_none hV
  obtain ⟨n0, b0⟩ := bytes_in (hval 0 _ v0 rfl rfl) h0
  have lt0 := lt_in h0
  clear hA0 hval0
  refine (walk_at W v0 n0 b0).mono fun e W' ⟨he, bel⟩ => ?_
  subst he
  exact ⟨_, rfl, _, _, _, [], _, [], hW', trodAll_mk1 (shut_bool Try.underlying4 _), (trodAll_cons_mk (Below.trod laidOut (by kernel_rfl) (of_decide_eq_true (by kernel_rfl)) h0 bel lt0) trodAll_mk0), rfl, bel.frame _, fun h => by cases h⟩

set_option maxRecDepth 100000 in
theorem closed : joinedFacts Try.prog 6 Try.f6 Rows.fnStoreGetSpec Rows.fnStoreGetRow = true := by
  unfold joinedFacts
  rw [may, lifts, mk]
  kernel_rfl
theorem over : Rows.fnStoreGetRow.holds Try.pinned (OpenSpec.ofChange Rows.fnStoreGetSpec) :=
  OpenClaim.holds_of_wide 6 Try.f6 rfl rfl rfl rfl rfl rfl rfl ⟨rfl, rfl, rfl, rfl, rfl⟩ rfl rfl rfl rfl rfl (by as_aux_lemma => kernel_rfl) Try.func6 closed
    (of_decide_eq_true (by as_aux_lemma => kernel_rfl)) (by unfold Func.isWrapper; rw [if_neg (of_decide_eq_false (by as_aux_lemma => kernel_rfl))]; exact ⟨rfl, rfl⟩)
    (fun os started H enc _ => lifted os started H enc)

/-- THE STATEMENT -/
theorem proved : Rows.FnStoreGetSaid := over
end Go.Proofs.Ytbhcgdjdkdiceaa.fnStoreGet
