/-
  The walk of the reference's draw DrawStoreApplyAll.
-/
import Derived.Test.YtlihmomopofdnaaGreatDoorCmdR
import Derived.Test.YtlihmomopofdnaaGreatDoorAll
namespace Go.Proofs.YtlihmomopofdnaaGreatDoor
open Go.RowKit
set_option linter.unusedVariables false

def RetDrawAll (w : World) (e : Ending) (w' : World) : Prop :=
  ∃ sv ps lv cs, e = .returned (.tuple #[sv, lv]) ∧ PrsO w' w.heap.size w'.heap.size sv ps ∧ Cms w' w.heap.size w'.heap.size lv cs ∧ ps.length ≤ 5 ∧ cs.length ≤ 6 ∧ Hid (∀ c ∈ cs, ByteArray.size c.2.1 ≤ 1) ∧ Below w.heap.size w w'

set_option maxRecDepth 100000 in
set_option maxHeartbeats 8000000 in
theorem DrawStoreApplyAll_any (v : Value) (n : Nat) (w : World) {lo hi : Nat} (h : Bytes w lo hi v n) :
    Calls Tryz.prog 4 #[v] w (RetDrawAll w) := by
  go_enter Tryz.func4, Tryz.ntmps4
  go_wp2_with fail
  refine (open_any v n _ h).mono ?_
  rintro e w1 ⟨rfl, hr1, hb1, hs1⟩
  go_wp2_with fail
  refine (l92StoreK_any _ 0 _ hr1 (by omega)).mono ?_
  rintro e w2 ⟨sv, ps, rfl, ho, hl, hr2, hk2, hks⟩
  have hs2 := hk2.size
  have hB2 := hb1.trans (hk2.below (B := w.heap.size) (Nat.le_refl _) (by omega))
  obtain ⟨aS, cS, hv⟩ := ho.form
  subst hv
  have HKS := Lib.hid hks
  have hbE : Below w2.heap.size w2 (w2.alloc (.cells #[] 41)) := (Below.refl _ _).alloc (Nat.le_refl _) _
  have hO : CmsO (w2.alloc (.cells #[] 41)) w2.heap.size (w2.alloc (.cells #[] 41)).heap.size (.slice (some ⟨w2.heap.size, 0, none⟩) 0 0) [] := RecsO.empty _ _ (Nat.le_refl _)
  have hlt1 := hr1.lt
  have hsE := hbE.size
  replace hr2 := hr2.below hbE
  replace ho := PrsO.below ho hbE
  replace hB2 := below_step hB2 hbE hB2.size
  clear hbE hks hr1 hk2 hb1
  as_aux_lemma =>
    go_wp2_with fail
    generalize w2.alloc (.cells #[] 41) = wE at *
    refine (pick_any w.heap.size _ 7 _ hr2 (by omega) (by omega)).mono ?_
    rintro e w3 ⟨n0, rfl, n00, n01, hr3, hk3⟩
    have hs3 := hk3.size
    obtain ⟨m0, hm0⟩ : ∃ m0 : Nat, n0 = (m0 : Int) := ⟨n0.toNat, by omega⟩
    subst hm0
    have hO3 := CmsO.wide (CmsO.keep hO hk3 (.inr (by omega))) (Nat.le_refl _) hs3 (Nat.le_refl _)
    have ho3 := PrsO.keep ho hk3 (.inr (by omega))
    have hB3 := hB2.trans (hk3.below (B := w.heap.size) (Nat.le_refl _) hB2.size)
    clear hO ho hB2 hk3 hr2
    as_aux_lemma =>
      go_wp2_with fail
      go_loopw [6, 7] (fun l i wr => ∃ (j : Nat) (cs : List CT), j ≤ m0 ∧ i = .int .i64 j ∧ CmsO wr w2.heap.size wr.heap.size l cs ∧ cs.length + j ≤ m0 ∧ Hid (∀ c ∈ cs, ByteArray.size c.2.1 ≤ 1) ∧ Rdr wr w.heap.size (0 + 20 + 1 + 10 * (m0 - j)) ∧ PrsO wr w1.heap.size w2.heap.size (.slice aS ps.length cS) ps ∧ Below w.heap.size w wr ∧ w2.heap.size ≤ wr.heap.size) (fun _ i _ => (intOf i).toNat)
      case atStart => exact ⟨m0, [], Nat.le_refl _, rfl, hO3, by simp, Lib.hid (fun c hc => by cases hc), hr3.more (by omega), ho3, hB3, by omega⟩
      case round =>
        obtain ⟨j, cs, hj, rfl, hown, hcl, HCK, hr, hp, hb, hsz⟩ := hrel
        obtain ⟨ao, co, hvo⟩ := hown.form
        subst hvo
        by_cases hlt : 0 < j
        · go_wp2_with fail
          refine (l92Command_any w.heap.size _ _ ps wr hr (by omega) hp.prs (.inr hlt1) (by omega) HKS.out).mono ?_
          rintro e w4 ⟨op, key, val, exp, rfl, hk1, hr4, hk4⟩
          have hs4 := hk4.size
          have hbl : Below w4.heap.size w4 (w4.alloc (.cells #[.int .i64 op, .string key, .int .i64 val, .int .i64 exp] 41)) := (Below.refl _ _).alloc (Nat.le_refl _) _
          have HO4 := Lib.hid (CmsO.below (CmsO.wide (CmsO.keep hown hk4 (.inr (by omega))) (Nat.le_refl _) hs4 (Nat.le_refl _)) hbl)
          have HP4 := Lib.hid (PrsO.below (PrsO.keep hp hk4 (.inr (by omega))) hbl)
          have HR4 := Lib.hid (hr4.below hbl)
          have HB4 := Lib.hid (below_step (hb.trans (hk4.below (B := w.heap.size) (Nat.le_refl _) hb.size)) hbl (Nat.le_trans hb.size hs4))
          have HNW := Lib.hid (Blk.new w4 #[.int .i64 op, .string key, .int .i64 val, .int .i64 exp] 41)
          have hs5 := hbl.size
          have HCK2 : Hid (∀ c ∈ cs ++ [(op, key, val, exp)], ByteArray.size c.2.1 ≤ 1) := Lib.hid fun c hc => by
            rcases List.mem_append.1 hc with hc | hc
            · exact HCK.out c hc
            · rw [List.mem_singleton.1 hc]; exact hk1
          clear hown hr hp hb hr4 hk4 hbl hk1
          as_aux_lemma =>
            go_wp2_with (at_builtin; refine wpl_append elCmd rfl _ _ rfl rfl HO4.out (by omega) ⟨w4.heap.size, 0, none⟩ 1 1 [.int .i64 op, .string key, .int .i64 val, .int .i64 exp] rfl rfl HNW.out.news (encC.one (op, key, val, exp)) (by omega) (by unfold maxLen; omega) ?_; intro v6 w6 hown6 hk6)
            have HO6 : Hid (CmsO w6 w2.heap.size w6.heap.size v6 (cs ++ [(op, key, val, exp)])) := Lib.hid (by
              unfold CmsO RecsO
              rw [List.length_append, flat_append, flat_one]
              exact hown6)
            have HP6 := Lib.hid (PrsO.keep HP4.out hk6 (.inl (Nat.le_refl _)))
            have HR6 := Lib.hid (HR4.out.keep hk6 (by omega))
            have HB6 := Lib.hid (HB4.out.trans (hk6.below (B := w.heap.size) (by omega) HB4.out.size))
            have hs6 := hk6.size
            clear hown6 hk6
            go_wp2_with fail
            go_roundw
            case rel => exact ⟨j - 1, _, by omega, congrArg (Value.int .i64) (by omega), HO6.out, by simp; omega, HCK2, HR6.out.more (by omega), HP6.out, HB6.out, by omega⟩
            case measure => simp [intOf]; omega
        · have hj0 : j = 0 := by omega
          subst hj0
          clear hlt
          go_wp2_with fail
          go_ret2
          exact ⟨_, ps, _, cs, rfl, PrsO.wide hp (by omega) hsz (Nat.le_refl _), Recs.wide hown.cms (by omega) (Nat.le_refl _) (Nat.le_refl _), hl, by omega, HCK, hb⟩
end Go.Proofs.YtlihmomopofdnaaGreatDoor
