/-
  The walk of the reference's draw of a store, with the sizes of its keys.
-/
import Derived.Test.YtlihmomopofdnaaGreatDoorStoreR
namespace Go.Proofs.YtlihmomopofdnaaGreatDoor
open Go.RowKit
set_option linter.unusedVariables false

def Keys1 (ps : List (ByteArray × Int)) : Prop := ∀ p ∈ ps, p.1.size ≤ 1
theorem keys1_nil : Keys1 [] := fun p hp => by cases hp
theorem keys1_snoc {ps : List (ByteArray × Int)} {s : ByteArray} {z : Int} (h : Keys1 ps) (hs : s.size ≤ 1) : Keys1 (ps ++ [(s, z)]) := fun p hp => by
  rcases List.mem_append.1 hp with hp | hp
  · exact h p hp
  · rw [List.mem_singleton.1 hp]; exact hs
theorem keys1_step {key : ByteArray} {val : Int} {st : List (ByteArray × Int) × Bool} {x : ByteArray × Int} (h : Keys1 st.1) (hk : key.size ≤ 1) (hx : x.1.size ≤ 1) : Keys1 (stepW key val st x).1 := by
  have h1 : Keys1 (if st.2 || Op.bytesLess x.1.toList key.toList then st else (st.1 ++ [(key, val)], true)).1 := by
    split
    · exact h
    · exact keys1_snoc h hk
  unfold stepW
  dsimp only
  split
  · exact h1
  · exact keys1_snoc (s := x.1) (z := x.2) h1 hx
theorem keys1_fold {key : ByteArray} {val : Int} (hk : key.size ≤ 1) : ∀ (l : List (ByteArray × Int)) (st : List (ByteArray × Int) × Bool), Keys1 l → Keys1 st.1 → Keys1 (l.foldl (stepW key val) st).1
  | [], st, _, h => h
  | x :: r, st, hl, h => keys1_fold hk r _ (fun p hp => hl p (List.mem_cons_of_mem _ hp)) (keys1_step h hk (hl x List.mem_cons_self))
theorem keys1_with {ps : List (ByteArray × Int)} {key : ByteArray} {val : Int} (h : Keys1 ps) (hk : key.size ≤ 1) : Keys1 (withP ps key val) := by
  have h1 : Keys1 (accW key val ps ps.length).1 := keys1_fold hk _ _ (fun p hp => h p (List.mem_of_mem_take hp)) keys1_nil
  unfold withP
  split
  · exact h1
  · exact keys1_snoc h1 hk
def RetStoreK (w : World) (g : Nat) (q : Int) (e : Ending) (w' : World) : Prop :=
  ∃ v ps, e = .returned v ∧ PrsO w' w.heap.size w'.heap.size v ps ∧ ps.length ≤ 5 ∧ Rdr w' g (q + 20) ∧ Keep g (g + 1) w w' ∧ Keys1 ps

set_option maxRecDepth 100000 in
set_option maxHeartbeats 8000000 in
theorem l92StoreK_any (g : Nat) (q : Int) (w : World) (h : Rdr w g q) (hq : q ≤ 1000000) :
    Calls Tryz.prog 12 #[.pointer (some ⟨g, 0, none⟩)] w (RetStoreK w g q) := by
  have hgs := h.lt
  have hbE : Below w.heap.size w (w.alloc (.cells #[] 52)) := (Below.refl _ _).alloc (Nat.le_refl _) _
  have hO : PrsO (w.alloc (.cells #[] 52)) w.heap.size (w.alloc (.cells #[] 52)).heap.size (.slice (some ⟨w.heap.size, 0, none⟩) 0 0) [] := RecsO.empty _ _ (Nat.le_refl _)
  have hk0 := Keep.of_below hbE g (g + 1)
  have hs0 := hbE.size
  replace h := h.below hbE
  clear hbE
  go_enter Tryz.func12, Tryz.ntmps12
  go_wp2_with fail
  generalize w.alloc (.cells #[] 52) = w0 at *
  refine (pick_any g q 5 _ h (by omega) (by omega)).mono ?_
  rintro e w1 ⟨n0, rfl, n00, n01, hr1, hk1⟩
  have hs1 := hk1.size
  replace hO := PrsO.wide (PrsO.keep hO hk1 (.inr (by omega))) (Nat.le_refl _) hs1 (Nat.le_refl _)
  replace hk0 := hk0.trans hk1
  clear hk1 h
  obtain ⟨m0, hm0⟩ : ∃ m0 : Nat, n0 = (m0 : Int) := ⟨n0.toNat, by omega⟩
  subst hm0
  as_aux_lemma =>
   go_wp2_with fail
   go_loopw [3, 4] (fun s i wr => ∃ (j : Nat) (ps : List (ByteArray × Int)), j ≤ m0 ∧ i = .int .i64 j ∧ PrsO wr w.heap.size wr.heap.size s ps ∧ ps.length + j ≤ m0 ∧ Rdr wr g (q + 1 + 2 * (m0 - j)) ∧ Keep g (g + 1) w wr ∧ Hid (Keys1 ps)) (fun _ i _ => (intOf i).toNat)
   case atStart => exact ⟨m0, [], Nat.le_refl _, rfl, hO, by simp, hr1.more (by omega), hk0, Lib.hid keys1_nil⟩
   case round =>
    obtain ⟨j, ps, hj, rfl, hown, hpl, hr, hk, HKS⟩ := hrel
    have hsz := hk.size
    obtain ⟨ao, co, hvo⟩ := hown.form
    subst hvo
    by_cases hlt : 0 < j
    · have hb2 : Below wr.heap.size wr (wr.alloc (.cells #[.string ⟨#[97]⟩, .string ⟨#[98]⟩, .string ⟨#[99]⟩, .string ⟨#[100]⟩, .string ⟨#[102]⟩] 9)) := (Below.refl _ _).alloc (Nat.le_refl _) _
      have hst := strs_new wr [⟨#[97]⟩, ⟨#[98]⟩, ⟨#[99]⟩, ⟨#[100]⟩, ⟨#[102]⟩] #[.string ⟨#[97]⟩, .string ⟨#[98]⟩, .string ⟨#[99]⟩, .string ⟨#[100]⟩, .string ⟨#[102]⟩] 5 rfl rfl (by decide)
      have hs2 := hb2.size
      have hrl := hr.lt
      replace hr := hr.below hb2
      replace hk := hk.trans (Keep.of_below hb2 _ _)
      replace hown := PrsO.wide (PrsO.below hown hb2) (Nat.le_refl _) hs2 (Nat.le_refl _)
      clear hb2
      go_wp2_with (refine wpl_strs rfl 5 _ rfl #[.string ⟨#[97]⟩, .string ⟨#[98]⟩, .string ⟨#[99]⟩, .string ⟨#[100]⟩, .string ⟨#[102]⟩] (by decide) (by decide) (by kernel_rfl) ?_)
      generalize wr.alloc (.cells #[.string ⟨#[97]⟩, .string ⟨#[98]⟩, .string ⟨#[99]⟩, .string ⟨#[100]⟩, .string ⟨#[102]⟩] 9) = w2 at *
      refine (of_any g _ _ _ _ hr (by omega) hst (by decide) (.inr (by omega))).mono ?_
      rintro e w3 ⟨s, rfl, hs, hr3, hk3⟩
      have HS1 := Lib.hid (show s.size ≤ 1 by simp at hs; rcases hs with rfl | rfl | rfl | rfl | rfl <;> decide)
      clear hs
      have hs3 := hk3.size
      replace hk := hk.trans hk3
      replace hown := PrsO.wide (PrsO.keep hown hk3 (.inr (by omega))) (Nat.le_refl _) hs3 (Nat.le_refl _)
      clear hk3 hst hr
      as_aux_lemma =>
       go_wp2_with fail
       refine (pick_any g _ 99 _ hr3 (by omega) (by omega)).mono ?_
       rintro e w4 ⟨y, rfl, y0, y1, hr4, hk4⟩
       have hs4 := hk4.size
       replace hk := hk.trans hk4
       replace hown := PrsO.wide (PrsO.keep hown hk4 (.inr (by omega))) (Nat.le_refl _) hs4 (Nat.le_refl _)
       clear hk4 hr3
       as_aux_lemma =>
        go_wp2_with fail
        refine (l32With_any _ ps s (1 + y) _ hown.prs (by omega)).mono ?_
        rintro e w5 ⟨v5, rfl, ho5, hb5⟩
        have hs5 := hb5.size
        have hl5 := withP_len ps s (1 + y)
        have HKS2 := Lib.hid (keys1_with (val := 1 + y) HKS.out HS1.out)
        generalize withP ps s (1 + y) = ps2 at *
        obtain ⟨a5, c5, hv5⟩ := ho5.form
        subst hv5
        have hr5 := hr4.below hb5
        have hk5 := hk.trans (Keep.of_below hb5 _ _)
        have ho6 := PrsO.wide (lo' := w.heap.size) (hi' := w5.heap.size) ho5 (by omega) (Nat.le_refl _) (Nat.le_refl _)
        clear hown hr4 hk hb5 ho5
        go_wp2_with fail
        go_roundw
        case rel => exact ⟨j - 1, ps2, by omega, congrArg (Value.int .i64) (by omega), ho6, by omega, hr5.more (by omega), hk5, HKS2⟩
        case measure => simp [intOf]; omega
    · have hj0 : j = 0 := by omega
      subst hj0
      clear hlt
      go_wp2_with fail
      refine (pick_any g _ 40 _ hr (by omega) (by omega)).mono ?_
      rintro e w2 ⟨y, rfl, y0, y1, hr2, hk2⟩
      have hs2 := hk2.size
      replace hk := hk.trans hk2
      replace hown := PrsO.wide (PrsO.keep hown hk2 (.inr (by omega))) (Nat.le_refl _) hs2 (Nat.le_refl _)
      clear hk2 hr
      by_cases hy : y = 0
      · subst hy
        have hrl := hr2.lt
        have hb3 : Below w2.heap.size w2 (w2.alloc (.cells #[.string ⟨#[97]⟩, .string ⟨#[103]⟩, .string ⟨#[]⟩] 9)) := (Below.refl _ _).alloc (Nat.le_refl _) _
        have hst := strs_new w2 [⟨#[97]⟩, ⟨#[103]⟩, ⟨#[]⟩] #[.string ⟨#[97]⟩, .string ⟨#[103]⟩, .string ⟨#[]⟩] 3 rfl rfl (by decide)
        have hs3 := hb3.size
        replace hr2 := hr2.below hb3
        replace hk := hk.trans (Keep.of_below hb3 _ _)
        replace hown := PrsO.wide (PrsO.below hown hb3) (Nat.le_refl _) hs3 (Nat.le_refl _)
        clear hb3
        as_aux_lemma =>
         go_wp2_with (refine wpl_strs rfl 3 _ rfl #[.string ⟨#[97]⟩, .string ⟨#[103]⟩, .string ⟨#[]⟩] (by decide) (by decide) (by kernel_rfl) ?_)
         generalize w2.alloc (.cells #[.string ⟨#[97]⟩, .string ⟨#[103]⟩, .string ⟨#[]⟩] 9) = w3 at *
         refine (of_any g _ _ _ _ hr2 (by omega) hst (by decide) (.inr (by omega))).mono ?_
         rintro e w4 ⟨s, rfl, hs, hr4, hk4⟩
         have HS1 := Lib.hid (show s.size ≤ 1 by simp at hs; rcases hs with rfl | rfl | rfl <;> decide)
         clear hs
         have hs4 := hk4.size
         replace hk := hk.trans hk4
         replace hown := PrsO.wide (PrsO.keep hown hk4 (.inr (by omega))) (Nat.le_refl _) hs4 (Nat.le_refl _)
         clear hk4 hst hr2
         as_aux_lemma =>
          go_wp2_with fail
          refine (pick_any g _ 101 _ hr4 (by omega) (by omega)).mono ?_
          rintro e w5 ⟨z, rfl, z0, z1, hr5, hk5⟩
          have hs5 := hk5.size
          replace hk := hk.trans hk5
          replace hown := PrsO.wide (PrsO.keep hown hk5 (.inr (by omega))) (Nat.le_refl _) hs5 (Nat.le_refl _)
          clear hk5 hr4
          go_wp2_with (at_builtin; refine wpl_append elPair rfl _ _ rfl rfl (Own.below hown ((Below.refl _ _).alloc (Nat.le_refl _) _)) (by omega) ⟨w5.heap.size, 0, none⟩ 1 1 [.string s, .int .i64 z] rfl rfl (cell_two_new _ _ _ _) (pair_one _ _) (by omega) (by unfold maxLen; omega) ?_; intro v6 w6 hown6 hk6)
          have hb6 : Below w5.heap.size w5 (w5.alloc (.cells #[.string s, .int .i64 z] 52)) := (Below.refl _ _).alloc (Nat.le_refl _) _
          have hr6 := (hr5.below hb6).keep hk6 (by omega)
          have hk7 := (hk.trans (Keep.of_below hb6 _ _)).join hk6 (Nat.le_refl _)
          have ho7 : PrsO w6 w.heap.size w6.heap.size v6 (ps ++ [(s, z)]) := by
            unfold PrsO RecsO
            rw [List.length_append, flat_append, flat_one]
            exact hown6
          clear hown6 hk6 hb6 hown hk hr5
          go_wp2_with fail
          go_ret
          exact ⟨_, ps ++ [(s, z)], rfl, ho7, by simp; omega, hr6.more (by omega), hk7, keys1_snoc HKS.out HS1.out⟩
      · have hyb : (y == 0) = false := beq_eq_false_iff_ne.2 hy
        go_wp2_with fail
        go_ret
        exact ⟨_, ps, rfl, hown, by omega, hr2.more (by omega), hk, HKS.out⟩
end Go.Proofs.YtlihmomopofdnaaGreatDoor
