/-
  The walks of the reference's draws of stores: of, l92Store, DrawStoreValid, DrawStoreGet.
-/
import Derived.Test.YtlihmomopofdnaaGreatDoorWith
import Derived.Test.YtlihmomopofdnaaGreatDoorRdrK
import Derived.Great.BuildSlice
namespace Go.Proofs.YtlihmomopofdnaaGreatDoor
open Go.RowKit
set_option linter.unusedVariables false

theorem elString : ElTy Tryz.prog 57 9 (.string ByteArray.empty) 1 16 := ⟨Tryz.underlying57, by kernel_rfl, rfl, by decide⟩
/-- a slice literal of strings -/
theorem wpl_strs {ops : Array Oper} {rest : List Oper} {o : Oper} {a : Act} {w : World} {Q : Exit → Act → World → Prop} (hg : o.guard = none) (n : Nat) (parts : Array (Nat × Operand)) (ho : o.op = .buildSlice 57 n parts)
    (cells : Array Value) (hpos : 0 < n) (hs : n ≤ 100)
    (hf : Instr.fill (fun i => some (i * 1, 1)) ((Array.range (n * 1)).map ((Value.string ByteArray.empty).cells[· % (Value.string ByteArray.empty).cells.size]!)) (parts.map fun (i, x) => (i, a.eval x)).toList = some cells)
    (h : wpList Tryz.prog ops Q rest (a.put o.dst (.slice (some ⟨w.heap.size, 0, none⟩) n n)) (w.alloc (.cells cells 9))) : wpList Tryz.prog ops Q (o :: rest) a w := by
  obtain ⟨i0, hi0, hz0, hz1, hz2⟩ := info_parts elString.info
  exact wpList_buildSlice hg _ _ n parts ho cells i0 _ elString.under hi0 hz0 (by rw [hz1]; omega) (by rw [hz1]; omega) (by rw [hz1]; exact hf) h
def Strs (w : World) (lo hi : Nat) (v : Value) (ss : List ByteArray) : Prop := Sl w lo hi v ss.length 1 (ss.map .string)
theorem strs_new (w : World) (ss : List ByteArray) (cs : Array Value) (n : Nat) (hc : cs.toList = ss.map .string) (hn : n = ss.length) (hm : ss.length ≤ maxLen) :
    Strs (w.alloc (.cells cs 9)) w.heap.size (w.heap.size + 1) (.slice (some ⟨w.heap.size, 0, none⟩) n n) ss := by
  subst hn
  refine ⟨by simp, by simp, some ⟨w.heap.size, 0, none⟩, ss.length, rfl, ⟨Nat.le_refl _, hm, fun h => by cases h⟩, fun h0 => ⟨w.heap.size, 0, rfl, Nat.le_refl _, Nat.lt_succ_self _, fun j u hu => ?_⟩⟩
  rw [World.cell?_alloc_at _ _ _ _ rfl, ← Array.getElem?_toList, hc, Nat.zero_add]
  exact hu

def RetOf (w : World) (g : Nat) (q : Int) (ss : List ByteArray) (e : Ending) (w' : World) : Prop :=
  ∃ s, e = .returned (.string s) ∧ s ∈ ss ∧ Rdr w' g (q + 1) ∧ Keep g (g + 1) w w'
set_option maxHeartbeats 1000000 in
theorem of_any (g : Nat) (q : Int) (v : Value) (ss : List ByteArray) (w : World) {lo hi : Nat} (h : Rdr w g q) (hq : q ≤ 1000000000) (hs : Strs w lo hi v ss) (h1 : 1 ≤ ss.length) (hd : hi ≤ g ∨ g + 1 ≤ lo) :
    Calls Tryz.prog 30 #[.pointer (some ⟨g, 0, none⟩), v] w (RetOf w g q ss) := by
  obtain ⟨a, cap, hv, hn, hc⟩ := Sl.open elString hs
  subst hv
  have HC := Lib.hid hc; clear hc
  go_enter Tryz.func30, Tryz.ntmps30
  go_wp2_with fail
  refine (pick_any g q _ _ h (by omega) hq).mono ?_
  rintro e w1 ⟨x, rfl, x0, x1, hr1, hk1⟩
  obtain ⟨b, o, hb1, hb2, hi', hcell⟩ := HC.out x.toNat (by omega)
  have hix := hi' x (by omega)
  have hxl : x.toNat < ss.length := by omega
  have c0 : w.cell? ⟨b, o, none⟩ = some (.string (ss[x.toNat])) := hcell 0 _ (by decide) (by simp [hxl])
  have c1 := keep_cell hk1 c0 (show b < g ∨ g + 1 ≤ b by omega)
  have hmem : ss[x.toNat] ∈ ss := List.getElem_mem hxl
  generalize ss[x.toNat] = s at *
  clear hi' hcell c0
  go_wp2_with fail
  go_ret
  exact ⟨s, rfl, hmem, hr1, hk1⟩

def RetStore (w : World) (g : Nat) (q : Int) (e : Ending) (w' : World) : Prop :=
  ∃ v ps, e = .returned v ∧ PrsO w' w.heap.size w'.heap.size v ps ∧ ps.length ≤ 5 ∧ Rdr w' g (q + 20) ∧ Keep g (g + 1) w w'
theorem PrsO.keep {w w' : World} {lo hi l1 h1 : Nat} {v : Value} {ps : List (ByteArray × Int)} (h : PrsO w lo hi v ps) (hk : Keep l1 h1 w w') (ho : hi ≤ l1 ∨ h1 ≤ lo) : PrsO w' lo hi v ps := RecsO.keep h hk ho
theorem PrsO.form {w : World} {lo hi : Nat} {v : Value} {ps : List (ByteArray × Int)} (h : PrsO w lo hi v ps) : ∃ a c, v = .slice a ps.length c := by
  obtain ⟨_, _, a, cap, hv, _⟩ := Own.sl h
  exact ⟨a, cap, hv⟩

set_option maxRecDepth 100000 in
set_option maxHeartbeats 8000000 in
theorem l92Store_any (g : Nat) (q : Int) (w : World) (h : Rdr w g q) (hq : q ≤ 1000000) :
    Calls Tryz.prog 12 #[.pointer (some ⟨g, 0, none⟩)] w (RetStore w g q) := by
  have hgs := h.lt
  have hbE : Below w.heap.size w (w.alloc (.cells #[] 52)) := (Below.refl _ _).alloc (Nat.le_refl _) _
  have hO : PrsO (w.alloc (.cells #[] 52)) w.heap.size (w.alloc (.cells #[] 52)).heap.size (.slice (some ⟨w.heap.size, 0, none⟩) 0 0) [] := RecsO.empty _ _ (Nat.le_refl _)
  have hk0 := Keep.of_below hbE g (g + 1)
  have hs0 := hbE.size
  replace h := h.below hbE
  clear hbE
  go_enter Tryz.func12, Tryz.ntmps12
  go_wp2_with fail
  generalize w.alloc (.cells #[] 52) = w0 at *
  refine (pick_any g q 5 _ h (by omega) (by omega)).mono ?_
  rintro e w1 ⟨n0, rfl, n00, n01, hr1, hk1⟩
  have hs1 := hk1.size
  replace hO := PrsO.wide (PrsO.keep hO hk1 (.inr (by omega))) (Nat.le_refl _) hs1 (Nat.le_refl _)
  replace hk0 := hk0.trans hk1
  clear hk1 h
  obtain ⟨m0, hm0⟩ : ∃ m0 : Nat, n0 = (m0 : Int) := ⟨n0.toNat, by omega⟩
  subst hm0
  as_aux_lemma =>
   go_wp2_with fail
   go_loopw [3, 4] (fun s i wr => ∃ (j : Nat) (ps : List (ByteArray × Int)), j ≤ m0 ∧ i = .int .i64 j ∧ PrsO wr w.heap.size wr.heap.size s ps ∧ ps.length + j ≤ m0 ∧ Rdr wr g (q + 1 + 2 * (m0 - j)) ∧ Keep g (g + 1) w wr) (fun _ i _ => (intOf i).toNat)
   case atStart => exact ⟨m0, [], Nat.le_refl _, rfl, hO, by simp, hr1.more (by omega), hk0⟩
   case round =>
    obtain ⟨j, ps, hj, rfl, hown, hpl, hr, hk⟩ := hrel
    have hsz := hk.size
    obtain ⟨ao, co, hvo⟩ := hown.form
    subst hvo
    by_cases hlt : 0 < j
    · have hb2 : Below wr.heap.size wr (wr.alloc (.cells #[.string ⟨#[97]⟩, .string ⟨#[98]⟩, .string ⟨#[99]⟩, .string ⟨#[100]⟩, .string ⟨#[102]⟩] 9)) := (Below.refl _ _).alloc (Nat.le_refl _) _
      have hst := strs_new wr [⟨#[97]⟩, ⟨#[98]⟩, ⟨#[99]⟩, ⟨#[100]⟩, ⟨#[102]⟩] #[.string ⟨#[97]⟩, .string ⟨#[98]⟩, .string ⟨#[99]⟩, .string ⟨#[100]⟩, .string ⟨#[102]⟩] 5 rfl rfl (by decide)
      have hs2 := hb2.size
      have hrl := hr.lt
      replace hr := hr.below hb2
      replace hk := hk.trans (Keep.of_below hb2 _ _)
      replace hown := PrsO.wide (PrsO.below hown hb2) (Nat.le_refl _) hs2 (Nat.le_refl _)
      clear hb2
      go_wp2_with (refine wpl_strs rfl 5 _ rfl #[.string ⟨#[97]⟩, .string ⟨#[98]⟩, .string ⟨#[99]⟩, .string ⟨#[100]⟩, .string ⟨#[102]⟩] (by decide) (by decide) (by kernel_rfl) ?_)
      generalize wr.alloc (.cells #[.string ⟨#[97]⟩, .string ⟨#[98]⟩, .string ⟨#[99]⟩, .string ⟨#[100]⟩, .string ⟨#[102]⟩] 9) = w2 at *
      refine (of_any g _ _ _ _ hr (by omega) hst (by decide) (.inr (by omega))).mono ?_
      rintro e w3 ⟨s, rfl, hs, hr3, hk3⟩
      have hs3 := hk3.size
      replace hk := hk.trans hk3
      replace hown := PrsO.wide (PrsO.keep hown hk3 (.inr (by omega))) (Nat.le_refl _) hs3 (Nat.le_refl _)
      clear hk3 hst hr
      as_aux_lemma =>
       go_wp2_with fail
       refine (pick_any g _ 99 _ hr3 (by omega) (by omega)).mono ?_
       rintro e w4 ⟨y, rfl, y0, y1, hr4, hk4⟩
       have hs4 := hk4.size
       replace hk := hk.trans hk4
       replace hown := PrsO.wide (PrsO.keep hown hk4 (.inr (by omega))) (Nat.le_refl _) hs4 (Nat.le_refl _)
       clear hk4 hr3
       as_aux_lemma =>
        go_wp2_with fail
        refine (l32With_any _ ps s (1 + y) _ hown.prs (by omega)).mono ?_
        rintro e w5 ⟨v5, rfl, ho5, hb5⟩
        have hs5 := hb5.size
        have hl5 := withP_len ps s (1 + y)
        generalize withP ps s (1 + y) = ps2 at *
        obtain ⟨a5, c5, hv5⟩ := ho5.form
        subst hv5
        have hr5 := hr4.below hb5
        have hk5 := hk.trans (Keep.of_below hb5 _ _)
        have ho6 := PrsO.wide (lo' := w.heap.size) (hi' := w5.heap.size) ho5 (by omega) (Nat.le_refl _) (Nat.le_refl _)
        clear hown hr4 hk hb5 ho5
        go_wp2_with fail
        go_roundw
        case rel => exact ⟨j - 1, ps2, by omega, congrArg (Value.int .i64) (by omega), ho6, by omega, hr5.more (by omega), hk5⟩
        case measure => simp [intOf]; omega
    · have hj0 : j = 0 := by omega
      subst hj0
      clear hlt
      go_wp2_with fail
      refine (pick_any g _ 40 _ hr (by omega) (by omega)).mono ?_
      rintro e w2 ⟨y, rfl, y0, y1, hr2, hk2⟩
      have hs2 := hk2.size
      replace hk := hk.trans hk2
      replace hown := PrsO.wide (PrsO.keep hown hk2 (.inr (by omega))) (Nat.le_refl _) hs2 (Nat.le_refl _)
      clear hk2 hr
      by_cases hy : y = 0
      · subst hy
        have hrl := hr2.lt
        have hb3 : Below w2.heap.size w2 (w2.alloc (.cells #[.string ⟨#[97]⟩, .string ⟨#[103]⟩, .string ⟨#[]⟩] 9)) := (Below.refl _ _).alloc (Nat.le_refl _) _
        have hst := strs_new w2 [⟨#[97]⟩, ⟨#[103]⟩, ⟨#[]⟩] #[.string ⟨#[97]⟩, .string ⟨#[103]⟩, .string ⟨#[]⟩] 3 rfl rfl (by decide)
        have hs3 := hb3.size
        replace hr2 := hr2.below hb3
        replace hk := hk.trans (Keep.of_below hb3 _ _)
        replace hown := PrsO.wide (PrsO.below hown hb3) (Nat.le_refl _) hs3 (Nat.le_refl _)
        clear hb3
        as_aux_lemma =>
         go_wp2_with (refine wpl_strs rfl 3 _ rfl #[.string ⟨#[97]⟩, .string ⟨#[103]⟩, .string ⟨#[]⟩] (by decide) (by decide) (by kernel_rfl) ?_)
         generalize w2.alloc (.cells #[.string ⟨#[97]⟩, .string ⟨#[103]⟩, .string ⟨#[]⟩] 9) = w3 at *
         refine (of_any g _ _ _ _ hr2 (by omega) hst (by decide) (.inr (by omega))).mono ?_
         rintro e w4 ⟨s, rfl, hs, hr4, hk4⟩
         have hs4 := hk4.size
         replace hk := hk.trans hk4
         replace hown := PrsO.wide (PrsO.keep hown hk4 (.inr (by omega))) (Nat.le_refl _) hs4 (Nat.le_refl _)
         clear hk4 hst hr2
         as_aux_lemma =>
          go_wp2_with fail
          refine (pick_any g _ 101 _ hr4 (by omega) (by omega)).mono ?_
          rintro e w5 ⟨z, rfl, z0, z1, hr5, hk5⟩
          have hs5 := hk5.size
          replace hk := hk.trans hk5
          replace hown := PrsO.wide (PrsO.keep hown hk5 (.inr (by omega))) (Nat.le_refl _) hs5 (Nat.le_refl _)
          clear hk5 hr4
          go_wp2_with (at_builtin; refine wpl_append elPair rfl _ _ rfl rfl (Own.below hown ((Below.refl _ _).alloc (Nat.le_refl _) _)) (by omega) ⟨w5.heap.size, 0, none⟩ 1 1 [.string s, .int .i64 z] rfl rfl (cell_two_new _ _ _ _) (pair_one _ _) (by omega) (by unfold maxLen; omega) ?_; intro v6 w6 hown6 hk6)
          have hb6 : Below w5.heap.size w5 (w5.alloc (.cells #[.string s, .int .i64 z] 52)) := (Below.refl _ _).alloc (Nat.le_refl _) _
          have hr6 := (hr5.below hb6).keep hk6 (by omega)
          have hk7 := (hk.trans (Keep.of_below hb6 _ _)).join hk6 (Nat.le_refl _)
          have ho7 : PrsO w6 w.heap.size w6.heap.size v6 (ps ++ [(s, z)]) := by
            unfold PrsO RecsO
            rw [List.length_append, flat_append, flat_one]
            exact hown6
          clear hown6 hk6 hb6 hown hk hr5
          go_wp2_with fail
          go_ret
          exact ⟨_, ps ++ [(s, z)], rfl, ho7, by simp; omega, hr6.more (by omega), hk7⟩
      · have hyb : (y == 0) = false := beq_eq_false_iff_ne.2 hy
        go_wp2_with fail
        go_ret
        exact ⟨_, ps, rfl, hown, by omega, hr2.more (by omega), hk⟩
end Go.Proofs.YtlihmomopofdnaaGreatDoor
