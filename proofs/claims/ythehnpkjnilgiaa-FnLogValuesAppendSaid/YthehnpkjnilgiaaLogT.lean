/-
  The walk of the reference's draw DrawLogAppend.
-/
import Derived.Test.YthehnpkjnilgiaaLogS
import Derived.Test.YthehnpkjnilgiaaRecB
namespace Go.Proofs.Ythehnpkjnilgiaa
open Go.RowKit
set_option linter.unusedVariables false

def lenOf : Value → Nat
  | .slice _ n _ => n
  | _ => 0
theorem EntsO.lenOf {w : World} {lo hi : Nat} {v : Value} {es : List (Int × Int)} (h : EntsO w lo hi v es) : lenOf v = es.length := by
  obtain ⟨a, cap, rfl, _⟩ := h.ents.open
  rfl
def RetDrawApp (w : World) (e : Ending) (w' : World) : Prop :=
  ∃ s es m a b, e = .returned (.tuple #[s, .int .i64 m, .agg #[.int .i64 a, .int .i64 b]]) ∧ Ents w' w.heap.size w'.heap.size s es ∧ es.length ≤ 12 ∧ 1 ≤ m ∧ m ≤ 4 ∧ 0 ≤ a ∧ a ≤ 100 ∧ 0 ≤ b ∧ b ≤ 5 ∧ Below w.heap.size w w'
def AppRel (w : World) (g B : Nat) (wr : World) (i : Value) : Prop :=
  ∃ es : List (Int × Int), es.length ≤ 12 ∧ EntsO wr (g + 1) wr.heap.size i es ∧ Rdr wr g (60 + 2 * es.length) ∧ Blk wr B #[.int .i64 0, .int .i64 0] 28 ∧ Below w.heap.size w wr

theorem app_end {w5 : World} {g B lo' : Nat} {v : Value} {es : List (Int × Int)} {u0 u1 : Value} (h : EntsO w5 (g + 1) w5.heap.size v es) (hl : lo' ≤ g + 1) (hB : B < g) :
    Ents ((w5.setCell ⟨B, 0, none⟩ u0).setCell ⟨B, 1, none⟩ u1) lo' ((w5.setCell ⟨B, 0, none⟩ u0).setCell ⟨B, 1, none⟩ u1).heap.size v es := by
  have hk : Keep B (B + 1) w5 ((w5.setCell ⟨B, 0, none⟩ u0).setCell ⟨B, 1, none⟩ u1) := keep_set2 (Keep.refl _ _ _) (Nat.le_refl _) (by omega) _ _
  exact (EntsO.keep h hk (.inr (by omega))).ents.wide hl hk.size (Nat.le_refl _)

set_option maxHeartbeats 4000000 in
theorem DrawLogAppend_any (v : Value) (n : Nat) (w : World) {lo hi : Nat} (h : Bytes w lo hi v n) :
    Calls Try.prog 31 #[v] w (RetDrawApp w) := by
  have hB : Below w.heap.size w (w.alloc (.cells #[.int .i64 0, .int .i64 0] 28)) := (Below.refl _ _).alloc (Nat.le_refl _) _
  have hblk := Blk.new w #[.int .i64 0, .int .i64 0] 28
  have hs0 := hB.size
  have hg := hblk.lt
  go_enter Try.func31, Try.ntmps31
  go_wp2_with fail
  generalize (w.alloc (.cells #[.int .i64 0, .int .i64 0] 28)) = w0 at *
  refine (open_any v n _ (h.below hB)).mono ?_
  rintro e w1 ⟨rfl, hr1, hb1, hs1⟩
  replace hB := below_step hB hb1 hs0
  replace hblk := hblk.below hb1
  have hgg : w0.heap.size = w0.heap.size := rfl
  clear hgg hb1
  as_aux_lemma =>
   go_wp2_with fail
   refine (l92Log_any _ 0 _ hr1 (by omega)).mono ?_
   rintro e w2 ⟨s, es, m, rfl, ho, hl, m0, m1, hr2, hk2⟩
   have hs2 := hk2.size
   generalize w0.heap.size = g at *
   replace hblk := hblk.keep hk2 (.inl hg)
   replace hB := hB.trans (hk2.below (B := w.heap.size) (by omega) (by omega))
   replace ho := EntsO.wide (lo' := g + 1) (hi' := w2.heap.size) ho (by omega) (Nat.le_refl _) (Nat.le_refl _)
   clear hr1 hk2
   as_aux_lemma =>
    go_wp2_with fail
    go_loopw [6] (fun i wr => AppRel w g w.heap.size wr i) (fun i _ => 12 - lenOf i)
    case atStart => exact ⟨es, by omega, ho, hr2.more (by omega), hblk, hB⟩
    case round =>
     obtain ⟨fs, hfl, hown, hr, hbk, hb⟩ := hrel
     have hsz := hb.size
     have hgr := hr.lt
     have hlo := hown.lenOf
     have HLO := Lib.hid hlo; clear hlo
     obtain ⟨a, cap, hse, hn, hxx⟩ := hown.ents.open
     clear hxx
     subst hse
     go_wp2_with fail
     refine (pick_any g _ 6 _ hr (by omega) (by omega)).mono ?_
     rintro e w3 ⟨c, rfl, c0, c1, hr3, hk3⟩
     have hs3 := hk3.size
     replace hbk := hbk.keep hk3 (.inl hg)
     replace hb := hb.trans (hk3.below (B := w.heap.size) (by omega) (by omega))
     replace hown := EntsO.wide (lo' := g + 1) (hi' := w3.heap.size) (EntsO.keep hown hk3 (.inr (by omega))) (Nat.le_refl _) hs3 (Nat.le_refl _)
     clear hk3 hr
     have tail : ∀ cc, cc = c → ∀ b2, (cc == 0) = true → b2 = decide ((fs.length : Int) < 12) → True := fun _ _ _ _ _ => trivial
     clear tail
     by_cases hc : c = 0 ∧ fs.length < 12
     · obtain ⟨hc1, hc2⟩ := hc
       subst hc1
       have hd2 : decide ((fs.length : Int) < 12) = true := by simp; omega
       have hlo : g + 1 ≤ w3.heap.size := by omega
       go_wp2_with (at_builtin; refine wpl_append elEntry rfl _ _ rfl rfl (Own.below hown ((Below.refl _ _).alloc (Nat.le_refl _) _)) hlo ⟨w3.heap.size, 0, none⟩ 1 1 [.int .i64 7, .int .i64 0] rfl rfl (cell_two_new _ _ _ _) (two_one _ _) (by omega) (by unfold maxLen; omega) ?_; intro v' w5 hown1 hk5)
       have hb5 : Below w3.heap.size w3 (w3.alloc (.cells #[.int .i64 7, .int .i64 0] 28)) := (Below.refl _ _).alloc (Nat.le_refl _) _
       have hk5' : Keep (g + 1) w3.heap.size w3 w5 := (Keep.of_below hb5 _ _).trans hk5
       have hr5 := (hr3.keep hk5' (by omega)).more (q' := 60 + 2 * ((fs ++ [((7 : Int), (0 : Int))]).length : Int)) (by simp; omega)
       have hbk5 := hbk.keep hk5' (.inl (by omega))
       have hb6 := hb.trans (hk5'.below (B := w.heap.size) (by omega) (by omega))
       have hown2 := ents_snoc hown1
       have hj2 : (fs ++ [((7 : Int), (0 : Int))]).length ≤ 12 := by simp; omega
       have hj3 : fs.length < (fs ++ [((7 : Int), (0 : Int))]).length := by simp
       have hlo2 := hown2.lenOf
       clear hown1 hk5 hk5' hb5 hb hown hbk hr3
       generalize fs ++ [((7 : Int), (0 : Int))] = es2 at *
       have HLO2 := Lib.hid hlo2; clear hlo2
       go_wp2_with fail
       go_roundw
       case rel => exact ⟨es2, hj2, hown2, hr5, hbk5, hb6⟩
       case measure => rw [HLO2.out, show lenOf (.slice a fs.length cap) = fs.length from rfl]; omega
     · have hc3 : c ≠ 0 ∨ (c = 0 ∧ ¬ fs.length < 12) := by
         by_cases e : c = 0
         · exact .inr ⟨e, fun h => hc ⟨e, h⟩⟩
         · exact .inl e
       clear hc
       rcases hc3 with hc1 | ⟨hc1, hc2⟩
       · have hcf : (c == 0) = false := beq_eq_false_iff_ne.2 hc1
         clear hc1
         go_wp2_with fail
         refine (pick_any g _ 2 _ hr3 (by omega) (by omega)).mono ?_
         rintro e w4 ⟨d, rfl, d0, d1, hr4, hk4⟩
         have hs4 := hk4.size
         replace hbk := hbk.keep hk4 (.inl hg)
         replace hb := hb.trans (hk4.below (B := w.heap.size) (by omega) (by omega))
         replace hown := EntsO.wide (lo' := g + 1) (hi' := w4.heap.size) (EntsO.keep hown hk4 (.inr (by omega))) (by omega) hs4 (Nat.le_refl _)
         clear hk4
         by_cases hd : d = 0
         · subst hd
           go_wp2_with fail
           refine (pick_any g _ 101 _ hr4 (by omega) (by omega)).mono ?_
           rintro e w5 ⟨x, rfl, x0, x1, hr5, hk5⟩
           have hs5 := hk5.size
           replace hbk := hbk.keep hk5 (.inl hg)
           replace hb := hb.trans (hk5.below (B := w.heap.size) (by omega) (by omega))
           replace hown := EntsO.wide (lo' := g + 1) (hi' := w5.heap.size) (EntsO.keep hown hk5 (.inr (by omega))) (by omega) hs5 (Nat.le_refl _)
           clear hk5
           have q0 := hbk.cell 0 rfl
           have q1 := hbk.cell 1 rfl
           have z0 := hbk.frozen 0
           have z1 := hbk.frozen 1
           go_wp2_with fail
           refine bodyPost_ret (v := .tuple #[.slice a fs.length cap, .int .i64 m, .agg #[.int .i64 x, .int .i64 0]]) (by simp [results, Try.results31, go_sem, q0, q1]) rfl ?_
           exact ⟨_, fs, m, x, 0, rfl, app_end hown (by omega) hg, hfl, m0, m1, x0, by omega, by omega, by omega, (hb.setCell (Nat.le_refl _) _).setCell (Nat.le_refl _) _⟩
         · have hdf : (d == 0) = false := beq_eq_false_iff_ne.2 hd
           go_wp2_with fail
           refine (pick_any g _ 6 _ hr4 (by omega) (by omega)).mono ?_
           rintro e w5 ⟨x, rfl, x0, x1, hr5, hk5⟩
           have hs5 := hk5.size
           replace hbk := hbk.keep hk5 (.inl hg)
           replace hb := hb.trans (hk5.below (B := w.heap.size) (by omega) (by omega))
           replace hown := EntsO.wide (lo' := g + 1) (hi' := w5.heap.size) (EntsO.keep hown hk5 (.inr (by omega))) (by omega) hs5 (Nat.le_refl _)
           clear hk5
           have q0 := hbk.cell 0 rfl
           have q1 := hbk.cell 1 rfl
           have z0 := hbk.frozen 0
           have z1 := hbk.frozen 1
           go_wp2_with fail
           refine bodyPost_ret (v := .tuple #[.slice a fs.length cap, .int .i64 m, .agg #[.int .i64 0, .int .i64 x]]) (by simp [results, Try.results31, go_sem, q0, q1]) rfl ?_
           exact ⟨_, fs, m, 0, x, rfl, app_end hown (by omega) hg, hfl, m0, m1, by omega, by omega, by omega, by omega, (hb.setCell (Nat.le_refl _) _).setCell (Nat.le_refl _) _⟩
       · subst hc1
         have hd2 : decide ((fs.length : Int) < 12) = false := by simp; omega
         go_wp2_with fail
         refine (pick_any g _ 2 _ hr3 (by omega) (by omega)).mono ?_
         rintro e w4 ⟨d, rfl, d0, d1, hr4, hk4⟩
         have hs4 := hk4.size
         replace hbk := hbk.keep hk4 (.inl hg)
         replace hb := hb.trans (hk4.below (B := w.heap.size) (by omega) (by omega))
         replace hown := EntsO.wide (lo' := g + 1) (hi' := w4.heap.size) (EntsO.keep hown hk4 (.inr (by omega))) (by omega) hs4 (Nat.le_refl _)
         clear hk4
         by_cases hd : d = 0
         · subst hd
           go_wp2_with fail
           refine (pick_any g _ 101 _ hr4 (by omega) (by omega)).mono ?_
           rintro e w5 ⟨x, rfl, x0, x1, hr5, hk5⟩
           have hs5 := hk5.size
           replace hbk := hbk.keep hk5 (.inl hg)
           replace hb := hb.trans (hk5.below (B := w.heap.size) (by omega) (by omega))
           replace hown := EntsO.wide (lo' := g + 1) (hi' := w5.heap.size) (EntsO.keep hown hk5 (.inr (by omega))) (by omega) hs5 (Nat.le_refl _)
           clear hk5
           have q0 := hbk.cell 0 rfl
           have q1 := hbk.cell 1 rfl
           have z0 := hbk.frozen 0
           have z1 := hbk.frozen 1
           go_wp2_with fail
           refine bodyPost_ret (v := .tuple #[.slice a fs.length cap, .int .i64 m, .agg #[.int .i64 x, .int .i64 0]]) (by simp [results, Try.results31, go_sem, q0, q1]) rfl ?_
           exact ⟨_, fs, m, x, 0, rfl, app_end hown (by omega) hg, hfl, m0, m1, x0, by omega, by omega, by omega, (hb.setCell (Nat.le_refl _) _).setCell (Nat.le_refl _) _⟩
         · have hdf : (d == 0) = false := beq_eq_false_iff_ne.2 hd
           go_wp2_with fail
           refine (pick_any g _ 6 _ hr4 (by omega) (by omega)).mono ?_
           rintro e w5 ⟨x, rfl, x0, x1, hr5, hk5⟩
           have hs5 := hk5.size
           replace hbk := hbk.keep hk5 (.inl hg)
           replace hb := hb.trans (hk5.below (B := w.heap.size) (by omega) (by omega))
           replace hown := EntsO.wide (lo' := g + 1) (hi' := w5.heap.size) (EntsO.keep hown hk5 (.inr (by omega))) (by omega) hs5 (Nat.le_refl _)
           clear hk5
           have q0 := hbk.cell 0 rfl
           have q1 := hbk.cell 1 rfl
           have z0 := hbk.frozen 0
           have z1 := hbk.frozen 1
           go_wp2_with fail
           refine bodyPost_ret (v := .tuple #[.slice a fs.length cap, .int .i64 m, .agg #[.int .i64 0, .int .i64 x]]) (by simp [results, Try.results31, go_sem, q0, q1]) rfl ?_
           exact ⟨_, fs, m, 0, x, rfl, app_end hown (by omega) hg, hfl, m0, m1, by omega, by omega, by omega, by omega, (hb.setCell (Nat.le_refl _) _).setCell (Nat.le_refl _) _⟩
end Go.Proofs.Ythehnpkjnilgiaa
