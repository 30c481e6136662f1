/-
  The walks of LogAppend of both sides.
-/
import Derived.Test.YthehnpkjnilgiaaLogR
import Derived.Test.YthehnpkjnilgiaaLogJ
namespace Go.Proofs.Ythehnpkjnilgiaa
open Go.RowKit
set_option linter.unusedVariables false

def appendL (n : Int) (es : List (Int × Int)) (v c : Int) : List (Int × Int) :=
  if logValid n es && okE n v c then (if es.length = 12 then es else es ++ [(v, c)]) else []
def appendB (n : Int) (es : List (Int × Int)) (v c : Int) : Bool := logValid n es && okE n v c && decide (es.length ≠ 12)
/-- entries and a bool -/
def RetEnts (w : World) (es : List (Int × Int)) (r : Bool) (e : Ending) (w' : World) : Prop :=
  ∃ v, e = .returned (.tuple #[v, .bool r]) ∧ EntsO w' w.heap.size w'.heap.size v es ∧ Below w.heap.size w w'

set_option maxHeartbeats 1000000 in
theorem implLogAppend_any (s : Value) (es : List (Int × Int)) (n v c : Int) (w : World) {lo hi : Nat} (h : Ents w lo hi s es) (zs : List (Int × Int)) (r : Bool)
    (hz : appendL n es v c = zs) (hr : appendB n es v c = r) :
    Calls Try.prog 13 #[s, .int .i64 n, .agg #[.int .i64 v, .int .i64 c]] w (RetEnts w zs r) := by
  have HM := Lib.hid hz; clear hz
  have HR := Lib.hid hr; clear hr
  have hbe : Below w.heap.size w (w.alloc (.cells #[.int .i64 v, .int .i64 c] 28)) := (Below.refl _ _).alloc (Nat.le_refl _) _
  have hs0 := hbe.size
  cases hv : logValid n es
  · have HV := Lib.hid hv
    have HZ := Lib.hid (show zs = [] by rw [← HM.out]; simp [appendL, hv])
    have HB := Lib.hid (show r = false by rw [← HR.out]; simp [appendB, hv])
    clear hv
    go_enter Try.func13, Try.ntmps13
    go_wp2_with fail
    refine (implLogValid_any s es n _ (h.below hbe) false HV.out).mono ?_
    rintro e w1 ⟨rfl, hb⟩
    go_wp2_with fail
    go_ret2
    rw [HZ.out, HB.out]
    exact ⟨_, rfl, RecsO.nil _ _ _ (Nat.le_refl _), below_step hbe hb hs0⟩
  · cases ho : okE n v c
    · have HV := Lib.hid hv
      have HO := Lib.hid ho
      have HZ := Lib.hid (show zs = [] by rw [← HM.out]; simp [appendL, ho])
      have HB := Lib.hid (show r = false by rw [← HR.out]; simp [appendB, ho])
      clear hv ho
      go_enter Try.func13, Try.ntmps13
      go_wp2_with fail
      refine (implLogValid_any s es n _ (h.below hbe) true HV.out).mono ?_
      rintro e w1 ⟨rfl, hb⟩
      have c0 : w1.cell? ⟨w.heap.size, 0, none⟩ = some (.int .i64 v) := by rw [hb.cell (by simp), World.cell?_alloc_at _ _ _ _ rfl]; rfl
      have c1 : w1.cell? ⟨w.heap.size, 1, none⟩ = some (.int .i64 c) := by rw [hb.cell (by simp), World.cell?_alloc_at _ _ _ _ rfl]; rfl
      go_wp2_with fail
      refine (implEntry_any _ _ _ _ false HO.out).mono ?_
      rintro e w2 ⟨rfl, hb2⟩
      go_wp2_with fail
      go_ret2
      rw [HZ.out, HB.out]
      exact ⟨_, rfl, RecsO.nil _ _ _ (Nat.le_refl _), below_step (below_step hbe hb hs0) hb2 (by have := hb.size; omega)⟩
    · have HV := Lib.hid hv
      have HO := Lib.hid ho
      have hlen := (valid_len hv).1
      obtain ⟨a, cap, hse, hn, _⟩ := h.open
      by_cases h12 : es.length = 12
      · have HZ := Lib.hid (show zs = es by rw [← HM.out]; simp [appendL, hv, ho, h12])
        have HB := Lib.hid (show r = false by rw [← HR.out]; simp [appendB, h12])
        have hdI : ((es.length : Int) == 12) = true := by simp; omega
        clear hv ho h12
        subst hse
        go_enter Try.func13, Try.ntmps13
        go_wp2_with fail
        refine (implLogValid_any _ es n _ (h.below hbe) true HV.out).mono ?_
        rintro e w1 ⟨rfl, hb⟩
        have c0 : w1.cell? ⟨w.heap.size, 0, none⟩ = some (.int .i64 v) := by rw [hb.cell (by simp), World.cell?_alloc_at _ _ _ _ rfl]; rfl
        have c1 : w1.cell? ⟨w.heap.size, 1, none⟩ = some (.int .i64 c) := by rw [hb.cell (by simp), World.cell?_alloc_at _ _ _ _ rfl]; rfl
        go_wp2_with fail
        refine (implEntry_any _ _ _ _ true HO.out).mono ?_
        rintro e w2 ⟨rfl, hb2⟩
        have hbb := below_step (below_step hbe hb hs0) hb2 (by have := hb.size; omega)
        have hsz := hbb.size
        have hsrc : Sl w2 lo hi (.slice a es.length cap) es.length 2 (flat encE es) := h.below hbb
        have hone := flat_all encE es
        have hnil := Own.nil w2 w2.heap.size w2.heap.size 28 2 (Nat.le_refl _)
        generalize hnews : flat encE es = news at hsrc hone
        have HN := Lib.hid hnews; clear hnews
        have hfl : 0 + es.length ≤ 100 := by omega
        go_wp2_with (at_builtin; refine wpl_append_all elEntry rfl _ _ rfl rfl hnil (Nat.le_refl _) rfl hsrc hone (by omega) (by unfold maxLen; omega) ?_; intro v' w3 hown1 hk1)
        have hown2 : EntsO w3 w2.heap.size w3.heap.size v' es := by
          rw [Nat.zero_add, List.nil_append, ← HN.out] at hown1
          exact hown1
        clear hown1 hnil hsrc
        go_wp2_with fail
        go_ret2
        rw [HZ.out, HB.out]
        exact ⟨_, rfl, hown2.wide hsz (Nat.le_refl _) (Nat.le_refl _), below_step hbb (hk1.below (Nat.le_refl _) (Nat.le_refl _)) hsz⟩
      · have HZ := Lib.hid (show zs = es ++ [(v, c)] by rw [← HM.out]; simp [appendL, hv, ho, h12])
        have HB := Lib.hid (show r = true by rw [← HR.out]; simp [appendB, hv, ho, h12])
        have hdI : ((es.length : Int) == 12) = false := beq_eq_false_iff_ne.2 (by omega)
        clear hv ho h12
        subst hse
        go_enter Try.func13, Try.ntmps13
        go_wp2_with fail
        refine (implLogValid_any _ es n _ (h.below hbe) true HV.out).mono ?_
        rintro e w1 ⟨rfl, hb⟩
        have c0 : w1.cell? ⟨w.heap.size, 0, none⟩ = some (.int .i64 v) := by rw [hb.cell (by simp), World.cell?_alloc_at _ _ _ _ rfl]; rfl
        have c1 : w1.cell? ⟨w.heap.size, 1, none⟩ = some (.int .i64 c) := by rw [hb.cell (by simp), World.cell?_alloc_at _ _ _ _ rfl]; rfl
        go_wp2_with fail
        refine (implEntry_any _ _ _ _ true HO.out).mono ?_
        rintro e w2 ⟨rfl, hb2⟩
        have hbb := below_step (below_step hbe hb hs0) hb2 (by have := hb.size; omega)
        have hsz := hbb.size
        have hlt0 : w.heap.size < w2.heap.size := by have := hb.size; have := hb2.size; simp at *; omega
        have d0 := (hb2.cell (lt_of_cell c0)).trans c0
        have d1 := (hb2.cell (lt_of_cell c1)).trans c1
        have hsrc : Sl w2 lo hi (.slice a es.length cap) es.length 2 (flat encE es) := h.below hbb
        have hone := flat_all encE es
        have hnil := Own.nil w2 w2.heap.size w2.heap.size 28 2 (Nat.le_refl _)
        generalize hnews : flat encE es = news at hsrc hone
        have HN := Lib.hid hnews; clear hnews
        have hfl : 0 + es.length ≤ 100 := by omega
        clear c0 c1 hb hb2
        go_wp2_with first
          | (at_builtin; refine wpl_append_all elEntry rfl _ _ rfl rfl hnil (Nat.le_refl _) rfl hsrc hone (by omega) (by unfold maxLen; omega) ?_; intro v' w3 hown1 hk1; have e0 := ((hk1.below (Nat.le_refl _) (Nat.le_refl _)).cell (lt_of_cell d0)).trans d0; have e1 := ((hk1.below (Nat.le_refl _) (Nat.le_refl _)).cell (lt_of_cell d1)).trans d1; have hb3 := hk1.below (Nat.le_refl _) (Nat.le_refl _); have hs3 := hb3.size)
          | (at_builtin; refine wpl_append elEntry rfl _ _ rfl rfl (Own.below hown1 ((Below.refl _ _).alloc (Nat.le_refl _) _)) hs3 ⟨w3.heap.size, 0, none⟩ 1 1 [.int .i64 v, .int .i64 c] rfl rfl (cell_two_new _ _ _ _) (two_one _ _) (by omega) (by unfold maxLen; omega) ?_; intro v'' w4 hown3 hk3)
        have hb4 : Below w2.heap.size w2 w4 := (hb3.alloc hs3 _).trans (hk3.below (Nat.le_refl _) (by simp; omega))
        have hs4 := hb4.size
        have hown2 : EntsO w4 w2.heap.size w4.heap.size v'' (es ++ [(v, c)]) := by
          rw [Nat.zero_add, List.nil_append, ← HN.out] at hown3
          exact ents_snoc hown3
        clear hown1 hown3 hnil hsrc hk1 hk3
        go_wp2_with fail
        go_ret2
        rw [HZ.out, HB.out]
        exact ⟨_, rfl, hown2.wide hsz (Nat.le_refl _) (Nat.le_refl _), below_step hbb hb4 hsz⟩
set_option maxHeartbeats 1000000 in
theorem specLogAppend_any (s : Value) (es : List (Int × Int)) (n v c : Int) (w : World) {lo hi : Nat} (h : Ents w lo hi s es) (zs : List (Int × Int)) (r : Bool)
    (hz : appendL n es v c = zs) (hr : appendB n es v c = r) :
    Calls Try.prog 15 #[s, .int .i64 n, .agg #[.int .i64 v, .int .i64 c]] w (RetEnts w zs r) := by
  have HM := Lib.hid hz; clear hz
  have HR := Lib.hid hr; clear hr
  have hbe : Below w.heap.size w (w.alloc (.cells #[.int .i64 v, .int .i64 c] 28)) := (Below.refl _ _).alloc (Nat.le_refl _) _
  have hs0 := hbe.size
  cases hv : logValid n es
  · have HV := Lib.hid hv
    have HZ := Lib.hid (show zs = [] by rw [← HM.out]; simp [appendL, hv])
    have HB := Lib.hid (show r = false by rw [← HR.out]; simp [appendB, hv])
    clear hv
    go_enter Try.func15, Try.ntmps15
    go_wp2_with fail
    refine (specLogValid_any s es n _ (h.below hbe) false HV.out).mono ?_
    rintro e w1 ⟨rfl, hb⟩
    go_wp2_with fail
    go_ret2
    rw [HZ.out, HB.out]
    have hbx := below_step hbe hb hs0
    exact ⟨_, rfl, (RecsO.empty w1 w1.heap.size (Nat.le_refl _)).wide hbx.size (Nat.le_refl _) (Nat.le_refl _), hbx.alloc hbx.size _⟩
  · cases ho : okE n v c
    · have HV := Lib.hid hv
      have HO := Lib.hid ho
      have HZ := Lib.hid (show zs = [] by rw [← HM.out]; simp [appendL, ho])
      have HB := Lib.hid (show r = false by rw [← HR.out]; simp [appendB, ho])
      clear hv ho
      go_enter Try.func15, Try.ntmps15
      go_wp2_with fail
      refine (specLogValid_any s es n _ (h.below hbe) true HV.out).mono ?_
      rintro e w1 ⟨rfl, hb⟩
      have c0 : w1.cell? ⟨w.heap.size, 0, none⟩ = some (.int .i64 v) := by rw [hb.cell (by simp), World.cell?_alloc_at _ _ _ _ rfl]; rfl
      have c1 : w1.cell? ⟨w.heap.size, 1, none⟩ = some (.int .i64 c) := by rw [hb.cell (by simp), World.cell?_alloc_at _ _ _ _ rfl]; rfl
      go_wp2_with fail
      refine (specEntry_any _ _ _ _ false HO.out).mono ?_
      rintro e w2 ⟨rfl, hb2⟩
      go_wp2_with fail
      go_ret2
      rw [HZ.out, HB.out]
      have hbx := below_step (below_step hbe hb hs0) hb2 (by have := hb.size; omega)
      exact ⟨_, rfl, (RecsO.empty w2 w2.heap.size (Nat.le_refl _)).wide hbx.size (Nat.le_refl _) (Nat.le_refl _), hbx.alloc hbx.size _⟩
    · have HV := Lib.hid hv
      have HO := Lib.hid ho
      have hlen := (valid_len hv).1
      obtain ⟨a, cap, hse, hn, _⟩ := h.open
      by_cases h12 : es.length = 12
      · have HZ := Lib.hid (show zs = es by rw [← HM.out]; simp [appendL, hv, ho, h12])
        have HB := Lib.hid (show r = false by rw [← HR.out]; simp [appendB, h12])
        have hdI : 12 ≤ (es.length : Int) := by omega
        clear hv ho h12
        subst hse
        go_enter Try.func15, Try.ntmps15
        go_wp2_with fail
        refine (specLogValid_any _ es n _ (h.below hbe) true HV.out).mono ?_
        rintro e w1 ⟨rfl, hb⟩
        have c0 : w1.cell? ⟨w.heap.size, 0, none⟩ = some (.int .i64 v) := by rw [hb.cell (by simp), World.cell?_alloc_at _ _ _ _ rfl]; rfl
        have c1 : w1.cell? ⟨w.heap.size, 1, none⟩ = some (.int .i64 c) := by rw [hb.cell (by simp), World.cell?_alloc_at _ _ _ _ rfl]; rfl
        go_wp2_with fail
        refine (specEntry_any _ _ _ _ true HO.out).mono ?_
        rintro e w2 ⟨rfl, hb2⟩
        have hbb := below_step (below_step hbe hb hs0) hb2 (by have := hb.size; omega)
        have hsz := hbb.size
        have hsrc : Sl (w2.alloc (.cells #[] 28)) lo hi (.slice a es.length cap) es.length 2 (flat encE es) := (h.below hbb).below ((Below.refl _ _).alloc (Nat.le_refl _) _)
        have hone := flat_all encE es
        have hnil := Own.empty w2 w2.heap.size 28 2 (Nat.le_refl _)
        have hbf : Below w2.heap.size w2 (w2.alloc (.cells #[] 28)) := (Below.refl _ _).alloc (Nat.le_refl _) _
        generalize hnews : flat encE es = news at hsrc hone
        have HN := Lib.hid hnews; clear hnews
        have hfl : 0 + es.length ≤ 100 := by omega
        go_wp2_with (at_builtin; refine wpl_append_all elEntry rfl _ _ rfl rfl hnil hbf.size rfl hsrc hone (by omega) (by unfold maxLen; omega) ?_; intro v' w3 hown1 hk1)
        have hown2 : EntsO w3 w2.heap.size w3.heap.size v' es := by
          rw [Nat.zero_add, List.nil_append, ← HN.out] at hown1
          exact hown1
        clear hown1 hnil hsrc
        go_wp2_with fail
        go_ret2
        rw [HZ.out, HB.out]
        exact ⟨_, rfl, hown2.wide hsz (Nat.le_refl _) (Nat.le_refl _), below_step hbb (hbf.trans (hk1.below (Nat.le_refl _) hbf.size)) hsz⟩
      · have HZ := Lib.hid (show zs = es ++ [(v, c)] by rw [← HM.out]; simp [appendL, hv, ho, h12])
        have HB := Lib.hid (show r = true by rw [← HR.out]; simp [appendB, hv, ho, h12])
        have hdI : ¬ 12 ≤ (es.length : Int) := by omega
        clear hv ho h12
        subst hse
        go_enter Try.func15, Try.ntmps15
        go_wp2_with fail
        refine (specLogValid_any _ es n _ (h.below hbe) true HV.out).mono ?_
        rintro e w1 ⟨rfl, hb⟩
        have c0 : w1.cell? ⟨w.heap.size, 0, none⟩ = some (.int .i64 v) := by rw [hb.cell (by simp), World.cell?_alloc_at _ _ _ _ rfl]; rfl
        have c1 : w1.cell? ⟨w.heap.size, 1, none⟩ = some (.int .i64 c) := by rw [hb.cell (by simp), World.cell?_alloc_at _ _ _ _ rfl]; rfl
        go_wp2_with fail
        refine (specEntry_any _ _ _ _ true HO.out).mono ?_
        rintro e w2 ⟨rfl, hb2⟩
        have hbb := below_step (below_step hbe hb hs0) hb2 (by have := hb.size; omega)
        have hsz := hbb.size
        have hlt0 : w.heap.size < w2.heap.size := by have := hb.size; have := hb2.size; simp at *; omega
        have d0 := (hb2.cell (lt_of_cell c0)).trans c0
        have d1 := (hb2.cell (lt_of_cell c1)).trans c1
        have hsrc : Sl (w2.alloc (.cells #[] 28)) lo hi (.slice a es.length cap) es.length 2 (flat encE es) := (h.below hbb).below ((Below.refl _ _).alloc (Nat.le_refl _) _)
        have hone := flat_all encE es
        have hnil := Own.empty w2 w2.heap.size 28 2 (Nat.le_refl _)
        have hbf : Below w2.heap.size w2 (w2.alloc (.cells #[] 28)) := (Below.refl _ _).alloc (Nat.le_refl _) _
        generalize hnews : flat encE es = news at hsrc hone
        have HN := Lib.hid hnews; clear hnews
        have hfl : 0 + es.length ≤ 100 := by omega
        clear c0 c1 hb hb2
        go_wp2_with first
          | (at_builtin; refine wpl_append_all elEntry rfl _ _ rfl rfl hnil hbf.size rfl hsrc hone (by omega) (by unfold maxLen; omega) ?_; intro v' w3 hown1 hk1; have hb3 := hbf.trans (hk1.below (Nat.le_refl _) hbf.size); have e0 := (hb3.cell (lt_of_cell d0)).trans d0; have e1 := (hb3.cell (lt_of_cell d1)).trans d1; have hs3 := hb3.size)
          | (at_builtin; refine wpl_append elEntry rfl _ _ rfl rfl (Own.below hown1 ((Below.refl _ _).alloc (Nat.le_refl _) _)) hs3 ⟨w3.heap.size, 0, none⟩ 1 1 [.int .i64 v, .int .i64 c] rfl rfl (cell_two_new _ _ _ _) (two_one _ _) (by omega) (by unfold maxLen; omega) ?_; intro v'' w4 hown3 hk3)
        have hb4 : Below w2.heap.size w2 w4 := (hb3.alloc hs3 _).trans (hk3.below (Nat.le_refl _) (by simp; omega))
        have hs4 := hb4.size
        have hown2 : EntsO w4 w2.heap.size w4.heap.size v'' (es ++ [(v, c)]) := by
          rw [Nat.zero_add, List.nil_append, ← HN.out] at hown3
          exact ents_snoc hown3
        clear hown1 hown3 hnil hsrc hk1 hk3
        go_wp2_with fail
        go_ret2
        rw [HZ.out, HB.out]
        exact ⟨_, rfl, hown2.wide hsz (Nat.le_refl _) (Nat.le_refl _), below_step hbb hb4 hsz⟩
end Go.Proofs.Ythehnpkjnilgiaa
