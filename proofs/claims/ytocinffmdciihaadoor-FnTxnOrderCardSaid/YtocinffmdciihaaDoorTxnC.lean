/-
  The walks of slices.Clone, of the program's copy and the reference's copy of a transaction.
-/
import Derived.Test.YtocinffmdciihaaDoorTxnS
import Derived.Test.YtocinffmdciihaaDoorTxnF
import Derived.Test.YtocinffmdciihaaDoorStp
import Derived.Deep.RegionHeld3
namespace Go.Proofs.YtocinffmdciihaaDoor
open Go.RowKit
set_option linter.unusedVariables false

set_option maxHeartbeats 1000000 in
theorem clone_any (v : Value) (xs : List Int) (w : World) {lo hi : Nat} (h : Ints w lo hi v xs) (hx : xs.length ≤ 1048576) :
    Calls Tryd.prog 69 #[v] w (RetInts w xs) := by
  have q := fun (w : World) (a : Option Addr) (n c n' c' : Nat) => Lib.run_eql_slice_nil (P := Tryd.prog) w 23 3 a n c n' c' Tryd.underlying23
  obtain ⟨hl, hh, a, cap, hv, hn, hc⟩ := h
  cases a with
  | none =>
    have hc0 := hn.2.2 rfl
    subst hc0
    have hx0 : xs = [] := List.eq_nil_of_length_eq_zero (by omega)
    subst hx0
    subst hv
    go_enter Tryd.func69, Tryd.ntmps69
    go_wp2_with fail
    go_ret
    exact ⟨_, rfl, IntsO.nil _ _ _ (Nat.le_refl _), Below.refl _ _⟩
  | some ad =>
    have hS : Sl w lo hi v xs.length 1 (xs.map (.int .i64)) := ⟨hl, hh, some ad, cap, hv, hn, hc⟩
    clear hc hl hn
    subst hv
    have hB : Below w.heap.size w (w.alloc (.cells #[] 3)) := (Below.refl _ _).alloc (Nat.le_refl _) _
    have hsrc := hS.below hB
    have hO := IntsO.empty w w.heap.size (Nat.le_refl _)
    have hone := ints_oneCell .i64 xs
    generalize hnews : xs.map (Value.int .i64) = news at hsrc hone
    have HN := Lib.hid hnews; clear hnews hS
    have hby : (0 + xs.length) * 8 ≤ 140737488355328 := by omega
    have hml : 0 + xs.length ≤ maxLen := by unfold maxLen; omega
    go_enter Tryd.func69, Tryd.ntmps69
    go_wp2_with (at_builtin; refine wpl_append_all elInt rfl _ _ rfl rfl hO hB.size rfl hsrc hone hby hml ?_; intro v' w3 hown1 hk1)
    have hown2 : IntsO w3 w.heap.size w3.heap.size v' xs := by
      have e : ([] : List Int).length + xs.length = xs.length := Nat.zero_add _
      rw [e, List.map_nil, List.nil_append, ← HN.out] at hown1
      exact hown1
    clear hown1 hO hsrc
    go_wp2_with fail
    go_ret
    exact ⟨_, rfl, hown2, hB.trans (hk1.below (Nat.le_refl _) hB.size)⟩

set_option maxHeartbeats 2000000 in
theorem implCopy_any (rc : Int) (v : Value) (ws : List Int) (w : World) {lo hi : Nat} (h : Ints w lo hi v ws) (hx : ws.length ≤ 1048576) :
    Calls Tryd.prog 64 #[.agg #[.int .i64 rc, v]] w (RetCopy w rc ws) := by
  have hb1 : Below w.heap.size w (w.alloc (.cells #[.int .i64 rc, v] 25)) := (Below.refl _ _).alloc (Nat.le_refl _) _
  have hk1 := Blk.new w #[.int .i64 rc, v] 25
  have hb2 : Below (w.alloc (.cells #[.int .i64 rc, v] 25)).heap.size (w.alloc (.cells #[.int .i64 rc, v] 25)) ((w.alloc (.cells #[.int .i64 rc, v] 25)).alloc (.cells #[.int .i64 0, .slice none 0 0] 25)) := (Below.refl _ _).alloc (Nat.le_refl _) _
  have hk2 := Blk.new (w.alloc (.cells #[.int .i64 rc, v] 25)) #[.int .i64 0, .slice none 0 0] 25
  have he : (w.alloc (.cells #[.int .i64 rc, v] 25)).heap.size = w.heap.size + 1 := by simp
  rw [he] at hk2
  replace hk1 := hk1.below hb2
  replace h := (h.below hb1).below hb2
  have hB := below_step hb1 hb2 hb1.size
  have hs2 := hB.size
  have hl2 := hk2.lt
  clear hb1 hb2 he
  obtain ⟨a, cap, hv, hn, hcell⟩ := h.open
  clear hcell
  subst hv
  go_enter Tryd.func64, Tryd.ntmps64
  go_wp2_with fail
  generalize ((w.alloc (.cells #[.int .i64 rc, .slice a ws.length cap] 25)).alloc (.cells #[.int .i64 0, .slice none 0 0] 25)) = W at *
  have q0 := hk1.cell 0 rfl
  have q1 := hk1.cell 1 rfl
  have D : Below W.heap.size W W.drew := (Below.refl _ _).drew
  have k0 : Keep (w.heap.size + 1) (w.heap.size + 1 + 1) W W.drew := Keep.of_below D _ _
  have hD := h.below D
  have hR := hk2.below D
  have l1 : w.heap.size + 1 < w.heap.size + 1 + 1 := Nat.lt_succ_self _
  have l0 : w.heap.size < w.heap.size + 1 := Nat.lt_succ_self _
  go_region_held3 (fun w' => w'.cell? ⟨w.heap.size, 0, none⟩ = some (.int .i64 rc) ∧ w'.cell? ⟨w.heap.size, 1, none⟩ = some (.slice a ws.length cap) ∧ Keep (w.heap.size + 1) (w.heap.size + 1 + 1) W w')
    (first
      | exact ⟨q0, q1, k0⟩
      | exact ⟨c0, c1, k3⟩
      | exact ⟨d0, d1, k5⟩
      | (go_split_ands; refine ⟨?_, ?_, ?_⟩ <;> assumption))
    ((go_at_call 69; refine (clone_any _ ws _ hD hx).mono ?_; rintro e w3 ⟨v', rfl, ho, hb3⟩; have k3 := k0.trans (Keep.of_below hb3 _ _); have c0 := keep_cell k3 q0 (.inl l0); have c1 := keep_cell k3 q1 (.inl l0); have hR3 := hR.below hb3; have r0 := hR3.cell 0 rfl; have r1 := hR3.cell 1 rfl; have f0 := hR3.frozen 0; have f1 := hR3.frozen 1; have k5 := keep_set2 k3 (Nat.le_refl _) l1 (o := 0) (p := 1) (.int .i64 rc) v'; have d0 := keep_cell k5 q0 (.inl l0); have d1 := keep_cell k5 q1 (.inl l0); obtain ⟨a', c', hv', _, _⟩ := IntsO.open ho; subst hv'))
  have hbe := k5.below (B := w.heap.size) (by omega) (by omega)
  have e0 : ((w3.setCell ⟨w.heap.size + 1, 0, none⟩ (.int .i64 rc)).setCell ⟨w.heap.size + 1, 1, none⟩ (.slice a' ws.length c')).cell? ⟨w.heap.size + 1, 0, none⟩ = some (.int .i64 rc) := (((hR3.set 0 (.int .i64 rc)).set 1 (.slice a' ws.length c')).cell 0 rfl)
  have e1 : ((w3.setCell ⟨w.heap.size + 1, 0, none⟩ (.int .i64 rc)).setCell ⟨w.heap.size + 1, 1, none⟩ (.slice a' ws.length c')).cell? ⟨w.heap.size + 1, 1, none⟩ = some (.slice a' ws.length c') := (((hR3.set 0 (.int .i64 rc)).set 1 (.slice a' ws.length c')).cell 1 rfl)
  have hkk : Keep (w.heap.size + 1) (w.heap.size + 1 + 1) w3 ((w3.setCell ⟨w.heap.size + 1, 0, none⟩ (.int .i64 rc)).setCell ⟨w.heap.size + 1, 1, none⟩ (.slice a' ws.length c')) := keep_set2 (Keep.refl _ _ _) (Nat.le_refl _) l1 _ _
  have ho2 := IntsO.wide (lo' := w.heap.size) (hi' := ((w3.setCell ⟨w.heap.size + 1, 0, none⟩ (.int .i64 rc)).setCell ⟨w.heap.size + 1, 1, none⟩ (.slice a' ws.length c')).heap.size) (IntsO.keep ho hkk (.inr (by show w.heap.size + 1 + 1 ≤ W.heap.size; omega))) (by show w.heap.size ≤ W.heap.size; omega) hkk.size (Nat.le_refl _)
  clear k5 d0 d1 hR3 r0 r1 f0 f1 c0 c1 q0 q1 hk1 hk2 hD hR ho hkk
  generalize ((w3.setCell ⟨w.heap.size + 1, 0, none⟩ (.int .i64 rc)).setCell ⟨w.heap.size + 1, 1, none⟩ (.slice a' ws.length c')) = w5 at *
  go_wp2_with fail
  exact bodyPost_ret (v := .agg #[.int .i64 rc, .slice a' ws.length c']) (by simp [results, Tryd.results64, go_sem, e0, e1]) rfl ⟨_, rfl, ho2, hB.trans hbe⟩

set_option maxHeartbeats 2000000 in
theorem specCopy_any (rc : Int) (v : Value) (ws : List Int) (w : World) {lo hi : Nat} (h : Ints w lo hi v ws) (hx : ws.length ≤ 1048576) :
    Calls Tryd.prog 44 #[.agg #[.int .i64 rc, v]] w (RetCopy w rc ws) := by
  have hb1 : Below w.heap.size w (w.alloc (.cells #[.int .i64 rc, v] 25)) := (Below.refl _ _).alloc (Nat.le_refl _) _
  have hk1 := Blk.new w #[.int .i64 rc, v] 25
  have hb2 : Below (w.alloc (.cells #[.int .i64 rc, v] 25)).heap.size (w.alloc (.cells #[.int .i64 rc, v] 25)) ((w.alloc (.cells #[.int .i64 rc, v] 25)).alloc (.cells #[.int .i64 0, .slice none 0 0] 25)) := (Below.refl _ _).alloc (Nat.le_refl _) _
  have hk2 := Blk.new (w.alloc (.cells #[.int .i64 rc, v] 25)) #[.int .i64 0, .slice none 0 0] 25
  have he : (w.alloc (.cells #[.int .i64 rc, v] 25)).heap.size = w.heap.size + 1 := by simp
  rw [he] at hk2
  replace hk1 := hk1.below hb2
  replace h := (h.below hb1).below hb2
  have hB := below_step hb1 hb2 hb1.size
  have hs2 := hB.size
  have hl2 := hk2.lt
  clear hb1 hb2 he
  obtain ⟨a, cap, hv, hn, hcell⟩ := h.open
  clear hcell
  subst hv
  go_enter Tryd.func44, Tryd.ntmps44
  go_wp2_with fail
  generalize ((w.alloc (.cells #[.int .i64 rc, .slice a ws.length cap] 25)).alloc (.cells #[.int .i64 0, .slice none 0 0] 25)) = W at *
  have q0 := hk1.cell 0 rfl
  have q1 := hk1.cell 1 rfl
  have D : Below W.heap.size W W.drew := (Below.refl _ _).drew
  have X1 : Below W.heap.size W (W.alloc (.cells #[] 3)) := (Below.refl _ _).alloc (Nat.le_refl _) _
  have k0 : Keep (w.heap.size + 1) (w.heap.size + 1 + 1) W W.drew := Keep.of_below D _ _
  have k1 : Keep (w.heap.size + 1) (w.heap.size + 1 + 1) W (W.alloc (.cells #[] 3)).drew := Keep.of_below X1.drew _ _
  have hD := h.below X1.drew
  have hR := hk2.below X1.drew
  have l1 : w.heap.size + 1 < w.heap.size + 1 + 1 := Nat.lt_succ_self _
  have l0 : w.heap.size < w.heap.size + 1 := Nat.lt_succ_self _
  have O1 := Own.below (IntsO.empty W W.heap.size (Nat.le_refl _)) (Below.refl _ _).drew
  have hone := ints_oneCell .i64 ws
  have hby : (0 + ws.length) * 8 ≤ 140737488355328 := by omega
  have hml : 0 + ws.length ≤ maxLen := by unfold maxLen; omega
  have hlw : w.heap.size + 1 + 1 ≤ W.heap.size := hl2
  have z0 := keep_cell k1 q0 (.inl l0)
  have z1 := keep_cell k1 q1 (.inl l0)
  go_region_held3 (fun w' => w'.cell? ⟨w.heap.size, 0, none⟩ = some (.int .i64 rc) ∧ w'.cell? ⟨w.heap.size, 1, none⟩ = some (.slice a ws.length cap) ∧ Keep (w.heap.size + 1) (w.heap.size + 1 + 1) W w')
    (first
      | exact ⟨q0, q1, k0⟩
      | exact ⟨z0, z1, k1⟩
      | exact ⟨c0, c1, k3⟩
      | exact ⟨d0, d1, k5⟩
      | (go_split_ands; refine ⟨?_, ?_, ?_⟩ <;> assumption))
    ((refine stp_append_all elInt rfl (.tmp 5) (.tmp 7) rfl rfl O1 X1.size rfl hD hone hby hml ?_; intro v' w3 hown1 hk3; have hb3 := X1.drew.trans (hk3.below (Nat.le_refl _) X1.size); have k3 := Keep.of_below hb3 (w.heap.size + 1) (w.heap.size + 1 + 1); have c0 := keep_cell k3 q0 (.inl l0); have c1 := keep_cell k3 q1 (.inl l0); have hR3 := hk2.below hb3; have r0 := hR3.cell 0 rfl; have r1 := hR3.cell 1 rfl; have f0 := hR3.frozen 0; have f1 := hR3.frozen 1; have k5 := keep_set2 k3 (Nat.le_refl _) l1 (o := 0) (p := 1) (.int .i64 rc) v'; have d0 := keep_cell k5 q0 (.inl l0); have d1 := keep_cell k5 q1 (.inl l0); obtain ⟨a', c', hv'⟩ := own_form0 hown1 rfl; subst hv'))
  have ho : IntsO w3 W.heap.size w3.heap.size (.slice a' ws.length c') ws := by
    unfold IntsO
    have e : ([] : List Int).length + ws.length = ws.length := Nat.zero_add _
    rw [e, List.map_nil, List.nil_append] at hown1
    exact hown1
  have hkk : Keep (w.heap.size + 1) (w.heap.size + 1 + 1) w3 ((w3.setCell ⟨w.heap.size + 1, 0, none⟩ (.int .i64 rc)).setCell ⟨w.heap.size + 1, 1, none⟩ (.slice a' ws.length c')) := keep_set2 (Keep.refl _ _ _) (Nat.le_refl _) l1 _ _
  have hbe := k5.below (B := w.heap.size) (by omega) (by omega)
  have e0 := (((hR3.set 0 (.int .i64 rc)).set 1 (.slice a' ws.length c')).cell 0 rfl)
  have e1 := (((hR3.set 0 (.int .i64 rc)).set 1 (.slice a' ws.length c')).cell 1 rfl)
  have ho2 := IntsO.wide (lo' := w.heap.size) (hi' := ((w3.setCell ⟨w.heap.size + 1, 0, none⟩ (.int .i64 rc)).setCell ⟨w.heap.size + 1, 1, none⟩ (.slice a' ws.length c')).heap.size) (IntsO.keep ho hkk (.inr (by omega))) (by omega) hkk.size (Nat.le_refl _)
  clear k5 d0 d1 hR3 r0 r1 f0 f1 c0 c1 q0 q1 hk1 hk2 hD hR ho hkk z0 z1
  generalize ((w3.setCell ⟨w.heap.size + 1, 0, none⟩ (.int .i64 rc)).setCell ⟨w.heap.size + 1, 1, none⟩ (.slice a' ws.length c')) = w5 at *
  go_wp2_with fail
  exact bodyPost_ret (v := .agg #[.int .i64 rc, .slice a' ws.length c']) (by simp [results, Tryd.results44, go_sem, e0, e1]) rfl ⟨_, rfl, ho2, hB.trans hbe⟩
end Go.Proofs.YtocinffmdciihaaDoor
