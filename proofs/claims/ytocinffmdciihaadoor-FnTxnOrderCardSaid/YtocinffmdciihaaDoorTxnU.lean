/-
  The walk of the program's turned: a transition tried on a copy of a transaction.
-/
import Derived.Test.YtocinffmdciihaaDoorTxnT
namespace Go.Proofs.YtocinffmdciihaaDoor
open Go.RowKit
set_option linter.unusedVariables false

/-- a transaction of the call's own, and whether the transition was legal -/
def RetOp (w : World) (t : Int × List Int × Bool) (e : Ending) (w' : World) : Prop :=
  ∃ v, e = .returned (.tuple #[.agg #[.int .i64 t.1, v], .bool t.2.2]) ∧ IntsO w' w.heap.size w'.heap.size v t.2.1 ∧ Below w.heap.size w w'

/-- what a transition function does, from world w on -/
def Does (g : Nat) (args : Array Value) (rc : Int) (ws : List Int) (t : Int × List Int × Bool) (w : World) : Prop :=
  ∀ wx b lo hi vs, Below w.heap.size w wx → Blk wx b #[.int .i64 rc, vs] 25 → IntsO wx lo hi vs ws → (hi ≤ b ∨ b < lo) → Calls Tryd.prog g (#[.pointer (some ⟨b, 0, none⟩)] ++ args) wx (Turned b lo hi vs t wx)

set_option maxRecDepth 100000 in
set_option maxHeartbeats 2000000 in
theorem turned_no (g : Nat) (cap : Array Value) (hcf : ∀ (x : Value) (w : World), (callFunc g (#[x] ++ cap)).run Tryd.prog w = .ok (.enter g (#[x] ++ cap)) w)
    (rc : Int) (v : Value) (ws : List Int) (a1 : Int) (l1 : List Int) (w : World) {lo hi : Nat} (h : Ints w lo hi v ws) (hL : Laid w) (hx : ws.length ≤ 1000) (hd : Does g cap rc ws (a1, l1, false) w) :
    Calls Tryd.prog 45 #[.agg #[.int .i64 rc, v], .func (.func g) #[] cap] w (RetOp w (rc, ws, false)) := by
  have hhi := h.2.1
  have hb1 : Below w.heap.size w (w.alloc (.cells #[.int .i64 rc, v] 25)) := (Below.refl _ _).alloc (Nat.le_refl _) _
  have hk1 := Blk.new w #[.int .i64 rc, v] 25
  have hb2 : Below (w.alloc (.cells #[.int .i64 rc, v] 25)).heap.size (w.alloc (.cells #[.int .i64 rc, v] 25)) ((w.alloc (.cells #[.int .i64 rc, v] 25)).alloc (.cells #[.int .i64 0, .slice none 0 0] 25)) := (Below.refl _ _).alloc (Nat.le_refl _) _
  have hk2 := Blk.new (w.alloc (.cells #[.int .i64 rc, v] 25)) #[.int .i64 0, .slice none 0 0] 25
  have he : (w.alloc (.cells #[.int .i64 rc, v] 25)).heap.size = w.heap.size + 1 := by simp
  rw [he] at hk2
  replace hk1 := hk1.below hb2
  replace h := (h.below hb1).below hb2
  have hB := below_step hb1 hb2 hb1.size
  replace hL := hL.below hB
  have hs2 := hB.size
  have hl2 := hk2.lt
  clear hb1 hb2 he
  have HD := Lib.hid hd; clear hd
  go_enter Tryd.func45, Tryd.ntmps45
  go_wp2_with fail
  generalize ((w.alloc (.cells #[.int .i64 rc, v] 25)).alloc (.cells #[.int .i64 0, .slice none 0 0] 25)) = w2 at *
  refine (implCopy_any rc v ws _ h (by omega)).mono ?_
  rintro e w3 ⟨y, rfl, ho, hb3⟩
  obtain ⟨ay, cy, hy⟩ := own_form ho
  subst hy
  have hb4 : Below w3.heap.size w3 (w3.alloc (.cells #[.int .i64 rc, .slice ay ws.length cy] 25)) := (Below.refl _ _).alloc (Nat.le_refl _) _
  have hO := Blk.new w3 #[.int .i64 rc, .slice ay ws.length cy] 25
  have hb34 := below_step hb3 hb4 hb3.size
  replace h := h.below hb34
  replace hk1 := hk1.below hb34
  replace hk2 := hk2.below hb34
  replace hB := below_step hB hb34 hs2
  replace ho := IntsO.below ho hb4
  replace hL := hL.below hb34
  have hs3 := hb3.size
  have hs4 := hb4.size
  have hOl := hO.lt
  have hso : Hid (w3.heap.size ≤ w3.heap.size) := Nat.le_refl _
  clear hb3 hb4 hb34
  as_aux_lemma =>
   go_wp2_with fail
   generalize w3.alloc (.cells #[.int .i64 rc, .slice ay ws.length cy] 25) = w4 at *
   generalize w3.heap.size = O at *
   refine (HD.out _ _ _ _ _ hB hO ho (.inl hso.out)).mono ?_
   rintro e w5 ⟨p, rfl, hb5⟩
   have hs5 := hb5.size
   replace h := h.below hb5
   replace hk1 := hk1.below hb5
   replace hk2 := hk2.below hb5
   replace hL := hL.below hb5
   replace hB := below_step hB hb5 hB.size
   have hz5 := hk2.lt
   clear hb5 hO ho HD
   as_aux_lemma =>
    go_wp2_with fail
    have hb6 : Below w5.heap.size w5 (w5.alloc (.cells #[.pointer none] 66)) := (Below.refl _ _).alloc (Nat.le_refl _) _
    have hA := Blk.new w5 #[.pointer none] 66
    have hs6 := hb6.size
    replace h := h.below hb6
    replace hk1 := hk1.below hb6
    replace hk2 := hk2.below hb6
    replace hL := hL.below hb6
    replace hB := below_step hB hb6 hB.size
    clear hb6
    generalize w5.alloc (.cells #[.pointer none] 66) = w6 at *
    generalize w5.heap.size = T at *
    refine (as_hit_any p ⟨T, 0, none⟩ _ _ hL (hA.cell 0 rfl) (hA.frozen 0)).mono ?_
    rintro e w7 ⟨rfl, hk7⟩
    have hk7' : Keep T (T + 1) w6 w7 := hk7
    clear hk7
    have hs7 := hk7'.size
    replace h := h.keep hk7' (.inl (by omega))
    replace hk1 := hk1.keep hk7' (.inl (by omega))
    replace hk2 := hk2.keep hk7' (.inl (by omega))
    replace hB := hB.trans (hk7'.below (B := w.heap.size) (by omega) (by omega))
    have q0 := hk1.cell 0 rfl
    have q1 := hk1.cell 1 rfl
    clear hk7' hA hL
    as_aux_lemma =>
     go_wp2_with fail
     refine (implCopy_any rc v ws _ h (by omega)).mono ?_
     rintro e w8 ⟨z, rfl, hz, hb8⟩
     obtain ⟨az, cz, hzz⟩ := own_form hz
     subst hzz
     replace hk2 := hk2.below hb8
     replace hB := below_step hB hb8 hB.size
     have r0 := hk2.cell 0 rfl
     have r1 := hk2.cell 1 rfl
     have f0 := hk2.frozen 0
     have f1 := hk2.frozen 1
     obtain ⟨e0, e1, ho2, hB2⟩ := fin_op (rc := rc) hk2 rfl (Nat.le_succ _) hz (by omega) hB
     clear hz hb8 hk1 hk2 h hB q0 q1
     go_wp2_with fail
     exact bodyPost_ret (v := .tuple #[.agg #[.int .i64 rc, .slice az ws.length cz], .bool false]) (by simp [results, Tryd.results45, go_sem, e0, e1]) rfl ⟨_, rfl, ho2, hB2⟩

set_option maxRecDepth 100000 in
set_option maxHeartbeats 2000000 in
theorem turned_yes (g : Nat) (cap : Array Value) (hcf : ∀ (x : Value) (w : World), (callFunc g (#[x] ++ cap)).run Tryd.prog w = .ok (.enter g (#[x] ++ cap)) w)
    (rc : Int) (v : Value) (ws : List Int) (a1 : Int) (l1 : List Int) (w : World) {lo hi : Nat} (h : Ints w lo hi v ws) (hx : ws.length ≤ 1000) (hd : Does g cap rc ws (a1, l1, true) w) :
    Calls Tryd.prog 45 #[.agg #[.int .i64 rc, v], .func (.func g) #[] cap] w (RetOp w (a1, l1, true)) := by
  have hhi := h.2.1
  have hb1 : Below w.heap.size w (w.alloc (.cells #[.int .i64 rc, v] 25)) := (Below.refl _ _).alloc (Nat.le_refl _) _
  have hk1 := Blk.new w #[.int .i64 rc, v] 25
  have hb2 : Below (w.alloc (.cells #[.int .i64 rc, v] 25)).heap.size (w.alloc (.cells #[.int .i64 rc, v] 25)) ((w.alloc (.cells #[.int .i64 rc, v] 25)).alloc (.cells #[.int .i64 0, .slice none 0 0] 25)) := (Below.refl _ _).alloc (Nat.le_refl _) _
  have hk2 := Blk.new (w.alloc (.cells #[.int .i64 rc, v] 25)) #[.int .i64 0, .slice none 0 0] 25
  have he : (w.alloc (.cells #[.int .i64 rc, v] 25)).heap.size = w.heap.size + 1 := by simp
  rw [he] at hk2
  replace hk1 := hk1.below hb2
  replace h := (h.below hb1).below hb2
  have hB := below_step hb1 hb2 hb1.size
  have hs2 := hB.size
  have hl2 := hk2.lt
  clear hb1 hb2 he
  have HD := Lib.hid hd; clear hd
  go_enter Tryd.func45, Tryd.ntmps45
  go_wp2_with fail
  generalize ((w.alloc (.cells #[.int .i64 rc, v] 25)).alloc (.cells #[.int .i64 0, .slice none 0 0] 25)) = w2 at *
  refine (implCopy_any rc v ws _ h (by omega)).mono ?_
  rintro e w3 ⟨y, rfl, ho, hb3⟩
  obtain ⟨ay, cy, hy⟩ := own_form ho
  subst hy
  have hb4 : Below w3.heap.size w3 (w3.alloc (.cells #[.int .i64 rc, .slice ay ws.length cy] 25)) := (Below.refl _ _).alloc (Nat.le_refl _) _
  have hO := Blk.new w3 #[.int .i64 rc, .slice ay ws.length cy] 25
  have hb34 := below_step hb3 hb4 hb3.size
  replace h := h.below hb34
  replace hk1 := hk1.below hb34
  replace hk2 := hk2.below hb34
  replace hB := below_step hB hb34 hs2
  replace ho := IntsO.below ho hb4
  have hs3 := hb3.size
  have hs4 := hb4.size
  have hOl := hO.lt
  have hso : Hid (w3.heap.size ≤ w3.heap.size) := Nat.le_refl _
  clear hb3 hb4 hb34
  as_aux_lemma =>
   go_wp2_with fail
   generalize w3.alloc (.cells #[.int .i64 rc, .slice ay ws.length cy] 25) = w4 at *
   generalize w3.heap.size = O at *
   refine (HD.out _ _ _ _ _ hB hO ho (.inl hso.out)).mono ?_
   rintro e w5 ⟨rfl, hO5, ho5, w45, hka, hkb⟩
   have hs5 := hka.size
   have hs55 := hkb.size
   replace hk2 := (hk2.keep hka (.inl (by omega))).keep hkb (.inl (by omega))
   replace hB := (hB.trans (hka.below (B := w.heap.size) (by omega) (by omega))).trans (hkb.below (B := w.heap.size) (by omega) (by omega))
   clear hO ho HD hka hkb h hk1
   as_aux_lemma =>
    go_wp2_with fail
    have hb6 : Below w5.heap.size w5 (w5.alloc (.cells #[.pointer none] 66)) := (Below.refl _ _).alloc (Nat.le_refl _) _
    have hs6 := hb6.size
    replace hO5 := hO5.below hb6
    replace hk2 := hk2.below hb6
    replace ho5 := IntsO.below ho5 hb6
    replace hB := below_step hB hb6 hB.size
    clear hb6
    generalize w5.alloc (.cells #[.pointer none] 66) = w6 at *
    refine (as_nil _ _).mono ?_
    rintro e w7 ⟨rfl, rfl⟩
    have q0 := hO5.cell 0 rfl
    have q1 := hO5.cell 1 rfl
    have r0 := hk2.cell 0 rfl
    have r1 := hk2.cell 1 rfl
    have f0 := hk2.frozen 0
    have f1 := hk2.frozen 1
    replace ho5 := IntsO.wide (lo' := w2.heap.size) (hi' := w7.heap.size) ho5 (Nat.le_refl _) (by omega) (Nat.le_refl _)
    obtain ⟨e0, e1, ho2, hB2⟩ := fin_op (rc := a1) hk2 rfl (Nat.le_succ _) ho5 (by omega) hB
    clear hO5 hk2 ho5 hB
    go_wp2_with fail
    exact bodyPost_ret (v := .tuple #[.agg #[.int .i64 a1, .slice ay ws.length cy], .bool true]) (by simp [results, Tryd.results45, go_sem, e0, e1]) rfl ⟨_, rfl, ho2, hB2⟩
end Go.Proofs.YtocinffmdciihaaDoor
