/-
  Owned slices of structs of two cells: an element opened to be read and written.
-/
import Derived.Test.YtlihmomopofdnaaGreatDoorRec
namespace Go.Proofs.YtlihmomopofdnaaGreatDoor
open Go.RowKit
set_option linter.unusedVariables false

theorem flat_set {α : Type} (E : Enc α) : ∀ (xs : List α) (k : Nat) (x : α), k < xs.length → ∀ j, (flat E (xs.set k x))[j]? = if k * E.sz ≤ j ∧ j < k * E.sz + E.sz then (E.enc x)[j - k * E.sz]? else (flat E xs)[j]?
  | [], k, x, h => by simp at h
  | a :: t, 0, x, h => by
    intro j
    have e1 : flat E (x :: t) = E.enc x ++ flat E t := rfl
    have e2 : flat E (a :: t) = E.enc a ++ flat E t := rfl
    rw [List.set_cons_zero, e1, e2, Nat.zero_mul, Nat.zero_add]
    by_cases hj : j < E.sz
    · rw [if_pos ⟨Nat.zero_le _, hj⟩, List.getElem?_append_left (by rw [E.len]; exact hj), Nat.sub_zero]
    · rw [if_neg (fun h => hj h.2), List.getElem?_append_right (by rw [E.len]; omega), List.getElem?_append_right (by rw [E.len]; omega), E.len, E.len]
  | a :: t, k + 1, x, h => by
    intro j
    have e1 : flat E (a :: t.set k x) = E.enc a ++ flat E (t.set k x) := rfl
    have e2 : flat E (a :: t) = E.enc a ++ flat E t := rfl
    rw [List.set_cons_succ, e1, e2]
    by_cases hj : j < E.sz
    · rw [List.getElem?_append_left (by rw [E.len]; exact hj), List.getElem?_append_left (by rw [E.len]; exact hj), if_neg]
      intro h2
      have := h2.1
      rw [Nat.add_mul] at this
      omega
    · rw [List.getElem?_append_right (by rw [E.len]; omega), List.getElem?_append_right (by rw [E.len]; omega), E.len, flat_set E t k x (by simpa using h)]
      have e3 : (k + 1) * E.sz = k * E.sz + E.sz := by rw [Nat.add_mul]; omega
      rw [e3]
      by_cases c : k * E.sz ≤ j - E.sz ∧ j - E.sz < k * E.sz + E.sz
      · rw [if_pos c, if_pos (by omega)]
        congr 1
        omega
      · rw [if_neg c, if_neg (by omega)]

theorem flat_set2 {α : Type} (E : Enc α) (h2 : E.sz = 2) {xs : List α} {k : Nat} {x : α} {u0 u1 : Value} (hk : k < xs.length) (he : E.enc x = [u0, u1]) :
    ((flat E xs).set (k * 2 + 0) u0).set (k * 2 + 1) u1 = flat E (xs.set k x) := by
  refine List.ext_getElem? fun j => ?_
  have hl : (flat E xs).length = xs.length * 2 := by rw [flat_len, h2]
  rw [flat_set E xs k x hk j, h2, he, List.getElem?_set, List.getElem?_set, List.length_set, hl]
  by_cases c1 : k * 2 + 1 = j
  · subst c1
    rw [if_pos rfl, if_pos (by omega), if_pos (by omega), show k * 2 + 1 - k * 2 = 1 by omega]
    rfl
  · rw [if_neg c1]
    by_cases c0 : k * 2 + 0 = j
    · subst c0
      rw [if_pos rfl, if_pos (by omega), if_pos (by omega), show k * 2 + 0 - k * 2 = 0 by omega]
      rfl
    · rw [if_neg c0, if_neg (by omega)]

section
variable {α : Type} {E : Enc α} {e : TypeId} {w w' : World} {lo hi : Nat} {v : Value} {xs : List α}
/-- As a walk wants an owned slice of structs of two cells: of each element its address; in each world that holds such a slice at that value: what it reads, and what a store of both cells makes of it. -/
theorem RecsO.open2 {P : Program} {T : TypeId} {z : Value} {bytes : Nat} (h2 : E.sz = 2) (H : ElTy P T e z E.sz bytes) (h : RecsO E e w lo hi v xs) :
    ∃ a cap, v = .slice a xs.length cap ∧ xs.length ≤ 9223372036854775807 ∧ ∀ k, k < xs.length → ∃ b o, lo ≤ b ∧ b < hi ∧
      (∀ (i : Int), i = k → ∀ wx, (Instr.indexAt T (.slice a xs.length cap) (.int .i64 i)).run P wx = .ok (.pointer (some ⟨b, o, none⟩)) wx) ∧
      ∀ wx ys, ys.length = xs.length → RecsO E e wx lo hi v ys →
        (∀ y u0 u1, ys[k]? = some y → E.enc y = [u0, u1] → wx.cell? ⟨b, o, none⟩ = some u0 ∧ wx.cell? ⟨b, o + 1, none⟩ = some u1) ∧
        wx.frozen? ⟨b, o, none⟩ = false ∧ wx.frozen? ⟨b, o + 1, none⟩ = false ∧
        ∀ x u0 u1, E.enc x = [u0, u1] → RecsO E e ((wx.setCell ⟨b, o, none⟩ u0).setCell ⟨b, o + 1, none⟩ u1) lo hi v (ys.set k x) := by
  obtain ⟨a, cap, hv, hn, hc⟩ := Own.cell H h
  refine ⟨a, cap, hv, hn, fun k hk => ?_⟩
  obtain ⟨b, o, h1, h2', hi', hcell⟩ := hc k hk
  refine ⟨b, o, h1, h2', hi', fun wx ys hy hO => ?_⟩
  have hO' : Own wx lo hi e v xs.length E.sz (flat E ys) := by rw [← hy]; exact hO
  obtain ⟨a0, a1, a2⟩ := hcell 0 (by omega) wx _ hO'
  obtain ⟨b0, b1, b2⟩ := hcell 1 (by omega) wx _ hO'
  refine ⟨fun y u0 u1 hyk he => ⟨?_, ?_⟩, a1, b1, fun x u0 u1 he => ?_⟩
  · have := flat_get E ys k y hyk 0 (by omega)
    rw [show o = o + 0 from rfl, a0, this, he]
    rfl
  · have := flat_get E ys k y hyk 1 (by omega)
    rw [b0, this, he]
    rfl
  · have s0 := a2 u0
    obtain ⟨_, _, c2⟩ := hcell 1 (by omega) _ _ s0
    have s1 := c2 u1
    unfold RecsO
    rw [List.length_set, hy, ← flat_set2 E h2 (by omega) he]
    have e2 := h2
    rw [e2] at s1 ⊢
    exact s1
theorem keep_set2 {lo hi : Nat} {W w : World} (h : Keep lo hi W w) {b o p : Nat} (h1 : lo ≤ b) (h2 : b < hi) (u0 u1 : Value) : Keep lo hi W ((w.setCell ⟨b, o, none⟩ u0).setCell ⟨b, p, none⟩ u1) :=
  keep_setCell (keep_setCell h h1 h2 u0) h1 h2 u1
/-- A slice just made: every element is the zero value. -/
theorem made_recs {E : Enc α} {z : Value} {n : Nat} {x0 : α} (hz : (madeCells z.cells (n * E.sz)).toList = flat E (List.replicate n x0)) (h : Own w lo hi e v n E.sz (madeCells z.cells (n * E.sz)).toList) : RecsO E e w lo hi v (List.replicate n x0) := by
  unfold RecsO
  rw [List.length_replicate, ← hz]
  exact h
theorem madeCells_flat {cs : Array Value} {E : Enc α} {x0 : α} (he : E.enc x0 = cs.toList) (hs : 0 < E.sz) (n : Nat) : (madeCells cs (n * E.sz)).toList = flat E (List.replicate n x0) := by
  refine List.ext_getElem? fun j => ?_
  have hl : cs.size = E.sz := by rw [← Array.length_toList, ← he, E.len]
  by_cases hj : j < n * E.sz
  · have hq : j / E.sz < n := Nat.div_lt_of_lt_mul (by rw [Nat.mul_comm]; exact hj)
    have hr : j % E.sz < E.sz := Nat.mod_lt _ hs
    have hjj : j = j / E.sz * E.sz + j % E.sz := by rw [Nat.mul_comm]; exact (Nat.div_add_mod j E.sz).symm
    rw [hjj, flat_get E (List.replicate n x0) (j / E.sz) x0 (by simp [hq]) _ hr, he, ← hjj]
    rw [Array.getElem?_toList, Array.getElem?_toList]
    have : (madeCells cs (n * E.sz))[j]? = cs[j % cs.size]? := by
      simp [madeCells, hj]
      rw [hl]
      simp [hl, hr]
    rw [this, hl]
  · rw [List.getElem?_eq_none (by simp [madeCells]; omega), List.getElem?_eq_none (by rw [flat_len, List.length_replicate]; omega)]
end
/-! ### a block known whole -/
def Blk (w : World) (b : Nat) (cs : Array Value) (T : TypeId) : Prop := w.heap[b]? = some (.cells cs T (0, 0))
theorem Blk.new (w : World) (cs : Array Value) (T : TypeId) : Blk (w.alloc (.cells cs T)) w.heap.size cs T := heap_alloc_new w _
theorem Blk.lt {w : World} {b : Nat} {cs : Array Value} {T : TypeId} (h : Blk w b cs T) : b < w.heap.size := (Array.getElem?_eq_some_iff.1 h).1
theorem Blk.below {w w' : World} {b : Nat} {cs : Array Value} {T : TypeId} (h : Blk w b cs T) (hb : Below w.heap.size w w') : Blk w' b cs T := (hb.block b h.lt).trans h
theorem Blk.keep {w w' : World} {b lo hi : Nat} {cs : Array Value} {T : TypeId} (h : Blk w b cs T) (hk : Keep lo hi w w') (ho : b < lo ∨ hi ≤ b) : Blk w' b cs T := (hk.block b h.lt ho).trans h
theorem Blk.cell {w : World} {b : Nat} {cs : Array Value} {T : TypeId} (h : Blk w b cs T) (j : Nat) {u : Value} (hu : cs[j]? = some u) : w.cell? ⟨b, j, none⟩ = some u := by
  simp only [Blk] at h
  simp [World.cell?, h, hu]
theorem Blk.frozen {w : World} {b : Nat} {cs : Array Value} {T : TypeId} (h : Blk w b cs T) (j : Nat) : w.frozen? ⟨b, j, none⟩ = false := by
  simp only [Blk] at h
  simp [World.frozen?, h]
theorem Blk.set {w : World} {b : Nat} {cs : Array Value} {T : TypeId} (h : Blk w b cs T) (j : Nat) (u : Value) : Blk (w.setCell ⟨b, j, none⟩ u) b (cs.setIfInBounds j u) T := by
  simp only [Blk] at h ⊢
  simp [World.setCell, Array.getElem?_modify, h]
theorem Blk.news {w : World} {b : Nat} {cs : Array Value} {T : TypeId} (h : Blk w b cs T) : ∀ j u, cs.toList[j]? = some u → w.cell? ((⟨b, 0, none⟩ : Addr).add j) = some u := fun j u hu => by
  rw [Addr.add_lit, Nat.zero_add]
  exact h.cell j (by rw [← Array.getElem?_toList]; exact hu)
theorem keep_cell {lo hi : Nat} {w w' : World} (h : Keep lo hi w w') {p : Addr} {u : Value} (hc : w.cell? p = some u) (ho : p.block < lo ∨ hi ≤ p.block) : w'.cell? p = some u :=
  (World.cell?_of_block (h.block p.block (lt_of_cell hc) ho)).trans hc
theorem below_cell {w w' : World} (h : Below w.heap.size w w') {p : Addr} {u : Value} (hc : w.cell? p = some u) : w'.cell? p = some u := (h.cell (lt_of_cell hc)).trans hc
end Go.Proofs.YtlihmomopofdnaaGreatDoor
