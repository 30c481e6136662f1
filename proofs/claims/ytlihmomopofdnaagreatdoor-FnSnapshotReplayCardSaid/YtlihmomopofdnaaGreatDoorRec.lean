/-
  Slices whose elements are structs of one-cell fields: read, owned, opened at an element, appended to.
-/
import Derived.Test.YtlihmomopofdnaaGreatDoorBase
namespace Go.Proofs.YtlihmomopofdnaaGreatDoor
open Go.RowKit
set_option linter.unusedVariables false

structure Enc (α : Type) where
  sz : Nat
  enc : α → List Value
  len : ∀ a, (enc a).length = sz
  one : ∀ a, ∀ u ∈ enc a, u.oneCell' = true

def flat {α : Type} (E : Enc α) (xs : List α) : List Value := xs.flatMap E.enc
theorem flat_len {α : Type} (E : Enc α) (xs : List α) : (flat E xs).length = xs.length * E.sz := by
  induction xs with
  | nil => simp [flat]
  | cons a t ih =>
    have : flat E (a :: t) = E.enc a ++ flat E t := rfl
    rw [this, List.length_append, ih, E.len, List.length_cons, Nat.add_mul]
    omega
theorem flat_append {α : Type} (E : Enc α) (xs ys : List α) : flat E (xs ++ ys) = flat E xs ++ flat E ys := by simp [flat]
theorem flat_one {α : Type} (E : Enc α) (a : α) : flat E [a] = E.enc a := by simp [flat]
theorem flat_get {α : Type} (E : Enc α) : ∀ (xs : List α) (k : Nat) (x : α), xs[k]? = some x → ∀ j, j < E.sz → (flat E xs)[k * E.sz + j]? = (E.enc x)[j]?
  | [], k, x, h => by simp at h
  | a :: t, 0, x, h => by
    intro j hj
    have : flat E (a :: t) = E.enc a ++ flat E t := rfl
    simp at h
    subst h
    rw [this, Nat.zero_mul, Nat.zero_add, List.getElem?_append_left (by rw [E.len]; exact hj)]
  | a :: t, k + 1, x, h => by
    intro j hj
    have e : flat E (a :: t) = E.enc a ++ flat E t := rfl
    have ih := flat_get E t k x (by simpa using h) j hj
    rw [e, List.getElem?_append_right (by rw [E.len, Nat.add_mul]; omega), E.len]
    rw [show (k + 1) * E.sz + j - E.sz = k * E.sz + j by rw [Nat.add_mul]; omega]
    exact ih
theorem flat_all {α : Type} (E : Enc α) (xs : List α) : ∀ u ∈ flat E xs, u.oneCell' = true := by
  intro u hu
  obtain ⟨a, _, h⟩ := List.mem_flatMap.1 hu
  exact E.one a u h

def Recs {α : Type} (E : Enc α) (w : World) (lo hi : Nat) (v : Value) (xs : List α) : Prop := Sl w lo hi v xs.length E.sz (flat E xs)
def RecsO {α : Type} (E : Enc α) (e : TypeId) (w : World) (lo hi : Nat) (v : Value) (xs : List α) : Prop := Own w lo hi e v xs.length E.sz (flat E xs)
section
variable {α : Type} {E : Enc α} {e : TypeId} {w w' : World} {lo hi : Nat} {v : Value} {xs : List α}
theorem RecsO.recs (h : RecsO E e w lo hi v xs) : Recs E w lo hi v xs := Own.sl h
theorem Recs.below (h : Recs E w lo hi v xs) (hb : Below w.heap.size w w') : Recs E w' lo hi v xs := Sl.below h hb
theorem Recs.keep {l1 h1 : Nat} (h : Recs E w lo hi v xs) (hk : Keep l1 h1 w w') (ho : hi ≤ l1 ∨ h1 ≤ lo) : Recs E w' lo hi v xs := Sl.keep h hk ho
theorem RecsO.below (h : RecsO E e w lo hi v xs) (hb : Below w.heap.size w w') : RecsO E e w' lo hi v xs := Own.below h hb
theorem RecsO.keep {l1 h1 : Nat} (h : RecsO E e w lo hi v xs) (hk : Keep l1 h1 w w') (ho : hi ≤ l1 ∨ h1 ≤ lo) : RecsO E e w' lo hi v xs := Own.keep h hk ho
theorem Recs.wide {lo' hi' : Nat} (h : Recs E w lo hi v xs) (h1 : lo' ≤ lo) (h2 : hi ≤ hi') (h3 : hi' ≤ w.heap.size) : Recs E w lo' hi' v xs := Sl.wide h h1 h2 h3
theorem RecsO.wide {lo' hi' : Nat} (h : RecsO E e w lo hi v xs) (h1 : lo' ≤ lo) (h2 : hi ≤ hi') (h3 : hi' ≤ w.heap.size) : RecsO E e w lo' hi' v xs := Own.wide h h1 h2 h3
theorem RecsO.nil (w : World) (lo hi : Nat) (h : hi ≤ w.heap.size) : RecsO E e w lo hi (.slice none 0 0) [] := Own.nil w lo hi e E.sz h
theorem Recs.nil (w : World) : Recs E w 0 0 (.slice none 0 0) [] := ⟨by simp [flat], Nat.zero_le _, none, 0, rfl, ⟨Nat.zero_le _, Nat.zero_le _, fun _ => rfl⟩, fun h => absurd h (by simp)⟩
theorem RecsO.empty (w : World) (lo : Nat) (h : lo ≤ w.heap.size) : RecsO E e (w.alloc (.cells #[] e)) lo (w.alloc (.cells #[] e)).heap.size (.slice (some ⟨w.heap.size, 0, none⟩) 0 0) [] := Own.empty w lo e E.sz h

/-- As a walk wants it: of each element its address and its cells. -/
theorem Recs.open {P : Program} {T : TypeId} {z : Value} {bytes : Nat} (H : ElTy P T e z E.sz bytes) (h : Recs E w lo hi v xs) :
    ∃ a cap, v = .slice a xs.length cap ∧ xs.length ≤ 9223372036854775807 ∧ ∀ (k : Nat) (x : α), xs[k]? = some x → ∃ b o, lo ≤ b ∧ b < hi ∧
      (∀ (i : Int), i = k → ∀ wx, (Instr.indexAt T (.slice a xs.length cap) (.int .i64 i)).run P wx = .ok (.pointer (some ⟨b, o, none⟩)) wx) ∧
      ∀ j u, (E.enc x)[j]? = some u → w.cell? ⟨b, o + j, none⟩ = some u := by
  obtain ⟨a, cap, hv, hn, hc⟩ := Sl.open H h
  refine ⟨a, cap, hv, hn, fun k x hx => ?_⟩
  have hk : k < xs.length := (List.getElem?_eq_some_iff.1 hx).1
  obtain ⟨b, o, h1, h2, hi', hcell⟩ := hc k hk
  refine ⟨b, o, h1, h2, hi', fun j u hu => ?_⟩
  have hj : j < E.sz := by rw [← E.len x]; exact (List.getElem?_eq_some_iff.1 hu).1
  exact hcell j u hj (by rw [flat_get E xs k x hx j hj]; exact hu)

/-- One cell of an owned element written: the other elements stand; of this one the cell j. -/
theorem Own.cell {P : Program} {T : TypeId} {z : Value} {sz bytes n : Nat} {cs : List Value} (H : ElTy P T e z sz bytes) (h : Own w lo hi e v n sz cs) :
    ∃ a cap, v = .slice a n cap ∧ n ≤ 9223372036854775807 ∧ ∀ (k : Nat), k < n → ∃ b o, lo ≤ b ∧ b < hi ∧
      (∀ (i : Int), i = k → ∀ wx, (Instr.indexAt T (.slice a n cap) (.int .i64 i)).run P wx = .ok (.pointer (some ⟨b, o, none⟩)) wx) ∧
      ∀ j, j < sz → ∀ wx ds, Own wx lo hi e v n sz ds → wx.cell? ⟨b, o + j, none⟩ = ds[k * sz + j]? ∧ wx.frozen? ⟨b, o + j, none⟩ = false ∧ (∀ u, Own (wx.setCell ⟨b, o + j, none⟩ u) lo hi e v n sz (ds.set (k * sz + j) u)) := by
  obtain ⟨⟨hl, ho⟩, hb, hh⟩ := h
  rcases ho with ⟨rfl, h0⟩ | ⟨g, cap, cur, rfl, hlo, hg, hn, hm, hs, ht⟩
  · subst h0
    exact ⟨none, 0, rfl, by omega, fun k hk => absurd hk (by omega)⟩
  · refine ⟨_, cap, rfl, by unfold maxLen at hm; omega, fun k hk => ⟨g, 0 + k * sz, hlo, hb g rfl, fun i hik wx => run_indexAt_at H g 0 _ cap i k hik hk wx, fun j hj wx ds hO => ?_⟩⟩
    obtain ⟨hrow, hb', hh'⟩ := hO
    have hlt : k * sz + j < n * sz := by
      have : (k + 1) * sz ≤ n * sz := Nat.mul_le_mul_right _ hk
      rw [Nat.add_mul] at this
      omega
    rw [show 0 + k * sz + j = k * sz + j by omega]
    refine ⟨hrow.cellAt (k * sz + j) hlt, hrow.frozenAt _, fun u => ⟨?_, hb', by simpa [World.setCell] using hh'⟩⟩
    exact (hrow.stored (k * sz + j) u).1
end
end Go.Proofs.YtlihmomopofdnaaGreatDoor
