/-
  A part of a slice, as a slice.
-/
import Derived.Test.YtlihmomopofdnaaGreatDoorRec
namespace Go.Proofs.YtlihmomopofdnaaGreatDoor
open Go.RowKit
set_option linter.unusedVariables false

theorem sl_part {w : World} {lo hi n cap sz i j : Nat} {a : Option Addr} {cs : List Value} (h : Sl w lo hi (.slice a n cap) n sz cs) (hij : i ≤ j) (hj : j ≤ n) :
    Sl w lo hi (.slice (if cap = i then a else a.map (·.add (i * sz))) (j - i) (cap - i)) (j - i) sz ((cs.drop (i * sz)).take ((j - i) * sz)) := by
  obtain ⟨hl, hh, a', cap', hv, hn, hc⟩ := h
  cases hv
  have hm1 : i * sz + (j - i) * sz = j * sz := by rw [← Nat.add_mul]; congr 1; omega
  have hm2 : j * sz ≤ n * sz := Nat.mul_le_mul_right _ hj
  refine ⟨by rw [List.length_take, List.length_drop]; omega, hh, _, _, rfl, ⟨by omega, by omega, fun h0 => ?_⟩, fun h0 => ?_⟩
  · split at h0
    · omega
    · rw [Option.map_eq_none_iff] at h0
      have := hn.2.2 h0
      omega
  · obtain ⟨b, off, ha, h1, h2, hcell⟩ := hc (by omega)
    subst ha
    rw [if_neg (by omega)]
    refine ⟨b, off + i * sz, by simp [Addr.add], h1, h2, fun p u hu => ?_⟩
    rw [List.getElem?_take] at hu
    split at hu
    · rw [List.getElem?_drop] at hu
      rw [Nat.add_assoc]
      exact hcell _ u hu
    · cases hu
theorem flat_drop {α : Type} (E : Enc α) : ∀ (xs : List α) (i : Nat), (flat E xs).drop (i * E.sz) = flat E (xs.drop i)
  | xs, 0 => by simp
  | [], i + 1 => by simp [flat]
  | a :: t, i + 1 => by
    have e : flat E (a :: t) = E.enc a ++ flat E t := rfl
    have e2 : (i + 1) * E.sz = E.sz + i * E.sz := by rw [Nat.add_mul]; omega
    rw [e, e2, List.drop_append_of_le_length_add E, List.drop_succ_cons]
    exact flat_drop E t i
where
  List.drop_append_of_le_length_add {α : Type} (E : Enc α) {a : α} {l : List Value} {k : Nat} : (E.enc a ++ l).drop (E.sz + k) = l.drop k := by
    rw [← List.drop_drop, List.drop_left' (E.len a)]
theorem flat_take {α : Type} (E : Enc α) : ∀ (xs : List α) (i : Nat), (flat E xs).take (i * E.sz) = flat E (xs.take i)
  | xs, 0 => by simp [flat]
  | [], i + 1 => by simp [flat]
  | a :: t, i + 1 => by
    have e : flat E (a :: t) = E.enc a ++ flat E t := rfl
    have e2 : (i + 1) * E.sz = E.sz + i * E.sz := by rw [Nat.add_mul]; omega
    rw [e, e2, List.take_succ_cons]
    have e3 : flat E (a :: t.take i) = E.enc a ++ flat E (t.take i) := rfl
    rw [e3, ← flat_take E t i, List.take_append, E.len a, List.take_of_length_le (by rw [E.len]; omega)]
    congr 2
    omega
theorem recs_part {α : Type} {E : Enc α} {w : World} {lo hi cap i j : Nat} {a : Option Addr} {xs : List α} (h : Recs E w lo hi (.slice a xs.length cap) xs) (hij : i ≤ j) (hj : j ≤ xs.length) :
    Recs E w lo hi (.slice (if cap = i then a else a.map (·.add (i * E.sz))) (j - i) (cap - i)) ((xs.drop i).take (j - i)) := by
  have := sl_part h hij hj
  unfold Recs
  have e : ((xs.drop i).take (j - i)).length = j - i := by rw [List.length_take, List.length_drop]; omega
  rw [e, ← flat_take, ← flat_drop]
  exact this

/-! ### as the walk asks for it: the value is a letter -/
theorem run_part {P : Program} {T E : TypeId} {z : Value} {sz bytes : Nat} (H : ElTy P T E z sz bytes) (a : Option Addr) (n cap i j : Nat) (hij : i ≤ j) (hj : j ≤ n) (hn : n ≤ cap) :
    (i = 0 → ∀ y : Int, y = j → ∀ wx, (Instr.slice T (.slice a n cap) none (some (.int .i64 y)) none).run P wx = .ok (.slice (if cap = i then a else a.map (·.add (i * sz))) (j - i) (cap - i)) wx) ∧
    (j = n → ∀ x : Int, x = i → ∀ wx, (Instr.slice T (.slice a n cap) (some (.int .i64 x)) none none).run P wx = .ok (.slice (if cap = i then a else a.map (·.add (i * sz))) (j - i) (cap - i)) wx) := by
  obtain ⟨i0, hi0, _, hz1, _⟩ := info_parts H.info
  have he : P.elem T = E := by simp [Program.elem, H.under]
  refine ⟨fun hi y hy wx => ?_, fun hjn x hx wx => ?_⟩
  · subst hi
    subst hy
    rw [run_slice_h (P := P) (w := wx) T a n cap (by rw [he]; exact H.under) .i64 j (by omega) (by omega)]
    simp [sizeOf, typeInfo, he, hi0, hz1, Result.andThen, sliced]
  · subst hjn
    subst hx
    rw [run_slice_l (P := P) (w := wx) T a j cap (by rw [he]; exact H.under) .i64 i (by omega) (by omega)]
    simp [sizeOf, typeInfo, he, hi0, hz1, Result.andThen, sliced]
theorem recs_head {α : Type} {E : Enc α} {P : Program} {T e : TypeId} {z : Value} {bytes : Nat} (H : ElTy P T e z E.sz bytes) {w : World} {lo hi cap : Nat} {a : Option Addr} {xs : List α} (h : Recs E w lo hi (.slice a xs.length cap) xs) (k : Nat) (hk : k ≤ xs.length) :
    ∃ v, (∀ y : Int, y = k → ∀ wx, (Instr.slice T (.slice a xs.length cap) none (some (.int .i64 y)) none).run P wx = .ok v wx) ∧ Recs E w lo hi v (xs.take k) := by
  refine ⟨_, (run_part H a xs.length cap 0 k (Nat.zero_le _) hk (Sl.cap h)).1 rfl, ?_⟩
  simpa using recs_part h (Nat.zero_le _) hk
theorem recs_tail {α : Type} {E : Enc α} {P : Program} {T e : TypeId} {z : Value} {bytes : Nat} (H : ElTy P T e z E.sz bytes) {w : World} {lo hi cap : Nat} {a : Option Addr} {xs : List α} (h : Recs E w lo hi (.slice a xs.length cap) xs) (k : Nat) (hk : k ≤ xs.length) :
    ∃ v, (∀ x : Int, x = k → ∀ wx, (Instr.slice T (.slice a xs.length cap) (some (.int .i64 x)) none none).run P wx = .ok v wx) ∧ Recs E w lo hi v (xs.drop k) := by
  refine ⟨_, (run_part H a xs.length cap k xs.length hk (Nat.le_refl _) (Sl.cap h)).2 rfl, ?_⟩
  have := recs_part h hk (Nat.le_refl _)
  rwa [List.take_of_length_le (by simp)] at this
end Go.Proofs.YtlihmomopofdnaaGreatDoor
