/-
  What the functions on logs compute, as plain functions on lists of entries (value, configuration); the linked list that the program makes of a log.
-/
import Derived.Test.YthehnpkjnilgiaaSetD
import Derived.Test.YthehnpkjnilgiaaRec
namespace Go.Proofs.Ythehnpkjnilgiaa
open Go.RowKit
set_option linter.unusedVariables false

def encE : Enc (Int × Int) where
  sz := 2
  enc e := [.int .i64 e.1, .int .i64 e.2]
  len _ := rfl
  one _ u hu := by
    rcases List.mem_cons.1 hu with rfl | hu
    · rfl
    · rcases List.mem_cons.1 hu with rfl | hu
      · rfl
      · cases hu
def ev (es : List (Int × Int)) (k : Nat) : Int := (es.getD k (0, 0)).1
def ec (es : List (Int × Int)) (k : Nat) : Int := (es.getD k (0, 0)).2
theorem es_get {es : List (Int × Int)} {k : Nat} (h : k < es.length) : es[k]? = some (ev es k, ec es k) := by
  simp [ev, ec, List.getD, h]
theorem es_take {es : List (Int × Int)} {k : Nat} (h : k < es.length) : es.take (k + 1) = es.take k ++ [(ev es k, ec es k)] := by
  have := es_get h
  rw [List.getElem?_eq_getElem h] at this
  rw [List.take_succ_eq_append_getElem h, Option.some.inj this]
theorem es_ext {xs ys : List (Int × Int)} (h : xs.length = ys.length) (hn : ∀ j, j < xs.length → ev xs j = ev ys j ∧ ec xs j = ec ys j) : xs = ys := by
  refine List.ext_getElem? fun j => ?_
  by_cases hj : j < xs.length
  · rw [es_get hj, es_get (by omega), (hn j hj).1, (hn j hj).2]
  · rw [List.getElem?_eq_none (by omega), List.getElem?_eq_none (by omega)]

/-- a slice of entries, as a walk wants it -/
theorem entry_cells {w : World} {b o : Nat} {x : Int × Int} (h : ∀ j u, (encE.enc x)[j]? = some u → w.cell? ⟨b, o + j, none⟩ = some u) :
    w.cell? ⟨b, o, none⟩ = some (.int .i64 x.1) ∧ w.cell? ⟨b, o + 1, none⟩ = some (.int .i64 x.2) :=
  ⟨h 0 _ rfl, h 1 _ rfl⟩

def okE (n : Int) (v c : Int) : Bool := if c == 0 then inB v 1 99 else v == 0 && inB c 1 n
def logTo (n : Int) (es : List (Int × Int)) : Nat → Bool
  | 0 => true
  | k + 1 => logTo n es k && okE n (ev es k) (ec es k)
def headOk (n : Int) (es : List (Int × Int)) : Bool := inB n 1 5 && decide (es.length ≤ 12)
def logValid (n : Int) (es : List (Int × Int)) : Bool := headOk n es && logTo n es es.length
theorem logTo_false {n : Int} {es : List (Int × Int)} {k : Nat} (h : logTo n es k = false) : ∀ m, k ≤ m → logTo n es m = false := by
  intro m hm
  induction m with
  | zero => obtain rfl : k = 0 := by omega
            exact h
  | succ m ih =>
    by_cases e : k = m + 1
    · subst e; exact h
    · simp [logTo, ih (by omega)]
theorem log_stop {n : Int} {es : List (Int × Int)} {k : Nat} (hk : k < es.length) (h : okE n (ev es k) (ec es k) = false) : logValid n es = false := by
  unfold logValid
  rw [logTo_false (k := k + 1) (by simp [logTo, h]) _ hk, Bool.and_false]
theorem logTo_step {n : Int} {es : List (Int × Int)} {k : Nat} (h : logTo n es k = true) (h2 : okE n (ev es k) (ec es k) = true) : logTo n es (k + 1) = true := by simp [logTo, h, h2]
theorem logTo_all {n : Int} {es : List (Int × Int)} (m : Nat) (h : logTo n es m = true) : ∀ k, k < m → okE n (ev es k) (ec es k) = true := by
  induction m with
  | zero => intro k hk; omega
  | succ m ih =>
    simp only [logTo, Bool.and_eq_true] at h
    intro k hk
    by_cases e : k = m
    · subst e; exact h.2
    · exact ih h.1 k (by omega)
theorem valid_all {n : Int} {es : List (Int × Int)} (h : logValid n es = true) : ∀ k, k < es.length → okE n (ev es k) (ec es k) = true := by
  unfold logValid at h
  rw [Bool.and_eq_true] at h
  exact logTo_all _ h.2
theorem valid_len {n : Int} {es : List (Int × Int)} (h : logValid n es = true) : es.length ≤ 12 ∧ 1 ≤ n ∧ n ≤ 5 := by
  unfold logValid headOk at h
  simp only [Bool.and_eq_true, decide_eq_true_eq] at h
  have := inB_true h.1.1
  exact ⟨h.1.2, this⟩
theorem okE_cases {n v c : Int} (h : okE n v c = true) : (c = 0 ∧ 1 ≤ v ∧ v ≤ 99) ∨ (v = 0 ∧ 1 ≤ c ∧ c ≤ n) := by
  unfold okE at h
  split at h
  · rename_i hc
    exact .inl ⟨by simpa using hc, inB_true h⟩
  · rw [Bool.and_eq_true] at h
    exact .inr ⟨by simpa using h.1, inB_true h.2⟩

/-! ### configurations and values -/
def cfg (es : List (Int × Int)) : Nat → Int
  | 0 => 1
  | k + 1 => if 0 < ec es k then ec es k else cfg es k
def cfgAt (es : List (Int × Int)) (slot : Int) : Int := cfg es (min es.length (slot - 1).toNat)
def valTo (es : List (Int × Int)) : Nat → List Int
  | 0 => []
  | k + 1 => if ec es k == 0 then valTo es k ++ [ev es k] else valTo es k
theorem valTo_len (es : List (Int × Int)) (k : Nat) : (valTo es k).length ≤ k := by
  induction k with
  | zero => simp [valTo]
  | succ k ih =>
    unfold valTo; split
    · rw [List.length_append]; simp; omega
    · omega

/-! ### the linked list -/
def ptr (gs : List Nat) (i : Nat) : Option Addr := gs[i]?.map fun g => ⟨g, 0, none⟩
theorem ptr_some {gs : List Nat} {i g : Nat} (h : gs[i]? = some g) : ptr gs i = some ⟨g, 0, none⟩ := by simp [ptr, h]
theorem ptr_none {gs : List Nat} {i : Nat} (h : gs.length ≤ i) : ptr gs i = none := by simp [ptr, h]
def recO (es : List (Int × Int)) (gs : List Nat) (i : Nat) : Obj :=
  .cells #[.int .i64 (ev es i), .int .i64 (ec es i), .int .i64 i, .pointer (ptr gs (i + 1))] 63 (0, 0)
def ChainAt (w : World) (lo : Nat) (gs : List Nat) (es : List (Int × Int)) (n : Nat) : Prop :=
  gs.length = n ∧ ∀ i g, gs[i]? = some g → lo ≤ g ∧ w.heap[g]? = some (recO es gs i)
theorem ChainAt.below {w w' : World} {lo : Nat} {gs : List Nat} {es : List (Int × Int)} {n : Nat} (h : ChainAt w lo gs es n) (hb : Below w.heap.size w w') : ChainAt w' lo gs es n :=
  ⟨h.1, fun i g hg => ⟨(h.2 i g hg).1, (hb.block g (Array.getElem?_eq_some_iff.1 (h.2 i g hg).2).1).trans (h.2 i g hg).2⟩⟩
theorem ChainAt.cells {w : World} {lo : Nat} {gs : List Nat} {es : List (Int × Int)} {n i : Nat} (h : ChainAt w lo gs es n) (hi : i < n) :
    ∃ g, ptr gs i = some ⟨g, 0, none⟩ ∧ w.cell? ⟨g, 0, none⟩ = some (.int .i64 (ev es i)) ∧ w.cell? ⟨g, 1, none⟩ = some (.int .i64 (ec es i)) ∧ w.cell? ⟨g, 2, none⟩ = some (.int .i64 i) ∧
      w.cell? ⟨g, 3, none⟩ = some (.pointer (ptr gs (i + 1))) := by
  have hg : gs[i]? = some (gs[i]'(by rw [h.1]; exact hi)) := List.getElem?_eq_getElem _
  obtain ⟨_, hh⟩ := h.2 i _ hg
  refine ⟨_, ptr_some hg, ?_, ?_, ?_, ?_⟩ <;> simp [World.cell?, hh, recO]
theorem ChainAt.end {w : World} {lo : Nat} {gs : List Nat} {es : List (Int × Int)} {n : Nat} (h : ChainAt w lo gs es n) : ptr gs n = none := ptr_none (by rw [h.1]; exact Nat.le_refl _)
end Go.Proofs.Ythehnpkjnilgiaa
