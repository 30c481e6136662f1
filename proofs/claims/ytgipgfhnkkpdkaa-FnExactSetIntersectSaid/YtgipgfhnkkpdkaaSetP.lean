/-
  Plain facts on member sets: there are sixty-four valid lists; the program's functions and the reference's agree on them.
-/
import Derived.Test.YtgipgfhnkkpdkaaSetJ
import Derived.Test.YtgipgfhnkkpdkaaSpecM
namespace Go.Proofs.Ytgipgfhnkkpdkaa
open Go.RowKit
set_option linter.unusedVariables false

/-- the ascending lists of members above 6 - n -/
def subs : Nat → List (List Int)
  | 0 => [[]]
  | n + 1 => subs n ++ (subs n).map ((6 - (n : Int)) :: ·)
/-- ascending, from lo on, up to 6 -/
def Asc : Int → List Int → Prop
  | _, [] => True
  | lo, x :: t => lo ≤ x ∧ x ≤ 6 ∧ Asc (x + 1) t
theorem asc_mono {lo lo' : Int} : ∀ {xs : List Int}, Asc lo xs → lo' ≤ lo → Asc lo' xs
  | [], _, _ => trivial
  | _ :: _, h, hl => ⟨by have := h.1; omega, h.2.1, h.2.2⟩
theorem asc_subs (n : Nat) (hn : n ≤ 6) : ∀ xs, Asc (7 - (n : Int)) xs → xs ∈ subs n := by
  induction n with
  | zero =>
    intro xs h
    cases xs with
    | nil => simp [subs]
    | cons x t => have h1 := h.1; have h2 := h.2.1; simp at h1; omega
  | succ n ih =>
    intro xs h
    unfold subs
    rw [List.mem_append]
    cases xs with
    | nil => exact .inl (ih (by omega) [] trivial)
    | cons x t =>
      by_cases e : x = 6 - (n : Int)
      · right
        subst e
        exact List.mem_map.2 ⟨t, ih (by omega) t (asc_mono h.2.2 (by omega)), rfl⟩
      · left
        exact ih (by omega) (x :: t) ⟨by have := h.1; omega, h.2.1, h.2.2⟩
theorem asc_of_steps : ∀ (xs : List Int) (lo : Int), (∀ k, k < xs.length → 1 ≤ nth xs k ∧ nth xs k ≤ 6 ∧ (0 < k → nth xs (k - 1) < nth xs k)) → (∀ h : 0 < xs.length, lo ≤ nth xs 0) → Asc lo xs := by
  intro xs
  induction xs with
  | nil => intros; trivial
  | cons x t ih =>
    intro lo h h0
    have hx := h 0 (by simp)
    refine ⟨h0 (by simp), hx.2.1, ih (x + 1) (fun k hk => ?_) fun ht => ?_⟩
    · have := h (k + 1) (by simp; omega)
      refine ⟨this.1, this.2.1, fun hk0 => ?_⟩
      have h3 := this.2.2 (by omega)
      rw [show k + 1 - 1 = (k - 1) + 1 by omega] at h3
      exact h3
    · have := (h 1 (by simp; omega)).2.2 (by omega)
      have e0 : nth (x :: t) 0 = x := rfl
      have e1 : nth (x :: t) 1 = nth t 0 := rfl
      rw [e1, show 1 - 1 = 0 from rfl, e0] at this
      omega
theorem validTo_steps {xs : List Int} (n : Nat) (h : validTo xs n = true) : ∀ k, k < n → stepOk xs k = true := by
  induction n with
  | zero => intro k hk; omega
  | succ n ih =>
    simp only [validTo, Bool.and_eq_true] at h
    intro k hk
    by_cases e : k = n
    · subst e; exact h.2
    · exact ih h.1 k (by omega)
theorem valid_mem {xs : List Int} (h : setValid xs = true) : xs ∈ subs 6 := by
  refine asc_subs 6 (by omega) xs (asc_of_steps xs _ (fun k hk => ?_) fun h0 => ?_)
  · have hs := validTo_steps _ h k hk
    rcases stepOk_cases xs k _ hs with ⟨_, e⟩ | ⟨e1, e2, _⟩ | ⟨_, _, _, e⟩ | ⟨e1, e2, e3, _⟩
    · cases e
    · obtain ⟨a, b⟩ := inB_true e1; exact ⟨a, b, fun h => by omega⟩
    · cases e
    · obtain ⟨a, b⟩ := inB_true e1; exact ⟨a, b, fun _ => e3⟩
  · have hs := validTo_steps _ h 0 h0
    rcases stepOk_cases xs 0 _ hs with ⟨_, e⟩ | ⟨e1, e2, _⟩ | ⟨_, e2, _⟩ | ⟨_, e2, _⟩
    · cases e
    · obtain ⟨a, b⟩ := inB_true e1; show (7 : Int) - (6 : Nat) ≤ _; omega
    · omega
    · omega
theorem subs_valid : ∀ xs ∈ subs 6, setValid xs = true := by decide +kernel
theorem valid_small {xs : List Int} (h : setValid xs = true) : small xs ∧ xs.length ≤ 6 := by
  have key : ∀ xs ∈ subs 6, (∀ x ∈ xs, 1 ≤ x ∧ x ≤ 6) ∧ xs.length ≤ 6 := by decide +kernel
  exact key xs (valid_mem h)

/-! ### the program's combinations are the reference's -/
theorem or_eq : ∀ xs ∈ subs 6, ∀ ys ∈ subs 6, membersOf (mixOr (crewOf xs) (crewOf ys)) = uniTo xs ys 6 := by decide +kernel
theorem and_eq : ∀ xs ∈ subs 6, ∀ ys ∈ subs 6, membersOf (mixAnd (crewOf xs) (crewOf ys)) = xs.filter (ys.contains ·) := by decide +kernel
theorem not_eq : ∀ xs ∈ subs 6, ∀ ys ∈ subs 6, membersOf (mixNot (crewOf xs) (crewOf ys)) = xs.filter (!ys.contains ·) := by decide +kernel
theorem sub_eq : ∀ xs ∈ subs 6, ∀ ys ∈ subs 6, (mixNot (crewOf xs) (crewOf ys) == 0) = subAll xs ys := by decide +kernel
theorem has_eq : ∀ xs ∈ subs 6, ∀ m ∈ [(1 : Int), 2, 3, 4, 5, 6], hasM (crewOf xs) m = xs.contains m := by decide +kernel
theorem mask_eq : ∀ xs ∈ subs 6, crewOf xs = maskL xs := by decide +kernel
theorem of_eq : ∀ i : Fin 64, membersOf (i.val : Int) = bitsTo (i.val : Int) 6 := by decide +kernel
end Go.Proofs.Ytgipgfhnkkpdkaa
