/-
  What a command does, said by the look-ups; the contracts of StoreApply at a known result; sameExcept.
-/
import Derived.Test.YtlihmomopofdnaaGreatDoorAppS
import Derived.Test.YtlihmomopofdnaaGreatDoorGetJ
import Derived.Test.YtlihmomopofdnaaGreatDoorSame
namespace Go.Proofs.YtlihmomopofdnaaGreatDoor
open Go.RowKit
set_option linter.unusedVariables false

def outF (op : Int) (key : ByteArray) (val exp : Int) (r : Int × Bool) : Int × Bool :=
  if isK key = true then
    if op = 1 then (if isV val = true then (val, true) else r)
    else if op = 2 then (0, false)
    else if op = 3 ∧ isV val = true ∧ r = (exp, true) then (val, true) else r
  else r
def outB (op : Int) (key : ByteArray) (val exp : Int) (r : Int × Bool) : Bool :=
  if isK key = true then
    if op = 1 then isV val
    else if op = 2 then r.2
    else decide (op = 3 ∧ isV val = true ∧ r = (exp, true))
  else false
theorem apply_find {ps : List (ByteArray × Int)} (hs : Good ps) (op : Int) (key : ByteArray) (val exp : Int) (k : ByteArray) :
    findP (applyP ps op key val exp).1 k = if k.toList = key.toList then outF op key val exp (findP ps key) else findP ps k := by
  have hsame : ∀ r : Int × Bool, r = findP ps key → (findP ps k = if k.toList = key.toList then r else findP ps k) := fun r hr => by
    split
    · rename_i e; rw [bytes_inj e, hr]
    · rfl
  have hw : isK key = true → findP (withP ps key val) k = if k.toList = key.toList then (val, true) else findP ps k := fun hk => by
    rw [find_with val hk hs]
    by_cases e : k.toList = key.toList
    · rw [if_pos (beq_iff_eq.2 e), if_pos e]
    · rw [if_neg (fun h => e (beq_iff_eq.1 h)), if_neg e]
  have ho : findP (withoutP ps key) k = if k.toList = key.toList then (0, false) else findP ps k := by
    rw [find_without]
    by_cases e : k.toList = key.toList
    · rw [if_pos (beq_iff_eq.2 e), if_pos e]
    · rw [if_neg (fun h => e (beq_iff_eq.1 h)), if_neg e]
  unfold applyP outF
  by_cases hk : isK key = true
  · rw [if_pos hk, if_pos hk]
    by_cases h1 : op = 1
    · rw [if_pos h1, if_pos h1]
      by_cases hv : isV val = true
      · rw [if_pos hv, if_pos hv]; exact hw hk
      · rw [if_neg hv, if_neg hv]; exact hsame _ rfl
    · rw [if_neg h1, if_neg h1]
      by_cases h2 : op = 2
      · rw [if_pos h2, if_pos h2]; exact ho
      · rw [if_neg h2, if_neg h2]
        by_cases h3 : op = 3 ∧ isV val = true ∧ findP ps key = (exp, true)
        · rw [if_pos h3, if_pos h3]; exact hw hk
        · rw [if_neg h3, if_neg h3]; exact hsame _ rfl
  · rw [if_neg hk, if_neg hk]; exact hsame _ rfl
theorem apply_ok (ps : List (ByteArray × Int)) (op : Int) (key : ByteArray) (val exp : Int) : (applyP ps op key val exp).2 = outB op key val exp (findP ps key) := by
  unfold applyP outB
  by_cases hk : isK key = true
  · rw [if_pos hk, if_pos hk]
    by_cases h1 : op = 1
    · rw [if_pos h1, if_pos h1]
      cases hv : isV val
      · rw [if_neg (by simp)]
      · rw [if_pos rfl]
    · rw [if_neg h1, if_neg h1]
      by_cases h2 : op = 2
      · rw [if_pos h2, if_pos h2]
      · rw [if_neg h2, if_neg h2]
        by_cases h3 : op = 3 ∧ isV val = true ∧ findP ps key = (exp, true)
        · rw [if_pos h3]; exact (decide_eq_true h3).symm
        · rw [if_neg h3]; exact (decide_eq_false h3).symm
  · rw [if_neg hk, if_neg hk]
theorem find_good {ps : List (ByteArray × Int)} (hs : Good ps) {key : ByteArray} {m : Int} (h : findP ps key = (m, true)) : isK key = true ∧ isV m = true := by
  obtain ⟨p, hp, e⟩ := findP_snd.1 (show (findP ps key).2 = true by rw [h])
  have e1 := bytes_inj e
  have h1 := hs.1 p hp
  refine ⟨by rw [← e1]; exact h1.1, ?_⟩
  unfold findP at h
  cases hf : ps.find? (fun p => p.1.toList == key.toList) with
  | none => rw [hf] at h; exact absurd (Prod.mk.inj h).2 (by simp)
  | some x =>
    rw [hf] at h
    have := (Prod.mk.inj h).1
    rw [← this]
    exact (hs.1 x (List.mem_of_find?_eq_some hf)).2
theorem find_false {ps : List (ByteArray × Int)} {key : ByteArray} (h : (findP ps key).2 = false) : findP ps key = (0, false) := by
  unfold findP at h ⊢
  split at h
  · cases h
  · rfl
theorem apply_same {ps : List (ByteArray × Int)} (hs : Good ps) {op : Int} {key : ByteArray} {val exp : Int} (h : (applyP ps op key val exp).2 = false) : (applyP ps op key val exp).1 = ps := by
  refine store_ext (good_apply hs op key val exp) hs fun k => ?_
  rw [apply_find hs]
  rw [apply_ok] at h
  split
  · rename_i e
    rw [bytes_inj e]
    unfold outB at h
    unfold outF
    by_cases hk : isK key = true
    · rw [if_pos hk] at h ⊢
      by_cases h1 : op = 1
      · rw [if_pos h1] at h ⊢
        rw [if_neg (by rw [h]; simp)]
      · rw [if_neg h1] at h ⊢
        by_cases h2 : op = 2
        · rw [if_pos h2] at h ⊢; exact (find_false h).symm
        · rw [if_neg h2] at h ⊢
          rw [if_neg (of_decide_eq_false h)]
    · rw [if_neg hk]
  · rfl

def RetAp (w : World) (zs : List (ByteArray × Int)) (zb : Bool) (e : Ending) (w' : World) : Prop := ∃ v, e = .returned (.tuple #[v, .bool zb]) ∧ PrsO w' w.heap.size w'.heap.size v zs ∧ Below w.heap.size w w'
theorem applyS_good {ps : List (ByteArray × Int)} (hs : Good ps) (op : Int) (key : ByteArray) (val exp : Int) : applyS ps op key val exp = applyP ps op key val exp := by
  unfold applyS
  rw [ok_of hs]
  rfl
theorem getP_good {ps : List (ByteArray × Int)} (hs : Good ps) (key : ByteArray) : getP ps key = findP ps key := by
  unfold getP
  rw [ok_of hs]
  rfl
theorem letter_size (k : Nat) : (letter k).size = 1 := rfl
theorem letter_len (k : Nat) : (letter k).size ≤ maxLen := by rw [letter_size]; unfold maxLen; omega
theorem letter_isK : ∀ k, k < 6 → isK (letter k) = true := by
  have : ∀ n : Fin 6, isK (letter n.val) = true := by decide +kernel
  exact fun k hk => this ⟨k, hk⟩

end Go.Proofs.YtlihmomopofdnaaGreatDoor
