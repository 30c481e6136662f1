/-
  StoreDecode at a known result, the reference's and the program's.
-/
import Derived.Test.YtlihmomopofdnaaGreatDoorDecI
namespace Go.Proofs.YtlihmomopofdnaaGreatDoor
open Go.RowKit
set_option linter.unusedVariables false

theorem isDec_ex (t : ByteArray) : ∃ ps ok, IsDec t ps ok := by
  by_cases h : ∃ qs, Good qs ∧ textE qs = t
  · obtain ⟨qs, h1, h2⟩ := h
    exact ⟨qs, true, .inl ⟨rfl, h1, h2⟩⟩
  · exact ⟨[], false, .inr ⟨rfl, rfl, fun qs h1 h2 => h ⟨qs, h1, h2⟩⟩⟩
theorem isDec_len {t : ByteArray} {ps : List (ByteArray × Int)} {ok : Bool} (h : IsDec t ps ok) : ps.length ≤ 6 := by
  rcases h with ⟨_, h, _⟩ | ⟨_, rfl, _⟩
  · exact good_len h
  · exact Nat.zero_le _
theorem text_size {ps : List (ByteArray × Int)} (hs : Good ps) : (textE ps).size ≤ 1048576 := by
  have h1 := accE_size hs ps.length (Nat.le_refl _)
  have h2 := good_len hs
  unfold textE
  rw [ByteArray.size_append]
  have : (⟨#[93]⟩ : ByteArray).size = 1 := rfl
  omega
theorem implDecode_eq (t : ByteArray) (ps : List (ByteArray × Int)) (ok : Bool) (w : World) (ht : t.size ≤ 1048576) (hm : Met w) (h : IsDec t ps ok) :
    Calls Tryz.prog 9 #[.string t] w fun e w' => ∃ v, e = .returned (.tuple #[v, .bool ok]) ∧ PrsO w' w.heap.size w'.heap.size v ps ∧ Below w.heap.size w w' := by
  refine (implDecode_any t w ht hm).mono ?_
  rintro e w' ⟨v, qs, b, rfl, hd, ho, hb⟩
  obtain ⟨rfl, rfl⟩ := isDec_one h hd
  exact ⟨v, rfl, ho, hb⟩
end Go.Proofs.YtlihmomopofdnaaGreatDoor
