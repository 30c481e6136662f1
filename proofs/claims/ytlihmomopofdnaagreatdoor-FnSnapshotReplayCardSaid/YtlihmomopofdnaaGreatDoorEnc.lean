/-
  The text of a store as a plain function; the walk of the reference's l6Dec.
-/
import Derived.Test.YtlihmomopofdnaaGreatDoorApp
import Derived.Test.YtlihmomopofdnaaGreatDoorMark
import Derived.Lib.Join
import Derived.Lib.ItoaNum
import Derived.Deep.RegionLaw
namespace Go.Proofs.YtlihmomopofdnaaGreatDoor
open Go.RowKit
set_option linter.unusedVariables false

def num (n : Nat) : ByteArray := if n < 10 then dig n else dig (n / 10) ++ dig (n % 10)
theorem num_digits {n : Nat} (h : n < 100) : (⟨(Lib.decDigits n).toArray⟩ : ByteArray) = num n := by
  unfold num
  split
  · rename_i h1
    rw [Lib.decDigits, dif_pos h1]
    rfl
  · rename_i h1
    rw [Lib.decDigits, dif_neg h1, Lib.decDigits, dif_pos (by omega)]
    unfold dig
    rfl
theorem num_size {n : Nat} (h : n < 100) : (num n).size ≤ 2 := by
  unfold num
  split
  · exact Nat.le_succ 1
  · rw [ByteArray.size_append]; exact Nat.le_refl 2
theorem conv_at {d B : Nat} {w : World} (hc : w.cell? ⟨B, 0, none⟩ = some (.int .u8 (48 + (d : Int)))) : (convert 22 9 (.slice (some ⟨B, 0, none⟩) 1 1)).run Tryz.prog w = .ok (.string (dig d)) w := by
  have := run_convert_bytes_arg (P := Tryz.prog) w 22 5 Tryz.underlying22 Tryz.underlying5 B 0 1 1 [48 + (d : Int)] rfl (fun i hi => by
    obtain rfl : i = 0 := by omega
    exact hc) 9 Tryz.underlying9
  rw [this]
  have e : strOfNums [48 + (d : Int)] = dig d := by
    unfold strOfNums dig
    have : (48 + (d : Int)).toNat = 48 + d := by omega
    simp [this]
  rw [e]
theorem wrap_dig {d : Nat} (h : d < 10) : IntKind.u8.wrap (48 + (d : Int)) = 48 + (d : Int) := by
  have : d = 0 ∨ d = 1 ∨ d = 2 ∨ d = 3 ∨ d = 4 ∨ d = 5 ∨ d = 6 ∨ d = 7 ∨ d = 8 ∨ d = 9 := by omega
  rcases this with rfl | rfl | rfl | rfl | rfl | rfl | rfl | rfl | rfl | rfl <;> rfl

/-! ### the text -/
def eqC : ByteArray := ⟨#[61]⟩
def word (p : ByteArray × Int) : ByteArray := (p.1 ++ ⟨#[61]⟩) ++ num p.2.toNat
def accE (ps : List (ByteArray × Int)) : Nat → ByteArray
  | 0 => ⟨#[91]⟩
  | k + 1 => (((if 0 < k then accE ps k ++ ⟨#[59]⟩ else accE ps k) ++ pk ps k) ++ ⟨#[61]⟩) ++ num (pv ps k).toNat
def wordsL (ps : List (ByteArray × Int)) : List (List UInt8) := (ps.map word).map (·.data.toList)
def textE (ps : List (ByteArray × Int)) : ByteArray := accE ps ps.length ++ ⟨#[93]⟩
def encE (ps : List (ByteArray × Int)) : ByteArray := if storeOk ps = true then textE ps else ⟨#[]⟩
theorem join_snoc (xs : List (List UInt8)) (x sep : List UInt8) : Lib.join (xs ++ [x]) sep = if xs = [] then x else Lib.join xs sep ++ sep ++ x := by
  cases xs with
  | nil => rw [if_pos rfl, List.nil_append, Lib.join_one]
  | cons y r =>
    rw [if_neg (by simp), List.cons_append, Lib.join_cons, Lib.join_cons]
    unfold Lib.joinTail
    simp
theorem bytes_ext {a b : ByteArray} (h : a.data.toList = b.data.toList) : a = b := bytes_inj (by rw [Lib.toList_data, Lib.toList_data]; exact h)
theorem data_app (a b : ByteArray) : (a ++ b).data.toList = a.data.toList ++ b.data.toList := by rw [ByteArray.data_append, Array.toList_append]
theorem accE_join (ps : List (ByteArray × Int)) : ∀ k, k ≤ ps.length → (accE ps k).data.toList = 91 :: Lib.join (wordsL (ps.take k)) [59]
  | 0, _ => rfl
  | k + 1, h => by
    have ih := accE_join ps k (by omega)
    have e : wordsL (ps.take (k + 1)) = wordsL (ps.take k) ++ [(word (pk ps k, pv ps k)).data.toList] := by
      unfold wordsL
      rw [List.take_succ_eq_append_getElem (by omega), get_eq (by omega), List.map_append, List.map_append]
      rfl
    rw [e, join_snoc]
    have hw : (word (pk ps k, pv ps k)).data.toList = (pk ps k).data.toList ++ 61 :: (num (pv ps k).toNat).data.toList := by
      unfold word
      rw [data_app, data_app]
      simp
    unfold accE
    by_cases h0 : 0 < k
    · rw [if_pos h0, if_neg (by
        intro e2
        have := congrArg List.length e2
        unfold wordsL at this
        rw [List.length_map, List.length_map, List.length_take] at this
        replace this : min k ps.length = 0 := this
        omega), data_app, data_app, data_app, data_app, ih, hw]
      simp
    · obtain rfl : k = 0 := by omega
      rw [if_neg h0, data_app, data_app, data_app, ih, hw]
      simp [wordsL, Lib.join_nil]
theorem join_text (ps : List (ByteArray × Int)) : ((⟨#[91]⟩ : ByteArray) ++ ⟨(Lib.join (wordsL ps) [59]).toArray⟩) ++ ⟨#[93]⟩ = textE ps := by
  refine bytes_ext ?_
  unfold textE
  rw [data_app, data_app, data_app, accE_join ps ps.length (Nat.le_refl _), List.take_length]
  simp
theorem word_size {p : ByteArray × Int} (h1 : isK p.1 = true) (h2 : isV p.2 = true) : (word p).size ≤ 4 := by
  have hv := inB_true h2
  have := num_size (show p.2.toNat < 100 by omega)
  unfold word
  rw [ByteArray.size_append, ByteArray.size_append, isK_size h1]
  have : (⟨#[61]⟩ : ByteArray).size = 1 := rfl
  omega
theorem accE_size {ps : List (ByteArray × Int)} (hs : Good ps) : ∀ k, k ≤ ps.length → (accE ps k).size ≤ 1 + 5 * k
  | 0, _ => Nat.le_refl _
  | k + 1, h => by
    have ih := accE_size hs k (by omega)
    have h1 := hs.1 _ (List.getElem_mem (show k < ps.length by omega))
    rw [get_eq (by omega)] at h1
    have hv := inB_true h1.2
    have hn := num_size (show (pv ps k).toNat < 100 by omega)
    have hk := isK_size h1.1
    replace hk : (pk ps k).size = 1 := hk
    have e1 : (⟨#[61]⟩ : ByteArray).size = 1 := rfl
    have e2 : (⟨#[59]⟩ : ByteArray).size = 1 := rfl
    unfold accE
    rw [ByteArray.size_append, ByteArray.size_append, ByteArray.size_append]
    split
    · rw [ByteArray.size_append]; omega
    · omega
end Go.Proofs.YtlihmomopofdnaaGreatDoor
