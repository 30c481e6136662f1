/-
  The words of a store's text, split and cut as the program does it: plain laws.
-/
import Derived.Test.YtlihmomopofdnaaGreatDoorDec
import Derived.Lib.SplitLaws
import Derived.Lib.AtoiAllCases
namespace Go.Proofs.YtlihmomopofdnaaGreatDoor
open Go.RowKit
set_option linter.unusedVariables false

theorem index_at (c : UInt8) : ∀ (l r : List UInt8), c ∉ l → Lib.index (l ++ c :: r) [c] = (l.length : Int)
  | [], r, _ => by
    rw [List.nil_append, Lib.index]
    simp [List.isPrefixOf]
  | b :: l, r, h => by
    have hb : b ≠ c := fun e => h (by rw [e]; exact List.mem_cons_self)
    have ih := index_at c l r (fun e => h (List.mem_cons_of_mem _ e))
    have hp : ([c] : List UInt8).isPrefixOf (b :: (l ++ c :: r)) = false := by simp [List.isPrefixOf, Ne.symm hb]
    rw [List.cons_append, Lib.index, hp, ih]
    have : ((l.length : Int) == -1) = false := by rw [beq_eq_false_iff_ne]; omega
    rw [this]
    simp
theorem join_two (c : UInt8) (w y : List UInt8) (r : List (List UInt8)) : Lib.join (w :: y :: r) [c] = w ++ c :: Lib.join (y :: r) [c] := by
  rw [Lib.join_cons, Lib.join_cons]
  simp [Lib.joinTail]
theorem split_join (c : UInt8) : ∀ (ws : List (List UInt8)) (w : List UInt8), (∀ x ∈ w :: ws, c ∉ x) → Lib.splitK [c] 0 ws.length (Lib.join (w :: ws) [c]) = w :: ws
  | [], w, _ => by rw [Lib.join_one]; rfl
  | y :: r, w, h => by
    have ih := split_join c r y (fun x hx => h x (List.mem_cons_of_mem _ hx))
    have hi := index_at c w (Lib.join (y :: r) [c]) (h w List.mem_cons_self)
    rw [← join_two] at hi
    rw [List.length_cons, Lib.splitK, hi]
    have h1 : ((w.length : Int) == -1) = false := by rw [beq_eq_false_iff_ne]; omega
    have h2 : ((w.length : Int)).toNat = w.length := by omega
    rw [h1, h2, join_two]
    have h3 : (w ++ c :: Lib.join (y :: r) [c]).drop (w.length + [c].length) = Lib.join (y :: r) [c] := by
      rw [← List.drop_drop, List.drop_left]
      rfl
    rw [h3, ih, Nat.add_zero, List.take_left]
    rfl
theorem count_join (c : UInt8) : ∀ (ws : List (List UInt8)) (w : List UInt8), (∀ x ∈ w :: ws, c ∉ x) → (Lib.join (w :: ws) [c]).count c = ws.length
  | [], w, h => by rw [Lib.join_one]; exact List.count_eq_zero_of_not_mem (h w List.mem_cons_self)
  | y :: r, w, h => by
    have ih := count_join c r y (fun x hx => h x (List.mem_cons_of_mem _ hx))
    rw [join_two, List.count_append, List.count_cons_self, ih, List.count_eq_zero_of_not_mem (h w List.mem_cons_self), List.length_cons]
    omega
theorem split_words {s : ByteArray} {c : UInt8} {w : List UInt8} {ws : List (List UInt8)} (h : ∀ x ∈ w :: ws, c ∉ x) (hs : s.data.toList = Lib.join (w :: ws) [c]) : (Lib.splitB ⟨#[c]⟩ 0 (Lib.countB s ⟨#[c]⟩) s).map (·.data.toList) = w :: ws := by
  rw [Lib.splitB_data]
  have hc : Lib.countB s ⟨#[c]⟩ = ws.length := by
    show Lib.count s.data.toList [c] = _
    rw [Lib.count_one, hs, count_join c ws w h]
  rw [hc, hs]
  exact split_join c ws w h
theorem cut_at {l r : List UInt8} {c : UInt8} (h : c ∉ l) : Lib.cut (l ++ c :: r) [c] = (l, r, true) := by
  unfold Lib.cut
  rw [index_at c l r h, if_pos (by omega)]
  have h2 : ((l.length : Int)).toNat = l.length := by omega
  rw [h2, List.take_left]
  have h3 : (l ++ c :: r).drop (l.length + [c].length) = r := by
    rw [← List.drop_drop, List.drop_left]
    rfl
  rw [h3]
theorem cut_none (c : UInt8) : Lib.cut [] [c] = ([], [], false) := rfl

/-! ### no word holds the separator -/
theorem key_byte {s : ByteArray} (h : isK s = true) : (59 : UInt8) ∉ s.data.toList ∧ (61 : UInt8) ∉ s.data.toList := by
  obtain ⟨c, rfl⟩ := one_byte (isK_size h)
  rw [key_of] at h
  constructor
  · intro e
    have : (59 : UInt8) = c := by simpa using e
    subst this
    revert h
    decide
  · intro e
    have : (61 : UInt8) = c := by simpa using e
    subst this
    revert h
    decide
theorem dig_byte {d : Nat} (h : d < 10) : (59 : UInt8) ≠ UInt8.ofNat (48 + d) := by
  intro e
  have := congrArg UInt8.toNat e
  rw [dig_nat h] at this
  replace this : 59 = 48 + d := this
  omega
theorem num_byte {n : Nat} (h : n < 100) : (59 : UInt8) ∉ (num n).data.toList := by
  unfold num
  split
  · rename_i h1
    rw [dig_list]
    simpa using dig_byte h1
  · rw [data_app, dig_list, dig_list]
    have a := dig_byte (show n / 10 < 10 by omega)
    have b := dig_byte (show n % 10 < 10 by omega)
    intro e
    rcases List.mem_append.1 e with e | e
    · exact a (List.mem_singleton.1 e)
    · exact b (List.mem_singleton.1 e)
theorem pv_range {qs : List (ByteArray × Int)} (hg : Good qs) {k : Nat} (hk : k < qs.length) : isK (pk qs k) = true ∧ ∃ x : Nat, pv qs k = (x : Int) ∧ x < 100 := by
  have h1 := hg.1 _ (List.getElem_mem hk)
  rw [get_eq hk] at h1
  have hv := inB_true h1.2
  have hv1 : 1 ≤ pv qs k := hv.1
  have hv2 : pv qs k ≤ 99 := hv.2
  exact ⟨h1.1, (pv qs k).toNat, by omega, by omega⟩
theorem word_wl {qs : List (ByteArray × Int)} {k : Nat} (hk : k < qs.length) : (wordsL qs)[k]? = some (wl qs k) := by
  unfold wordsL wl
  rw [List.getElem?_map, List.getElem?_map, List.getElem?_eq_getElem hk, get_eq hk]
  show some (word (pk qs k, pv qs k)).data.toList = _
  unfold word
  rw [data_app, data_app]
  simp
theorem words_len (qs : List (ByteArray × Int)) : (wordsL qs).length = qs.length := by unfold wordsL; rw [List.length_map, List.length_map]
theorem words_sep {qs : List (ByteArray × Int)} (hg : Good qs) : ∀ x ∈ wordsL qs, (59 : UInt8) ∉ x := by
  intro x hx
  obtain ⟨k, hk⟩ := List.getElem?_of_mem hx
  have hlt : k < qs.length := by
    rw [← words_len]
    exact (List.getElem?_eq_some_iff.1 hk).1
  rw [word_wl hlt] at hk
  obtain ⟨hkk, n, hn, h100⟩ := pv_range hg hlt
  obtain rfl := Option.some.inj hk
  unfold wl
  rw [hn]
  intro e
  rcases List.mem_append.1 e with e | e
  · exact (key_byte hkk).1 e
  · rcases List.mem_cons.1 e with e | e
    · cases e
    · exact num_byte h100 e

/-! ### the text without its brackets -/
def pre (t : ByteArray) : Bool := Lib.hasPrefix t.data.toList [91]
def mid (t : ByteArray) : ByteArray := ⟨(Lib.trimPrefix t.data.toList [91]).toArray⟩
def suf (t : ByteArray) : Bool := Lib.hasSuffix (mid t).data.toList [93]
def inn (t : ByteArray) : ByteArray := ⟨(Lib.trimSuffix (mid t).data.toList [93]).toArray⟩
def words (t : ByteArray) : List ByteArray := Lib.splitB ⟨#[59]⟩ 0 (Lib.countB (inn t) ⟨#[59]⟩) (inn t)
theorem text_parts (qs : List (ByteArray × Int)) : (textE qs).data.toList = 91 :: (Lib.join (wordsL qs) [59] ++ [93]) := by
  rw [← join_text qs, data_app, data_app]
  simp
theorem pre_of {t : ByteArray} {qs : List (ByteArray × Int)} (ht : textE qs = t) : pre t = true := by
  unfold pre Lib.hasPrefix
  rw [← ht, text_parts]
  simp [List.isPrefixOf]
theorem mid_of {t : ByteArray} {qs : List (ByteArray × Int)} (ht : textE qs = t) : (mid t).data.toList = Lib.join (wordsL qs) [59] ++ [93] := by
  unfold mid Lib.trimPrefix
  have := pre_of ht
  unfold pre at this
  rw [this, if_pos rfl, ← ht, text_parts]
  rfl
theorem suf_of {t : ByteArray} {qs : List (ByteArray × Int)} (ht : textE qs = t) : suf t = true := by
  unfold suf Lib.hasSuffix
  rw [mid_of ht]
  exact List.isSuffixOf_iff_suffix.2 ⟨_, rfl⟩
theorem inn_of {t : ByteArray} {qs : List (ByteArray × Int)} (ht : textE qs = t) : (inn t).data.toList = Lib.join (wordsL qs) [59] := by
  unfold inn Lib.trimSuffix
  have := suf_of ht
  unfold suf at this
  rw [this, if_pos rfl, mid_of ht]
  simp
theorem words_of {t : ByteArray} {qs : List (ByteArray × Int)} (hg : Good qs) (ht : textE qs = t) : (words t).map (·.data.toList) = if qs = [] then [[]] else wordsL qs := by
  have hi := inn_of ht
  unfold words
  by_cases h0 : qs = []
  · rw [if_pos h0]
    subst h0
    refine split_words (c := 59) (w := []) (ws := []) (by simp) ?_
    rw [hi]
    rfl
  · rw [if_neg h0]
    have hs := words_sep hg
    cases hw : wordsL qs with
    | nil =>
      have := words_len qs
      rw [hw] at this
      exact absurd (List.length_eq_zero_iff.1 this.symm) h0
    | cons w ws =>
      rw [hw] at hs hi
      exact split_words hs hi
theorem inn_size (t : ByteArray) : (inn t).size ≤ t.size := by
  have h1 : (inn t).data.toList.length ≤ (mid t).data.toList.length := by
    unfold inn Lib.trimSuffix
    split
    · simp
    · simp
  have h2 : (mid t).data.toList.length ≤ t.data.toList.length := by
    unfold mid Lib.trimPrefix
    split
    · simp
    · simp
  rw [size_data] at h1 h2
  rw [size_data] at h1 h2
  omega
theorem words_le {t : ByteArray} (hp : pre t = true) : (words t).length ≤ t.size := by
  unfold words
  rw [Lib.splitB_all ⟨#[59]⟩ (show 1 ≤ (⟨#[59]⟩ : ByteArray).size from Nat.le_refl 1) 0 _ _ rfl]
  have := Lib.countB_le ⟨#[59]⟩ (show 1 ≤ (⟨#[59]⟩ : ByteArray).size from Nat.le_refl 1) _ (inn t) (Nat.le_refl _)
  have h1 : (inn t).data.toList.length ≤ (mid t).data.toList.length := by
    unfold inn Lib.trimSuffix
    split
    · simp
    · simp
  have h2 : (mid t).data.toList.length + 1 = t.data.toList.length := by
    unfold pre Lib.hasPrefix at hp
    unfold mid Lib.trimPrefix Lib.hasPrefix
    rw [hp, if_pos rfl]
    cases h : t.data.toList with
    | nil => rw [h] at hp; cases hp
    | cons a l => rfl
  rw [size_data] at h1 h2
  rw [size_data] at h1 h2
  omega
theorem pre_ne {t : ByteArray} (hp : pre t = true) : t ≠ ⟨#[]⟩ := by
  rintro rfl
  cases hp
theorem piece_le : ∀ (k : Nat) (s x : ByteArray), x ∈ Lib.splitB ⟨#[59]⟩ 0 k s → x.size ≤ s.size
  | 0, s, x, h => by
    rw [Lib.splitB_zero] at h
    rw [List.mem_singleton.1 h]
    exact Nat.le_refl _
  | k + 1, s, x, h => by
    rcases Lib.indexB_cases s ⟨#[59]⟩ with hix | ⟨i, hix, hr⟩
    · rw [Lib.splitB_miss _ _ _ _ hix] at h
      rw [List.mem_singleton.1 h]
      exact Nat.le_refl _
    · rw [Lib.splitB_hit _ _ _ _ i hix] at h
      rcases List.mem_cons.1 h with rfl | h
      · rw [ByteArray.size_extract]; omega
      · have := piece_le k _ x h
        rw [ByteArray.size_extract] at this
        omega

/-! ### numbers -/
def numL (n : Nat) : List UInt8 := if n < 10 then [UInt8.ofNat (48 + n)] else [UInt8.ofNat (48 + n / 10), UInt8.ofNat (48 + n % 10)]
theorem num_list (n : Nat) : (num n).data.toList = numL n := by
  unfold num numL
  split
  · rw [dig_list]
  · rw [data_app, dig_list, dig_list]; rfl
theorem atoi_num {n : Nat} (h : n < 100) : Lib.atoiAll (num n).data.toList = .ok (n : Int) := by
  rw [num_list]
  have aux : ∀ m : Fin 100, Lib.atoiAll (numL m.val) = .ok (m.val : Int) := by decide +kernel
  exact aux ⟨n, h⟩
def ReadN (s : ByteArray) (v : Int) (ok : Bool) : Prop := (∀ n, n < 100 → s = num n → ok = true ∧ v = (n : Int)) ∧ (s.size = 0 → ok = false)

/-! ### one round of the program's loop -/
def cutK (x : ByteArray) : ByteArray := ⟨(Lib.cut x.data.toList [61]).1.toArray⟩
def cutV (x : ByteArray) : ByteArray := ⟨(Lib.cut x.data.toList [61]).2.1.toArray⟩
theorem cutV_le (x : ByteArray) : (cutV x).size ≤ x.size := by
  unfold cutV Lib.cut
  rw [← size_data, ← size_data]
  split
  · simp
  · simp
def Took (t : ByteArray) (acc : List (ByteArray × Int)) (k : Nat) : Prop := ∀ qs, Good qs → textE qs = t → acc = qs.take k
theorem took_next {t x : ByteArray} {acc : List (ByteArray × Int)} {k : Nat} {v : Int} {ok : Bool} (h : Took t acc k) (hx : (words t)[k]? = some x) (hr : ReadN (cutV x) v ok) : Took t (if ok = true then acc ++ [(cutK x, v)] else acc) (k + 1) := by
  intro qs hg ht
  have hw := words_of hg ht
  have hd : ((words t).map (·.data.toList))[k]? = (if qs = [] then [[]] else wordsL qs)[k]? := by rw [hw]
  rw [List.getElem?_map, hx] at hd
  rw [h qs hg ht]
  by_cases h0 : qs = []
  · rw [if_pos h0] at hd
    subst h0
    have hk : k = 0 := by
      cases k with
      | zero => rfl
      | succ k => cases hd
    subst hk
    have hxd : x.data.toList = [] := Option.some.inj hd
    have hz : (cutV x).size = 0 := by
      unfold cutV
      rw [hxd]
      rfl
    rw [hr.2 hz]
    rfl
  · rw [if_neg h0] at hd
    have hlt : k < qs.length := by
      rw [← words_len]
      exact (List.getElem?_eq_some_iff.1 hd.symm).1
    rw [word_wl hlt] at hd
    have hxd : x.data.toList = wl qs k := Option.some.inj hd
    obtain ⟨hkk, n, hn, h100⟩ := pv_range hg hlt
    have hc : Lib.cut x.data.toList [61] = ((pk qs k).data.toList, (num n).data.toList, true) := by
      rw [hxd]
      unfold wl
      rw [cut_at (key_byte hkk).2, hn]
      rfl
    have hcv : cutV x = num n := by unfold cutV; rw [hc]
    have hck : cutK x = pk qs k := by unfold cutK; rw [hc]
    obtain ⟨hok, hvn⟩ := hr.1 n h100 hcv
    rw [hok, if_pos rfl, hck, hvn, ← hn, List.take_succ_eq_append_getElem hlt, get_eq hlt]
theorem took_end {t : ByteArray} {acc : List (ByteArray × Int)} {k : Nat} (h : Took t acc k) (hk : k = (words t).length) : ∀ qs, Good qs → textE qs = t → acc = qs := by
  intro qs hg ht
  have hw := congrArg List.length (words_of hg ht)
  rw [List.length_map, ← hk] at hw
  rw [h qs hg ht]
  by_cases h0 : qs = []
  · subst h0; exact List.take_nil
  · rw [if_neg h0, words_len] at hw
    rw [hw, List.take_length]
theorem isDec_bare {t : ByteArray} (h : pre t = false ∨ suf t = false) : IsDec t [] false := by
  refine .inr ⟨rfl, rfl, fun qs _ ht => ?_⟩
  rcases h with h | h
  · rw [pre_of ht] at h; cases h
  · rw [suf_of ht] at h; cases h
end Go.Proofs.YtlihmomopofdnaaGreatDoor
