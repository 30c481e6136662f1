/-
  Where the words of a store's text stand; the numbers that the reference reads there.
-/
import Derived.Test.YtlihmomopofdnaaGreatDoorEnc
namespace Go.Proofs.YtlihmomopofdnaaGreatDoor
open Go.RowKit
set_option linter.unusedVariables false

def IsDec (t : ByteArray) (ps : List (ByteArray × Int)) (ok : Bool) : Prop := (ok = true ∧ Good ps ∧ textE ps = t) ∨ (ok = false ∧ ps = [] ∧ ∀ qs, Good qs → textE qs ≠ t)
def bt (t : ByteArray) (i : Nat) : UInt8 := t.data.toList.getD i 0
def isD (b : UInt8) : Bool := decide (48 ≤ b.toNat) && decide (b.toNat ≤ 57)
def valK (t : ByteArray) (i : Nat) : Nat → Nat
  | 0 => 0
  | k + 1 => 10 * valK t i k + ((bt t (i + k)).toNat - 48)
def StopK (t : ByteArray) (i k : Nat) : Prop := k ≤ 2 ∧ (∀ j, j < k → isD (bt t (i + j)) = true) ∧ (k = 2 ∨ t.size ≤ i + k ∨ isD (bt t (i + k)) = false)
theorem isD_mk {b : UInt8} (h1 : 48 ≤ b.toNat) (h2 : b.toNat ≤ 57) : isD b = true := by unfold isD; rw [decide_eq_true h1, decide_eq_true h2]; rfl
theorem isD_lo {b : UInt8} (h1 : ¬ 48 ≤ b.toNat) : isD b = false := by unfold isD; rw [decide_eq_false h1]; rfl
theorem isD_hi {b : UInt8} (h1 : ¬ b.toNat ≤ 57) : isD b = false := by unfold isD; rw [decide_eq_false h1]; simp

/-! ### where the words stand -/
def wl (ps : List (ByteArray × Int)) (k : Nat) : List UInt8 := (pk ps k).data.toList ++ 61 :: (num (pv ps k).toNat).data.toList
theorem accE_next (ps : List (ByteArray × Int)) (k : Nat) : (accE ps (k + 1)).data.toList = (accE ps k).data.toList ++ ((if 0 < k then [59] else []) ++ wl ps k) := by
  unfold wl
  show (((((if 0 < k then accE ps k ++ ⟨#[59]⟩ else accE ps k) ++ pk ps k) ++ ⟨#[61]⟩) ++ num (pv ps k).toNat)).data.toList = _
  rw [data_app, data_app, data_app]
  by_cases h0 : 0 < k
  · rw [if_pos h0, if_pos h0, data_app]; simp
  · rw [if_neg h0, if_neg h0]; simp
theorem accE_pre (ps : List (ByteArray × Int)) (k : Nat) (h0 : 0 < k) : ∀ n, ∃ B, (accE ps (k + n)).data.toList = (accE ps k).data.toList ++ B ∧ (B = [] ∨ ∃ C, B = 59 :: C)
  | 0 => ⟨[], by simp, .inl rfl⟩
  | n + 1 => by
    obtain ⟨B, hB, hc⟩ := accE_pre ps k h0 n
    refine ⟨B ++ ([59] ++ wl ps (k + n)), ?_, ?_⟩
    · show (accE ps ((k + n) + 1)).data.toList = _
      rw [accE_next, hB, if_pos (by omega)]; simp
    · rcases hc with rfl | ⟨C, rfl⟩
      · exact .inr ⟨_, rfl⟩
      · exact .inr ⟨_, rfl⟩
def off (ps : List (ByteArray × Int)) (k : Nat) : Nat := (accE ps k).size + (if 0 < k then 1 else 0)
theorem size_data (a : ByteArray) : a.data.toList.length = a.size := by rw [Array.length_toList]; rfl
theorem text_at (ps : List (ByteArray × Int)) {k : Nat} (hk : k < ps.length) : ∃ A c B, (textE ps).data.toList = A ++ (wl ps k ++ c :: B) ∧ A.length = off ps k ∧ (c = 59 ∨ c = 93) := by
  obtain ⟨B, hB, hc⟩ := accE_pre ps (k + 1) (Nat.succ_pos _) (ps.length - (k + 1))
  rw [show k + 1 + (ps.length - (k + 1)) = ps.length by omega] at hB
  have e : (textE ps).data.toList = ((accE ps k).data.toList ++ (if 0 < k then [59] else [])) ++ (wl ps k ++ (B ++ [93])) := by
    unfold textE
    rw [data_app, hB, accE_next]; simp
  have hl : ((accE ps k).data.toList ++ (if 0 < k then [59] else [])).length = off ps k := by
    unfold off
    rw [List.length_append, size_data]
    split <;> rfl
  rcases hc with rfl | ⟨C, rfl⟩
  · exact ⟨_, 93, [], e, hl, .inr rfl⟩
  · exact ⟨_, 59, C ++ [93], by rw [e]; simp, hl, .inl rfl⟩
theorem off_zero (ps : List (ByteArray × Int)) : off ps 0 = 1 := rfl
theorem off_next (ps : List (ByteArray × Int)) (k : Nat) : off ps (k + 1) = off ps k + (wl ps k).length + 1 := by
  unfold off
  rw [← size_data, accE_next, List.length_append, List.length_append, size_data, if_pos (Nat.succ_pos _)]
  split
  · show _ + (1 + _) + 1 = _; omega
  · show _ + (0 + _) + 1 = _; omega
theorem off_last (ps : List (ByteArray × Int)) : (textE ps).size ≤ off ps ps.length + 1 := by
  unfold textE off
  rw [ByteArray.size_append]
  show _ + 1 ≤ _
  omega
theorem wl_len {ps : List (ByteArray × Int)} {k : Nat} (h1 : (pk ps k).size = 1) : (wl ps k).length = (num (pv ps k).toNat).size + 2 := by
  unfold wl
  rw [List.length_append, List.length_cons, size_data, size_data, h1]
  omega
theorem key_at {ps : List (ByteArray × Int)} {k : Nat} (hk : k < ps.length) (h1 : (pk ps k).size = 1) : (textE ps).extract (off ps k) (off ps k + 1) = pk ps k := by
  obtain ⟨A, c, B, e, hl, _⟩ := text_at ps hk
  refine bytes_inj ?_
  rw [Lib.extract_toList, e, ← hl, List.drop_left, Lib.toList_data, Nat.add_sub_cancel_left]
  have hs := size_data (pk ps k)
  rw [h1] at hs
  unfold wl
  rw [List.append_assoc]
  conv => lhs; rw [← hs]
  rw [List.take_left]
theorem bt_mid {t : ByteArray} {A B : List UInt8} (h : t.data.toList = A ++ B) (j : Nat) : bt t (A.length + j) = B.getD j 0 := by
  unfold bt
  rw [h, List.getD, List.getD, List.getElem?_append_right (by omega), Nat.add_sub_cancel_left]
theorem dig_list (d : Nat) : (dig d).data.toList = [UInt8.ofNat (48 + d)] := rfl
theorem dig_nat {d : Nat} (h : d < 10) : (UInt8.ofNat (48 + d)).toNat = 48 + d := by
  rw [UInt8.toNat_ofNat']
  omega
theorem num_at {t : ByteArray} {A B : List UInt8} {c : UInt8} {x i k : Nat} (hx : x < 100) (h : t.data.toList = A ++ ((num x).data.toList ++ c :: B)) (hi : i = A.length) (hc : c = 59 ∨ c = 93) (hs : StopK t i k) : k = (num x).size ∧ valK t i k = x := by
  subst hi
  obtain ⟨h2, hd, hst⟩ := hs
  have hb := bt_mid h
  have hsz : t.size = A.length + ((num x).size + (B.length + 1)) := by
    rw [← size_data, h, List.length_append, List.length_append, List.length_cons, size_data]
  have hcd : isD c = false := by rcases hc with rfl | rfl <;> rfl
  by_cases h10 : x < 10
  · have hn : num x = dig x := by unfold num; rw [if_pos h10]
    rw [hn, dig_list] at hb
    rw [hn] at hsz ⊢
    have hz : (dig x).size = 1 := rfl
    rw [hz] at hsz ⊢
    have b0 : bt t (A.length + 0) = UInt8.ofNat (48 + x) := hb 0
    have b1 : bt t (A.length + 1) = c := hb 1
    have d0 : isD (bt t (A.length + 0)) = true := by rw [b0]; exact isD_mk (by rw [dig_nat h10]; omega) (by rw [dig_nat h10]; omega)
    obtain rfl : k = 1 := by
      rcases Nat.lt_or_ge 1 k with hk | hk
      · have := hd 1 hk
        rw [b1, hcd] at this
        cases this
      · rcases Nat.lt_or_ge 0 k with h0 | h0
        · omega
        · obtain rfl : k = 0 := by omega
          rcases hst with h | h | h
          · omega
          · omega
          · rw [d0] at h; cases h
    refine ⟨rfl, ?_⟩
    unfold valK
    rw [b0, dig_nat h10]
    unfold valK
    omega
  · have hn : num x = dig (x / 10) ++ dig (x % 10) := by unfold num; rw [if_neg h10]
    have hq : x / 10 < 10 := by omega
    have hr : x % 10 < 10 := by omega
    rw [hn, data_app, dig_list, dig_list] at hb
    rw [hn] at hsz ⊢
    have hz : (dig (x / 10) ++ dig (x % 10)).size = 2 := by rw [ByteArray.size_append]; rfl
    rw [hz] at hsz ⊢
    have b0 : bt t (A.length + 0) = UInt8.ofNat (48 + x / 10) := hb 0
    have b1 : bt t (A.length + 1) = UInt8.ofNat (48 + x % 10) := hb 1
    have d0 : isD (bt t (A.length + 0)) = true := by rw [b0]; exact isD_mk (by rw [dig_nat hq]; omega) (by rw [dig_nat hq]; omega)
    have d1 : isD (bt t (A.length + 1)) = true := by rw [b1]; exact isD_mk (by rw [dig_nat hr]; omega) (by rw [dig_nat hr]; omega)
    obtain rfl : k = 2 := by
      rcases Nat.lt_or_ge 1 k with hk | hk
      · omega
      · have : k = 0 ∨ k = 1 := by omega
        rcases this with rfl | rfl
        · rcases hst with h | h | h
          · omega
          · omega
          · rw [d0] at h; cases h
        · rcases hst with h | h | h
          · omega
          · omega
          · rw [d1] at h; cases h
    refine ⟨rfl, ?_⟩
    unfold valK
    rw [b1, dig_nat hr]
    unfold valK
    rw [b0, dig_nat hq]
    unfold valK
    omega
/-- what the reference has read when it stands at byte i -/
def ReadTo (t : ByteArray) (acc : List (ByteArray × Int)) (i : Nat) : Prop := ∀ qs, Good qs → textE qs = t → ∃ k, k ≤ qs.length ∧ acc = qs.take k ∧ i = off qs k
theorem readTo_start (t : ByteArray) : ReadTo t [] 1 := fun qs _ _ => ⟨0, Nat.zero_le _, rfl, rfl⟩
theorem readTo_next {t : ByteArray} {acc : List (ByteArray × Int)} {i k : Nat} (h : ReadTo t acc i) (hi : i + 2 < t.size) (hs : StopK t (i + 2) k) : ReadTo t (acc ++ [(t.extract i (i + 1), ((valK t (i + 2) k : Nat) : Int))]) (i + 2 + k + 1) := by
  intro qs hg ht
  obtain ⟨n, hn, rfl, rfl⟩ := h qs hg ht
  have hlt : n < qs.length := by
    rcases Nat.lt_or_ge n qs.length with h | h
    · exact h
    · obtain rfl : n = qs.length := by omega
      have := off_last qs
      rw [ht] at this
      omega
  have h1 := hg.1 _ (List.getElem_mem hlt)
  rw [get_eq hlt] at h1
  have hv := inB_true h1.2
  have hks : (pk qs n).size = 1 := isK_size h1.1
  have hv1 : 1 ≤ pv qs n := hv.1
  have hv2 : pv qs n ≤ 99 := hv.2
  obtain ⟨A, c, B, e, hl, hc⟩ := text_at qs hlt
  have hpl : ((pk qs n).data.toList ++ [61]).length = 2 := by rw [List.length_append, size_data, hks]; rfl
  rw [ht] at e
  have e2 : t.data.toList = (A ++ ((pk qs n).data.toList ++ [61])) ++ ((num (pv qs n).toNat).data.toList ++ c :: B) := by rw [e]; unfold wl; simp
  obtain ⟨hk, hval⟩ := num_at (x := (pv qs n).toNat) (by omega) e2 (by rw [List.length_append, hpl, hl]) hc hs
  refine ⟨n + 1, hlt, ?_, ?_⟩
  · rw [List.take_succ_eq_append_getElem hlt, get_eq hlt, hval, ← ht, key_at hlt hks]
    congr 3
    omega
  · rw [off_next, wl_len hks, hk]
    omega
theorem readTo_end {t : ByteArray} {acc : List (ByteArray × Int)} {i : Nat} (h : ReadTo t acc i) (hi : ¬ i + 2 < t.size) : ∀ qs, Good qs → textE qs = t → acc = qs := by
  intro qs hg ht
  obtain ⟨n, hn, rfl, rfl⟩ := h qs hg ht
  rcases Nat.lt_or_ge n qs.length with hlt | hge
  · obtain ⟨A, c, B, e, hl, hc⟩ := text_at qs hlt
    have h1 := hg.1 _ (List.getElem_mem hlt)
    rw [get_eq hlt] at h1
    have hks : (pk qs n).size = 1 := isK_size h1.1
    have := congrArg List.length e
    rw [size_data, ht, List.length_append, List.length_append, List.length_cons, wl_len hks, hl] at this
    omega
  · rw [List.take_of_length_le hge]
theorem text_nil (qs : List (ByteArray × Int)) : textE qs ≠ ⟨#[]⟩ := by
  intro h
  have := congrArg ByteArray.size h
  unfold textE at this
  rw [ByteArray.size_append] at this
  change _ + 1 = 0 at this
  omega
theorem isDec_yes {t : ByteArray} {acc : List (ByteArray × Int)} (h0 : t ≠ ⟨#[]⟩) (h : encE acc = t) : IsDec t acc true := by
  unfold encE at h
  split at h
  · rename_i hv
    exact .inl ⟨rfl, good_of hv, h⟩
  · exact absurd h.symm h0
theorem isDec_no {t : ByteArray} {acc : List (ByteArray × Int)} (hr : ∀ qs, Good qs → textE qs = t → acc = qs) (h : encE acc ≠ t) : IsDec t [] false := by
  refine .inr ⟨rfl, rfl, fun qs hg ht => ?_⟩
  have := hr qs hg ht
  subst this
  unfold encE at h
  rw [if_pos (ok_of hg)] at h
  exact h ht
theorem isDec_empty : IsDec ⟨#[]⟩ [] false := .inr ⟨rfl, rfl, fun qs _ ht => text_nil qs ht⟩
theorem text_inj {ps qs : List (ByteArray × Int)} (hp : Good ps) (hq : Good qs) (h : textE ps = textE qs) : ps = qs := by
  have aux : ∀ n acc i, (textE qs).size + 2 - i ≤ n → ReadTo (textE qs) acc i → ∃ acc2, ∀ rs, Good rs → textE rs = textE qs → acc2 = rs := by
    intro n
    induction n with
    | zero => intro acc i hi hr; exact ⟨acc, readTo_end hr (by omega)⟩
    | succ n ih =>
      intro acc i hi hr
      by_cases hlt : i + 2 < (textE qs).size
      · obtain ⟨k, hk⟩ : ∃ k, StopK (textE qs) (i + 2) k := by
          by_cases d0 : isD (bt (textE qs) (i + 2 + 0)) = true
          · by_cases d1 : isD (bt (textE qs) (i + 2 + 1)) = true
            · exact ⟨2, by omega, fun j hj => by
                have : j = 0 ∨ j = 1 := by omega
                rcases this with rfl | rfl
                · exact d0
                · exact d1, .inl rfl⟩
            · exact ⟨1, by omega, fun j hj => by obtain rfl : j = 0 := by omega
                                                 exact d0, .inr (.inr (by simpa using d1))⟩
          · exact ⟨0, by omega, fun j hj => by omega, .inr (.inr (by simpa using d0))⟩
        exact ih _ _ (by omega) (readTo_next hr hlt hk)
      · exact ⟨acc, readTo_end hr hlt⟩
  obtain ⟨acc, ha⟩ := aux _ [] 1 (Nat.le_refl _) (readTo_start _)
  rw [← ha ps hp h, ← ha qs hq rfl]
theorem isDec_one {t : ByteArray} {ps qs : List (ByteArray × Int)} {a b : Bool} (h : IsDec t ps a) (k : IsDec t qs b) : ps = qs ∧ a = b := by
  rcases h with ⟨rfl, h1, h2⟩ | ⟨rfl, rfl, h1⟩ <;> rcases k with ⟨rfl, k1, k2⟩ | ⟨rfl, rfl, k1⟩
  · exact ⟨text_inj h1 k1 (h2.trans k2.symm), rfl⟩
  · exact absurd h2 (k1 _ h1)
  · exact absurd k2 (h1 _ k1)
  · exact ⟨rfl, rfl⟩
theorem isDec_good {t : ByteArray} {ps qs : List (ByteArray × Int)} {a : Bool} (hq : Good qs) (ht : textE qs = t) (h : IsDec t ps a) : ps = qs ∧ a = true := isDec_one h (.inl ⟨rfl, hq, ht⟩)
end Go.Proofs.YtlihmomopofdnaaGreatDoor
