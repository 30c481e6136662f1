/-
  What the map that readStore made holds.
-/
import Derived.Test.YtlihmomopofdnaaGreatDoorFind
import Derived.Test.YtlihmomopofdnaaGreatDoorMapS
import Derived.Lib.Strings
namespace Go.Proofs.YtlihmomopofdnaaGreatDoor
open Go.RowKit Go.Maps Go.WideMaps
set_option linter.unusedVariables false

/-! ### keys of a valid store are distinct -/
def code (s : ByteArray) : Nat := (s.toList.headD 0).toNat
theorem lt_code {a b : ByteArray} (ha : isK a = true) (hb : isK b = true) (h : lt a b = true) : code a < code b := by
  obtain ⟨c, rfl⟩ := one_byte (isK_size ha)
  obtain ⟨d, rfl⟩ := one_byte (isK_size hb)
  have e1 : (⟨#[c]⟩ : ByteArray).toList = [c] := by rw [Lib.toList_data]
  have e2 : (⟨#[d]⟩ : ByteArray).toList = [d] := by rw [Lib.toList_data]
  unfold lt at h
  rw [e1, e2] at h
  unfold code
  rw [e1, e2]
  simp [Op.bytesLess] at h
  simpa [UInt8.lt_iff_toNat_lt] using h
theorem code_mono {ps : List (ByteArray × Int)} (hs : storeOk ps = true) : ∀ (i d : Nat), i + d + 1 < ps.length → code (pk ps i) < code (pk ps (i + d + 1))
  | i, 0, h => by
    have h1 := okAt_parts (storeOk_all hs (show i < ps.length by omega))
    have h2 := okAt_parts (storeOk_all hs (show i + 1 < ps.length by omega))
    exact lt_code h1.1 h2.1 (by rcases h2.2.2 with e | e; omega; simpa using e)
  | i, d + 1, h => by
    have ih := code_mono hs i d (by omega)
    have h1 := okAt_parts (storeOk_all hs (show i + d + 1 < ps.length by omega))
    have h2 := okAt_parts (storeOk_all hs (show i + d + 1 + 1 < ps.length by omega))
    have := lt_code h1.1 h2.1 (by rcases h2.2.2 with e | e; omega; simpa using e)
    show code (pk ps i) < code (pk ps (i + d + 1 + 1))
    omega
theorem distinct {ps : List (ByteArray × Int)} (hs : storeOk ps = true) {i j : Nat} (hij : i < j) (hj : j < ps.length) : (pk ps i).toList ≠ (pk ps j).toList := fun e => by
  have := code_mono hs i (j - i - 1) (by omega)
  rw [show i + (j - i - 1) + 1 = j by omega] at this
  unfold code at this
  rw [e] at this
  omega

/-! ### what the map holds -/
theorem mapOf_isMap (ps : List (ByteArray × Int)) : ∀ k, IsMap (mapOf ps k)
  | 0 => ⟨[], rfl⟩
  | k + 1 => by
    obtain ⟨es, h⟩ := mapOf_isMap ps k
    exact ⟨_, by show (mapOf ps k).put _ _ = _; rw [h]; rfl⟩
theorem mapOf_look (ps : List (ByteArray × Int)) (key : ByteArray) : ∀ k,
    (∃ j, j < k ∧ (pk ps j).toList = key.toList ∧ Maps.has (mapOf ps k) (.string key.data.toList) = true ∧ ∀ z, (mapOf ps k).atKey (.string key.data.toList) z = .lit (.int .i64 (pv ps j))) ∨
    ((∀ j, j < k → (pk ps j).toList ≠ key.toList) ∧ Maps.has (mapOf ps k) (.string key.data.toList) = false ∧ ∀ z, (mapOf ps k).atKey (.string key.data.toList) z = z)
  | 0 => .inr ⟨fun j hj => absurd hj (by omega), rfl, fun z => rfl⟩
  | k + 1 => by
    by_cases e : (pk ps k).toList = key.toList
    · left
      have e2 : (pk ps k).data.toList = key.data.toList := by rw [← Lib.toList_data, ← Lib.toList_data]; exact e
      refine ⟨k, Nat.lt_succ_self k, e, ?_, fun z => ?_⟩
      · show Maps.has ((mapOf ps k).put _ _) _ = true
        rw [e2]
        exact has_put_same (k := .string key.data.toList) (mapOf_isMap ps k) (by first | trivial | simp [WideAt.IsKeyLit]) _
      · show ((mapOf ps k).put _ _).atKey _ z = _
        rw [e2]
        exact atKey_put_same (k := .string key.data.toList) (mapOf_isMap ps k) (by first | trivial | simp [WideAt.IsKeyLit]) _ _
    · have hne : (Lit.string key.data.toList) ≠ .string (pk ps k).data.toList := fun h => e (by
        injection h with h
        rw [Lib.toList_data, Lib.toList_data]; exact h.symm)
      rcases mapOf_look ps key k with ⟨j, hj, h1, h2, h3⟩ | ⟨h1, h2, h3⟩
      · refine .inl ⟨j, by omega, h1, ?_, fun z => ?_⟩
        · show Maps.has ((mapOf ps k).put _ _) _ = true
          rw [has_put_other hne]; exact h2
        · show ((mapOf ps k).put _ _).atKey _ z = _
          rw [atKey_put_other hne]; exact h3 z
      · refine .inr ⟨fun j hj => ?_, ?_, fun z => ?_⟩
        · by_cases ej : j = k
          · subst ej; exact e
          · exact h1 j (by omega)
        · show Maps.has ((mapOf ps k).put _ _) _ = false
          rw [has_put_other hne]; exact h2
        · show ((mapOf ps k).put _ _).atKey _ z = _
          rw [atKey_put_other hne]; exact h3 z
theorem mapOf_find {ps : List (ByteArray × Int)} {key : ByteArray} {c m : Int} {r : Bool} (hs : storeOk ps = true) (hf : findP ps key = (m, r)) (hc : (mapOf ps ps.length).atKey (.string key.data.toList) (.lit (.int .i64 0)) = .lit (.int .i64 c)) :
    c = m ∧ Maps.has (mapOf ps ps.length) (.string key.data.toList) = r := by
  rcases mapOf_look ps key ps.length with ⟨j, hj, h1, h2, h3⟩ | ⟨h1, h2, h3⟩
  · have hp : findP ps key = (pv ps j, true) := findP_at hj (by rw [h1]; simp) fun i hi => by
      rw [beq_eq_false_iff_ne, ← h1]; exact distinct hs hi hj
    rw [hf] at hp
    cases hp
    rw [h3] at hc
    injection hc with hc
    injection hc with _ hc
    exact ⟨hc.symm, h2⟩
  · have hp : findP ps key = (0, false) := findP_none fun j hj => beq_eq_false_iff_ne.2 (h1 j hj)
    rw [hf] at hp
    cases hp
    rw [h3] at hc
    injection hc with hc
    injection hc with _ hc
    exact ⟨hc.symm, h2⟩

theorem zeroInt (w : World) : (zeroValue 3).run Tryz.prog w = .ok (.int .i64 0) w := by kernel_rfl
end Go.Proofs.YtlihmomopofdnaaGreatDoor
