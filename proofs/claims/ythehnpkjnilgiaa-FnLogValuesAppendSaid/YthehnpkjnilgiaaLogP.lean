/-
  Plain facts on logs: what an entry more does to validity, configurations and values.
-/
import Derived.Test.YthehnpkjnilgiaaLogK
namespace Go.Proofs.Ythehnpkjnilgiaa
open Go.RowKit
set_option linter.unusedVariables false

theorem ec_snoc {es : List (Int × Int)} {x : Int × Int} {k : Nat} (h : k < es.length) : ec (es ++ [x]) k = ec es k ∧ ev (es ++ [x]) k = ev es k := by
  simp [ec, ev, List.getD, List.getElem?_append_left h]
theorem ec_last (es : List (Int × Int)) (v c : Int) : ec (es ++ [(v, c)]) es.length = c ∧ ev (es ++ [(v, c)]) es.length = v := by
  simp [ec, ev, List.getD]
theorem cfg_snoc {es : List (Int × Int)} {x : Int × Int} : ∀ k, k ≤ es.length → cfg (es ++ [x]) k = cfg es k
  | 0, _ => rfl
  | k + 1, h => by
    unfold cfg
    rw [(ec_snoc (x := x) (by omega)).1, cfg_snoc k (by omega)]
theorem valTo_snoc {es : List (Int × Int)} {x : Int × Int} : ∀ k, k ≤ es.length → valTo (es ++ [x]) k = valTo es k
  | 0, _ => rfl
  | k + 1, h => by
    unfold valTo
    rw [(ec_snoc (x := x) (by omega)).1, (ec_snoc (x := x) (by omega)).2, valTo_snoc k (by omega)]
theorem logTo_snoc {n : Int} {es : List (Int × Int)} {x : Int × Int} : ∀ k, k ≤ es.length → logTo n (es ++ [x]) k = logTo n es k
  | 0, _ => rfl
  | k + 1, h => by
    unfold logTo
    rw [(ec_snoc (x := x) (by omega)).1, (ec_snoc (x := x) (by omega)).2, logTo_snoc k (by omega)]
theorem valid_snoc {n v c : Int} {es : List (Int × Int)} (h : logValid n es = true) (ho : okE n v c = true) (hl : es.length ≠ 12) : logValid n (es ++ [(v, c)]) = true := by
  have hlen := valid_len h
  unfold logValid at h ⊢
  rw [Bool.and_eq_true] at h ⊢
  refine ⟨?_, ?_⟩
  · unfold headOk
    rw [inB_mk hlen.2.1 hlen.2.2]
    simp
    omega
  · rw [List.length_append, show es.length + [(v, c)].length = es.length + 1 from rfl]
    unfold logTo
    rw [logTo_snoc _ (Nat.le_refl _), (ec_last es v c).1, (ec_last es v c).2, h.2, ho]
    rfl
theorem appB {n v c : Int} {es : List (Int × Int)} (h : appendB n es v c = true) : logValid n es = true ∧ okE n v c = true ∧ es.length ≠ 12 ∧ appendL n es v c = es ++ [(v, c)] ∧ logValid n (es ++ [(v, c)]) = true := by
  unfold appendB at h
  simp only [Bool.and_eq_true, decide_eq_true_eq] at h
  refine ⟨h.1.1, h.1.2, h.2, ?_, valid_snoc h.1.1 h.1.2 h.2⟩
  unfold appendL
  rw [h.1.1, h.1.2]
  simp [h.2]
theorem log_stable {n v c slot m : Int} {es : List (Int × Int)} (hm : logConfig n es slot = m) (h0 : m ≠ 0) (hv : logValid n (es ++ [(v, c)]) = true) : logConfig n (es ++ [(v, c)]) slot = m := by
  unfold logConfig at hm ⊢
  split at hm
  · rename_i h
    rw [Bool.and_eq_true] at h
    have hr := inB_true h.2
    rw [hv, inB_mk hr.1 (by simp; omega), ← hm]
    simp only [Bool.and_self, if_true]
    unfold cfgAt
    rw [cfg_snoc _ (by simp; omega)]
    congr 1
    simp
    omega
  · exact absurd hm.symm h0
theorem cfg_range {n : Int} {es : List (Int × Int)} (hv : logValid n es = true) : ∀ k, k ≤ es.length → 1 ≤ cfg es k ∧ cfg es k ≤ n
  | 0, _ => by have := (valid_len hv).2; exact ⟨by simp [cfg], by simp [cfg]; omega⟩
  | k + 1, h => by
    unfold cfg
    have := okE_cases (valid_all hv k (by omega))
    split
    · omega
    · exact cfg_range hv k (by omega)
theorem open_shift {n c : Int} {es : List (Int × Int)} (h : logValid n es = true) (h2 : logValid n (es ++ [(0, c)]) = true) (hc : 0 < c) :
    ∃ p q, openL n es = [p, q] ∧ openL n (es ++ [(0, c)]) = [q, c] := by
  have e0 : ∀ xs : List (Int × Int), openTo xs 2 = [cfgAt xs ((xs.length : Int) + (0 : Nat)), cfgAt xs ((xs.length : Int) + (1 : Nat))] := fun _ => rfl
  have hl : (es ++ [((0 : Int), c)]).length = es.length + 1 := by simp
  refine ⟨cfgAt es ((es.length : Int) + (0 : Nat)), cfgAt es ((es.length : Int) + (1 : Nat)), by unfold openL; rw [h, if_pos rfl, e0], ?_⟩
  unfold openL
  rw [h2, if_pos rfl, e0, hl]
  have e1 : cfgAt (es ++ [((0 : Int), c)]) (((es.length + 1 : Nat) : Int) + (0 : Nat)) = cfgAt es ((es.length : Int) + (1 : Nat)) := by
    unfold cfgAt
    rw [hl, show min (es.length + 1) (((es.length + 1 : Nat) : Int) + (0 : Nat) - 1).toNat = es.length by omega, show min es.length ((es.length : Int) + (1 : Nat) - 1).toNat = es.length by omega]
    exact cfg_snoc _ (Nat.le_refl _)
  have e2 : cfgAt (es ++ [((0 : Int), c)]) (((es.length + 1 : Nat) : Int) + (1 : Nat)) = c := by
    unfold cfgAt
    rw [hl, show min (es.length + 1) (((es.length + 1 : Nat) : Int) + (1 : Nat) - 1).toNat = es.length + 1 by omega]
    unfold cfg
    rw [(ec_last es 0 c).1, if_pos hc]
  rw [e1, e2]
theorem values_snoc {n v c : Int} {es : List (Int × Int)} (h : logValid n es = true) (h2 : logValid n (es ++ [(v, c)]) = true) :
    valuesL n (es ++ [(v, c)]) = if c == 0 then valuesL n es ++ [v] else valuesL n es := by
  unfold valuesL
  rw [h, h2, List.length_append, show es.length + [(v, c)].length = es.length + 1 from rfl, if_pos rfl, if_pos rfl]
  show (if ec (es ++ [(v, c)]) es.length == 0 then valTo (es ++ [(v, c)]) es.length ++ [ev (es ++ [(v, c)]) es.length] else valTo (es ++ [(v, c)]) es.length) = _
  rw [(ec_last es v c).1, (ec_last es v c).2, valTo_snoc _ (Nat.le_refl _)]
end Go.Proofs.Ythehnpkjnilgiaa
