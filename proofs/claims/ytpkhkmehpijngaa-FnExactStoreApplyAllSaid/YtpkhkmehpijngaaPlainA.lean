/-
  What a command does, said by the look-ups; the contracts of StoreApply at a known result; sameExcept.
-/
import Derived.Test.YtpkhkmehpijngaaAppS
import Derived.Test.YtpkhkmehpijngaaGetJ
import Derived.Test.YtpkhkmehpijngaaSame
namespace Go.Proofs.Ytpkhkmehpijngaa
open Go.RowKit
set_option linter.unusedVariables false

def outF (op : Int) (key : ByteArray) (val exp : Int) (r : Int × Bool) : Int × Bool :=
  if isK key = true then
    if op = 1 then (if isV val = true then (val, true) else r)
    else if op = 2 then (0, false)
    else if op = 3 ∧ isV val = true ∧ r = (exp, true) then (val, true) else r
  else r
def outB (op : Int) (key : ByteArray) (val exp : Int) (r : Int × Bool) : Bool :=
  if isK key = true then
    if op = 1 then isV val
    else if op = 2 then r.2
    else decide (op = 3 ∧ isV val = true ∧ r = (exp, true))
  else false
theorem apply_find {ps : List (ByteArray × Int)} (hs : Good ps) (op : Int) (key : ByteArray) (val exp : Int) (k : ByteArray) :
    findP (applyP ps op key val exp).1 k = if k.toList = key.toList then outF op key val exp (findP ps key) else findP ps k := by
  have hsame : ∀ r : Int × Bool, r = findP ps key → (findP ps k = if k.toList = key.toList then r else findP ps k) := fun r hr => by
    split
    · rename_i e; rw [bytes_inj e, hr]
    · rfl
  have hw : isK key = true → findP (withP ps key val) k = if k.toList = key.toList then (val, true) else findP ps k := fun hk => by
    rw [find_with val hk hs]
    by_cases e : k.toList = key.toList
    · rw [if_pos (beq_iff_eq.2 e), if_pos e]
    · rw [if_neg (fun h => e (beq_iff_eq.1 h)), if_neg e]
  have ho : findP (withoutP ps key) k = if k.toList = key.toList then (0, false) else findP ps k := by
    rw [find_without]
    by_cases e : k.toList = key.toList
    · rw [if_pos (beq_iff_eq.2 e), if_pos e]
    · rw [if_neg (fun h => e (beq_iff_eq.1 h)), if_neg e]
  unfold applyP outF
  by_cases hk : isK key = true
  · rw [if_pos hk, if_pos hk]
    by_cases h1 : op = 1
    · rw [if_pos h1, if_pos h1]
      by_cases hv : isV val = true
      · rw [if_pos hv, if_pos hv]; exact hw hk
      · rw [if_neg hv, if_neg hv]; exact hsame _ rfl
    · rw [if_neg h1, if_neg h1]
      by_cases h2 : op = 2
      · rw [if_pos h2, if_pos h2]; exact ho
      · rw [if_neg h2, if_neg h2]
        by_cases h3 : op = 3 ∧ isV val = true ∧ findP ps key = (exp, true)
        · rw [if_pos h3, if_pos h3]; exact hw hk
        · rw [if_neg h3, if_neg h3]; exact hsame _ rfl
  · rw [if_neg hk, if_neg hk]; exact hsame _ rfl
theorem apply_ok (ps : List (ByteArray × Int)) (op : Int) (key : ByteArray) (val exp : Int) : (applyP ps op key val exp).2 = outB op key val exp (findP ps key) := by
  unfold applyP outB
  by_cases hk : isK key = true
  · rw [if_pos hk, if_pos hk]
    by_cases h1 : op = 1
    · rw [if_pos h1, if_pos h1]
      cases hv : isV val
      · rw [if_neg (by simp)]
      · rw [if_pos rfl]
    · rw [if_neg h1, if_neg h1]
      by_cases h2 : op = 2
      · rw [if_pos h2, if_pos h2]
      · rw [if_neg h2, if_neg h2]
        by_cases h3 : op = 3 ∧ isV val = true ∧ findP ps key = (exp, true)
        · rw [if_pos h3]; exact (decide_eq_true h3).symm
        · rw [if_neg h3]; exact (decide_eq_false h3).symm
  · rw [if_neg hk, if_neg hk]
theorem find_good {ps : List (ByteArray × Int)} (hs : Good ps) {key : ByteArray} {m : Int} (h : findP ps key = (m, true)) : isK key = true ∧ isV m = true := by
  obtain ⟨p, hp, e⟩ := findP_snd.1 (show (findP ps key).2 = true by rw [h])
  have e1 := bytes_inj e
  have h1 := hs.1 p hp
  refine ⟨by rw [← e1]; exact h1.1, ?_⟩
  unfold findP at h
  cases hf : ps.find? (fun p => p.1.toList == key.toList) with
  | none => rw [hf] at h; exact absurd (Prod.mk.inj h).2 (by simp)
  | some x =>
    rw [hf] at h
    have := (Prod.mk.inj h).1
    rw [← this]
    exact (hs.1 x (List.mem_of_find?_eq_some hf)).2
theorem find_false {ps : List (ByteArray × Int)} {key : ByteArray} (h : (findP ps key).2 = false) : findP ps key = (0, false) := by
  unfold findP at h ⊢
  split at h
  · cases h
  · rfl
theorem apply_same {ps : List (ByteArray × Int)} (hs : Good ps) {op : Int} {key : ByteArray} {val exp : Int} (h : (applyP ps op key val exp).2 = false) : (applyP ps op key val exp).1 = ps := by
  refine store_ext (good_apply hs op key val exp) hs fun k => ?_
  rw [apply_find hs]
  rw [apply_ok] at h
  split
  · rename_i e
    rw [bytes_inj e]
    unfold outB at h
    unfold outF
    by_cases hk : isK key = true
    · rw [if_pos hk] at h ⊢
      by_cases h1 : op = 1
      · rw [if_pos h1] at h ⊢
        rw [if_neg (by rw [h]; simp)]
      · rw [if_neg h1] at h ⊢
        by_cases h2 : op = 2
        · rw [if_pos h2] at h ⊢; exact (find_false h).symm
        · rw [if_neg h2] at h ⊢
          rw [if_neg (of_decide_eq_false h)]
    · rw [if_neg hk]
  · rfl

def RetAp (w : World) (zs : List (ByteArray × Int)) (zb : Bool) (e : Ending) (w' : World) : Prop := ∃ v, e = .returned (.tuple #[v, .bool zb]) ∧ PrsO w' w.heap.size w'.heap.size v zs ∧ Below w.heap.size w w'
theorem specApply_eq (v : Value) (ps : List (ByteArray × Int)) (op : Int) (key : ByteArray) (val exp : Int) (zs : List (ByteArray × Int)) (zb : Bool) (w : World) {lo hi : Nat} (h : Prs w lo hi v ps) (hx : ps.length ≤ 1048576) (hz : applyS ps op key val exp = (zs, zb)) :
    Calls Try.prog 15 #[v, .agg #[.int .i64 op, .string key, .int .i64 val, .int .i64 exp]] w (RetAp w zs zb) := by
  have := specStoreApply_any v ps op key val exp w h hx
  rw [hz] at this
  exact this
theorem implApply_eq (v : Value) (ps : List (ByteArray × Int)) (op : Int) (key : ByteArray) (val exp : Int) (zs : List (ByteArray × Int)) (zb : Bool) (w : World) {lo hi : Nat} (h : Prs w lo hi v ps) (hx : ps.length ≤ 1048576) (hks : key.size ≤ maxLen) (hz : applyS ps op key val exp = (zs, zb)) :
    Calls Try.prog 16 #[v, .agg #[.int .i64 op, .string key, .int .i64 val, .int .i64 exp]] w (RetAp w zs zb) := by
  have := implStoreApply_any v ps op key val exp w h hx hks
  rw [hz] at this
  exact this
theorem applyS_good {ps : List (ByteArray × Int)} (hs : Good ps) (op : Int) (key : ByteArray) (val exp : Int) : applyS ps op key val exp = applyP ps op key val exp := by
  unfold applyS
  rw [ok_of hs]
  rfl
theorem getP_good {ps : List (ByteArray × Int)} (hs : Good ps) (key : ByteArray) : getP ps key = findP ps key := by
  unfold getP
  rw [ok_of hs]
  rfl
theorem letter_size (k : Nat) : (letter k).size = 1 := rfl
theorem letter_len (k : Nat) : (letter k).size ≤ maxLen := by rw [letter_size]; unfold maxLen; omega
theorem letter_isK : ∀ k, k < 6 → isK (letter k) = true := by
  have : ∀ n : Fin 6, isK (letter n.val) = true := by decide +kernel
  exact fun k hk => this ⟨k, hk⟩

set_option maxRecDepth 100000 in
set_option maxHeartbeats 8000000 in
theorem sameExcept_any (v1 v2 : Value) (xs ys : List (ByteArray × Int)) (key : ByteArray) (w : World) {l1 h1 l2 h2 : Nat} (i1 : Prs w l1 h1 v1 xs) (i2 : Prs w l2 h2 v2 ys) (g1 : Good xs) (g2 : Good ys)
    (hf : ∀ k : ByteArray, ¬ k.toList = key.toList → findP xs k = findP ys k) :
    Calls Try.prog 25 #[v1, v2, .string key] w fun e w' => e = .returned (.bool true) ∧ Below w.heap.size w w' := by
  have l1' := good_len g1
  have l2' := good_len g2
  obtain ⟨a1, c1, hv1, _⟩ := i1.open
  obtain ⟨a2, c2, hv2, _⟩ := i2.open
  subst hv1
  subst hv2
  have I1 := Lib.hid i1
  have I2 := Lib.hid i2
  have HF := Lib.hid hf
  have HG := Lib.hid (And.intro g1 g2)
  clear i1 i2 hf g1 g2
  go_enter Try.func25, Try.ntmps25
  go_wp2_with fail
  go_loopw [7] (fun i wr => ∃ k : Nat, k ≤ 6 ∧ i = .int .i64 k ∧ Below w.heap.size w wr) (fun i _ => 6 - (intOf i).toNat)
  case atStart => exact ⟨0, Nat.zero_le _, rfl, Below.refl _ _⟩
  case round =>
    obtain ⟨k, hk, rfl, hb⟩ := hrel
    have HB := Lib.hid hb
    by_cases hlt : k < 6
    · have hkm : (k : Int).toNat % 6 = k := by omega
      have j1 := I1.out.below hb
      have j2 := I2.out.below hb
      obtain ⟨m1, r1, e1⟩ : ∃ m r, findP xs (letter k) = (m, r) := ⟨_, _, rfl⟩
      obtain ⟨m2, r2, e2⟩ : ∃ m r, findP ys (letter k) = (m, r) := ⟨_, _, rfl⟩
      have E1 := Lib.hid (show getP xs (letter k) = (m1, r1) by rw [getP_good HG.out.1, e1])
      have E2 := Lib.hid (show getP ys (letter k) = (m2, r2) by rw [getP_good HG.out.2, e2])
      have HQ : Hid (¬ (letter k).toList = key.toList → m1 = m2 ∧ r1 = r2) := fun h => by
        have := HF.out _ h
        rw [e1, e2] at this
        exact Prod.mk.inj this
      have HLL := Lib.hid (letter_len k)
      have HKO : Hid (∀ wx, Calls Try.prog 19 #[.int .i64 (k : Int)] wx fun e w' => e = .returned (.string (letter k)) ∧ wx = w') := Lib.hid fun wx => by
        have := keyOf_any (k : Int) wx (by omega) (by omega)
        rwa [hkm] at this
      clear e1 e2 hb hkm
      generalize letter k = s at *
      go_wp2_with fail
      refine (HKO.out _).mono ?_
      rintro e w1 ⟨rfl, rfl⟩
      as_aux_lemma =>
        go_wp2_with fail
        refine (implStoreGet_any _ xs s _ j1 (by omega) HLL.out m1 r1 E1.out).mono ?_
        rintro e w2 ⟨rfl, hb2⟩
        replace j2 := j2.below hb2
        have HB2 := Lib.hid (below_step HB.out hb2 HB.out.size)
        clear j1 hb2
        as_aux_lemma =>
          go_wp2_with fail
          refine (HKO.out _).mono ?_
          rintro e w3 ⟨rfl, rfl⟩
          go_wp2_with fail
          refine (implStoreGet_any _ ys s _ j2 (by omega) HLL.out m2 r2 E2.out).mono ?_
          rintro e w3 ⟨rfl, hb3⟩
          have HB3 := Lib.hid (below_step HB2.out hb3 HB2.out.size)
          clear j2 hb3
          as_aux_lemma =>
            go_wp2_with fail
            refine (HKO.out _).mono ?_
            rintro e w4 ⟨rfl, rfl⟩
            by_cases hq : s.toList = key.toList
            · have hqb : (s.toList != key.toList) = false := by simp [hq]
              go_wp2_with fail
              go_roundw
              case rel => exact ⟨k + 1, by omega, by go_num, HB3.out⟩
              case measure => simp [intOf]; omega
            · obtain ⟨rfl, rfl⟩ := HQ.out hq
              have hqb : (s.toList != key.toList) = true := by simp [hq]
              have hmm : (m1 != m1) = false := by simp
              have hrr : (r1 != r1) = false := by cases r1 <;> rfl
              go_wp2_with fail
              go_roundw
              case rel => exact ⟨k + 1, by omega, by go_num, HB3.out⟩
              case measure => simp [intOf]; omega
    · clear hb
      go_wp2_with fail
      go_ret
      exact ⟨rfl, HB.out⟩
end Go.Proofs.Ytpkhkmehpijngaa
