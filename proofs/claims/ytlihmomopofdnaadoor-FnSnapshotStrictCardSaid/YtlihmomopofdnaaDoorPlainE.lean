/-
  StoreApply at a known result; deletes and puts on a store; the draw of a store; StoreEncode at a known text.
-/
import Derived.Test.YtlihmomopofdnaaDoorEncW
import Derived.Test.YtlihmomopofdnaaDoorAppI
import Derived.Test.YtlihmomopofdnaaDoorSame
namespace Go.Proofs.YtlihmomopofdnaaDoor
open Go.RowKit
set_option linter.unusedVariables false

def RetAp (w : World) (zs : List (ByteArray × Int)) (zb : Bool) (e : Ending) (w' : World) : Prop := ∃ v, e = .returned (.tuple #[v, .bool zb]) ∧ PrsO w' w.heap.size w'.heap.size v zs ∧ Below w.heap.size w w'
theorem implApply_eq (v : Value) (ps : List (ByteArray × Int)) (op : Int) (key : ByteArray) (val exp : Int) (zs : List (ByteArray × Int)) (zb : Bool) (w : World) {lo hi : Nat} (h : Prs w lo hi v ps) (hx : ps.length ≤ 1048576) (hks : key.size ≤ maxLen) (hz : applyS ps op key val exp = (zs, zb)) :
    Calls Tryd.prog 21 #[v, .agg #[.int .i64 op, .string key, .int .i64 val, .int .i64 exp]] w (RetAp w zs zb) := by
  have := implStoreApply_any v ps op key val exp w h hx hks
  rw [hz] at this
  exact this
theorem Prs.form {w : World} {lo hi : Nat} {v : Value} {ps : List (ByteArray × Int)} (h : Prs w lo hi v ps) : ∃ a c, v = .slice a ps.length c := by
  obtain ⟨_, _, a, cap, hv, _⟩ := h
  exact ⟨a, cap, hv⟩
theorem applyS_good {ps : List (ByteArray × Int)} (hs : Good ps) (op : Int) (key : ByteArray) (val exp : Int) : applyS ps op key val exp = applyP ps op key val exp := by
  unfold applyS
  rw [ok_of hs]
  rfl
theorem letter_len (k : Nat) : (letter k).size ≤ maxLen := by rw [show (letter k).size = 1 from rfl]; unfold maxLen; omega
theorem letter_isK : ∀ k, k < 6 → isK (letter k) = true := by
  have : ∀ n : Fin 6, isK (letter n.val) = true := by decide +kernel
  exact fun k hk => this ⟨k, hk⟩
theorem letter_all {key : ByteArray} (h : isK key = true) : ∃ k, k < 6 ∧ key = letter k := by
  obtain ⟨c, rfl⟩ := one_byte (isK_size h)
  have hc : ∀ n : Fin 256, isK ⟨#[UInt8.ofNat n.val]⟩ = true → 97 ≤ n.val ∧ n.val ≤ 102 := by decide +kernel
  have h2 := hc ⟨c.toNat, c.toNat_lt⟩ (by simpa using h)
  refine ⟨c.toNat - 97, by have := h2.2; simp at this; omega, ?_⟩
  unfold letter
  have h3 : 97 ≤ c.toNat := h2.1
  rw [show 97 + (c.toNat - 97) = c.toNat by omega]
  simp
theorem del_at {ps : List (ByteArray × Int)} (hs : Good ps) {k : Nat} (hk : k < 6) : ∃ b, applyS ps 2 (letter k) 0 0 = (withoutP ps (letter k), b) := by
  refine ⟨(findP ps (letter k)).2, ?_⟩
  rw [applyS_good hs]
  unfold applyP
  rw [if_pos (letter_isK k hk), if_neg (by decide), if_pos rfl]
/-- the keys below k are gone -/
def gone (k : Nat) (ps : List (ByteArray × Int)) : Prop := ∀ j, j < k → findP ps (letter j) = (0, false)
theorem gone_step {k : Nat} {ps : List (ByteArray × Int)} (h : gone k ps) : gone (k + 1) (withoutP ps (letter k)) := fun j hj => by
  rw [find_without]
  by_cases e : j = k
  · subst e; rw [if_pos (by simp)]
  · split
    · rfl
    · exact h j (by omega)
theorem gone_all {ps : List (ByteArray × Int)} (hs : Good ps) (h : gone 6 ps) : ps = [] := by
  refine store_ext hs ⟨fun p hp => (by cases hp), List.Pairwise.nil⟩ fun key => ?_
  rw [findP_nil]
  cases hf : (findP ps key).2
  · unfold findP at hf ⊢
    split at hf
    · cases hf
    · rfl
  · obtain ⟨p, hp, e⟩ := findP_snd.1 hf
    obtain ⟨k, hk, e2⟩ := letter_all (hs.1 p hp).1
    have e3 := bytes_inj e
    rw [← e3, e2]
    exact h k hk
theorem drop_good {ps : List (ByteArray × Int)} (hs : Good ps) (j : Nat) : Good (ps.drop j) := ⟨fun p hp => hs.1 p (List.mem_of_mem_drop hp), hs.2.drop⟩
theorem put_at {ps : List (ByteArray × Int)} (hs : Good ps) {i : Nat} (hi : i < ps.length) : applyS (ps.drop (i + 1)) 1 (pk ps i) (pv ps i) 0 = (ps.drop i, true) := by
  have h1 := hs.1 _ (List.getElem_mem hi)
  rw [get_eq hi] at h1
  have hg := drop_good hs (i + 1)
  rw [applyS_good hg]
  unfold applyP
  rw [if_pos h1.1, if_pos rfl, if_pos h1.2]
  have e : withP (ps.drop (i + 1)) (pk ps i) (pv ps i) = ps.drop i := by
    refine store_ext (good_with h1.1 h1.2 hg) (drop_good hs i) fun key => ?_
    rw [find_with (pv ps i) h1.1 hg, List.drop_eq_getElem_cons hi, get_eq hi, findP_cons]
    by_cases e : key.toList = (pk ps i).toList
    · rw [if_pos (beq_iff_eq.2 e), if_pos (beq_iff_eq.2 e.symm)]
    · rw [if_neg (fun h => e (beq_iff_eq.1 h)), if_neg (fun h => e (beq_iff_eq.1 h).symm)]
  rw [e]
theorem text_ne (ps : List (ByteArray × Int)) : (textE ps).toList ≠ [] := fun e => by
  unfold textE at e
  rw [Lib.toList_data, data_app] at e
  simp at e
theorem specEncode_eq (v : Value) (ps : List (ByteArray × Int)) (t : ByteArray) (w : World) {lo hi : Nat} (h : Prs w lo hi v ps) (hx : ps.length ≤ 1048576) (ht : encE ps = t) :
    Calls Tryd.prog 18 #[v] w fun e w' => e = .returned (.string t) ∧ Below w.heap.size w w' := by
  subst ht
  exact specEncode_any v ps w h hx
theorem implEncode_eq (v : Value) (ps : List (ByteArray × Int)) (t : ByteArray) (w : World) {lo hi : Nat} (h : Prs w lo hi v ps) (hx : ps.length ≤ 1048576) (ht : encE ps = t) :
    Calls Tryd.prog 16 #[v] w fun e w' => e = .returned (.string t) ∧ Below w.heap.size w w' := by
  subst ht
  exact implEncode_any v ps w h hx
set_option maxRecDepth 100000 in
set_option maxHeartbeats 4000000 in
theorem DrawStoreEncode_any (v : Value) (n : Nat) (w : World) {lo hi : Nat} (h : Bytes w lo hi v n) :
    Calls Tryd.prog 20 #[v] w fun e w' => ∃ sv ps, e = .returned sv ∧ PrsO w' w.heap.size w'.heap.size sv ps ∧ ps.length ≤ 5 ∧ Below w.heap.size w w' := by
  go_enter Tryd.func20, Tryd.ntmps20
  go_wp2_with fail
  refine (open_any v n _ h).mono ?_
  rintro e w1 ⟨rfl, hr1, hb1, hs1⟩
  go_wp2_with fail
  refine (l92Store_any _ 0 _ hr1 (by omega)).mono ?_
  rintro e w2 ⟨sv, ps, rfl, ho, hl, hr2, hk2⟩
  have hs2 := hk2.size
  have hb2 := hb1.trans (hk2.below (Nat.le_refl _) (by omega))
  obtain ⟨a, c, hv⟩ := ho.form
  subst hv
  clear hr1 hr2 hk2 hb1
  go_wp2_with fail
  go_ret
  exact ⟨_, ps, rfl, PrsO.wide ho (by omega) (Nat.le_refl _) (Nat.le_refl _), hl, hb2⟩
end Go.Proofs.YtlihmomopofdnaaDoor
