/-
  The walks of the exact laws' toCommandS, eqCommandS, szCommandS, eqBoolS, markBoolS, heldBoolS; the reading of a law's commands.
-/
import Derived.Test.YtpkhkmehpijngaaCmdV
import Derived.Deep.RegionHeld3
namespace Go.Proofs.Ytpkhkmehpijngaa
open Go.RowKit
set_option linter.unusedVariables false

def RetCms (w : World) (cs : List CT) (e : Ending) (w' : World) : Prop := ∃ v, e = .returned v ∧ CmsO w' w.heap.size w'.heap.size v cs ∧ Below w.heap.size w w'
theorem flat_set4 {cs : List CT} {fl : List Value} {k : Nat} {x : CT} (hx : cs[k]? = some x) (hl : fl.length = cs.length * 4) (h : ∀ j, j < k * 4 → fl[j]? = (flat encC cs)[j]?) :
    ∀ j, j < (k + 1) * 4 → ((((fl.set (k * 4 + 0) (.int .i64 x.1)).set (k * 4 + 1) (.string x.2.1)).set (k * 4 + 2) (.int .i64 x.2.2.1)).set (k * 4 + 3) (.int .i64 x.2.2.2))[j]? = (flat encC cs)[j]? := fun j hj => by
  have hk : k < cs.length := (List.getElem?_eq_some_iff.1 hx).1
  have hg := flat_get encC cs k x hx
  by_cases h0 : j < k * 4
  · rw [List.getElem?_set_ne (by omega), List.getElem?_set_ne (by omega), List.getElem?_set_ne (by omega), List.getElem?_set_ne (by omega)]
    exact h j h0
  · have h4 : j = k * 4 + 0 ∨ j = k * 4 + 1 ∨ j = k * 4 + 2 ∨ j = k * 4 + 3 := by omega
    rcases h4 with rfl | rfl | rfl | rfl
    · rw [List.getElem?_set_ne (by omega), List.getElem?_set_ne (by omega), List.getElem?_set_ne (by omega), List.getElem?_set_self (by omega)]
      exact (hg 0 (by decide)).symm
    · rw [List.getElem?_set_ne (by omega), List.getElem?_set_ne (by omega), List.getElem?_set_self (by rw [List.length_set]; omega)]
      exact (hg 1 (by decide)).symm
    · rw [List.getElem?_set_ne (by omega), List.getElem?_set_self (by rw [List.length_set, List.length_set]; omega)]
      exact (hg 2 (by decide)).symm
    · rw [List.getElem?_set_self (by rw [List.length_set, List.length_set, List.length_set]; omega)]
      exact (hg 3 (by decide)).symm

set_option maxRecDepth 100000 in
set_option maxHeartbeats 4000000 in
theorem toCommandS_any (v : Value) (cs : List CT) (w : World) {lo hi : Nat} (h : Cms w lo hi v cs) (hx : cs.length ≤ 1048576) :
    Calls Try.prog 34 #[v] w (RetCms w cs) := by
  obtain ⟨a, cap, rfl, hn, hcell⟩ := Recs.open elLawC h
  have HCELL := Lib.hid hcell; clear hcell
  go_enter Try.func34, Try.ntmps34
  go_wp2_with (at_make; refine wpl_make elCmd rfl _ _ rfl .i64 .i64 _ _ cs.length rfl rfl rfl rfl (by omega) (by unfold maxLen; omega) ?_; intro w1 hown hgr)
  generalize (madeCells _ _).toList = fl0 at hown
  obtain ⟨a2, c2, hv2, _, hcell2⟩ := own4 hown
  cases hv2
  have HC2 := Lib.hid hcell2
  have HOWN := Lib.hid hown
  have HGR := Lib.hid hgr
  have hsz := hgr.size
  clear hcell2 hown hgr
  go_wp2_with fail
  go_loopw [4] (fun i wr => ∃ k : Nat, k ≤ cs.length ∧ i = .int .i64 k ∧ Hid (Keep w.heap.size w1.heap.size w1 wr) ∧
      Hid (∃ fl, Own wr w.heap.size w1.heap.size 25 (.slice (some ⟨w.heap.size, 0, none⟩) cs.length cs.length) cs.length 4 fl ∧ ∀ j, j < k * 4 → fl[j]? = (flat encC cs)[j]?)) (fun i _ => cs.length - (intOf i).toNat)
  case atStart => exact ⟨0, Nat.zero_le _, rfl, Lib.hid (Keep.refl _ _ _), Lib.hid ⟨_, HOWN.out, fun j hj => absurd hj (by omega)⟩⟩
  case round =>
    obtain ⟨k, hk, rfl, HK, HO⟩ := hrel
    by_cases hlt : k < cs.length
    · obtain ⟨⟨op, key, val, exp⟩, hck⟩ : ∃ c, cs[k]? = some c := ⟨_, List.getElem?_eq_getElem hlt⟩
      obtain ⟨b, o, hp1, hp2, hi', hst⟩ := HC2.out k hlt
      obtain ⟨b', o', _, _, hj', hd⟩ := HCELL.out k _ hck
      obtain ⟨q0, q1, q2, q3⟩ := cmd_cells hd
      have hix := hi' k rfl
      have hjx := hj' k rfl
      have HBW := Lib.hid (HGR.out.trans (HK.out.below (B := w.heap.size) (Nat.le_refl _) hsz))
      have d0 : wr.cell? ⟨b', o', none⟩ = some (.int .i64 op) := below_cell HBW.out q0
      have d1 : wr.cell? ⟨b', o' + 1, none⟩ = some (.string key) := below_cell HBW.out q1
      have d2 : wr.cell? ⟨b', o' + 2, none⟩ = some (.int .i64 val) := below_cell HBW.out q2
      have d3 : wr.cell? ⟨b', o' + 3, none⟩ = some (.int .i64 exp) := below_cell HBW.out q3
      have HP := Lib.hid (And.intro hp1 hp2)
      have HST := Lib.hid hst
      have HCK := Lib.hid hck
      clear hi' hj' hd q0 q1 q2 q3 hp1 hp2 hst hck
      go_wp2_with fail
      refine (toCommand_any op key val exp _).mono ?_
      rintro e w2 ⟨rfl, hb2⟩
      obtain ⟨fl, hO, hfl⟩ := HO.out
      have hO2 := Own.below hO hb2
      obtain ⟨⟨⟨u0, u1, u2, u3, r0, r1, r2, r3⟩, f0, f1, f2, f3⟩, hset⟩ := HST.out w2 _ hO2
      have hO3 := hset 0 (.int .i64 op) (by omega)
      have hO4 := (HST.out _ _ hO3).2 1 (.string key) (by omega)
      have hO5 := (HST.out _ _ hO4).2 2 (.int .i64 val) (by omega)
      have hO6 := (HST.out _ _ hO5).2 3 (.int .i64 exp) (by omega)
      have HO6 : Hid (∃ fl, Own ((((w2.setCell ⟨b, o, none⟩ (.int .i64 op)).setCell ⟨b, o + 1, none⟩ (.string key)).setCell ⟨b, o + 2, none⟩ (.int .i64 val)).setCell ⟨b, o + 3, none⟩ (.int .i64 exp)) w.heap.size w1.heap.size 25 (.slice (some ⟨w.heap.size, 0, none⟩) cs.length cs.length) cs.length 4 fl ∧ ∀ j, j < (k + 1) * 4 → fl[j]? = (flat encC cs)[j]?) :=
        Lib.hid ⟨_, hO6, flat_set4 HCK.out hO.1.1 hfl⟩
      have HK6 := Lib.hid (keep_setCell (p := ⟨b, o + 3, none⟩) (keep_setCell (p := ⟨b, o + 2, none⟩) (keep_setCell (p := ⟨b, o + 1, none⟩) (keep_setCell (p := ⟨b, o, none⟩) (HK.out.trans (Keep.of_below hb2 _ _)) HP.out.1 HP.out.2 (.int .i64 op)) HP.out.1 HP.out.2 (.string key)) HP.out.1 HP.out.2 (.int .i64 val)) HP.out.1 HP.out.2 (.int .i64 exp))
      clear hb2 hO hfl hO2 hset hO3 hO4 hO5 hO6 d0 d1 d2 d3 hjx
      as_aux_lemma =>
        go_wp2_with fail
        go_roundw
        case rel => exact ⟨k + 1, by omega, by go_num, HK6, HO6⟩
        case measure => simp [intOf]; omega
    · have HE := Lib.hid (show k = cs.length by omega)
      go_wp2_with fail
      go_ret
      obtain ⟨fl, hO, hfl⟩ := HO.out
      have hll : fl.length = cs.length * 4 := hO.1.1
      have e : fl = flat encC cs := by
        refine List.ext_getElem? fun j => ?_
        by_cases hj : j < k * 4
        · exact hfl j hj
        · rw [HE.out] at hj
          rw [List.getElem?_eq_none (by omega), List.getElem?_eq_none (by rw [flat_len]; show cs.length * 4 ≤ j; omega)]
      rw [e] at hO
      exact ⟨_, rfl, CmsO.wide (show CmsO _ _ _ _ _ from hO) (Nat.le_refl _) HK.out.size (Nat.le_refl _), HGR.out.trans (HK.out.below (B := w.heap.size) (Nat.le_refl _) hsz)⟩

set_option maxHeartbeats 1000000 in
theorem eqCommand_same (op : Int) (a : ByteArray) (val exp : Int) (w : World) :
    Calls Try.prog 54 #[.agg #[.int .i64 op, .string a, .int .i64 val, .int .i64 exp], .agg #[.int .i64 op, .string a, .int .i64 val, .int .i64 exp]] w fun e w' => e = .returned (.bool true) ∧ Below w.heap.size w w' := by
  go_enter Try.func54, Try.ntmps54
  go_wp2
  go_ret
  exact ⟨rfl, ((Below.refl _ _).alloc (Nat.le_refl _) _).alloc (by simp) _⟩

set_option maxRecDepth 100000 in
set_option maxHeartbeats 4000000 in
theorem eqCommandS_same (v1 v2 : Value) (cs : List CT) (w : World) {l1 h1 l2 h2 : Nat} (i1 : Cms w l1 h1 v1 cs) (i2 : Cms w l2 h2 v2 cs) :
    Calls Try.prog 36 #[v1, v2] w fun e w' => e = .returned (.bool true) ∧ Below w.heap.size w w' := by
  obtain ⟨a1, c1, rfl, hn1, hcell1⟩ := Recs.open elCmd i1
  obtain ⟨a2, c2, rfl, hn2, hcell2⟩ := Recs.open elCmd i2
  have HC1 := Lib.hid hcell1
  have HC2 := Lib.hid hcell2
  clear hcell1 hcell2
  go_enter Try.func36, Try.ntmps36
  go_wp2_with fail
  go_loopw [5] (fun i wr => ∃ k : Nat, k ≤ cs.length ∧ i = .int .i64 k ∧ Below w.heap.size w wr) (fun i _ => cs.length - (intOf i).toNat)
  case atStart => exact ⟨0, Nat.zero_le _, rfl, Below.refl _ _⟩
  case round =>
    obtain ⟨k, hk, rfl, hb⟩ := hrel
    have hsz := hb.size
    by_cases hlt : k < cs.length
    · obtain ⟨⟨op, key, val, exp⟩, hck⟩ : ∃ c, cs[k]? = some c := ⟨_, List.getElem?_eq_getElem hlt⟩
      obtain ⟨b, o, _, _, hi, hd⟩ := HC1.out k _ hck
      obtain ⟨b', o', _, _, hj, hd'⟩ := HC2.out k _ hck
      obtain ⟨q0, q1, q2, q3⟩ := cmd_cells hd
      obtain ⟨p0, p1, p2, p3⟩ := cmd_cells hd'
      have hix := hi k rfl
      have hiy := hj k rfl
      have d0 : wr.cell? ⟨b, o, none⟩ = some (.int .i64 op) := below_cell hb q0
      have d1 : wr.cell? ⟨b, o + 1, none⟩ = some (.string key) := below_cell hb q1
      have d2 : wr.cell? ⟨b, o + 2, none⟩ = some (.int .i64 val) := below_cell hb q2
      have d3 : wr.cell? ⟨b, o + 3, none⟩ = some (.int .i64 exp) := below_cell hb q3
      have g0 : wr.cell? ⟨b', o', none⟩ = some (.int .i64 op) := below_cell hb p0
      have g1 : wr.cell? ⟨b', o' + 1, none⟩ = some (.string key) := below_cell hb p1
      have g2 : wr.cell? ⟨b', o' + 2, none⟩ = some (.int .i64 val) := below_cell hb p2
      have g3 : wr.cell? ⟨b', o' + 3, none⟩ = some (.int .i64 exp) := below_cell hb p3
      have hd0 : Below wr.heap.size wr wr.drew := (Below.refl _ _).drew
      have HB := Lib.hid hb
      clear hi hj hd hd' q0 q1 q2 q3 p0 p1 p2 p3 hck hb
      go_wp2_with fail
      go_region_held3 (fun w' => w'.cell? ⟨b, o, none⟩ = some (.int .i64 op) ∧ w'.cell? ⟨b, o + 1, none⟩ = some (.string key) ∧ w'.cell? ⟨b, o + 2, none⟩ = some (.int .i64 val) ∧ w'.cell? ⟨b, o + 3, none⟩ = some (.int .i64 exp) ∧ w'.cell? ⟨b', o', none⟩ = some (.int .i64 op) ∧ w'.cell? ⟨b', o' + 1, none⟩ = some (.string key) ∧ w'.cell? ⟨b', o' + 2, none⟩ = some (.int .i64 val) ∧ w'.cell? ⟨b', o' + 3, none⟩ = some (.int .i64 exp) ∧ Below wr.heap.size wr w')
        (first
          | exact ⟨d0, d1, d2, d3, g0, g1, g2, g3, hd0⟩
          | exact ⟨below_cell hb4 d0, below_cell hb4 d1, below_cell hb4 d2, below_cell hb4 d3, below_cell hb4 g0, below_cell hb4 g1, below_cell hb4 g2, below_cell hb4 g3, hb4⟩
          | (go_split_ands; refine ⟨?_, ?_, ?_, ?_, ?_, ?_, ?_, ?_, ?_⟩ <;> assumption))
        ((go_at_call 54; refine (eqCommand_same _ _ _ _ _).mono ?_; rintro e w4 ⟨rfl, hb3⟩; have hb4 := below_step hd0 hb3 (Nat.le_refl _)))
      all_goals
        have HB4 := Lib.hid (below_step HB.out hb4 HB.out.size)
        clear hb4 hd0 d0 d1 d2 d3 g0 g1 g2 g3
        go_wp2_with fail
        go_roundw
      all_goals first | exact ⟨k + 1, by omega, by go_num, HB4.out⟩ | (simp [intOf]; omega)
    · go_wp2_with fail
      go_ret
      exact ⟨rfl, hb⟩

set_option maxRecDepth 100000 in
set_option maxHeartbeats 4000000 in
theorem szCommandS_any (v : Value) (cs : List CT) (l0 : Int) (w : World) {lo hi : Nat} (h : Cms w lo hi v cs) (hz : ∀ c ∈ cs, ByteArray.size c.2.1 ≤ maxLen) (l00 : 0 ≤ l0) (l01 : l0 ≤ 1048576) :
    Calls Try.prog 33 #[v, .int .i64 l0] w (RetSz w cs.length) := by
  obtain ⟨a, cap, rfl, hn, hcell⟩ := Recs.open elLawC h
  have HCELL := Lib.hid hcell
  have HZ := Lib.hid hz
  clear hcell hz
  have hw0 : IntKind.i64.wrap (l0 - (cs.length : Int)) = l0 - (cs.length : Int) := IntWalk.i64_in _ ⟨by omega, by omega⟩
  by_cases hl : (cs.length : Int) ≤ l0
  · have hlt0 : ¬ (l0 - (cs.length : Int) < 0) := by omega
    go_enter Try.func33, Try.ntmps33
    go_wp2_with fail
    go_loopw [1, 5] (fun l i wr => ∃ (k : Nat) (m : Int), k ≤ cs.length ∧ i = .int .i64 k ∧ l = .int .i64 m ∧ 0 ≤ m ∧ m ≤ 1048576 ∧ Below w.heap.size w wr) (fun _ i _ => cs.length - (intOf i).toNat)
    case atStart => exact ⟨0, _, Nat.zero_le _, rfl, rfl, by omega, by omega, Below.refl _ _⟩
    case round =>
      obtain ⟨k, m, hk, rfl, rfl, m0, m1, hb⟩ := hrel
      have hsz := hb.size
      by_cases hlt : k < cs.length
      · obtain ⟨⟨op, key, val, exp⟩, hck⟩ : ∃ c, cs[k]? = some c := ⟨_, List.getElem?_eq_getElem hlt⟩
        obtain ⟨b, o, _, _, hi, hd⟩ := HCELL.out k _ hck
        obtain ⟨q0, q1, q2, q3⟩ := cmd_cells hd
        have hix := hi k rfl
        have d0 : wr.cell? ⟨b, o, none⟩ = some (.int .i64 op) := below_cell hb q0
        have d1 : wr.cell? ⟨b, o + 1, none⟩ = some (.string key) := below_cell hb q1
        have d2 : wr.cell? ⟨b, o + 2, none⟩ = some (.int .i64 val) := below_cell hb q2
        have d3 : wr.cell? ⟨b, o + 3, none⟩ = some (.int .i64 exp) := below_cell hb q3
        have hzk : key.size ≤ maxLen := HZ.out _ (List.mem_of_getElem? hck)
        have HZK := Lib.hid hzk
        have HB := Lib.hid hb
        clear hi hd q0 q1 q2 q3 hck hzk hb
        by_cases hle : (key.size : Int) ≤ m
        · have hnn : ¬ (m - (key.size : Int) < 0) := by omega
          go_wp2_with fail
          refine (szCommand_any _ _ _ _ m _ _ HZK.out m0 m1 (if_pos hle)).mono ?_
          rintro e w2 ⟨rfl, hb2⟩
          go_wp2_with fail
          go_roundw
          case rel => exact ⟨k + 1, _, by omega, by go_num, rfl, by omega, by omega, below_step HB.out hb2 hsz⟩
          case measure => simp [intOf]; omega
        · go_wp2_with fail
          refine (szCommand_any _ _ _ _ m _ _ HZK.out m0 m1 (if_neg (by omega))).mono ?_
          rintro e w2 ⟨rfl, hb2⟩
          go_wp2_with fail
          go_ret
          exact ⟨-1, rfl, .inl rfl, below_step HB.out hb2 hsz⟩
      · go_wp2_with fail
        go_ret
        exact ⟨m, rfl, .inr ⟨m0, by omega, m1⟩, hb⟩
  · have hlt0 : (l0 - (cs.length : Int) < 0) := by omega
    go_enter Try.func33, Try.ntmps33
    go_wp2_with fail
    go_ret
    exact ⟨-1, rfl, .inl rfl, Below.refl _ _⟩

/-! ### bools -/
def mbool (q : Int) : Bool := q % 3 == 0
def marksB (k : Int) (n : Nat) : List Bool := (List.range n).map fun (i : Nat) => mbool (k + (i : Int))
theorem marksB_len (k : Int) (n : Nat) : (marksB k n).length = n := by simp [marksB]
theorem marksB_get {k : Int} {n j : Nat} (h : j < n) : (marksB k n)[j]? = some (mbool (k + (j : Int))) := by simp [marksB, h]
theorem flatB (bs : List Bool) : flat encB bs = bs.map Value.bool := by
  induction bs with
  | nil => rfl
  | cons x r ih => show encB.enc x ++ flat encB r = _; rw [ih]; rfl

set_option maxRecDepth 100000 in
set_option maxHeartbeats 4000000 in
theorem markBoolS_any (v : Value) (bs : List Bool) (k0 : Int) (w : World) {lo hi : Nat} (h : BsO w lo hi v bs) (h0 : 0 ≤ k0) (h1 : k0 + bs.length ≤ 1000000000) :
    Calls Try.prog 38 #[v, .int .i64 k0] w fun e w' => e = .returned (.int .i64 (k0 + bs.length)) ∧ BsO w' lo hi v (marksB k0 bs.length) ∧ Keep lo hi w w' := by
  have hO0 : Own w lo hi 4 v bs.length 1 (flat encB bs) := h
  generalize flat encB bs = fl0 at *
  generalize bs.length = n at *
  clear h
  obtain ⟨a, cap, rfl, hn, hcell⟩ := Own.cell elBool hO0
  have HCELL := Lib.hid hcell; clear hcell
  go_enter Try.func38, Try.ntmps38
  go_wp2_with fail
  go_loopw [1, 5] (fun q i wr => ∃ k : Nat, k ≤ n ∧ i = .int .i64 k ∧ q = .int .i64 (k0 + k) ∧ Hid (Keep lo hi w wr) ∧ Hid (∃ fl, Own wr lo hi 4 (.slice a n cap) n 1 fl ∧ ∀ j, j < k → fl[j]? = some (.bool (mbool (k0 + (j : Int)))))) (fun _ i _ => n - (intOf i).toNat)
  case atStart => exact ⟨0, Nat.zero_le _, rfl, by simp, Lib.hid (Keep.refl _ _ _), Lib.hid ⟨_, hO0, fun j hj => absurd hj (by omega)⟩⟩
  case round =>
    obtain ⟨k, hk, rfl, rfl, HK, HO⟩ := hrel
    by_cases hlt : k < n
    · obtain ⟨b, o, hp1, hp2, hi', hst⟩ := HCELL.out k hlt
      have hix := hi' k rfl
      obtain ⟨fl, hO, hfl⟩ := HO.out
      have hll : fl.length = n * 1 := hO.1.1
      obtain ⟨r0', f0, hset⟩ := hst 0 (by omega) wr fl hO
      have r0 : wr.cell? ⟨b, o, none⟩ = some (fl[k * 1 + 0]'(by omega)) := r0'.trans (List.getElem?_eq_getElem _)
      have f0' : wr.frozen? ⟨b, o, none⟩ = false := f0
      have hz : ((3 : Int) == 0) = false := rfl
      have HO1 : Hid (∃ fl, Own (wr.setCell ⟨b, o, none⟩ (.bool (mbool (k0 + (k : Int))))) lo hi 4 (.slice a n cap) n 1 fl ∧ ∀ j, j < k + 1 → fl[j]? = some (.bool (mbool (k0 + (j : Int))))) := Lib.hid ⟨_, hset (.bool (mbool (k0 + (k : Int)))), fun j hj => by
        rw [show k * 1 + 0 = k by omega]
        by_cases e : j = k
        · subst e; rw [List.getElem?_set_self (by omega)]
        · rw [List.getElem?_set_ne (by omega)]; exact hfl j (by omega)⟩
      have HK1 := Lib.hid (keep_setCell (p := ⟨b, o, none⟩) HK.out hp1 hp2 (.bool (mbool (k0 + (k : Int)))))
      generalize (fl[k * 1 + 0]'(by omega)) = u0 at *
      clear hi' hst hp1 hp2 hO hset hfl hll r0' f0
      replace HO1 : Hid (∃ fl, Own (wr.setCell ⟨b, o, none⟩ (.bool ((k0 + (k : Int)) % 3 == 0))) lo hi 4 (.slice a n cap) n 1 fl ∧ ∀ j, j < k + 1 → fl[j]? = some (.bool (mbool (k0 + (j : Int))))) := HO1
      replace HK1 : Hid (Keep lo hi w (wr.setCell ⟨b, o, none⟩ (.bool ((k0 + (k : Int)) % 3 == 0)))) := HK1
      go_wp2_with fail
      go_roundw
      case rel => exact ⟨k + 1, by omega, by go_num, congrArg (Value.int .i64) (by omega), HK1, HO1⟩
      case measure => simp [intOf]; omega
    · have HE := Lib.hid (show k = n by omega)
      go_wp2_with fail
      go_ret
      obtain ⟨fl, hO, hfl⟩ := HO.out
      have hll : fl.length = n * 1 := hO.1.1
      have e : fl = flat encB (marksB k0 n) := by
        rw [flatB]
        refine List.ext_getElem? fun j => ?_
        by_cases hj : j < n
        · rw [List.getElem?_map, marksB_get hj, hfl j (by rw [HE.out]; exact hj)]
          rfl
        · rw [List.getElem?_eq_none (by omega), List.getElem?_eq_none (by rw [List.length_map, marksB_len]; omega)]
      rw [e] at hO
      refine ⟨ret_int (by rw [HE.out]), ?_, HK.out⟩
      unfold BsO RecsO
      rw [marksB_len]
      exact hO

set_option maxRecDepth 100000 in
set_option maxHeartbeats 4000000 in
theorem heldBoolS_any (v : Value) (n : Nat) (k0 : Int) (w : World) {lo hi : Nat} (h : Bs w lo hi v (marksB k0 n)) (h0 : 0 ≤ k0) (h1 : k0 + n ≤ 1000000000) :
    Calls Try.prog 39 #[v, .int .i64 k0] w fun e w' => e = .returned (.int .i64 (k0 + n)) ∧ w = w' := by
  obtain ⟨a, cap, rfl, hn, hcell⟩ := Recs.open elBool h
  rw [marksB_len] at hcell hn
  rw [marksB_len]
  have HCELL := Lib.hid hcell; clear hcell
  go_enter Try.func39, Try.ntmps39
  go_wp2_with fail
  go_loop [1, 5] (fun q i => ∃ k : Nat, k ≤ n ∧ i = .int .i64 k ∧ q = .int .i64 (k0 + k)) (fun _ i => n - (intOf i).toNat)
  case atStart => exact ⟨0, Nat.zero_le _, rfl, by simp⟩
  case round =>
    obtain ⟨k, hk, rfl, rfl⟩ := hrel
    by_cases hlt : k < n
    · obtain ⟨b, o, _, _, hi, hd⟩ := HCELL.out k _ (marksB_get hlt)
      have q0 : w.cell? ⟨b, o, none⟩ = some (.bool (mbool (k0 + (k : Int)))) := hd 0 _ rfl
      replace q0 : w.cell? ⟨b, o, none⟩ = some (.bool ((k0 + (k : Int)) % 3 == 0)) := q0
      have hix := hi k rfl
      have hbb : (((k0 + (k : Int)) % 3 == 0) != ((k0 + (k : Int)) % 3 == 0)) = false := by cases ((k0 + (k : Int)) % 3 == 0) <;> rfl
      clear hi hd
      go_wp2_with fail
      go_round
      case rel => exact ⟨k + 1, by omega, by go_num, congrArg (Value.int .i64) (by omega)⟩
      case measure => simp [intOf]; omega
    · have HE : Hid (k = n) := by show k = n; omega
      go_wp2_with fail
      go_ret
      exact ⟨ret_int (by rw [HE.out]), rfl⟩

set_option maxRecDepth 100000 in
set_option maxHeartbeats 4000000 in
theorem eqBoolS_same (v1 v2 : Value) (bs : List Bool) (w : World) {l1 h1 l2 h2 : Nat} (i1 : Bs w l1 h1 v1 bs) (i2 : Bs w l2 h2 v2 bs) :
    Calls Try.prog 35 #[v1, v2] w fun e w' => e = .returned (.bool true) ∧ ∃ n, w' = w.drewN n := by
  obtain ⟨a1, c1, rfl, hn1, hcell1⟩ := Recs.open elBool i1
  obtain ⟨a2, c2, rfl, hn2, hcell2⟩ := Recs.open elBool i2
  have HC1 := Lib.hid hcell1
  have HC2 := Lib.hid hcell2
  clear hcell1 hcell2
  have hll : ((bs.length : Int) != (bs.length : Int)) = false := by simp
  go_enter Try.func35, Try.ntmps35
  go_wp2_with fail
  go_loopw [5] (fun i wr => ∃ k : Nat, k ≤ bs.length ∧ i = .int .i64 k ∧ ∃ n, wr = w.drewN n) (fun i _ => bs.length - (intOf i).toNat)
  case atStart => exact ⟨0, Nat.zero_le _, rfl, 0, rfl⟩
  case round =>
    obtain ⟨k, hk, rfl, hw⟩ := hrel
    have HW := Lib.hid hw
    by_cases hlt : k < bs.length
    · obtain ⟨x, hck⟩ : ∃ c, bs[k]? = some c := ⟨_, List.getElem?_eq_getElem hlt⟩
      obtain ⟨b, o, _, _, hi', hd⟩ := HC1.out k _ hck
      obtain ⟨b', o', _, _, hj', hd'⟩ := HC2.out k _ hck
      have hix := hi' k rfl
      have hjx := hj' k rfl
      have c0 : w.cell? ⟨b, o, none⟩ = some (.bool x) := hd 0 _ rfl
      have e0 : w.cell? ⟨b', o', none⟩ = some (.bool x) := hd' 0 _ rfl
      have d0 : wr.cell? ⟨b, o, none⟩ = some (.bool x) := by obtain ⟨n, rfl⟩ := hw; exact c0
      have f0 : wr.cell? ⟨b', o', none⟩ = some (.bool x) := by obtain ⟨n, rfl⟩ := hw; exact e0
      have hxx : (x != x) = false := by cases x <;> rfl
      clear hi' hj' c0 e0 hw hd hd' hck
      go_wp2_with fail
      go_quiet (fail)
      go_wp2_with fail
      go_roundw
      case rel => exact ⟨k + 1, by omega, by go_num, drawn_more HW.out _⟩
      case measure => simp [intOf]; omega
    · clear hw
      go_wp2_with fail
      go_ret
      exact ⟨rfl, HW.out⟩

/-! ### the reading -/
section
open Go.ChangeShapes Go.WideShapes Go.ChangeAt
variable {H : Type} {enc : TypeId × Value → H} {W : World} {base : Nat} {v : Value} {d : DataW H} {p : List MemPlace}
def FitC (c : CT) : Prop := ByteArray.size c.2.1 ≤ maxLen
set_option maxRecDepth 100000 in
theorem cmds_in (hv : Value.okWide Try.prog W .any base 52 v) (h : DataW.Trod enc Try.prog W 0 (fun _ => true) true 52 v d p) :
    ∃ cs, Cms W 0 W.heap.size v cs ∧ ∀ c ∈ cs, FitC c :=
  recs_in (E := encC) Try.underlying52 Try.underlying45 (by kernel_rfl) (by kernel_rfl) rfl (by decide)
    (fun vs hl hr => by
      obtain ⟨u0, e0, r0⟩ := hr 0 _ rfl
      obtain ⟨u1, e1, r1⟩ := hr 1 _ rfl
      obtain ⟨u2, e2, r2⟩ := hr 2 _ rfl
      obtain ⟨u3, e3, r3⟩ := hr 3 _ rfl
      obtain ⟨a, rfl, wa⟩ := r0.int Try.underlying3
      obtain ⟨b, rfl, wb⟩ := r1.string Try.underlying9
      obtain ⟨c, rfl, wc⟩ := r2.int Try.underlying3
      obtain ⟨d, rfl, wd⟩ := r3.int Try.underlying3
      refine ⟨(a, b, c, d), ?_, wb⟩
      match vs, hl with
      | [x, y, z, t], _ =>
        simp at e0 e1 e2 e3
        subst e0
        subst e1
        subst e2
        subst e3
        rfl) hv h
theorem fit_cmds {cs : List CT} (h : ∀ c ∈ cs, FitC c) : ∀ c ∈ cs, ByteArray.size c.2.1 ≤ maxLen := h
end
end Go.Proofs.Ytpkhkmehpijngaa
