/-
  The walks of the exact laws' own small functions on pairs: copied, equal, measured.
-/
import Derived.Test.YtlihmomopofdnaaDoorPair
import Derived.Deep.RegionHeld3
namespace Go.Proofs.YtlihmomopofdnaaDoor
open Go.RowKit
set_option linter.unusedVariables false

theorem pair_cells {w : World} {b o : Nat} {x : ByteArray × Int} (h : ∀ j u, (encP.enc x)[j]? = some u → w.cell? ⟨b, o + j, none⟩ = some u) : w.cell? ⟨b, o, none⟩ = some (.string x.1) ∧ w.cell? ⟨b, o + 1, none⟩ = some (.int .i64 x.2) :=
  ⟨h 0 _ rfl, h 1 _ rfl⟩
theorem elLaw : ElTy Tryd.prog 33 66 (.agg #[.string ByteArray.empty, .int .i64 0]) 2 24 := ⟨Tryd.underlying33, by kernel_rfl, rfl, by decide⟩

set_option maxHeartbeats 400000 in
theorem toPair_any (a : ByteArray) (b : Int) (w : World) :
    Calls Tryd.prog 41 #[.agg #[.string a, .int .i64 b]] w fun e w' => e = .returned (.agg #[.string a, .int .i64 b]) ∧ Below w.heap.size w w' := by
  go_enter Tryd.func41, Tryd.ntmps41
  go_wp2_with fail
  exact bodyPost_ret (v := .agg #[.string a, .int .i64 b]) (by simp [results, Tryd.results41, go_sem]) rfl ⟨rfl, (((Below.refl _ _).alloc (Nat.le_refl _) _).alloc (by simp) _).alloc (by simp; omega) _⟩

/-- the first k elements agree -/
def eqToE (xs ys : List (ByteArray × Int)) (k : Nat) : Prop := ∀ j, j < k → xs[j]? = ys[j]?
theorem eqToE_zero (xs ys : List (ByteArray × Int)) : eqToE xs ys 0 := fun j h => absurd h (by omega)
theorem eqToE_set {xs ys : List (ByteArray × Int)} {k : Nat} {x : ByteArray × Int} (hl : xs.length = ys.length) (hk : k < xs.length) (h : eqToE xs ys k) (e : ys[k]? = some x) : eqToE (xs.set k x) ys (k + 1) := fun j hj => by
  by_cases c : k = j
  · subst c; rw [List.getElem?_set_self hk, e]
  · rw [List.getElem?_set_ne c]; exact h j (by omega)
theorem eq_of_eqToE {xs ys : List (ByteArray × Int)} (hl : xs.length = ys.length) {k : Nat} (hk : ¬ k < xs.length) (h : eqToE xs ys k) : xs = ys := by
  refine List.ext_getElem? fun j => ?_
  by_cases hj : j < xs.length
  · exact h j (by omega)
  · rw [List.getElem?_eq_none (by omega), List.getElem?_eq_none (by omega)]

def RetPrs (w : World) (es : List (ByteArray × Int)) (e : Ending) (w' : World) : Prop := ∃ v, e = .returned v ∧ PrsO w' w.heap.size w'.heap.size v es ∧ Below w.heap.size w w'

set_option maxHeartbeats 2000000 in
theorem toPairS_any (v : Value) (es : List (ByteArray × Int)) (w : World) {lo hi : Nat} (h : Prs w lo hi v es) (hx : es.length ≤ 1048576) :
    Calls Tryd.prog 19 #[v] w (RetPrs w es) := by
  obtain ⟨a, cap, rfl, hn, hcell⟩ := Recs.open elLaw h
  go_enter Tryd.func19, Tryd.ntmps19
  go_wp2_with (at_make; refine wpl_make elPair rfl _ _ rfl .i64 .i64 _ _ es.length rfl rfl rfl rfl (by omega) (by unfold maxLen; omega) ?_; intro w1 hown hgr)
  have hO1 : PrsO w1 w.heap.size w1.heap.size (.slice (some ⟨w.heap.size, 0, none⟩) es.length es.length) (List.replicate es.length (ByteArray.empty, 0)) :=
    made_recs (E := encP) (z := .agg #[.string ByteArray.empty, .int .i64 0]) (madeCells_flat (E := encP) (x0 := (ByteArray.empty, 0)) rfl (by decide) _) hown
  clear hown
  have hsz := hgr.size
  obtain ⟨a2, c2, hv2, _, hcell2⟩ := RecsO.open2 rfl elPair hO1
  rw [List.length_replicate] at hv2 hcell2
  cases hv2
  go_wp2_with fail
  go_loopw [4] (fun i wr => ∃ k : Nat, k ≤ es.length ∧ i = .int .i64 k ∧ Keep w.heap.size w1.heap.size w1 wr ∧
      ∃ ys, ys.length = es.length ∧ eqToE ys es k ∧ PrsO wr w.heap.size w1.heap.size (.slice (some ⟨w.heap.size, 0, none⟩) es.length es.length) ys) (fun i _ => es.length - (intOf i).toNat)
  case atStart => exact ⟨0, Nat.zero_le _, rfl, Keep.refl _ _ _, _, List.length_replicate .., eqToE_zero _ _, hO1⟩
  case round =>
    obtain ⟨k, hk, rfl, hkp, ys, hy, hc, hO⟩ := hrel
    have HC := Lib.hid hc; clear hc
    have HY := Lib.hid hy; clear hy
    by_cases hlt : k < es.length
    · obtain ⟨b, o, hp1, hp2, hi, hst⟩ := hcell2 k hlt
      have hxk := ps_get hlt
      obtain ⟨b', o', _, _, hj, hkd0⟩ := hcell k _ hxk
      obtain ⟨q0, q1⟩ := pair_cells hkd0
      have hix := hi k rfl
      have hiy := hj k rfl
      have hbw := (hkp.below (Nat.le_refl _) hsz)
      have d0 : wr.cell? ⟨b', o', none⟩ = some (.string (pk es k)) := hbw.cell (lt_of_cell q0) |>.trans (hgr.cell (lt_of_cell q0)) |>.trans q0
      have d1 : wr.cell? ⟨b', o' + 1, none⟩ = some (.int .i64 (pv es k)) := hbw.cell (lt_of_cell q1) |>.trans (hgr.cell (lt_of_cell q1)) |>.trans q1
      have HX := Lib.hid hxk; clear hxk
      clear hi hj hkd0 q0 q1 hcell hcell2
      go_wp2_with fail
      refine (toPair_any (pk es k) (pv es k) _).mono ?_
      rintro e w2 ⟨rfl, hb2⟩
      have hs2 := hb2.size
      have hkp2 : Keep w.heap.size w1.heap.size w1 w2 := hkp.trans (Keep.of_below hb2 _ _)
      have hO2 : PrsO w2 w.heap.size w1.heap.size (.slice (some ⟨w.heap.size, 0, none⟩) es.length es.length) ys := PrsO.below hO hb2
      obtain ⟨hrd, f0, f1, hset⟩ := hst w2 ys HY.out hO2
      obtain ⟨y, hyk⟩ : ∃ y, ys[k]? = some y := ⟨_, List.getElem?_eq_getElem (by rw [HY.out]; exact hlt)⟩
      obtain ⟨r0, r1⟩ := hrd y _ _ hyk rfl
      have hO' := hset (pk es k, pv es k) _ _ rfl
      have hkp' := keep_set2 hkp2 hp1 hp2 (o := o) (p := o + 1) (.string (pk es k)) (.int .i64 (pv es k))
      have HS := Lib.hid (eqToE_set (x := (pk es k, pv es k)) HY.out (by rw [HY.out]; exact hlt) HC.out HX.out)
      have HL : Hid ((ys.set k (pk es k, pv es k)).length = es.length) := by show _ = _; rw [List.length_set]; exact HY.out
      clear hst hset hrd hO hO2 hkp hbw hyk d0 d1
      go_wp2_with fail
      go_roundw
      case rel => exact ⟨k + 1, by omega, by go_num, hkp', _, HL.out, HS.out, hO'⟩
      case measure => simp [intOf]; omega
    · have HM := Lib.hid (eq_of_eqToE HY.out (by rw [HY.out]; exact hlt) HC.out)
      go_wp2_with fail
      go_ret
      have hO2 := hO
      rw [HM.out] at hO2
      exact ⟨_, rfl, PrsO.wide hO2 (Nat.le_refl _) hkp.size (Nat.le_refl _), hgr.trans (hkp.below (Nat.le_refl _) hsz)⟩

set_option maxHeartbeats 400000 in
theorem eqPair_same (a : ByteArray) (b : Int) (w : World) :
    Calls Tryd.prog 29 #[.agg #[.string a, .int .i64 b], .agg #[.string a, .int .i64 b]] w fun e w' => e = .returned (.bool true) ∧ Below w.heap.size w w' := by
  go_enter Tryd.func29, Tryd.ntmps29
  go_wp2
  go_ret
  exact ⟨rfl, ((Below.refl _ _).alloc (Nat.le_refl _) _).alloc (by simp) _⟩

set_option maxHeartbeats 1000000 in
theorem eqPairS_same (v1 v2 : Value) (es : List (ByteArray × Int)) (w : World) {l1 h1 l2 h2 : Nat} (i1 : Prs w l1 h1 v1 es) (i2 : Prs w l2 h2 v2 es) :
    Calls Tryd.prog 10 #[v1, v2] w fun e w' => e = .returned (.bool true) ∧ Below w.heap.size w w' := by
  obtain ⟨a1, c1, rfl, hn1, hcell1⟩ := Recs.open elPair i1
  obtain ⟨a2, c2, rfl, hn2, hcell2⟩ := Recs.open elPair i2
  go_enter Tryd.func10, Tryd.ntmps10
  go_wp2_with fail
  go_loopw [5] (fun i wr => ∃ k : Nat, k ≤ es.length ∧ i = .int .i64 k ∧ Below w.heap.size w wr) (fun i _ => es.length - (intOf i).toNat)
  case atStart => exact ⟨0, Nat.zero_le _, rfl, Below.refl _ _⟩
  case round =>
    obtain ⟨k, hk, rfl, hb⟩ := hrel
    have hsz := hb.size
    by_cases hlt : k < es.length
    · have hxk := ps_get hlt
      obtain ⟨b, o, _, _, hi, hd⟩ := hcell1 k _ hxk
      obtain ⟨b', o', _, _, hj, hd'⟩ := hcell2 k _ hxk
      obtain ⟨q0, q1⟩ := pair_cells hd
      obtain ⟨q2, q3⟩ := pair_cells hd'
      have hix := hi k rfl
      have hiy := hj k rfl
      have d0 : wr.cell? ⟨b, o, none⟩ = some (.string (pk es k)) := (hb.cell (lt_of_cell q0)).trans q0
      have d1 : wr.cell? ⟨b, o + 1, none⟩ = some (.int .i64 (pv es k)) := (hb.cell (lt_of_cell q1)).trans q1
      have d2 : wr.cell? ⟨b', o', none⟩ = some (.string (pk es k)) := (hb.cell (lt_of_cell q2)).trans q2
      have d3 : wr.cell? ⟨b', o' + 1, none⟩ = some (.int .i64 (pv es k)) := (hb.cell (lt_of_cell q3)).trans q3
      have e0 := lt_of_cell d0
      have e2 := lt_of_cell d2
      have hd0 : Below wr.heap.size wr wr.drew := (Below.refl _ _).drew
      clear hi hj hd hd' q0 q1 q2 q3 hcell1 hcell2 hxk
      generalize pk es k = x at *
      generalize pv es k = y at *
      go_wp2_with fail
      go_region_held3 (fun w' => w'.cell? ⟨b, o, none⟩ = some (.string x) ∧ w'.cell? ⟨b, o + 1, none⟩ = some (.int .i64 y) ∧ w'.cell? ⟨b', o', none⟩ = some (.string x) ∧ w'.cell? ⟨b', o' + 1, none⟩ = some (.int .i64 y) ∧ Below wr.heap.size wr w')
        (first
          | exact ⟨d0, d1, d2, d3, hd0⟩
          | exact ⟨(hb4.cell e0).trans d0, (hb4.cell e0).trans d1, (hb4.cell e2).trans d2, (hb4.cell e2).trans d3, hb4⟩
          | (go_split_ands; refine ⟨?_, ?_, ?_, ?_, ?_⟩ <;> assumption))
        ((go_at_call 29; refine (eqPair_same _ _ _).mono ?_; rintro e w4 ⟨rfl, hb3⟩; have hb4 := below_step hd0 hb3 (Nat.le_refl _)))
      all_goals
        go_wp2_with fail
        go_roundw
      all_goals first | exact ⟨k + 1, by omega, by go_num, below_step hb hb4 hsz⟩ | (simp [intOf]; omega)
    · clear hcell1 hcell2
      go_wp2_with fail
      go_ret
      exact ⟨rfl, hb⟩

/-! ### measured -/
set_option maxHeartbeats 400000 in
theorem szPair_any (a : ByteArray) (b l m : Int) (w : World) (ha : a.size ≤ maxLen) (l0 : 0 ≤ l) (l1 : l ≤ 1048576) (hm : (if (a.size : Int) ≤ l then l - (a.size : Int) else -1) = m) :
    Calls Tryd.prog 38 #[.agg #[.string a, .int .i64 b], .int .i64 l] w fun e w' => e = .returned (.int .i64 m) ∧ Below w.heap.size w w' := by
  have hb1 : Below w.heap.size w (w.alloc (.cells #[.string a, .int .i64 b] 66)) := (Below.refl _ _).alloc (Nat.le_refl _) _
  have hs : a.size ≤ 9223372036854775807 := by unfold maxLen at ha; omega
  have hw0 : IntKind.i64.wrap (l - (a.size : Int)) = l - (a.size : Int) := IntWalk.i64_in _ ⟨by omega, by omega⟩
  by_cases hl : (a.size : Int) ≤ l
  · have HM := Lib.hid (show l - (a.size : Int) = m by rw [← hm, if_pos hl]); clear hm
    have hlt : ¬ (l - (a.size : Int) < 0) := by omega
    go_enter Tryd.func38, Tryd.ntmps38
    go_wp2_with fail
    go_ret
    exact ⟨ret_int HM.out, hb1⟩
  · have HM := Lib.hid (show -1 = m by rw [← hm, if_neg hl]); clear hm
    have hlt : (l - (a.size : Int) < 0) := by omega
    go_enter Tryd.func38, Tryd.ntmps38
    go_wp2_with fail
    go_ret
    exact ⟨ret_int HM.out, hb1⟩

def RetSz (w : World) (n : Nat) (e : Ending) (w' : World) : Prop := ∃ m : Int, e = .returned (.int .i64 m) ∧ (m = -1 ∨ (0 ≤ m ∧ n ≤ 1048576 ∧ m ≤ 1048576)) ∧ Below w.heap.size w w'
set_option maxHeartbeats 1000000 in
theorem szPairS_any (v : Value) (es : List (ByteArray × Int)) (w : World) {lo hi : Nat} (h : Prs w lo hi v es) (hz : ∀ k, k < es.length → (pk es k).size ≤ maxLen) :
    Calls Tryd.prog 17 #[v, .int .i64 1048576] w (RetSz w es.length) := by
  obtain ⟨a, cap, rfl, hn, hcell⟩ := Recs.open elLaw h
  have hw0 : IntKind.i64.wrap (1048576 - (es.length : Int)) = 1048576 - (es.length : Int) := IntWalk.i64_in _ ⟨by omega, by omega⟩
  by_cases hl : (es.length : Int) ≤ 1048576
  · have hlt0 : ¬ (1048576 - (es.length : Int) < 0) := by omega
    go_enter Tryd.func17, Tryd.ntmps17
    go_wp2_with fail
    go_loopw [1, 5] (fun l i wr => ∃ (k : Nat) (m : Int), k ≤ es.length ∧ i = .int .i64 k ∧ l = .int .i64 m ∧ 0 ≤ m ∧ m ≤ 1048576 ∧ Below w.heap.size w wr) (fun _ i _ => es.length - (intOf i).toNat)
    case atStart => exact ⟨0, _, Nat.zero_le _, rfl, rfl, by omega, by omega, Below.refl _ _⟩
    case round =>
      obtain ⟨k, m, hk, rfl, rfl, m0, m1, hb⟩ := hrel
      have hsz := hb.size
      by_cases hlt : k < es.length
      · have hxk := ps_get hlt
        obtain ⟨b, o, _, _, hi, hd⟩ := hcell k _ hxk
        obtain ⟨q0, q1⟩ := pair_cells hd
        have hix := hi k rfl
        have d0 : wr.cell? ⟨b, o, none⟩ = some (.string (pk es k)) := (hb.cell (lt_of_cell q0)).trans q0
        have d1 : wr.cell? ⟨b, o + 1, none⟩ = some (.int .i64 (pv es k)) := (hb.cell (lt_of_cell q1)).trans q1
        have hzk := hz k hlt
        clear hi hd q0 q1 hcell hxk
        by_cases hle : ((pk es k).size : Int) ≤ m
        · have hnn : ¬ (m - ((pk es k).size : Int) < 0) := by omega
          go_wp2_with fail
          refine (szPair_any _ _ m _ _ hzk m0 m1 (if_pos hle)).mono ?_
          rintro e w2 ⟨rfl, hb2⟩
          go_wp2_with fail
          go_roundw
          case rel => exact ⟨k + 1, _, by omega, by go_num, rfl, by omega, by omega, below_step hb hb2 hsz⟩
          case measure => simp [intOf]; omega
        · go_wp2_with fail
          refine (szPair_any _ _ m _ _ hzk m0 m1 (if_neg (by omega))).mono ?_
          rintro e w2 ⟨rfl, hb2⟩
          go_wp2_with fail
          go_ret
          exact ⟨-1, rfl, .inl rfl, below_step hb hb2 hsz⟩
      · clear hcell
        go_wp2_with fail
        go_ret
        exact ⟨m, rfl, .inr ⟨m0, by omega, m1⟩, hb⟩
  · have hlt0 : (1048576 - (es.length : Int) < 0) := by omega
    clear hcell
    go_enter Tryd.func17, Tryd.ntmps17
    go_wp2_with fail
    go_ret
    exact ⟨-1, rfl, .inl rfl, Below.refl _ _⟩
end Go.Proofs.YtlihmomopofdnaaDoor
