/-
  The walks of the statements' own small functions on logs: copied, equal, marked, held.
-/
import Derived.Test.YthehnpkjnilgiaaLogK
import Derived.Test.YthehnpkjnilgiaaRecB
import Derived.Test.YthehnpkjnilgiaaUtil
import Derived.Deep.RegionHeld3
namespace Go.Proofs.Ythehnpkjnilgiaa
open Go.RowKit
set_option linter.unusedVariables false

theorem elLaw : ElTy Try.prog 32 33 (.agg #[.int .i64 0, .int .i64 0]) 2 16 := ⟨Try.underlying32, by kernel_rfl, rfl, by decide⟩

set_option maxHeartbeats 400000 in
theorem toLogEntry_any (a b : Int) (w : World) :
    Calls Try.prog 17 #[.agg #[.int .i64 a, .int .i64 b]] w fun e w' => e = .returned (.agg #[.int .i64 a, .int .i64 b]) ∧ Below w.heap.size w w' := by
  go_enter Try.func17, Try.ntmps17
  go_wp2_with fail
  exact bodyPost_ret (v := .agg #[.int .i64 a, .int .i64 b]) (by simp [results, Try.results17, go_sem]) rfl ⟨rfl, (((Below.refl _ _).alloc (Nat.le_refl _) _).alloc (by simp) _).alloc (by simp; omega) _⟩

/-- the first k elements agree -/
def eqToE (xs ys : List (Int × Int)) (k : Nat) : Prop := ∀ j, j < k → xs[j]? = ys[j]?
theorem eqToE_zero (xs ys : List (Int × Int)) : eqToE xs ys 0 := fun j h => absurd h (by omega)
theorem eqToE_set {xs ys : List (Int × Int)} {k : Nat} {x : Int × Int} (hl : xs.length = ys.length) (hk : k < xs.length) (h : eqToE xs ys k) (e : ys[k]? = some x) : eqToE (xs.set k x) ys (k + 1) := fun j hj => by
  by_cases c : k = j
  · subst c; rw [List.getElem?_set_self hk, e]
  · rw [List.getElem?_set_ne c]; exact h j (by omega)
theorem eq_of_eqToE {xs ys : List (Int × Int)} (hl : xs.length = ys.length) {k : Nat} (hk : ¬ k < xs.length) (h : eqToE xs ys k) : xs = ys := by
  refine List.ext_getElem? fun j => ?_
  by_cases hj : j < xs.length
  · exact h j (by omega)
  · rw [List.getElem?_eq_none (by omega), List.getElem?_eq_none (by omega)]

def RetEnts1 (w : World) (es : List (Int × Int)) (e : Ending) (w' : World) : Prop := ∃ v, e = .returned v ∧ EntsO w' w.heap.size w'.heap.size v es ∧ Below w.heap.size w w'

set_option maxHeartbeats 2000000 in
theorem toLogEntryS_any (v : Value) (es : List (Int × Int)) (w : World) {lo hi : Nat} (h : Ents w lo hi v es) (hx : es.length ≤ 1048576) :
    Calls Try.prog 16 #[v] w (RetEnts1 w es) := by
  obtain ⟨a, cap, rfl, hn, hcell⟩ := Recs.open elLaw h
  go_enter Try.func16, Try.ntmps16
  go_wp2_with (at_make; refine wpl_make elEntry rfl _ _ rfl .i64 .i64 _ _ es.length rfl rfl rfl rfl (by omega) (by unfold maxLen; omega) ?_; intro w1 hown hgr)
  have hO1 : EntsO w1 w.heap.size w1.heap.size (.slice (some ⟨w.heap.size, 0, none⟩) es.length es.length) (List.replicate es.length (0, 0)) :=
    made_recs (E := encE) (z := .agg #[.int .i64 0, .int .i64 0]) (madeCells_flat (E := encE) (x0 := (0, 0)) rfl (by decide) _) hown
  clear hown
  have hsz := hgr.size
  obtain ⟨a2, c2, hv2, _, hcell2⟩ := RecsO.open2 rfl elEntry hO1
  rw [List.length_replicate] at hv2 hcell2
  cases hv2
  go_wp2_with fail
  go_loopw [4] (fun i wr => ∃ k : Nat, k ≤ es.length ∧ i = .int .i64 k ∧ Keep w.heap.size w1.heap.size w1 wr ∧
      ∃ ys, ys.length = es.length ∧ eqToE ys es k ∧ EntsO wr w.heap.size w1.heap.size (.slice (some ⟨w.heap.size, 0, none⟩) es.length es.length) ys) (fun i _ => es.length - (intOf i).toNat)
  case atStart => exact ⟨0, Nat.zero_le _, rfl, Keep.refl _ _ _, _, List.length_replicate .., eqToE_zero _ _, hO1⟩
  case round =>
    obtain ⟨k, hk, rfl, hkp, ys, hy, hc, hO⟩ := hrel
    have HC := Lib.hid hc; clear hc
    have HY := Lib.hid hy; clear hy
    by_cases hlt : k < es.length
    · obtain ⟨b, o, hp1, hp2, hi, hst⟩ := hcell2 k hlt
      have hxk := es_get hlt
      obtain ⟨b', o', _, _, hj, hkd0⟩ := hcell k _ hxk
      obtain ⟨q0, q1⟩ := entry_cells hkd0
      have hix := hi k rfl
      have hiy := hj k rfl
      have hbw := (hkp.below (Nat.le_refl _) hsz)
      have d0 : wr.cell? ⟨b', o', none⟩ = some (.int .i64 (ev es k)) := hbw.cell (lt_of_cell q0) |>.trans (hgr.cell (lt_of_cell q0)) |>.trans q0
      have d1 : wr.cell? ⟨b', o' + 1, none⟩ = some (.int .i64 (ec es k)) := hbw.cell (lt_of_cell q1) |>.trans (hgr.cell (lt_of_cell q1)) |>.trans q1
      have HX := Lib.hid hxk; clear hxk
      clear hi hj hkd0 q0 q1 hcell hcell2
      go_wp2_with fail
      refine (toLogEntry_any (ev es k) (ec es k) _).mono ?_
      rintro e w2 ⟨rfl, hb2⟩
      have hs2 := hb2.size
      have hkp2 : Keep w.heap.size w1.heap.size w1 w2 := hkp.trans (Keep.of_below hb2 _ _)
      have hO2 : EntsO w2 w.heap.size w1.heap.size (.slice (some ⟨w.heap.size, 0, none⟩) es.length es.length) ys := EntsO.below hO hb2
      obtain ⟨hrd, f0, f1, hset⟩ := hst w2 ys HY.out hO2
      obtain ⟨y, hyk⟩ : ∃ y, ys[k]? = some y := ⟨_, List.getElem?_eq_getElem (by rw [HY.out]; exact hlt)⟩
      obtain ⟨r0, r1⟩ := hrd y _ _ hyk rfl
      have hO' := hset (ev es k, ec es k) _ _ rfl
      have hkp' := keep_set2 hkp2 hp1 hp2 (o := o) (p := o + 1) (.int .i64 (ev es k)) (.int .i64 (ec es k))
      have HS := Lib.hid (eqToE_set (x := (ev es k, ec es k)) HY.out (by rw [HY.out]; exact hlt) HC.out HX.out)
      have HL : Hid ((ys.set k (ev es k, ec es k)).length = es.length) := by show _ = _; rw [List.length_set]; exact HY.out
      clear hst hset hrd hO hO2 hkp hbw hyk d0 d1
      go_wp2_with fail
      go_roundw
      case rel => exact ⟨k + 1, by omega, by go_num, hkp', _, HL.out, HS.out, hO'⟩
      case measure => simp [intOf]; omega
    · have HM := Lib.hid (eq_of_eqToE HY.out (by rw [HY.out]; exact hlt) HC.out)
      go_wp2_with fail
      go_ret
      have hO2 := hO
      rw [HM.out] at hO2
      exact ⟨_, rfl, EntsO.wide hO2 (Nat.le_refl _) hkp.size (Nat.le_refl _), hgr.trans (hkp.below (Nat.le_refl _) hsz)⟩

set_option maxHeartbeats 400000 in
theorem eqLogEntry_same (a b : Int) (w : World) :
    Calls Try.prog 43 #[.agg #[.int .i64 a, .int .i64 b], .agg #[.int .i64 a, .int .i64 b]] w fun e w' => e = .returned (.bool true) ∧ Below w.heap.size w w' := by
  go_enter Try.func43, Try.ntmps43
  go_wp2
  go_ret
  exact ⟨rfl, ((Below.refl _ _).alloc (Nat.le_refl _) _).alloc (by simp) _⟩

set_option maxHeartbeats 1000000 in
theorem eqEnts_same (v1 v2 : Value) (es : List (Int × Int)) (w : World) {l1 h1 l2 h2 : Nat} (i1 : Ents w l1 h1 v1 es) (i2 : Ents w l2 h2 v2 es) :
    Calls Try.prog 18 #[v1, v2] w fun e w' => e = .returned (.bool true) ∧ Below w.heap.size w w' := by
  obtain ⟨a1, c1, rfl, hn1, hcell1⟩ := Recs.open elEntry i1
  obtain ⟨a2, c2, rfl, hn2, hcell2⟩ := Recs.open elEntry i2
  go_enter Try.func18, Try.ntmps18
  go_wp2_with fail
  go_loopw [5] (fun i wr => ∃ k : Nat, k ≤ es.length ∧ i = .int .i64 k ∧ Below w.heap.size w wr) (fun i _ => es.length - (intOf i).toNat)
  case atStart => exact ⟨0, Nat.zero_le _, rfl, Below.refl _ _⟩
  case round =>
    obtain ⟨k, hk, rfl, hb⟩ := hrel
    have hsz := hb.size
    by_cases hlt : k < es.length
    · have hxk := es_get hlt
      obtain ⟨b, o, _, _, hi, hd⟩ := hcell1 k _ hxk
      obtain ⟨b', o', _, _, hj, hd'⟩ := hcell2 k _ hxk
      obtain ⟨q0, q1⟩ := entry_cells hd
      obtain ⟨q2, q3⟩ := entry_cells hd'
      have hix := hi k rfl
      have hiy := hj k rfl
      have d0 : wr.cell? ⟨b, o, none⟩ = some (.int .i64 (ev es k)) := (hb.cell (lt_of_cell q0)).trans q0
      have d1 : wr.cell? ⟨b, o + 1, none⟩ = some (.int .i64 (ec es k)) := (hb.cell (lt_of_cell q1)).trans q1
      have d2 : wr.cell? ⟨b', o', none⟩ = some (.int .i64 (ev es k)) := (hb.cell (lt_of_cell q2)).trans q2
      have d3 : wr.cell? ⟨b', o' + 1, none⟩ = some (.int .i64 (ec es k)) := (hb.cell (lt_of_cell q3)).trans q3
      have e0 := lt_of_cell d0
      have e2 := lt_of_cell d2
      have hd0 : Below wr.heap.size wr wr.drew := (Below.refl _ _).drew
      clear hi hj hd hd' q0 q1 q2 q3 hcell1 hcell2 hxk
      generalize ev es k = x at *
      generalize ec es k = y at *
      go_wp2_with fail
      go_region_held3 (fun w' => w'.cell? ⟨b, o, none⟩ = some (.int .i64 x) ∧ w'.cell? ⟨b, o + 1, none⟩ = some (.int .i64 y) ∧ w'.cell? ⟨b', o', none⟩ = some (.int .i64 x) ∧ w'.cell? ⟨b', o' + 1, none⟩ = some (.int .i64 y) ∧ Below wr.heap.size wr w')
        (first
          | exact ⟨d0, d1, d2, d3, hd0⟩
          | exact ⟨(hb4.cell e0).trans d0, (hb4.cell e0).trans d1, (hb4.cell e2).trans d2, (hb4.cell e2).trans d3, hb4⟩
          | (go_split_ands; refine ⟨?_, ?_, ?_, ?_, ?_⟩ <;> assumption))
        ((go_at_call 43; refine (eqLogEntry_same _ _ _).mono ?_; rintro e w4 ⟨rfl, hb3⟩; have hb4 := below_step hd0 hb3 (Nat.le_refl _)))
      all_goals
        go_wp2_with fail
        go_roundw
      all_goals first | exact ⟨k + 1, by omega, by go_num, below_step hb hb4 hsz⟩ | (simp [intOf]; omega)
    · clear hcell1 hcell2
      go_wp2_with fail
      go_ret
      exact ⟨rfl, hb⟩

/-- the marks: k, k + 1 in the first entry, and so on -/
def marksE (k : Int) (n : Nat) : List (Int × Int) := (List.range n).map fun (i : Nat) => (k + 2 * (i : Int), k + 2 * (i : Int) + 1)
theorem marksE_len (k : Int) (n : Nat) : (marksE k n).length = n := by simp [marksE]
theorem marksE_get {k : Int} {n j : Nat} (h : j < n) : (marksE k n)[j]? = some (k + 2 * (j : Int), k + 2 * (j : Int) + 1) := by simp [marksE, h]

set_option maxHeartbeats 2000000 in
theorem markEnts_any (v : Value) (es : List (Int × Int)) (k0 : Int) (w : World) {lo hi : Nat} (h : EntsO w lo hi v es) (h0 : 0 ≤ k0) (h1 : k0 + 2 * es.length ≤ 9223372036854775000) :
    Calls Try.prog 19 #[v, .int .i64 k0] w fun e w' => e = .returned (.int .i64 (k0 + 2 * es.length)) ∧ EntsO w' lo hi v (marksE k0 es.length) ∧ Keep lo hi w w' := by
  obtain ⟨a, cap, rfl, hn, hcell⟩ := RecsO.open2 rfl elEntry h
  go_enter Try.func19, Try.ntmps19
  go_wp2_with fail
  go_loopw [1, 5] (fun q i wr => ∃ k : Nat, k ≤ es.length ∧ i = .int .i64 k ∧ q = .int .i64 (k0 + 2 * k) ∧ Keep lo hi w wr ∧
      ∃ ys, ys.length = es.length ∧ eqToE ys (marksE k0 es.length) k ∧ EntsO wr lo hi (.slice a es.length cap) ys) (fun _ i _ => es.length - (intOf i).toNat)
  case atStart => exact ⟨0, Nat.zero_le _, rfl, by simp, Keep.refl _ _ _, es, rfl, eqToE_zero _ _, h⟩
  case round =>
    obtain ⟨k, hk, rfl, rfl, hkp, ys, hy, hc, hO⟩ := hrel
    have HC := Lib.hid hc; clear hc
    have HY := Lib.hid hy; clear hy
    by_cases hlt : k < es.length
    · obtain ⟨b, o, hp1, hp2, hi, hst⟩ := hcell k hlt
      have hix := hi k rfl
      obtain ⟨hrd, f0, f1, hset⟩ := hst wr ys HY.out hO
      obtain ⟨y, hyk⟩ : ∃ y, ys[k]? = some y := ⟨_, List.getElem?_eq_getElem (by rw [HY.out]; exact hlt)⟩
      obtain ⟨r0, r1⟩ := hrd y _ _ hyk rfl
      have hO' := hset (k0 + 2 * (k : Int), k0 + 2 * (k : Int) + 1) _ _ rfl
      have hkp' := keep_set2 hkp hp1 hp2 (o := o) (p := o + 1) (.int .i64 (k0 + 2 * k)) (.int .i64 (k0 + 2 * k + 1))
      have HS := Lib.hid (eqToE_set (x := (k0 + 2 * (k : Int), k0 + 2 * (k : Int) + 1)) (ys := marksE k0 es.length) (by rw [HY.out, marksE_len]) (by rw [HY.out]; exact hlt) HC.out (marksE_get hlt))
      have HL : Hid ((ys.set k (k0 + 2 * (k : Int), k0 + 2 * (k : Int) + 1)).length = es.length) := by show _ = _; rw [List.length_set]; exact HY.out
      clear hst hset hrd hO hkp hyk hcell hi
      go_wp2_with fail
      go_roundw
      case rel => exact ⟨k + 1, by omega, by go_num, congrArg (Value.int .i64) (by omega), hkp', _, HL.out, HS.out, hO'⟩
      case measure => simp [intOf]; omega
    · have hke : k = es.length := by omega
      have HM := Lib.hid (eq_of_eqToE (by rw [HY.out, marksE_len]) (by rw [HY.out]; exact hlt) HC.out)
      have HE := Lib.hid hke; clear hke
      clear hcell
      go_wp2_with fail
      go_ret
      have hO2 := hO
      rw [HM.out] at hO2
      exact ⟨ret_int (by rw [HE.out]), hO2, hkp⟩

set_option maxHeartbeats 1000000 in
theorem heldEnts_any (v : Value) (n : Nat) (k0 : Int) (w : World) {lo hi : Nat} (h : Ents w lo hi v (marksE k0 n)) (h0 : 0 ≤ k0) (h1 : k0 + 2 * n ≤ 9223372036854775000) :
    Calls Try.prog 20 #[v, .int .i64 k0] w fun e w' => e = .returned (.int .i64 (k0 + 2 * n)) ∧ w = w' := by
  obtain ⟨a, cap, rfl, hn, hcell⟩ := Recs.open elEntry h
  rw [marksE_len] at hcell hn
  rw [marksE_len]
  go_enter Try.func20, Try.ntmps20
  go_wp2_with fail
  go_loop [1, 5] (fun q i => ∃ k : Nat, k ≤ n ∧ i = .int .i64 k ∧ q = .int .i64 (k0 + 2 * k)) (fun _ i => n - (intOf i).toNat)
  case atStart => exact ⟨0, Nat.zero_le _, rfl, by simp⟩
  case round =>
    obtain ⟨k, hk, rfl, rfl⟩ := hrel
    by_cases hlt : k < n
    · obtain ⟨b, o, _, _, hi, hd⟩ := hcell k _ (marksE_get hlt)
      obtain ⟨q0, q1⟩ := entry_cells hd
      have hix := hi k rfl
      have b0 : (k0 + 2 * (k : Int) != k0 + 2 * (k : Int)) = false := by simp
      have b1 : (k0 + 2 * (k : Int) + 1 != k0 + 2 * (k : Int) + 1) = false := by simp
      clear hi hcell hd
      go_wp2_with fail
      go_round
      case rel => exact ⟨k + 1, by omega, by go_num, congrArg (Value.int .i64) (by omega)⟩
      case measure => simp [intOf]; omega
    · have HE : Hid (k = n) := by show k = n; omega
      clear hcell
      go_wp2_with fail
      go_ret
      exact ⟨ret_int (by rw [HE.out]), rfl⟩

set_option maxHeartbeats 1000000 in
theorem sameLog_same (v1 v2 : Value) (es : List (Int × Int)) (w : World) {l1 h1 l2 h2 : Nat} (i1 : Ents w l1 h1 v1 es) (i2 : Ents w l2 h2 v2 es) :
    Calls Try.prog 32 #[v1, v2] w fun e w' => e = .returned (.bool true) ∧ Below w.heap.size w w' := by
  obtain ⟨a1, c1, rfl, hn1, hcell1⟩ := Recs.open elEntry i1
  obtain ⟨a2, c2, rfl, hn2, hcell2⟩ := Recs.open elEntry i2
  go_enter Try.func32, Try.ntmps32
  go_wp2_with fail
  go_loopw [5] (fun i wr => ∃ k : Nat, k ≤ es.length ∧ i = .int .i64 k ∧ ∃ n, wr = w.drewN n) (fun i _ => es.length - (intOf i).toNat)
  case atStart => exact ⟨0, Nat.zero_le _, rfl, 0, rfl⟩
  case round =>
    obtain ⟨k, hk, rfl, hw⟩ := hrel
    have HW := Lib.hid hw
    have hb := drawn_below hw
    have hsz := hb.size
    clear hw
    by_cases hlt : k < es.length
    · have hxk := es_get hlt
      obtain ⟨b, o, _, _, hi, hd⟩ := hcell1 k _ hxk
      obtain ⟨b', o', _, _, hj, hd'⟩ := hcell2 k _ hxk
      obtain ⟨q0, q1⟩ := entry_cells hd
      obtain ⟨q2, q3⟩ := entry_cells hd'
      have hix := hi k rfl
      have hiy := hj k rfl
      have d0 : wr.cell? ⟨b, o, none⟩ = some (.int .i64 (ev es k)) := (hb.cell (lt_of_cell q0)).trans q0
      have d1 : wr.cell? ⟨b, o + 1, none⟩ = some (.int .i64 (ec es k)) := (hb.cell (lt_of_cell q1)).trans q1
      have d2 : wr.cell? ⟨b', o', none⟩ = some (.int .i64 (ev es k)) := (hb.cell (lt_of_cell q2)).trans q2
      have d3 : wr.cell? ⟨b', o' + 1, none⟩ = some (.int .i64 (ec es k)) := (hb.cell (lt_of_cell q3)).trans q3
      clear hi hj hd hd' q0 q1 q2 q3 hcell1 hcell2 hxk
      generalize ev es k = x at *
      generalize ec es k = y at *
      go_wp2_with fail
      go_quiet (fail)
      go_wp2_with fail
      go_roundw
      case rel => exact ⟨k + 1, by omega, by go_num, drawn_more HW.out _⟩
      case measure => simp [intOf]; omega
    · clear hcell1 hcell2
      go_wp2_with fail
      go_ret
      exact ⟨rfl, hb⟩

set_option maxHeartbeats 400000 in
theorem szLog_yes (v : Value) (es : List (Int × Int)) (w : World) {lo hi : Nat} (h : Ents w lo hi v es) (hx : es.length ≤ 1048576) :
    Calls Try.prog 14 #[v, .int .i64 1048576] w fun e w' => e = .returned (.int .i64 (1048576 - es.length)) ∧ w = w' := by
  obtain ⟨a, cap, rfl, hn, hcell⟩ := Recs.open elLaw h
  clear hcell
  go_enter Try.func14, Try.ntmps14
  go_wp2_with fail
  go_ret
  exact ⟨rfl, rfl⟩
set_option maxHeartbeats 400000 in
theorem szLog_no (v : Value) (es : List (Int × Int)) (w : World) {lo hi : Nat} (h : Ents w lo hi v es) (hx : ¬ es.length ≤ 1048576) :
    Calls Try.prog 14 #[v, .int .i64 1048576] w fun e w' => e = .returned (.int .i64 (-1)) ∧ w = w' := by
  obtain ⟨a, cap, rfl, hn, hcell⟩ := Recs.open elLaw h
  clear hcell
  have h2 : (1048576 : Int) - es.length < 0 := by omega
  go_enter Try.func14, Try.ntmps14
  go_wp2_with fail
  go_ret
  exact ⟨rfl, rfl⟩
theorem keep_cell {lo hi : Nat} {w w' : World} (h : Keep lo hi w w') {p : Addr} {u : Value} (hc : w.cell? p = some u) (ho : p.block < lo ∨ hi ≤ p.block) : w'.cell? p = some u :=
  (World.cell?_of_block (h.block p.block (lt_of_cell hc) ho)).trans hc
theorem below_cell {w w' : World} (h : Below w.heap.size w w') {p : Addr} {u : Value} (hc : w.cell? p = some u) : w'.cell? p = some u := (h.cell (lt_of_cell hc)).trans hc

theorem valuesL_len (n : Int) (es : List (Int × Int)) : (valuesL n es).length ≤ 12 := by
  unfold valuesL
  split
  · rename_i h
    have := (valid_len h).1
    have := valTo_len es es.length
    omega
  · simp
theorem openL_len (n : Int) (es : List (Int × Int)) : (openL n es).length ≤ 12 := by
  unfold openL
  split
  · rw [openTo_len]; omega
  · simp
theorem appendL_len (n : Int) (es : List (Int × Int)) (v c : Int) : (appendL n es v c).length ≤ 12 := by
  unfold appendL
  split
  · rename_i h
    rw [Bool.and_eq_true] at h
    have := (valid_len h.1).1
    split
    · omega
    · simp; omega
  · simp
end Go.Proofs.Ythehnpkjnilgiaa
