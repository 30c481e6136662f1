/-
  The walk of the reference's l32With.
-/
import Derived.Test.YtlihmomopofdnaaGreatDoorFind
namespace Go.Proofs.YtlihmomopofdnaaGreatDoor
open Go.RowKit
set_option linter.unusedVariables false

/-- one step of l32With: the pairs so far, whether the new pair has been put -/
def stepW (key : ByteArray) (val : Int) (st : List (ByteArray × Int) × Bool) (x : ByteArray × Int) : List (ByteArray × Int) × Bool :=
  let st1 := if st.2 || Op.bytesLess x.1.toList key.toList then st else (st.1 ++ [(key, val)], true)
  if x.1.toList == key.toList then st1 else (st1.1 ++ [x], st1.2)
def accW (key : ByteArray) (val : Int) (ps : List (ByteArray × Int)) (k : Nat) : List (ByteArray × Int) × Bool := (ps.take k).foldl (stepW key val) ([], false)
def withP (ps : List (ByteArray × Int)) (key : ByteArray) (val : Int) : List (ByteArray × Int) :=
  if (accW key val ps ps.length).2 then (accW key val ps ps.length).1 else (accW key val ps ps.length).1 ++ [(key, val)]
theorem accW_step {key : ByteArray} {val : Int} {ps : List (ByteArray × Int)} {k : Nat} (h : k < ps.length) : accW key val ps (k + 1) = stepW key val (accW key val ps k) (pk ps k, pv ps k) := by
  unfold accW
  have e : ps[k] = (pk ps k, pv ps k) := Option.some.inj ((List.getElem?_eq_getElem h).symm.trans (ps_get h))
  rw [List.take_succ_eq_append_getElem h, List.foldl_append, e]
  rfl
theorem stepW_len (key : ByteArray) (val : Int) (st : List (ByteArray × Int) × Bool) (x : ByteArray × Int) : (stepW key val st x).1.length + (if (stepW key val st x).2 then 0 else 1) ≤ st.1.length + (if st.2 then 0 else 1) + 1 := by
  unfold stepW
  cases st with
  | mk l b => cases b <;> cases Op.bytesLess x.1.toList key.toList <;> cases (x.1.toList == key.toList) <;> simp
theorem accW_len (key : ByteArray) (val : Int) (ps : List (ByteArray × Int)) : ∀ k, k ≤ ps.length → (accW key val ps k).1.length + (if (accW key val ps k).2 then 0 else 1) ≤ k + 1
  | 0, _ => by simp [accW]
  | k + 1, h => by
    rw [accW_step (by omega)]
    have := stepW_len key val (accW key val ps k) (pk ps k, pv ps k)
    have := accW_len key val ps k (by omega)
    omega
theorem withP_len (ps : List (ByteArray × Int)) (key : ByteArray) (val : Int) : (withP ps key val).length ≤ ps.length + 1 := by
  have := accW_len key val ps ps.length (Nat.le_refl _)
  unfold withP
  split
  · rename_i e; rw [if_pos e] at this; omega
  · rename_i e; rw [if_neg e] at this; simp; omega

theorem pair_one (k : ByteArray) (v : Int) : ∀ u ∈ [Value.string k, .int .i64 v], u.oneCell' = true := encP.one (k, v)
structure WS (w : World) (key : ByteArray) (val : Int) (v : Value) (acc : List (ByteArray × Int)) (wr : World) : Prop where
  own : PrsO wr (w.heap.size + 1) wr.heap.size v acc
  bP : Blk wr w.heap.size #[.string key, .int .i64 val] 52
  bel : Below w.heap.size w wr
  le : w.heap.size + 1 ≤ wr.heap.size
section
variable {w wr w' : World} {key : ByteArray} {val : Int} {v v' : Value} {acc : List (ByteArray × Int)}
theorem WS.below (h : WS w key val v acc wr) (hb : Below wr.heap.size wr w') : WS w key val v acc w' :=
  ⟨PrsO.wide (PrsO.below h.own hb) (Nat.le_refl _) hb.size (Nat.le_refl _), h.bP.below hb, below_step h.bel hb h.bel.size, Nat.le_trans h.le hb.size⟩
theorem WS.app {wx : World} {x : ByteArray × Int} (h : WS w key val v acc wx) (hown : Own w' (w.heap.size + 1) w'.heap.size 52 v' (acc.length + 1) 2 (flat encP acc ++ [.string x.1, .int .i64 x.2])) (hk : Keep (w.heap.size + 1) wx.heap.size wx w') : WS w key val v' (acc ++ [x]) w' := by
  have hl := h.le
  refine ⟨?_, h.bP.keep hk (.inl (Nat.lt_succ_self _)), h.bel.trans (hk.below (B := w.heap.size) (Nat.le_succ _) h.bel.size), Nat.le_trans h.le hk.size⟩
  unfold PrsO RecsO
  rw [List.length_append, flat_append, flat_one]
  exact hown
theorem WS.cell {p : Addr} {u : Value} (h : WS w key val v acc wr) (hc : w.cell? p = some u) : wr.cell? p = some u := (h.bel.cell (lt_of_cell hc)).trans hc
end
theorem ws_len {w wr : World} {key : ByteArray} {val : Int} {v : Value} {acc : List (ByteArray × Int)} (h : WS w key val v acc wr) : ∃ a c, v = .slice a acc.length c := by
  obtain ⟨_, _, a, cap, hv, _⟩ := Own.sl h.own
  exact ⟨a, cap, hv⟩
def RetPairs (w : World) (es : List (ByteArray × Int)) (e : Ending) (w' : World) : Prop := ∃ v, e = .returned v ∧ PrsO w' w.heap.size w'.heap.size v es ∧ Below w.heap.size w w'

set_option maxRecDepth 100000 in
set_option maxHeartbeats 8000000 in
theorem l32With_any (v : Value) (ps : List (ByteArray × Int)) (key : ByteArray) (val : Int) (w : World) {lo hi : Nat} (h : Prs w lo hi v ps) (hx : ps.length ≤ 1048576) :
    Calls Tryz.prog 29 #[v, .agg #[.string key, .int .i64 val]] w (RetPairs w (withP ps key val)) := by
  obtain ⟨a, cap, rfl, hn, hcell⟩ := h.open
  have HCELL := Lib.hid hcell; clear hcell
  have hb1 : Below w.heap.size w (w.alloc (.cells #[.string key, .int .i64 val] 52)) := (Below.refl _ _).alloc (Nat.le_refl _) _
  have kP := Blk.new w #[.string key, .int .i64 val] 52
  have hb2 : Below (w.alloc (.cells #[.string key, .int .i64 val] 52)).heap.size (w.alloc (.cells #[.string key, .int .i64 val] 52)) ((w.alloc (.cells #[.string key, .int .i64 val] 52)).alloc (.cells #[] 52)) := (Below.refl _ _).alloc (Nat.le_refl _) _
  have he : (w.alloc (.cells #[.string key, .int .i64 val] 52)).heap.size = w.heap.size + 1 := by simp
  have hO : PrsO ((w.alloc (.cells #[.string key, .int .i64 val] 52)).alloc (.cells #[] 52)) (w.alloc (.cells #[.string key, .int .i64 val] 52)).heap.size ((w.alloc (.cells #[.string key, .int .i64 val] 52)).alloc (.cells #[] 52)).heap.size (.slice (some ⟨(w.alloc (.cells #[.string key, .int .i64 val] 52)).heap.size, 0, none⟩) 0 0) [] := RecsO.empty _ _ (Nat.le_refl _)
  have hW : WS w key val (.slice (some ⟨w.heap.size + 1, 0, none⟩) 0 0) [] ((w.alloc (.cells #[.string key, .int .i64 val] 52)).alloc (.cells #[] 52)) := by
    rw [he] at hO
    exact ⟨hO, kP.below hb2, below_step hb1 hb2 hb1.size, by have := hb2.size; omega⟩
  have HW := Lib.hid hW
  clear hb1 hb2 hO kP he hW
  go_enter Tryz.func29, Tryz.ntmps29
  go_wp2_with fail
  go_loopw [5, 6, 7] (fun out put i wr => ∃ (k : Nat) (acc : List (ByteArray × Int)) (pt : Bool), k ≤ ps.length ∧ i = .int .i64 k ∧ put = .bool pt ∧ accW key val ps k = (acc, pt) ∧ WS w key val out acc wr) (fun _ _ i _ => ps.length - (intOf i).toNat)
  case atStart => exact ⟨0, [], false, Nat.zero_le _, rfl, rfl, rfl, by have := HW.out; simpa using this⟩
  case round =>
    obtain ⟨k, acc, pt, hk, rfl, rfl, hacc, hS⟩ := hrel
    obtain ⟨ao, co, hvo⟩ := ws_len hS
    subst hvo
    have hal : acc.length ≤ k + 1 := by
      have := accW_len key val ps k hk
      rw [hacc] at this
      dsimp only at this
      omega
    have p0 := hS.bP.cell 0 rfl
    have p1 := hS.bP.cell 1 rfl
    have hlw := hS.bP.lt
    have HACC := Lib.hid hacc
    clear hacc
    by_cases hlt : k < ps.length
    · obtain ⟨b, o, _, hbh, hi', c0, c1⟩ := HCELL.out k hlt
      have hix := hi' k rfl
      have d0 := hS.cell c0
      have d1 := hS.cell c1
      have HC0 := Lib.hid c0
      have HC1 := Lib.hid c1
      have dl := lt_of_cell d0
      clear hi' c0 c1
      have hstep : accW key val ps (k + 1) = stepW key val (acc, pt) (pk ps k, pv ps k) := by rw [accW_step hlt, HACC.out]
      obtain ⟨l, hl⟩ : ∃ l, Op.bytesLess (pk ps k).toList key.toList = l := ⟨_, rfl⟩
      obtain ⟨q, hq⟩ : ∃ q, ((pk ps k).toList == key.toList) = q := ⟨_, rfl⟩
      have hst2 : accW key val ps (k + 1) = (let st1 := if pt || l then (acc, pt) else (acc ++ [(key, val)], true); if q then st1 else (st1.1 ++ [(pk ps k, pv ps k)], st1.2)) := by
        rw [hstep]; unfold stepW; dsimp only; rw [hl, hq]
      have HST := Lib.hid hst2
      clear hst2 hstep
      have hS1 : ∀ n, WS w key val (.slice ao acc.length co) acc (wr.drewN n) := fun n => hS.below (below_drewN (Below.refl _ _) n)
      have HS1 := Lib.hid hS1; clear hS1
      cases hpl : (pt || l)
      · -- the new pair is put
        have hpt : pt = false := by cases pt; rfl; simp at hpl
        have hll : l = false := by cases l; rfl; simp at hpl
        subst hpt
        subst hll
        have HPL := Lib.hid hpl; clear hpl
        go_wp2_with fail
        go_quiet (fail)
        go_wp2_with (at_builtin; refine wpl_append elPair rfl _ _ rfl rfl ((HS1.out _).below ((Below.refl _ _).alloc (Nat.le_refl _) _)).own (Nat.le_trans hS.le (by simp)) ⟨(wr.drewN _).heap.size, 0, none⟩ 1 1 [.string key, .int .i64 val] rfl rfl (cell_two_new _ _ _ _) (pair_one _ _) (by omega) (by unfold maxLen; omega) ?_; intro v2 w2 hown2 hk2)
        have S2 := WS.app (x := (key, val)) ((HS1.out _).below ((Below.refl _ _).alloc (Nat.le_refl _) _)) hown2 hk2
        have hal2 : (acc ++ [(key, val)]).length ≤ k + 2 := by simp; omega
        have HAC := Lib.hid (show (if (false || false) = true then (acc, false) else (acc ++ [(key, val)], true)) = (acc ++ [(key, val)], true) from rfl)
        replace HST := Lib.hid (show accW key val ps (k + 1) = (if q then (acc ++ [(key, val)], true) else ((acc ++ [(key, val)]) ++ [(pk ps k, pv ps k)], true)) from HST.out)
        clear hown2 hk2 d0 d1 dl p0 p1 hlw hS HPL HAC
        generalize acc ++ [(key, val)] = acc2 at *
        have HD2 := Lib.hid (fun n => S2.below (below_drewN (Below.refl w2.heap.size w2) n))
        have d0 := S2.cell HC0.out
        have d1 := S2.cell HC1.out
        have dl := lt_of_cell d0
        have p0 := S2.bP.cell 0 rfl
        have p1 := S2.bP.cell 1 rfl
        have hlw := S2.bP.lt
        have hsle := S2.le
        clear S2
        cases q
        · go_quiet (fail)
          go_wp2_with (at_builtin; refine wpl_append elPair rfl _ _ rfl rfl ((HD2.out _).below ((Below.refl _ _).alloc (Nat.le_refl _) _)).own (Nat.le_trans hsle (by simp)) ⟨w2.heap.size, 0, none⟩ 1 1 [.string (pk ps k), .int .i64 (pv ps k)] rfl rfl (cell_two_new (w2.drewN _) _ _ _) (pair_one _ _) (by omega) (by unfold maxLen; omega) ?_; intro v3 w3 hown3 hk3)
          have S3 := WS.app (x := (pk ps k, pv ps k)) ((HD2.out _).below ((Below.refl _ _).alloc (Nat.le_refl _) _)) hown3 hk3
          have HR3 := Lib.hid (show accW key val ps (k + 1) = (acc2 ++ [(pk ps k, pv ps k)], true) by rw [HST.out]; rfl)
          clear hown3 hk3 d0 d1 dl p0 p1 hlw hix
          go_wp2_with fail
          go_roundw
          case rel => exact ⟨k + 1, _, true, by omega, by go_num, rfl, HR3.out, S3⟩
          case measure => simp [intOf]; omega
        · have HR3 := Lib.hid (show accW key val ps (k + 1) = (acc2, true) by rw [HST.out]; rfl)
          go_quiet (fail)
          go_wp2_with fail
          go_roundw
          case rel => exact ⟨k + 1, _, true, by omega, by go_num, rfl, HR3.out, HD2.out _⟩
          case measure => simp [intOf]; omega
      · have hw2 : pt = true ∨ (pt = false ∧ l = true) := by
          cases pt
          · exact .inr ⟨rfl, by simpa using hpl⟩
          · exact .inl rfl
        have HPL := Lib.hid hpl
        replace HST := Lib.hid (show accW key val ps (k + 1) = (if q then (acc, pt) else (acc ++ [(pk ps k, pv ps k)], pt)) by rw [HST.out, hpl]; rfl)
        clear hpl
        rcases hw2 with rfl | ⟨rfl, rfl⟩
        all_goals
          go_wp2_with fail
          go_quiet (fail)
          go_wp2_with fail
          have S2 := HS1.out nq
          generalize wr.drewN nq = w2 at *
          have hal2 := hal
          clear d0 d1 dl p0 p1 hlw hS
          have HD2 := Lib.hid (fun n => S2.below (below_drewN (Below.refl w2.heap.size w2) n))
          have d0 := S2.cell HC0.out
          have d1 := S2.cell HC1.out
          have dl := lt_of_cell d0
          have p0 := S2.bP.cell 0 rfl
          have p1 := S2.bP.cell 1 rfl
          have hlw := S2.bP.lt
          have hsle := S2.le
          clear S2
          cases q
          · go_quiet (fail)
            go_wp2_with (at_builtin; refine wpl_append elPair rfl _ _ rfl rfl ((HD2.out _).below ((Below.refl _ _).alloc (Nat.le_refl _) _)).own (Nat.le_trans hsle (by simp)) ⟨w2.heap.size, 0, none⟩ 1 1 [.string (pk ps k), .int .i64 (pv ps k)] rfl rfl (cell_two_new (w2.drewN _) _ _ _) (pair_one _ _) (by omega) (by unfold maxLen; omega) ?_; intro v3 w3 hown3 hk3)
            have S3 := WS.app (x := (pk ps k, pv ps k)) ((HD2.out _).below ((Below.refl _ _).alloc (Nat.le_refl _) _)) hown3 hk3
            have HR3 := Lib.hid (show accW key val ps (k + 1) = (acc ++ [(pk ps k, pv ps k)], _) by rw [HST.out]; rfl)
            clear hown3 hk3 d0 d1 dl p0 p1 hlw hix
            go_wp2_with fail
            go_roundw
            case rel => exact ⟨k + 1, _, _, by omega, by go_num, rfl, HR3.out, S3⟩
            case measure => simp [intOf]; omega
          · have HR3 := Lib.hid (show accW key val ps (k + 1) = (acc, _) by rw [HST.out]; rfl)
            go_quiet (fail)
            go_wp2_with fail
            go_roundw
            case rel => exact ⟨k + 1, _, _, by omega, by go_num, rfl, HR3.out, HD2.out _⟩
            case measure => simp [intOf]; omega
    · obtain rfl : k = ps.length := by omega
      cases pt
      · have HRR := Lib.hid (show withP ps key val = acc ++ [(key, val)] by unfold withP; rw [HACC.out]; rfl)
        go_wp2_with (at_builtin; refine wpl_append elPair rfl _ _ rfl rfl (hS.below ((Below.refl _ _).alloc (Nat.le_refl _) _)).own (Nat.le_trans hS.le (by simp)) ⟨wr.heap.size, 0, none⟩ 1 1 [.string key, .int .i64 val] rfl rfl (cell_two_new _ _ _ _) (pair_one _ _) (by omega) (by unfold maxLen; omega) ?_; intro v2 w2 hown2 hk2)
        have S2 := WS.app (x := (key, val)) (hS.below ((Below.refl _ _).alloc (Nat.le_refl _) _)) hown2 hk2
        clear hown2 hk2 hS p0 p1
        go_wp2_with fail
        go_ret
        refine ⟨_, rfl, ?_, S2.bel⟩
        rw [HRR.out]
        exact PrsO.wide S2.own (Nat.le_succ _) (Nat.le_refl _) (Nat.le_refl _)
      · have HRR := Lib.hid (show withP ps key val = acc by unfold withP; rw [HACC.out]; rfl)
        go_wp2_with fail
        go_ret
        refine ⟨_, rfl, ?_, hS.bel⟩
        rw [HRR.out]
        exact PrsO.wide hS.own (Nat.le_succ _) (Nat.le_refl _) (Nat.le_refl _)
end Go.Proofs.YtlihmomopofdnaaGreatDoor
