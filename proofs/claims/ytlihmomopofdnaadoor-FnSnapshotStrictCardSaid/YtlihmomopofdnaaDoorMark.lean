/-
  The walks of the exact laws' markText, markPairS, heldPairS, szCommand, toCommand.
-/
import Derived.Test.YtlihmomopofdnaaDoorPairU
import Derived.Test.YtlihmomopofdnaaDoorDraw
import Derived.Laws.BytesArg
namespace Go.Proofs.YtlihmomopofdnaaDoor
open Go.RowKit
set_option linter.unusedVariables false

/-- the digits of a mark -/
def dig (d : Nat) : ByteArray := ⟨#[UInt8.ofNat (48 + d)]⟩
def digs : Nat → Nat → ByteArray → ByteArray
  | 0, _, acc => acc
  | f + 1, k, acc => if k = 0 then acc else digs f (k / 10) (dig (k % 10) ++ acc)
def mtext (k : Nat) : ByteArray := if k = 0 then ⟨#[109, 48]⟩ else ⟨#[109]⟩ ++ digs 20 k ⟨#[]⟩
theorem dig_run (d : Nat) (w : World) : (convert 28 9 (.slice (some ⟨w.heap.size, 0, none⟩) 1 1)).run Tryd.prog (w.alloc (.cells #[.int .u8 (48 + (d : Int))] 5)) = .ok (.string (dig d)) (w.alloc (.cells #[.int .u8 (48 + (d : Int))] 5)) := by
  have := run_convert_bytes_arg (P := Tryd.prog) (w.alloc (.cells #[.int .u8 (48 + (d : Int))] 5)) 28 5 Tryd.underlying28 Tryd.underlying5 w.heap.size 0 1 1 [48 + (d : Int)] rfl (fun i hi => by
    obtain rfl : i = 0 := by omega
    rw [World.cell?_alloc_at _ _ _ _ rfl]
    rfl) 9 Tryd.underlying9
  rw [this]
  have e : strOfNums [48 + (d : Int)] = dig d := by
    unfold strOfNums dig
    have : (48 + (d : Int)).toNat = 48 + d := by omega
    simp [this]
  rw [e]

set_option maxRecDepth 100000 in
set_option maxHeartbeats 2000000 in
theorem markText_any (k0 : Int) (w : World) (h0 : 0 ≤ k0) (h1 : k0 ≤ 1000000000) :
    Calls Tryd.prog 30 #[.int .i64 k0] w fun e w' => e = .returned (.string (mtext k0.toNat)) ∧ Below w.heap.size w w' := by
  obtain ⟨k, rfl⟩ : ∃ k : Nat, k0 = (k : Int) := ⟨k0.toNat, by omega⟩
  by_cases hk : k = 0
  · subst hk
    go_enter Tryd.func30, Tryd.ntmps30
    go_wp2_with fail
    go_ret
    exact ⟨rfl, Below.refl _ _⟩
  · have hkp : ¬ ((k : Int) ≤ 0) := by omega
    go_enter Tryd.func30, Tryd.ntmps30
    go_wp2_with fail
    go_loopw [0, 3] (fun q out wr => ∃ (j f : Nat) (acc : ByteArray), q = .int .i64 j ∧ j ≤ k ∧ Hid (j < 10 ^ f) ∧ acc.size + f ≤ 20 ∧ out = .string acc ∧ Hid (digs f j acc = digs 20 k ⟨#[]⟩) ∧ Below w.heap.size w wr) (fun q _ _ => (intOf q).toNat)
    case atStart => exact ⟨k, 20, ⟨#[]⟩, rfl, Nat.le_refl _, Lib.hid (by omega), by decide, rfl, Lib.hid rfl, Below.refl _ _⟩
    case round =>
      obtain ⟨j, f, acc, rfl, hj, hjf, hf, rfl, HD, hb⟩ := hrel
      by_cases hlt : 0 < j
      · obtain ⟨g, rfl⟩ : ∃ g, f = g + 1 := ⟨f - 1, by
          rcases f with _ | f
          · have := hjf.out; simp at this; omega
          · rfl⟩
        have hr : (j : Int).tmod 10 = ((j % 10 : Nat) : Int) := by rw [Int.tmod_eq_emod_of_nonneg (by omega)]; omega
        have hq : (j : Int).tdiv 10 = ((j / 10 : Nat) : Int) := by rw [Int.tdiv_eq_ediv_of_nonneg (by omega)]; omega
        have hd : j % 10 < 10 := Nat.mod_lt _ (by decide)
        have HD2 : Hid (digs g (j / 10) (dig (j % 10) ++ acc) = digs 20 k ⟨#[]⟩) := by
          have := HD.out
          unfold digs at this
          rw [if_neg (by omega)] at this
          exact this
        have HJ : Hid (j / 10 < 10 ^ g) := by
          show _ < _
          have := hjf.out
          rw [Nat.pow_succ] at this
          omega
        generalize hdj : j % 10 = d at *
        have hjq : j / 10 < j := by omega
        generalize hjj : j / 10 = i at *
        have hij : i ≤ j := by omega
        have hcv := dig_run d wr
        have hw1 : IntKind.i64.wrap (48 + (d : Int)) = 48 + (d : Int) := wrap_i64 (by omega) (by omega)
        have hw2 : IntKind.u8.wrap (48 + (d : Int)) = 48 + (d : Int) := by
          have : d = 0 ∨ d = 1 ∨ d = 2 ∨ d = 3 ∨ d = 4 ∨ d = 5 ∨ d = 6 ∨ d = 7 ∨ d = 8 ∨ d = 9 := by omega
          rcases this with rfl | rfl | rfl | rfl | rfl | rfl | rfl | rfl | rfl | rfl <;> rfl
        have hb2 := Lib.hid (hb.alloc hb.size (.cells #[.int .u8 (48 + (d : Int))] 5))
        have hds : (dig d).size = 1 := rfl
        have hdd : (dig d ++ acc).size = 1 + acc.size := by rw [ByteArray.size_append, hds]
        have HDD := Lib.hid hdd
        have hlim : ¬ 9223372036854775807 < (dig d).size + acc.size := by omega
        clear hjf HD hdj hjj hdd hds
        go_wp2_with fail
        exact ⟨⟨i, g, _, rfl, by omega, HJ, by have := HDD.out; omega, rfl, HD2, hb2.out⟩, by simp [intOf]; omega⟩
      · have hnl : ¬ ((0 : Int) < (j : Int)) := by omega
        have hj0 : j = 0 := by omega
        have HE := Lib.hid (show acc = digs 20 k ⟨#[]⟩ by
          have := HD.out
          rw [← this]
          rcases f with _ | f
          · rfl
          · unfold digs; rw [if_pos hj0])
        have HK := Lib.hid hk
        have hlim : ¬ 9223372036854775807 < 1 + acc.size := by omega
        have hlim2 : ¬ 9223372036854775807 < (⟨#[109]⟩ : ByteArray).size + acc.size := by have : (⟨#[109]⟩ : ByteArray).size = 1 := rfl; omega
        clear hk hj0
        go_wp2_with fail
        go_ret
        refine ⟨?_, hb⟩
        show Ending.returned (.string (⟨#[109]⟩ ++ acc)) = _
        unfold mtext
        rw [HE.out]; simp [HK.out]

/-- the marks: the text of k, the number k + 1 in the first pair, and so on -/
def marksP (k : Int) (n : Nat) : List (ByteArray × Int) := (List.range n).map fun (i : Nat) => (mtext (k + 2 * (i : Int)).toNat, k + 2 * (i : Int) + 1)
theorem marksP_len (k : Int) (n : Nat) : (marksP k n).length = n := by simp [marksP]
theorem marksP_get {k : Int} {n j : Nat} (h : j < n) : (marksP k n)[j]? = some (mtext (k + 2 * (j : Int)).toNat, k + 2 * (j : Int) + 1) := by simp [marksP, h]

set_option maxRecDepth 100000 in
set_option maxHeartbeats 4000000 in
theorem markPairS_any (v : Value) (es : List (ByteArray × Int)) (k0 : Int) (w : World) {lo hi : Nat} (h : PrsO w lo hi v es) (h0 : 0 ≤ k0) (h1 : k0 + 2 * es.length ≤ 1000000000) :
    Calls Tryd.prog 11 #[v, .int .i64 k0] w fun e w' => e = .returned (.int .i64 (k0 + 2 * es.length)) ∧ PrsO w' lo hi v (marksP k0 es.length) ∧ Keep lo hi w w' := by
  obtain ⟨a, cap, rfl, hn, hcell⟩ := RecsO.open2 rfl elPair h
  go_enter Tryd.func11, Tryd.ntmps11
  go_wp2_with fail
  go_loopw [1, 5] (fun q i wr => ∃ k : Nat, k ≤ es.length ∧ i = .int .i64 k ∧ q = .int .i64 (k0 + 2 * k) ∧ Keep lo hi w wr ∧
      ∃ ys, ys.length = es.length ∧ eqToE ys (marksP k0 es.length) k ∧ PrsO wr lo hi (.slice a es.length cap) ys) (fun _ i _ => es.length - (intOf i).toNat)
  case atStart => exact ⟨0, Nat.zero_le _, rfl, by simp, Keep.refl _ _ _, es, rfl, eqToE_zero _ _, h⟩
  case round =>
    obtain ⟨k, hk, rfl, rfl, hkp, ys, hy, hc, hO⟩ := hrel
    have HC := Lib.hid hc; clear hc
    have HY := Lib.hid hy; clear hy
    by_cases hlt : k < es.length
    · obtain ⟨b, o, hp1, hp2, hi', hst⟩ := hcell k hlt
      have HST := Lib.hid hst
      have HO := Lib.hid hO
      have HKP := Lib.hid hkp
      have HP := Lib.hid (And.intro hp1 hp2)
      have hix := hi' k rfl
      have HCELL := Lib.hid hcell
      clear hst hO hkp hi' hcell hp1 hp2
      go_wp2_with fail
      refine (markText_any (k0 + 2 * (k : Int)) _ (by omega) (by omega)).mono ?_
      rintro e w2 ⟨rfl, hb2⟩
      have hO2 := PrsO.below HO.out hb2
      obtain ⟨hrd, f0, f1, hset⟩ := HST.out w2 ys HY.out hO2
      obtain ⟨y, hyk⟩ : ∃ y, ys[k]? = some y := ⟨_, List.getElem?_eq_getElem (by rw [HY.out]; exact hlt)⟩
      obtain ⟨r0, r1⟩ := hrd y _ _ hyk rfl
      have hO' := Lib.hid (hset (mtext (k0 + 2 * (k : Int)).toNat, k0 + 2 * (k : Int) + 1) _ _ rfl)
      have hkp' := Lib.hid (keep_set2 (HKP.out.trans (Keep.of_below hb2 _ _)) HP.out.1 HP.out.2 (o := o) (p := o + 1) (.string (mtext (k0 + 2 * (k : Int)).toNat)) (.int .i64 (k0 + 2 * k + 1)))
      have HS := Lib.hid (eqToE_set (x := (mtext (k0 + 2 * (k : Int)).toNat, k0 + 2 * (k : Int) + 1)) (ys := marksP k0 es.length) (by rw [HY.out, marksP_len]) (by rw [HY.out]; exact hlt) HC.out (marksP_get hlt))
      have HL : Hid ((ys.set k (mtext (k0 + 2 * (k : Int)).toNat, k0 + 2 * (k : Int) + 1)).length = es.length) := by show _ = _; rw [List.length_set]; exact HY.out
      clear hset hrd hb2 hyk hO2
      generalize mtext (k0 + 2 * (k : Int)).toNat = mt at *
      as_aux_lemma =>
        go_wp2_with fail
        go_roundw
        case rel => exact ⟨k + 1, by omega, by go_num, congrArg (Value.int .i64) (by omega), hkp'.out, _, HL.out, HS.out, hO'.out⟩
        case measure => simp [intOf]; omega
    · have hke : k = es.length := by omega
      have HM := Lib.hid (eq_of_eqToE (by rw [HY.out, marksP_len]) (by rw [HY.out]; exact hlt) HC.out)
      have HE := Lib.hid hke; clear hke
      have HO := Lib.hid hO
      have HKP := Lib.hid hkp
      clear hcell hO hkp
      go_wp2_with fail
      go_ret
      have hO2 := HO.out
      rw [HM.out] at hO2
      exact ⟨ret_int (by rw [HE.out]), hO2, HKP.out⟩

set_option maxRecDepth 100000 in
set_option maxHeartbeats 4000000 in
theorem heldPairS_any (v : Value) (n : Nat) (k0 : Int) (w : World) {lo hi : Nat} (h : Prs w lo hi v (marksP k0 n)) (h0 : 0 ≤ k0) (h1 : k0 + 2 * n ≤ 1000000000) :
    Calls Tryd.prog 12 #[v, .int .i64 k0] w fun e w' => e = .returned (.int .i64 (k0 + 2 * n)) ∧ Below w.heap.size w w' := by
  obtain ⟨a, cap, rfl, hn, hcell⟩ := Recs.open elPair h
  rw [marksP_len] at hcell hn
  rw [marksP_len]
  have HCELL := Lib.hid hcell
  clear hcell
  go_enter Tryd.func12, Tryd.ntmps12
  go_wp2_with fail
  go_loopw [1, 5] (fun q i wr => ∃ k : Nat, k ≤ n ∧ i = .int .i64 k ∧ q = .int .i64 (k0 + 2 * k) ∧ Below w.heap.size w wr) (fun _ i _ => n - (intOf i).toNat)
  case atStart => exact ⟨0, Nat.zero_le _, rfl, by simp, Below.refl _ _⟩
  case round =>
    obtain ⟨k, hk, rfl, rfl, hb⟩ := hrel
    have HB := Lib.hid hb
    by_cases hlt : k < n
    · obtain ⟨b, o, _, _, hi, hd⟩ := HCELL.out k _ (marksP_get hlt)
      obtain ⟨q0, q1⟩ := pair_cells hd
      replace q0 := below_cell hb q0
      replace q1 := below_cell hb q1
      replace q0 : wr.cell? ⟨b, o, none⟩ = some (.string (mtext (k0 + 2 * (k : Int)).toNat)) := q0
      replace q1 : wr.cell? ⟨b, o + 1, none⟩ = some (.int .i64 (k0 + 2 * (k : Int) + 1)) := q1
      have hix := hi k rfl
      have b1 : (k0 + 2 * (k : Int) + 1 != k0 + 2 * (k : Int) + 1) = false := by simp
      have hl0 := lt_of_cell q0
      have HQ1 := Lib.hid q1
      have HMT : Hid (∀ wx, Calls Tryd.prog 30 #[.int .i64 (k0 + 2 * (k : Int))] wx fun e w' => e = .returned (.string (mtext (k0 + 2 * (k : Int)).toNat)) ∧ Below wx.heap.size wx w') := Lib.hid fun wx => markText_any _ wx (by omega) (by omega)
      clear hi hd hb q1
      generalize mtext (k0 + 2 * (k : Int)).toNat = mt at *
      have hD : Below wr.heap.size wr wr.drew := (Below.refl _ _).drew
      go_wp2_with fail
      go_region_held3 (fun w' => w'.cell? ⟨b, o, none⟩ = some (.string mt) ∧ Below wr.heap.size wr w')
        (first
          | exact ⟨q0, hD⟩
          | exact ⟨below_cell hb6 q0, hb6⟩
          | (go_split_ands; refine ⟨?_, ?_⟩ <;> assumption))
        ((go_at_call 30; refine (HMT.out _).mono ?_; rintro e w6 ⟨rfl, hb6⟩; replace hb6 := below_step hD hb6 (Nat.le_refl _)))
      all_goals
        have d1 := below_cell hb6 HQ1.out
        have HB6 := Lib.hid (below_step HB.out hb6 HB.out.size)
        clear hD
        go_wp2_with fail
        go_roundw
      all_goals first | exact ⟨k + 1, by omega, by go_num, congrArg (Value.int .i64) (by omega), HB6.out⟩ | (simp [intOf]; omega)
    · have HE : Hid (k = n) := by show k = n; omega
      clear hb
      go_wp2_with fail
      go_ret
      exact ⟨ret_int (by rw [HE.out]), HB.out⟩
end Go.Proofs.YtlihmomopofdnaaDoor
