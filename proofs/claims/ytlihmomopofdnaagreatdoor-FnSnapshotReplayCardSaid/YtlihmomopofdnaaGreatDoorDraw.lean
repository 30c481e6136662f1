/-
  The walks of the reference's reader of a code: it picks a number in range, whatever the code.
-/
import Derived.Test.YtlihmomopofdnaaGreatDoorBase
namespace Go.Proofs.YtlihmomopofdnaaGreatDoor
open Go.RowKit
set_option linter.unusedVariables false

theorem elByte : ElTy Tryz.prog 22 5 (.int .u8 0) 1 1 := ⟨Tryz.underlying22, by kernel_rfl, rfl, by decide⟩
def Bytes (w : World) (lo hi : Nat) (v : Value) (n : Nat) : Prop :=
  ∃ zs : List Int, zs.length = n ∧ (∀ z ∈ zs, 0 ≤ z ∧ z ≤ 255) ∧ Sl w lo hi v n 1 (zs.map (.int .u8))
theorem Bytes.below {w w' : World} {lo hi : Nat} {v : Value} {n : Nat} (h : Bytes w lo hi v n) (hb : Below w.heap.size w w') : Bytes w' lo hi v n := by
  obtain ⟨zs, h1, h2, h3⟩ := h; exact ⟨zs, h1, h2, h3.below hb⟩
theorem Bytes.keep {w w' : World} {lo hi l1 h1 : Nat} {v : Value} {n : Nat} (h : Bytes w lo hi v n) (hk : Keep l1 h1 w w') (ho : hi ≤ l1 ∨ h1 ≤ lo) : Bytes w' lo hi v n := by
  obtain ⟨zs, a, b, c⟩ := h; exact ⟨zs, a, b, c.keep hk ho⟩
theorem Bytes.open {w : World} {lo hi : Nat} {v : Value} {n : Nat} (h : Bytes w lo hi v n) :
    ∃ a cap, v = .slice a n cap ∧ n ≤ 9223372036854775807 ∧ ∀ k, k < n → ∃ (p : Addr) (z : Int), lo ≤ p.block ∧ p.block < hi ∧ 0 ≤ z ∧ z ≤ 255 ∧
      (∀ (i : Int), i = k → ∀ wx, (Instr.indexAt 22 (.slice a n cap) (.int .i64 i)).run Tryz.prog wx = .ok (.pointer (some p)) wx) ∧
      w.cell? p = some (.int .u8 z) := by
  obtain ⟨zs, hl, hz, hs⟩ := h
  obtain ⟨a, cap, hv, hn, hc⟩ := Sl.open elByte hs
  refine ⟨a, cap, hv, hn, fun k hk => ?_⟩
  obtain ⟨b, o, h1, h2, hi, hcell⟩ := hc k hk
  have hk' : k < zs.length := by omega
  exact ⟨⟨b, o + 0, none⟩, zs[k], h1, h2, (hz _ (List.getElem_mem hk')).1, (hz _ (List.getElem_mem hk')).2, hi, hcell 0 _ (by decide) (by simp [hk'])⟩

/-- g is a reader's block; it has been asked at most q times. -/
def Rdr (w : World) (g : Nat) (q : Int) : Prop :=
  ∃ v n p lo hi, w.heap[g]? = some (.cells #[v, .int .i64 p] 66 (0, 0)) ∧ Bytes w lo hi v n ∧ hi ≤ g ∧ n ≤ 2000 ∧ 0 ≤ p ∧ p ≤ q
def RetPick (w : World) (g : Nat) (q n : Int) (e : Ending) (w' : World) : Prop :=
  ∃ x, e = .returned (.int .i64 x) ∧ 0 ≤ x ∧ x < n ∧ Rdr w' g (q + 1) ∧ Keep g (g + 1) w w'

theorem wrap_i64 {n : Int} (h : -9223372036854775808 ≤ n) (h2 : n ≤ 9223372036854775807) : IntKind.i64.wrap n = n := IntWalk.i64_in n ⟨h, h2⟩
theorem xor_range {a b : Int} (h1 : 0 ≤ a) (h2 : a < 4611686018427387904) (h3 : 0 ≤ b) (h4 : b < 4611686018427387904) : 0 ≤ bits .xor .i64 a b ∧ bits .xor .i64 a b < 4611686018427387904 := by
  obtain ⟨a, rfl⟩ := Int.eq_ofNat_of_zero_le h1
  obtain ⟨b, rfl⟩ := Int.eq_ofNat_of_zero_le h3
  have hx : a ^^^ b < 2 ^ 62 := Nat.xor_lt_two_pow (by omega) (by omega)
  have e1 : (BitVec.ofInt 64 (a : Int)).toNat = a := by
    rw [BitVec.ofInt_natCast, BitVec.toNat_ofNat]; exact Nat.mod_eq_of_lt (by omega)
  have e2 : (BitVec.ofInt 64 (b : Int)).toNat = b := by
    rw [BitVec.ofInt_natCast, BitVec.toNat_ofNat]; exact Nat.mod_eq_of_lt (by omega)
  have e : bits .xor .i64 (a : Int) (b : Int) = ((a ^^^ b : Nat) : Int) := by
    show IntKind.i64.wrap ((BitVec.ofInt 64 (a : Int) ^^^ BitVec.ofInt 64 (b : Int)).toNat : Int) = _
    rw [BitVec.toNat_xor, e1, e2]
    exact wrap_i64 (by omega) (by omega)
  rw [e]
  omega

theorem Rdr.stored {w : World} {g : Nat} {v : Value} {n : Nat} {p : Int} {lo hi : Nat} (hg : w.heap[g]? = some (.cells #[v, .int .i64 p] 66 (0, 0)))
    (hb : Bytes w lo hi v n) (hh : hi ≤ g) (hm : n ≤ 2000) {q p' : Int} (p0 : 0 ≤ p') (p1 : p' ≤ q) : Rdr (w.setCell ⟨g, 1, none⟩ (.int .i64 p')) g q ∧ Keep g (g + 1) w (w.setCell ⟨g, 1, none⟩ (.int .i64 p')) := by
  have hk : Keep g (g + 1) w (w.setCell ⟨g, 1, none⟩ (.int .i64 p')) := keep_setCell (p := ⟨g, 1, none⟩) (Keep.refl g (g + 1) w) (Nat.le_refl g) (Nat.lt_succ_self g) _
  refine ⟨⟨v, n, p', lo, hi, ?_, hb.keep hk (.inl hh), hh, hm, p0, p1⟩, hk⟩
  simp only [World.setCell]
  rw [Array.getElem?_modify]
  simp [hg]

theorem Rdr.drawn {w w' : World} {g : Nat} {q : Int} (h : Rdr w g q) (hw : ∃ n, w' = w.drewN n) : Rdr w' g q := by
  obtain ⟨n, rfl⟩ := hw
  obtain ⟨v, n', p, lo, hi, hg, hb, r⟩ := h
  exact ⟨v, n', p, lo, hi, hg, hb.below (below_drewN (Below.refl _ _) _), r⟩

set_option maxHeartbeats 2000000 in
theorem pick_any (g : Nat) (q n : Int) (w : World) (h : Rdr w g q) (hn : 1 ≤ n) (hq : q ≤ 1000000000) :
    Calls Tryz.prog 13 #[.pointer (some ⟨g, 0, none⟩), .int .i64 n] w (RetPick w g q n) := by
  obtain ⟨v, m, p, lo, hi, hg, hb, hh, hm, p0, p1⟩ := h
  have hc0 : w.cell? ⟨g, 0, none⟩ = some v := by simp [World.cell?, hg]
  have hc1 : w.cell? ⟨g, 1, none⟩ = some (.int .i64 p) := by simp [World.cell?, hg]
  have hf1 : w.frozen? ⟨g, 1, none⟩ = false := by simp [World.frozen?, hg]
  have hst := Rdr.stored (p' := p + 1) (q := q + 1) hg hb hh hm (by omega) (by omega)
  have HT := Lib.hid hst; clear hst
  obtain ⟨a, cap, rfl, hn1, hcell⟩ := hb.open
  have HG := Lib.hid hg; clear hg
  have hn2 : ¬ n < 1 := by omega
  rcases Nat.eq_zero_or_pos m with h0 | h0
  · subst h0
    clear hcell
    go_enter Tryz.func13, Tryz.ntmps13
    go_wp2
    go_ret
    exact ⟨0, rfl, by omega, by omega, HT.out⟩
  · have hm0 : ((m : Int) == 0) = false := by rw [beq_eq_false_iff_ne]; omega
    by_cases hlt : p < (m : Int)
    · obtain ⟨c, z, hc1', hc2', z0, z1, hix, hcz⟩ := hcell p.toNat (by omega)
      have hix1 := hix p (by omega)
      have hcz1 : (w.setCell ⟨g, 1, none⟩ (.int .i64 (p + 1))).cell? c = some (.int .u8 z) := by
        rw [(HT.out.2.below (Nat.le_refl _) (by have := lt_of_cell hc0; exact Nat.le_of_lt this)).cell (by omega)]; exact hcz
      have hz : 0 ≤ z % n ∧ z % n < n := ⟨Int.emod_nonneg _ (by omega), Int.emod_lt_of_pos _ (by omega)⟩
      have HZ := Lib.hid hz
      clear hix hcell hcz hz
      go_enter Tryz.func13, Tryz.ntmps13
      go_wp2
      go_ret
      exact ⟨z % n, rfl, HZ.out.1, HZ.out.2, HT.out⟩
    · have hmp : (0 : Int) < (m : Int) := by omega
      obtain ⟨c, z, hc1', hc2', z0, z1, hix, hcz⟩ := hcell (p % (m : Int)).toNat (by have := Int.emod_lt_of_pos p hmp; have := Int.emod_nonneg p (b := (m : Int)) (by omega); omega)
      obtain ⟨c', y, hd1', hd2', y0, y1, hjx, hcy⟩ := hcell ((p * 7 + 3) % (m : Int)).toNat (by have := Int.emod_lt_of_pos (p * 7 + 3) hmp; have := Int.emod_nonneg (p * 7 + 3) (b := (m : Int)) (by omega); omega)
      have hix1 := hix (p.tmod (m : Int)) (by rw [Int.tmod_eq_emod_of_nonneg p0]; have := Int.emod_nonneg p (b := (m : Int)) (by omega); omega)
      have hjx1 := hjx ((p * 7 + 3).tmod (m : Int)) (by rw [Int.tmod_eq_emod_of_nonneg (by omega)]; have := Int.emod_nonneg (p * 7 + 3) (b := (m : Int)) (by omega); omega)
      have hgs : g ≤ w.heap.size := Nat.le_of_lt (lt_of_cell hc0)
      have hcz1 : (w.setCell ⟨g, 1, none⟩ (.int .i64 (p + 1))).cell? c = some (.int .u8 z) := by
        rw [(HT.out.2.below (Nat.le_refl _) hgs).cell (by omega)]; exact hcz
      have hcy1 : (w.setCell ⟨g, 1, none⟩ (.int .i64 (p + 1))).cell? c' = some (.int .u8 y) := by
        rw [(HT.out.2.below (Nat.le_refl _) hgs).cell (by omega)]; exact hcy
      obtain ⟨d, hd, d0, d1⟩ : ∃ d : Int, p.tdiv (m : Int) = d ∧ 0 ≤ d ∧ d ≤ p :=
        ⟨_, rfl, Int.tdiv_nonneg p0 (by omega), by rw [Int.tdiv_eq_ediv_of_nonneg p0]; exact Int.ediv_le_self _ p0⟩
      have hc0' : (w.setCell ⟨g, 1, none⟩ (.int .i64 (p + 1))).cell? ⟨g, 0, none⟩ = some (.slice a m cap) := by
        rw [World.cell?_setCell_other _ _ _ _ (by simp)]; exact hc0
      clear hix hjx hcell hcz hcy
      go_enter Tryz.func13, Tryz.ntmps13
      go_wp2
      generalize hw1 : w.setCell ⟨g, 1, none⟩ (.int .i64 (p + 1)) = w1 at *
      have HW := Lib.hid hw1; clear hw1
      have m1 : ¬ (m : Int) = 0 := by omega
      have m2 : ¬ m = 0 := by omega
      have s1 : IntKind.i64.wrap (p * 7) = p * 7 := wrap_i64 (by omega) (by omega)
      have s2 : IntKind.i64.wrap (p * 7 + 3) = p * 7 + 3 := wrap_i64 (by omega) (by omega)
      have s3 : IntKind.i64.wrap z = z := wrap_i64 (by omega) (by omega)
      have s4 : IntKind.i64.wrap y = y := wrap_i64 (by omega) (by omega)
      have s5 : IntKind.i64.wrap (z * 131) = z * 131 := wrap_i64 (by omega) (by omega)
      have s6 : IntKind.i64.wrap (y * 1117) = y * 1117 := wrap_i64 (by omega) (by omega)
      have s7 : IntKind.i64.wrap (z * 131 + y * 1117) = z * 131 + y * 1117 := wrap_i64 (by omega) (by omega)
      have s8 : IntKind.i64.wrap (p * 29) = p * 29 := wrap_i64 (by omega) (by omega)
      have s9 : IntKind.i64.wrap (z * 131 + y * 1117 + p * 29) = z * 131 + y * 1117 + p * 29 := wrap_i64 (by omega) (by omega)
      have s10 : IntKind.i64.wrap d = d := wrap_i64 (by omega) (by omega)
      have s11 : IntKind.i64.wrap (d * 53) = d * 53 := wrap_i64 (by omega) (by omega)
      have s12 : IntKind.i64.wrap (z * 131 + y * 1117 + p * 29 + d * 53) = z * 131 + y * 1117 + p * 29 + d * 53 := wrap_i64 (by omega) (by omega)
      go_quiet (fail)
      clear s1 s2 s3 s4 s5 s6 s7 s8 s9 s10 s11 s12 m1 m2 hix1 hjx1 hd
      obtain ⟨x, hx, x0, x1⟩ : ∃ x : Int, z * 131 + y * 1117 + p * 29 + d * 53 = x ∧ 0 ≤ x ∧ x < 4611686018427387904 := ⟨_, rfl, by omega, by omega⟩
      rw [hx]
      clear hx
      obtain ⟨r0, r1⟩ := xor_range x0 x1 (b := x / 64) (by omega) (by omega)
      have HZ := Lib.hid (show 0 ≤ bits .xor .i64 x (x / 64) % n ∧ bits .xor .i64 x (x / 64) % n < n from ⟨Int.emod_nonneg _ (by omega), Int.emod_lt_of_pos _ (by omega)⟩)
      go_wp2
      go_ret
      refine ⟨_, rfl, HZ.out.1, HZ.out.2, ?_⟩
      have h1 := HT.out
      exact ⟨h1.1.drawn ⟨_, rfl⟩, h1.2.trans (Keep.of_below (below_drewN (Below.refl _ _) _) _ _)⟩

theorem Bytes.take {w : World} {lo hi n k cap : Nat} {a : Option Addr} (h : Bytes w lo hi (.slice a n cap) n) (hk : k ≤ n) : Bytes w lo hi (.slice a k cap) k := by
  obtain ⟨zs, hl, hz, hlen, hh, a', cap', hv, hn, hc⟩ := h
  cases hv
  refine ⟨zs.take k, by rw [List.length_take]; omega, fun z hz' => hz z (List.mem_of_mem_take hz'), by simp; omega, hh, a, cap, rfl, ⟨by have := hn.1; omega, hn.2⟩, fun h0 => ?_⟩
  obtain ⟨b, off, ha, h1, h2, hcell⟩ := hc (by omega)
  refine ⟨b, off, ha, h1, h2, fun j u hu => hcell j u ?_⟩
  rw [List.map_take, List.getElem?_take] at hu
  split at hu
  · exact hu
  · cases hu

def RetOpen (w : World) (e : Ending) (w' : World) : Prop :=
  e = .returned (.pointer (some ⟨w.heap.size, 0, none⟩)) ∧ Rdr w' w.heap.size 0 ∧ Below w.heap.size w w' ∧ w'.heap.size = w.heap.size + 1

theorem rdr_new {w : World} {v : Value} {n lo hi : Nat} (hb : Bytes w lo hi v n) (hn : n ≤ 2000) : Rdr (w.alloc (.cells #[v, .int .i64 0] 66)) w.heap.size 0 :=
  ⟨v, n, 0, lo, hi, heap_alloc_new w _, hb.below ((Below.refl _ _).alloc (Nat.le_refl _) _), by obtain ⟨_, _, _, h⟩ := hb; exact h.2.1, hn, Int.le_refl _, Int.le_refl _⟩

set_option maxHeartbeats 1000000 in
theorem open_any (v : Value) (n : Nat) (w : World) {lo hi : Nat} (h : Bytes w lo hi v n) :
    Calls Tryz.prog 11 #[v] w (RetOpen w) := by
  obtain ⟨a, cap, hv, hn1, _⟩ := h.open
  subst hv
  have HB := Lib.hid h; clear h
  by_cases hlt : n ≤ 2000
  · go_enter Tryz.func11, Tryz.ntmps11
    go_wp2
    go_ret
    exact ⟨rfl, rdr_new HB.out hlt, (Below.refl _ _).alloc (Nat.le_refl _) _, by simp⟩
  · have hcap : n ≤ cap := by obtain ⟨_, _, _, hs⟩ := HB.out; exact hs.cap
    have hle : 2000 ≤ n := by omega
    go_enter Tryz.func11, Tryz.ntmps11
    go_wp2
    go_ret
    exact ⟨rfl, rdr_new (HB.out.take hle) (Nat.le_refl _), (Below.refl _ _).alloc (Nat.le_refl _) _, by simp⟩
end Go.Proofs.YtlihmomopofdnaaGreatDoor
