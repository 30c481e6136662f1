/-
  The walks of LogOpen and LogValues of both sides.
-/
import Derived.Test.YthehnpkjnilgiaaLogI
namespace Go.Proofs.Ythehnpkjnilgiaa
open Go.RowKit
set_option linter.unusedVariables false

def openTo (es : List (Int × Int)) (k : Nat) : List Int := (List.range k).map fun j => cfgAt es ((es.length : Int) + (j : Nat))
theorem openTo_step (es : List (Int × Int)) (k : Nat) : openTo es (k + 1) = openTo es k ++ [cfgAt es ((es.length : Int) + k)] := by
  simp [openTo, List.range_succ]
theorem openTo_len (es : List (Int × Int)) (k : Nat) : (openTo es k).length = k := by simp [openTo]
def openL (n : Int) (es : List (Int × Int)) : List Int := if logValid n es then openTo es 2 else []
def valuesL (n : Int) (es : List (Int × Int)) : List Int := if logValid n es then valTo es es.length else []
theorem ints_snoc {w : World} {lo hi : Nat} {v : Value} {xs : List Int} {x : Int} (h : Own w lo hi 3 v (xs.length + 1) 1 (xs.map (.int .i64) ++ [.int .i64 x])) : IntsO w lo hi v (xs ++ [x]) := by
  unfold IntsO; rw [List.length_append, List.map_append]; exact h

set_option maxHeartbeats 1000000 in
theorem implLogOpen_any (v : Value) (es : List (Int × Int)) (n : Int) (w : World) {lo hi : Nat} (h : Ents w lo hi v es) (zs : List Int) (hz : openL n es = zs) :
    Calls Try.prog 22 #[v, .int .i64 n] w (RetInts w zs) := by
  have HM := Lib.hid hz; clear hz
  cases hv : logValid n es
  · have HV := Lib.hid hv
    have HZ := Lib.hid (show zs = [] by rw [← HM.out]; simp [openL, hv])
    clear hv
    go_enter Try.func22, Try.ntmps22
    go_wp2_with fail
    refine (chain_any v es n _ h false HV.out).mono ?_
    rintro e w1 (⟨h0, _⟩ | ⟨_, rfl, hb⟩)
    · cases h0
    · go_wp2_with fail
      go_ret
      exact ⟨_, rfl, by rw [HZ.out]; exact IntsO.nil _ _ _ (Nat.le_refl _), hb⟩
  · have HV := Lib.hid hv
    have hlen := (valid_len hv).1
    have HZ := Lib.hid (show zs = openTo es 2 by rw [← HM.out]; simp [openL, hv])
    obtain ⟨a, cap, hve, hn, _⟩ := h.open
    subst hve
    clear hv HM
    go_enter Try.func22, Try.ntmps22
    go_wp2_with fail
    refine (chain_any _ es n _ h true HV.out).mono ?_
    rintro e w1 (⟨_, gs, rfl, hch, hb0⟩ | ⟨h0, _⟩)
    · generalize hp0 : ptr gs 0 = p0
      have HP := Lib.hid hp0; clear hp0
      go_wp2_with fail
      go_loopw [7, 17] (fun q i wr => ∃ k : Nat, k ≤ 2 ∧ i = .int .i64 k ∧ IntsO wr w1.heap.size wr.heap.size q (openTo es k) ∧ Below w1.heap.size w1 wr) (fun _ i _ => 2 - (intOf i).toNat)
      case atStart => exact ⟨0, by omega, rfl, IntsO.nil _ _ _ (Nat.le_refl _), Below.refl _ _⟩
      case round =>
        obtain ⟨k, hk, rfl, hown, hb⟩ := hrel
        have hol := openTo_len es k
        have hsz := hb.size
        have hsz0 := hb0.size
        by_cases hlt : k < 2
        · have HS := Lib.hid (openTo_step es k)
          have HQ := Lib.hid (show cfgAt es ((es.length : Int) + k) = cfgAt es ((es.length : Int) + k) from rfl)
          generalize hm : cfgAt es ((es.length : Int) + k) = m at HS
          have HC := Lib.hid hm; clear hm HQ
          go_wp2_with fail
          have hcfg := config_any gs es n _ _ (hch.below hb) HV.out (by omega) m HC.out
          rw [HP.out] at hcfg
          refine hcfg.mono ?_
          clear hcfg
          rintro e w2 ⟨rfl, rfl⟩
          go_wp2_with (at_builtin; refine wpl_append elInt rfl _ _ rfl rfl (Own.below hown ((Below.refl _ _).alloc (Nat.le_refl _) _)) hsz ⟨wr.heap.size, 0, none⟩ 1 1 [.int .i64 m] rfl rfl (cell_one_new _ _ _) (ints_oneCell .i64 [m]) (by omega) (by unfold maxLen; omega) ?_; intro v' w2 hown1 hk1)
          have hb1 : Below w1.heap.size w1 w2 := (hb.alloc hsz _).trans (hk1.below (Nat.le_refl _) (by simp; omega))
          have hown2 : IntsO w2 w1.heap.size w2.heap.size v' (openTo es (k + 1)) := by rw [HS.out]; exact ints_snoc hown1
          clear hown1 hown hk1 hb
          go_wp2_with fail
          go_roundw
          case rel => exact ⟨k + 1, by omega, by go_num, hown2, hb1⟩
          case measure => simp [intOf]; omega
        · obtain rfl : k = 2 := by omega
          go_wp2_with fail
          go_ret
          exact ⟨_, rfl, by rw [HZ.out]; exact hown.wide hsz0 (Nat.le_refl _) (Nat.le_refl _), below_step hb0 hb hsz0⟩
    · cases h0

set_option maxHeartbeats 1000000 in
theorem specLogOpen_any (v : Value) (es : List (Int × Int)) (n : Int) (w : World) {lo hi : Nat} (h : Ents w lo hi v es) (zs : List Int) (hz : openL n es = zs) :
    Calls Try.prog 24 #[v, .int .i64 n] w (RetInts w zs) := by
  have HM := Lib.hid hz; clear hz
  cases hv : logValid n es
  · have HV := Lib.hid hv
    have HZ := Lib.hid (show zs = [] by rw [← HM.out]; simp [openL, hv])
    clear hv
    go_enter Try.func24, Try.ntmps24
    go_wp2_with fail
    have hbe : Below w.heap.size w (w.alloc (.cells #[] 3)) := (Below.refl _ _).alloc (Nat.le_refl _) _
    refine (specLogValid_any v es n _ (h.below hbe) false HV.out).mono ?_
    rintro e w1 ⟨rfl, hb⟩
    have hs1 := hb.size
    have hs0 := hbe.size
    go_wp2_with fail
    go_ret
    exact ⟨_, rfl, by rw [HZ.out]; exact ((IntsO.empty w _ (Nat.le_refl _)).below hb).wide (Nat.le_refl _) hs1 (Nat.le_refl _), below_step hbe hb hs0⟩
  · have HV := Lib.hid hv
    have hlen := (valid_len hv).1
    have HZ := Lib.hid (show zs = openTo es 2 by rw [← HM.out]; simp [openL, hv])
    obtain ⟨a, cap, hve, hn, _⟩ := h.open
    subst hve
    clear hv HM
    go_enter Try.func24, Try.ntmps24
    go_wp2_with fail
    have hbe : Below w.heap.size w (w.alloc (.cells #[] 3)) := (Below.refl _ _).alloc (Nat.le_refl _) _
    refine (specLogValid_any _ es n _ (h.below hbe) true HV.out).mono ?_
    rintro e w1 ⟨rfl, hb1⟩
    have hs1 := hb1.size
    have hs0 := hbe.size
    have hb0 := below_step hbe hb1 hs0
    have ho0 := ((IntsO.empty w _ (Nat.le_refl _)).below hb1).wide (Nat.le_refl _) hs1 (Nat.le_refl _)
    clear hb1 hbe
    go_wp2_with fail
    go_loopw [5, 6] (fun q i wr => ∃ k : Nat, k ≤ 2 ∧ i = .int .i64 k ∧ IntsO wr w.heap.size wr.heap.size q (openTo es k) ∧ Below w.heap.size w wr) (fun _ i _ => 2 - (intOf i).toNat)
    case atStart => exact ⟨0, by omega, rfl, ho0, hb0⟩
    case round =>
      obtain ⟨k, hk, rfl, hown, hb⟩ := hrel
      have hol := openTo_len es k
      have hsz := hb.size
      by_cases hlt : k < 2
      · have HS := Lib.hid (openTo_step es k)
        generalize hm : cfgAt es ((es.length : Int) + k) = m at HS
        have HC := Lib.hid hm; clear hm
        go_wp2_with fail
        refine (specConfig_any _ es _ _ (h.below hb) (by omega) (by omega) m HC.out).mono ?_
        rintro e w2 ⟨rfl, rfl⟩
        go_wp2_with (at_builtin; refine wpl_append elInt rfl _ _ rfl rfl (Own.below hown ((Below.refl _ _).alloc (Nat.le_refl _) _)) hsz ⟨wr.heap.size, 0, none⟩ 1 1 [.int .i64 m] rfl rfl (cell_one_new _ _ _) (ints_oneCell .i64 [m]) (by omega) (by unfold maxLen; omega) ?_; intro v' w2 hown1 hk1)
        have hb1 : Below w.heap.size w w2 := (hb.alloc hsz _).trans (hk1.below (Nat.le_refl _) (by simp; omega))
        have hown2 : IntsO w2 w.heap.size w2.heap.size v' (openTo es (k + 1)) := by rw [HS.out]; exact ints_snoc hown1
        clear hown1 hown hk1 hb
        go_wp2_with fail
        go_roundw
        case rel => exact ⟨k + 1, by omega, by go_num, hown2, hb1⟩
        case measure => simp [intOf]; omega
      · obtain rfl : k = 2 := by omega
        go_wp2_with fail
        go_ret
        exact ⟨_, rfl, by rw [HZ.out]; exact hown, hb⟩

theorem valTo_yes {es : List (Int × Int)} {k : Nat} (h : ec es k = 0) : valTo es (k + 1) = valTo es k ++ [ev es k] := by simp [valTo, h]
theorem valTo_no {es : List (Int × Int)} {k : Nat} (h : ¬ ec es k = 0) : valTo es (k + 1) = valTo es k := by simp [valTo, h]

set_option maxHeartbeats 1000000 in
theorem specLogValues_any (v : Value) (es : List (Int × Int)) (n : Int) (w : World) {lo hi : Nat} (h : Ents w lo hi v es) (zs : List Int) (hz : valuesL n es = zs) :
    Calls Try.prog 26 #[v, .int .i64 n] w (RetInts w zs) := by
  have HM := Lib.hid hz; clear hz
  cases hv : logValid n es
  · have HV := Lib.hid hv
    have HZ := Lib.hid (show zs = [] by rw [← HM.out]; simp [valuesL, hv])
    clear hv
    go_enter Try.func26, Try.ntmps26
    go_wp2_with fail
    have hbe : Below w.heap.size w (w.alloc (.cells #[] 3)) := (Below.refl _ _).alloc (Nat.le_refl _) _
    refine (specLogValid_any v es n _ (h.below hbe) false HV.out).mono ?_
    rintro e w1 ⟨rfl, hb⟩
    have hs1 := hb.size
    have hs0 := hbe.size
    go_wp2_with fail
    go_ret
    exact ⟨_, rfl, by rw [HZ.out]; exact ((IntsO.empty w _ (Nat.le_refl _)).below hb).wide (Nat.le_refl _) hs1 (Nat.le_refl _), below_step hbe hb hs0⟩
  · have HV := Lib.hid hv
    have hlen := (valid_len hv).1
    have HZ := Lib.hid (show zs = valTo es es.length by rw [← HM.out]; simp [valuesL, hv])
    obtain ⟨a, cap, hve, hn, hcell⟩ := h.open
    subst hve
    clear hv HM
    go_enter Try.func26, Try.ntmps26
    go_wp2_with fail
    have hbe : Below w.heap.size w (w.alloc (.cells #[] 3)) := (Below.refl _ _).alloc (Nat.le_refl _) _
    refine (specLogValid_any _ es n _ (h.below hbe) true HV.out).mono ?_
    rintro e w1 ⟨rfl, hb1⟩
    have hs1 := hb1.size
    have hs0 := hbe.size
    have hb0 := below_step hbe hb1 hs0
    have ho0 := ((IntsO.empty w _ (Nat.le_refl _)).below hb1).wide (Nat.le_refl _) hs1 (Nat.le_refl _)
    clear hb1 hbe
    go_wp2_with fail
    go_loopw [5, 6] (fun q i wr => ∃ k : Nat, k ≤ es.length ∧ i = .int .i64 k ∧ IntsO wr w.heap.size wr.heap.size q (valTo es k) ∧ Below w.heap.size w wr) (fun _ i _ => es.length - (intOf i).toNat)
    case atStart => exact ⟨0, by omega, rfl, ho0, hb0⟩
    case round =>
      obtain ⟨k, hk, rfl, hown, hb⟩ := hrel
      have hol := valTo_len es k
      have hsz := hb.size
      by_cases hlt : k < es.length
      · obtain ⟨b, o, _, _, hi, hc0, hc1⟩ := hcell k hlt
        have hix := hi k rfl
        have hd0 := (hb.cell (lt_of_cell hc0)).trans hc0
        have hd1 := (hb.cell (lt_of_cell hc1)).trans hc1
        clear hi hcell hc0 hc1
        by_cases hp : ec es k = 0
        · have HS := Lib.hid (valTo_yes hp)
          have hpb : (ec es k == 0) = true := by simp [hp]
          generalize ev es k = m at HS hd0
          clear hp
          go_wp2_with (at_builtin; refine wpl_append elInt rfl _ _ rfl rfl (Own.below hown ((Below.refl _ _).alloc (Nat.le_refl _) _)) hsz ⟨wr.heap.size, 0, none⟩ 1 1 [.int .i64 m] rfl rfl (cell_one_new _ _ _) (ints_oneCell .i64 [m]) (by omega) (by unfold maxLen; omega) ?_; intro v' w2 hown1 hk1)
          have hb1 : Below w.heap.size w w2 := (hb.alloc hsz _).trans (hk1.below (Nat.le_refl _) (by simp; omega))
          have hown2 : IntsO w2 w.heap.size w2.heap.size v' (valTo es (k + 1)) := by rw [HS.out]; exact ints_snoc hown1
          clear hown1 hown hk1 hb hd0 hd1
          go_wp2_with fail
          go_roundw
          case rel => exact ⟨k + 1, by omega, by go_num, hown2, hb1⟩
          case measure => simp [intOf]; omega
        · have HS := Lib.hid (valTo_no hp)
          have hpb : (ec es k == 0) = false := beq_eq_false_iff_ne.2 hp
          go_wp2_with fail
          go_roundw
          case rel => exact ⟨k + 1, by omega, by go_num, by rw [HS.out]; exact hown, hb⟩
          case measure => simp [intOf]; omega
      · obtain rfl : k = es.length := by omega
        go_wp2_with fail
        go_ret
        exact ⟨_, rfl, by rw [HZ.out]; exact hown, hb⟩

set_option maxHeartbeats 1000000 in
theorem implLogValues_any (v : Value) (es : List (Int × Int)) (n : Int) (w : World) {lo hi : Nat} (h : Ents w lo hi v es) (zs : List Int) (hz : valuesL n es = zs) :
    Calls Try.prog 27 #[v, .int .i64 n] w (RetInts w zs) := by
  have HM := Lib.hid hz; clear hz
  cases hv : logValid n es
  · have HV := Lib.hid hv
    have HZ := Lib.hid (show zs = [] by rw [← HM.out]; simp [valuesL, hv])
    clear hv
    go_enter Try.func27, Try.ntmps27
    go_wp2_with fail
    refine (chain_any v es n _ h false HV.out).mono ?_
    rintro e w1 (⟨h0, _⟩ | ⟨_, rfl, hb⟩)
    · cases h0
    · go_wp2_with fail
      go_ret
      exact ⟨_, rfl, by rw [HZ.out]; exact IntsO.nil _ _ _ (Nat.le_refl _), hb⟩
  · have HV := Lib.hid hv
    have hlen := (valid_len hv).1
    have HVA := Lib.hid (valid_all hv)
    have HZ := Lib.hid (show zs = valTo es es.length by rw [← HM.out]; simp [valuesL, hv])
    clear hv HM
    go_enter Try.func27, Try.ntmps27
    go_wp2_with fail
    refine (chain_any _ es n _ h true HV.out).mono ?_
    rintro e w1 (⟨_, gs, rfl, hch, hb0⟩ | ⟨h0, _⟩)
    · generalize hp0 : ptr gs 0 = p0
      have HP := Lib.hid hp0; clear hp0
      go_wp2_with fail
      go_loopw [7, 8] (fun q i wr => ∃ k : Nat, k ≤ es.length ∧ i = .pointer (ptr gs k) ∧ IntsO wr w1.heap.size wr.heap.size q (valTo es k) ∧ Below w1.heap.size w1 wr) (fun _ i _ => chainRank w1 es.length i)
      case atStart => exact ⟨0, by omega, by rw [HP.out], IntsO.nil _ _ _ (Nat.le_refl _), Below.refl _ _⟩
      case round =>
        obtain ⟨k, hk, rfl, hown, hb⟩ := hrel
        have hol := valTo_len es k
        have hsz := hb.size
        have hsz0 := hb0.size
        by_cases hlt : k < es.length
        · have HR := Lib.hid (hch.rank hlt)
          obtain ⟨g, hp, c0, c1, c2, c3⟩ := hch.cells hlt
          have hgl := lt_of_cell c3
          replace c0 := (hb.cell (lt_of_cell c0)).trans c0
          replace c1 := (hb.cell (lt_of_cell c1)).trans c1
          have HC3 := Lib.hid c3
          replace c3 := (hb.cell hgl).trans c3
          have hok := okE_cases (HVA.out k hlt)
          rw [hp] at HR ⊢
          clear hp
          by_cases hp : ec es k = 0
          · have HS := Lib.hid (valTo_yes hp)
            have hpb : (ev es k == 0) = false := beq_eq_false_iff_ne.2 (by omega)
            clear hok hp c1 c2
            generalize ev es k = m at HS c0 hpb
            go_wp2_with (at_builtin; refine wpl_append elInt rfl _ _ rfl rfl (Own.below hown ((Below.refl _ _).alloc (Nat.le_refl _) _)) hsz ⟨wr.heap.size, 0, none⟩ 1 1 [.int .i64 m] rfl rfl (cell_one_new _ _ _) (ints_oneCell .i64 [m]) (by omega) (by unfold maxLen; omega) ?_; intro v' w2 hown1 hk1; have hb1 : Below w1.heap.size w1 w2 := (hb.alloc hsz _).trans (hk1.below (Nat.le_refl _) (by simp; omega)); have d3 := (hb1.cell hgl).trans HC3.out)
            have hown2 : IntsO w2 w1.heap.size w2.heap.size v' (valTo es (k + 1)) := by rw [HS.out]; exact ints_snoc hown1
            clear hown1 hown hk1 hb c0 c3
            go_wp2_with fail
            go_roundw
            case rel => exact ⟨k + 1, by omega, rfl, hown2, hb1⟩
            case measure => exact HR.out
          · have HS := Lib.hid (valTo_no hp)
            have hpb : (ev es k == 0) = true := by simp; omega
            clear hok
            go_wp2_with fail
            go_roundw
            case rel => exact ⟨k + 1, by omega, rfl, by rw [HS.out]; exact hown, hb⟩
            case measure => exact HR.out
        · obtain rfl : k = es.length := by omega
          rw [hch.end]
          go_wp2_with fail
          go_ret
          exact ⟨_, rfl, by rw [HZ.out]; exact hown.wide hsz0 (Nat.le_refl _) (Nat.le_refl _), below_step hb0 hb hsz0⟩
    · cases h0
end Go.Proofs.Ythehnpkjnilgiaa
