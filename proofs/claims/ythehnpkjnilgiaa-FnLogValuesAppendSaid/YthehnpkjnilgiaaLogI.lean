/-
  The walks along the chain: the configuration of a slot; validity and LogConfig of both sides.
-/
import Derived.Test.YthehnpkjnilgiaaLogC
namespace Go.Proofs.Ythehnpkjnilgiaa
open Go.RowKit
set_option linter.unusedVariables false

/-- how far a pointer into the chain has still to go, read from the records' indices -/
def chainRank (w : World) (n : Nat) : Value → Nat
  | .pointer (some a) => match w.cell? ⟨a.block, 2, none⟩ with
    | some (.int _ i) => n + 1 - i.toNat
    | _ => 0
  | _ => 0
theorem rank_at {w : World} {g n i : Nat} (h : w.cell? ⟨g, 2, none⟩ = some (.int .i64 i)) : chainRank w n (.pointer (some ⟨g, 0, none⟩)) = n + 1 - i := by
  simp [chainRank, h]
theorem ChainAt.rank {w : World} {lo : Nat} {gs : List Nat} {es : List (Int × Int)} {n k : Nat} (h : ChainAt w lo gs es n) (hk : k < n) :
    chainRank w n (.pointer (ptr gs (k + 1))) < chainRank w n (.pointer (ptr gs k)) := by
  obtain ⟨g, hp, _, _, h2, _⟩ := h.cells hk
  rw [hp, rank_at h2]
  by_cases hk2 : k + 1 < n
  · obtain ⟨g', hp', _, _, h2', _⟩ := h.cells hk2
    rw [hp', rank_at h2']
    omega
  · have : k + 1 = n := by omega
    rw [this, h.end]
    simp [chainRank]
    omega

set_option maxHeartbeats 1000000 in
theorem config_any (gs : List Nat) (es : List (Int × Int)) (n slot : Int) (w : World) {lo : Nat} (h : ChainAt w lo gs es es.length) (hval : logValid n es = true)
    (hs : -9223372036854775808 ≤ slot ∧ slot ≤ 9223372036854775807) (m : Int) (hm : cfgAt es slot = m) :
    Calls Try.prog 37 #[.pointer (ptr gs 0), .int .i64 slot] w fun e w' => e = .returned (.int .i64 m) ∧ w = w' := by
  obtain ⟨hs1, hs2⟩ := hs
  have hlen := (valid_len hval).1
  have HV := Lib.hid (valid_all hval); clear hval
  have HM := Lib.hid hm; clear hm
  have HP := Lib.hid (show ptr gs 0 = ptr gs 0 from rfl)
  generalize hp0 : ptr gs 0 = p0
  have HQ := Lib.hid hp0; clear hp0 HP
  go_enter Try.func37, Try.ntmps37
  go_wp2_with fail
  go_loop [5, 6] (fun q i => ∃ k : Nat, k ≤ es.length ∧ (k : Int) ≤ max 0 (slot - 1) ∧ i = .pointer (ptr gs k) ∧ q = .int .i64 (cfg es k)) (fun _ i => chainRank w es.length i)
  case atStart => exact ⟨0, Nat.zero_le _, by omega, by rw [HQ.out], rfl⟩
  case round =>
    obtain ⟨k, hk, hk2, rfl, rfl⟩ := hrel
    by_cases hlt : k < es.length
    · have HR := Lib.hid (h.rank hlt)
      obtain ⟨g, hp, c0, c1, c2, c3⟩ := h.cells hlt
      have hok := okE_cases (HV.out k hlt)
      rw [hp] at HR ⊢
      clear hp
      by_cases hsl : (k : Int) + 2 ≤ slot
      · by_cases hp : ec es k = 0
        · have HS := Lib.hid (show cfg es (k + 1) = cfg es k by simp [cfg, hp])
          have hpb : (ec es k == 0) = true := by simp [hp]
          clear hok hp
          go_wp2_with fail
          go_round
          case rel => exact ⟨k + 1, by omega, by omega, rfl, by rw [HS.out]⟩
          case measure => exact HR.out
        · have HS := Lib.hid (show cfg es (k + 1) = ec es k by
            have : 0 < ec es k := by omega
            simp [cfg, this])
          have hpb : (ec es k == 0) = false := beq_eq_false_iff_ne.2 hp
          clear hok
          go_wp2_with fail
          go_round
          case rel => exact ⟨k + 1, by omega, by omega, rfl, by rw [HS.out]⟩
          case measure => exact HR.out
      · have HS := Lib.hid (show cfg es k = m by rw [← HM.out, cfgAt]; congr 1; omega)
        have hd : decide ((k : Int) + 2 ≤ slot) = false := by simp; omega
        clear hok
        go_wp2_with fail
        go_ret
        exact ⟨ret_int HS.out, rfl⟩
    · have HS := Lib.hid (show cfg es k = m by rw [← HM.out, cfgAt]; congr 1; omega)
      obtain rfl : k = es.length := by omega
      rw [h.end]
      go_wp2_with fail
      go_ret
      exact ⟨ret_int HS.out, rfl⟩

set_option maxHeartbeats 400000 in
theorem implLogValid_any (v : Value) (es : List (Int × Int)) (n : Int) (w : World) {lo hi : Nat} (h : Ents w lo hi v es) (r : Bool) (hr : logValid n es = r) :
    Calls Try.prog 40 #[v, .int .i64 n] w fun e w' => e = .returned (.bool r) ∧ Below w.heap.size w w' := by
  go_enter Try.func40, Try.ntmps40
  go_wp2_with fail
  refine (chain_any v es n _ h r hr).mono ?_
  rintro e w1 (⟨rfl, gs, rfl, _, hb⟩ | ⟨rfl, rfl, hb⟩)
  · go_wp2_with fail
    go_ret
    exact ⟨rfl, hb⟩
  · go_wp2_with fail
    go_ret
    exact ⟨rfl, hb⟩

def logConfig (n : Int) (es : List (Int × Int)) (slot : Int) : Int := if logValid n es && inB slot 0 ((es.length : Int) + 1) then cfgAt es slot else 0

set_option maxHeartbeats 1000000 in
theorem implLogConfig_any (v : Value) (es : List (Int × Int)) (n slot : Int) (w : World) {lo hi : Nat} (h : Ents w lo hi v es)
    (hs : -9223372036854775808 ≤ slot ∧ slot ≤ 9223372036854775807) (m : Int) (hm : logConfig n es slot = m) :
    Calls Try.prog 11 #[v, .int .i64 n, .int .i64 slot] w fun e w' => e = .returned (.int .i64 m) ∧ Below w.heap.size w w' := by
  have HM := Lib.hid hm; clear hm
  cases hv : logValid n es
  · have HV := Lib.hid hv
    have HZ := Lib.hid (show 0 = m by rw [← HM.out]; simp [logConfig, hv])
    clear hv
    go_enter Try.func11, Try.ntmps11
    go_wp2_with fail
    refine (chain_any v es n _ h false HV.out).mono ?_
    rintro e w1 (⟨h0, _⟩ | ⟨_, rfl, hb⟩)
    · cases h0
    · go_wp2_with fail
      go_ret
      exact ⟨ret_int HZ.out, hb⟩
  · have HV := Lib.hid hv
    have hlen := (valid_len hv).1
    obtain ⟨a, cap, hve, hn, _⟩ := h.open
    subst hve
    by_cases h1 : slot < 0
    · have HZ := Lib.hid (show 0 = m by
        rw [← HM.out]; unfold logConfig; rw [inB_mkF (.inl h1), Bool.and_false]; rfl)
      clear hv
      go_enter Try.func11, Try.ntmps11
      go_wp2_with fail
      refine (chain_any _ es n _ h true HV.out).mono ?_
      rintro e w1 (⟨_, gs, rfl, hch, hb⟩ | ⟨h0, _⟩)
      · go_wp2_with fail
        go_ret
        exact ⟨ret_int HZ.out, hb⟩
      · cases h0
    · by_cases h2 : (es.length : Int) + 1 < slot
      · have HZ := Lib.hid (show 0 = m by
          rw [← HM.out]; unfold logConfig; rw [inB_mkF (.inr h2), Bool.and_false]; rfl)
        have h2b : (es.length : Int) + 2 - 1 < slot := by omega
        clear hv
        go_enter Try.func11, Try.ntmps11
        go_wp2_with fail
        refine (chain_any _ es n _ h true HV.out).mono ?_
        rintro e w1 (⟨_, gs, rfl, hch, hb⟩ | ⟨h0, _⟩)
        · go_wp2_with fail
          go_ret
          exact ⟨ret_int HZ.out, hb⟩
        · cases h0
      · have HZ := Lib.hid (show cfgAt es slot = m by
          rw [← HM.out]; unfold logConfig; rw [inB_mk (by omega) (by omega), hv]; rfl)
        have h2b : ¬ (es.length : Int) + 2 - 1 < slot := by omega
        clear hv
        go_enter Try.func11, Try.ntmps11
        go_wp2_with fail
        refine (chain_any _ es n _ h true HV.out).mono ?_
        rintro e w1 (⟨_, gs, rfl, hch, hb⟩ | ⟨h0, _⟩)
        · go_wp2_with fail
          refine (config_any gs es n slot _ hch HV.out hs m HZ.out).mono ?_
          rintro e w2 ⟨rfl, rfl⟩
          go_wp2_with fail
          go_ret
          exact ⟨rfl, hb⟩
        · cases h0

set_option maxHeartbeats 1000000 in
theorem specLogConfig_any (v : Value) (es : List (Int × Int)) (n slot : Int) (w : World) {lo hi : Nat} (h : Ents w lo hi v es)
    (hs : -9223372036854775808 ≤ slot ∧ slot ≤ 9223372036854775807) (m : Int) (hm : logConfig n es slot = m) :
    Calls Try.prog 12 #[v, .int .i64 n, .int .i64 slot] w fun e w' => e = .returned (.int .i64 m) ∧ Below w.heap.size w w' := by
  have HM := Lib.hid hm; clear hm
  cases hv : logValid n es
  · have HV := Lib.hid hv
    have HZ := Lib.hid (show 0 = m by rw [← HM.out]; simp [logConfig, hv])
    clear hv
    go_enter Try.func12, Try.ntmps12
    go_wp2_with fail
    refine (specLogValid_any v es n _ h false HV.out).mono ?_
    rintro e w1 ⟨rfl, hb⟩
    go_wp2_with fail
    go_ret
    exact ⟨ret_int HZ.out, hb⟩
  · have HV := Lib.hid hv
    have hlen := (valid_len hv).1
    obtain ⟨a, cap, hve, hn, _⟩ := h.open
    subst hve
    cases h1 : inB slot 0 ((es.length : Int) + 1)
    · have HZ := Lib.hid (show 0 = m by
        rw [← HM.out]; unfold logConfig; rw [h1, Bool.and_false]; rfl)
      have HX := Lib.hid (show inB slot 0 ((es.length : Int) + 2 - 1) = false by rw [← h1]; congr 1; omega)
      clear hv h1
      go_enter Try.func12, Try.ntmps12
      go_wp2_with fail
      refine (specLogValid_any _ es n _ h true HV.out).mono ?_
      rintro e w1 ⟨rfl, hb⟩
      go_wp2_with fail
      refine (l6In_any _ _ _ _ false HX.out).mono ?_
      rintro e w2 ⟨rfl, rfl⟩
      go_wp2_with fail
      go_ret
      exact ⟨ret_int HZ.out, hb⟩
    · have HZ := Lib.hid (show cfgAt es slot = m by
        rw [← HM.out]; unfold logConfig; rw [h1, hv]; rfl)
      have HX := Lib.hid (show inB slot 0 ((es.length : Int) + 2 - 1) = true by rw [← h1]; congr 1; omega)
      clear hv h1
      go_enter Try.func12, Try.ntmps12
      go_wp2_with fail
      refine (specLogValid_any _ es n _ h true HV.out).mono ?_
      rintro e w1 ⟨rfl, hb⟩
      go_wp2_with fail
      refine (l6In_any _ _ _ _ true HX.out).mono ?_
      rintro e w2 ⟨rfl, rfl⟩
      go_wp2_with fail
      refine (specConfig_any _ es slot _ (h.below hb) hs (by omega) m HZ.out).mono ?_
      rintro e w3 ⟨rfl, rfl⟩
      go_wp2_with fail
      go_ret
      exact ⟨rfl, hb⟩
end Go.Proofs.Ythehnpkjnilgiaa
