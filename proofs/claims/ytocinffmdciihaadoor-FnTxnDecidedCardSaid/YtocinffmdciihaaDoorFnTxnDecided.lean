/-
  For every input the law FnTxnDecided returns true, and what it was given reads afterwards as before. No condition beyond the row's own.
-/
import Derived.Test.YtocinffmdciihaaDoorFrameD
import Derived.Test.YtocinffmdciihaaDoorFrameT
import Derived.Test.YtocinffmdciihaaDoorTie
import Derived.Test.YtocinffmdciihaaDoorCards
import Derived.Test.YtocinffmdciihaaDoorTxnY
import Derived.Test.YtocinffmdciihaaDoorTxnJ
import Derived.Test.YtocinffmdciihaaDoorTxnK
import Derived.Test.YtocinffmdciihaaDoorTxnQD
import Derived.SevenTiedAt
import Derived.Deep.DeepCutAuto
import Derived.Deep.QuietTactic
import Derived.BigQuiet
namespace Go.Proofs.YtocinffmdciihaaDoor.fnTxnDecided
open Go.ChangeShapes Go.WideShapes Go.ChangeAt Go.RowKit
open Go.ChangeMaps (open_string shut_string)
set_option linter.unusedVariables false
/-- the answer of a step, laid into the block of the running transaction -/
theorem lay_step {W w w2 : World} {BX lo hi lo' hi' : Nat} {c0 c1 : Value} {r : Int} {v y : Value} {l l0 : List Int} (kX : Blk w BX #[c0, c1] 25) (hb2 : Below w.heap.size w w2) (iy : Ints w2 lo' hi' y l) (hd : (lo' = lo ∧ hi' = hi) ∨ w.heap.size ≤ lo') (hdis : hi ≤ BX ∨ BX + 1 ≤ lo) (hkp : Keep BX (BX + 1) W w) :
    let w5 := (w2.setCell ⟨BX, 0, none⟩ (.int .i64 r)).setCell ⟨BX, 1, none⟩ y
    Blk w5 BX #[.int .i64 r, y] 25 ∧ Ints w5 lo' hi' y l ∧ (hi' ≤ BX ∨ BX + 1 ≤ lo') ∧ Keep BX (BX + 1) W w5 := by
  intro w5
  have hl := kX.lt
  have hk : Keep BX (BX + 1) w2 w5 := keep_set2 (Keep.refl _ _ _) (Nat.le_refl _) (Nat.lt_succ_self _) _ _
  have b := ((kX.below hb2).set 0 (.int .i64 r)).set 1 y
  have hdd : hi' ≤ BX ∨ BX + 1 ≤ lo' := by
    rcases hd with ⟨e1, e2⟩ | e
    · subst e1; subst e2; exact hdis
    · right; omega
  exact ⟨b, iy.keep hk hdd, hdd, (hkp.trans (Keep.of_below hb2 _ _)).trans hk⟩

set_option maxRecDepth 100000 in
set_option maxHeartbeats 8000000 in
theorem walk_at (w : World) (v0 : Value) (n0 : Nat) (b0 : Bytes w 0 w.heap.size v0 n0) (v1 : Value) (n1 : Nat) (b1 : Bytes w 0 w.heap.size v1 n1) (hL : Laid w) :
    Calls Tryd.prog 14 #[v0, v1] w fun e w' => e = .returned (.bool true) ∧ Below w.heap.size w w' := by
  obtain ⟨a0, c0, hv0, hn0, hx0⟩ := b0.open
  clear hx0
  subst hv0
  by_cases big0 : n0 ≤ 1048576
  case neg =>
    go_enter Tryd.func14, Tryd.ntmps14
    go_wp2_with fail
    go_ret
    exact ⟨rfl, Below.refl _ _⟩
  obtain ⟨a1, c1, hv1, hn1, hx1⟩ := b1.open
  clear hx1
  subst hv1
  by_cases big1 : n1 ≤ 1048576
  case neg =>
    go_enter Tryd.func14, Tryd.ntmps14
    go_wp2_with fail
    go_ret
    exact ⟨rfl, Below.refl _ _⟩
  go_enter Tryd.func14, Tryd.ntmps14
  go_wp2_with fail
  have HB : Below w.heap.size w w := Below.refl _ _
  refine (DrawTxnStatus_any _ n0 _ b0).mono ?_
  rintro e w1 ⟨rc, ws, tv, rfl, rr0, rr1, l0, l1, rng, it, hb1⟩
  have hs1 := hb1.size
  replace hL := hL.below hb1
  replace HB := below_step HB hb1 HB.size
  clear hb1
  obtain ⟨at0, ct0, hv_tv⟩ := own_form it
  subst hv_tv
  have hb2 : Below w1.heap.size w1 (w1.alloc (.cells #[.int .i64 rc, .slice at0 ws.length ct0] 25)) := (Below.refl _ _).alloc (Nat.le_refl _) _
  have hs2 := hb2.size
  replace it := it.below hb2
  replace hL := hL.below hb2
  replace HB := below_step HB hb2 HB.size
  have kT := Blk.new w1 #[.int .i64 rc, .slice at0 ws.length ct0] 25
  have hl2 := kT.lt
  clear hb2
  have q1_kT0 := kT.cell 0 rfl
  have q2_kT1 := kT.cell 1 rfl
  as_aux_lemma =>
   go_wp2_with fail
   generalize w1.alloc (.cells #[.int .i64 rc, .slice at0 ws.length ct0] 25) = w2 at *
   generalize w1.heap.size = B2 at *
   obtain ⟨s, hs⟩ : ∃ s, txnStat rc ws = s := ⟨_, rfl⟩
   have HM := Lib.hid hs; clear hs
   have hss : (s != s) = false := by simp
   have hse : (s == s) = true := by simp
   clear q1_kT0 q2_kT1
   refine (implTxnStatus_any rc _ ws _ it.ints s HM.out).mono ?_
   rintro e w3 ⟨rfl, hb3⟩
   have hs3 := hb3.size
   replace it := it.below hb3
   replace kT := kT.below hb3
   replace hL := hL.below hb3
   replace HB := below_step HB hb3 HB.size
   clear hb3
   have q3_kT0 := kT.cell 0 rfl
   have q4_kT1 := kT.cell 1 rfl
   as_aux_lemma =>
    go_wp2_with fail
    clear q3_kT0 q4_kT1
    refine (specTxnStatus_any rc _ ws _ it.ints s HM.out).mono ?_
    rintro e w4 ⟨rfl, hb4⟩
    have hs4 := hb4.size
    replace it := it.below hb4
    replace kT := kT.below hb4
    replace hL := hL.below hb4
    replace HB := below_step HB hb4 HB.size
    clear hb4
    by_cases hs2 : s < 2
    · skip
      have q5_kT0 := kT.cell 0 rfl
      have q6_kT1 := kT.cell 1 rfl
      as_aux_lemma =>
       go_wp2_with fail
       clear q5_kT0 q6_kT1
       refine (specTxnStatus_any rc _ ws _ it.ints s HM.out).mono ?_
       rintro e w5 ⟨rfl, hb5⟩
       have hs5 := hb5.size
       replace it := it.below hb5
       replace kT := kT.below hb5
       replace hL := hL.below hb5
       replace HB := below_step HB hb5 HB.size
       clear hb5
       have q7_kT0 := kT.cell 0 rfl
       have q8_kT1 := kT.cell 1 rfl
       as_aux_lemma =>
        go_wp2_with fail
        go_ret
        exact ⟨rfl, HB⟩
    have hs3 : 2 ≤ s := by omega
    have HKE := Lib.hid (fun (r1 : Int) (l1 : List Int) (m : Int) (r2 : Int) (l2 : List Int) (e : txnStat r1 l1 = s) (ht : stepR r1 l1 m = (r2, l2)) => step_keeps e hs3 ht)
    have q9_kT0 := kT.cell 0 rfl
    have q10_kT1 := kT.cell 1 rfl
    have hb5 : Below w4.heap.size w4 (w4.alloc (.cells #[.int .i64 rc, .slice at0 ws.length ct0] 25)) := (Below.refl _ _).alloc (Nat.le_refl _) _
    have hth := it.2.2
    have hs5 := hb5.size
    replace it := it.below hb5
    replace kT := kT.below hb5
    replace hL := hL.below hb5
    replace HB := below_step HB hb5 HB.size
    have kX := Blk.new w4 #[.int .i64 rc, .slice at0 ws.length ct0] 25
    have hlX := kX.lt
    clear hb5
    have q11_kT0 := kT.cell 0 rfl
    have q12_kT1 := kT.cell 1 rfl
    as_aux_lemma =>
     go_wp2_with fail
     generalize w4.alloc (.cells #[.int .i64 rc, .slice at0 ws.length ct0] 25) = w5 at *
     generalize w4.heap.size = BX at *
     clear q9_kT0 q10_kT1 q11_kT0 q12_kT1
     go_loopw [9] (fun i wr => ∃ (k : Nat) (rx : Int) (xs : List Int) (av : Option Addr) (cv lo hi : Nat), k ≤ 8 ∧ i = .int .i64 k ∧ Blk wr BX #[.int .i64 rx, .slice av xs.length cv] 25 ∧ Ints wr lo hi (.slice av xs.length cv) xs ∧ (hi ≤ BX ∨ BX + 1 ≤ lo) ∧ Keep BX (BX + 1) w5 wr ∧ txnStat rx xs = s) (fun i _ => 8 - (intOf i).toNat)
     case atStart => exact ⟨0, rc, ws, _, _, _, _, Nat.zero_le _, rfl, kX, it.ints, .inl (by omega), Keep.refl _ _ _, HM.out⟩
     case round =>
       obtain ⟨k, rx, xs, av, cv, lo, hi, hk, rfl, kXr, ixr, hdis, hkp, hst⟩ := hrel
       have HST := Lib.hid hst; clear hst
       have hsz := hkp.size
       have hlXr := kXr.lt
       have hLr := hL.keep hkp (by have := hL.lt; omega)
       have x0 := kXr.cell 0 rfl
       have x1 := kXr.cell 1 rfl
       by_cases hlt : k < 8
       · skip
         have hq0 : 0 ≤ (k : Int) * (k : Int) := Int.mul_nonneg (by omega) (by omega)
         have hq1 : (k : Int) * (k : Int) ≤ 10 * 10 := Int.mul_le_mul (by omega) (by omega) (by omega) (by omega)
         have hww0 : IntKind.i64.wrap ((k : Int) * (k : Int)) = (k : Int) * (k : Int) := IntWalk.i64_in _ ⟨by omega, by omega⟩
         have hww1 : IntKind.i64.wrap ((k : Int) * (k : Int) * 3) = (k : Int) * (k : Int) * 3 := IntWalk.i64_in _ ⟨by omega, by omega⟩
         have hww2 : IntKind.i64.wrap ((n1 : Int) + (k : Int) * (k : Int) * 3) = (n1 : Int) + (k : Int) * (k : Int) * 3 := IntWalk.i64_in _ ⟨by omega, by omega⟩
         have hww3 : IntKind.i64.wrap ((n1 : Int) + (k : Int) * (k : Int) * 3 + (k : Int)) = (n1 : Int) + (k : Int) * (k : Int) * 3 + (k : Int) := IntWalk.i64_in _ ⟨by omega, by omega⟩
         obtain ⟨r2, l2, hT⟩ : ∃ r2 l2, stepR rx xs ((n1 : Int) + (k : Int) * (k : Int) * 3 + (k : Int)) = (r2, l2) := ⟨_, _, rfl⟩
         have HT := Lib.hid hT
         have HS2 := Lib.hid (HKE.out _ _ _ _ _ HST.out hT)
         clear hT
         have hn0 : 0 ≤ (n1 : Int) + (k : Int) * (k : Int) * 3 + (k : Int) := by omega
         have hn1' : (n1 : Int) + (k : Int) * (k : Int) * 3 + (k : Int) ≤ 1000000000 := by omega
         go_wp2_with fail
         refine (stepOf (txnStep_any rx _ xs _ _ ixr hLr hn0 hn1') HT.out).mono ?_
         rintro e w2' ⟨a9, c9, lo', hi', rfl, iy, hd, hb2⟩
         have d0 := (kXr.below hb2).cell 0 rfl
         have d1 := (kXr.below hb2).cell 1 rfl
         have g0 := (kXr.below hb2).frozen 0
         have g1 := (kXr.below hb2).frozen 1
         obtain ⟨kX5, i5, hdd, hk5⟩ := lay_step (r := r2) (v := .slice none 0 0) (l0 := []) kXr hb2 iy hd hdis hkp
         have e0 := kX5.cell 0 rfl
         have e1 := kX5.cell 1 rfl
         have hL5 := hL.keep hk5 (by have := hL.lt; omega)
         clear hb2 iy hd x0 x1 kXr ixr hdis hkp hLr hww0 hww1 hww2 hww3 hq0 hq1 hn0 hn1'
         as_aux_lemma =>
          go_wp2_with fail
          refine (implTxnStatus_any r2 _ l2 _ i5 s HS2.out).mono ?_
          rintro e w6' ⟨rfl, hb6⟩
          have kX6 := kX5.below hb6
          have i6 := i5.below hb6
          have hk6 := hk5.trans (Keep.of_below hb6 _ _)
          clear hb6 e0 e1 d0 d1 g0 g1
          as_aux_lemma =>
           go_wp2_with fail
           go_roundw
           case rel => exact ⟨k + 1, r2, l2, _, _, _, _, by omega, by go_num, kX6, i6, hdd, hk6, HS2.out⟩
           case measure => simp [intOf]; omega
       · have hBe := HB.trans (hkp.below (B := w.heap.size) (by omega) (by omega))
         go_wp2_with fail
         go_ret
         exact ⟨rfl, hBe⟩

/-! ### THE ROW's STEP -/
set_option maxRecDepth 100000 in
theorem lifted (os : Os) (started : os.Started) (H : Type) (enc : TypeId × Value → H) :
    ReturnsInHanded {} Tryd.checked os 14 .any (fun w args => (Rows.fnTxnDecidedSpec.pre enc Tryd.prog Tryd.f14 [] false w args ∧ laidMetH Tryd.prog laidL w) ∧ sizedMet enc Tryd.prog Tryd.f14 (OpenSpec.ofChange Rows.fnTxnDecidedSpec) false w args)
      (Rows.fnTxnDecidedSpec.post enc Tryd.prog Tryd.f14 false true false false) := by
  refine returnsInHanded_of_change_and (C := Tryd.checked) (X := fun w _ => laidMetH Tryd.prog laidL w) (fun _ _ _ hh h => h.of_heap hh) own started (by kernel_rfl) Tryd.func14
    (ChangeSpec.witness_at (enc := enc) (C := Tryd.checked) (os := os) (X := fun w _ => laidMetH Tryd.prog laidL w) false (laidWorld os) #[.slice none 0 0, .slice none 0 0] 8 rfl (by kernel_rfl) (by kernel_rfl) (by kernel_rfl) (by kernel_rfl) (by kernel_rfl) (laidWorld_met os _)) ?_
  intro W base args ds gs before hval0 hW _ _ hL _
  have hval : ∀ (j : Nat) t v, Tryd.f14.params[j]? = some t → args[j]? = some v → Value.okWide Tryd.prog W .any base t v := hval0
  have hW' := hW
  obtain ⟨p, q, hA0, hV, rfl, hfz, hnd⟩ := hW
  have hA : DataW.TrodAll enc Tryd.prog W 0 (fun _ => true) true Tryd.f14.params.toList args.toList ds p := hA0
  rw [Tryd.params14] at hA hval
  obtain ⟨v0, vs0, d0, ds0, p0, q0, hargs, rfl, rfl, h0, r0⟩ := trodAll_cons hA
  obtain ⟨v1, vs1, d1, ds1, p1, q1, rfl, rfl, rfl, h1, r1⟩ := trodAll_cons r0
  obtain ⟨rfl, rfl, rfl⟩ := trodAll_nil r1
  obtain rfl : args = #[v0, v1] := by cases args; simp_all
  obtain ⟨rfl, rfl⟩ := trodVars_none hV
  obtain ⟨n0, b0⟩ := bytes_in (hval 0 _ v0 rfl rfl) h0
  have lt0 := lt_in h0
  obtain ⟨n1, b1⟩ := bytes_in (hval 1 _ v1 rfl rfl) h1
  have lt1 := lt_in h1
  clear hA0 hval0
  refine (walk_at W v0 n0 b0 v1 n1 b1 (laid_of hL)).mono fun e W' ⟨he, bel⟩ => ?_
  subst he
  exact ⟨_, rfl, _, _, _, [], _, [], hW', trodAll_mk1 (shut_bool Tryd.underlying4 _), (trodAll_cons_mk (Below.trod laidOut (by kernel_rfl) (of_decide_eq_true (by kernel_rfl)) h0 bel lt0) (trodAll_cons_mk (Below.trod laidOut (by kernel_rfl) (of_decide_eq_true (by kernel_rfl)) h1 bel lt1) trodAll_mk0)), rfl, bel.frame _, fun h => by cases h⟩

set_option maxRecDepth 100000 in
theorem closed : joinedFacts Tryd.prog 14 Tryd.f14 Rows.fnTxnDecidedSpec Rows.fnTxnDecidedRow = true := by
  unfold joinedFacts
  rw [may, lifts, mk]
  kernel_rfl
theorem over : Rows.fnTxnDecidedRow.holds Tryd.pinned (OpenSpec.ofChange Rows.fnTxnDecidedSpec) :=
  OpenClaim.holds_of_wide 14 Tryd.f14 rfl rfl rfl rfl rfl rfl rfl ⟨rfl, rfl, rfl, rfl, rfl⟩ rfl rfl rfl rfl rfl (by as_aux_lemma => kernel_rfl) Tryd.func14 closed
    (of_decide_eq_true (by as_aux_lemma => kernel_rfl)) (by unfold Func.isWrapper; rw [if_neg (of_decide_eq_false (by as_aux_lemma => kernel_rfl))]; exact ⟨rfl, rfl⟩)
    (fun os started H enc _ => lifted os started H enc)

/-- THE STATEMENT: the tied card -/
theorem proved : Rows.FnTxnDecidedCardSaid :=
  Claim7.holds_tied_plain_at .later [] [.handle] true Rows.fnTxnDecidedCard.stood.harness true
    over (fun _ h => by cases h) (by kernel_rfl) (fun _ h => by cases h) fnTxnDecided_row_tie rfl ⟨rfl, rfl⟩ (by kernel_rfl) rfl
    (fun f fn hf hfn => by
      obtain rfl : f = 14 := Option.some.inj ((show Tryd.prog.funcNamed "loop.example/flexquorum/laws.FnTxnDecided" = some 14 by kernel_rfl).symm.trans hf) |>.symm
      obtain rfl : fn = Tryd.f14 := (Option.some.inj (Tryd.func14.symm.trans hfn)).symm
      exact ⟨by kernel_rfl, fun j t ht => by
        rw [Tryd.params14] at ht
        have hm := Array.mem_of_getElem? ht
        simp only [List.mem_toArray, List.mem_cons, List.not_mem_nil, or_false] at hm
        (rcases hm with hm | hm)
        · (subst hm; exact (show Tryd.prog.wantsStandIn 22 = false by kernel_rfl))
        · (subst hm; exact (show Tryd.prog.wantsStandIn 22 = false by kernel_rfl))⟩)
    (by kernel_rfl)
end Go.Proofs.YtocinffmdciihaaDoor.fnTxnDecided
