/-
  For every input the law FnStoreValid returns true, and what it was given reads afterwards as before. No condition beyond the row's own.
-/
import Derived.Test.YtbhcgdjdkdiceaaFrameP
import Derived.Test.YtbhcgdjdkdiceaaStoreV
import Derived.Test.YtbhcgdjdkdiceaaGetI
import Derived.Test.YtbhcgdjdkdiceaaSlc
import Derived.Test.YtbhcgdjdkdiceaaStp
import Derived.Deep.DeepCutAuto
import Derived.Deep.QuietTactic
import Derived.BigQuiet
import Derived.Deep.RegionLaw
namespace Go.Proofs.Ytbhcgdjdkdiceaa.fnStoreValid
open Go.ChangeShapes Go.WideShapes Go.ChangeAt Go.RowKit
open Go.ChangeMaps (open_string shut_string)
set_option linter.unusedVariables false

/-! ### the plain law -/
theorem lt_of_code {a b : ByteArray} (ha : isK a = true) (hb : isK b = true) (h : code a < code b) : lt a b = true := by
  obtain ⟨c, rfl⟩ := one_byte (isK_size ha)
  obtain ⟨d, rfl⟩ := one_byte (isK_size hb)
  have e1 : (⟨#[c]⟩ : ByteArray).toList = [c] := by rw [Lib.toList_data]
  have e2 : (⟨#[d]⟩ : ByteArray).toList = [d] := by rw [Lib.toList_data]
  unfold code at h
  rw [e1, e2] at h
  unfold lt
  rw [e1, e2]
  simp [Op.bytesLess]
  simpa [UInt8.lt_iff_toNat_lt] using h
theorem ok_mk {ps : List (ByteArray × Int)} (h : ∀ i, i < ps.length → isK (pk ps i) = true ∧ isV (pv ps i) = true ∧ (i = 0 ∨ lt (pk ps (i - 1)) (pk ps i) = true)) : storeOk ps = true := by
  refine storeOk_at fun j hj => ?_
  obtain ⟨h1, h2, h3⟩ := h j hj
  unfold okAt
  rw [h1, h2]
  rcases h3 with h3 | h3
  · subst h3; rfl
  · rw [h3]; simp
theorem less_at (ps : List (ByteArray × Int)) {k : Nat} (hk : k < ps.length) (i : Nat) : pk (ps.take k ++ ps.drop (k + 1)) i = pk ps (if i < k then i else i + 1) ∧ pv (ps.take k ++ ps.drop (k + 1)) i = pv ps (if i < k then i else i + 1) := by
  have e : (ps.take k ++ ps.drop (k + 1))[i]? = ps[if i < k then i else i + 1]? := by
    rw [List.getElem?_append, List.length_take, Nat.min_eq_left (by omega)]
    split
    · rw [List.getElem?_take, if_pos (by omega)]
    · rw [List.getElem?_drop]; congr 1; omega
  unfold pk pv
  rw [List.getD_eq_getElem?_getD, List.getD_eq_getElem?_getD, e]
  exact ⟨rfl, rfl⟩
theorem twice_at (ps : List (ByteArray × Int)) {k : Nat} (hk : k < ps.length) (i : Nat) : pk (ps.take (k + 1) ++ ps.drop k) i = pk ps (if i < k + 1 then i else i - 1) := by
  have e : (ps.take (k + 1) ++ ps.drop k)[i]? = ps[if i < k + 1 then i else i - 1]? := by
    rw [List.getElem?_append, List.length_take, Nat.min_eq_left (by omega)]
    split
    · rw [List.getElem?_take, if_pos (by omega)]
    · rw [List.getElem?_drop]; congr 1; omega
  unfold pk
  rw [List.getD_eq_getElem?_getD, List.getD_eq_getElem?_getD, e]
theorem less_ok {ps : List (ByteArray × Int)} (hs : storeOk ps = true) {k : Nat} (hk : k < ps.length) : storeOk (ps.take k ++ ps.drop (k + 1)) = true := by
  refine ok_mk fun i hi => ?_
  have hi2 : i + 1 < ps.length := by rw [List.length_append, List.length_take, List.length_drop] at hi; omega
  rw [(less_at ps hk i).1, (less_at ps hk i).2, (less_at ps hk (i - 1)).1]
  have hj : (if i < k then i else i + 1) < ps.length := by split <;> omega
  have h1 := okAt_parts (storeOk_all hs hj)
  refine ⟨h1.1, h1.2.1, ?_⟩
  by_cases h0 : i = 0
  · exact .inl h0
  · right
    have hj2 : (if i - 1 < k then i - 1 else i - 1 + 1) < ps.length := by split <;> omega
    have h2 := okAt_parts (storeOk_all hs hj2)
    have hlt : (if i - 1 < k then i - 1 else i - 1 + 1) < (if i < k then i else i + 1) := by split <;> split <;> omega
    refine lt_of_code h2.1 h1.1 ?_
    generalize (if i - 1 < k then i - 1 else i - 1 + 1) = x at *
    generalize (if i < k then i else i + 1) = y at *
    have := code_mono hs x (y - x - 1) (by omega)
    rwa [show x + (y - x - 1) + 1 = y by omega] at this
theorem twice_not {ps : List (ByteArray × Int)} (hs : storeOk ps = true) {k : Nat} (hk : k < ps.length) : storeOk (ps.take (k + 1) ++ ps.drop k) = false := by
  refine storeOk_not (k := k + 1) (by rw [List.length_append, List.length_take, List.length_drop]; omega) ?_
  cases h : okAt (ps.take (k + 1) ++ ps.drop k) (k + 1)
  · rfl
  · have h1 := okAt_parts h
    have h2 := okAt_parts (storeOk_all hs hk)
    rw [show k + 1 - 1 = k from rfl, twice_at ps hk, twice_at ps hk, if_neg (by omega), if_pos (by omega), show k + 1 - 1 = k from rfl] at h1
    rcases h1.2.2 with e | e
    · omega
    · exact absurd (lt_code h2.1 h2.1 (by simpa using e)) (Nat.lt_irrefl _)

set_option maxRecDepth 100000 in
set_option maxHeartbeats 8000000 in
theorem walk_at (w : World) (v0 : Value) (n0 : Nat) (b0 : Bytes w 0 w.heap.size v0 n0) (v1 : Value) (n1 : Nat) (b1 : Bytes w 0 w.heap.size v1 n1) :
    Calls Try.prog 4 #[v0, v1] w fun e w' => e = .returned (.bool true) ∧ Below w.heap.size w w' := by
  obtain ⟨a0, c0, hv0, hn0, hx0⟩ := b0.open
  clear hx0
  subst hv0
  by_cases big0 : n0 ≤ 1048576
  case neg =>
    go_enter Try.func4, Try.ntmps4
    go_wp2_with fail
    go_ret
    exact ⟨rfl, Below.refl _ _⟩
  obtain ⟨a1, c1, hv1, hn1, hx1⟩ := b1.open
  clear hx1
  subst hv1
  by_cases big1 : n1 ≤ 1048576
  case neg =>
    go_enter Try.func4, Try.ntmps4
    go_wp2_with fail
    go_ret
    exact ⟨rfl, Below.refl _ _⟩
  go_enter Try.func4, Try.ntmps4
  go_wp2_with fail
  have HB : Below w.heap.size w w := Below.refl _ _
  refine (DrawStoreValid_any _ n0 _ b0).mono ?_
  rintro e w1 ⟨sv, ps, rfl, o, hlen, hb1⟩
  have hs1 := hb1.size
  replace b0 := b0.below hb1
  replace HB := below_step HB hb1 HB.size
  clear hb1
  obtain ⟨aa, ca, hva⟩ := o.form
  subst hva
  have HLEN := Lib.hid hlen; clear hlen
  as_aux_lemma =>
   go_wp2_with fail
   cases hv : storeOk ps
   · have HV := Lib.hid hv; clear hv
     refine (implStoreValid_any _ ps _ o.prs (Nat.le_trans HLEN.out (by decide)) false HV.out).mono ?_
     rintro e w2 ⟨rfl, hb2⟩
     have hs2 := hb2.size
     replace b0 := b0.below hb2
     replace o := o.below hb2
     replace HB := below_step HB hb2 HB.size
     clear hb2
     as_aux_lemma =>
      go_wp2_with fail
      refine (specStoreValid_any _ ps _ o.prs false HV.out).mono ?_
      rintro e w3 ⟨rfl, hw3⟩
      have hb3 := drawn_below hw3
      have hs3 := hb3.size
      replace b0 := b0.below hb3
      replace o := o.below hb3
      replace HB := below_step HB hb3 HB.size
      clear hb3 hw3
      as_aux_lemma =>
       go_wp2_with fail
       refine (specStoreValid_any _ ps _ o.prs false HV.out).mono ?_
       rintro e w4 ⟨rfl, hw4⟩
       have hb4 := drawn_below hw4
       have hs4 := hb4.size
       replace b0 := b0.below hb4
       replace o := o.below hb4
       replace HB := below_step HB hb4 HB.size
       clear hb4 hw4
       as_aux_lemma =>
        go_wp2_with fail
        go_ret
        exact ⟨rfl, HB⟩
   · have HV := Lib.hid hv; clear hv
     refine (implStoreValid_any _ ps _ o.prs (Nat.le_trans HLEN.out (by decide)) true HV.out).mono ?_
     rintro e w2 ⟨rfl, hb2⟩
     have hs2 := hb2.size
     replace b0 := b0.below hb2
     replace o := o.below hb2
     replace HB := below_step HB hb2 HB.size
     clear hb2
     as_aux_lemma =>
      go_wp2_with fail
      refine (specStoreValid_any _ ps _ o.prs true HV.out).mono ?_
      rintro e w3 ⟨rfl, hw3⟩
      have hb3 := drawn_below hw3
      have hs3 := hb3.size
      replace b0 := b0.below hb3
      replace o := o.below hb3
      replace HB := below_step HB hb3 HB.size
      clear hb3 hw3
      have hu6 := HLEN.out
      by_cases hz : ps.length = 0
      · have hzb : ((ps.length : Int) == 0) = true := by rw [hz]; rfl
        clear hu6 hz
        as_aux_lemma =>
         go_wp2_with fail
         refine (specStoreValid_any _ ps _ o.prs true HV.out).mono ?_
         rintro e w4 ⟨rfl, hw4⟩
         have hb4 := drawn_below hw4
         have hs4 := hb4.size
         replace b0 := b0.below hb4
         replace o := o.below hb4
         replace HB := below_step HB hb4 HB.size
         clear hb4 hw4
         as_aux_lemma =>
          go_wp2_with fail
          go_ret
          exact ⟨rfl, HB⟩
      · have hzb : ((ps.length : Int) == 0) = false := by simp; intro e; exact hz (by rw [e]; rfl)
        have hzi : ¬ (ps.length : Int) = 0 := by omega
        obtain ⟨k, hkm⟩ : ∃ k : Nat, n1 % ps.length = k := ⟨_, rfl⟩
        have hk : k < ps.length := by rw [← hkm]; exact Nat.mod_lt _ (by omega)
        have hrem : (n1 : Int).tmod (ps.length : Int) = (k : Int) := by rw [Int.tmod_eq_emod_of_nonneg (by omega)]; omega
        clear hkm
        obtain ⟨m, hm⟩ : ∃ m, ps.length = k + 1 + m := ⟨ps.length - (k + 1), by omega⟩
        have hk6 : k ≤ 6 := by omega
        have hm6 : m ≤ 6 := by omega
        have hl6 : (ps.length : Int) ≤ 6 := by omega
        have hkw : IntKind.i64.wrap ((k : Int) + 1) = (k : Int) + 1 := wrap_i64 (by omega) (by omega)
        have HL := Lib.hid (less_ok HV.out hk)
        have HT := Lib.hid (twice_not HV.out hk)
        obtain ⟨vA, hrA, hpA⟩ := recs_head elPair (E := encP) o.prs k (by omega)
        obtain ⟨vB, hrB, hpB⟩ := recs_tail elPair (E := encP) o.prs (k + 1) (by omega)
        obtain ⟨vC, hrC, hpC⟩ := recs_head elPair (E := encP) o.prs (k + 1) (by omega)
        obtain ⟨vD, hrD, hpD⟩ := recs_tail elPair (E := encP) o.prs k (by omega)
        replace hrA := hrA k rfl
        replace hrB := hrB ((k : Int) + 1) (by omega)
        replace hrC := hrC ((k : Int) + 1) (by omega)
        replace hrD := hrD k rfl
        have lA : (ps.take k).length = k := by rw [List.length_take]; omega
        have lB : (ps.drop (k + 1)).length = m := by rw [List.length_drop]; omega
        have lC : (ps.take (k + 1)).length = k + 1 := by rw [List.length_take]; omega
        have lD : (ps.drop k).length = m + 1 := by rw [List.length_drop]; omega
        generalize ps.take k = pA at *
        generalize ps.drop (k + 1) = pB at *
        generalize ps.take (k + 1) = pC at *
        generalize ps.drop k = pD at *
        have hbf : Below w3.heap.size w3 (w3.alloc (.cells #[] 38)).drew := ((Below.refl _ _).alloc (Nat.le_refl _) _).drew
        have hnil := Own.below (Own.empty w3 w3.heap.size 38 2 (Nat.le_refl _)) ((Below.refl _ _).drew)
        have hsA : Sl (w3.alloc (.cells #[] 38)).drew w.heap.size w1.heap.size vA k 2 (flat encP pA) := by rw [← lA]; exact Recs.below hpA hbf
        have hsB : Sl w3 w.heap.size w1.heap.size vB m 2 (flat encP pB) := by rw [← lB]; exact hpB
        have hsC : Sl w3 w.heap.size w1.heap.size vC (k + 1) 2 (flat encP pC) := by rw [← lC]; exact hpC
        have hsD : Sl w3 w.heap.size w1.heap.size vD (m + 1) 2 (flat encP pD) := by rw [← lD]; exact hpD
        have hoA := flat_all encP pA
        have hoB := flat_all encP pB
        have hoC := flat_all encP pC
        have hoD := flat_all encP pD
        have LAB := Lib.hid (And.intro lA lB)
        have LCD := Lib.hid (And.intro lC lD)
        have HBF := Lib.hid hbf
        clear lA lB lC lD hpA hpB hpC hpD hk hm hu6 hz hbf
        generalize hfA : flat encP pA = fA at *
        generalize hfB : flat encP pB = fB at *
        generalize hfC : flat encP pC = fC at *
        generalize hfD : flat encP pD = fD at *
        have HFA := Lib.hid hfA; have HFB := Lib.hid hfB; have HFC := Lib.hid hfC; have HFD := Lib.hid hfD
        clear hfA hfB hfC hfD
        as_aux_lemma =>
         go_wp2_with fail
         go_region_law (first
           | ((refine stp_append_all elPair rfl (.tmp 44) (.tmp 47) rfl rfl hnil HBF.out.size rfl hsA hoA (by omega) (by unfold maxLen; omega) ?_); intro vE wE hown1 hk1; have HE := Lib.hid (HBF.out.trans (hk1.below (Nat.le_refl _) HBF.out.size)); have HBsrc := Sl.below hsB HE.out; clear hk1)
           | ((refine stp_append_all elPair rfl (.tmp 48) (.tmp 52) rfl rfl hown1 HE.out.size rfl HBsrc hoB (by omega) (by unfold maxLen; omega) ?_); intro vF wF hown2 hk2; have HF := Lib.hid (HE.out.trans (hk2.below (Nat.le_refl _) HE.out.size)); clear hk2 hown1 HBsrc))
         all_goals
          have HP1 : Hid (PrsO wF w3.heap.size wF.heap.size vF (pA ++ pB)) := Lib.hid (by
           unfold PrsO RecsO
           rw [List.length_append, LAB.out.1, LAB.out.2, flat_append, HFA.out, HFB.out]
           rw [Nat.zero_add, List.nil_append] at hown2
           exact hown2)
          have HG := Lib.hid (show Below wF.heap.size wF (wF.alloc (.cells #[] 38)).drew from ((Below.refl _ _).alloc (Nat.le_refl _) _).drew)
          have hnil2 := Own.below (Own.empty wF wF.heap.size 38 2 (Nat.le_refl _)) ((Below.refl _ _).drew)
          have HCsrc := Sl.below hsC (HF.out.trans (HG.out.mono HF.out.size))
          have HLE := Lib.hid (show (pA ++ pB).length ≤ 1048576 by rw [List.length_append, LAB.out.1, LAB.out.2]; omega)
          clear HE hnil hsA hsB hoA hoB hrA hrB hown2 LAB HFA HFB hrem hzi HBF
          as_aux_lemma =>
           go_wp2_with fail
           go_region_law (first
            | ((refine stp_append_all elPair rfl (.tmp 54) (.tmp 58) rfl rfl hnil2 HG.out.size rfl HCsrc hoC (by omega) (by unfold maxLen; omega) ?_); intro vH wH hown3 hk3; have HH := Lib.hid (HG.out.trans (hk3.below (Nat.le_refl _) HG.out.size)); have HDsrc := Sl.below hsD (HF.out.trans (HH.out.mono HF.out.size)); clear hk3 HCsrc)
            | ((refine stp_append_all elPair rfl (.tmp 59) (.tmp 62) rfl rfl hown3 HH.out.size rfl HDsrc hoD (by omega) (by unfold maxLen; omega) ?_); intro vI wI hown4 hk4; have HI := Lib.hid (HH.out.trans (hk4.below (Nat.le_refl _) HH.out.size)); clear hk4 HDsrc hown3))
           all_goals
            have HP2 : Hid (PrsO wI wF.heap.size wI.heap.size vI (pC ++ pD)) := Lib.hid (by
             unfold PrsO RecsO
             rw [List.length_append, LCD.out.1, LCD.out.2, flat_append, HFC.out, HFD.out]
             rw [Nat.zero_add, List.nil_append] at hown4
             exact hown4)
            have HLE2 := Lib.hid (show (pC ++ pD).length ≤ 1048576 by rw [List.length_append, LCD.out.1, LCD.out.2]; omega)
            clear hrC hrD hsC hsD hoC hoD hnil2 hown4 LCD HFC HFD HG HH hkw hk6 hm6
            as_aux_lemma =>
             go_wp2_with fail
             refine (implStoreValid_any _ (pA ++ pB) _ (HP1.out.below HI.out).prs HLE.out true HL.out).mono ?_
             rintro e wJ ⟨rfl, hbJ⟩
             as_aux_lemma =>
              go_wp2_with fail
              refine (implStoreValid_any _ (pC ++ pD) _ (HP2.out.below hbJ).prs HLE2.out false HT.out).mono ?_
              rintro e wK ⟨rfl, hbK⟩
              as_aux_lemma =>
               go_wp2_with fail
               go_ret
               refine ⟨by simp, below_step HB (HF.out.trans ((HI.out.trans ((hbJ.trans (hbK.mono hbJ.size)).mono HI.out.size)).mono HF.out.size)) HB.size⟩

/-! ### THE ROW's STEP -/
set_option maxRecDepth 100000 in
theorem lifted (os : Os) (started : os.Started) (H : Type) (enc : TypeId × Value → H) :
    ReturnsInHanded {} Try.checked os 4 .any (Rows.fnStoreValidSpec.pre6 enc Try.prog Try.f4 Rows.fnStoreValidRow.domain false) (Rows.fnStoreValidSpec.post enc Try.prog Try.f4 false true false false) := by
  refine returnsInHanded_of_change (C := Try.checked) own started (by kernel_rfl) Try.func4
    (ChangeSpec.witness6 (enc := enc) (C := Try.checked) false ⟨#[], #[.slice none 0 0, .slice none 0 0], []⟩ 8 (by kernel_rfl) (by kernel_rfl) (by kernel_rfl) (by kernel_rfl)) ?_
  intro W base args ds gs before hval0 hW hcnd _
  have hval : ∀ (j : Nat) t v, Try.f4.params[j]? = some t → args[j]? = some v → Value.okWide Try.prog W .any base t v := hval0
  have hW' := hW
  obtain ⟨p, q, hA0, hV, rfl, hfz, hnd⟩ := hW
  have hA : DataW.TrodAll enc Try.prog W 0 (fun _ => true) true Try.f4.params.toList args.toList ds p := hA0
  rw [Try.params4] at hA hval
  obtain ⟨v0, vs0, d0, ds0, p0, q0, hargs, rfl, rfl, h0, r0⟩ := trodAll_cons hA
  obtain ⟨v1, vs1, d1, ds1, p1, q1, rfl, rfl, rfl, h1, r1⟩ := trodAll_cons r0
  obtain ⟨rfl, rfl, rfl⟩ := trodAll_nil r1
  obtain rfl : args = #[v0, v1] := by cases args; simp_all
  obtain ⟨rfl, rfl⟩ := trodVars_none hV
  obtain ⟨n0, b0⟩ := bytes_in (hval 0 _ v0 rfl rfl) h0
  have lt0 := lt_in h0
  obtain ⟨n1, b1⟩ := bytes_in (hval 1 _ v1 rfl rfl) h1
  have lt1 := lt_in h1
  clear hA0 hval0
  refine (walk_at W v0 n0 b0 v1 n1 b1).mono fun e W' ⟨he, bel⟩ => ?_
  subst he
  exact ⟨_, rfl, _, _, _, [], _, [], hW', trodAll_mk1 (shut_bool Try.underlying4 _), (trodAll_cons_mk (Below.trod laidOut (by kernel_rfl) (of_decide_eq_true (by kernel_rfl)) h0 bel lt0) (trodAll_cons_mk (Below.trod laidOut (by kernel_rfl) (of_decide_eq_true (by kernel_rfl)) h1 bel lt1) trodAll_mk0)), rfl, bel.frame _, fun h => by cases h⟩

set_option maxRecDepth 100000 in
theorem closed : joinedFacts Try.prog 4 Try.f4 Rows.fnStoreValidSpec Rows.fnStoreValidRow = true := by
  unfold joinedFacts
  rw [may, lifts, mk]
  kernel_rfl
theorem over : Rows.fnStoreValidRow.holds Try.pinned (OpenSpec.ofChange Rows.fnStoreValidSpec) :=
  OpenClaim.holds_of_wide 4 Try.f4 rfl rfl rfl rfl rfl rfl rfl ⟨rfl, rfl, rfl, rfl, rfl⟩ rfl rfl rfl rfl rfl (by as_aux_lemma => kernel_rfl) Try.func4 closed
    (of_decide_eq_true (by as_aux_lemma => kernel_rfl)) (by unfold Func.isWrapper; rw [if_neg (of_decide_eq_false (by as_aux_lemma => kernel_rfl))]; exact ⟨rfl, rfl⟩)
    (fun os started H enc _ => lifted os started H enc)

/-- THE STATEMENT -/
theorem proved : Rows.FnStoreValidSaid := over
end Go.Proofs.Ytbhcgdjdkdiceaa.fnStoreValid
