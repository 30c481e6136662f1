/-
  The walks of the reference's l32Apply and StoreApply.
-/
import Derived.Test.YtlihmomopofdnaaGreatDoorWout
import Derived.Test.YtlihmomopofdnaaGreatDoorGetS
import Derived.Test.YtlihmomopofdnaaGreatDoorAppI
namespace Go.Proofs.YtlihmomopofdnaaGreatDoor
open Go.RowKit
set_option linter.unusedVariables false

set_option maxRecDepth 100000 in
set_option maxHeartbeats 16000000 in
theorem l32Apply_any (v : Value) (ps : List (ByteArray × Int)) (op : Int) (key : ByteArray) (val exp : Int) (w : World) {lo hi : Nat} (h : Prs w lo hi v ps) (hx : ps.length ≤ 1048576) :
    Calls Tryz.prog 15 #[v, .agg #[.int .i64 op, .string key, .int .i64 val, .int .i64 exp]] w (RetApply w (applyP ps op key val exp)) := by
  have kC := Blk.new w #[.int .i64 op, .string key, .int .i64 val, .int .i64 exp] 41
  have hb0 : Below w.heap.size w (w.alloc (.cells #[.int .i64 op, .string key, .int .i64 val, .int .i64 exp] 41)) := (Below.refl _ _).alloc (Nat.le_refl _) _
  have h0 := h.below hb0
  have p1' := kC.cell 1 rfl
  have HC := Lib.hid (And.intro kC hb0)
  obtain ⟨m, r, hf⟩ : ∃ m r, findP ps key = (m, r) := ⟨_, _, rfl⟩
  have HF := Lib.hid hf
  obtain ⟨a, cap, rfl, _⟩ := h.open
  clear kC hb0 h hf
  go_enter Tryz.func15, Tryz.ntmps15
  go_wp2_with fail
  generalize w.alloc (.cells #[.int .i64 op, .string key, .int .i64 val, .int .i64 exp] 41) = w0 at *
  refine (l32Get_any _ ps key w0 h0 m r HF.out).mono ?_
  rintro e w1 ⟨rfl, rfl⟩
  have HSZ := Lib.hid HC.out.2.size
  have hbA : Below w0.heap.size w0 (w0.alloc (.cells #[] 52)) := (Below.refl _ _).alloc (Nat.le_refl _) _
  have hnil := Own.empty w0 w0.heap.size 52 2 (Nat.le_refl _)
  have hsrc : Sl (w0.alloc (.cells #[] 52)) lo hi (.slice a ps.length cap) ps.length 2 (flat encP ps) := Prs.below h0 hbA
  have hone := flat_all encP ps
  have H0 := Lib.hid h0
  clear h0 p1'
  as_aux_lemma =>
    go_wp2_with (at_builtin; refine wpl_append_all elPair rfl _ _ rfl rfl hnil hbA.size rfl hsrc hone (by omega) (by unfold maxLen; omega) ?_; intro vs w2 hown2 hk2; have hb2 := hbA.trans (hk2.below (Nat.le_refl _) hbA.size); have k2 := HC.out.1.below hb2; have p0 := k2.cell 0 rfl; have p1 := k2.cell 1 rfl; have p2 := k2.cell 2 rfl; have p3 := k2.cell 3 rfl; obtain ⟨_, _, ao, co, hvo, _⟩ := Own.sl hown2; rw [Nat.zero_add] at hvo; subst hvo)
    have HB := Lib.hid (HC.out.2.trans (hb2.mono HSZ.out))
    have H2 := Lib.hid (H0.out.below hb2)
    have HO : Hid (PrsO w2 w0.heap.size w2.heap.size (.slice ao ps.length co) ps) := Lib.hid (by
      unfold PrsO RecsO
      rw [Nat.zero_add, List.nil_append] at hown2
      exact hown2)
    clear hbA hnil hsrc hone hown2 hk2 hb2 k2
    cases hk : isK key
    · have HK := Lib.hid hk
      have HT := Lib.hid (show applyP ps op key val exp = (ps, false) by unfold applyP; rw [hk, if_neg (by simp)])
      clear hk
      go_wp2_with first
        | (go_at_call 19; refine (l32Key_any _ _ false HK.out).mono ?_; rintro e w' ⟨rfl, rfl⟩)
      go_ret2
      exact ⟨_, by rw [HT.out]; rfl, by rw [HT.out]; exact PrsO.wide HO.out HSZ.out (Nat.le_refl _) (Nat.le_refl _), HB.out⟩
    · have HK := Lib.hid hk
      by_cases h1 : op = 1
      · subst h1
        cases hv : isV val
        · have HV := Lib.hid hv
          have HT := Lib.hid (show applyP ps 1 key val exp = (ps, false) by unfold applyP; rw [hk, if_pos rfl, if_pos rfl, hv, if_neg (by simp)])
          clear hk
          go_wp2_with first
            | (go_at_call 19; refine (l32Key_any _ _ true HK.out).mono ?_; rintro e w' ⟨rfl, rfl⟩)
            | (go_at_call 20; refine (l21Value_any _ _ false HV.out).mono ?_; rintro e w' ⟨rfl, rfl⟩)
          go_ret2
          exact ⟨_, by rw [HT.out]; rfl, by rw [HT.out]; exact PrsO.wide HO.out HSZ.out (Nat.le_refl _) (Nat.le_refl _), HB.out⟩
        · have HV := Lib.hid hv
          have HT := Lib.hid (show applyP ps 1 key val exp = (withP ps key val, true) by unfold applyP; rw [hk, if_pos rfl, if_pos rfl, hv, if_pos rfl])
          clear hk
          go_wp2_with first
            | (go_at_call 19; refine (l32Key_any _ _ true HK.out).mono ?_; rintro e w' ⟨rfl, rfl⟩)
            | (go_at_call 20; refine (l21Value_any _ _ true HV.out).mono ?_; rintro e w' ⟨rfl, rfl⟩)
            | (go_at_call 29; refine (l32With_any _ ps key val _ H2.out hx).mono ?_; rintro e w3 ⟨v3, rfl, o3, hb3⟩)
          go_ret2
          exact ⟨v3, by rw [HT.out]; rfl, by rw [HT.out]; exact PrsO.wide o3 HB.out.size (Nat.le_refl _) (Nat.le_refl _), below_step HB.out hb3 HB.out.size⟩
      · have b1 : (op == 1) = false := by simpa using h1
        by_cases h2 : op = 2
        · subst h2
          have HT := Lib.hid (show applyP ps 2 key val exp = (withoutP ps key, r) by unfold applyP; rw [hk, if_pos rfl, if_neg h1, if_pos rfl, HF.out])
          clear hk
          go_wp2_with first
            | (go_at_call 19; refine (l32Key_any _ _ true HK.out).mono ?_; rintro e w' ⟨rfl, rfl⟩)
            | (go_at_call 32; refine (l32Without_any _ ps key _ H2.out hx).mono ?_; rintro e w3 ⟨v3, rfl, o3, hb3⟩)
          go_ret2
          exact ⟨v3, by rw [HT.out]; rfl, by rw [HT.out]; exact PrsO.wide o3 HB.out.size (Nat.le_refl _) (Nat.le_refl _), below_step HB.out hb3 HB.out.size⟩
        · have b2 : (op == 2) = false := by simpa using h2
          by_cases h3 : op = 3
          · subst h3
            cases hv : isV val
            · have HV := Lib.hid hv
              have HT := Lib.hid (show applyP ps 3 key val exp = (ps, false) by unfold applyP; rw [hk, if_pos rfl, if_neg h1, if_neg h2, hv, if_neg (fun e => by cases e.2.1)])
              clear hk
              go_wp2_with first
                | (go_at_call 19; refine (l32Key_any _ _ true HK.out).mono ?_; rintro e w' ⟨rfl, rfl⟩)
                | (go_at_call 20; refine (l21Value_any _ _ false HV.out).mono ?_; rintro e w' ⟨rfl, rfl⟩)
              go_ret2
              exact ⟨_, by rw [HT.out]; rfl, by rw [HT.out]; exact PrsO.wide HO.out HSZ.out (Nat.le_refl _) (Nat.le_refl _), HB.out⟩
            · have HV := Lib.hid hv
              cases r
              · have HT := Lib.hid (show applyP ps 3 key val exp = (ps, false) by unfold applyP; rw [hk, if_pos rfl, if_neg h1, if_neg h2, HF.out, if_neg (fun e => by cases e.2.2)])
                clear hk
                go_wp2_with first
                  | (go_at_call 19; refine (l32Key_any _ _ true HK.out).mono ?_; rintro e w' ⟨rfl, rfl⟩)
                  | (go_at_call 20; refine (l21Value_any _ _ true HV.out).mono ?_; rintro e w' ⟨rfl, rfl⟩)
                go_ret2
                exact ⟨_, by rw [HT.out]; rfl, by rw [HT.out]; exact PrsO.wide HO.out HSZ.out (Nat.le_refl _) (Nat.le_refl _), HB.out⟩
              · by_cases h4 : m = exp
                · subst h4
                  have HT := Lib.hid (show applyP ps 3 key val m = (withP ps key val, true) by unfold applyP; rw [hk, if_pos rfl, if_neg h1, if_neg h2, HF.out, if_pos ⟨rfl, hv, rfl⟩])
                  clear hk
                  go_wp2_with first
                    | (go_at_call 19; refine (l32Key_any _ _ true HK.out).mono ?_; rintro e w' ⟨rfl, rfl⟩)
                    | (go_at_call 20; refine (l21Value_any _ _ true HV.out).mono ?_; rintro e w' ⟨rfl, rfl⟩)
                    | (go_at_call 29; refine (l32With_any _ ps key val _ H2.out hx).mono ?_; rintro e w3 ⟨v3, rfl, o3, hb3⟩)
                  go_ret2
                  exact ⟨v3, by rw [HT.out]; rfl, by rw [HT.out]; exact PrsO.wide o3 HB.out.size (Nat.le_refl _) (Nat.le_refl _), below_step HB.out hb3 HB.out.size⟩
                · have b4 : (m == exp) = false := by simpa using h4
                  have HT := Lib.hid (show applyP ps 3 key val exp = (ps, false) by unfold applyP; rw [hk, if_pos rfl, if_neg h1, if_neg h2, HF.out, if_neg (fun e => h4 (Prod.mk.inj e.2.2).1)])
                  clear hk
                  go_wp2_with first
                    | (go_at_call 19; refine (l32Key_any _ _ true HK.out).mono ?_; rintro e w' ⟨rfl, rfl⟩)
                    | (go_at_call 20; refine (l21Value_any _ _ true HV.out).mono ?_; rintro e w' ⟨rfl, rfl⟩)
                  go_ret2
                  exact ⟨_, by rw [HT.out]; rfl, by rw [HT.out]; exact PrsO.wide HO.out HSZ.out (Nat.le_refl _) (Nat.le_refl _), HB.out⟩
          · have b3 : (op == 3) = false := by simpa using h3
            have HT := Lib.hid (show applyP ps op key val exp = (ps, false) by unfold applyP; rw [hk, if_pos rfl, if_neg h1, if_neg h2, if_neg (fun e => h3 e.1)])
            clear hk
            go_wp2_with first
              | (go_at_call 19; refine (l32Key_any _ _ true HK.out).mono ?_; rintro e w' ⟨rfl, rfl⟩)
            go_ret2
            exact ⟨_, by rw [HT.out]; rfl, by rw [HT.out]; exact PrsO.wide HO.out HSZ.out (Nat.le_refl _) (Nat.le_refl _), HB.out⟩

end Go.Proofs.YtlihmomopofdnaaGreatDoor
