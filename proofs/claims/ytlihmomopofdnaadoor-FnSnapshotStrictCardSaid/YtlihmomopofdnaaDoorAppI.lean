/-
  The walk of the program's StoreApply.
-/
import Derived.Test.YtlihmomopofdnaaDoorBindW
import Derived.Test.YtlihmomopofdnaaDoorPrsI
namespace Go.Proofs.YtlihmomopofdnaaDoor
open Go.RowKit Go.Maps Go.WideMaps
set_option linter.unusedVariables false

def applyS (ps : List (ByteArray × Int)) (op : Int) (key : ByteArray) (val exp : Int) : List (ByteArray × Int) × Bool := if storeOk ps = true then applyP ps op key val exp else ([], false)
def RetApply (w : World) (z : List (ByteArray × Int) × Bool) (e : Ending) (w' : World) : Prop := ∃ v, e = .returned (.tuple #[v, .bool z.2]) ∧ PrsO w' w.heap.size w'.heap.size v z.1 ∧ Below w.heap.size w w'

set_option maxRecDepth 100000 in
set_option maxHeartbeats 16000000 in
theorem implStoreApply_any (v : Value) (ps : List (ByteArray × Int)) (op : Int) (key : ByteArray) (val exp : Int) (w : World) {lo hi : Nat} (h : Prs w lo hi v ps) (hx : ps.length ≤ 1048576) (hks : key.size ≤ maxLen) :
    Calls Tryd.prog 21 #[v, .agg #[.int .i64 op, .string key, .int .i64 val, .int .i64 exp]] w (RetApply w (applyS ps op key val exp)) := by
  have HKS := Lib.hid hks; clear hks
  have hb0 : Below w.heap.size w (w.alloc (.cells #[.int .i64 op, .string key, .int .i64 val, .int .i64 exp] 41)) := (Below.refl _ _).alloc (Nat.le_refl _) _
  have kC := Blk.new w #[.int .i64 op, .string key, .int .i64 val, .int .i64 exp] 41
  have hsz : (w.alloc (.cells #[.int .i64 op, .string key, .int .i64 val, .int .i64 exp] 41)).heap.size = w.heap.size + 1 := by simp
  have HC := Lib.hid (And.intro kC hb0)
  have HSZ := Lib.hid hsz
  have h' := h.below hb0
  obtain ⟨a, cap, rfl, _⟩ := h.open
  clear kC hb0 h hsz
  go_enter Tryd.func21, Tryd.ntmps21
  go_wp2_with fail
  generalize w.alloc (.cells #[.int .i64 op, .string key, .int .i64 val, .int .i64 exp] 41) = w0 at *
  cases hv : storeOk ps
  · have HV := Lib.hid hv; clear hv
    refine (readStore_any _ ps _ h' hx false HV.out).mono ?_
    rintro e w1 ⟨hb, h0, h1⟩
    obtain rfl := h0 rfl
    have HB := Lib.hid (HC.out.2.trans (hb.mono HC.out.2.size))
    clear h0 h1 hb h'
    go_wp2_with fail
    go_ret2
    refine ⟨.slice none 0 0, ?_, ?_, HB.out⟩
    · show Ending.returned (.tuple #[.slice none 0 0, .bool false]) = _
      unfold applyS; rw [HV.out]; rfl
    · unfold applyS; rw [HV.out]; exact RecsO.nil _ _ _ (Nat.le_refl _)
  · have HV := Lib.hid hv
    have HG := Lib.hid (good_of hv)
    have HZ := Lib.hid (show applyS ps op key val exp = applyP ps op key val exp by unfold applyS; rw [hv]; rfl)
    clear hv
    refine (readStore_any _ ps _ h' hx true HV.out).mono ?_
    rintro e w1 ⟨hb, h0, h1⟩
    obtain ⟨rfl, hst⟩ := h1 rfl
    have HSM : Hid (SM w1 w0.heap.size ps.length ps) := Lib.hid ⟨_, hst, rep_of HV.out⟩
    have k1 := HC.out.1.below hb
    have p0 := k1.cell 0 rfl
    have p1 := k1.cell 1 rfl
    have p2 := k1.cell 2 rfl
    have p3 := k1.cell 3 rfl
    have HB1 := Lib.hid (HC.out.2.trans (hb.mono HC.out.2.size))
    have HLT := Lib.hid (show w.heap.size ≤ w0.heap.size from HC.out.2.size)
    clear h0 h1 hb h' hst k1
    as_aux_lemma =>
      go_wp2_with fail
      refine (bind_any w0.heap.size ps.length ps op key val exp w1 HSM.out HKS.out).mono ?_
      rintro e w2 ⟨hb2, hlt2, cA, cB1, cB2, t0, t1, t2⟩
      have HSM2 := Lib.hid (HSM.out.below hb2)
      have HB2 := Lib.hid (below_step HB1.out hb2 HB1.out.size)
      have HBL := Lib.hid (show w1.heap.size ≤ w2.heap.size from hb2.size)
      have HA := Lib.hid cA
      have HB_1 := Lib.hid cB1
      have HB_2 := Lib.hid cB2
      clear hb2 hlt2 p0 p1 p2 p3 cA cB1 cB2
      rcases bindK_le ps op key exp with hk | hk | hk
      · have HP := Lib.hid (apply_fail val hk)
        obtain rfl := t0 hk
        clear t0 t1 t2 hk
        go_wp2_with fail
        refine (fail_any _).mono ?_
        rintro e w3 ⟨rfl, rfl⟩
        go_wp2_with fail
        obtain ⟨D, hst, hrep⟩ := HSM2.out
        refine (pairs_any w0.heap.size ps.length D ps _ hst hrep HG.out (by omega)).mono ?_
        rintro e w4 ⟨v4, rfl, o4, hb4⟩
        go_wp2_with fail
        go_ret2
        refine ⟨v4, ?_, ?_, below_step HB2.out hb4 HB2.out.size⟩
        · rw [HZ.out, HP.out]; rfl
        · rw [HZ.out, HP.out]; exact PrsO.wide o4 HB2.out.size (Nat.le_refl _) (Nat.le_refl _)
      · obtain ⟨hik, hp⟩ := apply_put val hk
        have HP := Lib.hid hp
        have HIK := Lib.hid hik
        obtain rfl := t1 hk
        clear t0 t1 t2 hk hp hik
        go_wp2_with fail
        refine (put_any w1.heap.size (w1.heap.size + 1) w0.heap.size ps.length ps key val _ HA.out HB_1.out HB_2.out HSM2.out HG.out HIK.out (by unfold maxLen; omega)).mono ?_
        rintro e w3 ⟨rfl, ⟨D, hst, hrep⟩, hk3⟩
        have HST := Lib.hid hst
        have HREP := Lib.hid hrep
        have HB3 := Lib.hid (HB2.out.trans (hk3.below HLT.out HB2.out.size))
        clear hst hrep hk3
        go_wp2_with fail
        refine (pairs_any w0.heap.size (ps.length + 1) D _ _ HST.out HREP.out (by
          have := good_apply HG.out op key val exp
          rw [HP.out] at this
          split
          · rename_i hv; rw [if_pos hv] at this; exact this
          · exact HG.out) (by omega)).mono ?_
        rintro e w4 ⟨v4, rfl, o4, hb4⟩
        go_wp2_with fail
        go_ret2
        refine ⟨v4, ?_, ?_, below_step HB3.out hb4 HB3.out.size⟩
        · rw [HZ.out, HP.out]; cases isV val <;> rfl
        · rw [HZ.out, HP.out]
          have := PrsO.wide o4 HB3.out.size (Nat.le_refl _) (Nat.le_refl _)
          cases hv : isV val <;> rw [hv] at this <;> exact this
      · obtain ⟨hik, hp⟩ := apply_del val hk
        have HP := Lib.hid hp
        have HIK := Lib.hid hik
        obtain rfl := t2 hk
        clear t0 t1 t2 hk hp hik
        go_wp2_with fail
        refine (del_any w1.heap.size (w1.heap.size + 1) w0.heap.size ps.length ps key _ HA.out HB_1.out HSM2.out HIK.out).mono ?_
        rintro e w3 ⟨rfl, ⟨D, hst, hrep⟩, hk3⟩
        have HST := Lib.hid hst
        have HREP := Lib.hid hrep
        have HB3 := Lib.hid (HB2.out.trans (hk3.below HLT.out HB2.out.size))
        clear hst hrep hk3
        go_wp2_with fail
        refine (pairs_any w0.heap.size ps.length D _ _ HST.out HREP.out (good_without HG.out key) (by omega)).mono ?_
        rintro e w4 ⟨v4, rfl, o4, hb4⟩
        go_wp2_with fail
        go_ret2
        refine ⟨v4, ?_, ?_, below_step HB3.out hb4 HB3.out.size⟩
        · rw [HZ.out, HP.out]; rfl
        · rw [HZ.out, HP.out]; exact PrsO.wide o4 HB3.out.size (Nat.le_refl _) (Nat.le_refl _)
end Go.Proofs.YtlihmomopofdnaaDoor
