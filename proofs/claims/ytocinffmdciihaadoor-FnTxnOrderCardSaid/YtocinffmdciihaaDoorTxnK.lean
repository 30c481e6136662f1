/-
  The walks of the laws' own small functions on transactions: equal, copied, measured, marked, held.
-/
import Derived.Test.YtocinffmdciihaaDoorTxnU
import Derived.Test.YtocinffmdciihaaDoorUtilS
import Derived.Test.YtocinffmdciihaaDoorToInt
namespace Go.Proofs.YtocinffmdciihaaDoor
open Go.RowKit
set_option linter.unusedVariables false

theorem opOf {P : Program} {f : FuncId} {args : Array Value} {w : World} {t : Int × List Int × Bool} (h : Calls P f args w (RetOp w t)) {a : Int} {l : List Int} {b : Bool} (ht : t = (a, l, b)) :
    Calls P f args w (fun e w' => ∃ v, e = .returned (.tuple #[.agg #[.int .i64 a, v], .bool b]) ∧ IntsO w' w.heap.size w'.heap.size v l ∧ Below w.heap.size w w') := by
  subst ht; exact h


set_option maxHeartbeats 1000000 in
theorem sameTxn_any (r1 r2 : Int) (v1 v2 : Value) (xs ys : List Int) (w : World) {l1 h1 l2 h2 : Nat} (i1 : Ints w l1 h1 v1 xs) (i2 : Ints w l2 h2 v2 ys) (r : Bool) (hr : (r1 == r2 && xs == ys) = r) :
    Calls Tryd.prog 20 #[.agg #[.int .i64 r1, v1], .agg #[.int .i64 r2, v2]] w fun e w' => e = .returned (.bool r) ∧ Below w.heap.size w w' := by
  obtain ⟨a1, c1, hv1, _, hx1⟩ := i1.open
  obtain ⟨a2, c2, hv2, _, hx2⟩ := i2.open
  clear hx1 hx2
  subst hv1
  subst hv2
  have hb1 : Below w.heap.size w (w.alloc (.cells #[.int .i64 r1, .slice a1 xs.length c1] 25)) := (Below.refl _ _).alloc (Nat.le_refl _) _
  have hb2 : Below (w.alloc (.cells #[.int .i64 r1, .slice a1 xs.length c1] 25)).heap.size (w.alloc (.cells #[.int .i64 r1, .slice a1 xs.length c1] 25)) ((w.alloc (.cells #[.int .i64 r1, .slice a1 xs.length c1] 25)).alloc (.cells #[.int .i64 r2, .slice a2 ys.length c2] 25)) := (Below.refl _ _).alloc (Nat.le_refl _) _
  have hB := below_step hb1 hb2 hb1.size
  replace i1 := (i1.below hb1).below hb2
  replace i2 := (i2.below hb1).below hb2
  clear hb1 hb2
  have hs := hB.size
  cases he : (r1 == r2)
  · have hne : (r1 != r2) = true := by simp [bne, he]
    have HR := Lib.hid (show false = r by rw [← hr, he]; rfl); clear hr
    go_enter Tryd.func20, Tryd.ntmps20
    go_wp2_with fail
    go_ret
    exact ⟨ret_bool HR.out, hB⟩
  · have hne : (r1 != r2) = false := by simp [bne, he]
    have HR := Lib.hid (show (xs == ys) = r by rw [← hr, he]; rfl); clear hr
    go_enter Tryd.func20, Tryd.ntmps20
    go_wp2_with fail
    refine (sameInts_any _ _ xs ys _ i1 i2 r HR.out).mono ?_
    rintro e w' ⟨rfl, hw⟩
    have hb := drawn_below hw
    clear hw
    cases r
    all_goals
      go_wp2_with fail
      go_ret
      exact ⟨rfl, below_step hB hb hs⟩
end Go.Proofs.YtocinffmdciihaaDoor
