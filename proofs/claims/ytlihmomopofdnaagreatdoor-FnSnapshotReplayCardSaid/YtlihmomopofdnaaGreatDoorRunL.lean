/-
  Runs of commands in two parts, at a place; the forms of slices.
-/
import Derived.Test.YtlihmomopofdnaaGreatDoorAllS
import Derived.Test.YtlihmomopofdnaaGreatDoorPlainA
import Derived.Test.YtlihmomopofdnaaGreatDoorSlc
namespace Go.Proofs.YtlihmomopofdnaaGreatDoor
open Go.RowKit
set_option linter.unusedVariables false

theorem Cms.form {w : World} {lo hi : Nat} {v : Value} {cs : List CT} (h : Cms w lo hi v cs) : ∃ a c, v = .slice a cs.length c := by
  obtain ⟨_, _, a, cap, hv, _⟩ := h
  exact ⟨a, cap, hv⟩
theorem Bs.form {w : World} {lo hi : Nat} {v : Value} {bs : List Bool} (h : Bs w lo hi v bs) : ∃ a c, v = .slice a bs.length c := by
  obtain ⟨_, _, a, cap, hv, _⟩ := h
  exact ⟨a, cap, hv⟩
theorem runS_good {ps : List (ByteArray × Int)} (h : Good ps) (cs : List CT) : runS ps cs = runP ps cs := by
  unfold runS
  rw [ok_of h]
  rfl
theorem run_split {ps : List (ByteArray × Int)} {cs : List CT} {zs : List (ByteArray × Int)} {bs : List Bool} (hg : Good ps) (h : runP ps cs = (zs, bs)) (k : Nat) (hk : k ≤ cs.length) :
    ∃ ys ds rs, runS ps (cs.take k) = (ys, ds) ∧ Good ys ∧ runS ys (cs.drop k) = (zs, rs) ∧ (rs.length : Int) = (cs.length : Int) - (k : Int) ∧ bs = ds ++ rs ∧ ds.length = k := by
  have hy := run_good hg (cs.take k)
  have e := run_append ps (cs.take k) (cs.drop k)
  rw [List.take_append_drop, h] at e
  have e1 := (Prod.mk.inj e).1
  have e2 := (Prod.mk.inj e).2
  refine ⟨(runP ps (cs.take k)).1, (runP ps (cs.take k)).2, (runP (runP ps (cs.take k)).1 (cs.drop k)).2, runS_good hg _, hy, ?_, ?_, e2, ?_⟩
  · rw [runS_good hy]; exact Prod.ext e1.symm rfl
  · rw [run_len, List.length_drop]; omega
  · rw [run_len, List.length_take]; omega
theorem run_at {ps : List (ByteArray × Int)} {cs : List CT} {zs y : List (ByteArray × Int)} {bs ds : List Bool} {k : Nat} {c : CT} (hg : Good ps) (h : runP ps cs = (zs, bs)) (hc : cs[k]? = some c) (hy : runP ps (cs.take k) = (y, ds)) : bs[k]? = some (applyC y c).2 := by
  have hk : k < cs.length := (List.getElem?_eq_some_iff.1 hc).1
  have h1 := runP_step hc hy
  obtain ⟨ys, ds', rs, e1, _, _, _, e2, e3⟩ := run_split hg h (k + 1) hk
  rw [runS_good hg, h1] at e1
  have e4 := (Prod.mk.inj e1).2
  have hl : ds.length = k := by
    have := run_len ps (cs.take k)
    rw [hy, List.length_take] at this
    replace this : ds.length = _ := this
    omega
  rw [e2, ← e4]
  rw [List.append_assoc, List.getElem?_append_right (by omega), hl, Nat.sub_self]
  rfl
end Go.Proofs.YtlihmomopofdnaaGreatDoor
