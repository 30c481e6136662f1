/-
  Contracts of the laws' own helpers on member sets.
-/
import Derived.Test.YtgipgfhnkkpdkaaSetQ
import Derived.Test.YtgipgfhnkkpdkaaDrawT
import Derived.Test.YtgipgfhnkkpdkaaUtil
namespace Go.Proofs.Ytgipgfhnkkpdkaa
open Go.RowKit
set_option linter.unusedVariables false

set_option maxHeartbeats 1000000 in
theorem setOf_any (n : Int) (w : World) (h0 : 0 ≤ n) (h1 : n ≤ 1048576) (m : Int) (hm : n * 37 % 64 = m) :
    Calls Try.prog 51 #[.int .i64 n] w (RetInts w (bitsTo m 6)) := by
  have hin : inB m 0 63 = true := inB_mk (by omega) (by omega)
  have HI := Lib.hid hin; clear hin
  have HM := Lib.hid hm; clear hm
  have HX := Lib.hid (show ofMaskL m = bitsTo m 6 by rw [ofMask_same]; simp [ofMaskS, HI.out])
  go_enter Try.func51, Try.ntmps51
  go_wp2_with fail
  rw [HM.out]
  refine (implSetOfMask_any m _ _ true HX.out HI.out).mono ?_
  rintro e w1 ⟨v, rfl, ho, hb⟩
  go_wp2_with fail
  go_ret
  exact ⟨_, rfl, ho, hb⟩
end Go.Proofs.Ytgipgfhnkkpdkaa
