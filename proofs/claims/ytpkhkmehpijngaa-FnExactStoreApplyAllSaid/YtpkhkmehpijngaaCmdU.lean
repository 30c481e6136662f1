/-
  The walks of the exact laws' szCommand and toCommand; the reading of a law's command.
-/
import Derived.Test.YtpkhkmehpijngaaFrameP
import Derived.Test.YtpkhkmehpijngaaPairU
import Derived.Test.YtpkhkmehpijngaaRecB
import Derived.Laws.Rows
namespace Go.Proofs.Ytpkhkmehpijngaa
open Go.RowKit
set_option linter.unusedVariables false

set_option maxHeartbeats 1000000 in
theorem szCommand_any (op : Int) (a : ByteArray) (val exp l m : Int) (w : World) (ha : a.size ≤ maxLen) (l0 : 0 ≤ l) (l1 : l ≤ 1048576) (hm : (if (a.size : Int) ≤ l then l - (a.size : Int) else -1) = m) :
    Calls Try.prog 27 #[.agg #[.int .i64 op, .string a, .int .i64 val, .int .i64 exp], .int .i64 l] w fun e w' => e = .returned (.int .i64 m) ∧ Below w.heap.size w w' := by
  have hb1 : Below w.heap.size w (w.alloc (.cells #[.int .i64 op, .string a, .int .i64 val, .int .i64 exp] 45)) := (Below.refl _ _).alloc (Nat.le_refl _) _
  have hs : a.size ≤ 9223372036854775807 := by unfold maxLen at ha; omega
  have hw0 : IntKind.i64.wrap (l - (a.size : Int)) = l - (a.size : Int) := IntWalk.i64_in _ ⟨by omega, by omega⟩
  by_cases hl : (a.size : Int) ≤ l
  · have HM := Lib.hid (show l - (a.size : Int) = m by rw [← hm, if_pos hl]); clear hm
    have hlt : ¬ (l - (a.size : Int) < 0) := by omega
    go_enter Try.func27, Try.ntmps27
    go_wp2_with fail
    go_ret
    exact ⟨ret_int HM.out, hb1⟩
  · have HM := Lib.hid (show -1 = m by rw [← hm, if_neg hl]); clear hm
    have hlt : (l - (a.size : Int) < 0) := by omega
    go_enter Try.func27, Try.ntmps27
    go_wp2_with fail
    go_ret
    exact ⟨ret_int HM.out, hb1⟩
def RetSz1 (w : World) (e : Ending) (w' : World) : Prop := ∃ m : Int, e = .returned (.int .i64 m) ∧ (m = -1 ∨ 0 ≤ m) ∧ Below w.heap.size w w'
theorem szCommand_ret (op : Int) (a : ByteArray) (val exp l : Int) (w : World) (ha : a.size ≤ maxLen) (l0 : 0 ≤ l) (l1 : l ≤ 1048576) :
    Calls Try.prog 27 #[.agg #[.int .i64 op, .string a, .int .i64 val, .int .i64 exp], .int .i64 l] w (RetSz1 w) := by
  refine (szCommand_any op a val exp l _ w ha l0 l1 rfl).mono ?_
  rintro e w' ⟨rfl, hb⟩
  refine ⟨_, rfl, ?_, hb⟩
  split
  · right; omega
  · exact .inl rfl

set_option maxRecDepth 100000 in
set_option maxHeartbeats 4000000 in
theorem toCommand_any (op : Int) (a : ByteArray) (val exp : Int) (w : World) :
    Calls Try.prog 29 #[.agg #[.int .i64 op, .string a, .int .i64 val, .int .i64 exp]] w fun e w' => e = .returned (.agg #[.int .i64 op, .string a, .int .i64 val, .int .i64 exp]) ∧ Below w.heap.size w w' := by
  go_enter Try.func29, Try.ntmps29
  go_wp2_with fail
  have h1 : Below w.heap.size w (w.alloc (.cells #[.int .i64 op, .string a, .int .i64 val, .int .i64 exp] 45)) := (Below.refl _ _).alloc (Nat.le_refl _) _
  have kB := Blk.new (w.alloc (.cells #[.int .i64 op, .string a, .int .i64 val, .int .i64 exp] 45)) #[.int .i64 op, .string a, .int .i64 val, .int .i64 exp] 25
  have h2 := h1.alloc h1.size (.cells #[.int .i64 op, .string a, .int .i64 val, .int .i64 exp] 25)
  have h3 := h2.alloc h2.size (.cells #[.int .i64 op, .string a, .int .i64 val, .int .i64 exp] 25)
  have hz : (w.alloc (.cells #[.int .i64 op, .string a, .int .i64 val, .int .i64 exp] 45)).heap.size = w.heap.size + 1 := by simp
  rw [hz] at kB
  replace kB := kB.below ((Below.refl _ _).alloc (Nat.le_refl _) (.cells #[.int .i64 op, .string a, .int .i64 val, .int .i64 exp] 25))
  have HK := Lib.hid kB
  have HB := Lib.hid h3
  clear h1 h2 h3 kB hz
  generalize ((w.alloc (.cells #[.int .i64 op, .string a, .int .i64 val, .int .i64 exp] 45)).alloc (.cells #[.int .i64 op, .string a, .int .i64 val, .int .i64 exp] 25)).alloc (.cells #[.int .i64 op, .string a, .int .i64 val, .int .i64 exp] 25) = wf at *
  refine bodyPost_ret (results_cell_row (P := Try.prog) Try.results29 _ wf (w.heap.size + 1) 25 _ (0, 0) _ rfl HK.out Try.underlying25 rfl (by kernel_rfl)) rfl ?_
  exact ⟨rfl, HB.out⟩

/-! ### the reading -/
section
open Go.ChangeShapes Go.WideShapes Go.ChangeAt
variable {H : Type} {enc : TypeId × Value → H} {W : World} {base : Nat} {v : Value} {d : DataW H} {p : List MemPlace}
set_option maxRecDepth 100000 in
theorem cmd_in (hv : Value.okWide Try.prog W .any base 45 v) (h : DataW.Trod enc Try.prog W 0 (fun _ => true) true 45 v d p) :
    ∃ op a val exp, v = .agg #[.int .i64 op, .string a, .int .i64 val, .int .i64 exp] ∧ ByteArray.size a ≤ maxLen := by
  obtain ⟨us, rfl, hl, hr⟩ := agg_in Try.underlying45 (by kernel_rfl) (by kernel_rfl) hv h
  obtain ⟨u0, e0, r0⟩ := hr 0 _ rfl
  obtain ⟨u1, e1, r1⟩ := hr 1 _ rfl
  obtain ⟨u2, e2, r2⟩ := hr 2 _ rfl
  obtain ⟨u3, e3, r3⟩ := hr 3 _ rfl
  obtain ⟨a, rfl, wa⟩ := r0.int Try.underlying3
  obtain ⟨b, rfl, wb⟩ := r1.string Try.underlying9
  obtain ⟨c, rfl, wc⟩ := r2.int Try.underlying3
  obtain ⟨d, rfl, wd⟩ := r3.int Try.underlying3
  refine ⟨a, b, c, d, ?_, wb⟩
  match us, hl with
  | [x, y, z, t], _ =>
    simp at e0 e1 e2 e3
    subst e0
    subst e1
    subst e2
    subst e3
    rfl
end
end Go.Proofs.Ytpkhkmehpijngaa
