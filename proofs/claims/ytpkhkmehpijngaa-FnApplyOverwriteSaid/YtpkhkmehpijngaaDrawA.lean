/-
  The walk of the reference's draw DrawStoreApply.
-/
import Derived.Test.YtpkhkmehpijngaaCmdR
namespace Go.Proofs.Ytpkhkmehpijngaa
open Go.RowKit
set_option linter.unusedVariables false

theorem results_tmp_cell {P : Program} {fn : Func} {p u : Tmp} {ty : TypeId} (h : fn.results = #[.tmp u, .cell p ty]) (tmps : Array Value) (w : World) (g : Nat) (t : TypeId) (cs : Array Value) (fr : Nat × Nat) (d : TypeDesc)
    (hp : tmps.getD p undef = .pointer (some ⟨g, 0, none⟩)) (hg : w.heap[g]? = some (.cells cs t fr))
    (hu : P.underlying ty = some d) (hd : (match d with | .struct _ | .array _ _ => true | _ => false) = true) (hi : (P.info? ty).map (·.size) = some cs.size) :
    (results fn tmps).run P w = .ok (.tuple #[tmps.getD u undef, .agg cs]) w := by
  have hp' : tmps[p]?.getD undef = .pointer (some ⟨g, 0, none⟩) := by simpa using hp
  simp [results, h, hp', asAddr, run_loadVar_row w g t ty cs fr d hg hu hd hi]

def RetDrawA (w : World) (e : Ending) (w' : World) : Prop :=
  ∃ sv ps op key val exp, e = .returned (.tuple #[sv, .agg #[.int .i64 op, .string key, .int .i64 val, .int .i64 exp]]) ∧ PrsO w' w.heap.size w'.heap.size sv ps ∧ ps.length ≤ 5 ∧ ByteArray.size key ≤ 1 ∧ Below w.heap.size w w'

set_option maxRecDepth 100000 in
set_option maxHeartbeats 8000000 in
theorem DrawStoreApply_any (v : Value) (n : Nat) (w : World) {lo hi : Nat} (h : Bytes w lo hi v n) :
    Calls Try.prog 14 #[v] w (RetDrawA w) := by
  have kR := Blk.new w #[.int .i64 0, .string ⟨#[]⟩, .int .i64 0, .int .i64 0] 25
  have hb0 : Below w.heap.size w (w.alloc (.cells #[.int .i64 0, .string ⟨#[]⟩, .int .i64 0, .int .i64 0] 25)) := (Below.refl _ _).alloc (Nat.le_refl _) _
  have h0 := h.below hb0
  have hRl := kR.lt
  obtain ⟨a, c, hv, hn, hx⟩ := h.open
  clear hx
  subst hv
  go_enter Try.func14, Try.ntmps14
  go_wp2_with fail
  generalize w.alloc (.cells #[.int .i64 0, .string ⟨#[]⟩, .int .i64 0, .int .i64 0] 25) = w0 at *
  refine (open_any _ n _ h0).mono ?_
  rintro e w1 ⟨rfl, hr1, hb1, hs1⟩
  replace kR := kR.below hb1
  have hB := hb0.trans (hb1.mono hb0.size)
  have hlt := hr1.lt
  clear h0 hb1 hb0
  as_aux_lemma =>
    go_wp2_with fail
    refine (l92StoreK_any _ 0 _ hr1 (by omega)).mono ?_
    rintro e w2 ⟨sv, ps, rfl, ho, hl, hr2, hk2, hks⟩
    have hs2 := hk2.size
    replace kR := kR.keep hk2 (.inl hRl)
    replace hB := hB.trans (hk2.below (B := w.heap.size) (by omega) (by omega))
    obtain ⟨aS, cS, hv⟩ := ho.form
    subst hv
    have HKS := Lib.hid hks
    clear hks hr1 hk2
    as_aux_lemma =>
      go_wp2_with fail
      refine (l92Command_any w0.heap.size _ _ ps w2 hr2 (by omega) ho.prs (.inr hlt) (by omega) HKS.out).mono ?_
      rintro e w3 ⟨op, key, val, exp, rfl, hk1, hr3, hk3⟩
      have hs3 := hk3.size
      replace kR := kR.keep hk3 (.inl hRl)
      replace hB := hB.trans (hk3.below (B := w.heap.size) (by omega) (by omega))
      replace ho := PrsO.wide (PrsO.keep ho hk3 (.inr hlt)) (Nat.le_refl _) hs3 (Nat.le_refl _)
      have r0 : w3.cell? ⟨w.heap.size, 0, none⟩ = some (.int .i64 0) := kR.cell 0 rfl
      have r1 : w3.cell? ⟨w.heap.size, 1, none⟩ = some (.string ⟨#[]⟩) := kR.cell 1 rfl
      have r2 : w3.cell? ⟨w.heap.size, 2, none⟩ = some (.int .i64 0) := kR.cell 2 rfl
      have r3 : w3.cell? ⟨w.heap.size, 3, none⟩ = some (.int .i64 0) := kR.cell 3 rfl
      have f0 := kR.frozen 0
      have f1 := kR.frozen 1
      have f2 := kR.frozen 2
      have f3 := kR.frozen 3
      have HKR := Lib.hid kR
      have HO := Lib.hid ho
      have HB := Lib.hid hB
      clear kR ho hB hk3 hr3 hr2
      go_wp2_with fail
      obtain ⟨e0, hk4⟩ := fin4 HKR.out (.int .i64 op) (.string key) (.int .i64 val) (.int .i64 exp)
      have HB4 := Lib.hid (HB.out.trans (hk4.below (B := w.heap.size) (Nat.le_refl _) (by omega)))
      have HO4 := Lib.hid (PrsO.wide (lo' := w.heap.size) (PrsO.keep HO.out hk4 (.inr (by omega))) (by omega) hk4.size (Nat.le_refl _))
      clear r0 r1 r2 r3 f0 f1 f2 f3 hk4
      generalize ((((w3.setCell ⟨w.heap.size, 0, none⟩ (.int .i64 op)).setCell ⟨w.heap.size, 1, none⟩ (.string key)).setCell ⟨w.heap.size, 2, none⟩ (.int .i64 val)).setCell ⟨w.heap.size, 3, none⟩ (.int .i64 exp)) = wf at *
      refine bodyPost_ret (results_tmp_cell (P := Try.prog) Try.results14 _ wf w.heap.size 25 _ (0, 0) _ rfl e0 Try.underlying25 rfl (by kernel_rfl)) rfl ?_
      exact ⟨_, ps, op, key, val, exp, rfl, HO4.out, hl, hk1, HB4.out⟩
end Go.Proofs.Ytpkhkmehpijngaa
