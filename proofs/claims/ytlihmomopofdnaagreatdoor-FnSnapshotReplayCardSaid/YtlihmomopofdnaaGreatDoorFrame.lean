/-
  From a reading of an argument to the plain sentences of the walks.
-/
import Derived.Test.YtlihmomopofdnaaGreatDoorRows
import Derived.Test.YtlihmomopofdnaaGreatDoorDraw
import Derived.ProofKit
import Derived.OpenShut
import Derived.ShutString
import Derived.ChangeOld
namespace Go.Proofs.YtlihmomopofdnaaGreatDoor
open Go.ChangeShapes Go.WideShapes Go.ChangeAt Go.RowKit
open Go.ChangeMaps (open_string shut_string)
set_option linter.unusedVariables false

theorem own : ownKnob Tryz.prog.godebug = none := by kernel_rfl
theorem laidOut : laidOutB Tryz.prog = true := by kernel_rfl

/-! ### the head of the translation: its words, read off the letters (the string itself is never evaluated by the kernel: that takes more than ten gigabytes) -/
set_option maxRecDepth 100000
theorem head_of {X : List (List Char)} (h : X.head? = some "cut".toList) : ∃ rest, X = "cut".toList :: rest := by
  cases X with
  | nil => simp at h
  | cons a l => simp at h; exact ⟨l, by rw [h]; rfl⟩
theorem io_chars : ∃ l, Tryz.prog.initOrder.toList = l ∧ (behindMainWord (wordsSigns l)).head? = some "cut".toList :=
  ⟨_, (congrArg String.toList (rfl : Tryz.prog.initOrder = String.ofList _)).trans String.toList_ofList, by kernel_rfl⟩
theorem head_cut : ∃ rest, behindMainWord (wordsSigns Tryz.prog.initOrder.toList) = "cut".toList :: rest := by
  obtain ⟨l, h1, h2⟩ := io_chars
  rw [h1]
  exact head_of h2
theorem strip_cut (rest : List (List Char)) : stripLifts liftWords ("cut".toList :: rest) = ([], "cut".toList :: rest) := by
  have key : ∀ o ∈ liftWords, ("cut".toList == o.toList) = false := by decide +kernel
  have gen : ∀ os : List String, (∀ o ∈ os, ("cut".toList == o.toList) = false) → stripLifts os ("cut".toList :: rest) = ([], "cut".toList :: rest) := by
    intro os
    induction os with
    | nil => intro _; rfl
    | cons o os ih =>
      intro h
      rw [stripLifts, h o List.mem_cons_self]
      exact ih fun x hx => h x (List.mem_cons_of_mem _ hx)
  exact gen _ key
theorem may_of (P : Program) {rest : List (List Char)} (h : behindMainWord (wordsSigns P.initOrder.toList) = "cut".toList :: rest) (h1 : P.laysLater = false) (h2 : P.bearsReflect = false) (h3 : P.doorFits [] = true) : P.mayEnter = true := by
  have e1 : ("cut".toList == "gc".toList) = false := by decide +kernel
  have e2 : ("cut".toList == "spec".toList) = false := by decide +kernel
  have e3 : ("cut".toList == "carried".toList) = false := by decide +kernel
  unfold Program.mayEnter
  rw [h]
  simp only [strip_cut, e1, e2, e3, h1, h2, h3, List.head?_cons, List.contains_nil, Bool.not_false, Bool.false_or, Bool.or_true, Bool.false_and]
  simp
theorem lifts_of (P : Program) {rest : List (List Char)} (h : behindMainWord (wordsSigns P.initOrder.toList) = "cut".toList :: rest) : P.liftsFinal = false := by
  unfold Program.liftsFinal Program.headLifts
  rw [h]
  simp only [strip_cut, List.head?_cons]
  have e4 : (some "cut".toList == some "carried".toList) = false := by decide +kernel
  rw [e4]
  simp
theorem make_of (P : Program) {rest : List (List Char)} (h : behindMainWord (wordsSigns P.initOrder.toList) = "cut".toList :: rest) : P.make = some .cut := by
  have e1 : ("cut".toList == "gc".toList) = false := by decide +kernel
  have e2 : ("cut".toList == "spec".toList) = false := by decide +kernel
  have e3 : ("cut".toList == "cut".toList) = true := by decide +kernel
  unfold Program.make
  rw [h]
  simp only [e1, e2, e3, Bool.false_or, Bool.true_or, if_true, Bool.false_eq_true, if_false]
theorem lays : Tryz.prog.laysLater = false := by kernel_rfl
theorem refl : Tryz.prog.bearsReflect = false := by kernel_rfl
theorem door : Tryz.prog.doorFits [] = true := by kernel_rfl
theorem may : Tryz.prog.mayEnter = true := by
  obtain ⟨rest, h⟩ := head_cut
  exact may_of _ h lays refl door
theorem lifts : Tryz.prog.liftsFinal = false := by
  obtain ⟨rest, h⟩ := head_cut
  exact lifts_of _ h
theorem mk : Tryz.prog.make = some .cut := by
  obtain ⟨rest, h⟩ := head_cut
  exact make_of _ h

section
variable {H : Type} {enc : TypeId × Value → H} {W : World} {base : Nat} {v : Value} {d : DataW H} {p : List MemPlace}
theorem slice_in {T E : TypeId} {k : IntKind} (ht : Tryz.prog.underlying T = some (.slice E)) (he : Tryz.prog.underlying E = some (.int k)) (hc : Tryz.prog.cellsOf E = 1)
    (hv : Value.okWide Tryz.prog W .any base T v) (h : DataW.Trod enc Tryz.prog W 0 (fun _ => true) true T v d p) :
    ∃ zs : List Int, Sl W 0 W.heap.size v zs.length 1 (zs.map (.int k)) ∧ ∀ z ∈ zs, (Lit.int k z).wf = true := by
  obtain ⟨a0, len0, cap0, rfl⟩ := okWide_slice ht hv
  obtain ⟨fuel, hf⟩ := h
  rcases open_ints ht he hc hf with ⟨hcs, _⟩ | ⟨x, l, c, zs, hcs, _, hl, hm, hz, _, hcell, hwz⟩
  · simp [Value.cells] at hcs
    obtain ⟨rfl, rfl, rfl⟩ := hcs
    exact ⟨[], ⟨rfl, Nat.le_refl _, none, 0, rfl, ⟨Nat.zero_le _, Nat.zero_le _, fun _ => rfl⟩, fun h => absurd h (by simp)⟩, by simp⟩
  · simp [Value.cells] at hcs
    obtain ⟨rfl, rfl, rfl⟩ := hcs
    have hz' : zs.length = cap0 := by simpa using hz
    have hlen : (zs.take len0).length = len0 := by rw [List.length_take]; omega
    refine ⟨zs.take len0, ⟨by rw [List.length_map]; omega, Nat.le_refl _, some x, cap0, by rw [hlen], ⟨by omega, hm, fun h => by cases h⟩, fun h0 => ?_⟩, fun z hz => hwz z (List.mem_of_mem_take hz)⟩
    obtain ⟨b, off, spot⟩ := x
    have hsp : spot = none := by simpa [Addr.add] using World.cell?_spot (hcell 0 (by omega))
    subst hsp
    refine ⟨b, off, rfl, Nat.zero_le _, by have := World.block_lt_of_cell? _ _ (hcell 0 (by omega)); simpa [Addr.add] using this, fun j u hu => ?_⟩
    rw [List.map_take, List.getElem?_take] at hu
    split at hu
    · rename_i hj
      have := hcell j (by omega)
      rw [Addr.add_lit] at this
      rw [this]
      rw [← hu]
      simp [List.getD, show j < zs.length by omega]
    · cases hu
theorem bytes_in (hv : Value.okWide Tryz.prog W .any base 22 v) (h : DataW.Trod enc Tryz.prog W 0 (fun _ => true) true 22 v d p) : ∃ n, Bytes W 0 W.heap.size v n := by
  obtain ⟨zs, hs, hw⟩ := slice_in (k := .u8) elByte.under Tryz.underlying5 (by kernel_rfl) hv h
  refine ⟨zs.length, zs, rfl, fun z hz => ?_, hs⟩
  have := hw z hz
  simp [Lit.wf, IntKind.min, IntKind.max, IntKind.signed, IntKind.bits] at this
  exact ⟨by omega, by omega⟩
theorem lt_in {T : TypeId} (h : DataW.Trod enc Tryz.prog W 0 (fun _ => true) true T v d p) : ∀ x ∈ p, x.block < W.heap.size := by
  obtain ⟨m, hm⟩ := h
  exact DataW.trod_lt m _ _ _ hm
end
end Go.Proofs.YtlihmomopofdnaaGreatDoor
