/-
  From a reading of a slice of structs, and of a struct by value, to the plain sentences of the walks.
-/
import Derived.Test.YtlihmomopofdnaaGreatDoorFrame
import Derived.Test.YtlihmomopofdnaaGreatDoorRec
import Derived.Deep.Slices
import Derived.Deep.Fields
import Derived.ChangeSame
import Derived.Lib.SmallJoins
namespace Go.Proofs.YtlihmomopofdnaaGreatDoor
open Go.ChangeShapes Go.WideShapes Go.ChangeAt Go.RowKit
open Go.Deep (oneCellFields open_slice hone_of add_add)
open Go.Joins (open_agg2 open_agg3 open_agg4)
set_option linter.unusedVariables false
set_option maxRecDepth 100000

theorem list_of {α : Type} {R : Nat → α → Prop} : ∀ n : Nat, (∀ i, i < n → ∃ x, R i x) → ∃ xs : List α, xs.length = n ∧ ∀ i x, xs[i]? = some x → R i x
  | 0, _ => ⟨[], rfl, fun i x h => by simp at h⟩
  | n + 1, h => by
    obtain ⟨xs, hl, hx⟩ := list_of n fun i hi => h i (by omega)
    obtain ⟨x, hr⟩ := h n (by omega)
    refine ⟨xs ++ [x], by simp [hl], fun i y hy => ?_⟩
    by_cases hi : i < xs.length
    · rw [List.getElem?_append_left hi] at hy
      exact hx i y hy
    · rw [List.getElem?_append_right (by omega)] at hy
      have e : i = n := by
        have := (List.getElem?_eq_some_iff.1 hy).1
        simp at this
        omega
      subst e
      rw [hl, Nat.sub_self] at hy
      simp at hy
      subst hy
      exact hr

section
variable {H : Type} {enc : TypeId × Value → H} {W : World} {base : Nat} {v : Value} {d : DataW H} {p : List MemPlace}
/-- one cell reads as a field of that type -/
def Reads {H : Type} (enc : TypeId × Value → H) (W : World) (t : TypeId) (v : Value) : Prop := ∃ y n, DataW.trod enc Tryz.prog W 0 (fun _ => true) true n t [v] = some y
theorem Reads.int {t : TypeId} {k : IntKind} (ht : Tryz.prog.underlying t = some (.int k)) (h : Reads enc W t v) : ∃ x, v = .int k x ∧ (Lit.int k x).wf = true := by
  obtain ⟨y, n, h⟩ := h
  obtain ⟨x, hc, _, hw⟩ := DataW.trod_int ht h
  exact ⟨x, by simpa using hc, hw⟩
theorem Reads.string {t : TypeId} (ht : Tryz.prog.underlying t = some .string) (h : Reads enc W t v) : ∃ s, v = .string s ∧ s.size ≤ maxLen := by
  obtain ⟨y, n, h⟩ := h
  obtain ⟨s, hc, _, hw⟩ := DataW.trod_string ht h
  exact ⟨s, by simpa using hc, hw⟩

theorem recs_in {α : Type} {E : Enc α} {T e : TypeId} {fs : Array Field} {Q : α → Prop} (ht : Tryz.prog.underlying T = some (.slice e)) (he : Tryz.prog.underlying e = some (.struct fs))
    (hone : oneCellFields Tryz.prog fs = true) (hC : Tryz.prog.cellsOf e = fs.size) (hsz : E.sz = fs.size) (hpos : 0 < E.sz)
    (dec : ∀ vs : List Value, vs.length = fs.size → (∀ (j : Nat) (f : Field), fs[j]? = some f → ∃ u, vs[j]? = some u ∧ Reads enc W f.type u) → ∃ x, E.enc x = vs ∧ Q x)
    (hv : Value.okWide Tryz.prog W .any base T v) (h : DataW.Trod enc Tryz.prog W 0 (fun _ => true) true T v d p) : ∃ xs, Recs E W 0 W.heap.size v xs ∧ ∀ x ∈ xs, Q x := by
  obtain ⟨a0, len0, cap0, rfl⟩ := okWide_slice ht hv
  obtain ⟨fuel, hf⟩ := h
  rcases open_slice ht hf with ⟨hcs, _⟩ | ⟨a, len, cap, m, n, D, Pl, hcs, _, hl, hm, hmm, _, hi⟩
  · simp [Value.cells] at hcs
    obtain ⟨rfl, rfl, rfl⟩ := hcs
    exact ⟨[], (Recs.nil W).wide (Nat.le_refl _) (Nat.zero_le _) (Nat.le_refl _), by simp⟩
  · simp [Value.cells] at hcs
    obtain ⟨rfl, rfl, rfl⟩ := hcs
    have key : ∀ i, i < len0 → ∃ x, Q x ∧ ∀ j u, (E.enc x)[j]? = some u → W.cell? (a.add (i * E.sz + j)) = some u := by
      intro i hil
      obtain ⟨cs', hc, ht'⟩ := hi i (by rw [hmm]; simp; omega)
      rw [hC] at hc
      obtain ⟨ys, n', _, _, hlen, hyl, hfj⟩ := DataW.trod_struct he ht'
      obtain ⟨_, hcl, hat⟩ := World.cells?_some hc
      obtain ⟨x, hx, hq⟩ := dec cs' hcl fun j f hj => by
        obtain ⟨ho, hk⟩ := hone_of hone j f hj
        have hjl : j < fs.size := (Array.getElem?_eq_some_iff.1 hj).1
        have h1 := hfj j f hj
        rw [ho, hk, List.drop_eq_getElem_cons (by omega)] at h1
        have hys : ys[j]? = some (ys[j]'(by omega)) := List.getElem?_eq_getElem (by omega)
        exact ⟨_, List.getElem?_eq_getElem (by omega), _, n', h1.trans hys⟩
      refine ⟨x, hq, fun j u hu => ?_⟩
      rw [hx] at hu
      have hjl : j < fs.size := by rw [← hcl]; exact (List.getElem?_eq_some_iff.1 hu).1
      rw [← add_add, hsz, hat j hjl, hu]
    obtain ⟨xs, hxl, hxs⟩ := list_of len0 key
    refine ⟨xs, ⟨flat_len E xs, Nat.le_refl _, some a, cap0, by rw [hxl], ⟨by omega, hm, fun h => by cases h⟩, fun h0 => ?_⟩, fun x hx => ?_⟩
    · have hx0 : xs[0]? = some (xs[0]'h0) := List.getElem?_eq_getElem h0
      have hu0 : (E.enc (xs[0]'h0))[0]? = some ((E.enc (xs[0]'h0))[0]'(by rw [E.len]; exact hpos)) := List.getElem?_eq_getElem _
      have hc0 := (hxs 0 _ hx0).2 0 _ hu0
      obtain ⟨b, off, spot⟩ := a
      have hsp : spot = none := by simpa [Addr.add] using World.cell?_spot hc0
      subst hsp
      refine ⟨b, off, rfl, Nat.zero_le _, by have := World.block_lt_of_cell? _ _ hc0; simpa [Addr.add] using this, fun j u hu => ?_⟩
      have hjl : j < xs.length * E.sz := by rw [← flat_len]; exact (List.getElem?_eq_some_iff.1 hu).1
      have hq : j / E.sz < xs.length := Nat.div_lt_of_lt_mul (by rw [Nat.mul_comm]; exact hjl)
      have hr : j % E.sz < E.sz := Nat.mod_lt _ hpos
      have hjj : j / E.sz * E.sz + j % E.sz = j := by rw [Nat.mul_comm]; exact Nat.div_add_mod j E.sz
      have hxq : xs[j / E.sz]? = some (xs[j / E.sz]'hq) := List.getElem?_eq_getElem hq
      have h2 := flat_get E xs _ _ hxq _ hr
      rw [hjj, hu] at h2
      have := (hxs _ _ hxq).2 _ _ h2.symm
      rw [hjj, Addr.add_lit] at this
      exact this
    · obtain ⟨i, hi', e⟩ := List.getElem_of_mem hx
      exact (hxs i x (by rw [List.getElem?_eq_getElem hi', e])).1
theorem agg_in {T : TypeId} {fs : Array Field} (he : Tryz.prog.underlying T = some (.struct fs)) (hone : oneCellFields Tryz.prog fs = true) (hC : Tryz.prog.cellsOf T = fs.size)
    (hv : Value.okWide Tryz.prog W .any base T v) (h : DataW.Trod enc Tryz.prog W 0 (fun _ => true) true T v d p) :
    ∃ vs : List Value, v = .agg vs.toArray ∧ vs.length = fs.size ∧ ∀ (j : Nat) (f : Field), fs[j]? = some f → ∃ u, vs[j]? = some u ∧ Reads enc W f.type u := by
  obtain ⟨cs, rfl, hcs⟩ := okWide_struct he hv
  obtain ⟨fuel, hf⟩ := h
  obtain ⟨ys, n', _, _, hlen, hyl, hfj⟩ := DataW.trod_struct he hf
  have hcl : cs.toList.length = fs.size := by rw [Array.length_toList, hcs, hC]
  refine ⟨cs.toList, rfl, hcl, fun j f hj => ?_⟩
  obtain ⟨ho, hk⟩ := hone_of hone j f hj
  have hjl : j < fs.size := (Array.getElem?_eq_some_iff.1 hj).1
  have h1 := hfj j f hj
  simp only [Value.cells] at h1
  rw [ho, hk, List.drop_eq_getElem_cons (by omega)] at h1
  have hys : ys[j]? = some (ys[j]'(by omega)) := List.getElem?_eq_getElem (by omega)
  exact ⟨_, List.getElem?_eq_getElem (by omega), _, n', h1.trans hys⟩
end
end Go.Proofs.YtlihmomopofdnaaGreatDoor
