/-
  A reader's block is kept by what leaves it alone.
-/
import Derived.Test.YtlihmomopofdnaaGreatDoorDraw
namespace Go.Proofs.YtlihmomopofdnaaGreatDoor
open Go.RowKit
set_option linter.unusedVariables false

theorem Rdr.keep {w w' : World} {g : Nat} {q : Int} {l1 h1 : Nat} (h : Rdr w g q) (hk : Keep l1 h1 w w') (ho : g < l1) : Rdr w' g q := by
  obtain ⟨v, n, p, lo, hi, hg, hb, hh, hm, p0, p1⟩ := h
  have hlt : g < w.heap.size := (Array.getElem?_eq_some_iff.1 hg).1
  exact ⟨v, n, p, lo, hi, (hk.block g hlt (by omega)).trans hg, hb.keep hk (by omega), hh, hm, p0, p1⟩
theorem Rdr.below {w w' : World} {g : Nat} {q : Int} (h : Rdr w g q) (hb : Below w.heap.size w w') : Rdr w' g q := by
  obtain ⟨v, n, p, lo, hi, hg, hb', r⟩ := h
  have hlt : g < w.heap.size := (Array.getElem?_eq_some_iff.1 hg).1
  exact ⟨v, n, p, lo, hi, (hb.block g hlt).trans hg, hb'.below hb, r⟩
theorem Rdr.lt {w : World} {g : Nat} {q : Int} (h : Rdr w g q) : g < w.heap.size := by
  obtain ⟨v, n, p, lo, hi, hg, _⟩ := h
  exact (Array.getElem?_eq_some_iff.1 hg).1
theorem Rdr.more {w : World} {g : Nat} {q q' : Int} (h : Rdr w g q) (hq : q ≤ q') : Rdr w g q' := by
  obtain ⟨v, n, p, lo, hi, hg, hb, hh, hm, p0, p1⟩ := h
  exact ⟨v, n, p, lo, hi, hg, hb, hh, hm, p0, by omega⟩
end Go.Proofs.YtlihmomopofdnaaGreatDoor
