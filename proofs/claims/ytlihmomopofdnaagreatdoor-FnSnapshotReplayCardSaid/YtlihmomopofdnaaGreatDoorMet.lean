/-
  What the library's contracts ask of a world.
-/
import Derived.Test.YtlihmomopofdnaaGreatDoorRecB
import Derived.Lib.AppendIntMem
import Derived.Lib.ItoaNum
import Derived.Lib.LaidTab
namespace Go.Proofs.YtlihmomopofdnaaGreatDoor
open Go.RowKit
set_option linter.unusedVariables false

/-- MaxLen, the two errors and the table of powers lie as the program's start lays them -/
structure Met (w : World) : Prop where
  ml : ∃ m, w.cell? ⟨0, 0, none⟩ = some (.int .i64 m)
  es : ∃ te pe, w.cell? ⟨1, 0, none⟩ = some (.iface te pe)
  er : ∃ te pe, w.cell? ⟨2, 0, none⟩ = some (.iface te pe)
  tab : Lib.TabIs Tryz.prog w "internal/strconv.uint64pow10" .u64 Lib.pow10Tab
theorem Met.below {w w' : World} (h : Met w) (hb : Below w.heap.size w w') : Met w' :=
  ⟨h.ml.imp fun m hm => below_cell hb hm, h.es.imp fun t ht => ht.imp fun p hp => below_cell hb hp, h.er.imp fun t ht => ht.imp fun p hp => below_cell hb hp, Lib.tabBelow_of_tabIs h.tab _ hb⟩
end Go.Proofs.YtlihmomopofdnaaGreatDoor
