/-
  DERIVED. GIVEN WITH THE SEED: THE CARDS: each row of YtlihmomopofdnaaGreatDoorRows.lean that lists a variable, with what it lists TIED to the program's text (the seventh form; the later family's looks); each row that meets fmt, with fmt's text TOLD by the authors' own Lean function (tested against real Go, not proved from fmt's source: count such statements apart). THE CARD IS WHAT COUNTS. Prove the row's statement (the work); the ties are given (YtlihmomopofdnaaGreatDoorTie.lean); close each card by the builder's one call (the guide's Derived/Test/ToyasCard.lean, 'card_holds'). Laid BY PROGRAM, IN A SANDBOX (cutbox-door.mjs). By AI agents, Wed Nov 11 2026. No macro, syntax, notation, axiom, sorry.
-/
import Derived.Test.YtlihmomopofdnaaGreatDoorRows
import GoSem.ClaimSeven
namespace Go.Proofs.YtlihmomopofdnaaGreatDoor
namespace Rows

/-- THE TIED CARD OF 'laws.FnSnapshotReplay'. -/
def fnSnapshotReplayCard : Claim7 := { stood := { row := fnSnapshotReplayRow, standIns := [], harness := (true, "ffde486d7fd38c055222dd717e1fab784199216a3e1a11445bd633073d27e9b5"), looks := true }, kinds := [], alts := [], laidByText := true, laidKinds := [.data, .data, .data, .data, .sentinel, .sentinel, .pinned], laidTests := true, laidLooks := .later }
def FnSnapshotReplayCardSaid : Prop := Claim7.holds Tryz.pinned (.plain (OpenSpec.ofChange fnSnapshotReplaySpec)) fnSnapshotReplayCard

/-- THE SECOND FORM's CARD OF 'laws.FnSnapshotReplay'. -/
def fnSnapshotReplayUptoCard : Claim7 := { stood := { row := fnSnapshotReplayUptoRow, standIns := [], harness := (true, "ffde486d7fd38c055222dd717e1fab784199216a3e1a11445bd633073d27e9b5"), looks := true }, kinds := [], alts := [], laidByText := true, laidKinds := [.data, .data, .data, .data, .sentinel, .sentinel, .pinned], laidTests := true, laidLooks := .later }
def FnSnapshotReplayUptoCardSaid : Prop := Claim7.holds Tryz.pinned (.plain (OpenSpec.upto fnSnapshotReplaySpec)) fnSnapshotReplayUptoCard
end Rows
end Go.Proofs.YtlihmomopofdnaaGreatDoor
