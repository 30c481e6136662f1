/-
  DERIVED. GIVEN WITH THE SEED: THE CARDS: each row of YtlihmomopofdnaaDoorRows.lean that lists a variable, with what it lists TIED to the program's text (the seventh form; the later family's looks); each row that meets fmt, with fmt's text TOLD by the authors' own Lean function (tested against real Go, not proved from fmt's source: count such statements apart). THE CARD IS WHAT COUNTS. Prove the row's statement (the work); the ties are given (YtlihmomopofdnaaDoorTie.lean); close each card by the builder's one call (the guide's Derived/Test/ToyasCard.lean, 'card_holds'). Laid BY PROGRAM, IN A SANDBOX (cutbox-door.mjs). By AI agents, Wed Nov 11 2026. No macro, syntax, notation, axiom, sorry.
-/
import Derived.Test.YtlihmomopofdnaaDoorRows
import GoSem.ClaimSeven
namespace Go.Proofs.YtlihmomopofdnaaDoor
namespace Rows

/-- THE TIED CARD OF 'laws.FnExactStoreDecode'. -/
def fnExactStoreDecodeCard : Claim7 := { stood := { row := fnExactStoreDecodeRow, standIns := [], harness := (true, "f7737a7a818cf84b9aa8795d7f8a161d11542248076c4648c29b584cbc6fbd70"), looks := true }, kinds := [], alts := [], laidByText := true, laidKinds := [.data, .data, .data, .data, .sentinel, .sentinel, .pinned], laidTests := true, laidLooks := .later }
def FnExactStoreDecodeCardSaid : Prop := Claim7.holds Tryd.pinned (.plain (OpenSpec.ofChange fnExactStoreDecodeSpec)) fnExactStoreDecodeCard

/-- THE TIED CARD OF 'laws.FnSnapshotStrict'. -/
def fnSnapshotStrictCard : Claim7 := { stood := { row := fnSnapshotStrictRow, standIns := [], harness := (true, "f7737a7a818cf84b9aa8795d7f8a161d11542248076c4648c29b584cbc6fbd70"), looks := true }, kinds := [], alts := [], laidByText := true, laidKinds := [.data, .data, .data, .data, .sentinel, .sentinel, .pinned], laidTests := true, laidLooks := .later }
def FnSnapshotStrictCardSaid : Prop := Claim7.holds Tryd.pinned (.plain (OpenSpec.ofChange fnSnapshotStrictSpec)) fnSnapshotStrictCard

/-- THE TIED CARD OF 'laws.FnExactStoreEncode'. -/
def fnExactStoreEncodeCard : Claim7 := { stood := { row := fnExactStoreEncodeRow, standIns := [], harness := (true, "f7737a7a818cf84b9aa8795d7f8a161d11542248076c4648c29b584cbc6fbd70"), looks := true }, kinds := [], alts := [], laidByText := true, laidKinds := [.data, .data, .data], laidTests := true, laidLooks := .later }
def FnExactStoreEncodeCardSaid : Prop := Claim7.holds Tryd.pinned (.plain (OpenSpec.ofChange fnExactStoreEncodeSpec)) fnExactStoreEncodeCard

/-- THE TIED CARD OF 'laws.FnApplyEmpty'. -/
def fnApplyEmptyCard : Claim7 := { stood := { row := fnApplyEmptyRow, standIns := [], harness := (true, "f7737a7a818cf84b9aa8795d7f8a161d11542248076c4648c29b584cbc6fbd70"), looks := true }, kinds := [], alts := [], laidByText := true, laidKinds := [.data, .data, .data], laidTests := true, laidLooks := .later }
def FnApplyEmptyCardSaid : Prop := Claim7.holds Tryd.pinned (.plain (OpenSpec.ofChange fnApplyEmptySpec)) fnApplyEmptyCard

/-- THE TIED CARD OF 'laws.FnSnapshot'. -/
def fnSnapshotCard : Claim7 := { stood := { row := fnSnapshotRow, standIns := [], harness := (true, "f7737a7a818cf84b9aa8795d7f8a161d11542248076c4648c29b584cbc6fbd70"), looks := true }, kinds := [], alts := [], laidByText := true, laidKinds := [.data, .data, .data, .data, .sentinel, .sentinel, .pinned], laidTests := true, laidLooks := .later }
def FnSnapshotCardSaid : Prop := Claim7.holds Tryd.pinned (.plain (OpenSpec.ofChange fnSnapshotSpec)) fnSnapshotCard

/-- THE SECOND FORM's CARD OF 'laws.FnExactStoreDecode'. -/
def fnExactStoreDecodeUptoCard : Claim7 := { stood := { row := fnExactStoreDecodeUptoRow, standIns := [], harness := (true, "f7737a7a818cf84b9aa8795d7f8a161d11542248076c4648c29b584cbc6fbd70"), looks := true }, kinds := [], alts := [], laidByText := true, laidKinds := [.data, .data, .data, .data, .sentinel, .sentinel, .pinned], laidTests := true, laidLooks := .later }
def FnExactStoreDecodeUptoCardSaid : Prop := Claim7.holds Tryd.pinned (.plain (OpenSpec.upto fnExactStoreDecodeSpec)) fnExactStoreDecodeUptoCard

/-- THE SECOND FORM's CARD OF 'laws.FnSnapshotStrict'. -/
def fnSnapshotStrictUptoCard : Claim7 := { stood := { row := fnSnapshotStrictUptoRow, standIns := [], harness := (true, "f7737a7a818cf84b9aa8795d7f8a161d11542248076c4648c29b584cbc6fbd70"), looks := true }, kinds := [], alts := [], laidByText := true, laidKinds := [.data, .data, .data, .data, .sentinel, .sentinel, .pinned], laidTests := true, laidLooks := .later }
def FnSnapshotStrictUptoCardSaid : Prop := Claim7.holds Tryd.pinned (.plain (OpenSpec.upto fnSnapshotStrictSpec)) fnSnapshotStrictUptoCard

/-- THE SECOND FORM's CARD OF 'laws.FnExactStoreEncode'. -/
def fnExactStoreEncodeUptoCard : Claim7 := { stood := { row := fnExactStoreEncodeUptoRow, standIns := [], harness := (true, "f7737a7a818cf84b9aa8795d7f8a161d11542248076c4648c29b584cbc6fbd70"), looks := true }, kinds := [], alts := [], laidByText := true, laidKinds := [.data, .data, .data], laidTests := true, laidLooks := .later }
def FnExactStoreEncodeUptoCardSaid : Prop := Claim7.holds Tryd.pinned (.plain (OpenSpec.upto fnExactStoreEncodeSpec)) fnExactStoreEncodeUptoCard

/-- THE SECOND FORM's CARD OF 'laws.FnApplyEmpty'. -/
def fnApplyEmptyUptoCard : Claim7 := { stood := { row := fnApplyEmptyUptoRow, standIns := [], harness := (true, "f7737a7a818cf84b9aa8795d7f8a161d11542248076c4648c29b584cbc6fbd70"), looks := true }, kinds := [], alts := [], laidByText := true, laidKinds := [.data, .data, .data], laidTests := true, laidLooks := .later }
def FnApplyEmptyUptoCardSaid : Prop := Claim7.holds Tryd.pinned (.plain (OpenSpec.upto fnApplyEmptySpec)) fnApplyEmptyUptoCard

/-- THE SECOND FORM's CARD OF 'laws.FnSnapshot'. -/
def fnSnapshotUptoCard : Claim7 := { stood := { row := fnSnapshotUptoRow, standIns := [], harness := (true, "f7737a7a818cf84b9aa8795d7f8a161d11542248076c4648c29b584cbc6fbd70"), looks := true }, kinds := [], alts := [], laidByText := true, laidKinds := [.data, .data, .data, .data, .sentinel, .sentinel, .pinned], laidTests := true, laidLooks := .later }
def FnSnapshotUptoCardSaid : Prop := Claim7.holds Tryd.pinned (.plain (OpenSpec.upto fnSnapshotSpec)) fnSnapshotUptoCard
end Rows
end Go.Proofs.YtlihmomopofdnaaDoor
