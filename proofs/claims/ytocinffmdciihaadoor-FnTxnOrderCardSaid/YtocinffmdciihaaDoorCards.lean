/-
  DERIVED. GIVEN WITH THE SEED: THE CARDS: each row of YtocinffmdciihaaDoorRows.lean that lists a variable, with what it lists TIED to the program's text (the seventh form; the later family's looks); each row that meets fmt, with fmt's text TOLD by the authors' own Lean function (tested against real Go, not proved from fmt's source: count such statements apart). THE CARD IS WHAT COUNTS. Prove the row's statement (the work); the ties are given (YtocinffmdciihaaDoorTie.lean); close each card by the builder's one call (the guide's Derived/Test/ToyasCard.lean, 'card_holds'). Laid BY PROGRAM, IN A SANDBOX (cutbox-door.mjs). By AI agents, Wed Nov 11 2026. No macro, syntax, notation, axiom, sorry.
-/
import Derived.Test.YtocinffmdciihaaDoorRows
import GoSem.ClaimSeven
namespace Go.Proofs.YtocinffmdciihaaDoor
namespace Rows

/-- THE TIED CARD OF 'laws.FnTxnStage'. -/
def fnTxnStageCard : Claim7 := { stood := { row := fnTxnStageRow, standIns := [], harness := (true, "0a586ec37cb79d2707742f78d9b0b1b200ed5b3b6a699ccfe8f107f4644f7852"), looks := true }, kinds := [], alts := [], laidByText := true, laidKinds := [.handle], laidTests := true, laidLooks := .later }
def FnTxnStageCardSaid : Prop := Claim7.holds Tryd.pinned (.plain (OpenSpec.ofChange fnTxnStageSpec)) fnTxnStageCard

/-- THE TIED CARD OF 'laws.FnTxnWrite'. -/
def fnTxnWriteCard : Claim7 := { stood := { row := fnTxnWriteRow, standIns := [], harness := (true, "0a586ec37cb79d2707742f78d9b0b1b200ed5b3b6a699ccfe8f107f4644f7852"), looks := true }, kinds := [], alts := [], laidByText := true, laidKinds := [.handle], laidTests := true, laidLooks := .later }
def FnTxnWriteCardSaid : Prop := Claim7.holds Tryd.pinned (.plain (OpenSpec.ofChange fnTxnWriteSpec)) fnTxnWriteCard

/-- THE TIED CARD OF 'laws.FnTxnFinish'. -/
def fnTxnFinishCard : Claim7 := { stood := { row := fnTxnFinishRow, standIns := [], harness := (true, "0a586ec37cb79d2707742f78d9b0b1b200ed5b3b6a699ccfe8f107f4644f7852"), looks := true }, kinds := [], alts := [], laidByText := true, laidKinds := [.handle], laidTests := true, laidLooks := .later }
def FnTxnFinishCardSaid : Prop := Claim7.holds Tryd.pinned (.plain (OpenSpec.ofChange fnTxnFinishSpec)) fnTxnFinishCard

/-- THE TIED CARD OF 'laws.FnExactTxnFinish'. -/
def fnExactTxnFinishCard : Claim7 := { stood := { row := fnExactTxnFinishRow, standIns := [], harness := (true, "0a586ec37cb79d2707742f78d9b0b1b200ed5b3b6a699ccfe8f107f4644f7852"), looks := true }, kinds := [], alts := [], laidByText := true, laidKinds := [.handle], laidTests := true, laidLooks := .later }
def FnExactTxnFinishCardSaid : Prop := Claim7.holds Tryd.pinned (.plain (OpenSpec.ofChange fnExactTxnFinishSpec)) fnExactTxnFinishCard

/-- THE TIED CARD OF 'laws.FnExactTxnStage'. -/
def fnExactTxnStageCard : Claim7 := { stood := { row := fnExactTxnStageRow, standIns := [], harness := (true, "0a586ec37cb79d2707742f78d9b0b1b200ed5b3b6a699ccfe8f107f4644f7852"), looks := true }, kinds := [], alts := [], laidByText := true, laidKinds := [.handle], laidTests := true, laidLooks := .later }
def FnExactTxnStageCardSaid : Prop := Claim7.holds Tryd.pinned (.plain (OpenSpec.ofChange fnExactTxnStageSpec)) fnExactTxnStageCard

/-- THE TIED CARD OF 'laws.FnExactTxnWrite'. -/
def fnExactTxnWriteCard : Claim7 := { stood := { row := fnExactTxnWriteRow, standIns := [], harness := (true, "0a586ec37cb79d2707742f78d9b0b1b200ed5b3b6a699ccfe8f107f4644f7852"), looks := true }, kinds := [], alts := [], laidByText := true, laidKinds := [.handle], laidTests := true, laidLooks := .later }
def FnExactTxnWriteCardSaid : Prop := Claim7.holds Tryd.pinned (.plain (OpenSpec.ofChange fnExactTxnWriteSpec)) fnExactTxnWriteCard

/-- THE TIED CARD OF 'laws.FnTxnOrder'. -/
def fnTxnOrderCard : Claim7 := { stood := { row := fnTxnOrderRow, standIns := [], harness := (true, "0a586ec37cb79d2707742f78d9b0b1b200ed5b3b6a699ccfe8f107f4644f7852"), looks := true }, kinds := [], alts := [], laidByText := true, laidKinds := [.handle], laidTests := true, laidLooks := .later }
def FnTxnOrderCardSaid : Prop := Claim7.holds Tryd.pinned (.plain (OpenSpec.ofChange fnTxnOrderSpec)) fnTxnOrderCard

/-- THE TIED CARD OF 'laws.FnTxnRecoverTwice'. -/
def fnTxnRecoverTwiceCard : Claim7 := { stood := { row := fnTxnRecoverTwiceRow, standIns := [], harness := (true, "0a586ec37cb79d2707742f78d9b0b1b200ed5b3b6a699ccfe8f107f4644f7852"), looks := true }, kinds := [], alts := [], laidByText := true, laidKinds := [.handle], laidTests := true, laidLooks := .later }
def FnTxnRecoverTwiceCardSaid : Prop := Claim7.holds Tryd.pinned (.plain (OpenSpec.ofChange fnTxnRecoverTwiceSpec)) fnTxnRecoverTwiceCard

/-- THE TIED CARD OF 'laws.FnTxnRecover'. -/
def fnTxnRecoverCard : Claim7 := { stood := { row := fnTxnRecoverRow, standIns := [], harness := (true, "0a586ec37cb79d2707742f78d9b0b1b200ed5b3b6a699ccfe8f107f4644f7852"), looks := true }, kinds := [], alts := [], laidByText := true, laidKinds := [.handle], laidTests := true, laidLooks := .later }
def FnTxnRecoverCardSaid : Prop := Claim7.holds Tryd.pinned (.plain (OpenSpec.ofChange fnTxnRecoverSpec)) fnTxnRecoverCard

/-- THE TIED CARD OF 'laws.FnTxnFence'. -/
def fnTxnFenceCard : Claim7 := { stood := { row := fnTxnFenceRow, standIns := [], harness := (true, "0a586ec37cb79d2707742f78d9b0b1b200ed5b3b6a699ccfe8f107f4644f7852"), looks := true }, kinds := [], alts := [], laidByText := true, laidKinds := [.handle], laidTests := true, laidLooks := .later }
def FnTxnFenceCardSaid : Prop := Claim7.holds Tryd.pinned (.plain (OpenSpec.ofChange fnTxnFenceSpec)) fnTxnFenceCard

/-- THE TIED CARD OF 'laws.FnExactTxnRecover'. -/
def fnExactTxnRecoverCard : Claim7 := { stood := { row := fnExactTxnRecoverRow, standIns := [], harness := (true, "0a586ec37cb79d2707742f78d9b0b1b200ed5b3b6a699ccfe8f107f4644f7852"), looks := true }, kinds := [], alts := [], laidByText := true, laidKinds := [.handle], laidTests := true, laidLooks := .later }
def FnExactTxnRecoverCardSaid : Prop := Claim7.holds Tryd.pinned (.plain (OpenSpec.ofChange fnExactTxnRecoverSpec)) fnExactTxnRecoverCard

/-- THE TIED CARD OF 'laws.FnTxnDecided'. -/
def fnTxnDecidedCard : Claim7 := { stood := { row := fnTxnDecidedRow, standIns := [], harness := (true, "0a586ec37cb79d2707742f78d9b0b1b200ed5b3b6a699ccfe8f107f4644f7852"), looks := true }, kinds := [], alts := [], laidByText := true, laidKinds := [.handle], laidTests := true, laidLooks := .later }
def FnTxnDecidedCardSaid : Prop := Claim7.holds Tryd.pinned (.plain (OpenSpec.ofChange fnTxnDecidedSpec)) fnTxnDecidedCard

/-- THE TIED CARD OF 'laws.FnTxnRace'. -/
def fnTxnRaceCard : Claim7 := { stood := { row := fnTxnRaceRow, standIns := [], harness := (true, "0a586ec37cb79d2707742f78d9b0b1b200ed5b3b6a699ccfe8f107f4644f7852"), looks := true }, kinds := [], alts := [], laidByText := true, laidKinds := [.handle], laidTests := true, laidLooks := .later }
def FnTxnRaceCardSaid : Prop := Claim7.holds Tryd.pinned (.plain (OpenSpec.ofChange fnTxnRaceSpec)) fnTxnRaceCard

/-- THE TIED CARD OF 'laws.FnTxnCommitNeeds'. -/
def fnTxnCommitNeedsCard : Claim7 := { stood := { row := fnTxnCommitNeedsRow, standIns := [], harness := (true, "0a586ec37cb79d2707742f78d9b0b1b200ed5b3b6a699ccfe8f107f4644f7852"), looks := true }, kinds := [], alts := [], laidByText := true, laidKinds := [.handle], laidTests := true, laidLooks := .later }
def FnTxnCommitNeedsCardSaid : Prop := Claim7.holds Tryd.pinned (.plain (OpenSpec.ofChange fnTxnCommitNeedsSpec)) fnTxnCommitNeedsCard

/-- THE SECOND FORM's CARD OF 'laws.FnTxnStage'. -/
def fnTxnStageUptoCard : Claim7 := { stood := { row := fnTxnStageUptoRow, standIns := [], harness := (true, "0a586ec37cb79d2707742f78d9b0b1b200ed5b3b6a699ccfe8f107f4644f7852"), looks := true }, kinds := [], alts := [], laidByText := true, laidKinds := [.handle], laidTests := true, laidLooks := .later }
def FnTxnStageUptoCardSaid : Prop := Claim7.holds Tryd.pinned (.plain (OpenSpec.upto fnTxnStageSpec)) fnTxnStageUptoCard

/-- THE SECOND FORM's CARD OF 'laws.FnTxnWrite'. -/
def fnTxnWriteUptoCard : Claim7 := { stood := { row := fnTxnWriteUptoRow, standIns := [], harness := (true, "0a586ec37cb79d2707742f78d9b0b1b200ed5b3b6a699ccfe8f107f4644f7852"), looks := true }, kinds := [], alts := [], laidByText := true, laidKinds := [.handle], laidTests := true, laidLooks := .later }
def FnTxnWriteUptoCardSaid : Prop := Claim7.holds Tryd.pinned (.plain (OpenSpec.upto fnTxnWriteSpec)) fnTxnWriteUptoCard

/-- THE SECOND FORM's CARD OF 'laws.FnTxnFinish'. -/
def fnTxnFinishUptoCard : Claim7 := { stood := { row := fnTxnFinishUptoRow, standIns := [], harness := (true, "0a586ec37cb79d2707742f78d9b0b1b200ed5b3b6a699ccfe8f107f4644f7852"), looks := true }, kinds := [], alts := [], laidByText := true, laidKinds := [.handle], laidTests := true, laidLooks := .later }
def FnTxnFinishUptoCardSaid : Prop := Claim7.holds Tryd.pinned (.plain (OpenSpec.upto fnTxnFinishSpec)) fnTxnFinishUptoCard

/-- THE SECOND FORM's CARD OF 'laws.FnExactTxnFinish'. -/
def fnExactTxnFinishUptoCard : Claim7 := { stood := { row := fnExactTxnFinishUptoRow, standIns := [], harness := (true, "0a586ec37cb79d2707742f78d9b0b1b200ed5b3b6a699ccfe8f107f4644f7852"), looks := true }, kinds := [], alts := [], laidByText := true, laidKinds := [.handle], laidTests := true, laidLooks := .later }
def FnExactTxnFinishUptoCardSaid : Prop := Claim7.holds Tryd.pinned (.plain (OpenSpec.upto fnExactTxnFinishSpec)) fnExactTxnFinishUptoCard

/-- THE SECOND FORM's CARD OF 'laws.FnExactTxnStage'. -/
def fnExactTxnStageUptoCard : Claim7 := { stood := { row := fnExactTxnStageUptoRow, standIns := [], harness := (true, "0a586ec37cb79d2707742f78d9b0b1b200ed5b3b6a699ccfe8f107f4644f7852"), looks := true }, kinds := [], alts := [], laidByText := true, laidKinds := [.handle], laidTests := true, laidLooks := .later }
def FnExactTxnStageUptoCardSaid : Prop := Claim7.holds Tryd.pinned (.plain (OpenSpec.upto fnExactTxnStageSpec)) fnExactTxnStageUptoCard

/-- THE SECOND FORM's CARD OF 'laws.FnExactTxnWrite'. -/
def fnExactTxnWriteUptoCard : Claim7 := { stood := { row := fnExactTxnWriteUptoRow, standIns := [], harness := (true, "0a586ec37cb79d2707742f78d9b0b1b200ed5b3b6a699ccfe8f107f4644f7852"), looks := true }, kinds := [], alts := [], laidByText := true, laidKinds := [.handle], laidTests := true, laidLooks := .later }
def FnExactTxnWriteUptoCardSaid : Prop := Claim7.holds Tryd.pinned (.plain (OpenSpec.upto fnExactTxnWriteSpec)) fnExactTxnWriteUptoCard

/-- THE SECOND FORM's CARD OF 'laws.FnTxnOrder'. -/
def fnTxnOrderUptoCard : Claim7 := { stood := { row := fnTxnOrderUptoRow, standIns := [], harness := (true, "0a586ec37cb79d2707742f78d9b0b1b200ed5b3b6a699ccfe8f107f4644f7852"), looks := true }, kinds := [], alts := [], laidByText := true, laidKinds := [.handle], laidTests := true, laidLooks := .later }
def FnTxnOrderUptoCardSaid : Prop := Claim7.holds Tryd.pinned (.plain (OpenSpec.upto fnTxnOrderSpec)) fnTxnOrderUptoCard

/-- THE SECOND FORM's CARD OF 'laws.FnTxnRecoverTwice'. -/
def fnTxnRecoverTwiceUptoCard : Claim7 := { stood := { row := fnTxnRecoverTwiceUptoRow, standIns := [], harness := (true, "0a586ec37cb79d2707742f78d9b0b1b200ed5b3b6a699ccfe8f107f4644f7852"), looks := true }, kinds := [], alts := [], laidByText := true, laidKinds := [.handle], laidTests := true, laidLooks := .later }
def FnTxnRecoverTwiceUptoCardSaid : Prop := Claim7.holds Tryd.pinned (.plain (OpenSpec.upto fnTxnRecoverTwiceSpec)) fnTxnRecoverTwiceUptoCard

/-- THE SECOND FORM's CARD OF 'laws.FnTxnRecover'. -/
def fnTxnRecoverUptoCard : Claim7 := { stood := { row := fnTxnRecoverUptoRow, standIns := [], harness := (true, "0a586ec37cb79d2707742f78d9b0b1b200ed5b3b6a699ccfe8f107f4644f7852"), looks := true }, kinds := [], alts := [], laidByText := true, laidKinds := [.handle], laidTests := true, laidLooks := .later }
def FnTxnRecoverUptoCardSaid : Prop := Claim7.holds Tryd.pinned (.plain (OpenSpec.upto fnTxnRecoverSpec)) fnTxnRecoverUptoCard

/-- THE SECOND FORM's CARD OF 'laws.FnTxnFence'. -/
def fnTxnFenceUptoCard : Claim7 := { stood := { row := fnTxnFenceUptoRow, standIns := [], harness := (true, "0a586ec37cb79d2707742f78d9b0b1b200ed5b3b6a699ccfe8f107f4644f7852"), looks := true }, kinds := [], alts := [], laidByText := true, laidKinds := [.handle], laidTests := true, laidLooks := .later }
def FnTxnFenceUptoCardSaid : Prop := Claim7.holds Tryd.pinned (.plain (OpenSpec.upto fnTxnFenceSpec)) fnTxnFenceUptoCard

/-- THE SECOND FORM's CARD OF 'laws.FnExactTxnRecover'. -/
def fnExactTxnRecoverUptoCard : Claim7 := { stood := { row := fnExactTxnRecoverUptoRow, standIns := [], harness := (true, "0a586ec37cb79d2707742f78d9b0b1b200ed5b3b6a699ccfe8f107f4644f7852"), looks := true }, kinds := [], alts := [], laidByText := true, laidKinds := [.handle], laidTests := true, laidLooks := .later }
def FnExactTxnRecoverUptoCardSaid : Prop := Claim7.holds Tryd.pinned (.plain (OpenSpec.upto fnExactTxnRecoverSpec)) fnExactTxnRecoverUptoCard

/-- THE SECOND FORM's CARD OF 'laws.FnTxnDecided'. -/
def fnTxnDecidedUptoCard : Claim7 := { stood := { row := fnTxnDecidedUptoRow, standIns := [], harness := (true, "0a586ec37cb79d2707742f78d9b0b1b200ed5b3b6a699ccfe8f107f4644f7852"), looks := true }, kinds := [], alts := [], laidByText := true, laidKinds := [.handle], laidTests := true, laidLooks := .later }
def FnTxnDecidedUptoCardSaid : Prop := Claim7.holds Tryd.pinned (.plain (OpenSpec.upto fnTxnDecidedSpec)) fnTxnDecidedUptoCard

/-- THE SECOND FORM's CARD OF 'laws.FnTxnRace'. -/
def fnTxnRaceUptoCard : Claim7 := { stood := { row := fnTxnRaceUptoRow, standIns := [], harness := (true, "0a586ec37cb79d2707742f78d9b0b1b200ed5b3b6a699ccfe8f107f4644f7852"), looks := true }, kinds := [], alts := [], laidByText := true, laidKinds := [.handle], laidTests := true, laidLooks := .later }
def FnTxnRaceUptoCardSaid : Prop := Claim7.holds Tryd.pinned (.plain (OpenSpec.upto fnTxnRaceSpec)) fnTxnRaceUptoCard

/-- THE SECOND FORM's CARD OF 'laws.FnTxnCommitNeeds'. -/
def fnTxnCommitNeedsUptoCard : Claim7 := { stood := { row := fnTxnCommitNeedsUptoRow, standIns := [], harness := (true, "0a586ec37cb79d2707742f78d9b0b1b200ed5b3b6a699ccfe8f107f4644f7852"), looks := true }, kinds := [], alts := [], laidByText := true, laidKinds := [.handle], laidTests := true, laidLooks := .later }
def FnTxnCommitNeedsUptoCardSaid : Prop := Claim7.holds Tryd.pinned (.plain (OpenSpec.upto fnTxnCommitNeedsSpec)) fnTxnCommitNeedsUptoCard
end Rows
end Go.Proofs.YtocinffmdciihaaDoor
