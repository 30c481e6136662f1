/-
  NARROWER THAN 'FOR EVERY INPUT', by the rows' own cells (each row's printed sentence says how): FnTxnStage: laid · FnTxnWrite: laid · FnTxnFinish: laid · FnExactTxnFinish: laid · FnExactTxnStage: laid · FnExactTxnWrite: laid · FnTxnOrder: laid · FnTxnRecoverTwice: laid · FnTxnRecover: laid · FnTxnFence: laid · FnExactTxnRecover: laid · FnTxnDecided: laid · FnTxnRace: laid · FnTxnCommitNeeds: laid.
  DERIVED. THE GIVEN ROWS OF THIS SEAT. 14 by the template 'for every input the law returns true; each argument reads behind the call as it read before'; 0 by the template 'total and deterministic' (their statements: YtocinffmdciihaaDoorTotals.lean).
  GIVEN WITH THE SEED: the statements are not yours to turn. If you find one false, say at which input.
  Laid BY PROGRAM, IN A SANDBOX (cutbox-rows.mjs): the forced cells as the released guide's own fill.sh prints them over the translation b3bfcb6061dc2fc0… (all of the seat's roots in one cut). By AI agents, Wed Nov 11 2026. No macro, syntax, notation, axiom, sorry.
-/
import Derived.Test.YtocinffmdciihaaDoorChecked
import GoSem.Claim
import GoSem.ClaimJoined
import GoSem.ClaimMapViews
import Derived.JoinedTies
import Derived.KernelRfl
namespace Go.Proofs.YtocinffmdciihaaDoor
/- THE CELL 'sum', in the pinned program and in every row, IS THE sha256 OF THE DUMP (.gsa) THAT YtocinffmdciihaaDoorProg.lean LOADS. Nothing in Lean hashes anything: it is a label: what it is worth is what the hold of that sum in a sandbox is worth. -/
noncomputable def Tryd.pinned : Pinned := { name := "ytocinffmdciihaadoor", sum := "b3bfcb6061dc2fc082628fda5100a95a64bbd3d202e15a3607c9e75b831fd639", checked := Tryd.checked }
namespace Rows
def none {H : Type} : Left H := { results := [], args := [] }

/- WHAT THE LISTED PACKAGE-LEVEL VARIABLES READ AS WHEN THE CALL BEGINS. Each datum BY PROGRAM (the guide's laid-datum.mjs) off the statement by which the dump's own 'gosem.cut.vars' lays the variable. In a bare row this is a premise. The card (YtocinffmdciihaaDoorCards.lean) ties it to the program's text. -/
def laid_errors_errorType {H : Type} : DataW H := .iface "internal/reflectlite.rtype" (.agg [.ptr (.lit (.string [101, 114, 114, 111, 114]))])

/-- 'laws.FnTxnStage': WHATEVER THE INPUT: true; the input reads as it did. -/
def fnTxnStageSpec : ChangeSpec := { name := "fnTxnStage", fn := fun _ => fun
  | [d] => { results := [.lit (.bool true)], args := [d] }
  | _ => none }
def fnTxnStageRow : OpenClaim := { program := "ytocinffmdciihaadoor", sum := "b3bfcb6061dc2fc082628fda5100a95a64bbd3d202e15a3607c9e75b831fd639", func := "loop.example/flexquorum/laws.FnTxnStage", spec := "fnTxnStage", inPlace := ["internal/reflectlite.ValueOf", "(internal/reflectlite.Value).Type", "(internal/reflectlite.Value).IsNil", "internal/reflectlite.TypeOf", "(internal/reflectlite.Value).Elem", "(internal/reflectlite.Value).Set"], unfollowed := true, recurses := true, named := ["errors.errorType"], apart := false, laid := [("errors.errorType", laid_errors_errorType)] }
def FnTxnStageSaid : Prop := fnTxnStageRow.holds Tryd.pinned (OpenSpec.ofChange fnTxnStageSpec)

/-- ITS FALSE NEIGHBOUR: 'it returns false'. Refute it at one input. -/
def fnTxnStageWrong : ChangeSpec := { name := "fnTxnStage", fn := fun _ => fun
  | [d] => { results := [.lit (.bool false)], args := [d] }
  | _ => none }
def FnTxnStageWrongFalsely : Prop := fnTxnStageRow.holds Tryd.pinned (OpenSpec.ofChange fnTxnStageWrong)

/-- 'laws.FnTxnWrite': WHATEVER THE INPUT: true; the input reads as it did. -/
def fnTxnWriteSpec : ChangeSpec := { name := "fnTxnWrite", fn := fun _ => fun
  | [d] => { results := [.lit (.bool true)], args := [d] }
  | _ => none }
def fnTxnWriteRow : OpenClaim := { program := "ytocinffmdciihaadoor", sum := "b3bfcb6061dc2fc082628fda5100a95a64bbd3d202e15a3607c9e75b831fd639", func := "loop.example/flexquorum/laws.FnTxnWrite", spec := "fnTxnWrite", inPlace := ["internal/reflectlite.ValueOf", "(internal/reflectlite.Value).Type", "(internal/reflectlite.Value).IsNil", "internal/reflectlite.TypeOf", "(internal/reflectlite.Value).Elem", "(internal/reflectlite.Value).Set"], unfollowed := true, recurses := true, named := ["errors.errorType"], apart := false, laid := [("errors.errorType", laid_errors_errorType)] }
def FnTxnWriteSaid : Prop := fnTxnWriteRow.holds Tryd.pinned (OpenSpec.ofChange fnTxnWriteSpec)

/-- ITS FALSE NEIGHBOUR: 'it returns false'. Refute it at one input. -/
def fnTxnWriteWrong : ChangeSpec := { name := "fnTxnWrite", fn := fun _ => fun
  | [d] => { results := [.lit (.bool false)], args := [d] }
  | _ => none }
def FnTxnWriteWrongFalsely : Prop := fnTxnWriteRow.holds Tryd.pinned (OpenSpec.ofChange fnTxnWriteWrong)

/-- 'laws.FnTxnFinish': WHATEVER THE INPUT: true; the input reads as it did. -/
def fnTxnFinishSpec : ChangeSpec := { name := "fnTxnFinish", fn := fun _ => fun
  | [d] => { results := [.lit (.bool true)], args := [d] }
  | _ => none }
def fnTxnFinishRow : OpenClaim := { program := "ytocinffmdciihaadoor", sum := "b3bfcb6061dc2fc082628fda5100a95a64bbd3d202e15a3607c9e75b831fd639", func := "loop.example/flexquorum/laws.FnTxnFinish", spec := "fnTxnFinish", inPlace := ["internal/reflectlite.ValueOf", "(internal/reflectlite.Value).Type", "(internal/reflectlite.Value).IsNil", "internal/reflectlite.TypeOf", "(internal/reflectlite.Value).Elem", "(internal/reflectlite.Value).Set"], unfollowed := true, recurses := true, named := ["errors.errorType"], apart := false, laid := [("errors.errorType", laid_errors_errorType)] }
def FnTxnFinishSaid : Prop := fnTxnFinishRow.holds Tryd.pinned (OpenSpec.ofChange fnTxnFinishSpec)

/-- ITS FALSE NEIGHBOUR: 'it returns false'. Refute it at one input. -/
def fnTxnFinishWrong : ChangeSpec := { name := "fnTxnFinish", fn := fun _ => fun
  | [d] => { results := [.lit (.bool false)], args := [d] }
  | _ => none }
def FnTxnFinishWrongFalsely : Prop := fnTxnFinishRow.holds Tryd.pinned (OpenSpec.ofChange fnTxnFinishWrong)

/-- 'laws.FnExactTxnFinish': WHATEVER THE INPUT: true; the input reads as it did. -/
def fnExactTxnFinishSpec : ChangeSpec := { name := "fnExactTxnFinish", fn := fun _ => fun
  | [d] => { results := [.lit (.bool true)], args := [d] }
  | _ => none }
def fnExactTxnFinishRow : OpenClaim := { program := "ytocinffmdciihaadoor", sum := "b3bfcb6061dc2fc082628fda5100a95a64bbd3d202e15a3607c9e75b831fd639", func := "loop.example/flexquorum/laws.FnExactTxnFinish", spec := "fnExactTxnFinish", inPlace := ["internal/reflectlite.ValueOf", "(internal/reflectlite.Value).Type", "(internal/reflectlite.Value).IsNil", "internal/reflectlite.TypeOf", "(internal/reflectlite.Value).Elem", "(internal/reflectlite.Value).Set"], unfollowed := true, recurses := true, named := ["errors.errorType"], apart := false, laid := [("errors.errorType", laid_errors_errorType)] }
def FnExactTxnFinishSaid : Prop := fnExactTxnFinishRow.holds Tryd.pinned (OpenSpec.ofChange fnExactTxnFinishSpec)

/-- ITS FALSE NEIGHBOUR: 'it returns false'. Refute it at one input. -/
def fnExactTxnFinishWrong : ChangeSpec := { name := "fnExactTxnFinish", fn := fun _ => fun
  | [d] => { results := [.lit (.bool false)], args := [d] }
  | _ => none }
def FnExactTxnFinishWrongFalsely : Prop := fnExactTxnFinishRow.holds Tryd.pinned (OpenSpec.ofChange fnExactTxnFinishWrong)

/-- 'laws.FnExactTxnStage': WHATEVER THE INPUT: true; the input reads as it did. -/
def fnExactTxnStageSpec : ChangeSpec := { name := "fnExactTxnStage", fn := fun _ => fun
  | [d] => { results := [.lit (.bool true)], args := [d] }
  | _ => none }
def fnExactTxnStageRow : OpenClaim := { program := "ytocinffmdciihaadoor", sum := "b3bfcb6061dc2fc082628fda5100a95a64bbd3d202e15a3607c9e75b831fd639", func := "loop.example/flexquorum/laws.FnExactTxnStage", spec := "fnExactTxnStage", inPlace := ["internal/reflectlite.ValueOf", "(internal/reflectlite.Value).Type", "(internal/reflectlite.Value).IsNil", "internal/reflectlite.TypeOf", "(internal/reflectlite.Value).Elem", "(internal/reflectlite.Value).Set"], unfollowed := true, recurses := true, named := ["errors.errorType"], apart := false, laid := [("errors.errorType", laid_errors_errorType)] }
def FnExactTxnStageSaid : Prop := fnExactTxnStageRow.holds Tryd.pinned (OpenSpec.ofChange fnExactTxnStageSpec)

/-- ITS FALSE NEIGHBOUR: 'it returns false'. Refute it at one input. -/
def fnExactTxnStageWrong : ChangeSpec := { name := "fnExactTxnStage", fn := fun _ => fun
  | [d] => { results := [.lit (.bool false)], args := [d] }
  | _ => none }
def FnExactTxnStageWrongFalsely : Prop := fnExactTxnStageRow.holds Tryd.pinned (OpenSpec.ofChange fnExactTxnStageWrong)

/-- 'laws.FnExactTxnWrite': WHATEVER THE INPUT: true; the input reads as it did. -/
def fnExactTxnWriteSpec : ChangeSpec := { name := "fnExactTxnWrite", fn := fun _ => fun
  | [d1, d2] => { results := [.lit (.bool true)], args := [d1, d2] }
  | _ => none }
def fnExactTxnWriteRow : OpenClaim := { program := "ytocinffmdciihaadoor", sum := "b3bfcb6061dc2fc082628fda5100a95a64bbd3d202e15a3607c9e75b831fd639", func := "loop.example/flexquorum/laws.FnExactTxnWrite", spec := "fnExactTxnWrite", inPlace := ["internal/reflectlite.ValueOf", "(internal/reflectlite.Value).Type", "(internal/reflectlite.Value).IsNil", "internal/reflectlite.TypeOf", "(internal/reflectlite.Value).Elem", "(internal/reflectlite.Value).Set"], unfollowed := true, recurses := true, named := ["errors.errorType"], apart := false, laid := [("errors.errorType", laid_errors_errorType)] }
def FnExactTxnWriteSaid : Prop := fnExactTxnWriteRow.holds Tryd.pinned (OpenSpec.ofChange fnExactTxnWriteSpec)

/-- ITS FALSE NEIGHBOUR: 'it returns false'. Refute it at one input. -/
def fnExactTxnWriteWrong : ChangeSpec := { name := "fnExactTxnWrite", fn := fun _ => fun
  | [d1, d2] => { results := [.lit (.bool false)], args := [d1, d2] }
  | _ => none }
def FnExactTxnWriteWrongFalsely : Prop := fnExactTxnWriteRow.holds Tryd.pinned (OpenSpec.ofChange fnExactTxnWriteWrong)

/-- 'laws.FnTxnOrder': WHATEVER THE INPUT: true; the input reads as it did. -/
def fnTxnOrderSpec : ChangeSpec := { name := "fnTxnOrder", fn := fun _ => fun
  | [d1, d2] => { results := [.lit (.bool true)], args := [d1, d2] }
  | _ => none }
def fnTxnOrderRow : OpenClaim := { program := "ytocinffmdciihaadoor", sum := "b3bfcb6061dc2fc082628fda5100a95a64bbd3d202e15a3607c9e75b831fd639", func := "loop.example/flexquorum/laws.FnTxnOrder", spec := "fnTxnOrder", inPlace := ["internal/reflectlite.ValueOf", "(internal/reflectlite.Value).Type", "(internal/reflectlite.Value).IsNil", "internal/reflectlite.TypeOf", "(internal/reflectlite.Value).Elem", "(internal/reflectlite.Value).Set"], unfollowed := true, recurses := true, named := ["errors.errorType"], apart := false, laid := [("errors.errorType", laid_errors_errorType)] }
def FnTxnOrderSaid : Prop := fnTxnOrderRow.holds Tryd.pinned (OpenSpec.ofChange fnTxnOrderSpec)

/-- ITS FALSE NEIGHBOUR: 'it returns false'. Refute it at one input. -/
def fnTxnOrderWrong : ChangeSpec := { name := "fnTxnOrder", fn := fun _ => fun
  | [d1, d2] => { results := [.lit (.bool false)], args := [d1, d2] }
  | _ => none }
def FnTxnOrderWrongFalsely : Prop := fnTxnOrderRow.holds Tryd.pinned (OpenSpec.ofChange fnTxnOrderWrong)

/-- 'laws.FnTxnRecoverTwice': WHATEVER THE INPUT: true; the input reads as it did. -/
def fnTxnRecoverTwiceSpec : ChangeSpec := { name := "fnTxnRecoverTwice", fn := fun _ => fun
  | [d] => { results := [.lit (.bool true)], args := [d] }
  | _ => none }
def fnTxnRecoverTwiceRow : OpenClaim := { program := "ytocinffmdciihaadoor", sum := "b3bfcb6061dc2fc082628fda5100a95a64bbd3d202e15a3607c9e75b831fd639", func := "loop.example/flexquorum/laws.FnTxnRecoverTwice", spec := "fnTxnRecoverTwice", inPlace := ["internal/reflectlite.ValueOf", "(internal/reflectlite.Value).Type", "(internal/reflectlite.Value).IsNil", "internal/reflectlite.TypeOf", "(internal/reflectlite.Value).Elem", "(internal/reflectlite.Value).Set"], unfollowed := true, recurses := true, named := ["errors.errorType"], apart := false, laid := [("errors.errorType", laid_errors_errorType)] }
def FnTxnRecoverTwiceSaid : Prop := fnTxnRecoverTwiceRow.holds Tryd.pinned (OpenSpec.ofChange fnTxnRecoverTwiceSpec)

/-- ITS FALSE NEIGHBOUR: 'it returns false'. Refute it at one input. -/
def fnTxnRecoverTwiceWrong : ChangeSpec := { name := "fnTxnRecoverTwice", fn := fun _ => fun
  | [d] => { results := [.lit (.bool false)], args := [d] }
  | _ => none }
def FnTxnRecoverTwiceWrongFalsely : Prop := fnTxnRecoverTwiceRow.holds Tryd.pinned (OpenSpec.ofChange fnTxnRecoverTwiceWrong)

/-- 'laws.FnTxnRecover': WHATEVER THE INPUT: true; the input reads as it did. -/
def fnTxnRecoverSpec : ChangeSpec := { name := "fnTxnRecover", fn := fun _ => fun
  | [d] => { results := [.lit (.bool true)], args := [d] }
  | _ => none }
def fnTxnRecoverRow : OpenClaim := { program := "ytocinffmdciihaadoor", sum := "b3bfcb6061dc2fc082628fda5100a95a64bbd3d202e15a3607c9e75b831fd639", func := "loop.example/flexquorum/laws.FnTxnRecover", spec := "fnTxnRecover", inPlace := ["internal/reflectlite.ValueOf", "(internal/reflectlite.Value).Type", "(internal/reflectlite.Value).IsNil", "internal/reflectlite.TypeOf", "(internal/reflectlite.Value).Elem", "(internal/reflectlite.Value).Set"], unfollowed := true, recurses := true, named := ["errors.errorType"], apart := false, laid := [("errors.errorType", laid_errors_errorType)] }
def FnTxnRecoverSaid : Prop := fnTxnRecoverRow.holds Tryd.pinned (OpenSpec.ofChange fnTxnRecoverSpec)

/-- ITS FALSE NEIGHBOUR: 'it returns false'. Refute it at one input. -/
def fnTxnRecoverWrong : ChangeSpec := { name := "fnTxnRecover", fn := fun _ => fun
  | [d] => { results := [.lit (.bool false)], args := [d] }
  | _ => none }
def FnTxnRecoverWrongFalsely : Prop := fnTxnRecoverRow.holds Tryd.pinned (OpenSpec.ofChange fnTxnRecoverWrong)

/-- 'laws.FnTxnFence': WHATEVER THE INPUT: true; the input reads as it did. -/
def fnTxnFenceSpec : ChangeSpec := { name := "fnTxnFence", fn := fun _ => fun
  | [d] => { results := [.lit (.bool true)], args := [d] }
  | _ => none }
def fnTxnFenceRow : OpenClaim := { program := "ytocinffmdciihaadoor", sum := "b3bfcb6061dc2fc082628fda5100a95a64bbd3d202e15a3607c9e75b831fd639", func := "loop.example/flexquorum/laws.FnTxnFence", spec := "fnTxnFence", inPlace := ["internal/reflectlite.ValueOf", "(internal/reflectlite.Value).Type", "(internal/reflectlite.Value).IsNil", "internal/reflectlite.TypeOf", "(internal/reflectlite.Value).Elem", "(internal/reflectlite.Value).Set"], unfollowed := true, recurses := true, named := ["errors.errorType"], apart := false, laid := [("errors.errorType", laid_errors_errorType)] }
def FnTxnFenceSaid : Prop := fnTxnFenceRow.holds Tryd.pinned (OpenSpec.ofChange fnTxnFenceSpec)

/-- ITS FALSE NEIGHBOUR: 'it returns false'. Refute it at one input. -/
def fnTxnFenceWrong : ChangeSpec := { name := "fnTxnFence", fn := fun _ => fun
  | [d] => { results := [.lit (.bool false)], args := [d] }
  | _ => none }
def FnTxnFenceWrongFalsely : Prop := fnTxnFenceRow.holds Tryd.pinned (OpenSpec.ofChange fnTxnFenceWrong)

/-- 'laws.FnExactTxnRecover': WHATEVER THE INPUT: true; the input reads as it did. -/
def fnExactTxnRecoverSpec : ChangeSpec := { name := "fnExactTxnRecover", fn := fun _ => fun
  | [d] => { results := [.lit (.bool true)], args := [d] }
  | _ => none }
def fnExactTxnRecoverRow : OpenClaim := { program := "ytocinffmdciihaadoor", sum := "b3bfcb6061dc2fc082628fda5100a95a64bbd3d202e15a3607c9e75b831fd639", func := "loop.example/flexquorum/laws.FnExactTxnRecover", spec := "fnExactTxnRecover", inPlace := ["internal/reflectlite.ValueOf", "(internal/reflectlite.Value).Type", "(internal/reflectlite.Value).IsNil", "internal/reflectlite.TypeOf", "(internal/reflectlite.Value).Elem", "(internal/reflectlite.Value).Set"], unfollowed := true, recurses := true, named := ["errors.errorType"], apart := false, laid := [("errors.errorType", laid_errors_errorType)] }
def FnExactTxnRecoverSaid : Prop := fnExactTxnRecoverRow.holds Tryd.pinned (OpenSpec.ofChange fnExactTxnRecoverSpec)

/-- ITS FALSE NEIGHBOUR: 'it returns false'. Refute it at one input. -/
def fnExactTxnRecoverWrong : ChangeSpec := { name := "fnExactTxnRecover", fn := fun _ => fun
  | [d] => { results := [.lit (.bool false)], args := [d] }
  | _ => none }
def FnExactTxnRecoverWrongFalsely : Prop := fnExactTxnRecoverRow.holds Tryd.pinned (OpenSpec.ofChange fnExactTxnRecoverWrong)

/-- 'laws.FnTxnDecided': WHATEVER THE INPUT: true; the input reads as it did. -/
def fnTxnDecidedSpec : ChangeSpec := { name := "fnTxnDecided", fn := fun _ => fun
  | [d1, d2] => { results := [.lit (.bool true)], args := [d1, d2] }
  | _ => none }
def fnTxnDecidedRow : OpenClaim := { program := "ytocinffmdciihaadoor", sum := "b3bfcb6061dc2fc082628fda5100a95a64bbd3d202e15a3607c9e75b831fd639", func := "loop.example/flexquorum/laws.FnTxnDecided", spec := "fnTxnDecided", inPlace := ["internal/reflectlite.ValueOf", "(internal/reflectlite.Value).Type", "(internal/reflectlite.Value).IsNil", "internal/reflectlite.TypeOf", "(internal/reflectlite.Value).Elem", "(internal/reflectlite.Value).Set"], unfollowed := true, recurses := true, named := ["errors.errorType"], apart := false, laid := [("errors.errorType", laid_errors_errorType)] }
def FnTxnDecidedSaid : Prop := fnTxnDecidedRow.holds Tryd.pinned (OpenSpec.ofChange fnTxnDecidedSpec)

/-- ITS FALSE NEIGHBOUR: 'it returns false'. Refute it at one input. -/
def fnTxnDecidedWrong : ChangeSpec := { name := "fnTxnDecided", fn := fun _ => fun
  | [d1, d2] => { results := [.lit (.bool false)], args := [d1, d2] }
  | _ => none }
def FnTxnDecidedWrongFalsely : Prop := fnTxnDecidedRow.holds Tryd.pinned (OpenSpec.ofChange fnTxnDecidedWrong)

/-- 'laws.FnTxnRace': WHATEVER THE INPUT: true; the input reads as it did. -/
def fnTxnRaceSpec : ChangeSpec := { name := "fnTxnRace", fn := fun _ => fun
  | [d] => { results := [.lit (.bool true)], args := [d] }
  | _ => none }
def fnTxnRaceRow : OpenClaim := { program := "ytocinffmdciihaadoor", sum := "b3bfcb6061dc2fc082628fda5100a95a64bbd3d202e15a3607c9e75b831fd639", func := "loop.example/flexquorum/laws.FnTxnRace", spec := "fnTxnRace", inPlace := ["internal/reflectlite.ValueOf", "(internal/reflectlite.Value).Type", "(internal/reflectlite.Value).IsNil", "internal/reflectlite.TypeOf", "(internal/reflectlite.Value).Elem", "(internal/reflectlite.Value).Set"], unfollowed := true, recurses := true, named := ["errors.errorType"], apart := false, laid := [("errors.errorType", laid_errors_errorType)] }
def FnTxnRaceSaid : Prop := fnTxnRaceRow.holds Tryd.pinned (OpenSpec.ofChange fnTxnRaceSpec)

/-- ITS FALSE NEIGHBOUR: 'it returns false'. Refute it at one input. -/
def fnTxnRaceWrong : ChangeSpec := { name := "fnTxnRace", fn := fun _ => fun
  | [d] => { results := [.lit (.bool false)], args := [d] }
  | _ => none }
def FnTxnRaceWrongFalsely : Prop := fnTxnRaceRow.holds Tryd.pinned (OpenSpec.ofChange fnTxnRaceWrong)

/-- 'laws.FnTxnCommitNeeds': WHATEVER THE INPUT: true; the input reads as it did. -/
def fnTxnCommitNeedsSpec : ChangeSpec := { name := "fnTxnCommitNeeds", fn := fun _ => fun
  | [d1, d2] => { results := [.lit (.bool true)], args := [d1, d2] }
  | _ => none }
def fnTxnCommitNeedsRow : OpenClaim := { program := "ytocinffmdciihaadoor", sum := "b3bfcb6061dc2fc082628fda5100a95a64bbd3d202e15a3607c9e75b831fd639", func := "loop.example/flexquorum/laws.FnTxnCommitNeeds", spec := "fnTxnCommitNeeds", inPlace := ["internal/reflectlite.ValueOf", "(internal/reflectlite.Value).Type", "(internal/reflectlite.Value).IsNil", "internal/reflectlite.TypeOf", "(internal/reflectlite.Value).Elem", "(internal/reflectlite.Value).Set"], unfollowed := true, recurses := true, named := ["errors.errorType"], apart := false, laid := [("errors.errorType", laid_errors_errorType)] }
def FnTxnCommitNeedsSaid : Prop := fnTxnCommitNeedsRow.holds Tryd.pinned (OpenSpec.ofChange fnTxnCommitNeedsSpec)

/-- ITS FALSE NEIGHBOUR: 'it returns false'. Refute it at one input. -/
def fnTxnCommitNeedsWrong : ChangeSpec := { name := "fnTxnCommitNeeds", fn := fun _ => fun
  | [d1, d2] => { results := [.lit (.bool false)], args := [d1, d2] }
  | _ => none }
def FnTxnCommitNeedsWrongFalsely : Prop := fnTxnCommitNeedsRow.holds Tryd.pinned (OpenSpec.ofChange fnTxnCommitNeedsWrong)

/- THE SECOND FORM. 'bulk': how many values and letters a reading holds, each counted each time it is reached (what is shared counts as often as it is met; a slice's spare places count too). A statement '..UptoSaid' is the law's where the arguments, and the package variables that the reading takes, are together of bulk at most 1048576: NARROWER than '..Said'. Prove '..Said' where nothing that the law and all that it calls make is longer than what came in: it says more and counts as full. Else prove '..UptoSaid'. A law counts once. -/
mutual
def uptoBulk {H : Type} : DataW H → Nat
  | .lit (.string bytes) => bytes.length + 1
  | .lit _ => 1
  | .nil => 1
  | .ptr d => uptoBulk d + 1
  | .slice elems spare => uptoBulkAll elems + uptoBulkAll spare + 1
  | .agg parts => uptoBulkAll parts + 1
  | .iface _ d => uptoBulk d + 1
  | .map entries => uptoBulkEntries entries + 1
  | .held _ => 1
def uptoBulkAll {H : Type} : List (DataW H) → Nat
  | [] => 0
  | d :: r => uptoBulk d + uptoBulkAll r
def uptoBulkEntries {H : Type} : List (Lit × DataW H) → Nat
  | [] => 0
  | x :: r => uptoBulkEntry x + uptoBulkEntries r
def uptoBulkEntry {H : Type} : Lit × DataW H → Nat
  | (.string bytes, d) => bytes.length + uptoBulk d + 1
  | (_, d) => uptoBulk d + 1
 end
def uptoSmall : (H : Type) → List (DataW H) → Bool := fun _ ds => decide (uptoBulkAll ds ≤ 1048576)
def OpenSpec.upto (s : _root_.Go.ChangeSpec) : _root_.Go.OpenSpec := { _root_.Go.OpenSpec.ofChange s with cond := some uptoSmall }

/-- 'laws.FnTxnStage', WHERE WHAT IT READS IS OF BULK AT MOST 1048576: true; the input reads as it did. -/
def fnTxnStageUptoRow : OpenClaim := { program := "ytocinffmdciihaadoor", sum := "b3bfcb6061dc2fc082628fda5100a95a64bbd3d202e15a3607c9e75b831fd639", func := "loop.example/flexquorum/laws.FnTxnStage", spec := "fnTxnStage", inPlace := ["internal/reflectlite.ValueOf", "(internal/reflectlite.Value).Type", "(internal/reflectlite.Value).IsNil", "internal/reflectlite.TypeOf", "(internal/reflectlite.Value).Elem", "(internal/reflectlite.Value).Set"], unfollowed := true, recurses := true, named := ["errors.errorType"], apart := false, laid := [("errors.errorType", laid_errors_errorType)], narrowed := true }
def FnTxnStageUptoSaid : Prop := fnTxnStageUptoRow.holds Tryd.pinned (OpenSpec.upto fnTxnStageSpec)

/-- 'laws.FnTxnWrite', WHERE WHAT IT READS IS OF BULK AT MOST 1048576: true; the input reads as it did. -/
def fnTxnWriteUptoRow : OpenClaim := { program := "ytocinffmdciihaadoor", sum := "b3bfcb6061dc2fc082628fda5100a95a64bbd3d202e15a3607c9e75b831fd639", func := "loop.example/flexquorum/laws.FnTxnWrite", spec := "fnTxnWrite", inPlace := ["internal/reflectlite.ValueOf", "(internal/reflectlite.Value).Type", "(internal/reflectlite.Value).IsNil", "internal/reflectlite.TypeOf", "(internal/reflectlite.Value).Elem", "(internal/reflectlite.Value).Set"], unfollowed := true, recurses := true, named := ["errors.errorType"], apart := false, laid := [("errors.errorType", laid_errors_errorType)], narrowed := true }
def FnTxnWriteUptoSaid : Prop := fnTxnWriteUptoRow.holds Tryd.pinned (OpenSpec.upto fnTxnWriteSpec)

/-- 'laws.FnTxnFinish', WHERE WHAT IT READS IS OF BULK AT MOST 1048576: true; the input reads as it did. -/
def fnTxnFinishUptoRow : OpenClaim := { program := "ytocinffmdciihaadoor", sum := "b3bfcb6061dc2fc082628fda5100a95a64bbd3d202e15a3607c9e75b831fd639", func := "loop.example/flexquorum/laws.FnTxnFinish", spec := "fnTxnFinish", inPlace := ["internal/reflectlite.ValueOf", "(internal/reflectlite.Value).Type", "(internal/reflectlite.Value).IsNil", "internal/reflectlite.TypeOf", "(internal/reflectlite.Value).Elem", "(internal/reflectlite.Value).Set"], unfollowed := true, recurses := true, named := ["errors.errorType"], apart := false, laid := [("errors.errorType", laid_errors_errorType)], narrowed := true }
def FnTxnFinishUptoSaid : Prop := fnTxnFinishUptoRow.holds Tryd.pinned (OpenSpec.upto fnTxnFinishSpec)

/-- 'laws.FnExactTxnFinish', WHERE WHAT IT READS IS OF BULK AT MOST 1048576: true; the input reads as it did. -/
def fnExactTxnFinishUptoRow : OpenClaim := { program := "ytocinffmdciihaadoor", sum := "b3bfcb6061dc2fc082628fda5100a95a64bbd3d202e15a3607c9e75b831fd639", func := "loop.example/flexquorum/laws.FnExactTxnFinish", spec := "fnExactTxnFinish", inPlace := ["internal/reflectlite.ValueOf", "(internal/reflectlite.Value).Type", "(internal/reflectlite.Value).IsNil", "internal/reflectlite.TypeOf", "(internal/reflectlite.Value).Elem", "(internal/reflectlite.Value).Set"], unfollowed := true, recurses := true, named := ["errors.errorType"], apart := false, laid := [("errors.errorType", laid_errors_errorType)], narrowed := true }
def FnExactTxnFinishUptoSaid : Prop := fnExactTxnFinishUptoRow.holds Tryd.pinned (OpenSpec.upto fnExactTxnFinishSpec)

/-- 'laws.FnExactTxnStage', WHERE WHAT IT READS IS OF BULK AT MOST 1048576: true; the input reads as it did. -/
def fnExactTxnStageUptoRow : OpenClaim := { program := "ytocinffmdciihaadoor", sum := "b3bfcb6061dc2fc082628fda5100a95a64bbd3d202e15a3607c9e75b831fd639", func := "loop.example/flexquorum/laws.FnExactTxnStage", spec := "fnExactTxnStage", inPlace := ["internal/reflectlite.ValueOf", "(internal/reflectlite.Value).Type", "(internal/reflectlite.Value).IsNil", "internal/reflectlite.TypeOf", "(internal/reflectlite.Value).Elem", "(internal/reflectlite.Value).Set"], unfollowed := true, recurses := true, named := ["errors.errorType"], apart := false, laid := [("errors.errorType", laid_errors_errorType)], narrowed := true }
def FnExactTxnStageUptoSaid : Prop := fnExactTxnStageUptoRow.holds Tryd.pinned (OpenSpec.upto fnExactTxnStageSpec)

/-- 'laws.FnExactTxnWrite', WHERE WHAT IT READS IS OF BULK AT MOST 1048576: true; the input reads as it did. -/
def fnExactTxnWriteUptoRow : OpenClaim := { program := "ytocinffmdciihaadoor", sum := "b3bfcb6061dc2fc082628fda5100a95a64bbd3d202e15a3607c9e75b831fd639", func := "loop.example/flexquorum/laws.FnExactTxnWrite", spec := "fnExactTxnWrite", inPlace := ["internal/reflectlite.ValueOf", "(internal/reflectlite.Value).Type", "(internal/reflectlite.Value).IsNil", "internal/reflectlite.TypeOf", "(internal/reflectlite.Value).Elem", "(internal/reflectlite.Value).Set"], unfollowed := true, recurses := true, named := ["errors.errorType"], apart := false, laid := [("errors.errorType", laid_errors_errorType)], narrowed := true }
def FnExactTxnWriteUptoSaid : Prop := fnExactTxnWriteUptoRow.holds Tryd.pinned (OpenSpec.upto fnExactTxnWriteSpec)

/-- 'laws.FnTxnOrder', WHERE WHAT IT READS IS OF BULK AT MOST 1048576: true; the input reads as it did. -/
def fnTxnOrderUptoRow : OpenClaim := { program := "ytocinffmdciihaadoor", sum := "b3bfcb6061dc2fc082628fda5100a95a64bbd3d202e15a3607c9e75b831fd639", func := "loop.example/flexquorum/laws.FnTxnOrder", spec := "fnTxnOrder", inPlace := ["internal/reflectlite.ValueOf", "(internal/reflectlite.Value).Type", "(internal/reflectlite.Value).IsNil", "internal/reflectlite.TypeOf", "(internal/reflectlite.Value).Elem", "(internal/reflectlite.Value).Set"], unfollowed := true, recurses := true, named := ["errors.errorType"], apart := false, laid := [("errors.errorType", laid_errors_errorType)], narrowed := true }
def FnTxnOrderUptoSaid : Prop := fnTxnOrderUptoRow.holds Tryd.pinned (OpenSpec.upto fnTxnOrderSpec)

/-- 'laws.FnTxnRecoverTwice', WHERE WHAT IT READS IS OF BULK AT MOST 1048576: true; the input reads as it did. -/
def fnTxnRecoverTwiceUptoRow : OpenClaim := { program := "ytocinffmdciihaadoor", sum := "b3bfcb6061dc2fc082628fda5100a95a64bbd3d202e15a3607c9e75b831fd639", func := "loop.example/flexquorum/laws.FnTxnRecoverTwice", spec := "fnTxnRecoverTwice", inPlace := ["internal/reflectlite.ValueOf", "(internal/reflectlite.Value).Type", "(internal/reflectlite.Value).IsNil", "internal/reflectlite.TypeOf", "(internal/reflectlite.Value).Elem", "(internal/reflectlite.Value).Set"], unfollowed := true, recurses := true, named := ["errors.errorType"], apart := false, laid := [("errors.errorType", laid_errors_errorType)], narrowed := true }
def FnTxnRecoverTwiceUptoSaid : Prop := fnTxnRecoverTwiceUptoRow.holds Tryd.pinned (OpenSpec.upto fnTxnRecoverTwiceSpec)

/-- 'laws.FnTxnRecover', WHERE WHAT IT READS IS OF BULK AT MOST 1048576: true; the input reads as it did. -/
def fnTxnRecoverUptoRow : OpenClaim := { program := "ytocinffmdciihaadoor", sum := "b3bfcb6061dc2fc082628fda5100a95a64bbd3d202e15a3607c9e75b831fd639", func := "loop.example/flexquorum/laws.FnTxnRecover", spec := "fnTxnRecover", inPlace := ["internal/reflectlite.ValueOf", "(internal/reflectlite.Value).Type", "(internal/reflectlite.Value).IsNil", "internal/reflectlite.TypeOf", "(internal/reflectlite.Value).Elem", "(internal/reflectlite.Value).Set"], unfollowed := true, recurses := true, named := ["errors.errorType"], apart := false, laid := [("errors.errorType", laid_errors_errorType)], narrowed := true }
def FnTxnRecoverUptoSaid : Prop := fnTxnRecoverUptoRow.holds Tryd.pinned (OpenSpec.upto fnTxnRecoverSpec)

/-- 'laws.FnTxnFence', WHERE WHAT IT READS IS OF BULK AT MOST 1048576: true; the input reads as it did. -/
def fnTxnFenceUptoRow : OpenClaim := { program := "ytocinffmdciihaadoor", sum := "b3bfcb6061dc2fc082628fda5100a95a64bbd3d202e15a3607c9e75b831fd639", func := "loop.example/flexquorum/laws.FnTxnFence", spec := "fnTxnFence", inPlace := ["internal/reflectlite.ValueOf", "(internal/reflectlite.Value).Type", "(internal/reflectlite.Value).IsNil", "internal/reflectlite.TypeOf", "(internal/reflectlite.Value).Elem", "(internal/reflectlite.Value).Set"], unfollowed := true, recurses := true, named := ["errors.errorType"], apart := false, laid := [("errors.errorType", laid_errors_errorType)], narrowed := true }
def FnTxnFenceUptoSaid : Prop := fnTxnFenceUptoRow.holds Tryd.pinned (OpenSpec.upto fnTxnFenceSpec)

/-- 'laws.FnExactTxnRecover', WHERE WHAT IT READS IS OF BULK AT MOST 1048576: true; the input reads as it did. -/
def fnExactTxnRecoverUptoRow : OpenClaim := { program := "ytocinffmdciihaadoor", sum := "b3bfcb6061dc2fc082628fda5100a95a64bbd3d202e15a3607c9e75b831fd639", func := "loop.example/flexquorum/laws.FnExactTxnRecover", spec := "fnExactTxnRecover", inPlace := ["internal/reflectlite.ValueOf", "(internal/reflectlite.Value).Type", "(internal/reflectlite.Value).IsNil", "internal/reflectlite.TypeOf", "(internal/reflectlite.Value).Elem", "(internal/reflectlite.Value).Set"], unfollowed := true, recurses := true, named := ["errors.errorType"], apart := false, laid := [("errors.errorType", laid_errors_errorType)], narrowed := true }
def FnExactTxnRecoverUptoSaid : Prop := fnExactTxnRecoverUptoRow.holds Tryd.pinned (OpenSpec.upto fnExactTxnRecoverSpec)

/-- 'laws.FnTxnDecided', WHERE WHAT IT READS IS OF BULK AT MOST 1048576: true; the input reads as it did. -/
def fnTxnDecidedUptoRow : OpenClaim := { program := "ytocinffmdciihaadoor", sum := "b3bfcb6061dc2fc082628fda5100a95a64bbd3d202e15a3607c9e75b831fd639", func := "loop.example/flexquorum/laws.FnTxnDecided", spec := "fnTxnDecided", inPlace := ["internal/reflectlite.ValueOf", "(internal/reflectlite.Value).Type", "(internal/reflectlite.Value).IsNil", "internal/reflectlite.TypeOf", "(internal/reflectlite.Value).Elem", "(internal/reflectlite.Value).Set"], unfollowed := true, recurses := true, named := ["errors.errorType"], apart := false, laid := [("errors.errorType", laid_errors_errorType)], narrowed := true }
def FnTxnDecidedUptoSaid : Prop := fnTxnDecidedUptoRow.holds Tryd.pinned (OpenSpec.upto fnTxnDecidedSpec)

/-- 'laws.FnTxnRace', WHERE WHAT IT READS IS OF BULK AT MOST 1048576: true; the input reads as it did. -/
def fnTxnRaceUptoRow : OpenClaim := { program := "ytocinffmdciihaadoor", sum := "b3bfcb6061dc2fc082628fda5100a95a64bbd3d202e15a3607c9e75b831fd639", func := "loop.example/flexquorum/laws.FnTxnRace", spec := "fnTxnRace", inPlace := ["internal/reflectlite.ValueOf", "(internal/reflectlite.Value).Type", "(internal/reflectlite.Value).IsNil", "internal/reflectlite.TypeOf", "(internal/reflectlite.Value).Elem", "(internal/reflectlite.Value).Set"], unfollowed := true, recurses := true, named := ["errors.errorType"], apart := false, laid := [("errors.errorType", laid_errors_errorType)], narrowed := true }
def FnTxnRaceUptoSaid : Prop := fnTxnRaceUptoRow.holds Tryd.pinned (OpenSpec.upto fnTxnRaceSpec)

/-- 'laws.FnTxnCommitNeeds', WHERE WHAT IT READS IS OF BULK AT MOST 1048576: true; the input reads as it did. -/
def fnTxnCommitNeedsUptoRow : OpenClaim := { program := "ytocinffmdciihaadoor", sum := "b3bfcb6061dc2fc082628fda5100a95a64bbd3d202e15a3607c9e75b831fd639", func := "loop.example/flexquorum/laws.FnTxnCommitNeeds", spec := "fnTxnCommitNeeds", inPlace := ["internal/reflectlite.ValueOf", "(internal/reflectlite.Value).Type", "(internal/reflectlite.Value).IsNil", "internal/reflectlite.TypeOf", "(internal/reflectlite.Value).Elem", "(internal/reflectlite.Value).Set"], unfollowed := true, recurses := true, named := ["errors.errorType"], apart := false, laid := [("errors.errorType", laid_errors_errorType)], narrowed := true }
def FnTxnCommitNeedsUptoSaid : Prop := fnTxnCommitNeedsUptoRow.holds Tryd.pinned (OpenSpec.upto fnTxnCommitNeedsSpec)

end Rows
end Go.Proofs.YtocinffmdciihaaDoor
