/-
  No cell of these rows narrows 'for every input' (looked for: loops, veiled, ifaces, maps, wideKeys, modest, calm, conditions, laid).
  DERIVED. THE GIVEN ROWS OF THIS SEAT. 11 by the template 'for every input the law returns true; each argument reads behind the call as it read before'; 0 by the template 'total and deterministic' (their statements: YtpkhkmehpijngaaTotals.lean).
  GIVEN WITH THE SEED: the statements are not yours to turn. If you find one false, say at which input.
  Laid BY PROGRAM, IN A SANDBOX (cutbox-rows.mjs): the forced cells as the released guide's own fill.sh prints them over the translation 39eb55af4640c5df… (all of the seat's roots in one cut). By AI agents, Wed Nov 11 2026. No macro, syntax, notation, axiom, sorry.
-/
import Derived.Test.YtpkhkmehpijngaaChecked
import GoSem.Claim
import GoSem.ClaimJoined
import GoSem.ClaimMapViews
import Derived.JoinedTies
import Derived.KernelRfl
namespace Go.Proofs.Ytpkhkmehpijngaa
/- THE CELL 'sum', in the pinned program and in every row, IS THE sha256 OF THE DUMP (.gsa) THAT YtpkhkmehpijngaaProg.lean LOADS. Nothing in Lean hashes anything: it is a label: what it is worth is what the hold of that sum in a sandbox is worth. -/
noncomputable def Try.pinned : Pinned := { name := "ytpkhkmehpijngaa", sum := "39eb55af4640c5df065ecb224f6f4c04d195271f845770aadf82094c16ea27e4", checked := Try.checked }
namespace Rows
def none {H : Type} : Left H := { results := [], args := [] }

/-- 'laws.FnApplyFail': WHATEVER THE INPUT: true; the input reads as it did. -/
def fnApplyFailSpec : ChangeSpec := { name := "fnApplyFail", fn := fun _ => fun
  | [d] => { results := [.lit (.bool true)], args := [d] }
  | _ => none }
def fnApplyFailRow : OpenClaim := { program := "ytpkhkmehpijngaa", sum := "39eb55af4640c5df065ecb224f6f4c04d195271f845770aadf82094c16ea27e4", func := "loop.example/flexquorum/laws.FnApplyFail", spec := "fnApplyFail", inPlace := ["internal/bytealg.IndexByteString", "internal/bytealg.IndexString"], unfollowed := true, recurses := true, named := ["internal/bytealg.MaxLen"], apart := false }
def FnApplyFailSaid : Prop := fnApplyFailRow.holds Try.pinned (OpenSpec.ofChange fnApplyFailSpec)

/-- ITS FALSE NEIGHBOUR: 'it returns false'. Refute it at one input. -/
def fnApplyFailWrong : ChangeSpec := { name := "fnApplyFail", fn := fun _ => fun
  | [d] => { results := [.lit (.bool false)], args := [d] }
  | _ => none }
def FnApplyFailWrongFalsely : Prop := fnApplyFailRow.holds Try.pinned (OpenSpec.ofChange fnApplyFailWrong)

/-- 'laws.FnApplyOverwrite': WHATEVER THE INPUT: true; the input reads as it did. -/
def fnApplyOverwriteSpec : ChangeSpec := { name := "fnApplyOverwrite", fn := fun _ => fun
  | [d1, d2] => { results := [.lit (.bool true)], args := [d1, d2] }
  | _ => none }
def fnApplyOverwriteRow : OpenClaim := { program := "ytpkhkmehpijngaa", sum := "39eb55af4640c5df065ecb224f6f4c04d195271f845770aadf82094c16ea27e4", func := "loop.example/flexquorum/laws.FnApplyOverwrite", spec := "fnApplyOverwrite", inPlace := ["internal/bytealg.IndexByteString", "internal/bytealg.IndexString"], unfollowed := true, recurses := true, named := ["internal/bytealg.MaxLen"], apart := false }
def FnApplyOverwriteSaid : Prop := fnApplyOverwriteRow.holds Try.pinned (OpenSpec.ofChange fnApplyOverwriteSpec)

/-- ITS FALSE NEIGHBOUR: 'it returns false'. Refute it at one input. -/
def fnApplyOverwriteWrong : ChangeSpec := { name := "fnApplyOverwrite", fn := fun _ => fun
  | [d1, d2] => { results := [.lit (.bool false)], args := [d1, d2] }
  | _ => none }
def FnApplyOverwriteWrongFalsely : Prop := fnApplyOverwriteRow.holds Try.pinned (OpenSpec.ofChange fnApplyOverwriteWrong)

/-- 'laws.FnApplyCommute': WHATEVER THE INPUT: true; the input reads as it did. -/
def fnApplyCommuteSpec : ChangeSpec := { name := "fnApplyCommute", fn := fun _ => fun
  | [d1, d2] => { results := [.lit (.bool true)], args := [d1, d2] }
  | _ => none }
def fnApplyCommuteRow : OpenClaim := { program := "ytpkhkmehpijngaa", sum := "39eb55af4640c5df065ecb224f6f4c04d195271f845770aadf82094c16ea27e4", func := "loop.example/flexquorum/laws.FnApplyCommute", spec := "fnApplyCommute", inPlace := ["internal/bytealg.IndexByteString", "internal/bytealg.IndexString"], unfollowed := true, recurses := true, named := ["internal/bytealg.MaxLen"], apart := false }
def FnApplyCommuteSaid : Prop := fnApplyCommuteRow.holds Try.pinned (OpenSpec.ofChange fnApplyCommuteSpec)

/-- ITS FALSE NEIGHBOUR: 'it returns false'. Refute it at one input. -/
def fnApplyCommuteWrong : ChangeSpec := { name := "fnApplyCommute", fn := fun _ => fun
  | [d1, d2] => { results := [.lit (.bool false)], args := [d1, d2] }
  | _ => none }
def FnApplyCommuteWrongFalsely : Prop := fnApplyCommuteRow.holds Try.pinned (OpenSpec.ofChange fnApplyCommuteWrong)

/-- 'laws.FnSwapTwice': WHATEVER THE INPUT: true; the input reads as it did. -/
def fnSwapTwiceSpec : ChangeSpec := { name := "fnSwapTwice", fn := fun _ => fun
  | [d] => { results := [.lit (.bool true)], args := [d] }
  | _ => none }
def fnSwapTwiceRow : OpenClaim := { program := "ytpkhkmehpijngaa", sum := "39eb55af4640c5df065ecb224f6f4c04d195271f845770aadf82094c16ea27e4", func := "loop.example/flexquorum/laws.FnSwapTwice", spec := "fnSwapTwice", inPlace := ["internal/bytealg.IndexByteString", "internal/bytealg.IndexString"], unfollowed := true, recurses := true, named := ["internal/bytealg.MaxLen"], apart := false }
def FnSwapTwiceSaid : Prop := fnSwapTwiceRow.holds Try.pinned (OpenSpec.ofChange fnSwapTwiceSpec)

/-- ITS FALSE NEIGHBOUR: 'it returns false'. Refute it at one input. -/
def fnSwapTwiceWrong : ChangeSpec := { name := "fnSwapTwice", fn := fun _ => fun
  | [d] => { results := [.lit (.bool false)], args := [d] }
  | _ => none }
def FnSwapTwiceWrongFalsely : Prop := fnSwapTwiceRow.holds Try.pinned (OpenSpec.ofChange fnSwapTwiceWrong)

/-- 'laws.FnApplySwap': WHATEVER THE INPUT: true; the input reads as it did. -/
def fnApplySwapSpec : ChangeSpec := { name := "fnApplySwap", fn := fun _ => fun
  | [d] => { results := [.lit (.bool true)], args := [d] }
  | _ => none }
def fnApplySwapRow : OpenClaim := { program := "ytpkhkmehpijngaa", sum := "39eb55af4640c5df065ecb224f6f4c04d195271f845770aadf82094c16ea27e4", func := "loop.example/flexquorum/laws.FnApplySwap", spec := "fnApplySwap", inPlace := ["internal/bytealg.IndexByteString", "internal/bytealg.IndexString"], unfollowed := true, recurses := true, named := ["internal/bytealg.MaxLen"], apart := false }
def FnApplySwapSaid : Prop := fnApplySwapRow.holds Try.pinned (OpenSpec.ofChange fnApplySwapSpec)

/-- ITS FALSE NEIGHBOUR: 'it returns false'. Refute it at one input. -/
def fnApplySwapWrong : ChangeSpec := { name := "fnApplySwap", fn := fun _ => fun
  | [d] => { results := [.lit (.bool false)], args := [d] }
  | _ => none }
def FnApplySwapWrongFalsely : Prop := fnApplySwapRow.holds Try.pinned (OpenSpec.ofChange fnApplySwapWrong)

/-- 'laws.FnApplySplit': WHATEVER THE INPUT: true; the input reads as it did. -/
def fnApplySplitSpec : ChangeSpec := { name := "fnApplySplit", fn := fun _ => fun
  | [d1, d2] => { results := [.lit (.bool true)], args := [d1, d2] }
  | _ => none }
def fnApplySplitRow : OpenClaim := { program := "ytpkhkmehpijngaa", sum := "39eb55af4640c5df065ecb224f6f4c04d195271f845770aadf82094c16ea27e4", func := "loop.example/flexquorum/laws.FnApplySplit", spec := "fnApplySplit", inPlace := ["internal/bytealg.IndexByteString", "internal/bytealg.IndexString"], unfollowed := true, recurses := true, named := ["internal/bytealg.MaxLen"], apart := false }
def FnApplySplitSaid : Prop := fnApplySplitRow.holds Try.pinned (OpenSpec.ofChange fnApplySplitSpec)

/-- ITS FALSE NEIGHBOUR: 'it returns false'. Refute it at one input. -/
def fnApplySplitWrong : ChangeSpec := { name := "fnApplySplit", fn := fun _ => fun
  | [d1, d2] => { results := [.lit (.bool false)], args := [d1, d2] }
  | _ => none }
def FnApplySplitWrongFalsely : Prop := fnApplySplitRow.holds Try.pinned (OpenSpec.ofChange fnApplySplitWrong)

/-- 'laws.FnApplyDelete': WHATEVER THE INPUT: true; the input reads as it did. -/
def fnApplyDeleteSpec : ChangeSpec := { name := "fnApplyDelete", fn := fun _ => fun
  | [d] => { results := [.lit (.bool true)], args := [d] }
  | _ => none }
def fnApplyDeleteRow : OpenClaim := { program := "ytpkhkmehpijngaa", sum := "39eb55af4640c5df065ecb224f6f4c04d195271f845770aadf82094c16ea27e4", func := "loop.example/flexquorum/laws.FnApplyDelete", spec := "fnApplyDelete", inPlace := ["internal/bytealg.IndexByteString", "internal/bytealg.IndexString"], unfollowed := true, recurses := true, named := ["internal/bytealg.MaxLen"], apart := false }
def FnApplyDeleteSaid : Prop := fnApplyDeleteRow.holds Try.pinned (OpenSpec.ofChange fnApplyDeleteSpec)

/-- ITS FALSE NEIGHBOUR: 'it returns false'. Refute it at one input. -/
def fnApplyDeleteWrong : ChangeSpec := { name := "fnApplyDelete", fn := fun _ => fun
  | [d] => { results := [.lit (.bool false)], args := [d] }
  | _ => none }
def FnApplyDeleteWrongFalsely : Prop := fnApplyDeleteRow.holds Try.pinned (OpenSpec.ofChange fnApplyDeleteWrong)

/-- 'laws.FnApplyAll': WHATEVER THE INPUT: true; the input reads as it did. -/
def fnApplyAllSpec : ChangeSpec := { name := "fnApplyAll", fn := fun _ => fun
  | [d] => { results := [.lit (.bool true)], args := [d] }
  | _ => none }
def fnApplyAllRow : OpenClaim := { program := "ytpkhkmehpijngaa", sum := "39eb55af4640c5df065ecb224f6f4c04d195271f845770aadf82094c16ea27e4", func := "loop.example/flexquorum/laws.FnApplyAll", spec := "fnApplyAll", inPlace := ["internal/bytealg.IndexByteString", "internal/bytealg.IndexString"], unfollowed := true, recurses := true, named := ["internal/bytealg.MaxLen"], apart := false }
def FnApplyAllSaid : Prop := fnApplyAllRow.holds Try.pinned (OpenSpec.ofChange fnApplyAllSpec)

/-- ITS FALSE NEIGHBOUR: 'it returns false'. Refute it at one input. -/
def fnApplyAllWrong : ChangeSpec := { name := "fnApplyAll", fn := fun _ => fun
  | [d] => { results := [.lit (.bool false)], args := [d] }
  | _ => none }
def FnApplyAllWrongFalsely : Prop := fnApplyAllRow.holds Try.pinned (OpenSpec.ofChange fnApplyAllWrong)

/-- 'laws.FnApplyPut': WHATEVER THE INPUT: true; the input reads as it did. -/
def fnApplyPutSpec : ChangeSpec := { name := "fnApplyPut", fn := fun _ => fun
  | [d] => { results := [.lit (.bool true)], args := [d] }
  | _ => none }
def fnApplyPutRow : OpenClaim := { program := "ytpkhkmehpijngaa", sum := "39eb55af4640c5df065ecb224f6f4c04d195271f845770aadf82094c16ea27e4", func := "loop.example/flexquorum/laws.FnApplyPut", spec := "fnApplyPut", inPlace := ["internal/bytealg.IndexByteString", "internal/bytealg.IndexString"], unfollowed := true, recurses := true, named := ["internal/bytealg.MaxLen"], apart := false }
def FnApplyPutSaid : Prop := fnApplyPutRow.holds Try.pinned (OpenSpec.ofChange fnApplyPutSpec)

/-- ITS FALSE NEIGHBOUR: 'it returns false'. Refute it at one input. -/
def fnApplyPutWrong : ChangeSpec := { name := "fnApplyPut", fn := fun _ => fun
  | [d] => { results := [.lit (.bool false)], args := [d] }
  | _ => none }
def FnApplyPutWrongFalsely : Prop := fnApplyPutRow.holds Try.pinned (OpenSpec.ofChange fnApplyPutWrong)

/-- 'laws.FnExactStoreApply': WHATEVER THE INPUT: true; the input reads as it did. -/
def fnExactStoreApplySpec : ChangeSpec := { name := "fnExactStoreApply", fn := fun _ => fun
  | [d1, d2] => { results := [.lit (.bool true)], args := [d1, d2] }
  | _ => none }
def fnExactStoreApplyRow : OpenClaim := { program := "ytpkhkmehpijngaa", sum := "39eb55af4640c5df065ecb224f6f4c04d195271f845770aadf82094c16ea27e4", func := "loop.example/flexquorum/laws.FnExactStoreApply", spec := "fnExactStoreApply", inPlace := ["internal/bytealg.IndexByteString", "internal/bytealg.IndexString"], unfollowed := true, recurses := true, named := ["internal/bytealg.MaxLen"], apart := false }
def FnExactStoreApplySaid : Prop := fnExactStoreApplyRow.holds Try.pinned (OpenSpec.ofChange fnExactStoreApplySpec)

/-- ITS FALSE NEIGHBOUR: 'it returns false'. Refute it at one input. -/
def fnExactStoreApplyWrong : ChangeSpec := { name := "fnExactStoreApply", fn := fun _ => fun
  | [d1, d2] => { results := [.lit (.bool false)], args := [d1, d2] }
  | _ => none }
def FnExactStoreApplyWrongFalsely : Prop := fnExactStoreApplyRow.holds Try.pinned (OpenSpec.ofChange fnExactStoreApplyWrong)

/-- 'laws.FnExactStoreApplyAll': WHATEVER THE INPUT: true; the input reads as it did. -/
def fnExactStoreApplyAllSpec : ChangeSpec := { name := "fnExactStoreApplyAll", fn := fun _ => fun
  | [d1, d2] => { results := [.lit (.bool true)], args := [d1, d2] }
  | _ => none }
def fnExactStoreApplyAllRow : OpenClaim := { program := "ytpkhkmehpijngaa", sum := "39eb55af4640c5df065ecb224f6f4c04d195271f845770aadf82094c16ea27e4", func := "loop.example/flexquorum/laws.FnExactStoreApplyAll", spec := "fnExactStoreApplyAll", inPlace := ["internal/bytealg.IndexByteString", "internal/bytealg.IndexString"], unfollowed := true, recurses := true, named := ["internal/bytealg.MaxLen"], apart := false }
def FnExactStoreApplyAllSaid : Prop := fnExactStoreApplyAllRow.holds Try.pinned (OpenSpec.ofChange fnExactStoreApplyAllSpec)

/-- ITS FALSE NEIGHBOUR: 'it returns false'. Refute it at one input. -/
def fnExactStoreApplyAllWrong : ChangeSpec := { name := "fnExactStoreApplyAll", fn := fun _ => fun
  | [d1, d2] => { results := [.lit (.bool false)], args := [d1, d2] }
  | _ => none }
def FnExactStoreApplyAllWrongFalsely : Prop := fnExactStoreApplyAllRow.holds Try.pinned (OpenSpec.ofChange fnExactStoreApplyAllWrong)

/- THE SECOND FORM. 'bulk': how many values and letters a reading holds, each counted each time it is reached (what is shared counts as often as it is met; a slice's spare places count too). A statement '..UptoSaid' is the law's where the arguments, and the package variables that the reading takes, are together of bulk at most 1048576: NARROWER than '..Said'. Prove '..Said' where nothing that the law and all that it calls make is longer than what came in: it says more and counts as full. Else prove '..UptoSaid'. A law counts once. -/
mutual
def uptoBulk {H : Type} : DataW H → Nat
  | .lit (.string bytes) => bytes.length + 1
  | .lit _ => 1
  | .nil => 1
  | .ptr d => uptoBulk d + 1
  | .slice elems spare => uptoBulkAll elems + uptoBulkAll spare + 1
  | .agg parts => uptoBulkAll parts + 1
  | .iface _ d => uptoBulk d + 1
  | .map entries => uptoBulkEntries entries + 1
  | .held _ => 1
def uptoBulkAll {H : Type} : List (DataW H) → Nat
  | [] => 0
  | d :: r => uptoBulk d + uptoBulkAll r
def uptoBulkEntries {H : Type} : List (Lit × DataW H) → Nat
  | [] => 0
  | x :: r => uptoBulkEntry x + uptoBulkEntries r
def uptoBulkEntry {H : Type} : Lit × DataW H → Nat
  | (.string bytes, d) => bytes.length + uptoBulk d + 1
  | (_, d) => uptoBulk d + 1
 end
def uptoSmall : (H : Type) → List (DataW H) → Bool := fun _ ds => decide (uptoBulkAll ds ≤ 1048576)
def OpenSpec.upto (s : _root_.Go.ChangeSpec) : _root_.Go.OpenSpec := { _root_.Go.OpenSpec.ofChange s with cond := some uptoSmall }

/-- 'laws.FnApplyFail', WHERE WHAT IT READS IS OF BULK AT MOST 1048576: true; the input reads as it did. -/
def fnApplyFailUptoRow : OpenClaim := { program := "ytpkhkmehpijngaa", sum := "39eb55af4640c5df065ecb224f6f4c04d195271f845770aadf82094c16ea27e4", func := "loop.example/flexquorum/laws.FnApplyFail", spec := "fnApplyFail", inPlace := ["internal/bytealg.IndexByteString", "internal/bytealg.IndexString"], unfollowed := true, recurses := true, named := ["internal/bytealg.MaxLen"], apart := false, narrowed := true }
def FnApplyFailUptoSaid : Prop := fnApplyFailUptoRow.holds Try.pinned (OpenSpec.upto fnApplyFailSpec)

/-- 'laws.FnApplyOverwrite', WHERE WHAT IT READS IS OF BULK AT MOST 1048576: true; the input reads as it did. -/
def fnApplyOverwriteUptoRow : OpenClaim := { program := "ytpkhkmehpijngaa", sum := "39eb55af4640c5df065ecb224f6f4c04d195271f845770aadf82094c16ea27e4", func := "loop.example/flexquorum/laws.FnApplyOverwrite", spec := "fnApplyOverwrite", inPlace := ["internal/bytealg.IndexByteString", "internal/bytealg.IndexString"], unfollowed := true, recurses := true, named := ["internal/bytealg.MaxLen"], apart := false, narrowed := true }
def FnApplyOverwriteUptoSaid : Prop := fnApplyOverwriteUptoRow.holds Try.pinned (OpenSpec.upto fnApplyOverwriteSpec)

/-- 'laws.FnApplyCommute', WHERE WHAT IT READS IS OF BULK AT MOST 1048576: true; the input reads as it did. -/
def fnApplyCommuteUptoRow : OpenClaim := { program := "ytpkhkmehpijngaa", sum := "39eb55af4640c5df065ecb224f6f4c04d195271f845770aadf82094c16ea27e4", func := "loop.example/flexquorum/laws.FnApplyCommute", spec := "fnApplyCommute", inPlace := ["internal/bytealg.IndexByteString", "internal/bytealg.IndexString"], unfollowed := true, recurses := true, named := ["internal/bytealg.MaxLen"], apart := false, narrowed := true }
def FnApplyCommuteUptoSaid : Prop := fnApplyCommuteUptoRow.holds Try.pinned (OpenSpec.upto fnApplyCommuteSpec)

/-- 'laws.FnSwapTwice', WHERE WHAT IT READS IS OF BULK AT MOST 1048576: true; the input reads as it did. -/
def fnSwapTwiceUptoRow : OpenClaim := { program := "ytpkhkmehpijngaa", sum := "39eb55af4640c5df065ecb224f6f4c04d195271f845770aadf82094c16ea27e4", func := "loop.example/flexquorum/laws.FnSwapTwice", spec := "fnSwapTwice", inPlace := ["internal/bytealg.IndexByteString", "internal/bytealg.IndexString"], unfollowed := true, recurses := true, named := ["internal/bytealg.MaxLen"], apart := false, narrowed := true }
def FnSwapTwiceUptoSaid : Prop := fnSwapTwiceUptoRow.holds Try.pinned (OpenSpec.upto fnSwapTwiceSpec)

/-- 'laws.FnApplySwap', WHERE WHAT IT READS IS OF BULK AT MOST 1048576: true; the input reads as it did. -/
def fnApplySwapUptoRow : OpenClaim := { program := "ytpkhkmehpijngaa", sum := "39eb55af4640c5df065ecb224f6f4c04d195271f845770aadf82094c16ea27e4", func := "loop.example/flexquorum/laws.FnApplySwap", spec := "fnApplySwap", inPlace := ["internal/bytealg.IndexByteString", "internal/bytealg.IndexString"], unfollowed := true, recurses := true, named := ["internal/bytealg.MaxLen"], apart := false, narrowed := true }
def FnApplySwapUptoSaid : Prop := fnApplySwapUptoRow.holds Try.pinned (OpenSpec.upto fnApplySwapSpec)

/-- 'laws.FnApplySplit', WHERE WHAT IT READS IS OF BULK AT MOST 1048576: true; the input reads as it did. -/
def fnApplySplitUptoRow : OpenClaim := { program := "ytpkhkmehpijngaa", sum := "39eb55af4640c5df065ecb224f6f4c04d195271f845770aadf82094c16ea27e4", func := "loop.example/flexquorum/laws.FnApplySplit", spec := "fnApplySplit", inPlace := ["internal/bytealg.IndexByteString", "internal/bytealg.IndexString"], unfollowed := true, recurses := true, named := ["internal/bytealg.MaxLen"], apart := false, narrowed := true }
def FnApplySplitUptoSaid : Prop := fnApplySplitUptoRow.holds Try.pinned (OpenSpec.upto fnApplySplitSpec)

/-- 'laws.FnApplyDelete', WHERE WHAT IT READS IS OF BULK AT MOST 1048576: true; the input reads as it did. -/
def fnApplyDeleteUptoRow : OpenClaim := { program := "ytpkhkmehpijngaa", sum := "39eb55af4640c5df065ecb224f6f4c04d195271f845770aadf82094c16ea27e4", func := "loop.example/flexquorum/laws.FnApplyDelete", spec := "fnApplyDelete", inPlace := ["internal/bytealg.IndexByteString", "internal/bytealg.IndexString"], unfollowed := true, recurses := true, named := ["internal/bytealg.MaxLen"], apart := false, narrowed := true }
def FnApplyDeleteUptoSaid : Prop := fnApplyDeleteUptoRow.holds Try.pinned (OpenSpec.upto fnApplyDeleteSpec)

/-- 'laws.FnApplyAll', WHERE WHAT IT READS IS OF BULK AT MOST 1048576: true; the input reads as it did. -/
def fnApplyAllUptoRow : OpenClaim := { program := "ytpkhkmehpijngaa", sum := "39eb55af4640c5df065ecb224f6f4c04d195271f845770aadf82094c16ea27e4", func := "loop.example/flexquorum/laws.FnApplyAll", spec := "fnApplyAll", inPlace := ["internal/bytealg.IndexByteString", "internal/bytealg.IndexString"], unfollowed := true, recurses := true, named := ["internal/bytealg.MaxLen"], apart := false, narrowed := true }
def FnApplyAllUptoSaid : Prop := fnApplyAllUptoRow.holds Try.pinned (OpenSpec.upto fnApplyAllSpec)

/-- 'laws.FnApplyPut', WHERE WHAT IT READS IS OF BULK AT MOST 1048576: true; the input reads as it did. -/
def fnApplyPutUptoRow : OpenClaim := { program := "ytpkhkmehpijngaa", sum := "39eb55af4640c5df065ecb224f6f4c04d195271f845770aadf82094c16ea27e4", func := "loop.example/flexquorum/laws.FnApplyPut", spec := "fnApplyPut", inPlace := ["internal/bytealg.IndexByteString", "internal/bytealg.IndexString"], unfollowed := true, recurses := true, named := ["internal/bytealg.MaxLen"], apart := false, narrowed := true }
def FnApplyPutUptoSaid : Prop := fnApplyPutUptoRow.holds Try.pinned (OpenSpec.upto fnApplyPutSpec)

/-- 'laws.FnExactStoreApply', WHERE WHAT IT READS IS OF BULK AT MOST 1048576: true; the input reads as it did. -/
def fnExactStoreApplyUptoRow : OpenClaim := { program := "ytpkhkmehpijngaa", sum := "39eb55af4640c5df065ecb224f6f4c04d195271f845770aadf82094c16ea27e4", func := "loop.example/flexquorum/laws.FnExactStoreApply", spec := "fnExactStoreApply", inPlace := ["internal/bytealg.IndexByteString", "internal/bytealg.IndexString"], unfollowed := true, recurses := true, named := ["internal/bytealg.MaxLen"], apart := false, narrowed := true }
def FnExactStoreApplyUptoSaid : Prop := fnExactStoreApplyUptoRow.holds Try.pinned (OpenSpec.upto fnExactStoreApplySpec)

/-- 'laws.FnExactStoreApplyAll', WHERE WHAT IT READS IS OF BULK AT MOST 1048576: true; the input reads as it did. -/
def fnExactStoreApplyAllUptoRow : OpenClaim := { program := "ytpkhkmehpijngaa", sum := "39eb55af4640c5df065ecb224f6f4c04d195271f845770aadf82094c16ea27e4", func := "loop.example/flexquorum/laws.FnExactStoreApplyAll", spec := "fnExactStoreApplyAll", inPlace := ["internal/bytealg.IndexByteString", "internal/bytealg.IndexString"], unfollowed := true, recurses := true, named := ["internal/bytealg.MaxLen"], apart := false, narrowed := true }
def FnExactStoreApplyAllUptoSaid : Prop := fnExactStoreApplyAllUptoRow.holds Try.pinned (OpenSpec.upto fnExactStoreApplyAllSpec)

end Rows
end Go.Proofs.Ytpkhkmehpijngaa
