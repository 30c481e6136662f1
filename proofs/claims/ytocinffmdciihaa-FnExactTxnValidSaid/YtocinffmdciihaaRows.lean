/-
  No cell of these rows narrows 'for every input' (looked for: loops, veiled, ifaces, maps, wideKeys, modest, calm, conditions, laid).
  DERIVED. THE GIVEN ROWS OF THIS SEAT. 4 by the template 'for every input the law returns true; each argument reads behind the call as it read before'; 0 by the template 'total and deterministic' (their statements: YtocinffmdciihaaTotals.lean).
  GIVEN WITH THE SEED: the statements are not yours to turn. If you find one false, say at which input.
  Laid BY PROGRAM, IN A SANDBOX (cutbox-rows.mjs): the forced cells as the released guide's own fill.sh prints them over the translation 5baab28dde461bf8… (all of the seat's roots in one cut). By AI agents, Wed Nov 11 2026. No macro, syntax, notation, axiom, sorry.
-/
import Derived.Test.YtocinffmdciihaaChecked
import GoSem.Claim
import GoSem.ClaimJoined
import GoSem.ClaimMapViews
import Derived.JoinedTies
import Derived.KernelRfl
namespace Go.Proofs.Ytocinffmdciihaa
/- THE CELL 'sum', in the pinned program and in every row, IS THE sha256 OF THE DUMP (.gsa) THAT YtocinffmdciihaaProg.lean LOADS. Nothing in Lean hashes anything: it is a label: what it is worth is what the hold of that sum in a sandbox is worth. -/
noncomputable def Try.pinned : Pinned := { name := "ytocinffmdciihaa", sum := "5baab28dde461bf891078b94f5d5e10cbeba1b98bc5948d9e0a618bfeece5225", checked := Try.checked }
namespace Rows
def none {H : Type} : Left H := { results := [], args := [] }

/-- 'laws.FnTxnValid': WHATEVER THE INPUT: true; the input reads as it did. -/
def fnTxnValidSpec : ChangeSpec := { name := "fnTxnValid", fn := fun _ => fun
  | [d] => { results := [.lit (.bool true)], args := [d] }
  | _ => none }
def fnTxnValidRow : OpenClaim := { program := "ytocinffmdciihaa", sum := "5baab28dde461bf891078b94f5d5e10cbeba1b98bc5948d9e0a618bfeece5225", func := "loop.example/flexquorum/laws.FnTxnValid", spec := "fnTxnValid", unfollowed := true, recurses := true, apart := false }
def FnTxnValidSaid : Prop := fnTxnValidRow.holds Try.pinned (OpenSpec.ofChange fnTxnValidSpec)

/-- ITS FALSE NEIGHBOUR: 'it returns false'. Refute it at one input. -/
def fnTxnValidWrong : ChangeSpec := { name := "fnTxnValid", fn := fun _ => fun
  | [d] => { results := [.lit (.bool false)], args := [d] }
  | _ => none }
def FnTxnValidWrongFalsely : Prop := fnTxnValidRow.holds Try.pinned (OpenSpec.ofChange fnTxnValidWrong)

/-- 'laws.FnExactTxnValid': WHATEVER THE INPUT: true; the input reads as it did. -/
def fnExactTxnValidSpec : ChangeSpec := { name := "fnExactTxnValid", fn := fun _ => fun
  | [d] => { results := [.lit (.bool true)], args := [d] }
  | _ => none }
def fnExactTxnValidRow : OpenClaim := { program := "ytocinffmdciihaa", sum := "5baab28dde461bf891078b94f5d5e10cbeba1b98bc5948d9e0a618bfeece5225", func := "loop.example/flexquorum/laws.FnExactTxnValid", spec := "fnExactTxnValid", unfollowed := true, recurses := true, apart := false }
def FnExactTxnValidSaid : Prop := fnExactTxnValidRow.holds Try.pinned (OpenSpec.ofChange fnExactTxnValidSpec)

/-- ITS FALSE NEIGHBOUR: 'it returns false'. Refute it at one input. -/
def fnExactTxnValidWrong : ChangeSpec := { name := "fnExactTxnValid", fn := fun _ => fun
  | [d] => { results := [.lit (.bool false)], args := [d] }
  | _ => none }
def FnExactTxnValidWrongFalsely : Prop := fnExactTxnValidRow.holds Try.pinned (OpenSpec.ofChange fnExactTxnValidWrong)

/-- 'laws.FnTxnStatus': WHATEVER THE INPUT: true; the input reads as it did. -/
def fnTxnStatusSpec : ChangeSpec := { name := "fnTxnStatus", fn := fun _ => fun
  | [d] => { results := [.lit (.bool true)], args := [d] }
  | _ => none }
def fnTxnStatusRow : OpenClaim := { program := "ytocinffmdciihaa", sum := "5baab28dde461bf891078b94f5d5e10cbeba1b98bc5948d9e0a618bfeece5225", func := "loop.example/flexquorum/laws.FnTxnStatus", spec := "fnTxnStatus", unfollowed := true, recurses := true, apart := false }
def FnTxnStatusSaid : Prop := fnTxnStatusRow.holds Try.pinned (OpenSpec.ofChange fnTxnStatusSpec)

/-- ITS FALSE NEIGHBOUR: 'it returns false'. Refute it at one input. -/
def fnTxnStatusWrong : ChangeSpec := { name := "fnTxnStatus", fn := fun _ => fun
  | [d] => { results := [.lit (.bool false)], args := [d] }
  | _ => none }
def FnTxnStatusWrongFalsely : Prop := fnTxnStatusRow.holds Try.pinned (OpenSpec.ofChange fnTxnStatusWrong)

/-- 'laws.FnExactTxnStatus': WHATEVER THE INPUT: true; the input reads as it did. -/
def fnExactTxnStatusSpec : ChangeSpec := { name := "fnExactTxnStatus", fn := fun _ => fun
  | [d] => { results := [.lit (.bool true)], args := [d] }
  | _ => none }
def fnExactTxnStatusRow : OpenClaim := { program := "ytocinffmdciihaa", sum := "5baab28dde461bf891078b94f5d5e10cbeba1b98bc5948d9e0a618bfeece5225", func := "loop.example/flexquorum/laws.FnExactTxnStatus", spec := "fnExactTxnStatus", unfollowed := true, recurses := true, apart := false }
def FnExactTxnStatusSaid : Prop := fnExactTxnStatusRow.holds Try.pinned (OpenSpec.ofChange fnExactTxnStatusSpec)

/-- ITS FALSE NEIGHBOUR: 'it returns false'. Refute it at one input. -/
def fnExactTxnStatusWrong : ChangeSpec := { name := "fnExactTxnStatus", fn := fun _ => fun
  | [d] => { results := [.lit (.bool false)], args := [d] }
  | _ => none }
def FnExactTxnStatusWrongFalsely : Prop := fnExactTxnStatusRow.holds Try.pinned (OpenSpec.ofChange fnExactTxnStatusWrong)

/- THE SECOND FORM. 'bulk': how many values and letters a reading holds, each counted each time it is reached (what is shared counts as often as it is met; a slice's spare places count too). A statement '..UptoSaid' is the law's where the arguments, and the package variables that the reading takes, are together of bulk at most 1048576: NARROWER than '..Said'. Prove '..Said' where nothing that the law and all that it calls make is longer than what came in: it says more and counts as full. Else prove '..UptoSaid'. A law counts once. -/
mutual
def uptoBulk {H : Type} : DataW H → Nat
  | .lit (.string bytes) => bytes.length + 1
  | .lit _ => 1
  | .nil => 1
  | .ptr d => uptoBulk d + 1
  | .slice elems spare => uptoBulkAll elems + uptoBulkAll spare + 1
  | .agg parts => uptoBulkAll parts + 1
  | .iface _ d => uptoBulk d + 1
  | .map entries => uptoBulkEntries entries + 1
  | .held _ => 1
def uptoBulkAll {H : Type} : List (DataW H) → Nat
  | [] => 0
  | d :: r => uptoBulk d + uptoBulkAll r
def uptoBulkEntries {H : Type} : List (Lit × DataW H) → Nat
  | [] => 0
  | x :: r => uptoBulkEntry x + uptoBulkEntries r
def uptoBulkEntry {H : Type} : Lit × DataW H → Nat
  | (.string bytes, d) => bytes.length + uptoBulk d + 1
  | (_, d) => uptoBulk d + 1
 end
def uptoSmall : (H : Type) → List (DataW H) → Bool := fun _ ds => decide (uptoBulkAll ds ≤ 1048576)
def OpenSpec.upto (s : _root_.Go.ChangeSpec) : _root_.Go.OpenSpec := { _root_.Go.OpenSpec.ofChange s with cond := some uptoSmall }

/-- 'laws.FnTxnValid', WHERE WHAT IT READS IS OF BULK AT MOST 1048576: true; the input reads as it did. -/
def fnTxnValidUptoRow : OpenClaim := { program := "ytocinffmdciihaa", sum := "5baab28dde461bf891078b94f5d5e10cbeba1b98bc5948d9e0a618bfeece5225", func := "loop.example/flexquorum/laws.FnTxnValid", spec := "fnTxnValid", unfollowed := true, recurses := true, apart := false, narrowed := true }
def FnTxnValidUptoSaid : Prop := fnTxnValidUptoRow.holds Try.pinned (OpenSpec.upto fnTxnValidSpec)

/-- 'laws.FnExactTxnValid', WHERE WHAT IT READS IS OF BULK AT MOST 1048576: true; the input reads as it did. -/
def fnExactTxnValidUptoRow : OpenClaim := { program := "ytocinffmdciihaa", sum := "5baab28dde461bf891078b94f5d5e10cbeba1b98bc5948d9e0a618bfeece5225", func := "loop.example/flexquorum/laws.FnExactTxnValid", spec := "fnExactTxnValid", unfollowed := true, recurses := true, apart := false, narrowed := true }
def FnExactTxnValidUptoSaid : Prop := fnExactTxnValidUptoRow.holds Try.pinned (OpenSpec.upto fnExactTxnValidSpec)

/-- 'laws.FnTxnStatus', WHERE WHAT IT READS IS OF BULK AT MOST 1048576: true; the input reads as it did. -/
def fnTxnStatusUptoRow : OpenClaim := { program := "ytocinffmdciihaa", sum := "5baab28dde461bf891078b94f5d5e10cbeba1b98bc5948d9e0a618bfeece5225", func := "loop.example/flexquorum/laws.FnTxnStatus", spec := "fnTxnStatus", unfollowed := true, recurses := true, apart := false, narrowed := true }
def FnTxnStatusUptoSaid : Prop := fnTxnStatusUptoRow.holds Try.pinned (OpenSpec.upto fnTxnStatusSpec)

/-- 'laws.FnExactTxnStatus', WHERE WHAT IT READS IS OF BULK AT MOST 1048576: true; the input reads as it did. -/
def fnExactTxnStatusUptoRow : OpenClaim := { program := "ytocinffmdciihaa", sum := "5baab28dde461bf891078b94f5d5e10cbeba1b98bc5948d9e0a618bfeece5225", func := "loop.example/flexquorum/laws.FnExactTxnStatus", spec := "fnExactTxnStatus", unfollowed := true, recurses := true, apart := false, narrowed := true }
def FnExactTxnStatusUptoSaid : Prop := fnExactTxnStatusUptoRow.holds Try.pinned (OpenSpec.upto fnExactTxnStatusSpec)

end Rows
end Go.Proofs.Ytocinffmdciihaa
