/-
  No cell of these rows narrows 'for every input' (looked for: loops, veiled, ifaces, maps, wideKeys, modest, calm, conditions, laid).
  DERIVED. THE GIVEN ROWS OF THIS SEAT. 7 by the template 'for every input the law returns true; each argument reads behind the call as it read before'; 0 by the template 'total and deterministic' (their statements: YthehnpkjnilgiaaTotals.lean).
  GIVEN WITH THE SEED: the statements are not yours to turn. If you find one false, say at which input.
  Laid BY PROGRAM, IN A SANDBOX (cutbox-rows.mjs): the forced cells as the released guide's own fill.sh prints them over the translation e302ab670c7942c0… (all of the seat's roots in one cut). By AI agents, Wed Nov 11 2026. No macro, syntax, notation, axiom, sorry.
-/
import Derived.Test.YthehnpkjnilgiaaChecked
import GoSem.Claim
import GoSem.ClaimJoined
import GoSem.ClaimMapViews
import Derived.JoinedTies
import Derived.KernelRfl
namespace Go.Proofs.Ythehnpkjnilgiaa
/- THE CELL 'sum', in the pinned program and in every row, IS THE sha256 OF THE DUMP (.gsa) THAT YthehnpkjnilgiaaProg.lean LOADS. Nothing in Lean hashes anything: it is a label: what it is worth is what the hold of that sum in a sandbox is worth. -/
noncomputable def Try.pinned : Pinned := { name := "ythehnpkjnilgiaa", sum := "e302ab670c7942c0444061d910c3775f3fb4287a68a51d090a692b96a842e6ae", checked := Try.checked }
namespace Rows
def none {H : Type} : Left H := { results := [], args := [] }

/-- 'laws.FnLogConfigStable': WHATEVER THE INPUT: true; the input reads as it did. -/
def fnLogConfigStableSpec : ChangeSpec := { name := "fnLogConfigStable", fn := fun _ => fun
  | [d1, d2] => { results := [.lit (.bool true)], args := [d1, d2] }
  | _ => none }
def fnLogConfigStableRow : OpenClaim := { program := "ythehnpkjnilgiaa", sum := "e302ab670c7942c0444061d910c3775f3fb4287a68a51d090a692b96a842e6ae", func := "loop.example/flexquorum/laws.FnLogConfigStable", spec := "fnLogConfigStable", apart := false }
def FnLogConfigStableSaid : Prop := fnLogConfigStableRow.holds Try.pinned (OpenSpec.ofChange fnLogConfigStableSpec)

/-- ITS FALSE NEIGHBOUR: 'it returns false'. Refute it at one input. -/
def fnLogConfigStableWrong : ChangeSpec := { name := "fnLogConfigStable", fn := fun _ => fun
  | [d1, d2] => { results := [.lit (.bool false)], args := [d1, d2] }
  | _ => none }
def FnLogConfigStableWrongFalsely : Prop := fnLogConfigStableRow.holds Try.pinned (OpenSpec.ofChange fnLogConfigStableWrong)

/-- 'laws.FnExactLogAppend': WHATEVER THE INPUT: true; the input reads as it did. -/
def fnExactLogAppendSpec : ChangeSpec := { name := "fnExactLogAppend", fn := fun _ => fun
  | [d1, d2, d3] => { results := [.lit (.bool true)], args := [d1, d2, d3] }
  | _ => none }
def fnExactLogAppendRow : OpenClaim := { program := "ythehnpkjnilgiaa", sum := "e302ab670c7942c0444061d910c3775f3fb4287a68a51d090a692b96a842e6ae", func := "loop.example/flexquorum/laws.FnExactLogAppend", spec := "fnExactLogAppend", apart := false }
def FnExactLogAppendSaid : Prop := fnExactLogAppendRow.holds Try.pinned (OpenSpec.ofChange fnExactLogAppendSpec)

/-- ITS FALSE NEIGHBOUR: 'it returns false'. Refute it at one input. -/
def fnExactLogAppendWrong : ChangeSpec := { name := "fnExactLogAppend", fn := fun _ => fun
  | [d1, d2, d3] => { results := [.lit (.bool false)], args := [d1, d2, d3] }
  | _ => none }
def FnExactLogAppendWrongFalsely : Prop := fnExactLogAppendRow.holds Try.pinned (OpenSpec.ofChange fnExactLogAppendWrong)

/-- 'laws.FnLogOpen': WHATEVER THE INPUT: true; the input reads as it did. -/
def fnLogOpenSpec : ChangeSpec := { name := "fnLogOpen", fn := fun _ => fun
  | [d] => { results := [.lit (.bool true)], args := [d] }
  | _ => none }
def fnLogOpenRow : OpenClaim := { program := "ythehnpkjnilgiaa", sum := "e302ab670c7942c0444061d910c3775f3fb4287a68a51d090a692b96a842e6ae", func := "loop.example/flexquorum/laws.FnLogOpen", spec := "fnLogOpen", apart := false }
def FnLogOpenSaid : Prop := fnLogOpenRow.holds Try.pinned (OpenSpec.ofChange fnLogOpenSpec)

/-- ITS FALSE NEIGHBOUR: 'it returns false'. Refute it at one input. -/
def fnLogOpenWrong : ChangeSpec := { name := "fnLogOpen", fn := fun _ => fun
  | [d] => { results := [.lit (.bool false)], args := [d] }
  | _ => none }
def FnLogOpenWrongFalsely : Prop := fnLogOpenRow.holds Try.pinned (OpenSpec.ofChange fnLogOpenWrong)

/-- 'laws.FnExactLogValues': WHATEVER THE INPUT: true; the input reads as it did. -/
def fnExactLogValuesSpec : ChangeSpec := { name := "fnExactLogValues", fn := fun _ => fun
  | [d1, d2] => { results := [.lit (.bool true)], args := [d1, d2] }
  | _ => none }
def fnExactLogValuesRow : OpenClaim := { program := "ythehnpkjnilgiaa", sum := "e302ab670c7942c0444061d910c3775f3fb4287a68a51d090a692b96a842e6ae", func := "loop.example/flexquorum/laws.FnExactLogValues", spec := "fnExactLogValues", apart := false }
def FnExactLogValuesSaid : Prop := fnExactLogValuesRow.holds Try.pinned (OpenSpec.ofChange fnExactLogValuesSpec)

/-- ITS FALSE NEIGHBOUR: 'it returns false'. Refute it at one input. -/
def fnExactLogValuesWrong : ChangeSpec := { name := "fnExactLogValues", fn := fun _ => fun
  | [d1, d2] => { results := [.lit (.bool false)], args := [d1, d2] }
  | _ => none }
def FnExactLogValuesWrongFalsely : Prop := fnExactLogValuesRow.holds Try.pinned (OpenSpec.ofChange fnExactLogValuesWrong)

/-- 'laws.FnLogOpenShift': WHATEVER THE INPUT: true; the input reads as it did. -/
def fnLogOpenShiftSpec : ChangeSpec := { name := "fnLogOpenShift", fn := fun _ => fun
  | [d1, d2] => { results := [.lit (.bool true)], args := [d1, d2] }
  | _ => none }
def fnLogOpenShiftRow : OpenClaim := { program := "ythehnpkjnilgiaa", sum := "e302ab670c7942c0444061d910c3775f3fb4287a68a51d090a692b96a842e6ae", func := "loop.example/flexquorum/laws.FnLogOpenShift", spec := "fnLogOpenShift", apart := false }
def FnLogOpenShiftSaid : Prop := fnLogOpenShiftRow.holds Try.pinned (OpenSpec.ofChange fnLogOpenShiftSpec)

/-- ITS FALSE NEIGHBOUR: 'it returns false'. Refute it at one input. -/
def fnLogOpenShiftWrong : ChangeSpec := { name := "fnLogOpenShift", fn := fun _ => fun
  | [d1, d2] => { results := [.lit (.bool false)], args := [d1, d2] }
  | _ => none }
def FnLogOpenShiftWrongFalsely : Prop := fnLogOpenShiftRow.holds Try.pinned (OpenSpec.ofChange fnLogOpenShiftWrong)

/-- 'laws.FnLogValuesAppend': WHATEVER THE INPUT: true; the input reads as it did. -/
def fnLogValuesAppendSpec : ChangeSpec := { name := "fnLogValuesAppend", fn := fun _ => fun
  | [d] => { results := [.lit (.bool true)], args := [d] }
  | _ => none }
def fnLogValuesAppendRow : OpenClaim := { program := "ythehnpkjnilgiaa", sum := "e302ab670c7942c0444061d910c3775f3fb4287a68a51d090a692b96a842e6ae", func := "loop.example/flexquorum/laws.FnLogValuesAppend", spec := "fnLogValuesAppend", apart := false }
def FnLogValuesAppendSaid : Prop := fnLogValuesAppendRow.holds Try.pinned (OpenSpec.ofChange fnLogValuesAppendSpec)

/-- ITS FALSE NEIGHBOUR: 'it returns false'. Refute it at one input. -/
def fnLogValuesAppendWrong : ChangeSpec := { name := "fnLogValuesAppend", fn := fun _ => fun
  | [d] => { results := [.lit (.bool false)], args := [d] }
  | _ => none }
def FnLogValuesAppendWrongFalsely : Prop := fnLogValuesAppendRow.holds Try.pinned (OpenSpec.ofChange fnLogValuesAppendWrong)

/-- 'laws.FnExactLogOpen': WHATEVER THE INPUT: true; the input reads as it did. -/
def fnExactLogOpenSpec : ChangeSpec := { name := "fnExactLogOpen", fn := fun _ => fun
  | [d1, d2] => { results := [.lit (.bool true)], args := [d1, d2] }
  | _ => none }
def fnExactLogOpenRow : OpenClaim := { program := "ythehnpkjnilgiaa", sum := "e302ab670c7942c0444061d910c3775f3fb4287a68a51d090a692b96a842e6ae", func := "loop.example/flexquorum/laws.FnExactLogOpen", spec := "fnExactLogOpen", apart := false }
def FnExactLogOpenSaid : Prop := fnExactLogOpenRow.holds Try.pinned (OpenSpec.ofChange fnExactLogOpenSpec)

/-- ITS FALSE NEIGHBOUR: 'it returns false'. Refute it at one input. -/
def fnExactLogOpenWrong : ChangeSpec := { name := "fnExactLogOpen", fn := fun _ => fun
  | [d1, d2] => { results := [.lit (.bool false)], args := [d1, d2] }
  | _ => none }
def FnExactLogOpenWrongFalsely : Prop := fnExactLogOpenRow.holds Try.pinned (OpenSpec.ofChange fnExactLogOpenWrong)

/- THE SECOND FORM. 'bulk': how many values and letters a reading holds, each counted each time it is reached (what is shared counts as often as it is met; a slice's spare places count too). A statement '..UptoSaid' is the law's where the arguments, and the package variables that the reading takes, are together of bulk at most 1048576: NARROWER than '..Said'. Prove '..Said' where nothing that the law and all that it calls make is longer than what came in: it says more and counts as full. Else prove '..UptoSaid'. A law counts once. -/
mutual
def uptoBulk {H : Type} : DataW H → Nat
  | .lit (.string bytes) => bytes.length + 1
  | .lit _ => 1
  | .nil => 1
  | .ptr d => uptoBulk d + 1
  | .slice elems spare => uptoBulkAll elems + uptoBulkAll spare + 1
  | .agg parts => uptoBulkAll parts + 1
  | .iface _ d => uptoBulk d + 1
  | .map entries => uptoBulkEntries entries + 1
  | .held _ => 1
def uptoBulkAll {H : Type} : List (DataW H) → Nat
  | [] => 0
  | d :: r => uptoBulk d + uptoBulkAll r
def uptoBulkEntries {H : Type} : List (Lit × DataW H) → Nat
  | [] => 0
  | x :: r => uptoBulkEntry x + uptoBulkEntries r
def uptoBulkEntry {H : Type} : Lit × DataW H → Nat
  | (.string bytes, d) => bytes.length + uptoBulk d + 1
  | (_, d) => uptoBulk d + 1
 end
def uptoSmall : (H : Type) → List (DataW H) → Bool := fun _ ds => decide (uptoBulkAll ds ≤ 1048576)
def OpenSpec.upto (s : _root_.Go.ChangeSpec) : _root_.Go.OpenSpec := { _root_.Go.OpenSpec.ofChange s with cond := some uptoSmall }

/-- 'laws.FnLogConfigStable', WHERE WHAT IT READS IS OF BULK AT MOST 1048576: true; the input reads as it did. -/
def fnLogConfigStableUptoRow : OpenClaim := { program := "ythehnpkjnilgiaa", sum := "e302ab670c7942c0444061d910c3775f3fb4287a68a51d090a692b96a842e6ae", func := "loop.example/flexquorum/laws.FnLogConfigStable", spec := "fnLogConfigStable", apart := false, narrowed := true }
def FnLogConfigStableUptoSaid : Prop := fnLogConfigStableUptoRow.holds Try.pinned (OpenSpec.upto fnLogConfigStableSpec)

/-- 'laws.FnExactLogAppend', WHERE WHAT IT READS IS OF BULK AT MOST 1048576: true; the input reads as it did. -/
def fnExactLogAppendUptoRow : OpenClaim := { program := "ythehnpkjnilgiaa", sum := "e302ab670c7942c0444061d910c3775f3fb4287a68a51d090a692b96a842e6ae", func := "loop.example/flexquorum/laws.FnExactLogAppend", spec := "fnExactLogAppend", apart := false, narrowed := true }
def FnExactLogAppendUptoSaid : Prop := fnExactLogAppendUptoRow.holds Try.pinned (OpenSpec.upto fnExactLogAppendSpec)

/-- 'laws.FnLogOpen', WHERE WHAT IT READS IS OF BULK AT MOST 1048576: true; the input reads as it did. -/
def fnLogOpenUptoRow : OpenClaim := { program := "ythehnpkjnilgiaa", sum := "e302ab670c7942c0444061d910c3775f3fb4287a68a51d090a692b96a842e6ae", func := "loop.example/flexquorum/laws.FnLogOpen", spec := "fnLogOpen", apart := false, narrowed := true }
def FnLogOpenUptoSaid : Prop := fnLogOpenUptoRow.holds Try.pinned (OpenSpec.upto fnLogOpenSpec)

/-- 'laws.FnExactLogValues', WHERE WHAT IT READS IS OF BULK AT MOST 1048576: true; the input reads as it did. -/
def fnExactLogValuesUptoRow : OpenClaim := { program := "ythehnpkjnilgiaa", sum := "e302ab670c7942c0444061d910c3775f3fb4287a68a51d090a692b96a842e6ae", func := "loop.example/flexquorum/laws.FnExactLogValues", spec := "fnExactLogValues", apart := false, narrowed := true }
def FnExactLogValuesUptoSaid : Prop := fnExactLogValuesUptoRow.holds Try.pinned (OpenSpec.upto fnExactLogValuesSpec)

/-- 'laws.FnLogOpenShift', WHERE WHAT IT READS IS OF BULK AT MOST 1048576: true; the input reads as it did. -/
def fnLogOpenShiftUptoRow : OpenClaim := { program := "ythehnpkjnilgiaa", sum := "e302ab670c7942c0444061d910c3775f3fb4287a68a51d090a692b96a842e6ae", func := "loop.example/flexquorum/laws.FnLogOpenShift", spec := "fnLogOpenShift", apart := false, narrowed := true }
def FnLogOpenShiftUptoSaid : Prop := fnLogOpenShiftUptoRow.holds Try.pinned (OpenSpec.upto fnLogOpenShiftSpec)

/-- 'laws.FnLogValuesAppend', WHERE WHAT IT READS IS OF BULK AT MOST 1048576: true; the input reads as it did. -/
def fnLogValuesAppendUptoRow : OpenClaim := { program := "ythehnpkjnilgiaa", sum := "e302ab670c7942c0444061d910c3775f3fb4287a68a51d090a692b96a842e6ae", func := "loop.example/flexquorum/laws.FnLogValuesAppend", spec := "fnLogValuesAppend", apart := false, narrowed := true }
def FnLogValuesAppendUptoSaid : Prop := fnLogValuesAppendUptoRow.holds Try.pinned (OpenSpec.upto fnLogValuesAppendSpec)

/-- 'laws.FnExactLogOpen', WHERE WHAT IT READS IS OF BULK AT MOST 1048576: true; the input reads as it did. -/
def fnExactLogOpenUptoRow : OpenClaim := { program := "ythehnpkjnilgiaa", sum := "e302ab670c7942c0444061d910c3775f3fb4287a68a51d090a692b96a842e6ae", func := "loop.example/flexquorum/laws.FnExactLogOpen", spec := "fnExactLogOpen", apart := false, narrowed := true }
def FnExactLogOpenUptoSaid : Prop := fnExactLogOpenUptoRow.holds Try.pinned (OpenSpec.upto fnExactLogOpenSpec)

end Rows
end Go.Proofs.Ythehnpkjnilgiaa
