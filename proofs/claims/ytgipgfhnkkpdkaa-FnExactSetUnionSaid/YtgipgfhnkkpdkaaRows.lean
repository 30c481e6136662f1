/-
  No cell of these rows narrows 'for every input' (looked for: loops, veiled, ifaces, maps, wideKeys, modest, calm, conditions, laid).
  DERIVED. THE GIVEN ROWS OF THIS SEAT. 17 by the template 'for every input the law returns true; each argument reads behind the call as it read before'; 0 by the template 'total and deterministic' (their statements: YtgipgfhnkkpdkaaTotals.lean).
  GIVEN WITH THE SEED: the statements are not yours to turn. If you find one false, say at which input.
  Laid BY PROGRAM, IN A SANDBOX (cutbox-rows.mjs): the forced cells as the released guide's own fill.sh prints them over the translation 1fab9863e6feba0f… (all of the seat's roots in one cut). By AI agents, Wed Nov 11 2026. No macro, syntax, notation, axiom, sorry.
-/
import Derived.Test.YtgipgfhnkkpdkaaChecked
import GoSem.Claim
import GoSem.ClaimJoined
import GoSem.ClaimMapViews
import Derived.JoinedTies
import Derived.KernelRfl
namespace Go.Proofs.Ytgipgfhnkkpdkaa
/- THE CELL 'sum', in the pinned program and in every row, IS THE sha256 OF THE DUMP (.gsa) THAT YtgipgfhnkkpdkaaProg.lean LOADS. Nothing in Lean hashes anything: it is a label: what it is worth is what the hold of that sum in a sandbox is worth. -/
noncomputable def Try.pinned : Pinned := { name := "ytgipgfhnkkpdkaa", sum := "1fab9863e6feba0fada32c131e7b15fa4938138200c4b147ee44905b2b0d74a7", checked := Try.checked }
namespace Rows
def none {H : Type} : Left H := { results := [], args := [] }

/-- 'laws.FnExactCommandOfValue': WHATEVER THE INPUT: true; the input reads as it did. -/
def fnExactCommandOfValueSpec : ChangeSpec := { name := "fnExactCommandOfValue", fn := fun _ => fun
  | [d] => { results := [.lit (.bool true)], args := [d] }
  | _ => none }
def fnExactCommandOfValueRow : OpenClaim := { program := "ytgipgfhnkkpdkaa", sum := "1fab9863e6feba0fada32c131e7b15fa4938138200c4b147ee44905b2b0d74a7", func := "loop.example/flexquorum/laws.FnExactCommandOfValue", spec := "fnExactCommandOfValue", apart := false }
def FnExactCommandOfValueSaid : Prop := fnExactCommandOfValueRow.holds Try.pinned (OpenSpec.ofChange fnExactCommandOfValueSpec)

/-- ITS FALSE NEIGHBOUR: 'it returns false'. Refute it at one input. -/
def fnExactCommandOfValueWrong : ChangeSpec := { name := "fnExactCommandOfValue", fn := fun _ => fun
  | [d] => { results := [.lit (.bool false)], args := [d] }
  | _ => none }
def FnExactCommandOfValueWrongFalsely : Prop := fnExactCommandOfValueRow.holds Try.pinned (OpenSpec.ofChange fnExactCommandOfValueWrong)

/-- 'laws.FnCommandOfValue': WHATEVER THE INPUT: true; the input reads as it did. -/
def fnCommandOfValueSpec : ChangeSpec := { name := "fnCommandOfValue", fn := fun _ => fun
  | [d] => { results := [.lit (.bool true)], args := [d] }
  | _ => none }
def fnCommandOfValueRow : OpenClaim := { program := "ytgipgfhnkkpdkaa", sum := "1fab9863e6feba0fada32c131e7b15fa4938138200c4b147ee44905b2b0d74a7", func := "loop.example/flexquorum/laws.FnCommandOfValue", spec := "fnCommandOfValue", apart := false }
def FnCommandOfValueSaid : Prop := fnCommandOfValueRow.holds Try.pinned (OpenSpec.ofChange fnCommandOfValueSpec)

/-- ITS FALSE NEIGHBOUR: 'it returns false'. Refute it at one input. -/
def fnCommandOfValueWrong : ChangeSpec := { name := "fnCommandOfValue", fn := fun _ => fun
  | [d] => { results := [.lit (.bool false)], args := [d] }
  | _ => none }
def FnCommandOfValueWrongFalsely : Prop := fnCommandOfValueRow.holds Try.pinned (OpenSpec.ofChange fnCommandOfValueWrong)

/-- 'laws.FnExactSetContains': WHATEVER THE INPUT: true; the input reads as it did. -/
def fnExactSetContainsSpec : ChangeSpec := { name := "fnExactSetContains", fn := fun _ => fun
  | [d1, d2] => { results := [.lit (.bool true)], args := [d1, d2] }
  | _ => none }
def fnExactSetContainsRow : OpenClaim := { program := "ytgipgfhnkkpdkaa", sum := "1fab9863e6feba0fada32c131e7b15fa4938138200c4b147ee44905b2b0d74a7", func := "loop.example/flexquorum/laws.FnExactSetContains", spec := "fnExactSetContains", apart := false }
def FnExactSetContainsSaid : Prop := fnExactSetContainsRow.holds Try.pinned (OpenSpec.ofChange fnExactSetContainsSpec)

/-- ITS FALSE NEIGHBOUR: 'it returns false'. Refute it at one input. -/
def fnExactSetContainsWrong : ChangeSpec := { name := "fnExactSetContains", fn := fun _ => fun
  | [d1, d2] => { results := [.lit (.bool false)], args := [d1, d2] }
  | _ => none }
def FnExactSetContainsWrongFalsely : Prop := fnExactSetContainsRow.holds Try.pinned (OpenSpec.ofChange fnExactSetContainsWrong)

/-- 'laws.FnExactSetOfMask': WHATEVER THE INPUT: true; the input reads as it did. -/
def fnExactSetOfMaskSpec : ChangeSpec := { name := "fnExactSetOfMask", fn := fun _ => fun
  | [d] => { results := [.lit (.bool true)], args := [d] }
  | _ => none }
def fnExactSetOfMaskRow : OpenClaim := { program := "ytgipgfhnkkpdkaa", sum := "1fab9863e6feba0fada32c131e7b15fa4938138200c4b147ee44905b2b0d74a7", func := "loop.example/flexquorum/laws.FnExactSetOfMask", spec := "fnExactSetOfMask", apart := false }
def FnExactSetOfMaskSaid : Prop := fnExactSetOfMaskRow.holds Try.pinned (OpenSpec.ofChange fnExactSetOfMaskSpec)

/-- ITS FALSE NEIGHBOUR: 'it returns false'. Refute it at one input. -/
def fnExactSetOfMaskWrong : ChangeSpec := { name := "fnExactSetOfMask", fn := fun _ => fun
  | [d] => { results := [.lit (.bool false)], args := [d] }
  | _ => none }
def FnExactSetOfMaskWrongFalsely : Prop := fnExactSetOfMaskRow.holds Try.pinned (OpenSpec.ofChange fnExactSetOfMaskWrong)

/-- 'laws.FnContains': WHATEVER THE INPUT: true; the input reads as it did. -/
def fnContainsSpec : ChangeSpec := { name := "fnContains", fn := fun _ => fun
  | [d] => { results := [.lit (.bool true)], args := [d] }
  | _ => none }
def fnContainsRow : OpenClaim := { program := "ytgipgfhnkkpdkaa", sum := "1fab9863e6feba0fada32c131e7b15fa4938138200c4b147ee44905b2b0d74a7", func := "loop.example/flexquorum/laws.FnContains", spec := "fnContains", apart := false }
def FnContainsSaid : Prop := fnContainsRow.holds Try.pinned (OpenSpec.ofChange fnContainsSpec)

/-- ITS FALSE NEIGHBOUR: 'it returns false'. Refute it at one input. -/
def fnContainsWrong : ChangeSpec := { name := "fnContains", fn := fun _ => fun
  | [d] => { results := [.lit (.bool false)], args := [d] }
  | _ => none }
def FnContainsWrongFalsely : Prop := fnContainsRow.holds Try.pinned (OpenSpec.ofChange fnContainsWrong)

/-- 'laws.FnExactWeightsMajority': WHATEVER THE INPUT: true; the input reads as it did. -/
def fnExactWeightsMajoritySpec : ChangeSpec := { name := "fnExactWeightsMajority", fn := fun _ => fun
  | [d] => { results := [.lit (.bool true)], args := [d] }
  | _ => none }
def fnExactWeightsMajorityRow : OpenClaim := { program := "ytgipgfhnkkpdkaa", sum := "1fab9863e6feba0fada32c131e7b15fa4938138200c4b147ee44905b2b0d74a7", func := "loop.example/flexquorum/laws.FnExactWeightsMajority", spec := "fnExactWeightsMajority", apart := false }
def FnExactWeightsMajoritySaid : Prop := fnExactWeightsMajorityRow.holds Try.pinned (OpenSpec.ofChange fnExactWeightsMajoritySpec)

/-- ITS FALSE NEIGHBOUR: 'it returns false'. Refute it at one input. -/
def fnExactWeightsMajorityWrong : ChangeSpec := { name := "fnExactWeightsMajority", fn := fun _ => fun
  | [d] => { results := [.lit (.bool false)], args := [d] }
  | _ => none }
def FnExactWeightsMajorityWrongFalsely : Prop := fnExactWeightsMajorityRow.holds Try.pinned (OpenSpec.ofChange fnExactWeightsMajorityWrong)

/-- 'laws.FnExactWeightsSum': WHATEVER THE INPUT: true; the input reads as it did. -/
def fnExactWeightsSumSpec : ChangeSpec := { name := "fnExactWeightsSum", fn := fun _ => fun
  | [d1, d2] => { results := [.lit (.bool true)], args := [d1, d2] }
  | _ => none }
def fnExactWeightsSumRow : OpenClaim := { program := "ytgipgfhnkkpdkaa", sum := "1fab9863e6feba0fada32c131e7b15fa4938138200c4b147ee44905b2b0d74a7", func := "loop.example/flexquorum/laws.FnExactWeightsSum", spec := "fnExactWeightsSum", apart := false }
def FnExactWeightsSumSaid : Prop := fnExactWeightsSumRow.holds Try.pinned (OpenSpec.ofChange fnExactWeightsSumSpec)

/-- ITS FALSE NEIGHBOUR: 'it returns false'. Refute it at one input. -/
def fnExactWeightsSumWrong : ChangeSpec := { name := "fnExactWeightsSum", fn := fun _ => fun
  | [d1, d2] => { results := [.lit (.bool false)], args := [d1, d2] }
  | _ => none }
def FnExactWeightsSumWrongFalsely : Prop := fnExactWeightsSumRow.holds Try.pinned (OpenSpec.ofChange fnExactWeightsSumWrong)

/-- 'laws.FnExactSetMinus': WHATEVER THE INPUT: true; the input reads as it did. -/
def fnExactSetMinusSpec : ChangeSpec := { name := "fnExactSetMinus", fn := fun _ => fun
  | [d1, d2] => { results := [.lit (.bool true)], args := [d1, d2] }
  | _ => none }
def fnExactSetMinusRow : OpenClaim := { program := "ytgipgfhnkkpdkaa", sum := "1fab9863e6feba0fada32c131e7b15fa4938138200c4b147ee44905b2b0d74a7", func := "loop.example/flexquorum/laws.FnExactSetMinus", spec := "fnExactSetMinus", unfollowed := true, recurses := true, apart := false }
def FnExactSetMinusSaid : Prop := fnExactSetMinusRow.holds Try.pinned (OpenSpec.ofChange fnExactSetMinusSpec)

/-- ITS FALSE NEIGHBOUR: 'it returns false'. Refute it at one input. -/
def fnExactSetMinusWrong : ChangeSpec := { name := "fnExactSetMinus", fn := fun _ => fun
  | [d1, d2] => { results := [.lit (.bool false)], args := [d1, d2] }
  | _ => none }
def FnExactSetMinusWrongFalsely : Prop := fnExactSetMinusRow.holds Try.pinned (OpenSpec.ofChange fnExactSetMinusWrong)

/-- 'laws.FnMaskValues': WHATEVER THE INPUT: true; the input reads as it did. -/
def fnMaskValuesSpec : ChangeSpec := { name := "fnMaskValues", fn := fun _ => fun
  | [d] => { results := [.lit (.bool true)], args := [d] }
  | _ => none }
def fnMaskValuesRow : OpenClaim := { program := "ytgipgfhnkkpdkaa", sum := "1fab9863e6feba0fada32c131e7b15fa4938138200c4b147ee44905b2b0d74a7", func := "loop.example/flexquorum/laws.FnMaskValues", spec := "fnMaskValues", apart := false }
def FnMaskValuesSaid : Prop := fnMaskValuesRow.holds Try.pinned (OpenSpec.ofChange fnMaskValuesSpec)

/-- ITS FALSE NEIGHBOUR: 'it returns false'. Refute it at one input. -/
def fnMaskValuesWrong : ChangeSpec := { name := "fnMaskValues", fn := fun _ => fun
  | [d] => { results := [.lit (.bool false)], args := [d] }
  | _ => none }
def FnMaskValuesWrongFalsely : Prop := fnMaskValuesRow.holds Try.pinned (OpenSpec.ofChange fnMaskValuesWrong)

/-- 'laws.FnExactSetIntersect': WHATEVER THE INPUT: true; the input reads as it did. -/
def fnExactSetIntersectSpec : ChangeSpec := { name := "fnExactSetIntersect", fn := fun _ => fun
  | [d1, d2] => { results := [.lit (.bool true)], args := [d1, d2] }
  | _ => none }
def fnExactSetIntersectRow : OpenClaim := { program := "ytgipgfhnkkpdkaa", sum := "1fab9863e6feba0fada32c131e7b15fa4938138200c4b147ee44905b2b0d74a7", func := "loop.example/flexquorum/laws.FnExactSetIntersect", spec := "fnExactSetIntersect", unfollowed := true, recurses := true, apart := false }
def FnExactSetIntersectSaid : Prop := fnExactSetIntersectRow.holds Try.pinned (OpenSpec.ofChange fnExactSetIntersectSpec)

/-- ITS FALSE NEIGHBOUR: 'it returns false'. Refute it at one input. -/
def fnExactSetIntersectWrong : ChangeSpec := { name := "fnExactSetIntersect", fn := fun _ => fun
  | [d1, d2] => { results := [.lit (.bool false)], args := [d1, d2] }
  | _ => none }
def FnExactSetIntersectWrongFalsely : Prop := fnExactSetIntersectRow.holds Try.pinned (OpenSpec.ofChange fnExactSetIntersectWrong)

/-- 'laws.FnExactSetUnion': WHATEVER THE INPUT: true; the input reads as it did. -/
def fnExactSetUnionSpec : ChangeSpec := { name := "fnExactSetUnion", fn := fun _ => fun
  | [d1, d2] => { results := [.lit (.bool true)], args := [d1, d2] }
  | _ => none }
def fnExactSetUnionRow : OpenClaim := { program := "ytgipgfhnkkpdkaa", sum := "1fab9863e6feba0fada32c131e7b15fa4938138200c4b147ee44905b2b0d74a7", func := "loop.example/flexquorum/laws.FnExactSetUnion", spec := "fnExactSetUnion", unfollowed := true, recurses := true, apart := false }
def FnExactSetUnionSaid : Prop := fnExactSetUnionRow.holds Try.pinned (OpenSpec.ofChange fnExactSetUnionSpec)

/-- ITS FALSE NEIGHBOUR: 'it returns false'. Refute it at one input. -/
def fnExactSetUnionWrong : ChangeSpec := { name := "fnExactSetUnion", fn := fun _ => fun
  | [d1, d2] => { results := [.lit (.bool false)], args := [d1, d2] }
  | _ => none }
def FnExactSetUnionWrongFalsely : Prop := fnExactSetUnionRow.holds Try.pinned (OpenSpec.ofChange fnExactSetUnionWrong)

/-- 'laws.FnMaskRoundTrip': WHATEVER THE INPUT: true; the input reads as it did. -/
def fnMaskRoundTripSpec : ChangeSpec := { name := "fnMaskRoundTrip", fn := fun _ => fun
  | [d1, d2] => { results := [.lit (.bool true)], args := [d1, d2] }
  | _ => none }
def fnMaskRoundTripRow : OpenClaim := { program := "ytgipgfhnkkpdkaa", sum := "1fab9863e6feba0fada32c131e7b15fa4938138200c4b147ee44905b2b0d74a7", func := "loop.example/flexquorum/laws.FnMaskRoundTrip", spec := "fnMaskRoundTrip", apart := false }
def FnMaskRoundTripSaid : Prop := fnMaskRoundTripRow.holds Try.pinned (OpenSpec.ofChange fnMaskRoundTripSpec)

/-- ITS FALSE NEIGHBOUR: 'it returns false'. Refute it at one input. -/
def fnMaskRoundTripWrong : ChangeSpec := { name := "fnMaskRoundTrip", fn := fun _ => fun
  | [d1, d2] => { results := [.lit (.bool false)], args := [d1, d2] }
  | _ => none }
def FnMaskRoundTripWrongFalsely : Prop := fnMaskRoundTripRow.holds Try.pinned (OpenSpec.ofChange fnMaskRoundTripWrong)

/-- 'laws.FnUnionMembers': WHATEVER THE INPUT: true; the input reads as it did. -/
def fnUnionMembersSpec : ChangeSpec := { name := "fnUnionMembers", fn := fun _ => fun
  | [d] => { results := [.lit (.bool true)], args := [d] }
  | _ => none }
def fnUnionMembersRow : OpenClaim := { program := "ytgipgfhnkkpdkaa", sum := "1fab9863e6feba0fada32c131e7b15fa4938138200c4b147ee44905b2b0d74a7", func := "loop.example/flexquorum/laws.FnUnionMembers", spec := "fnUnionMembers", unfollowed := true, recurses := true, apart := false }
def FnUnionMembersSaid : Prop := fnUnionMembersRow.holds Try.pinned (OpenSpec.ofChange fnUnionMembersSpec)

/-- ITS FALSE NEIGHBOUR: 'it returns false'. Refute it at one input. -/
def fnUnionMembersWrong : ChangeSpec := { name := "fnUnionMembers", fn := fun _ => fun
  | [d] => { results := [.lit (.bool false)], args := [d] }
  | _ => none }
def FnUnionMembersWrongFalsely : Prop := fnUnionMembersRow.holds Try.pinned (OpenSpec.ofChange fnUnionMembersWrong)

/-- 'laws.FnUnionLaws': WHATEVER THE INPUT: true; the input reads as it did. -/
def fnUnionLawsSpec : ChangeSpec := { name := "fnUnionLaws", fn := fun _ => fun
  | [d1, d2] => { results := [.lit (.bool true)], args := [d1, d2] }
  | _ => none }
def fnUnionLawsRow : OpenClaim := { program := "ytgipgfhnkkpdkaa", sum := "1fab9863e6feba0fada32c131e7b15fa4938138200c4b147ee44905b2b0d74a7", func := "loop.example/flexquorum/laws.FnUnionLaws", spec := "fnUnionLaws", unfollowed := true, recurses := true, apart := false }
def FnUnionLawsSaid : Prop := fnUnionLawsRow.holds Try.pinned (OpenSpec.ofChange fnUnionLawsSpec)

/-- ITS FALSE NEIGHBOUR: 'it returns false'. Refute it at one input. -/
def fnUnionLawsWrong : ChangeSpec := { name := "fnUnionLaws", fn := fun _ => fun
  | [d1, d2] => { results := [.lit (.bool false)], args := [d1, d2] }
  | _ => none }
def FnUnionLawsWrongFalsely : Prop := fnUnionLawsRow.holds Try.pinned (OpenSpec.ofChange fnUnionLawsWrong)

/-- 'laws.FnUnionSize': WHATEVER THE INPUT: true; the input reads as it did. -/
def fnUnionSizeSpec : ChangeSpec := { name := "fnUnionSize", fn := fun _ => fun
  | [d] => { results := [.lit (.bool true)], args := [d] }
  | _ => none }
def fnUnionSizeRow : OpenClaim := { program := "ytgipgfhnkkpdkaa", sum := "1fab9863e6feba0fada32c131e7b15fa4938138200c4b147ee44905b2b0d74a7", func := "loop.example/flexquorum/laws.FnUnionSize", spec := "fnUnionSize", unfollowed := true, recurses := true, apart := false }
def FnUnionSizeSaid : Prop := fnUnionSizeRow.holds Try.pinned (OpenSpec.ofChange fnUnionSizeSpec)

/-- ITS FALSE NEIGHBOUR: 'it returns false'. Refute it at one input. -/
def fnUnionSizeWrong : ChangeSpec := { name := "fnUnionSize", fn := fun _ => fun
  | [d] => { results := [.lit (.bool false)], args := [d] }
  | _ => none }
def FnUnionSizeWrongFalsely : Prop := fnUnionSizeRow.holds Try.pinned (OpenSpec.ofChange fnUnionSizeWrong)

/-- 'laws.FnMinusMembers': WHATEVER THE INPUT: true; the input reads as it did. -/
def fnMinusMembersSpec : ChangeSpec := { name := "fnMinusMembers", fn := fun _ => fun
  | [d] => { results := [.lit (.bool true)], args := [d] }
  | _ => none }
def fnMinusMembersRow : OpenClaim := { program := "ytgipgfhnkkpdkaa", sum := "1fab9863e6feba0fada32c131e7b15fa4938138200c4b147ee44905b2b0d74a7", func := "loop.example/flexquorum/laws.FnMinusMembers", spec := "fnMinusMembers", unfollowed := true, recurses := true, apart := false }
def FnMinusMembersSaid : Prop := fnMinusMembersRow.holds Try.pinned (OpenSpec.ofChange fnMinusMembersSpec)

/-- ITS FALSE NEIGHBOUR: 'it returns false'. Refute it at one input. -/
def fnMinusMembersWrong : ChangeSpec := { name := "fnMinusMembers", fn := fun _ => fun
  | [d] => { results := [.lit (.bool false)], args := [d] }
  | _ => none }
def FnMinusMembersWrongFalsely : Prop := fnMinusMembersRow.holds Try.pinned (OpenSpec.ofChange fnMinusMembersWrong)

/-- 'laws.FnSubsetTransitive': WHATEVER THE INPUT: true; the input reads as it did. -/
def fnSubsetTransitiveSpec : ChangeSpec := { name := "fnSubsetTransitive", fn := fun _ => fun
  | [d1, d2] => { results := [.lit (.bool true)], args := [d1, d2] }
  | _ => none }
def fnSubsetTransitiveRow : OpenClaim := { program := "ytgipgfhnkkpdkaa", sum := "1fab9863e6feba0fada32c131e7b15fa4938138200c4b147ee44905b2b0d74a7", func := "loop.example/flexquorum/laws.FnSubsetTransitive", spec := "fnSubsetTransitive", apart := false }
def FnSubsetTransitiveSaid : Prop := fnSubsetTransitiveRow.holds Try.pinned (OpenSpec.ofChange fnSubsetTransitiveSpec)

/-- ITS FALSE NEIGHBOUR: 'it returns false'. Refute it at one input. -/
def fnSubsetTransitiveWrong : ChangeSpec := { name := "fnSubsetTransitive", fn := fun _ => fun
  | [d1, d2] => { results := [.lit (.bool false)], args := [d1, d2] }
  | _ => none }
def FnSubsetTransitiveWrongFalsely : Prop := fnSubsetTransitiveRow.holds Try.pinned (OpenSpec.ofChange fnSubsetTransitiveWrong)

/- THE SECOND FORM. 'bulk': how many values and letters a reading holds, each counted each time it is reached (what is shared counts as often as it is met; a slice's spare places count too). A statement '..UptoSaid' is the law's where the arguments, and the package variables that the reading takes, are together of bulk at most 1048576: NARROWER than '..Said'. Prove '..Said' where nothing that the law and all that it calls make is longer than what came in: it says more and counts as full. Else prove '..UptoSaid'. A law counts once. -/
mutual
def uptoBulk {H : Type} : DataW H → Nat
  | .lit (.string bytes) => bytes.length + 1
  | .lit _ => 1
  | .nil => 1
  | .ptr d => uptoBulk d + 1
  | .slice elems spare => uptoBulkAll elems + uptoBulkAll spare + 1
  | .agg parts => uptoBulkAll parts + 1
  | .iface _ d => uptoBulk d + 1
  | .map entries => uptoBulkEntries entries + 1
  | .held _ => 1
def uptoBulkAll {H : Type} : List (DataW H) → Nat
  | [] => 0
  | d :: r => uptoBulk d + uptoBulkAll r
def uptoBulkEntries {H : Type} : List (Lit × DataW H) → Nat
  | [] => 0
  | x :: r => uptoBulkEntry x + uptoBulkEntries r
def uptoBulkEntry {H : Type} : Lit × DataW H → Nat
  | (.string bytes, d) => bytes.length + uptoBulk d + 1
  | (_, d) => uptoBulk d + 1
 end
def uptoSmall : (H : Type) → List (DataW H) → Bool := fun _ ds => decide (uptoBulkAll ds ≤ 1048576)
def OpenSpec.upto (s : _root_.Go.ChangeSpec) : _root_.Go.OpenSpec := { _root_.Go.OpenSpec.ofChange s with cond := some uptoSmall }

/-- 'laws.FnExactCommandOfValue', WHERE WHAT IT READS IS OF BULK AT MOST 1048576: true; the input reads as it did. -/
def fnExactCommandOfValueUptoRow : OpenClaim := { program := "ytgipgfhnkkpdkaa", sum := "1fab9863e6feba0fada32c131e7b15fa4938138200c4b147ee44905b2b0d74a7", func := "loop.example/flexquorum/laws.FnExactCommandOfValue", spec := "fnExactCommandOfValue", apart := false, narrowed := true }
def FnExactCommandOfValueUptoSaid : Prop := fnExactCommandOfValueUptoRow.holds Try.pinned (OpenSpec.upto fnExactCommandOfValueSpec)

/-- 'laws.FnCommandOfValue', WHERE WHAT IT READS IS OF BULK AT MOST 1048576: true; the input reads as it did. -/
def fnCommandOfValueUptoRow : OpenClaim := { program := "ytgipgfhnkkpdkaa", sum := "1fab9863e6feba0fada32c131e7b15fa4938138200c4b147ee44905b2b0d74a7", func := "loop.example/flexquorum/laws.FnCommandOfValue", spec := "fnCommandOfValue", apart := false, narrowed := true }
def FnCommandOfValueUptoSaid : Prop := fnCommandOfValueUptoRow.holds Try.pinned (OpenSpec.upto fnCommandOfValueSpec)

/-- 'laws.FnExactSetContains', WHERE WHAT IT READS IS OF BULK AT MOST 1048576: true; the input reads as it did. -/
def fnExactSetContainsUptoRow : OpenClaim := { program := "ytgipgfhnkkpdkaa", sum := "1fab9863e6feba0fada32c131e7b15fa4938138200c4b147ee44905b2b0d74a7", func := "loop.example/flexquorum/laws.FnExactSetContains", spec := "fnExactSetContains", apart := false, narrowed := true }
def FnExactSetContainsUptoSaid : Prop := fnExactSetContainsUptoRow.holds Try.pinned (OpenSpec.upto fnExactSetContainsSpec)

/-- 'laws.FnExactSetOfMask', WHERE WHAT IT READS IS OF BULK AT MOST 1048576: true; the input reads as it did. -/
def fnExactSetOfMaskUptoRow : OpenClaim := { program := "ytgipgfhnkkpdkaa", sum := "1fab9863e6feba0fada32c131e7b15fa4938138200c4b147ee44905b2b0d74a7", func := "loop.example/flexquorum/laws.FnExactSetOfMask", spec := "fnExactSetOfMask", apart := false, narrowed := true }
def FnExactSetOfMaskUptoSaid : Prop := fnExactSetOfMaskUptoRow.holds Try.pinned (OpenSpec.upto fnExactSetOfMaskSpec)

/-- 'laws.FnContains', WHERE WHAT IT READS IS OF BULK AT MOST 1048576: true; the input reads as it did. -/
def fnContainsUptoRow : OpenClaim := { program := "ytgipgfhnkkpdkaa", sum := "1fab9863e6feba0fada32c131e7b15fa4938138200c4b147ee44905b2b0d74a7", func := "loop.example/flexquorum/laws.FnContains", spec := "fnContains", apart := false, narrowed := true }
def FnContainsUptoSaid : Prop := fnContainsUptoRow.holds Try.pinned (OpenSpec.upto fnContainsSpec)

/-- 'laws.FnExactWeightsMajority', WHERE WHAT IT READS IS OF BULK AT MOST 1048576: true; the input reads as it did. -/
def fnExactWeightsMajorityUptoRow : OpenClaim := { program := "ytgipgfhnkkpdkaa", sum := "1fab9863e6feba0fada32c131e7b15fa4938138200c4b147ee44905b2b0d74a7", func := "loop.example/flexquorum/laws.FnExactWeightsMajority", spec := "fnExactWeightsMajority", apart := false, narrowed := true }
def FnExactWeightsMajorityUptoSaid : Prop := fnExactWeightsMajorityUptoRow.holds Try.pinned (OpenSpec.upto fnExactWeightsMajoritySpec)

/-- 'laws.FnExactWeightsSum', WHERE WHAT IT READS IS OF BULK AT MOST 1048576: true; the input reads as it did. -/
def fnExactWeightsSumUptoRow : OpenClaim := { program := "ytgipgfhnkkpdkaa", sum := "1fab9863e6feba0fada32c131e7b15fa4938138200c4b147ee44905b2b0d74a7", func := "loop.example/flexquorum/laws.FnExactWeightsSum", spec := "fnExactWeightsSum", apart := false, narrowed := true }
def FnExactWeightsSumUptoSaid : Prop := fnExactWeightsSumUptoRow.holds Try.pinned (OpenSpec.upto fnExactWeightsSumSpec)

/-- 'laws.FnExactSetMinus', WHERE WHAT IT READS IS OF BULK AT MOST 1048576: true; the input reads as it did. -/
def fnExactSetMinusUptoRow : OpenClaim := { program := "ytgipgfhnkkpdkaa", sum := "1fab9863e6feba0fada32c131e7b15fa4938138200c4b147ee44905b2b0d74a7", func := "loop.example/flexquorum/laws.FnExactSetMinus", spec := "fnExactSetMinus", unfollowed := true, recurses := true, apart := false, narrowed := true }
def FnExactSetMinusUptoSaid : Prop := fnExactSetMinusUptoRow.holds Try.pinned (OpenSpec.upto fnExactSetMinusSpec)

/-- 'laws.FnMaskValues', WHERE WHAT IT READS IS OF BULK AT MOST 1048576: true; the input reads as it did. -/
def fnMaskValuesUptoRow : OpenClaim := { program := "ytgipgfhnkkpdkaa", sum := "1fab9863e6feba0fada32c131e7b15fa4938138200c4b147ee44905b2b0d74a7", func := "loop.example/flexquorum/laws.FnMaskValues", spec := "fnMaskValues", apart := false, narrowed := true }
def FnMaskValuesUptoSaid : Prop := fnMaskValuesUptoRow.holds Try.pinned (OpenSpec.upto fnMaskValuesSpec)

/-- 'laws.FnExactSetIntersect', WHERE WHAT IT READS IS OF BULK AT MOST 1048576: true; the input reads as it did. -/
def fnExactSetIntersectUptoRow : OpenClaim := { program := "ytgipgfhnkkpdkaa", sum := "1fab9863e6feba0fada32c131e7b15fa4938138200c4b147ee44905b2b0d74a7", func := "loop.example/flexquorum/laws.FnExactSetIntersect", spec := "fnExactSetIntersect", unfollowed := true, recurses := true, apart := false, narrowed := true }
def FnExactSetIntersectUptoSaid : Prop := fnExactSetIntersectUptoRow.holds Try.pinned (OpenSpec.upto fnExactSetIntersectSpec)

/-- 'laws.FnExactSetUnion', WHERE WHAT IT READS IS OF BULK AT MOST 1048576: true; the input reads as it did. -/
def fnExactSetUnionUptoRow : OpenClaim := { program := "ytgipgfhnkkpdkaa", sum := "1fab9863e6feba0fada32c131e7b15fa4938138200c4b147ee44905b2b0d74a7", func := "loop.example/flexquorum/laws.FnExactSetUnion", spec := "fnExactSetUnion", unfollowed := true, recurses := true, apart := false, narrowed := true }
def FnExactSetUnionUptoSaid : Prop := fnExactSetUnionUptoRow.holds Try.pinned (OpenSpec.upto fnExactSetUnionSpec)

/-- 'laws.FnMaskRoundTrip', WHERE WHAT IT READS IS OF BULK AT MOST 1048576: true; the input reads as it did. -/
def fnMaskRoundTripUptoRow : OpenClaim := { program := "ytgipgfhnkkpdkaa", sum := "1fab9863e6feba0fada32c131e7b15fa4938138200c4b147ee44905b2b0d74a7", func := "loop.example/flexquorum/laws.FnMaskRoundTrip", spec := "fnMaskRoundTrip", apart := false, narrowed := true }
def FnMaskRoundTripUptoSaid : Prop := fnMaskRoundTripUptoRow.holds Try.pinned (OpenSpec.upto fnMaskRoundTripSpec)

/-- 'laws.FnUnionMembers', WHERE WHAT IT READS IS OF BULK AT MOST 1048576: true; the input reads as it did. -/
def fnUnionMembersUptoRow : OpenClaim := { program := "ytgipgfhnkkpdkaa", sum := "1fab9863e6feba0fada32c131e7b15fa4938138200c4b147ee44905b2b0d74a7", func := "loop.example/flexquorum/laws.FnUnionMembers", spec := "fnUnionMembers", unfollowed := true, recurses := true, apart := false, narrowed := true }
def FnUnionMembersUptoSaid : Prop := fnUnionMembersUptoRow.holds Try.pinned (OpenSpec.upto fnUnionMembersSpec)

/-- 'laws.FnUnionLaws', WHERE WHAT IT READS IS OF BULK AT MOST 1048576: true; the input reads as it did. -/
def fnUnionLawsUptoRow : OpenClaim := { program := "ytgipgfhnkkpdkaa", sum := "1fab9863e6feba0fada32c131e7b15fa4938138200c4b147ee44905b2b0d74a7", func := "loop.example/flexquorum/laws.FnUnionLaws", spec := "fnUnionLaws", unfollowed := true, recurses := true, apart := false, narrowed := true }
def FnUnionLawsUptoSaid : Prop := fnUnionLawsUptoRow.holds Try.pinned (OpenSpec.upto fnUnionLawsSpec)

/-- 'laws.FnUnionSize', WHERE WHAT IT READS IS OF BULK AT MOST 1048576: true; the input reads as it did. -/
def fnUnionSizeUptoRow : OpenClaim := { program := "ytgipgfhnkkpdkaa", sum := "1fab9863e6feba0fada32c131e7b15fa4938138200c4b147ee44905b2b0d74a7", func := "loop.example/flexquorum/laws.FnUnionSize", spec := "fnUnionSize", unfollowed := true, recurses := true, apart := false, narrowed := true }
def FnUnionSizeUptoSaid : Prop := fnUnionSizeUptoRow.holds Try.pinned (OpenSpec.upto fnUnionSizeSpec)

/-- 'laws.FnMinusMembers', WHERE WHAT IT READS IS OF BULK AT MOST 1048576: true; the input reads as it did. -/
def fnMinusMembersUptoRow : OpenClaim := { program := "ytgipgfhnkkpdkaa", sum := "1fab9863e6feba0fada32c131e7b15fa4938138200c4b147ee44905b2b0d74a7", func := "loop.example/flexquorum/laws.FnMinusMembers", spec := "fnMinusMembers", unfollowed := true, recurses := true, apart := false, narrowed := true }
def FnMinusMembersUptoSaid : Prop := fnMinusMembersUptoRow.holds Try.pinned (OpenSpec.upto fnMinusMembersSpec)

/-- 'laws.FnSubsetTransitive', WHERE WHAT IT READS IS OF BULK AT MOST 1048576: true; the input reads as it did. -/
def fnSubsetTransitiveUptoRow : OpenClaim := { program := "ytgipgfhnkkpdkaa", sum := "1fab9863e6feba0fada32c131e7b15fa4938138200c4b147ee44905b2b0d74a7", func := "loop.example/flexquorum/laws.FnSubsetTransitive", spec := "fnSubsetTransitive", apart := false, narrowed := true }
def FnSubsetTransitiveUptoSaid : Prop := fnSubsetTransitiveUptoRow.holds Try.pinned (OpenSpec.upto fnSubsetTransitiveSpec)

end Rows
end Go.Proofs.Ytgipgfhnkkpdkaa
