/-
  No cell of these rows narrows 'for every input' (looked for: loops, veiled, ifaces, maps, wideKeys, modest, calm, conditions, laid).
  DERIVED. THE GIVEN ROWS OF THIS SEAT. 16 by the template 'for every input the law returns true; each argument reads behind the call as it read before'; 0 by the template 'total and deterministic' (their statements: YtabliglgeiajlaaTotals.lean).
  GIVEN WITH THE SEED: the statements are not yours to turn. If you find one false, say at which input.
  Laid BY PROGRAM, IN A SANDBOX (cutbox-rows.mjs): the forced cells as the released guide's own fill.sh prints them over the translation bf33a2a2cbfd3f33… (all of the seat's roots in one cut). By AI agents, Wed Nov 11 2026. No macro, syntax, notation, axiom, sorry.
-/
import Derived.Test.YtabliglgeiajlaaChecked
import GoSem.Claim
import GoSem.ClaimJoined
import GoSem.ClaimMapViews
import Derived.JoinedTies
import Derived.KernelRfl
namespace Go.Proofs.Ytabliglgeiajlaa
/- THE CELL 'sum', in the pinned program and in every row, IS THE sha256 OF THE DUMP (.gsa) THAT YtabliglgeiajlaaProg.lean LOADS. Nothing in Lean hashes anything: it is a label: what it is worth is what the hold of that sum in a sandbox is worth. -/
noncomputable def Try.pinned : Pinned := { name := "ytabliglgeiajlaa", sum := "bf33a2a2cbfd3f33832c087fea745cc29a16249e8d1ec432c35c34dba6f2f5be", checked := Try.checked }
namespace Rows
def none {H : Type} : Left H := { results := [], args := [] }

/-- 'reticentlaw02.OrderMakes': WHATEVER THE INPUT: true; the input reads as it did. -/
def orderMakesSpec : ChangeSpec := { name := "orderMakes", fn := fun _ => fun
  | [d1, d2, d3, d4] => { results := [.lit (.bool true)], args := [d1, d2, d3, d4] }
  | _ => none }
def orderMakesRow : OpenClaim := { program := "ytabliglgeiajlaa", sum := "bf33a2a2cbfd3f33832c087fea745cc29a16249e8d1ec432c35c34dba6f2f5be", func := "reticent/reticentlaw02.OrderMakes", spec := "orderMakes", unfollowed := true, recurses := true, apart := false }
def OrderMakesSaid : Prop := orderMakesRow.holds Try.pinned (OpenSpec.ofChange orderMakesSpec)

/-- ITS FALSE NEIGHBOUR: 'it returns false'. Refute it at one input. -/
def orderMakesWrong : ChangeSpec := { name := "orderMakes", fn := fun _ => fun
  | [d1, d2, d3, d4] => { results := [.lit (.bool false)], args := [d1, d2, d3, d4] }
  | _ => none }
def OrderMakesWrongFalsely : Prop := orderMakesRow.holds Try.pinned (OpenSpec.ofChange orderMakesWrong)

/-- 'reticentlaw13.DrawOrders': WHATEVER THE INPUT: true; the input reads as it did. -/
def drawOrdersSpec : ChangeSpec := { name := "drawOrders", fn := fun _ => fun
  | [d1, d2] => { results := [.lit (.bool true)], args := [d1, d2] }
  | _ => none }
def drawOrdersRow : OpenClaim := { program := "ytabliglgeiajlaa", sum := "bf33a2a2cbfd3f33832c087fea745cc29a16249e8d1ec432c35c34dba6f2f5be", func := "reticent/reticentlaw13.DrawOrders", spec := "drawOrders", apart := false }
def DrawOrdersSaid : Prop := drawOrdersRow.holds Try.pinned (OpenSpec.ofChange drawOrdersSpec)

/-- ITS FALSE NEIGHBOUR: 'it returns false'. Refute it at one input. -/
def drawOrdersWrong : ChangeSpec := { name := "drawOrders", fn := fun _ => fun
  | [d1, d2] => { results := [.lit (.bool false)], args := [d1, d2] }
  | _ => none }
def DrawOrdersWrongFalsely : Prop := drawOrdersRow.holds Try.pinned (OpenSpec.ofChange drawOrdersWrong)

/-- 'reticentlaw14.PickSigned': WHATEVER THE INPUT: true; the input reads as it did. -/
def pickSignedSpec : ChangeSpec := { name := "pickSigned", fn := fun _ => fun
  | [d1, d2, d3] => { results := [.lit (.bool true)], args := [d1, d2, d3] }
  | _ => none }
def pickSignedRow : OpenClaim := { program := "ytabliglgeiajlaa", sum := "bf33a2a2cbfd3f33832c087fea745cc29a16249e8d1ec432c35c34dba6f2f5be", func := "reticent/reticentlaw14.PickSigned", spec := "pickSigned", unfollowed := true, recurses := true, apart := false }
def PickSignedSaid : Prop := pickSignedRow.holds Try.pinned (OpenSpec.ofChange pickSignedSpec)

/-- ITS FALSE NEIGHBOUR: 'it returns false'. Refute it at one input. -/
def pickSignedWrong : ChangeSpec := { name := "pickSigned", fn := fun _ => fun
  | [d1, d2, d3] => { results := [.lit (.bool false)], args := [d1, d2, d3] }
  | _ => none }
def PickSignedWrongFalsely : Prop := pickSignedRow.holds Try.pinned (OpenSpec.ofChange pickSignedWrong)

/-- 'reticentlaw14.PickWeighted': WHATEVER THE INPUT: true; the input reads as it did. -/
def pickWeightedSpec : ChangeSpec := { name := "pickWeighted", fn := fun _ => fun
  | [d1, d2, d3] => { results := [.lit (.bool true)], args := [d1, d2, d3] }
  | _ => none }
def pickWeightedRow : OpenClaim := { program := "ytabliglgeiajlaa", sum := "bf33a2a2cbfd3f33832c087fea745cc29a16249e8d1ec432c35c34dba6f2f5be", func := "reticent/reticentlaw14.PickWeighted", spec := "pickWeighted", unfollowed := true, recurses := true, apart := false }
def PickWeightedSaid : Prop := pickWeightedRow.holds Try.pinned (OpenSpec.ofChange pickWeightedSpec)

/-- ITS FALSE NEIGHBOUR: 'it returns false'. Refute it at one input. -/
def pickWeightedWrong : ChangeSpec := { name := "pickWeighted", fn := fun _ => fun
  | [d1, d2, d3] => { results := [.lit (.bool false)], args := [d1, d2, d3] }
  | _ => none }
def PickWeightedWrongFalsely : Prop := pickWeightedRow.holds Try.pinned (OpenSpec.ofChange pickWeightedWrong)

/-- 'reticentlaw14.PickBack': WHATEVER THE INPUT: true; the input reads as it did. -/
def pickBackSpec : ChangeSpec := { name := "pickBack", fn := fun _ => fun
  | [d1, d2, d3, d4] => { results := [.lit (.bool true)], args := [d1, d2, d3, d4] }
  | _ => none }
def pickBackRow : OpenClaim := { program := "ytabliglgeiajlaa", sum := "bf33a2a2cbfd3f33832c087fea745cc29a16249e8d1ec432c35c34dba6f2f5be", func := "reticent/reticentlaw14.PickBack", spec := "pickBack", unfollowed := true, recurses := true, apart := false }
def PickBackSaid : Prop := pickBackRow.holds Try.pinned (OpenSpec.ofChange pickBackSpec)

/-- ITS FALSE NEIGHBOUR: 'it returns false'. Refute it at one input. -/
def pickBackWrong : ChangeSpec := { name := "pickBack", fn := fun _ => fun
  | [d1, d2, d3, d4] => { results := [.lit (.bool false)], args := [d1, d2, d3, d4] }
  | _ => none }
def PickBackWrongFalsely : Prop := pickBackRow.holds Try.pinned (OpenSpec.ofChange pickBackWrong)

/-- 'reticentlaw02.OrderEdges': WHATEVER THE INPUT: true; the input reads as it did. -/
def orderEdgesSpec : ChangeSpec := { name := "orderEdges", fn := fun _ => fun
  | [d1, d2] => { results := [.lit (.bool true)], args := [d1, d2] }
  | _ => none }
def orderEdgesRow : OpenClaim := { program := "ytabliglgeiajlaa", sum := "bf33a2a2cbfd3f33832c087fea745cc29a16249e8d1ec432c35c34dba6f2f5be", func := "reticent/reticentlaw02.OrderEdges", spec := "orderEdges", unfollowed := true, recurses := true, apart := false }
def OrderEdgesSaid : Prop := orderEdgesRow.holds Try.pinned (OpenSpec.ofChange orderEdgesSpec)

/-- ITS FALSE NEIGHBOUR: 'it returns false'. Refute it at one input. -/
def orderEdgesWrong : ChangeSpec := { name := "orderEdges", fn := fun _ => fun
  | [d1, d2] => { results := [.lit (.bool false)], args := [d1, d2] }
  | _ => none }
def OrderEdgesWrongFalsely : Prop := orderEdgesRow.holds Try.pinned (OpenSpec.ofChange orderEdgesWrong)

/-- 'reticentlaw02.OrderOf': WHATEVER THE INPUT: true; the input reads as it did. -/
def orderOfSpec : ChangeSpec := { name := "orderOf", fn := fun _ => fun
  | [d1, d2] => { results := [.lit (.bool true)], args := [d1, d2] }
  | _ => none }
def orderOfRow : OpenClaim := { program := "ytabliglgeiajlaa", sum := "bf33a2a2cbfd3f33832c087fea745cc29a16249e8d1ec432c35c34dba6f2f5be", func := "reticent/reticentlaw02.OrderOf", spec := "orderOf", unfollowed := true, recurses := true, apart := false }
def OrderOfSaid : Prop := orderOfRow.holds Try.pinned (OpenSpec.ofChange orderOfSpec)

/-- ITS FALSE NEIGHBOUR: 'it returns false'. Refute it at one input. -/
def orderOfWrong : ChangeSpec := { name := "orderOf", fn := fun _ => fun
  | [d1, d2] => { results := [.lit (.bool false)], args := [d1, d2] }
  | _ => none }
def OrderOfWrongFalsely : Prop := orderOfRow.holds Try.pinned (OpenSpec.ofChange orderOfWrong)

/-- 'reticentlaw02.OrderBack': WHATEVER THE INPUT: true; the input reads as it did. -/
def orderBackSpec : ChangeSpec := { name := "orderBack", fn := fun _ => fun
  | [d1, d2, d3, d4] => { results := [.lit (.bool true)], args := [d1, d2, d3, d4] }
  | _ => none }
def orderBackRow : OpenClaim := { program := "ytabliglgeiajlaa", sum := "bf33a2a2cbfd3f33832c087fea745cc29a16249e8d1ec432c35c34dba6f2f5be", func := "reticent/reticentlaw02.OrderBack", spec := "orderBack", unfollowed := true, recurses := true, apart := false }
def OrderBackSaid : Prop := orderBackRow.holds Try.pinned (OpenSpec.ofChange orderBackSpec)

/-- ITS FALSE NEIGHBOUR: 'it returns false'. Refute it at one input. -/
def orderBackWrong : ChangeSpec := { name := "orderBack", fn := fun _ => fun
  | [d1, d2, d3, d4] => { results := [.lit (.bool false)], args := [d1, d2, d3, d4] }
  | _ => none }
def OrderBackWrongFalsely : Prop := orderBackRow.holds Try.pinned (OpenSpec.ofChange orderBackWrong)

/-- 'reticentlaw12.EquivParts': WHATEVER THE INPUT: true; the input reads as it did. -/
def equivPartsSpec : ChangeSpec := { name := "equivParts", fn := fun _ => fun
  | [d1, d2, d3, d4] => { results := [.lit (.bool true)], args := [d1, d2, d3, d4] }
  | _ => none }
def equivPartsRow : OpenClaim := { program := "ytabliglgeiajlaa", sum := "bf33a2a2cbfd3f33832c087fea745cc29a16249e8d1ec432c35c34dba6f2f5be", func := "reticent/reticentlaw12.EquivParts", spec := "equivParts", unfollowed := true, recurses := true, apart := false }
def EquivPartsSaid : Prop := equivPartsRow.holds Try.pinned (OpenSpec.ofChange equivPartsSpec)

/-- ITS FALSE NEIGHBOUR: 'it returns false'. Refute it at one input. -/
def equivPartsWrong : ChangeSpec := { name := "equivParts", fn := fun _ => fun
  | [d1, d2, d3, d4] => { results := [.lit (.bool false)], args := [d1, d2, d3, d4] }
  | _ => none }
def EquivPartsWrongFalsely : Prop := equivPartsRow.holds Try.pinned (OpenSpec.ofChange equivPartsWrong)

/-- 'reticentlaw15.GenMakes': WHATEVER THE INPUT: true; the input reads as it did. -/
def genMakesSpec : ChangeSpec := { name := "genMakes", fn := fun _ => fun
  | [d1, d2, d3] => { results := [.lit (.bool true)], args := [d1, d2, d3] }
  | _ => none }
def genMakesRow : OpenClaim := { program := "ytabliglgeiajlaa", sum := "bf33a2a2cbfd3f33832c087fea745cc29a16249e8d1ec432c35c34dba6f2f5be", func := "reticent/reticentlaw15.GenMakes", spec := "genMakes", unfollowed := true, recurses := true, apart := false }
def GenMakesSaid : Prop := genMakesRow.holds Try.pinned (OpenSpec.ofChange genMakesSpec)

/-- ITS FALSE NEIGHBOUR: 'it returns false'. Refute it at one input. -/
def genMakesWrong : ChangeSpec := { name := "genMakes", fn := fun _ => fun
  | [d1, d2, d3] => { results := [.lit (.bool false)], args := [d1, d2, d3] }
  | _ => none }
def GenMakesWrongFalsely : Prop := genMakesRow.holds Try.pinned (OpenSpec.ofChange genMakesWrong)

/-- 'reticentlaw12.EquivStates': WHATEVER THE INPUT: true; the input reads as it did. -/
def equivStatesSpec : ChangeSpec := { name := "equivStates", fn := fun _ => fun
  | [d1, d2, d3, d4] => { results := [.lit (.bool true)], args := [d1, d2, d3, d4] }
  | _ => none }
def equivStatesRow : OpenClaim := { program := "ytabliglgeiajlaa", sum := "bf33a2a2cbfd3f33832c087fea745cc29a16249e8d1ec432c35c34dba6f2f5be", func := "reticent/reticentlaw12.EquivStates", spec := "equivStates", unfollowed := true, recurses := true, apart := false }
def EquivStatesSaid : Prop := equivStatesRow.holds Try.pinned (OpenSpec.ofChange equivStatesSpec)

/-- ITS FALSE NEIGHBOUR: 'it returns false'. Refute it at one input. -/
def equivStatesWrong : ChangeSpec := { name := "equivStates", fn := fun _ => fun
  | [d1, d2, d3, d4] => { results := [.lit (.bool false)], args := [d1, d2, d3, d4] }
  | _ => none }
def EquivStatesWrongFalsely : Prop := equivStatesRow.holds Try.pinned (OpenSpec.ofChange equivStatesWrong)

/-- 'reticentlaw12.EquivHolds': WHATEVER THE INPUT: true; the input reads as it did. -/
def equivHoldsSpec : ChangeSpec := { name := "equivHolds", fn := fun _ => fun
  | [d1, d2, d3, d4, d5] => { results := [.lit (.bool true)], args := [d1, d2, d3, d4, d5] }
  | _ => none }
def equivHoldsRow : OpenClaim := { program := "ytabliglgeiajlaa", sum := "bf33a2a2cbfd3f33832c087fea745cc29a16249e8d1ec432c35c34dba6f2f5be", func := "reticent/reticentlaw12.EquivHolds", spec := "equivHolds", unfollowed := true, recurses := true, apart := false }
def EquivHoldsSaid : Prop := equivHoldsRow.holds Try.pinned (OpenSpec.ofChange equivHoldsSpec)

/-- ITS FALSE NEIGHBOUR: 'it returns false'. Refute it at one input. -/
def equivHoldsWrong : ChangeSpec := { name := "equivHolds", fn := fun _ => fun
  | [d1, d2, d3, d4, d5] => { results := [.lit (.bool false)], args := [d1, d2, d3, d4, d5] }
  | _ => none }
def EquivHoldsWrongFalsely : Prop := equivHoldsRow.holds Try.pinned (OpenSpec.ofChange equivHoldsWrong)

/-- 'reticentlaw15.GenHas': WHATEVER THE INPUT: true; the input reads as it did. -/
def genHasSpec : ChangeSpec := { name := "genHas", fn := fun _ => fun
  | [d1, d2, d3] => { results := [.lit (.bool true)], args := [d1, d2, d3] }
  | _ => none }
def genHasRow : OpenClaim := { program := "ytabliglgeiajlaa", sum := "bf33a2a2cbfd3f33832c087fea745cc29a16249e8d1ec432c35c34dba6f2f5be", func := "reticent/reticentlaw15.GenHas", spec := "genHas", unfollowed := true, recurses := true, apart := false }
def GenHasSaid : Prop := genHasRow.holds Try.pinned (OpenSpec.ofChange genHasSpec)

/-- ITS FALSE NEIGHBOUR: 'it returns false'. Refute it at one input. -/
def genHasWrong : ChangeSpec := { name := "genHas", fn := fun _ => fun
  | [d1, d2, d3] => { results := [.lit (.bool false)], args := [d1, d2, d3] }
  | _ => none }
def GenHasWrongFalsely : Prop := genHasRow.holds Try.pinned (OpenSpec.ofChange genHasWrong)

/-- 'reticentlaw15.GenStays': WHATEVER THE INPUT: true; the input reads as it did. -/
def genStaysSpec : ChangeSpec := { name := "genStays", fn := fun _ => fun
  | [d1, d2, d3] => { results := [.lit (.bool true)], args := [d1, d2, d3] }
  | _ => none }
def genStaysRow : OpenClaim := { program := "ytabliglgeiajlaa", sum := "bf33a2a2cbfd3f33832c087fea745cc29a16249e8d1ec432c35c34dba6f2f5be", func := "reticent/reticentlaw15.GenStays", spec := "genStays", unfollowed := true, recurses := true, apart := false }
def GenStaysSaid : Prop := genStaysRow.holds Try.pinned (OpenSpec.ofChange genStaysSpec)

/-- ITS FALSE NEIGHBOUR: 'it returns false'. Refute it at one input. -/
def genStaysWrong : ChangeSpec := { name := "genStays", fn := fun _ => fun
  | [d1, d2, d3] => { results := [.lit (.bool false)], args := [d1, d2, d3] }
  | _ => none }
def GenStaysWrongFalsely : Prop := genStaysRow.holds Try.pinned (OpenSpec.ofChange genStaysWrong)

/-- 'reticentlaw18.SeqStays': WHATEVER THE INPUT: true; the input reads as it did. -/
def seqStaysSpec : ChangeSpec := { name := "seqStays", fn := fun _ => fun
  | [d1, d2, d3] => { results := [.lit (.bool true)], args := [d1, d2, d3] }
  | _ => none }
def seqStaysRow : OpenClaim := { program := "ytabliglgeiajlaa", sum := "bf33a2a2cbfd3f33832c087fea745cc29a16249e8d1ec432c35c34dba6f2f5be", func := "reticent/reticentlaw18.SeqStays", spec := "seqStays", unfollowed := true, recurses := true, apart := false }
def SeqStaysSaid : Prop := seqStaysRow.holds Try.pinned (OpenSpec.ofChange seqStaysSpec)

/-- ITS FALSE NEIGHBOUR: 'it returns false'. Refute it at one input. -/
def seqStaysWrong : ChangeSpec := { name := "seqStays", fn := fun _ => fun
  | [d1, d2, d3] => { results := [.lit (.bool false)], args := [d1, d2, d3] }
  | _ => none }
def SeqStaysWrongFalsely : Prop := seqStaysRow.holds Try.pinned (OpenSpec.ofChange seqStaysWrong)

/-- 'reticentlaw21.MovesLess': WHATEVER THE INPUT: true; the input reads as it did. -/
def movesLessSpec : ChangeSpec := { name := "movesLess", fn := fun _ => fun
  | [d1, d2] => { results := [.lit (.bool true)], args := [d1, d2] }
  | _ => none }
def movesLessRow : OpenClaim := { program := "ytabliglgeiajlaa", sum := "bf33a2a2cbfd3f33832c087fea745cc29a16249e8d1ec432c35c34dba6f2f5be", func := "reticent/reticentlaw21.MovesLess", spec := "movesLess", unfollowed := true, recurses := true, apart := false }
def MovesLessSaid : Prop := movesLessRow.holds Try.pinned (OpenSpec.ofChange movesLessSpec)

/-- ITS FALSE NEIGHBOUR: 'it returns false'. Refute it at one input. -/
def movesLessWrong : ChangeSpec := { name := "movesLess", fn := fun _ => fun
  | [d1, d2] => { results := [.lit (.bool false)], args := [d1, d2] }
  | _ => none }
def MovesLessWrongFalsely : Prop := movesLessRow.holds Try.pinned (OpenSpec.ofChange movesLessWrong)

/- THE SECOND FORM. 'bulk': how many values and letters a reading holds, each counted each time it is reached (what is shared counts as often as it is met; a slice's spare places count too). A statement '..UptoSaid' is the law's where the arguments, and the package variables that the reading takes, are together of bulk at most 1048576: NARROWER than '..Said'. Prove '..Said' where nothing that the law and all that it calls make is longer than what came in: it says more and counts as full. Else prove '..UptoSaid'. A law counts once. -/
mutual
def uptoBulk {H : Type} : DataW H → Nat
  | .lit (.string bytes) => bytes.length + 1
  | .lit _ => 1
  | .nil => 1
  | .ptr d => uptoBulk d + 1
  | .slice elems spare => uptoBulkAll elems + uptoBulkAll spare + 1
  | .agg parts => uptoBulkAll parts + 1
  | .iface _ d => uptoBulk d + 1
  | .map entries => uptoBulkEntries entries + 1
  | .held _ => 1
def uptoBulkAll {H : Type} : List (DataW H) → Nat
  | [] => 0
  | d :: r => uptoBulk d + uptoBulkAll r
def uptoBulkEntries {H : Type} : List (Lit × DataW H) → Nat
  | [] => 0
  | x :: r => uptoBulkEntry x + uptoBulkEntries r
def uptoBulkEntry {H : Type} : Lit × DataW H → Nat
  | (.string bytes, d) => bytes.length + uptoBulk d + 1
  | (_, d) => uptoBulk d + 1
 end
def uptoSmall : (H : Type) → List (DataW H) → Bool := fun _ ds => decide (uptoBulkAll ds ≤ 1048576)
def OpenSpec.upto (s : _root_.Go.ChangeSpec) : _root_.Go.OpenSpec := { _root_.Go.OpenSpec.ofChange s with cond := some uptoSmall }

/-- 'reticentlaw02.OrderMakes', WHERE WHAT IT READS IS OF BULK AT MOST 1048576: true; the input reads as it did. -/
def orderMakesUptoRow : OpenClaim := { program := "ytabliglgeiajlaa", sum := "bf33a2a2cbfd3f33832c087fea745cc29a16249e8d1ec432c35c34dba6f2f5be", func := "reticent/reticentlaw02.OrderMakes", spec := "orderMakes", unfollowed := true, recurses := true, apart := false, narrowed := true }
def OrderMakesUptoSaid : Prop := orderMakesUptoRow.holds Try.pinned (OpenSpec.upto orderMakesSpec)

/-- 'reticentlaw13.DrawOrders', WHERE WHAT IT READS IS OF BULK AT MOST 1048576: true; the input reads as it did. -/
def drawOrdersUptoRow : OpenClaim := { program := "ytabliglgeiajlaa", sum := "bf33a2a2cbfd3f33832c087fea745cc29a16249e8d1ec432c35c34dba6f2f5be", func := "reticent/reticentlaw13.DrawOrders", spec := "drawOrders", apart := false, narrowed := true }
def DrawOrdersUptoSaid : Prop := drawOrdersUptoRow.holds Try.pinned (OpenSpec.upto drawOrdersSpec)

/-- 'reticentlaw14.PickSigned', WHERE WHAT IT READS IS OF BULK AT MOST 1048576: true; the input reads as it did. -/
def pickSignedUptoRow : OpenClaim := { program := "ytabliglgeiajlaa", sum := "bf33a2a2cbfd3f33832c087fea745cc29a16249e8d1ec432c35c34dba6f2f5be", func := "reticent/reticentlaw14.PickSigned", spec := "pickSigned", unfollowed := true, recurses := true, apart := false, narrowed := true }
def PickSignedUptoSaid : Prop := pickSignedUptoRow.holds Try.pinned (OpenSpec.upto pickSignedSpec)

/-- 'reticentlaw14.PickWeighted', WHERE WHAT IT READS IS OF BULK AT MOST 1048576: true; the input reads as it did. -/
def pickWeightedUptoRow : OpenClaim := { program := "ytabliglgeiajlaa", sum := "bf33a2a2cbfd3f33832c087fea745cc29a16249e8d1ec432c35c34dba6f2f5be", func := "reticent/reticentlaw14.PickWeighted", spec := "pickWeighted", unfollowed := true, recurses := true, apart := false, narrowed := true }
def PickWeightedUptoSaid : Prop := pickWeightedUptoRow.holds Try.pinned (OpenSpec.upto pickWeightedSpec)

/-- 'reticentlaw14.PickBack', WHERE WHAT IT READS IS OF BULK AT MOST 1048576: true; the input reads as it did. -/
def pickBackUptoRow : OpenClaim := { program := "ytabliglgeiajlaa", sum := "bf33a2a2cbfd3f33832c087fea745cc29a16249e8d1ec432c35c34dba6f2f5be", func := "reticent/reticentlaw14.PickBack", spec := "pickBack", unfollowed := true, recurses := true, apart := false, narrowed := true }
def PickBackUptoSaid : Prop := pickBackUptoRow.holds Try.pinned (OpenSpec.upto pickBackSpec)

/-- 'reticentlaw02.OrderEdges', WHERE WHAT IT READS IS OF BULK AT MOST 1048576: true; the input reads as it did. -/
def orderEdgesUptoRow : OpenClaim := { program := "ytabliglgeiajlaa", sum := "bf33a2a2cbfd3f33832c087fea745cc29a16249e8d1ec432c35c34dba6f2f5be", func := "reticent/reticentlaw02.OrderEdges", spec := "orderEdges", unfollowed := true, recurses := true, apart := false, narrowed := true }
def OrderEdgesUptoSaid : Prop := orderEdgesUptoRow.holds Try.pinned (OpenSpec.upto orderEdgesSpec)

/-- 'reticentlaw02.OrderOf', WHERE WHAT IT READS IS OF BULK AT MOST 1048576: true; the input reads as it did. -/
def orderOfUptoRow : OpenClaim := { program := "ytabliglgeiajlaa", sum := "bf33a2a2cbfd3f33832c087fea745cc29a16249e8d1ec432c35c34dba6f2f5be", func := "reticent/reticentlaw02.OrderOf", spec := "orderOf", unfollowed := true, recurses := true, apart := false, narrowed := true }
def OrderOfUptoSaid : Prop := orderOfUptoRow.holds Try.pinned (OpenSpec.upto orderOfSpec)

/-- 'reticentlaw02.OrderBack', WHERE WHAT IT READS IS OF BULK AT MOST 1048576: true; the input reads as it did. -/
def orderBackUptoRow : OpenClaim := { program := "ytabliglgeiajlaa", sum := "bf33a2a2cbfd3f33832c087fea745cc29a16249e8d1ec432c35c34dba6f2f5be", func := "reticent/reticentlaw02.OrderBack", spec := "orderBack", unfollowed := true, recurses := true, apart := false, narrowed := true }
def OrderBackUptoSaid : Prop := orderBackUptoRow.holds Try.pinned (OpenSpec.upto orderBackSpec)

/-- 'reticentlaw12.EquivParts', WHERE WHAT IT READS IS OF BULK AT MOST 1048576: true; the input reads as it did. -/
def equivPartsUptoRow : OpenClaim := { program := "ytabliglgeiajlaa", sum := "bf33a2a2cbfd3f33832c087fea745cc29a16249e8d1ec432c35c34dba6f2f5be", func := "reticent/reticentlaw12.EquivParts", spec := "equivParts", unfollowed := true, recurses := true, apart := false, narrowed := true }
def EquivPartsUptoSaid : Prop := equivPartsUptoRow.holds Try.pinned (OpenSpec.upto equivPartsSpec)

/-- 'reticentlaw15.GenMakes', WHERE WHAT IT READS IS OF BULK AT MOST 1048576: true; the input reads as it did. -/
def genMakesUptoRow : OpenClaim := { program := "ytabliglgeiajlaa", sum := "bf33a2a2cbfd3f33832c087fea745cc29a16249e8d1ec432c35c34dba6f2f5be", func := "reticent/reticentlaw15.GenMakes", spec := "genMakes", unfollowed := true, recurses := true, apart := false, narrowed := true }
def GenMakesUptoSaid : Prop := genMakesUptoRow.holds Try.pinned (OpenSpec.upto genMakesSpec)

/-- 'reticentlaw12.EquivStates', WHERE WHAT IT READS IS OF BULK AT MOST 1048576: true; the input reads as it did. -/
def equivStatesUptoRow : OpenClaim := { program := "ytabliglgeiajlaa", sum := "bf33a2a2cbfd3f33832c087fea745cc29a16249e8d1ec432c35c34dba6f2f5be", func := "reticent/reticentlaw12.EquivStates", spec := "equivStates", unfollowed := true, recurses := true, apart := false, narrowed := true }
def EquivStatesUptoSaid : Prop := equivStatesUptoRow.holds Try.pinned (OpenSpec.upto equivStatesSpec)

/-- 'reticentlaw12.EquivHolds', WHERE WHAT IT READS IS OF BULK AT MOST 1048576: true; the input reads as it did. -/
def equivHoldsUptoRow : OpenClaim := { program := "ytabliglgeiajlaa", sum := "bf33a2a2cbfd3f33832c087fea745cc29a16249e8d1ec432c35c34dba6f2f5be", func := "reticent/reticentlaw12.EquivHolds", spec := "equivHolds", unfollowed := true, recurses := true, apart := false, narrowed := true }
def EquivHoldsUptoSaid : Prop := equivHoldsUptoRow.holds Try.pinned (OpenSpec.upto equivHoldsSpec)

/-- 'reticentlaw15.GenHas', WHERE WHAT IT READS IS OF BULK AT MOST 1048576: true; the input reads as it did. -/
def genHasUptoRow : OpenClaim := { program := "ytabliglgeiajlaa", sum := "bf33a2a2cbfd3f33832c087fea745cc29a16249e8d1ec432c35c34dba6f2f5be", func := "reticent/reticentlaw15.GenHas", spec := "genHas", unfollowed := true, recurses := true, apart := false, narrowed := true }
def GenHasUptoSaid : Prop := genHasUptoRow.holds Try.pinned (OpenSpec.upto genHasSpec)

/-- 'reticentlaw15.GenStays', WHERE WHAT IT READS IS OF BULK AT MOST 1048576: true; the input reads as it did. -/
def genStaysUptoRow : OpenClaim := { program := "ytabliglgeiajlaa", sum := "bf33a2a2cbfd3f33832c087fea745cc29a16249e8d1ec432c35c34dba6f2f5be", func := "reticent/reticentlaw15.GenStays", spec := "genStays", unfollowed := true, recurses := true, apart := false, narrowed := true }
def GenStaysUptoSaid : Prop := genStaysUptoRow.holds Try.pinned (OpenSpec.upto genStaysSpec)

/-- 'reticentlaw18.SeqStays', WHERE WHAT IT READS IS OF BULK AT MOST 1048576: true; the input reads as it did. -/
def seqStaysUptoRow : OpenClaim := { program := "ytabliglgeiajlaa", sum := "bf33a2a2cbfd3f33832c087fea745cc29a16249e8d1ec432c35c34dba6f2f5be", func := "reticent/reticentlaw18.SeqStays", spec := "seqStays", unfollowed := true, recurses := true, apart := false, narrowed := true }
def SeqStaysUptoSaid : Prop := seqStaysUptoRow.holds Try.pinned (OpenSpec.upto seqStaysSpec)

/-- 'reticentlaw21.MovesLess', WHERE WHAT IT READS IS OF BULK AT MOST 1048576: true; the input reads as it did. -/
def movesLessUptoRow : OpenClaim := { program := "ytabliglgeiajlaa", sum := "bf33a2a2cbfd3f33832c087fea745cc29a16249e8d1ec432c35c34dba6f2f5be", func := "reticent/reticentlaw21.MovesLess", spec := "movesLess", unfollowed := true, recurses := true, apart := false, narrowed := true }
def MovesLessUptoSaid : Prop := movesLessUptoRow.holds Try.pinned (OpenSpec.upto movesLessSpec)

end Rows
end Go.Proofs.Ytabliglgeiajlaa
