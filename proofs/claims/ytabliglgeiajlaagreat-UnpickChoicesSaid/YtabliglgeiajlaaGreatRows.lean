/-
  No cell of these rows narrows 'for every input' (looked for: loops, veiled, ifaces, maps, wideKeys, modest, calm, conditions, laid).
  DERIVED. THE GIVEN ROWS OF THIS SEAT. 7 by the template 'for every input the law returns true; each argument reads behind the call as it read before'; 0 by the template 'total and deterministic' (their statements: YtabliglgeiajlaaGreatTotals.lean).
  GIVEN WITH THE SEED: the statements are not yours to turn. If you find one false, say at which input.
  Laid BY PROGRAM, IN A SANDBOX (cutbox-rows.mjs): the forced cells as the released guide's own fill.sh prints them over the translation 794fc1f5e751aaad… (all of the seat's roots in one cut). By AI agents, Wed Nov 11 2026. No macro, syntax, notation, axiom, sorry.
-/
import Derived.Test.YtabliglgeiajlaaGreatChecked
import GoSem.Claim
import GoSem.ClaimJoined
import GoSem.ClaimMapViews
import Derived.JoinedTies
import Derived.KernelRfl
namespace Go.Proofs.YtabliglgeiajlaaGreat
/- THE CELL 'sum', in the pinned program and in every row, IS THE sha256 OF THE DUMP (.gsa) THAT YtabliglgeiajlaaGreatProg.lean LOADS. Nothing in Lean hashes anything: it is a label: what it is worth is what the hold of that sum in a sandbox is worth. -/
noncomputable def Tryz.pinned : Pinned := { name := "ytabliglgeiajlaagreat", sum := "794fc1f5e751aaadbfa39aded4df261143d23bfcbbcc7dc2423ee2a7f486bba1", checked := Tryz.checked }
namespace Rows
def none {H : Type} : Left H := { results := [], args := [] }

/-- 'reticentlaw18.SeqMakes': WHATEVER THE INPUT: true; the input reads as it did. -/
def seqMakesSpec : ChangeSpec := { name := "seqMakes", fn := fun _ => fun
  | [d1, d2, d3] => { results := [.lit (.bool true)], args := [d1, d2, d3] }
  | _ => none }
def seqMakesRow : OpenClaim := { program := "ytabliglgeiajlaagreat", sum := "794fc1f5e751aaadbfa39aded4df261143d23bfcbbcc7dc2423ee2a7f486bba1", func := "reticent/reticentlaw18.SeqMakes", spec := "seqMakes", unfollowed := true, recurses := true, apart := false }
def SeqMakesSaid : Prop := seqMakesRow.holds Tryz.pinned (OpenSpec.ofChange seqMakesSpec)

/-- ITS FALSE NEIGHBOUR: 'it returns false'. Refute it at one input. -/
def seqMakesWrong : ChangeSpec := { name := "seqMakes", fn := fun _ => fun
  | [d1, d2, d3] => { results := [.lit (.bool false)], args := [d1, d2, d3] }
  | _ => none }
def SeqMakesWrongFalsely : Prop := seqMakesRow.holds Tryz.pinned (OpenSpec.ofChange seqMakesWrong)

/-- 'reticentlaw21.MovesAll': WHATEVER THE INPUT: true; the input reads as it did. -/
def movesAllSpec : ChangeSpec := { name := "movesAll", fn := fun _ => fun
  | [d1, d2] => { results := [.lit (.bool true)], args := [d1, d2] }
  | _ => none }
def movesAllRow : OpenClaim := { program := "ytabliglgeiajlaagreat", sum := "794fc1f5e751aaadbfa39aded4df261143d23bfcbbcc7dc2423ee2a7f486bba1", func := "reticent/reticentlaw21.MovesAll", spec := "movesAll", unfollowed := true, recurses := true, apart := false }
def MovesAllSaid : Prop := movesAllRow.holds Tryz.pinned (OpenSpec.ofChange movesAllSpec)

/-- ITS FALSE NEIGHBOUR: 'it returns false'. Refute it at one input. -/
def movesAllWrong : ChangeSpec := { name := "movesAll", fn := fun _ => fun
  | [d1, d2] => { results := [.lit (.bool false)], args := [d1, d2] }
  | _ => none }
def MovesAllWrongFalsely : Prop := movesAllRow.holds Tryz.pinned (OpenSpec.ofChange movesAllWrong)

/-- 'reticentlaw21.MovesMeasure': WHATEVER THE INPUT: true; the input reads as it did. -/
def movesMeasureSpec : ChangeSpec := { name := "movesMeasure", fn := fun _ => fun
  | [d1, d2, d3, d4] => { results := [.lit (.bool true)], args := [d1, d2, d3, d4] }
  | _ => none }
def movesMeasureRow : OpenClaim := { program := "ytabliglgeiajlaagreat", sum := "794fc1f5e751aaadbfa39aded4df261143d23bfcbbcc7dc2423ee2a7f486bba1", func := "reticent/reticentlaw21.MovesMeasure", spec := "movesMeasure", unfollowed := true, recurses := true, apart := false }
def MovesMeasureSaid : Prop := movesMeasureRow.holds Tryz.pinned (OpenSpec.ofChange movesMeasureSpec)

/-- ITS FALSE NEIGHBOUR: 'it returns false'. Refute it at one input. -/
def movesMeasureWrong : ChangeSpec := { name := "movesMeasure", fn := fun _ => fun
  | [d1, d2, d3, d4] => { results := [.lit (.bool false)], args := [d1, d2, d3, d4] }
  | _ => none }
def MovesMeasureWrongFalsely : Prop := movesMeasureRow.holds Tryz.pinned (OpenSpec.ofChange movesMeasureWrong)

/-- 'reticentlaw17.UnpickChoices': WHATEVER THE INPUT: true; the input reads as it did. -/
def unpickChoicesSpec : ChangeSpec := { name := "unpickChoices", fn := fun _ => fun
  | [d1, d2, d3, d4, d5] => { results := [.lit (.bool true)], args := [d1, d2, d3, d4, d5] }
  | _ => none }
def unpickChoicesRow : OpenClaim := { program := "ytabliglgeiajlaagreat", sum := "794fc1f5e751aaadbfa39aded4df261143d23bfcbbcc7dc2423ee2a7f486bba1", func := "reticent/reticentlaw17.UnpickChoices", spec := "unpickChoices", unfollowed := true, recurses := true, apart := false }
def UnpickChoicesSaid : Prop := unpickChoicesRow.holds Tryz.pinned (OpenSpec.ofChange unpickChoicesSpec)

/-- ITS FALSE NEIGHBOUR: 'it returns false'. Refute it at one input. -/
def unpickChoicesWrong : ChangeSpec := { name := "unpickChoices", fn := fun _ => fun
  | [d1, d2, d3, d4, d5] => { results := [.lit (.bool false)], args := [d1, d2, d3, d4, d5] }
  | _ => none }
def UnpickChoicesWrongFalsely : Prop := unpickChoicesRow.holds Tryz.pinned (OpenSpec.ofChange unpickChoicesWrong)

/-- 'reticentlaw16.VaryAlike': WHATEVER THE INPUT: true; the input reads as it did. -/
def varyAlikeSpec : ChangeSpec := { name := "varyAlike", fn := fun _ => fun
  | [d1, d2, d3, d4] => { results := [.lit (.bool true)], args := [d1, d2, d3, d4] }
  | _ => none }
def varyAlikeRow : OpenClaim := { program := "ytabliglgeiajlaagreat", sum := "794fc1f5e751aaadbfa39aded4df261143d23bfcbbcc7dc2423ee2a7f486bba1", func := "reticent/reticentlaw16.VaryAlike", spec := "varyAlike", unfollowed := true, recurses := true, apart := false }
def VaryAlikeSaid : Prop := varyAlikeRow.holds Tryz.pinned (OpenSpec.ofChange varyAlikeSpec)

/-- ITS FALSE NEIGHBOUR: 'it returns false'. Refute it at one input. -/
def varyAlikeWrong : ChangeSpec := { name := "varyAlike", fn := fun _ => fun
  | [d1, d2, d3, d4] => { results := [.lit (.bool false)], args := [d1, d2, d3, d4] }
  | _ => none }
def VaryAlikeWrongFalsely : Prop := varyAlikeRow.holds Tryz.pinned (OpenSpec.ofChange varyAlikeWrong)

/-- 'reticentlaw17.UnpickMakes': WHATEVER THE INPUT: true; the input reads as it did. -/
def unpickMakesSpec : ChangeSpec := { name := "unpickMakes", fn := fun _ => fun
  | [d1, d2, d3, d4, d5] => { results := [.lit (.bool true)], args := [d1, d2, d3, d4, d5] }
  | _ => none }
def unpickMakesRow : OpenClaim := { program := "ytabliglgeiajlaagreat", sum := "794fc1f5e751aaadbfa39aded4df261143d23bfcbbcc7dc2423ee2a7f486bba1", func := "reticent/reticentlaw17.UnpickMakes", spec := "unpickMakes", unfollowed := true, recurses := true, apart := false }
def UnpickMakesSaid : Prop := unpickMakesRow.holds Tryz.pinned (OpenSpec.ofChange unpickMakesSpec)

/-- ITS FALSE NEIGHBOUR: 'it returns false'. Refute it at one input. -/
def unpickMakesWrong : ChangeSpec := { name := "unpickMakes", fn := fun _ => fun
  | [d1, d2, d3, d4, d5] => { results := [.lit (.bool false)], args := [d1, d2, d3, d4, d5] }
  | _ => none }
def UnpickMakesWrongFalsely : Prop := unpickMakesRow.holds Tryz.pinned (OpenSpec.ofChange unpickMakesWrong)

/-- 'reticentlaw17.UnpickLeast': WHATEVER THE INPUT: true; the input reads as it did. -/
def unpickLeastSpec : ChangeSpec := { name := "unpickLeast", fn := fun _ => fun
  | [d1, d2, d3, d4] => { results := [.lit (.bool true)], args := [d1, d2, d3, d4] }
  | _ => none }
def unpickLeastRow : OpenClaim := { program := "ytabliglgeiajlaagreat", sum := "794fc1f5e751aaadbfa39aded4df261143d23bfcbbcc7dc2423ee2a7f486bba1", func := "reticent/reticentlaw17.UnpickLeast", spec := "unpickLeast", unfollowed := true, recurses := true, apart := false }
def UnpickLeastSaid : Prop := unpickLeastRow.holds Tryz.pinned (OpenSpec.ofChange unpickLeastSpec)

/-- ITS FALSE NEIGHBOUR: 'it returns false'. Refute it at one input. -/
def unpickLeastWrong : ChangeSpec := { name := "unpickLeast", fn := fun _ => fun
  | [d1, d2, d3, d4] => { results := [.lit (.bool false)], args := [d1, d2, d3, d4] }
  | _ => none }
def UnpickLeastWrongFalsely : Prop := unpickLeastRow.holds Tryz.pinned (OpenSpec.ofChange unpickLeastWrong)

/- THE SECOND FORM. 'bulk': how many values and letters a reading holds, each counted each time it is reached (what is shared counts as often as it is met; a slice's spare places count too). A statement '..UptoSaid' is the law's where the arguments, and the package variables that the reading takes, are together of bulk at most 1048576: NARROWER than '..Said'. Prove '..Said' where nothing that the law and all that it calls make is longer than what came in: it says more and counts as full. Else prove '..UptoSaid'. A law counts once. -/
mutual
def uptoBulk {H : Type} : DataW H → Nat
  | .lit (.string bytes) => bytes.length + 1
  | .lit _ => 1
  | .nil => 1
  | .ptr d => uptoBulk d + 1
  | .slice elems spare => uptoBulkAll elems + uptoBulkAll spare + 1
  | .agg parts => uptoBulkAll parts + 1
  | .iface _ d => uptoBulk d + 1
  | .map entries => uptoBulkEntries entries + 1
  | .held _ => 1
def uptoBulkAll {H : Type} : List (DataW H) → Nat
  | [] => 0
  | d :: r => uptoBulk d + uptoBulkAll r
def uptoBulkEntries {H : Type} : List (Lit × DataW H) → Nat
  | [] => 0
  | x :: r => uptoBulkEntry x + uptoBulkEntries r
def uptoBulkEntry {H : Type} : Lit × DataW H → Nat
  | (.string bytes, d) => bytes.length + uptoBulk d + 1
  | (_, d) => uptoBulk d + 1
 end
def uptoSmall : (H : Type) → List (DataW H) → Bool := fun _ ds => decide (uptoBulkAll ds ≤ 1048576)
def OpenSpec.upto (s : _root_.Go.ChangeSpec) : _root_.Go.OpenSpec := { _root_.Go.OpenSpec.ofChange s with cond := some uptoSmall }

/-- 'reticentlaw18.SeqMakes', WHERE WHAT IT READS IS OF BULK AT MOST 1048576: true; the input reads as it did. -/
def seqMakesUptoRow : OpenClaim := { program := "ytabliglgeiajlaagreat", sum := "794fc1f5e751aaadbfa39aded4df261143d23bfcbbcc7dc2423ee2a7f486bba1", func := "reticent/reticentlaw18.SeqMakes", spec := "seqMakes", unfollowed := true, recurses := true, apart := false, narrowed := true }
def SeqMakesUptoSaid : Prop := seqMakesUptoRow.holds Tryz.pinned (OpenSpec.upto seqMakesSpec)

/-- 'reticentlaw21.MovesAll', WHERE WHAT IT READS IS OF BULK AT MOST 1048576: true; the input reads as it did. -/
def movesAllUptoRow : OpenClaim := { program := "ytabliglgeiajlaagreat", sum := "794fc1f5e751aaadbfa39aded4df261143d23bfcbbcc7dc2423ee2a7f486bba1", func := "reticent/reticentlaw21.MovesAll", spec := "movesAll", unfollowed := true, recurses := true, apart := false, narrowed := true }
def MovesAllUptoSaid : Prop := movesAllUptoRow.holds Tryz.pinned (OpenSpec.upto movesAllSpec)

/-- 'reticentlaw21.MovesMeasure', WHERE WHAT IT READS IS OF BULK AT MOST 1048576: true; the input reads as it did. -/
def movesMeasureUptoRow : OpenClaim := { program := "ytabliglgeiajlaagreat", sum := "794fc1f5e751aaadbfa39aded4df261143d23bfcbbcc7dc2423ee2a7f486bba1", func := "reticent/reticentlaw21.MovesMeasure", spec := "movesMeasure", unfollowed := true, recurses := true, apart := false, narrowed := true }
def MovesMeasureUptoSaid : Prop := movesMeasureUptoRow.holds Tryz.pinned (OpenSpec.upto movesMeasureSpec)

/-- 'reticentlaw17.UnpickChoices', WHERE WHAT IT READS IS OF BULK AT MOST 1048576: true; the input reads as it did. -/
def unpickChoicesUptoRow : OpenClaim := { program := "ytabliglgeiajlaagreat", sum := "794fc1f5e751aaadbfa39aded4df261143d23bfcbbcc7dc2423ee2a7f486bba1", func := "reticent/reticentlaw17.UnpickChoices", spec := "unpickChoices", unfollowed := true, recurses := true, apart := false, narrowed := true }
def UnpickChoicesUptoSaid : Prop := unpickChoicesUptoRow.holds Tryz.pinned (OpenSpec.upto unpickChoicesSpec)

/-- 'reticentlaw16.VaryAlike', WHERE WHAT IT READS IS OF BULK AT MOST 1048576: true; the input reads as it did. -/
def varyAlikeUptoRow : OpenClaim := { program := "ytabliglgeiajlaagreat", sum := "794fc1f5e751aaadbfa39aded4df261143d23bfcbbcc7dc2423ee2a7f486bba1", func := "reticent/reticentlaw16.VaryAlike", spec := "varyAlike", unfollowed := true, recurses := true, apart := false, narrowed := true }
def VaryAlikeUptoSaid : Prop := varyAlikeUptoRow.holds Tryz.pinned (OpenSpec.upto varyAlikeSpec)

/-- 'reticentlaw17.UnpickMakes', WHERE WHAT IT READS IS OF BULK AT MOST 1048576: true; the input reads as it did. -/
def unpickMakesUptoRow : OpenClaim := { program := "ytabliglgeiajlaagreat", sum := "794fc1f5e751aaadbfa39aded4df261143d23bfcbbcc7dc2423ee2a7f486bba1", func := "reticent/reticentlaw17.UnpickMakes", spec := "unpickMakes", unfollowed := true, recurses := true, apart := false, narrowed := true }
def UnpickMakesUptoSaid : Prop := unpickMakesUptoRow.holds Tryz.pinned (OpenSpec.upto unpickMakesSpec)

/-- 'reticentlaw17.UnpickLeast', WHERE WHAT IT READS IS OF BULK AT MOST 1048576: true; the input reads as it did. -/
def unpickLeastUptoRow : OpenClaim := { program := "ytabliglgeiajlaagreat", sum := "794fc1f5e751aaadbfa39aded4df261143d23bfcbbcc7dc2423ee2a7f486bba1", func := "reticent/reticentlaw17.UnpickLeast", spec := "unpickLeast", unfollowed := true, recurses := true, apart := false, narrowed := true }
def UnpickLeastUptoSaid : Prop := unpickLeastUptoRow.holds Tryz.pinned (OpenSpec.upto unpickLeastSpec)

end Rows
end Go.Proofs.YtabliglgeiajlaaGreat
