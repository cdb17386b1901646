/- Labels that may be looked at. -/
import Derived.Test.YtabliglgeiajlaaQ1
set_option linter.unusedSimpArgs false
set_option linter.unusedVariables false
namespace Go.Proofs.Ytabliglgeiajlaa.AM
open Go Go.RowKit Go.Proofs
set_option maxRecDepth 100000
set_option maxHeartbeats 1000000

def oddL (n : Nat) (a : Int) : Bool := decide (a < 0) || decide ((n : Int) ≤ a)
/-- A row of numbers of one's own, that grows. -/
def cellI (l : List Int) : List D := l.map fun x => .v (.int .i64 x)
@[push_cast] theorem frz_cellI (l : List Int) : frzAll (cellI l) = true := by induction l with | nil => rfl | cons a l ih => simpa [cellI, frzAll, frz, frz0] using ih
@[push_cast] theorem fr_cellI (k g sz : Nat) (c : List D) (l : List Int) : (cellI l).map (fr1 k g sz c) = cellI l := by simp [cellI, fr1, fr0]
end Go.Proofs.Ytabliglgeiajlaa.AM
