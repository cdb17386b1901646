/- Facts of the whole program, for every row. -/
import Derived.Test.YtabliglgeiajlaaGreatRows
import Derived.WalkKit
import Derived.ProofKit
namespace Go.Proofs.YtabliglgeiajlaaGreat.Fx
open Go Go.RowKit Go.Proofs
theorem fact1 : (laidOutB Tryz.pinned.checked.prog) = true := by kernel_rfl
theorem fact2 : (mapsRowed Tryz.pinned.checked.prog) = true := by kernel_rfl
theorem fact6 : ((Tryz.pinned.checked.prog.stops == [])) = true := by kernel_rfl
theorem fact8 : ((Tryz.pinned.checked.prog.stopKnobs == [])) = true := by kernel_rfl
theorem fact22 : ((Rows.seqMakesRow.plainKeys == Tryz.pinned.checked.prog.plainKeys)) = true := by kernel_rfl
theorem fact24 : (Tryz.pinned.checked.prog.stopsHeard) = true := by kernel_rfl
theorem fact25 : (Tryz.pinned.checked.prog.mayEnter) = true := by kernel_rfl
theorem fact26 : ((Rows.seqMakesRow.lifted == Tryz.pinned.checked.prog.liftsFinal)) = true := by kernel_rfl
theorem fact27 : ((Tryz.pinned.checked.prog.make == some Rows.seqMakesRow.make)) = true := by kernel_rfl
end Go.Proofs.YtabliglgeiajlaaGreat.Fx
