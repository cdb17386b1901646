/- Facts of the whole program, for every row. -/
import Derived.Test.YtabliglgeiajlaaRows
import Derived.WalkKit
import Derived.ProofKit
namespace Go.Proofs.Ytabliglgeiajlaa.Fx
open Go Go.RowKit Go.Proofs
theorem fact1 : (laidOutB Try.pinned.checked.prog) = true := by kernel_rfl
theorem fact2 : (mapsRowed Try.pinned.checked.prog) = true := by kernel_rfl
theorem fact6 : ((Try.pinned.checked.prog.stops == [])) = true := by kernel_rfl
theorem fact8 : ((Try.pinned.checked.prog.stopKnobs == [])) = true := by kernel_rfl
theorem fact22 : ((Rows.pickSignedRow.plainKeys == Try.pinned.checked.prog.plainKeys)) = true := by kernel_rfl
theorem fact24 : (Try.pinned.checked.prog.stopsHeard) = true := by kernel_rfl
theorem fact25 : (Try.pinned.checked.prog.mayEnter) = true := by kernel_rfl
theorem fact26 : ((Rows.pickSignedRow.lifted == Try.pinned.checked.prog.liftsFinal)) = true := by kernel_rfl
theorem fact27 : ((Try.pinned.checked.prog.make == some Rows.pickSignedRow.make)) = true := by kernel_rfl
end Go.Proofs.Ytabliglgeiajlaa.Fx
