/- The kinds of what comes in: pairs of numbers. -/
import Derived.Test.YtabliglgeiajlaaK1
import Derived.Test.YtabliglgeiajlaaX0
set_option linter.unusedSimpArgs false
set_option linter.unusedVariables false
namespace Go.Proofs.Ytabliglgeiajlaa.AM
open Go Go.RowKit Go.Proofs
set_option maxRecDepth 100000

abbrev kPair : Kk := .pair kInt (.pair kInt .unit)
theorem is_pair {ds : List D} (h : Shape kPair ds) : ∃ p : Int × Int, ds = [.v (.int .i64 p.1), .v (.int .i64 p.2)] := by
  obtain ⟨a, b, rfl, h1, h2⟩ := shape_pair h
  obtain ⟨c, d, rfl, h3, h4⟩ := shape_pair h2
  cases shape_unit h4
  obtain ⟨e1, rfl, h1⟩ := shape_one h1 rfl
  obtain ⟨e2, rfl, h3⟩ := shape_one h3 rfl
  obtain ⟨n, rfl⟩ := is_int h1
  obtain ⟨m, rfl⟩ := is_int h3
  exact ⟨(n, m), rfl⟩
end Go.Proofs.Ytabliglgeiajlaa.AM
