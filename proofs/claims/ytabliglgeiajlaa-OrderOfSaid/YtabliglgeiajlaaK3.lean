/- The kinds of what comes in: edges. -/
import Derived.Test.YtabliglgeiajlaaK2
import Derived.Test.YtabliglgeiajlaaX1
set_option linter.unusedSimpArgs false
set_option linter.unusedVariables false
namespace Go.Proofs.Ytabliglgeiajlaa.AM
open Go Go.RowKit Go.Proofs
set_option maxRecDepth 100000

abbrev kPair : Kk := .pair kInt (.pair kInt .unit)
abbrev kEdges : Kk := .sl (.st kPair)
theorem conf_edges : Conf Try.prog (.ty 61) kEdges := .sl Try.underlying61 (by kernel_rfl) (by decide) (.st Try.underlying75 (by kernel_rfl) (.pair rfl (by kernel_rfl) conf_int (.pair rfl (by kernel_rfl) conf_int .unit)))
theorem is_pair {ds : List D} (h : Shape kPair ds) : ∃ p : Int × Int, ds = [.v (.int .i64 p.1), .v (.int .i64 p.2)] := by
  obtain ⟨a, b, rfl, h1, h2⟩ := shape_pair h
  obtain ⟨c, d, rfl, h3, h4⟩ := shape_pair h2
  cases shape_unit h4
  obtain ⟨e1, rfl, h1⟩ := shape_one h1 rfl
  obtain ⟨e2, rfl, h3⟩ := shape_one h3 rfl
  obtain ⟨n, rfl⟩ := is_int h1
  obtain ⟨m, rfl⟩ := is_int h3
  exact ⟨(n, m), rfl⟩
theorem is_edges {e : D} (h : Shape kEdges [e]) : ∃ l, e = .sl false 2 (pRow l) ∧ l.length ≤ maxLen := by
  obtain ⟨xs, rfl, h1, h2⟩ := shape_sl h
  obtain ⟨l, rfl⟩ := shape_rows (fun p : Int × Int => [D.v (.int .i64 p.1), .v (.int .i64 p.2)]) (fun x hx => is_pair (shape_st hx)) h1
  exact ⟨l, rfl, by simpa using h2⟩
end Go.Proofs.Ytabliglgeiajlaa.AM
