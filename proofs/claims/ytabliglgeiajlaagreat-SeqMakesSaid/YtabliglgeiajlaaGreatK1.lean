/- The kinds of what comes in. -/
import Derived.Test.YtabliglgeiajlaaGreatU1
import Derived.Test.YtabliglgeiajlaaGreatMc
set_option linter.unusedSimpArgs false
set_option linter.unusedVariables false
namespace Go.Proofs.YtabliglgeiajlaaGreat.AM
open Go Go.RowKit Go.Proofs
set_option maxRecDepth 100000

abbrev kInt : Kk := .int .i64
abbrev kInts : Kk := .sl kInt
abbrev kDr : Kk := .pair kInts (.pair kInt (.pair kInts .unit))
theorem conf_int : Conf Tryz.prog (.ty 3) kInt := .int Tryz.underlying3
theorem conf_ints : Conf Tryz.prog (.ty 26) kInts := .sl Tryz.underlying26 (by kernel_rfl) (by decide) conf_int
theorem conf_dr : Conf Tryz.prog (.ty 30) (.st kDr) := .st Tryz.underlying30 (by kernel_rfl) (.pair rfl (by kernel_rfl) conf_ints (.pair rfl (by kernel_rfl) conf_int (.pair rfl (by kernel_rfl) conf_ints .unit)))
theorem is_int {e : D} (h : Shape kInt [e]) : ∃ n, e = .v (.int .i64 n) := by obtain ⟨n, rfl, _⟩ := shape_int h; exact ⟨n, rfl⟩
theorem is_ints {e : D} (h : Shape kInts [e]) : ∃ l, e = .sl false 1 (intRow l) ∧ l.length ≤ maxLen := by
  obtain ⟨xs, rfl, h1, h2⟩ := shape_sl h
  obtain ⟨l, rfl⟩ := shape_rows (fun n : Int => [D.v (.int .i64 n)]) (fun x hx => by
    obtain ⟨e, rfl, he⟩ := shape_one hx rfl
    obtain ⟨n, rfl⟩ := is_int he
    exact ⟨n, rfl⟩) h1
  exact ⟨l, rfl, by simpa using h2⟩
theorem is_dr {ds : List D} (h : Shape kDr ds) : ∃ l lg a, D.agg ds = .agg [.sl false 1 (intRow l), .v (.int .i64 a), .sl false 1 (intRow lg)] := by
  obtain ⟨a, b, rfl, h1, h2⟩ := shape_pair h
  obtain ⟨c, d, rfl, h3, h4⟩ := shape_pair h2
  obtain ⟨x, y, rfl, h5, h6⟩ := shape_pair h4
  cases shape_unit h6
  obtain ⟨e1, rfl, h1⟩ := shape_one h1 rfl
  obtain ⟨e2, rfl, h3⟩ := shape_one h3 rfl
  obtain ⟨e3, rfl, h5⟩ := shape_one h5 rfl
  obtain ⟨l, rfl, _⟩ := is_ints h1
  obtain ⟨n, rfl⟩ := is_int h3
  obtain ⟨lg, rfl, _⟩ := is_ints h5
  exact ⟨l, lg, n, rfl⟩
end Go.Proofs.YtabliglgeiajlaaGreat.AM
