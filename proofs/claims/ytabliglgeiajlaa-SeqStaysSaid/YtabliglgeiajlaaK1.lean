/- The kinds of what comes in. -/
import Derived.Test.YtabliglgeiajlaaU1
import Derived.Test.YtabliglgeiajlaaMc
set_option linter.unusedSimpArgs false
set_option linter.unusedVariables false
namespace Go.Proofs.Ytabliglgeiajlaa.AM
open Go Go.RowKit Go.Proofs
set_option maxRecDepth 100000

abbrev kInt : Kk := .int .i64
abbrev kInts : Kk := .sl kInt
theorem conf_int : Conf Try.prog (.ty 3) kInt := .int Try.underlying3
theorem conf_ints : Conf Try.prog (.ty 36) kInts := .sl Try.underlying36 (by kernel_rfl) (by decide) conf_int
theorem is_int {e : D} (h : Shape kInt [e]) : ∃ n, e = .v (.int .i64 n) := by obtain ⟨n, rfl, _⟩ := shape_int h; exact ⟨n, rfl⟩
theorem is_ints {e : D} (h : Shape kInts [e]) : ∃ l, e = .sl false 1 (intRow l) ∧ l.length ≤ maxLen := by
  obtain ⟨xs, rfl, h1, h2⟩ := shape_sl h
  obtain ⟨l, rfl⟩ := shape_rows (fun n : Int => [D.v (.int .i64 n)]) (fun x hx => by
    obtain ⟨e, rfl, he⟩ := shape_one hx rfl
    obtain ⟨n, rfl⟩ := is_int he
    exact ⟨n, rfl⟩) h1
  exact ⟨l, rfl, by simpa using h2⟩
end Go.Proofs.Ytabliglgeiajlaa.AM
