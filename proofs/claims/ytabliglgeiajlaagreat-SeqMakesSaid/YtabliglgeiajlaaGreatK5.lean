/- The kinds of what comes in: spaces. -/
import Derived.Test.YtabliglgeiajlaaGreatK1
import Derived.Test.YtabliglgeiajlaaGreatHT
set_option linter.unusedSimpArgs false
set_option linter.unusedVariables false
namespace Go.Proofs.YtabliglgeiajlaaGreat.AM
open Go Go.RowKit Go.Proofs
set_option maxRecDepth 100000

abbrev kSpace : Kk := .pair kInt (.pair kInt (.pair kInt (.pair kInt (.pair kInts .unit))))
theorem conf_space : Conf Tryz.prog (.ty 28) (.st kSpace) := .st Tryz.underlying28 (by kernel_rfl) (.pair rfl (by kernel_rfl) conf_int (.pair rfl (by kernel_rfl) conf_int (.pair rfl (by kernel_rfl) conf_int (.pair rfl (by kernel_rfl) conf_int (.pair rfl (by kernel_rfl) conf_ints .unit)))))
theorem is_space {ds : List D} (h : Shape kSpace ds) : ∃ sp : Sp, D.agg ds = .agg (spF false sp) := by
  obtain ⟨a1, b1, rfl, h1, g1⟩ := shape_pair h
  obtain ⟨a2, b2, rfl, h2, g2⟩ := shape_pair g1
  obtain ⟨a3, b3, rfl, h3, g3⟩ := shape_pair g2
  obtain ⟨a4, b4, rfl, h4, g4⟩ := shape_pair g3
  obtain ⟨a5, b5, rfl, h5, g5⟩ := shape_pair g4
  cases shape_unit g5
  obtain ⟨e1, rfl, h1⟩ := shape_one h1 rfl
  obtain ⟨e2, rfl, h2⟩ := shape_one h2 rfl
  obtain ⟨e3, rfl, h3⟩ := shape_one h3 rfl
  obtain ⟨e4, rfl, h4⟩ := shape_one h4 rfl
  obtain ⟨e5, rfl, h5⟩ := shape_one h5 rfl
  obtain ⟨n1, rfl⟩ := is_int h1
  obtain ⟨n2, rfl⟩ := is_int h2
  obtain ⟨n3, rfl⟩ := is_int h3
  obtain ⟨n4, rfl⟩ := is_int h4
  obtain ⟨ws, rfl, _⟩ := is_ints h5
  exact ⟨⟨n1, n2, n3, n4, ws⟩, rfl⟩
end Go.Proofs.YtabliglgeiajlaaGreat.AM
