/- The kinds of what comes in: strings, lattices. -/
import Derived.Test.YtabliglgeiajlaaGreatK1
import Derived.Test.YtabliglgeiajlaaGreatV2
set_option linter.unusedSimpArgs false
set_option linter.unusedVariables false
namespace Go.Proofs.YtabliglgeiajlaaGreat.AM
open Go Go.RowKit Go.Proofs
set_option maxRecDepth 100000

abbrev kStr : Kk := .str
abbrev kStrs : Kk := .sl kStr
abbrev kU32 : Kk := .int .u32
abbrev kU32s : Kk := .sl kU32
abbrev kLat : Kk := .pair kStrs (.pair kU32s .unit)
theorem conf_str : Conf Tryz.prog (.ty 9) kStr := .str Tryz.underlying9
theorem conf_strs : Conf Tryz.prog (.ty 22) kStrs := .sl Tryz.underlying22 (by kernel_rfl) (by decide) conf_str
theorem conf_u32 : Conf Tryz.prog (.ty 98) kU32 := .int Tryz.underlying98
theorem conf_u32s : Conf Tryz.prog (.ty 23) kU32s := .sl Tryz.underlying23 (by kernel_rfl) (by decide) conf_u32
theorem conf_lat : Conf Tryz.prog (.ty 25) (.st kLat) := .st Tryz.underlying25 (by kernel_rfl) (.pair rfl (by kernel_rfl) conf_strs (.pair rfl (by kernel_rfl) conf_u32s .unit))
theorem is_str {e : D} (h : Shape kStr [e]) : ∃ s : ByteArray, e = .v (.string s) ∧ s.size ≤ maxLen := shape_str h
theorem is_strs {e : D} (h : Shape kStrs [e]) : ∃ l, e = .sl false 1 (strRow l) ∧ (∀ s ∈ l, s.size ≤ maxLen) ∧ l.length ≤ maxLen := by
  obtain ⟨xs, rfl, h1, h2⟩ := shape_sl h
  obtain ⟨l, rfl⟩ := shape_rows (fun s : { s : ByteArray // s.size ≤ maxLen } => [D.v (.string s.1)]) (fun x hx => by
    obtain ⟨e, rfl, he⟩ := shape_one hx rfl
    obtain ⟨n, rfl, hn⟩ := is_str he
    exact ⟨⟨n, hn⟩, rfl⟩) h1
  refine ⟨l.map (·.1), by simp [strRow, List.map_map]; rfl, fun s hs => ?_, by simpa using h2⟩
  obtain ⟨x, _, rfl⟩ := List.mem_map.1 hs
  exact x.2
theorem is_u32 {e : D} (h : Shape kU32 [e]) : ∃ u : Nat, e = .v (.int .u32 (uv u)) ∧ u < 2 ^ 32 := by
  obtain ⟨n, rfl, hw⟩ := shape_int h
  have h2 : 0 ≤ n ∧ n < 4294967296 := by
    simp only [Lit.wf, Bool.and_eq_true, decide_eq_true_eq] at hw
    have e1 : IntKind.u32.min = 0 := rfl
    have e2 : IntKind.u32.max = 4294967295 := by decide
    omega
  refine ⟨n.toNat, ?_, by omega⟩
  rw [uv, Int.toNat_of_nonneg h2.1]
theorem is_u32s {e : D} (h : Shape kU32s [e]) : ∃ l, e = .sl false 1 (u32Row l) ∧ U32 l ∧ l.length ≤ maxLen := by
  obtain ⟨xs, rfl, h1, h2⟩ := shape_sl h
  obtain ⟨l, rfl⟩ := shape_rows (fun u : { u : Nat // u < 2 ^ 32 } => [D.v (.int .u32 (uv u.1))]) (fun x hx => by
    obtain ⟨e, rfl, he⟩ := shape_one hx rfl
    obtain ⟨n, rfl, hn⟩ := is_u32 he
    exact ⟨⟨n, hn⟩, rfl⟩) h1
  refine ⟨l.map (·.1), by simp [u32Row, List.map_map]; rfl, fun s hs => ?_, by simpa using h2⟩
  obtain ⟨x, _, rfl⟩ := List.mem_map.1 hs
  exact x.2
structure NsOk (ns : List ByteArray) : Prop where
  szs : Szs ns
  len : ns.length ≤ maxLen
structure UsOk (us : List Nat) : Prop where
  u32 : U32 us
  len : us.length ≤ maxLen
theorem is_lat {ds : List D} (h : Shape kLat ds) : ∃ ns us, D.agg ds = .agg [.sl false 1 (strRow ns), .sl false 1 (u32Row us)] ∧ NsOk ns ∧ UsOk us := by
  obtain ⟨a, b, rfl, h1, h2⟩ := shape_pair h
  obtain ⟨c, d, rfl, h3, h4⟩ := shape_pair h2
  cases shape_unit h4
  obtain ⟨e1, rfl, h1⟩ := shape_one h1 rfl
  obtain ⟨e2, rfl, h3⟩ := shape_one h3 rfl
  obtain ⟨ns, rfl, h5, h6⟩ := is_strs h1
  obtain ⟨us, rfl, h7, h8⟩ := is_u32s h3
  exact ⟨ns, us, rfl, ⟨fun s hs => Nat.le_trans (h5 s hs) (by decide), h6⟩, ⟨h7, h8⟩⟩
end Go.Proofs.YtabliglgeiajlaaGreat.AM
