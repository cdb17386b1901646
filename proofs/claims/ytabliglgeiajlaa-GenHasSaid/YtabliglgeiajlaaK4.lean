/- The kinds of what comes in: states. -/
import Derived.Test.YtabliglgeiajlaaK0
import Derived.Test.YtabliglgeiajlaaK2
import Derived.Test.YtabliglgeiajlaaS0
set_option linter.unusedSimpArgs false
set_option linter.unusedVariables false
namespace Go.Proofs.Ytabliglgeiajlaa.AM
open Go Go.RowKit Go.Proofs
set_option maxRecDepth 100000

abbrev kTrip : Kk := .pair kInt (.pair kInt (.pair kInt .unit))
abbrev kSlot : Kk := .pair .bool (.pair kInt (.pair kInt .unit))
abbrev kSta : Kk := .pair (.st kPair) (.pair (.sl (.st kTrip)) (.pair (.sl (.st kPair)) (.pair (.sl (.st kSlot)) (.pair (.sl (.st kPair)) .unit))))
theorem conf_atom : Conf Try.prog (.ty 79) (.st kPair) := .st Try.underlying79 (by kernel_rfl) (.pair rfl (by kernel_rfl) conf_int (.pair rfl (by kernel_rfl) conf_int .unit))
theorem conf_instr : Conf Try.prog (.ty 172) (.st kTrip) := .st Try.underlying172 (by kernel_rfl) (.pair rfl (by kernel_rfl) conf_int (.pair rfl (by kernel_rfl) conf_int (.pair rfl (by kernel_rfl) conf_int .unit)))
theorem conf_slot : Conf Try.prog (.ty 113) (.st kSlot) := .st Try.underlying113 (by kernel_rfl) (.pair rfl (by kernel_rfl) (.bool Try.underlying4) (.pair rfl (by kernel_rfl) conf_int (.pair rfl (by kernel_rfl) conf_int .unit)))
theorem conf_atoms : Conf Try.prog (.ty 81) (.sl (.st kPair)) := .sl Try.underlying81 (by kernel_rfl) (by decide) conf_atom
theorem conf_instrs : Conf Try.prog (.ty 80) (.sl (.st kTrip)) := .sl Try.underlying80 (by kernel_rfl) (by decide) conf_instr
theorem conf_slots : Conf Try.prog (.ty 82) (.sl (.st kSlot)) := .sl Try.underlying82 (by kernel_rfl) (by decide) conf_slot
theorem conf_state : Conf Try.prog (.ty 84) (.st kSta) := .st Try.underlying84 (by kernel_rfl) (.pair rfl (by kernel_rfl) conf_atom (.pair rfl (by kernel_rfl) conf_instrs (.pair rfl (by kernel_rfl) conf_atoms (.pair rfl (by kernel_rfl) conf_slots (.pair rfl (by kernel_rfl) conf_atoms .unit)))))
theorem is_trip {ds : List D} (h : Shape kTrip ds) : ∃ p : Int × Int × Int, ds = [.v (.int .i64 p.1), .v (.int .i64 p.2.1), .v (.int .i64 p.2.2)] := by
  obtain ⟨a, b, rfl, h1, h2⟩ := shape_pair h
  obtain ⟨c, d, rfl, h3, h4⟩ := shape_pair h2
  obtain ⟨e, g, rfl, h5, h6⟩ := shape_pair h4
  cases shape_unit h6
  obtain ⟨e1, rfl, h1⟩ := shape_one h1 rfl
  obtain ⟨e2, rfl, h3⟩ := shape_one h3 rfl
  obtain ⟨e3, rfl, h5⟩ := shape_one h5 rfl
  obtain ⟨n, rfl⟩ := is_int h1
  obtain ⟨m, rfl⟩ := is_int h3
  obtain ⟨k, rfl⟩ := is_int h5
  exact ⟨(n, m, k), rfl⟩
theorem isK_slot {ds : List D} (h : Shape kSlot ds) : ∃ p : Bool × Int × Int, ds = [.v (.bool p.1), .v (.int .i64 p.2.1), .v (.int .i64 p.2.2)] := by
  obtain ⟨a, b, rfl, h1, h2⟩ := shape_pair h
  obtain ⟨c, d, rfl, h3, h4⟩ := shape_pair h2
  obtain ⟨e, g, rfl, h5, h6⟩ := shape_pair h4
  cases shape_unit h6
  obtain ⟨e1, rfl, h1⟩ := shape_one h1 rfl
  obtain ⟨e2, rfl, h3⟩ := shape_one h3 rfl
  obtain ⟨e3, rfl, h5⟩ := shape_one h5 rfl
  obtain ⟨n, rfl⟩ := shape_bool h1
  obtain ⟨m, rfl⟩ := is_int h3
  obtain ⟨k, rfl⟩ := is_int h5
  exact ⟨(n, m, k), rfl⟩
theorem is_atoms {e : D} (h : Shape (.sl (.st kPair)) [e]) : ∃ l, e = .sl false 2 (pRow l) := by
  obtain ⟨xs, rfl, h1, h2⟩ := shape_sl h
  obtain ⟨l, rfl⟩ := shape_rows (fun p : Int × Int => [D.v (.int .i64 p.1), .v (.int .i64 p.2)]) (fun x hx => is_pair (shape_st hx)) h1
  exact ⟨l, rfl⟩
theorem is_instrs {e : D} (h : Shape (.sl (.st kTrip)) [e]) : ∃ l, e = .sl false 3 (tRow l) := by
  obtain ⟨xs, rfl, h1, h2⟩ := shape_sl h
  obtain ⟨l, rfl⟩ := shape_rows (fun p : Int × Int × Int => [D.v (.int .i64 p.1), .v (.int .i64 p.2.1), .v (.int .i64 p.2.2)]) (fun x hx => is_trip (shape_st hx)) h1
  exact ⟨l, rfl⟩
theorem is_slots {e : D} (h : Shape (.sl (.st kSlot)) [e]) : ∃ l, e = .sl false 3 (sRow l) := by
  obtain ⟨xs, rfl, h1, h2⟩ := shape_sl h
  obtain ⟨l, rfl⟩ := shape_rows (fun p : Bool × Int × Int => [D.v (.bool p.1), .v (.int .i64 p.2.1), .v (.int .i64 p.2.2)]) (fun x hx => isK_slot (shape_st hx)) h1
  exact ⟨l, rfl⟩
theorem is_state {ds : List D} (h : Shape kSta ds) : ∃ s : Sta, D.agg ds = .agg (staF false false false false s) := by
  obtain ⟨a, b, rfl, h1, h2⟩ := shape_pair h
  obtain ⟨c, d, rfl, h3, h4⟩ := shape_pair h2
  obtain ⟨e, g, rfl, h5, h6⟩ := shape_pair h4
  obtain ⟨i, j, rfl, h7, h8⟩ := shape_pair h6
  obtain ⟨k, l, rfl, h9, h10⟩ := shape_pair h8
  cases shape_unit h10
  obtain ⟨p, rfl⟩ := is_pair (shape_st h1)
  obtain ⟨e1, rfl, h3⟩ := shape_one h3 rfl
  obtain ⟨e2, rfl, h5⟩ := shape_one h5 rfl
  obtain ⟨e3, rfl, h7⟩ := shape_one h7 rfl
  obtain ⟨e4, rfl, h9⟩ := shape_one h9 rfl
  obtain ⟨l1, rfl⟩ := is_instrs h3
  obtain ⟨l2, rfl⟩ := is_atoms h5
  obtain ⟨l3, rfl⟩ := is_slots h7
  obtain ⟨l4, rfl⟩ := is_atoms h9
  exact ⟨⟨p.1, p.2, l1, l2, l3, l4⟩, rfl⟩
end Go.Proofs.Ytabliglgeiajlaa.AM
