/- States, when two are the same. -/
import Derived.Test.YtabliglgeiajlaaQ1
import Derived.Test.YtabliglgeiajlaaW0
set_option linter.unusedSimpArgs false
set_option linter.unusedVariables false
namespace Go.Proofs.Ytabliglgeiajlaa.AM
open Go Go.RowKit Go.Proofs
set_option maxRecDepth 100000
set_option maxHeartbeats 1000000

/-- A state, as it is handed in. -/
def staF (fc fm fs fo : Bool) (s : Sta) : List D := [.v (.int .i64 s.v), .v (.int .i64 s.l), .sl fc 3 (tRow s.code), .sl fm 2 (pRow s.mem), .sl fs 3 (sRow s.stack), .sl fo 2 (pRow s.out)]
structure Sml (s : Sta) : Prop where
  code : s.code.length ≤ 1000
  mem : s.mem.length ≤ 1000
  stack : s.stack.length ≤ 1000
  out : s.out.length ≤ 1000
structure Sml15 (s : Sta) : Prop where
  code : s.code.length ≤ 15
  mem : s.mem.length ≤ 15
  stack : s.stack.length ≤ 15
  out : s.out.length ≤ 15
theorem Sml15.sml {s : Sta} (h : Sml15 s) : Sml s := ⟨by have := h.code; omega, by have := h.mem; omega, by have := h.stack; omega, by have := h.out; omega⟩
def cutSta (s : Sta) : Sta := ⟨s.v, s.l, s.code.take 15, s.mem.take 15, s.stack.take 15, s.out.take 15⟩
theorem cutSta_sml (s : Sta) : (cutSta s).code.length ≤ 15 ∧ (cutSta s).mem.length ≤ 15 ∧ (cutSta s).stack.length ≤ 15 ∧ (cutSta s).out.length ≤ 15 := by
  simp [cutSta]; omega
theorem cutSta_15 (s : Sta) : Sml15 (cutSta s) := let ⟨h1, h2, h3, h4⟩ := cutSta_sml s; ⟨h1, h2, h3, h4⟩
end Go.Proofs.Ytabliglgeiajlaa.AM
