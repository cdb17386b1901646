/- The reference's choices by weights; the least choices. -/
import Derived.Test.YtabliglgeiajlaaU5
set_option linter.unusedSimpArgs false
set_option linter.unusedVariables false
namespace Go.Proofs.Ytabliglgeiajlaa.AM
open Go Go.RowKit Go.Proofs
set_option maxRecDepth 100000
set_option maxHeartbeats 400000

/-! ### The least choice that picks a place -/
theorem sum_mono {ws : List Int} (hw : ∀ w ∈ ws, 0 ≤ w ∧ w ≤ 100) {i j : Nat} (h : i ≤ j) : (ws.take i).sum ≤ (ws.take j).sum := by
  induction j with
  | zero => simp at h; subst h; simp
  | succ j ih =>
    by_cases he : i = j + 1
    · rw [he]; omega
    · have := ih (by omega)
      by_cases hj : j < ws.length
      · rw [take_sum_succ hj]
        have := hw ws[j] (List.getElem_mem _)
        omega
      · rw [List.take_of_length_le (by omega : ws.length ≤ j)] at this
        rw [List.take_of_length_le (by omega : ws.length ≤ j + 1)]
        exact this
theorem pickI_iff {ws : List Int} (hw : ∀ w ∈ ws, 0 ≤ w ∧ w ≤ 100) {n i : Int} (h0 : 0 ≤ n) (hn : n < ws.sum) :
    pickI ws n = i ↔ ∃ k : Nat, k < ws.length ∧ i = k ∧ (ws.take k).sum ≤ n ∧ n < (ws.take (k + 1)).sum := by
  have hex : ∃ k : Nat, k < ws.length ∧ (ws.take k).sum ≤ n ∧ n < (ws.take (k + 1)).sum := by
    rcases ok_dec ws.length (fun k => decide (¬ n < (ws.take (k + 1)).sum)) with h | ⟨k, hk, h1, h2⟩
    · exfalso
      cases hl : ws.length with
      | zero => rw [List.length_eq_zero_iff.1 hl] at hn; simp at hn; omega
      | succ m =>
        have := h m (by omega)
        rw [← hl, List.take_length] at this
        simp at this; omega
    · refine ⟨k, hk, ?_, by simpa using h1⟩
      cases k with
      | zero => simpa using h0
      | succ k => have := h2 k (by omega); simp at this; exact this
  obtain ⟨k, hk, hk1, hk2⟩ := hex
  have hp : pickI ws n = k := pickI_at hk hk2 (fun j hj => by have := sum_mono hw (show j + 1 ≤ k by omega); omega)
  constructor
  · intro h; exact ⟨k, hk, by omega, hk1, hk2⟩
  · rintro ⟨k', hk', rfl, h1, h2⟩
    rw [hp]
    rcases Nat.lt_trichotomy k k' with h | h | h
    · have := sum_mono hw (show k + 1 ≤ k' by omega); omega
    · rw [h]
    · have := sum_mono hw (show k' + 1 ≤ k by omega); omega
end Go.Proofs.Ytabliglgeiajlaa.AM
