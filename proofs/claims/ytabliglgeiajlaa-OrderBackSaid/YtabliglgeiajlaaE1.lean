/- Which edges are least, without Go. -/
import Derived.Test.YtabliglgeiajlaaX1
set_option linter.unusedSimpArgs false
set_option linter.unusedVariables false
namespace Go.Proofs.Ytabliglgeiajlaa.AM
open Go Go.RowKit Go.Proofs
set_option maxRecDepth 100000
set_option maxHeartbeats 1000000

def isN (us : List Nat) (a b : Nat) : Nat → Bool
  | 0 => decide (¬ a = b) && fl us a b
  | c + 1 => if (decide (¬ c = a) && decide (¬ c = b) && fl us a c && fl us c b) = true then false else isN us a b c
theorem isN_iff (us : List Nat) (a b n : Nat) : isN us a b n = true ↔ ((¬ a = b ∧ fl us a b = true) ∧ ∀ c, c < n → ¬ (¬ c = a ∧ ¬ c = b ∧ fl us a c = true ∧ fl us c b = true)) := by
  induction n with
  | zero => simp [isN]
  | succ n ih =>
    rw [isN]
    split
    · rename_i h
      simp only [Bool.and_eq_true, decide_eq_true_eq] at h
      obtain ⟨⟨⟨h1, h2⟩, h3⟩, h4⟩ := h
      constructor
      · intro h; cases h
      · intro h
        exact absurd ⟨h1, h2, h3, h4⟩ (h.2 n (by omega))
    · rename_i h
      rw [ih]
      constructor
      · rintro ⟨h1, h2⟩
        refine ⟨h1, fun c hc hq => ?_⟩
        by_cases e : c = n
        · subst e
          apply h
          simp only [Bool.and_eq_true, decide_eq_true_eq]
          exact ⟨⟨⟨hq.1, hq.2.1⟩, hq.2.2.1⟩, hq.2.2.2⟩
        · exact h2 c (by omega) hq
      · rintro ⟨h1, h2⟩
        exact ⟨h1, fun c hc => h2 c (by omega)⟩
theorem farN_bit {us : List Nat} (hu : U32 us) (h8 : us.length ≤ 8) {a : Nat} (ha : a < us.length) (b : Nat) : ∀ i, i ≤ us.length → ((farN us a i).testBit b = true ↔ ∃ c, c < i ∧ ¬ c = a ∧ ¬ b = c ∧ fl us a c = true ∧ fl us c b = true)
  | 0, _ => by simp [farN]
  | i + 1, h => by
    have ih := farN_bit hu h8 ha b i (by omega)
    have h1 := one_and (abv us a) i
    rw [abv_bit hu ha h8] at h1
    rw [farN]
    by_cases hf : (fl us a i && decide (¬ i = a)) = true
    · rw [if_pos hf] at h1
      rw [if_pos h1, Nat.testBit_or, Bool.or_eq_true, ih, abv_bit hu (by omega) h8]
      simp only [Bool.and_eq_true, decide_eq_true_eq] at hf ⊢
      constructor
      · rintro (⟨c, hc, hq⟩ | ⟨h2, h3⟩)
        · exact ⟨c, by omega, hq⟩
        · exact ⟨i, by omega, hf.2, h3, hf.1, h2⟩
      · rintro ⟨c, hc, q1, q2, q3, q4⟩
        by_cases e : c = i
        · subst e; exact .inr ⟨q4, q2⟩
        · exact .inl ⟨c, by omega, q1, q2, q3, q4⟩
    · rw [if_neg hf] at h1
      rw [if_neg (by rw [h1]; decide), ih]
      simp only [Bool.and_eq_true, decide_eq_true_eq] at hf
      constructor
      · rintro ⟨c, hc, hq⟩
        exact ⟨c, by omega, hq⟩
      · rintro ⟨c, hc, q1, q2, q3, q4⟩
        by_cases e : c = i
        · subst e; exact absurd ⟨q3, q1⟩ hf
        · exact ⟨c, by omega, q1, q2, q3, q4⟩
theorem cov_isN {us : List Nat} (hu : U32 us) (h8 : us.length ≤ 8) {a b : Nat} (ha : a < us.length) (hb : b < us.length) : cov us a b = isN us a b us.length := by
  rw [Bool.eq_iff_iff, isN_iff]
  unfold cov
  rw [one_and, anB_bit (abv_lt hu ha) (farN_lt hu _ (Nat.le_refl _)), abv_bit hu ha h8]
  have hf := farN_bit hu h8 ha b us.length (Nat.le_refl _)
  have e : ∀ x : Bool, decide ((if x = true then 1 else 0) = 1) = x := by decide
  rw [e]
  simp only [Bool.and_eq_true, Bool.not_eq_true', decide_eq_true_eq]
  constructor
  · rintro ⟨⟨h1, h2⟩, h3⟩
    refine ⟨⟨fun e => h2 e.symm, h1⟩, fun c hc hq => ?_⟩
    have := hf.2 ⟨c, hc, hq.1, fun e => hq.2.1 e.symm, hq.2.2.1, hq.2.2.2⟩
    rw [h3] at this; cases this
  · rintro ⟨⟨h1, h2⟩, h3⟩
    refine ⟨⟨h2, fun e => h1 e.symm⟩, ?_⟩
    cases hq : (farN us a us.length).testBit b with
    | false => rfl
    | true =>
      obtain ⟨c, hc, q1, q2, q3, q4⟩ := hf.1 hq
      exact absurd ⟨q1, fun e => q2 e.symm, q3, q4⟩ (h3 c hc)
end Go.Proofs.Ytabliglgeiajlaa.AM
