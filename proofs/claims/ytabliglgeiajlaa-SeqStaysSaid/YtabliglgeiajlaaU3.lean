/- Numbers with a sign. -/
import Derived.Test.YtabliglgeiajlaaU2
set_option linter.unusedSimpArgs false
set_option linter.unusedVariables false
namespace Go.Proofs.Ytabliglgeiajlaa.AM
open Go Go.RowKit Go.Proofs
set_option maxRecDepth 100000
set_option maxHeartbeats 400000
attribute [push_cast] encDr encT13

theorem and_one (n : Int) : ibits .and .i64 n 1 = n % 2 := by
  have h : (BitVec.ofInt 64 n &&& BitVec.ofInt 64 1).toNat = (n % 2).toNat := by
    rw [BitVec.toNat_and, BitVec.toNat_ofInt, BitVec.toNat_ofInt]
    rw [show ((1 : Int) % ((2 ^ 64 : Nat) : Int)).toNat = 1 from by decide, Nat.and_one_is_mod]
    omega
  show IntKind.i64.wrap ((BitVec.ofInt 64 n &&& BitVec.ofInt 64 1).toNat : Int) = n % 2
  rw [h, wrapI (by omega) (by omega)]
  omega
theorem choiceI_range (l : List Int) (a : Int) {b : Int} (hb : 1 ≤ b) : 0 ≤ choiceI l a b ∧ choiceI l a b < b := by
  unfold choiceI
  split
  · exact ⟨Int.emod_nonneg _ (by omega), Int.emod_lt_of_pos _ (by omega)⟩
  · omega
/-- The number that a choice makes. -/
def madeI (n : Int) : Int := if n % 2 = 1 then (n + 1) / 2 else - (n / 2)
def signedF (d : Dr) (most : Int) : Dr × Int × Int :=
  if most < 0 ∨ 20 < most then (Dr.z, 0, 1)
  else if (takeF d (2 * most + 1)).2.2 = 0 then ((takeF d (2 * most + 1)).1, madeI (takeF d (2 * most + 1)).2.1, 0) else (Dr.z, 0, (takeF d (2 * most + 1)).2.2)
theorem takeF_cases (d : Dr) (b : Int) : (∃ e, takeF d b = (Dr.z, 0, e) ∧ e ≠ 0) ∨ ((takeF d b).2.2 = 0 ∧ 1 ≤ b ∧ rightB d.l d.g d.a = true ∧ (takeF d b).2.1 = choiceI d.l d.a b) := by
  unfold takeF
  split
  · exact .inl ⟨1, rfl, by decide⟩
  · rename_i h
    split
    · exact .inl ⟨8, rfl, by decide⟩
    · refine .inr ⟨rfl, by omega, ?_, rfl⟩
      cases hr : rightB d.l d.g d.a with
      | true => rfl
      | false => exact absurd (.inl hr) h
theorem takeF_num (d : Dr) (b : Int) (hb : 1 ≤ b) : 0 ≤ (takeF d b).2.1 ∧ (takeF d b).2.1 < b := by
  rcases takeF_cases d b with ⟨e, h, _⟩ | ⟨_, _, _, h⟩
  · rw [h]; simp only; omega
  · rw [h]; exact choiceI_range _ _ hb
theorem signed_fn (f g : Bool) (l lg : List Int) (a most : Int) :
    Fn Try.prog 29 [.agg [.sl f 1 (intRow l), .v (.int .i64 a), .sl g 1 (intRow lg)], .v (.int .i64 most)] []
      (.tup [encDr f false (signedF ⟨l, a, lg⟩ most).1, .v (.int .i64 (signedF ⟨l, a, lg⟩ most).2.1), .v (.int .i64 (signedF ⟨l, a, lg⟩ most).2.2)]) [] := by
  refine Fn.of (fn := Try.f29) (by kernel_rfl) rfl (by kernel_rfl) ⟨[.agg [.sl f 1 (intRow l), .v (.int .i64 a), .sl g 1 (intRow lg)], .v (.int .i64 most), .v undef, .v undef, .v undef, .v undef, .v undef, .v undef, .v undef, .v undef, .v undef, .v undef, .v undef, .v undef, .v undef, .v undef, .v undef, .v undef, .v undef, .v undef, .v undef, .v undef, .v undef, .v undef, .v undef, .v undef, .v undef, .v undef, .v undef, .v undef, .v undef, .v undef, .v undef, .v undef, .v undef, .v undef, .v undef, .v undef, .v undef, .v undef, .v undef, .v undef], []⟩ rfl ?_
  by_cases h1 : most < 0
  · skip
    repeat' first | (with_reducible first | refine AWP_seq' ?_ | refine k_normal ?_ | refine k_ret ?_ | refine AWP_ret ?_) | ((with_reducible refine AWP_reg fun KC J hJ hKC => ?_); simp (maxSteps := 10000000) only [push_cast, seval, ↓reduceIte, h1]) | ((with_reducible refine hJ _ _ ?_); clear hJ hKC KC J) | ((with_reducible refine AWP_condT ?_ ?_); · rfl)
    refine ret_plain ?_
    simp (maxSteps := 10000000) only [push_cast, seval, ↓reduceIte, show Try.f29.results = #[(.cell 4 40), (.tmp 5), (.tmp 6)] from rfl]
    rw [show signedF ⟨l, a, lg⟩ most = (Dr.z, 0, 1) from if_pos (.inl h1)]
    exact Lq
  by_cases h2 : 20 < most
  · skip
    repeat' first | (with_reducible first | refine AWP_seq' ?_ | refine k_normal ?_ | refine k_ret ?_ | refine AWP_ret ?_) | ((with_reducible refine AWP_reg fun KC J hJ hKC => ?_); simp (maxSteps := 10000000) only [push_cast, seval, ↓reduceIte, h1, h2]) | ((with_reducible refine hJ _ _ ?_); clear hJ hKC KC J) | ((with_reducible refine AWP_condT ?_ ?_); · rfl)
    refine ret_plain ?_
    simp (maxSteps := 10000000) only [push_cast, seval, ↓reduceIte, show Try.f29.results = #[(.cell 4 40), (.tmp 5), (.tmp 6)] from rfl]
    rw [show signedF ⟨l, a, lg⟩ most = (Dr.z, 0, 1) from if_pos (.inr h2)]
    exact Lq
  have w1 : IntKind.i64.wrap (2 * most) = 2 * most := wrapI (by omega) (by omega)
  have w2 : IntKind.i64.wrap (2 * most + 1) = 2 * most + 1 := wrapI (by omega) (by omega)
  obtain ⟨t, ht⟩ : ∃ t, takeF ⟨l, a, lg⟩ (2 * most + 1) = t := ⟨_, rfl⟩
  have hn := takeF_num ⟨l, a, lg⟩ (2 * most + 1) (by omega)
  have hs : signedF ⟨l, a, lg⟩ most = if t.2.2 = 0 then (t.1, madeI t.2.1, 0) else (Dr.z, 0, t.2.2) := by rw [← ht]; exact if_neg (by omega)
  rw [ht] at hn
  rw [hs]
  repeat' first | (with_reducible first | refine AWP_seq' ?_ | refine k_normal ?_ | refine k_ret ?_ | refine b_normal ?_ | refine b_ret ?_ | refine AWP_ret ?_ | refine AWP_skip ?_ | refine AWP_block ?_) | ((with_reducible refine AWP_reg fun KC J hJ hKC => ?_); simp (maxSteps := 10000000) only [push_cast, seval, ↓reduceIte, h1, h2, w1, w2, and_one, ht]) | (refine' hKC _ _ _ _ _ (callV0 (take_fn _ _ _ _ _ _ ?_) rfl rfl rfl ?_ ?_); (rotate_left 7); (· exact Lq); (rotate_left 1); (iterate 1 (· exact Hq)); simp (maxSteps := 10000000) only [push_cast, seval, ↓reduceIte, h1, h2, w1, w2, and_one, ht]) | ((with_reducible refine hJ _ _ ?_); clear hJ hKC KC J) | ((with_reducible refine AWP_condF ?_ ?_); · rfl) | (refine AWP_cond rfl (fun h => ?_) (fun h => ?_) <;> try simp only [decide_eq_true_eq, decide_eq_false_iff_not, Bool.not_eq_true', Bool.not_eq_false', beq_iff_eq, bne_iff_ne, ne_eq, Bool.not_eq_true, Bool.or_eq_true, Bool.and_eq_true, Bool.or_eq_false_iff, Bool.and_eq_false_imp, beq_eq_false_iff_ne, bne_eq_false_iff_eq] at h)
  · refine ret_plain ?_
    simp (maxSteps := 10000000) only [push_cast, seval, ↓reduceIte, show Try.f29.results = #[(.cell 4 40), (.tmp 5), (.tmp 6)] from rfl]
    rw [if_neg h]
    exact Lq
  · refine ret_plain ?_
    simp (maxSteps := 10000000) only [push_cast, seval, ↓reduceIte, show Try.f29.results = #[(.cell 4 40), (.tmp 5), (.tmp 6)] from rfl]
    rw [if_pos (by assumption), wrapI (n := t.2.1 + 1) (by omega) (by omega), Int.tdiv_eq_ediv_of_nonneg (by omega), wrapI (by omega) (by omega)]
    simp only [madeI, if_pos h]
    exact Lq
  · refine ret_plain ?_
    simp (maxSteps := 10000000) only [push_cast, seval, ↓reduceIte, show Try.f29.results = #[(.cell 4 40), (.tmp 5), (.tmp 6)] from rfl]
    have e : Int.tdiv (-t.2.1) 2 = - (t.2.1 / 2) := by rw [Int.neg_tdiv, Int.tdiv_eq_ediv_of_nonneg (by omega)]
    rw [if_pos (by assumption), Int.zero_sub, wrapI (n := -t.2.1) (by omega) (by omega), e, wrapI (by omega) (by omega)]
    simp only [madeI, if_neg h]
    exact Lq
end Go.Proofs.Ytabliglgeiajlaa.AM
