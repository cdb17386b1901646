/- Powers of two; rows of bits. -/
import Derived.Test.YtabliglgeiajlaaW2
set_option linter.unusedSimpArgs false
set_option linter.unusedVariables false
namespace Go.Proofs.Ytabliglgeiajlaa.AM
open Go Go.RowKit Go.Proofs
set_option maxRecDepth 100000
set_option maxHeartbeats 1000000

theorem pow8 : ∀ i : Nat, i < 8 → 2 ^ i < 256 := by decide
theorem power_fn (n : Nat) (hn : n < 8) : Fn (Try.prog) 96 [.v (.int .i64 (n : Int))] [] (.v (.int .i64 (2 ^ n : Nat))) [] := by
  obtain ⟨pw, hpw⟩ : ∃ pw : Nat → Nat, ∀ i, pw i = 2 ^ i := ⟨fun i => 2 ^ i, fun _ => rfl⟩
  rw [← hpw]
  have h0 : pw 0 = 1 := hpw 0
  refine Fn.of (fn := Try.f96) (by kernel_rfl) rfl (by kernel_rfl) ⟨[.v (.int .i64 (n : Int)), .v undef, .v undef, .v undef, .v undef, .v undef, .v undef, .v undef, .v undef, .v undef, .v undef, .v undef, .v undef], []⟩ rfl ?_
  repeat' first
    | with_reducible first | refine AWP_seq' ?_ | refine k_normal ?_ | refine k_ret ?_ | refine k_exit ?_ | refine b_normal ?_ | refine b_ret ?_ | refine b_exit ?_ | refine b_pass rfl ?_ | refine AWP_ret ?_ | refine AWP_skip ?_ | refine AWP_exit ?_ | refine AWP_block ?_
    | ((with_reducible first | refine AWP_reg fun KC J hJ hKC => ?_ | refine AWP_regD rfl fun KC J hJ hKC => ?_); simp (maxSteps := 10000000) only [push_cast, seval, ↓reduceIte])
    | ((with_reducible refine And.intro ?_ ?_); · first | trivial | omega | assumption | (simp; done) | (simp; omega))
    | ((first | with_reducible refine hJ _ _ ?_ | (with_reducible refine hJ _ _ ?_ ?_; · kernel_rfl)); clear hJ hKC KC J)
    | ((with_reducible refine AWP_condT ?_ ?_); · rfl)
    | ((with_reducible refine AWP_condF ?_ ?_); · rfl)
    | ((with_reducible refine ite_intro (fun hs => ?_) (fun hs => ?_)) <;> (try simp only [Bool.not_eq_true, Bool.not_eq_false, Bool.not_eq_true', Bool.not_eq_false', Decidable.not_not, decide_eq_true_eq, decide_eq_false_iff_not] at hs) <;> (try simp (maxSteps := 10000000) only [push_cast, seval, ↓reduceIte, hs]))
    | (refine AWP_cond rfl (fun h => ?_) (fun h => ?_) <;> try simp only [decide_eq_true_eq, decide_eq_false_iff_not, Bool.not_eq_true', Bool.not_eq_false', beq_iff_eq, bne_iff_ne, ne_eq, Bool.not_eq_true, Bool.or_eq_true, Bool.and_eq_true, Bool.or_eq_false_iff, Bool.and_eq_false_imp, beq_eq_false_iff_ne, bne_eq_false_iff_eq] at h)
  refine AWP_loopF (γ := {i : Nat // i ≤ n}) (fun i => ⟨[.v (.int .i64 (n : Int)), .any, .any, .v (.int .i64 (pw i.1 : Nat)), .v (.int .i64 i.1), .any, .any, .any, .any, .any, .any, .any, .any], []⟩) (fun i => n - i.1) ⟨0, by simp⟩ ⟨?_, (by first | exact ⟨0, (List.append_nil _).symm⟩ | exact ⟨1, rfl⟩ | exact ⟨2, rfl⟩ | exact ⟨3, rfl⟩ | exact ⟨4, rfl⟩ | exact ⟨5, rfl⟩ | exact ⟨6, rfl⟩ | exact ⟨7, rfl⟩ | exact ⟨8, rfl⟩)⟩ ?_
  · simp only [h0]
    repeat' first | exact leF_nil | refine leD_tup ?_ | refine leF1_cons ?_ ?_ | exact leF1_nil | exact leD1_refl _ | refine leD1_agg ?_ | refine leF_cons ?_ ?_ | exact leD_refl _ | exact leD_nil | exact leD_any | exact .inl leD0_nil | exact leF_caps (by assumption) | exact leD_fn (by assumption) | refine leD_agg ?_ | refine leF0_cons ?_ ?_ | exact leF0_nil | exact leD0_refl _ | exact leD0_nil | exact leD0_any
  · rintro ⟨i, hi⟩
    by_cases hlt : (i : Int) < (n : Int)
    · have hb := pow8 i (by omega)
      rw [← hpw] at hb
      have hm : IntKind.i64.wrap (2 * (pw i : Int)) = (pw (i + 1) : Nat) := by
        rw [wrapI (by omega) (by omega), hpw (i + 1), Nat.pow_succ, ← hpw i]; omega
      repeat' first
        | with_reducible first | refine AWP_seq' ?_ | refine k_normal ?_ | refine k_ret ?_ | refine k_exit ?_ | refine b_normal ?_ | refine b_ret ?_ | refine b_exit ?_ | refine b_pass rfl ?_ | refine AWP_ret ?_ | refine AWP_skip ?_ | refine AWP_exit ?_ | refine AWP_block ?_
        | ((with_reducible first | refine AWP_reg fun KC J hJ hKC => ?_ | refine AWP_regD rfl fun KC J hJ hKC => ?_); simp (maxSteps := 10000000) only [push_cast, seval, ↓reduceIte, hlt, hm, wrapN (i := i) (n := n) (by omega) (by omega)])
        | ((with_reducible refine And.intro ?_ ?_); · first | trivial | omega | assumption | (simp; done) | (simp; omega))
        | ((first | with_reducible refine hJ _ _ ?_ | (with_reducible refine hJ _ _ ?_ ?_; · kernel_rfl)); clear hJ hKC KC J)
        | ((with_reducible refine AWP_condT ?_ ?_); · rfl)
        | ((with_reducible refine AWP_condF ?_ ?_); · rfl)
        | ((with_reducible refine ite_intro (fun hs => ?_) (fun hs => ?_)) <;> (try simp only [Bool.not_eq_true, Bool.not_eq_false, Bool.not_eq_true', Bool.not_eq_false', Decidable.not_not, decide_eq_true_eq, decide_eq_false_iff_not] at hs) <;> (try simp (maxSteps := 10000000) only [push_cast, seval, ↓reduceIte, hs, hlt, hm, wrapN (i := i) (n := n) (by omega) (by omega)]))
        | (refine AWP_cond rfl (fun h => ?_) (fun h => ?_) <;> try simp only [decide_eq_true_eq, decide_eq_false_iff_not, Bool.not_eq_true', Bool.not_eq_false', beq_iff_eq, bne_iff_ne, ne_eq, Bool.not_eq_true, Bool.or_eq_true, Bool.and_eq_true, Bool.or_eq_false_iff, Bool.and_eq_false_imp, beq_eq_false_iff_ne, bne_eq_false_iff_eq] at h)
      refine ⟨⟨i + 1, by omega⟩, by simp only; omega, ?_, (by first | exact ⟨0, (List.append_nil _).symm⟩ | exact ⟨1, rfl⟩ | exact ⟨2, rfl⟩ | exact ⟨3, rfl⟩ | exact ⟨4, rfl⟩ | exact ⟨5, rfl⟩ | exact ⟨6, rfl⟩ | exact ⟨7, rfl⟩ | exact ⟨8, rfl⟩)⟩
      repeat' first | exact leF_nil | refine leD_tup ?_ | refine leF1_cons ?_ ?_ | exact leF1_nil | exact leD1_refl _ | refine leD1_agg ?_ | refine leF_cons ?_ ?_ | exact leD_refl _ | exact leD_nil | exact leD_any | exact .inl leD0_nil | exact leF_caps (by assumption) | exact leD_fn (by assumption) | refine leD_agg ?_ | refine leF0_cons ?_ ?_ | exact leF0_nil | exact leD0_refl _ | exact leD0_nil | exact leD0_any
    · have e : i = n := by omega
      subst e
      repeat' first
        | with_reducible first | refine AWP_seq' ?_ | refine k_normal ?_ | refine k_ret ?_ | refine k_exit ?_ | refine b_normal ?_ | refine b_ret ?_ | refine b_exit ?_ | refine b_pass rfl ?_ | refine AWP_ret ?_ | refine AWP_skip ?_ | refine AWP_exit ?_ | refine AWP_block ?_
        | ((with_reducible first | refine AWP_reg fun KC J hJ hKC => ?_ | refine AWP_regD rfl fun KC J hJ hKC => ?_); simp (maxSteps := 10000000) only [push_cast, seval, ↓reduceIte, hlt])
        | ((with_reducible refine And.intro ?_ ?_); · first | trivial | omega | assumption | (simp; done) | (simp; omega))
        | ((first | with_reducible refine hJ _ _ ?_ | (with_reducible refine hJ _ _ ?_ ?_; · kernel_rfl)); clear hJ hKC KC J)
        | ((with_reducible refine AWP_condT ?_ ?_); · rfl)
        | ((with_reducible refine AWP_condF ?_ ?_); · rfl)
        | ((with_reducible refine ite_intro (fun hs => ?_) (fun hs => ?_)) <;> (try simp only [Bool.not_eq_true, Bool.not_eq_false, Bool.not_eq_true', Bool.not_eq_false', Decidable.not_not, decide_eq_true_eq, decide_eq_false_iff_not] at hs) <;> (try simp (maxSteps := 10000000) only [push_cast, seval, ↓reduceIte, hs, hlt]))
        | (refine AWP_cond rfl (fun h => ?_) (fun h => ?_) <;> try simp only [decide_eq_true_eq, decide_eq_false_iff_not, Bool.not_eq_true', Bool.not_eq_false', beq_iff_eq, bne_iff_ne, ne_eq, Bool.not_eq_true, Bool.or_eq_true, Bool.and_eq_true, Bool.or_eq_false_iff, Bool.and_eq_false_imp, beq_eq_false_iff_ne, bne_eq_false_iff_eq] at h)
      refine ret_plain ?_
      simp (maxSteps := 10000000) only [push_cast, seval, ↓reduceIte, show Try.f96.results = #[(.tmp 2)] from rfl]
      exact leD_refl _
theorem unhold {p : Prop} (h : p) : Hold p := by unfold Hold; exact h
theorem rowN_step (p : Nat → Bool) (j : Nat) : rowN p (j + 1) = rowN p j + (if p j = true then 2 ^ j else 0) := by
  rw [rowN]
  split
  · have := Nat.two_pow_add_eq_or_of_lt (rowN_lt p j) 1
    rw [Nat.mul_one] at this
    rw [Nat.one_shiftLeft, Nat.or_comm]
    omega
  · rfl
end Go.Proofs.Ytabliglgeiajlaa.AM
