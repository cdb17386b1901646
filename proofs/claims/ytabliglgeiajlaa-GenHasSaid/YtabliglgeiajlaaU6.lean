/- The reference's choices by weights; the least choices. -/
import Derived.Test.YtabliglgeiajlaaU5
set_option linter.unusedSimpArgs false
set_option linter.unusedVariables false
namespace Go.Proofs.Ytabliglgeiajlaa.AM
open Go Go.RowKit Go.Proofs
set_option maxRecDepth 100000
set_option maxHeartbeats 400000

theorem rSum_fn (f : Bool) (ws : List Int) (hw : ∀ w ∈ ws, 0 ≤ w ∧ w ≤ 100) (hl : ws.length ≤ 1000) : Fn Try.prog 108 [.sl f 1 (intRow ws)] [] (.v (.int .i64 ws.sum)) [] := by
  refine Fn.of (fn := Try.f108) (by kernel_rfl) rfl (by kernel_rfl) ⟨[.sl f 1 (intRow ws), .v undef, .v undef, .v undef, .v undef, .v undef, .v undef, .v undef, .v undef, .v undef, .v undef, .v undef, .v undef, .v undef, .v undef, .v undef, .v undef], []⟩ rfl ?_
  repeat' first | (with_reducible first | refine AWP_seq' ?_ | refine k_normal ?_ | refine AWP_block ?_) | ((with_reducible refine AWP_reg fun KC J hJ hKC => ?_); simp (maxSteps := 10000000) only [push_cast, seval, ↓reduceIte]) | ((with_reducible refine hJ _ _ ?_); clear hJ hKC KC J)
  refine AWP_loopF (γ := {i : Nat // i ≤ ws.length}) (fun i => ⟨[.sl f 1 (intRow ws), .any, .any, .v (.int .i64 (ws.take i.1).sum), .any, .any, .sl f 1 (intRow ws), .v (.int .i64 ws.length), .v (.int .i64 i.1), .any, .any, .any, .any, .any, .any, .any, .any], []⟩) (fun i => ws.length - i.1) ⟨0, by simp⟩ ⟨?_, Fq⟩ ?_
  · exact Lq
  · rintro ⟨i, hi⟩
    by_cases hlt : (i : Int) < (ws.length : Int)
    · have hx : ws[i]? = some ws[i] := List.getElem?_eq_getElem (by omega)
      have hb := take_nonneg hw i
      have hwi := hw ws[i] (List.getElem_mem _)
      have hs : IntKind.i64.wrap ((ws.take i).sum + ws[i]) = (ws.take (i + 1)).sum := by rw [take_sum_succ (by omega), wrapI (by omega) (by omega)]
      repeat' first | (with_reducible first | refine AWP_seq' ?_ | refine k_normal ?_ | refine b_normal ?_ | refine AWP_skip ?_ | refine AWP_block ?_) | ((with_reducible refine AWP_reg fun KC J hJ hKC => ?_); simp (maxSteps := 10000000) only [push_cast, seval, ↓reduceIte, hlt, getE_intRow hx, hs, wrapN (i := i) (n := ws.length) (by omega) (by omega)]) | ((with_reducible refine And.intro ?_ ?_); · exact Sq) | ((with_reducible refine hJ _ _ ?_); clear hJ hKC KC J) | ((with_reducible refine AWP_condT ?_ ?_); · rfl)
      refine ⟨⟨i + 1, by omega⟩, by simp only; omega, ?_, Fq⟩
      exact Lq
    · have e : ws.take i = ws := List.take_of_length_le (by omega)
      repeat' first | (with_reducible first | refine AWP_seq' ?_ | refine k_normal ?_ | refine k_exit ?_ | refine b_exit ?_ | refine AWP_ret ?_ | refine AWP_exit ?_) | ((with_reducible refine AWP_reg fun KC J hJ hKC => ?_); simp (maxSteps := 10000000) only [push_cast, seval, ↓reduceIte, hlt, e]) | ((with_reducible refine hJ _ _ ?_); clear hJ hKC KC J) | ((with_reducible refine AWP_condF ?_ ?_); · rfl)
      refine ret_plain ?_
      simp (maxSteps := 10000000) only [push_cast, seval, ↓reduceIte, show Try.f108.results = #[(.tmp 2)] from rfl]
      exact leD_refl _
theorem rWeights_fn (f : Bool) (ws : List Int) (hb : ws.length ≤ 9223372036854775807) : Fn Try.prog 107 [.sl f 1 (intRow ws)] [] (.v (.bool (weightsB ws))) [] := by
  refine Fn.of (fn := Try.f107) (by kernel_rfl) rfl (by kernel_rfl) ⟨[.sl f 1 (intRow ws), .v undef, .v undef, .v undef, .v undef, .v undef, .v undef, .v undef, .v undef, .v undef, .v undef, .v undef, .v undef, .v undef, .v undef, .v undef, .v undef, .v undef, .v undef, .v undef, .v undef, .v undef, .v undef, .v undef, .v undef, .v undef, .v undef, .v undef, .v undef, .v undef, .v undef], []⟩ rfl ?_
  repeat' first | (with_reducible first | refine AWP_seq' ?_ | refine k_normal ?_ | refine AWP_block ?_) | ((with_reducible refine AWP_reg fun KC J hJ hKC => ?_); simp (maxSteps := 10000000) only [push_cast, seval, ↓reduceIte]) | ((with_reducible refine hJ _ _ ?_); clear hJ hKC KC J)
  refine AWP_loopF (γ := {i : Nat // i ≤ ws.length ∧ ∀ (j : Nat) (hj : j < ws.length), j < i → 0 ≤ ws[j] ∧ ws[j] ≤ 100}) (fun i => ⟨[.sl f 1 (intRow ws), .any, .any, .any, .any, .sl f 1 (intRow ws), .v (.int .i64 ws.length), .v (.int .i64 i.1), .any, .any, .any, .any, .any, .any, .any, .any, .any, .any, .any, .any, .any, .any, .any, .any, .any, .any, .any, .any, .any, .any, .any], []⟩) (fun i => ws.length - i.1) ⟨0, by simp⟩ ⟨?_, Fq⟩ ?_
  · exact Lq
  · rintro ⟨i, hi, hn⟩
    by_cases hlt : (i : Int) < (ws.length : Int)
    · have hx : ws[i]? = some ws[i] := List.getElem?_eq_getElem (by omega)
      have hbad : (ws[i] < 0 ∨ 100 < ws[i]) → weightsB ws = false := fun h => by
        cases hc : weightsB ws with
        | false => rfl
        | true => have := (weightsB_le hc).2.2.1 ws[i] (List.getElem_mem _); omega
      by_cases h1 : ws[i] < 0
      · skip
        repeat' first | (with_reducible first | refine AWP_seq' ?_ | refine k_normal ?_ | refine k_ret ?_ | refine b_ret ?_ | refine AWP_ret ?_ | refine AWP_skip ?_ | refine AWP_block ?_) | ((with_reducible refine AWP_reg fun KC J hJ hKC => ?_); simp (maxSteps := 10000000) only [push_cast, seval, ↓reduceIte, hlt, getE_intRow hx, h1]) | ((with_reducible refine And.intro ?_ ?_); · exact Sq) | ((with_reducible refine hJ _ _ ?_); clear hJ hKC KC J) | ((with_reducible refine AWP_condT ?_ ?_); · rfl)
        refine ret_plain ?_
        simp (maxSteps := 10000000) only [push_cast, seval, ↓reduceIte, show Try.f107.results = #[(.tmp 2)] from rfl]
        rw [hbad (.inl h1)]
        exact leD_refl _
      by_cases h2 : 100 < ws[i]
      · skip
        repeat' first | (with_reducible first | refine AWP_seq' ?_ | refine k_normal ?_ | refine k_ret ?_ | refine b_ret ?_ | refine AWP_ret ?_ | refine AWP_skip ?_ | refine AWP_block ?_) | ((with_reducible refine AWP_reg fun KC J hJ hKC => ?_); simp (maxSteps := 10000000) only [push_cast, seval, ↓reduceIte, hlt, getE_intRow hx, h1, h2]) | ((with_reducible refine And.intro ?_ ?_); · exact Sq) | ((with_reducible refine hJ _ _ ?_); clear hJ hKC KC J) | ((with_reducible refine AWP_condT ?_ ?_); · rfl)
        refine ret_plain ?_
        simp (maxSteps := 10000000) only [push_cast, seval, ↓reduceIte, show Try.f107.results = #[(.tmp 2)] from rfl]
        rw [hbad (.inr h2)]
        exact leD_refl _
      repeat' first | (with_reducible first | refine AWP_seq' ?_ | refine k_normal ?_ | refine b_normal ?_ | refine AWP_skip ?_ | refine AWP_block ?_) | ((with_reducible refine AWP_reg fun KC J hJ hKC => ?_); simp (maxSteps := 10000000) only [push_cast, seval, ↓reduceIte, hlt, getE_intRow hx, h1, h2, wrapN (i := i) (n := ws.length) (by omega) hb]) | ((with_reducible refine And.intro ?_ ?_); · exact Sq) | ((with_reducible refine hJ _ _ ?_); clear hJ hKC KC J) | ((with_reducible refine AWP_condT ?_ ?_); · rfl) | ((with_reducible refine AWP_condF ?_ ?_); · rfl)
      refine ⟨⟨i + 1, by omega, fun j hj hji => ?_⟩, by simp only; omega, ?_, Fq⟩
      · by_cases he : j = i
        · subst he; omega
        · exact hn j hj (by omega)
      · exact Lq
    · have hall : ∀ w ∈ ws, 0 ≤ w ∧ w ≤ 100 := fun w hw => by
        obtain ⟨j, hj, rfl⟩ := List.mem_iff_getElem.1 hw
        exact hn j hj (by omega)
      by_cases h20 : (ws.length : Int) ≤ 20
      · have hsum := rSum_fn f ws hall (by omega)
        repeat' first | (with_reducible first | refine AWP_seq' ?_ | refine k_normal ?_ | refine k_exit ?_ | refine b_exit ?_ | refine AWP_ret ?_ | refine AWP_exit ?_) | ((with_reducible refine AWP_reg fun KC J hJ hKC => ?_); simp (maxSteps := 10000000) only [push_cast, seval, ↓reduceIte, hlt, h20]) | (refine' hKC _ _ _ _ _ (callV0 (rSum_fn _ _ ?_ ?_) rfl rfl rfl ?_ ?_); (rotate_left 4); (· exact Lq); (rotate_left 1); (iterate 2 (· exact Hq)); simp (maxSteps := 10000000) only [push_cast, seval, ↓reduceIte, hlt, h20]) | ((with_reducible refine hJ _ _ ?_); clear hJ hKC KC J) | ((with_reducible refine AWP_condF ?_ ?_); · rfl) | ((with_reducible refine ite_intro (fun hs => ?_) (fun hs => ?_)) <;> (try simp only [Bool.not_eq_true, Bool.not_eq_false, Bool.not_eq_true', Bool.not_eq_false', Decidable.not_not, decide_eq_true_eq, decide_eq_false_iff_not] at hs) <;> (try simp (maxSteps := 10000000) only [push_cast, seval, ↓reduceIte, hs, hlt, h20]))
        all_goals
          refine ret_plain ?_
          simp (maxSteps := 10000000) only [push_cast, seval, ↓reduceIte, show Try.f107.results = #[(.tmp 2)] from rfl]
          refine leD_v (congrArg Value.bool (Bool.eq_iff_iff.2 ?_))
          simp only [weightsB, decide_eq_true_eq, Bool.false_eq_true, false_iff]
        · exact ⟨fun h => ⟨by omega, by omega, hall, h⟩, fun h => h.2.2.2⟩
        · omega
      · skip
        repeat' first | (with_reducible first | refine AWP_seq' ?_ | refine k_normal ?_ | refine k_exit ?_ | refine b_exit ?_ | refine AWP_ret ?_ | refine AWP_exit ?_) | ((with_reducible refine AWP_reg fun KC J hJ hKC => ?_); simp (maxSteps := 10000000) only [push_cast, seval, ↓reduceIte, hlt, h20]) | ((with_reducible refine hJ _ _ ?_); clear hJ hKC KC J) | ((with_reducible refine AWP_condF ?_ ?_); · rfl) | ((with_reducible refine ite_intro (fun hs => ?_) (fun hs => ?_)) <;> (try simp only [Bool.not_eq_true, Bool.not_eq_false, Bool.not_eq_true', Bool.not_eq_false', Decidable.not_not, decide_eq_true_eq, decide_eq_false_iff_not] at hs) <;> (try simp (maxSteps := 10000000) only [push_cast, seval, ↓reduceIte, hs, hlt, h20]))
        all_goals
          refine ret_plain ?_
          simp (maxSteps := 10000000) only [push_cast, seval, ↓reduceIte, show Try.f107.results = #[(.tmp 2)] from rfl]
          refine leD_v (congrArg Value.bool (Bool.eq_iff_iff.2 ?_))
          simp only [weightsB, decide_eq_true_eq, Bool.false_eq_true, false_iff]
          omega
/-! ### The least choice that picks a place -/
end Go.Proofs.Ytabliglgeiajlaa.AM
