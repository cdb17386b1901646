/- Spaces that may be. -/
import Derived.Test.YtabliglgeiajlaaGreatHE
import Derived.Test.YtabliglgeiajlaaGreatHT
import Derived.Test.YtabliglgeiajlaaGreatV6
set_option linter.unusedSimpArgs false
set_option linter.unusedVariables false
namespace Go.Proofs.YtabliglgeiajlaaGreat.AM
open Go Go.RowKit Go.Proofs
set_option maxRecDepth 100000
set_option maxHeartbeats 1000000

theorem genIn_fn (n b : Int) : Fn Tryz.prog 268 [.v (.int .i64 n), .v (.int .i64 b)] [] (.v (.bool (inB 0 b n))) [] := by
  obtain ⟨x, hx⟩ : ∃ x, decide (0 ≤ n) = x := ⟨_, rfl⟩
  rw [inB, hx]
  refine Fn.of (fn := Tryz.f268) (by kernel_rfl) rfl (by kernel_rfl) ⟨[.v (.int .i64 n), .v (.int .i64 b), .v undef, .v undef, .v undef, .v undef, .v undef, .v undef, .v undef, .v undef, .v undef, .v undef], []⟩ rfl ?_
  cases x
  all_goals
    repeat' first | (with_reducible first | refine AWP_seq' ?_ | refine k_normal ?_ | refine AWP_ret ?_) | ((with_reducible refine AWP_reg fun KC J hJ hKC => ?_); simp (maxSteps := 10000000) only [push_cast, seval, ↓reduceIte, hx, undef]) | ((with_reducible refine hJ _ _ ?_); clear hJ hKC KC J)
    refine ret_plain ?_
    simp (maxSteps := 10000000) only [push_cast, seval, ↓reduceIte, show Tryz.f268.results = #[(.tmp 4)] from rfl]
    exact Lq
theorem rIn15_fn (n b : Int) : Fn Tryz.prog 133 [.v (.int .i64 n), .v (.int .i64 b)] [] (.v (.bool (inB 0 b n))) [] := by
  obtain ⟨x, hx⟩ : ∃ x, decide (0 ≤ n) = x := ⟨_, rfl⟩
  rw [inB, hx]
  refine Fn.of (fn := Tryz.f133) (by kernel_rfl) rfl (by kernel_rfl) ⟨[.v (.int .i64 n), .v (.int .i64 b), .v undef, .v undef, .v undef, .v undef, .v undef, .v undef, .v undef, .v undef, .v undef, .v undef], []⟩ rfl ?_
  cases x
  all_goals
    repeat' first | (with_reducible first | refine AWP_seq' ?_ | refine k_normal ?_ | refine AWP_ret ?_) | ((with_reducible refine AWP_reg fun KC J hJ hKC => ?_); simp (maxSteps := 10000000) only [push_cast, seval, ↓reduceIte, hx, undef]) | ((with_reducible refine hJ _ _ ?_); clear hJ hKC KC J)
    refine ret_plain ?_
    simp (maxSteps := 10000000) only [push_cast, seval, ↓reduceIte, show Tryz.f133.results = #[(.tmp 4)] from rfl]
    exact Lq
theorem weighted_may (ws : List Int) : (weightedF ⟨[], 0, []⟩ ws).2.2 = if weightsB ws = true then 0 else 1 := by
  unfold weightedF
  cases h : weightsB ws with
  | false => simp
  | true =>
    have hw := weightsB_le h
    rw [if_neg (by simp), take_none (by omega) (by simp) (by omega)]
    simp
theorem genRight_fn (f : Bool) (sp : Sp) (hw : sp.ws.length ≤ 1000) : Fn Tryz.prog 189 [.agg (spF f sp)] [] (.v (.bool (spB sp))) [] := by
  obtain ⟨c, mm, s, v, ws⟩ := sp
  simp only [spB, spF] at *
  obtain ⟨c1, hc1⟩ : ∃ x, inB 0 12 c = x := ⟨_, rfl⟩
  obtain ⟨c2, hc2⟩ : ∃ x, inB 0 6 mm = x := ⟨_, rfl⟩
  obtain ⟨c3, hc3⟩ : ∃ x, inB 0 12 s = x := ⟨_, rfl⟩
  obtain ⟨c4, hc4⟩ : ∃ x, inB 0 20 v = x := ⟨_, rfl⟩
  obtain ⟨c5, hc5⟩ : ∃ x, decide (ws.length = 13) = x := ⟨_, rfl⟩
  obtain ⟨c6, hc6⟩ : ∃ x, weightsB ws = x := ⟨_, rfl⟩
  have hc5' : ((ws.length : Int) == 13) = c5 := by rw [← hc5, Bool.eq_iff_iff]; simp; omega
  rw [hc1, hc2, hc3, hc4, hc5, hc6]
  have i1 := genIn_fn c 12
  have i2 := genIn_fn mm 6
  have i3 := genIn_fn s 12
  have i4 := genIn_fn v 20
  have h0 := drNew_fn false []
  have h1 := weighted_fn false false f [] [] ws 0 (Nat.le_trans hw (by omega))
  have hm := weighted_may ws
  have hm' : ((if c6 = true then (0 : Int) else 1) == 0) = c6 := by cases c6 <;> rfl
  rw [hc6] at hm
  simp only [encDr, hm] at h1
  refine Fn.of (fn := Tryz.f189) (by kernel_rfl) rfl (by kernel_rfl) ⟨[.agg [.v (.int .i64 c), .v (.int .i64 mm), .v (.int .i64 s), .v (.int .i64 v), .sl f 1 (intRow ws)], .v undef, .v undef, .v undef, .v undef, .v undef, .v undef, .v undef, .v undef, .v undef, .v undef, .v undef, .v undef, .v undef, .v undef, .v undef, .v undef, .v undef, .v undef, .v undef, .v undef, .v undef, .v undef, .v undef, .v undef, .v undef, .v undef, .v undef, .v undef, .v undef, .v undef, .v undef, .v undef, .v undef, .v undef, .v undef, .v undef, .v undef, .v undef, .v undef, .v undef, .v undef], []⟩ rfl ?_
  cases c1
  case false =>
    repeat' first | (with_reducible first | refine AWP_seq' ?_ | refine k_normal ?_ | refine AWP_ret ?_) | ((with_reducible first | refine AWP_reg fun KC J hJ hKC => ?_ | refine AWP_regD rfl fun KC J hJ hKC => ?_); simp (maxSteps := 10000000) only [push_cast, seval, ↓reduceIte, hc1, hm', undef]) | (refine hKC _ _ _ _ _ (callV0 (h0) rfl rfl rfl ?_ ?_); (· exact Lq); simp (maxSteps := 10000000) only [push_cast, seval, ↓reduceIte, hc1, hm', undef]) | (refine hKC _ _ _ _ _ (callV0 (h1) rfl rfl rfl ?_ ?_); (· exact Lq); simp (maxSteps := 10000000) only [push_cast, seval, ↓reduceIte, hc1, hm', undef]) | (refine hKC _ _ _ _ _ (callV0 (i1) rfl rfl rfl ?_ ?_); (· exact Lq); simp (maxSteps := 10000000) only [push_cast, seval, ↓reduceIte, hc1, hm', undef]) | ((first | with_reducible refine hJ _ _ ?_ | (with_reducible refine hJ _ _ ?_ ?_; · kernel_rfl)); clear hJ hKC KC J)
    refine ret_plain ?_
    simp (maxSteps := 10000000) only [push_cast, seval, ↓reduceIte, show Tryz.f189.results = #[(.tmp 2)] from rfl]
    exact Lq
  cases c2
  case false =>
    repeat' first | (with_reducible first | refine AWP_seq' ?_ | refine k_normal ?_ | refine AWP_ret ?_) | ((with_reducible first | refine AWP_reg fun KC J hJ hKC => ?_ | refine AWP_regD rfl fun KC J hJ hKC => ?_); simp (maxSteps := 10000000) only [push_cast, seval, ↓reduceIte, hc1, hc2, hm', undef]) | (refine hKC _ _ _ _ _ (callV0 (h0) rfl rfl rfl ?_ ?_); (· exact Lq); simp (maxSteps := 10000000) only [push_cast, seval, ↓reduceIte, hc1, hc2, hm', undef]) | (refine hKC _ _ _ _ _ (callV0 (h1) rfl rfl rfl ?_ ?_); (· exact Lq); simp (maxSteps := 10000000) only [push_cast, seval, ↓reduceIte, hc1, hc2, hm', undef]) | (refine hKC _ _ _ _ _ (callV0 (i1) rfl rfl rfl ?_ ?_); (· exact Lq); simp (maxSteps := 10000000) only [push_cast, seval, ↓reduceIte, hc1, hc2, hm', undef]) | (refine hKC _ _ _ _ _ (callV0 (i2) rfl rfl rfl ?_ ?_); (· exact Lq); simp (maxSteps := 10000000) only [push_cast, seval, ↓reduceIte, hc1, hc2, hm', undef]) | ((first | with_reducible refine hJ _ _ ?_ | (with_reducible refine hJ _ _ ?_ ?_; · kernel_rfl)); clear hJ hKC KC J)
    refine ret_plain ?_
    simp (maxSteps := 10000000) only [push_cast, seval, ↓reduceIte, show Tryz.f189.results = #[(.tmp 2)] from rfl]
    exact Lq
  cases c3
  case false =>
    repeat' first | (with_reducible first | refine AWP_seq' ?_ | refine k_normal ?_ | refine AWP_ret ?_) | ((with_reducible first | refine AWP_reg fun KC J hJ hKC => ?_ | refine AWP_regD rfl fun KC J hJ hKC => ?_); simp (maxSteps := 10000000) only [push_cast, seval, ↓reduceIte, hc1, hc2, hc3, hm', undef]) | (refine hKC _ _ _ _ _ (callV0 (h0) rfl rfl rfl ?_ ?_); (· exact Lq); simp (maxSteps := 10000000) only [push_cast, seval, ↓reduceIte, hc1, hc2, hc3, hm', undef]) | (refine hKC _ _ _ _ _ (callV0 (h1) rfl rfl rfl ?_ ?_); (· exact Lq); simp (maxSteps := 10000000) only [push_cast, seval, ↓reduceIte, hc1, hc2, hc3, hm', undef]) | (refine hKC _ _ _ _ _ (callV0 (i1) rfl rfl rfl ?_ ?_); (· exact Lq); simp (maxSteps := 10000000) only [push_cast, seval, ↓reduceIte, hc1, hc2, hc3, hm', undef]) | (refine hKC _ _ _ _ _ (callV0 (i2) rfl rfl rfl ?_ ?_); (· exact Lq); simp (maxSteps := 10000000) only [push_cast, seval, ↓reduceIte, hc1, hc2, hc3, hm', undef]) | (refine hKC _ _ _ _ _ (callV0 (i3) rfl rfl rfl ?_ ?_); (· exact Lq); simp (maxSteps := 10000000) only [push_cast, seval, ↓reduceIte, hc1, hc2, hc3, hm', undef]) | ((first | with_reducible refine hJ _ _ ?_ | (with_reducible refine hJ _ _ ?_ ?_; · kernel_rfl)); clear hJ hKC KC J)
    refine ret_plain ?_
    simp (maxSteps := 10000000) only [push_cast, seval, ↓reduceIte, show Tryz.f189.results = #[(.tmp 2)] from rfl]
    exact Lq
  cases c4
  case false =>
    repeat' first | (with_reducible first | refine AWP_seq' ?_ | refine k_normal ?_ | refine AWP_ret ?_) | ((with_reducible first | refine AWP_reg fun KC J hJ hKC => ?_ | refine AWP_regD rfl fun KC J hJ hKC => ?_); simp (maxSteps := 10000000) only [push_cast, seval, ↓reduceIte, hc1, hc2, hc3, hc4, hm', undef]) | (refine hKC _ _ _ _ _ (callV0 (h0) rfl rfl rfl ?_ ?_); (· exact Lq); simp (maxSteps := 10000000) only [push_cast, seval, ↓reduceIte, hc1, hc2, hc3, hc4, hm', undef]) | (refine hKC _ _ _ _ _ (callV0 (h1) rfl rfl rfl ?_ ?_); (· exact Lq); simp (maxSteps := 10000000) only [push_cast, seval, ↓reduceIte, hc1, hc2, hc3, hc4, hm', undef]) | (refine hKC _ _ _ _ _ (callV0 (i1) rfl rfl rfl ?_ ?_); (· exact Lq); simp (maxSteps := 10000000) only [push_cast, seval, ↓reduceIte, hc1, hc2, hc3, hc4, hm', undef]) | (refine hKC _ _ _ _ _ (callV0 (i2) rfl rfl rfl ?_ ?_); (· exact Lq); simp (maxSteps := 10000000) only [push_cast, seval, ↓reduceIte, hc1, hc2, hc3, hc4, hm', undef]) | (refine hKC _ _ _ _ _ (callV0 (i3) rfl rfl rfl ?_ ?_); (· exact Lq); simp (maxSteps := 10000000) only [push_cast, seval, ↓reduceIte, hc1, hc2, hc3, hc4, hm', undef]) | (refine hKC _ _ _ _ _ (callV0 (i4) rfl rfl rfl ?_ ?_); (· exact Lq); simp (maxSteps := 10000000) only [push_cast, seval, ↓reduceIte, hc1, hc2, hc3, hc4, hm', undef]) | ((first | with_reducible refine hJ _ _ ?_ | (with_reducible refine hJ _ _ ?_ ?_; · kernel_rfl)); clear hJ hKC KC J)
    refine ret_plain ?_
    simp (maxSteps := 10000000) only [push_cast, seval, ↓reduceIte, show Tryz.f189.results = #[(.tmp 2)] from rfl]
    exact Lq
  cases c5
  case false =>
    repeat' first | (with_reducible first | refine AWP_seq' ?_ | refine k_normal ?_ | refine AWP_ret ?_) | ((with_reducible first | refine AWP_reg fun KC J hJ hKC => ?_ | refine AWP_regD rfl fun KC J hJ hKC => ?_); simp (maxSteps := 10000000) only [push_cast, seval, ↓reduceIte, hc1, hc2, hc3, hc4, hc5', hm', undef]) | (refine hKC _ _ _ _ _ (callV0 (h0) rfl rfl rfl ?_ ?_); (· exact Lq); simp (maxSteps := 10000000) only [push_cast, seval, ↓reduceIte, hc1, hc2, hc3, hc4, hc5', hm', undef]) | (refine hKC _ _ _ _ _ (callV0 (h1) rfl rfl rfl ?_ ?_); (· exact Lq); simp (maxSteps := 10000000) only [push_cast, seval, ↓reduceIte, hc1, hc2, hc3, hc4, hc5', hm', undef]) | (refine hKC _ _ _ _ _ (callV0 (i1) rfl rfl rfl ?_ ?_); (· exact Lq); simp (maxSteps := 10000000) only [push_cast, seval, ↓reduceIte, hc1, hc2, hc3, hc4, hc5', hm', undef]) | (refine hKC _ _ _ _ _ (callV0 (i2) rfl rfl rfl ?_ ?_); (· exact Lq); simp (maxSteps := 10000000) only [push_cast, seval, ↓reduceIte, hc1, hc2, hc3, hc4, hc5', hm', undef]) | (refine hKC _ _ _ _ _ (callV0 (i3) rfl rfl rfl ?_ ?_); (· exact Lq); simp (maxSteps := 10000000) only [push_cast, seval, ↓reduceIte, hc1, hc2, hc3, hc4, hc5', hm', undef]) | (refine hKC _ _ _ _ _ (callV0 (i4) rfl rfl rfl ?_ ?_); (· exact Lq); simp (maxSteps := 10000000) only [push_cast, seval, ↓reduceIte, hc1, hc2, hc3, hc4, hc5', hm', undef]) | ((first | with_reducible refine hJ _ _ ?_ | (with_reducible refine hJ _ _ ?_ ?_; · kernel_rfl)); clear hJ hKC KC J)
    refine ret_plain ?_
    simp (maxSteps := 10000000) only [push_cast, seval, ↓reduceIte, show Tryz.f189.results = #[(.tmp 2)] from rfl]
    exact Lq
  repeat' first | (with_reducible first | refine AWP_seq' ?_ | refine k_normal ?_ | refine AWP_ret ?_) | ((with_reducible first | refine AWP_reg fun KC J hJ hKC => ?_ | refine AWP_regD rfl fun KC J hJ hKC => ?_); simp (maxSteps := 10000000) only [push_cast, seval, ↓reduceIte, hc1, hc2, hc3, hc4, hc5', hm', undef]) | (refine hKC _ _ _ _ _ (callV0 (h0) rfl rfl rfl ?_ ?_); (· exact Lq); simp (maxSteps := 10000000) only [push_cast, seval, ↓reduceIte, hc1, hc2, hc3, hc4, hc5', hm', undef]) | (refine hKC _ _ _ _ _ (callV0 (h1) rfl rfl rfl ?_ ?_); (· exact Lq); simp (maxSteps := 10000000) only [push_cast, seval, ↓reduceIte, hc1, hc2, hc3, hc4, hc5', hm', undef]) | (refine hKC _ _ _ _ _ (callV0 (i1) rfl rfl rfl ?_ ?_); (· exact Lq); simp (maxSteps := 10000000) only [push_cast, seval, ↓reduceIte, hc1, hc2, hc3, hc4, hc5', hm', undef]) | (refine hKC _ _ _ _ _ (callV0 (i2) rfl rfl rfl ?_ ?_); (· exact Lq); simp (maxSteps := 10000000) only [push_cast, seval, ↓reduceIte, hc1, hc2, hc3, hc4, hc5', hm', undef]) | (refine hKC _ _ _ _ _ (callV0 (i3) rfl rfl rfl ?_ ?_); (· exact Lq); simp (maxSteps := 10000000) only [push_cast, seval, ↓reduceIte, hc1, hc2, hc3, hc4, hc5', hm', undef]) | (refine hKC _ _ _ _ _ (callV0 (i4) rfl rfl rfl ?_ ?_); (· exact Lq); simp (maxSteps := 10000000) only [push_cast, seval, ↓reduceIte, hc1, hc2, hc3, hc4, hc5', hm', undef]) | ((first | with_reducible refine hJ _ _ ?_ | (with_reducible refine hJ _ _ ?_ ?_; · kernel_rfl)); clear hJ hKC KC J)
  refine ret_plain ?_
  simp (maxSteps := 10000000) only [push_cast, seval, ↓reduceIte, show Tryz.f189.results = #[(.tmp 2)] from rfl]
  exact Lq
theorem rRight15_fn (f : Bool) (sp : Sp) (hw : sp.ws.length ≤ 1000) : Fn Tryz.prog 57 [.agg (spF f sp)] [] (.v (.bool (spB sp))) [] := by
  obtain ⟨c, mm, s, v, ws⟩ := sp
  simp only [spB, spF] at *
  obtain ⟨c1, hc1⟩ : ∃ x, inB 0 12 c = x := ⟨_, rfl⟩
  obtain ⟨c2, hc2⟩ : ∃ x, inB 0 6 mm = x := ⟨_, rfl⟩
  obtain ⟨c3, hc3⟩ : ∃ x, inB 0 12 s = x := ⟨_, rfl⟩
  obtain ⟨c4, hc4⟩ : ∃ x, inB 0 20 v = x := ⟨_, rfl⟩
  obtain ⟨c5, hc5⟩ : ∃ x, decide (ws.length = 13) = x := ⟨_, rfl⟩
  obtain ⟨c6, hc6⟩ : ∃ x, weightsB ws = x := ⟨_, rfl⟩
  have hc5' : ((ws.length : Int) == 13) = c5 := by rw [← hc5, Bool.eq_iff_iff]; simp; omega
  rw [hc1, hc2, hc3, hc4, hc5, hc6]
  have i1 := rIn15_fn c 12
  have i2 := rIn15_fn mm 6
  have i3 := rIn15_fn s 12
  have i4 := rIn15_fn v 20
  have h1 := rWeights_fn f ws (Nat.le_trans hw (by omega))
  rw [hc6] at h1
  refine Fn.of (fn := Tryz.f57) (by kernel_rfl) rfl (by kernel_rfl) ⟨[.agg [.v (.int .i64 c), .v (.int .i64 mm), .v (.int .i64 s), .v (.int .i64 v), .sl f 1 (intRow ws)], .v undef, .v undef, .v undef, .v undef, .v undef, .v undef, .v undef, .v undef, .v undef, .v undef, .v undef, .v undef, .v undef, .v undef, .v undef, .v undef, .v undef, .v undef, .v undef, .v undef, .v undef, .v undef, .v undef, .v undef, .v undef, .v undef, .v undef, .v undef, .v undef, .v undef, .v undef], []⟩ rfl ?_
  cases c1
  case false =>
    repeat' first | (with_reducible first | refine AWP_seq' ?_ | refine k_normal ?_ | refine AWP_ret ?_) | ((with_reducible refine AWP_reg fun KC J hJ hKC => ?_); simp (maxSteps := 10000000) only [push_cast, seval, ↓reduceIte, hc1, undef]) | (refine hKC _ _ _ _ _ (callV0 (i1) rfl rfl rfl ?_ ?_); (· exact Lq); simp (maxSteps := 10000000) only [push_cast, seval, ↓reduceIte, hc1, undef]) | ((with_reducible refine hJ _ _ ?_); clear hJ hKC KC J)
    refine ret_plain ?_
    simp (maxSteps := 10000000) only [push_cast, seval, ↓reduceIte, show Tryz.f57.results = #[(.tmp 2)] from rfl]
    exact Lq
  cases c2
  case false =>
    repeat' first | (with_reducible first | refine AWP_seq' ?_ | refine k_normal ?_ | refine AWP_ret ?_) | ((with_reducible refine AWP_reg fun KC J hJ hKC => ?_); simp (maxSteps := 10000000) only [push_cast, seval, ↓reduceIte, hc1, hc2, undef]) | (refine hKC _ _ _ _ _ (callV0 (i1) rfl rfl rfl ?_ ?_); (· exact Lq); simp (maxSteps := 10000000) only [push_cast, seval, ↓reduceIte, hc1, hc2, undef]) | (refine hKC _ _ _ _ _ (callV0 (i2) rfl rfl rfl ?_ ?_); (· exact Lq); simp (maxSteps := 10000000) only [push_cast, seval, ↓reduceIte, hc1, hc2, undef]) | ((with_reducible refine hJ _ _ ?_); clear hJ hKC KC J)
    refine ret_plain ?_
    simp (maxSteps := 10000000) only [push_cast, seval, ↓reduceIte, show Tryz.f57.results = #[(.tmp 2)] from rfl]
    exact Lq
  cases c3
  case false =>
    repeat' first | (with_reducible first | refine AWP_seq' ?_ | refine k_normal ?_ | refine AWP_ret ?_) | ((with_reducible refine AWP_reg fun KC J hJ hKC => ?_); simp (maxSteps := 10000000) only [push_cast, seval, ↓reduceIte, hc1, hc2, hc3, undef]) | (refine hKC _ _ _ _ _ (callV0 (i1) rfl rfl rfl ?_ ?_); (· exact Lq); simp (maxSteps := 10000000) only [push_cast, seval, ↓reduceIte, hc1, hc2, hc3, undef]) | (refine hKC _ _ _ _ _ (callV0 (i2) rfl rfl rfl ?_ ?_); (· exact Lq); simp (maxSteps := 10000000) only [push_cast, seval, ↓reduceIte, hc1, hc2, hc3, undef]) | (refine hKC _ _ _ _ _ (callV0 (i3) rfl rfl rfl ?_ ?_); (· exact Lq); simp (maxSteps := 10000000) only [push_cast, seval, ↓reduceIte, hc1, hc2, hc3, undef]) | ((with_reducible refine hJ _ _ ?_); clear hJ hKC KC J)
    refine ret_plain ?_
    simp (maxSteps := 10000000) only [push_cast, seval, ↓reduceIte, show Tryz.f57.results = #[(.tmp 2)] from rfl]
    exact Lq
  cases c4
  case false =>
    repeat' first | (with_reducible first | refine AWP_seq' ?_ | refine k_normal ?_ | refine AWP_ret ?_) | ((with_reducible refine AWP_reg fun KC J hJ hKC => ?_); simp (maxSteps := 10000000) only [push_cast, seval, ↓reduceIte, hc1, hc2, hc3, hc4, undef]) | (refine hKC _ _ _ _ _ (callV0 (i1) rfl rfl rfl ?_ ?_); (· exact Lq); simp (maxSteps := 10000000) only [push_cast, seval, ↓reduceIte, hc1, hc2, hc3, hc4, undef]) | (refine hKC _ _ _ _ _ (callV0 (i2) rfl rfl rfl ?_ ?_); (· exact Lq); simp (maxSteps := 10000000) only [push_cast, seval, ↓reduceIte, hc1, hc2, hc3, hc4, undef]) | (refine hKC _ _ _ _ _ (callV0 (i3) rfl rfl rfl ?_ ?_); (· exact Lq); simp (maxSteps := 10000000) only [push_cast, seval, ↓reduceIte, hc1, hc2, hc3, hc4, undef]) | (refine hKC _ _ _ _ _ (callV0 (i4) rfl rfl rfl ?_ ?_); (· exact Lq); simp (maxSteps := 10000000) only [push_cast, seval, ↓reduceIte, hc1, hc2, hc3, hc4, undef]) | ((with_reducible refine hJ _ _ ?_); clear hJ hKC KC J)
    refine ret_plain ?_
    simp (maxSteps := 10000000) only [push_cast, seval, ↓reduceIte, show Tryz.f57.results = #[(.tmp 2)] from rfl]
    exact Lq
  cases c5
  case false =>
    repeat' first | (with_reducible first | refine AWP_seq' ?_ | refine k_normal ?_ | refine AWP_ret ?_) | ((with_reducible refine AWP_reg fun KC J hJ hKC => ?_); simp (maxSteps := 10000000) only [push_cast, seval, ↓reduceIte, hc1, hc2, hc3, hc4, hc5', undef]) | (refine hKC _ _ _ _ _ (callV0 (i1) rfl rfl rfl ?_ ?_); (· exact Lq); simp (maxSteps := 10000000) only [push_cast, seval, ↓reduceIte, hc1, hc2, hc3, hc4, hc5', undef]) | (refine hKC _ _ _ _ _ (callV0 (i2) rfl rfl rfl ?_ ?_); (· exact Lq); simp (maxSteps := 10000000) only [push_cast, seval, ↓reduceIte, hc1, hc2, hc3, hc4, hc5', undef]) | (refine hKC _ _ _ _ _ (callV0 (i3) rfl rfl rfl ?_ ?_); (· exact Lq); simp (maxSteps := 10000000) only [push_cast, seval, ↓reduceIte, hc1, hc2, hc3, hc4, hc5', undef]) | (refine hKC _ _ _ _ _ (callV0 (i4) rfl rfl rfl ?_ ?_); (· exact Lq); simp (maxSteps := 10000000) only [push_cast, seval, ↓reduceIte, hc1, hc2, hc3, hc4, hc5', undef]) | ((with_reducible refine hJ _ _ ?_); clear hJ hKC KC J)
    refine ret_plain ?_
    simp (maxSteps := 10000000) only [push_cast, seval, ↓reduceIte, show Tryz.f57.results = #[(.tmp 2)] from rfl]
    exact Lq
  repeat' first | (with_reducible first | refine AWP_seq' ?_ | refine k_normal ?_ | refine AWP_ret ?_) | ((with_reducible refine AWP_reg fun KC J hJ hKC => ?_); simp (maxSteps := 10000000) only [push_cast, seval, ↓reduceIte, hc1, hc2, hc3, hc4, hc5', undef]) | (refine hKC _ _ _ _ _ (callV0 (h1) rfl rfl rfl ?_ ?_); (· exact Lq); simp (maxSteps := 10000000) only [push_cast, seval, ↓reduceIte, hc1, hc2, hc3, hc4, hc5', undef]) | (refine hKC _ _ _ _ _ (callV0 (i1) rfl rfl rfl ?_ ?_); (· exact Lq); simp (maxSteps := 10000000) only [push_cast, seval, ↓reduceIte, hc1, hc2, hc3, hc4, hc5', undef]) | (refine hKC _ _ _ _ _ (callV0 (i2) rfl rfl rfl ?_ ?_); (· exact Lq); simp (maxSteps := 10000000) only [push_cast, seval, ↓reduceIte, hc1, hc2, hc3, hc4, hc5', undef]) | (refine hKC _ _ _ _ _ (callV0 (i3) rfl rfl rfl ?_ ?_); (· exact Lq); simp (maxSteps := 10000000) only [push_cast, seval, ↓reduceIte, hc1, hc2, hc3, hc4, hc5', undef]) | (refine hKC _ _ _ _ _ (callV0 (i4) rfl rfl rfl ?_ ?_); (· exact Lq); simp (maxSteps := 10000000) only [push_cast, seval, ↓reduceIte, hc1, hc2, hc3, hc4, hc5', undef]) | ((with_reducible refine hJ _ _ ?_); clear hJ hKC KC J)
  refine ret_plain ?_
  simp (maxSteps := 10000000) only [push_cast, seval, ↓reduceIte, show Tryz.f57.results = #[(.tmp 2)] from rfl]
  exact Lq
/-- Why a space can't be looked at. -/
def mayG (ns : List ByteArray) (us : List Nat) (sp : Sp) : Int := if checkF ns us = 0 then if spB sp = true then 0 else 1 else checkF ns us
theorem genMay_fn (f g h : Bool) (ns : List ByteArray) (us : List Nat) (sp : Sp) (hs : Szs ns) (hu : U32 us) (hw : sp.ws.length ≤ 1000) :
    Fn Tryz.prog 93 [.agg [.sl f 1 (strRow ns), .sl g 1 (u32Row us)], .agg (spF h sp)] [] (.v (.int .i64 (mayG ns us sp))) [] := by
  have h1 := latCheck_fn f g ns us hs hu
  have h2 := genRight_fn h sp hw
  unfold mayG
  obtain ⟨c, hc⟩ : ∃ c, checkF ns us = c := ⟨_, rfl⟩
  obtain ⟨b, hb⟩ : ∃ b, spB sp = b := ⟨_, rfl⟩
  rw [hc] at h1 ⊢
  rw [hb] at h2 ⊢
  simp only [spF] at h2 ⊢
  refine Fn.of (fn := Tryz.f93) (by kernel_rfl) rfl (by kernel_rfl) ⟨[.agg [.sl f 1 (strRow ns), .sl g 1 (u32Row us)], .agg [.v (.int .i64 sp.code), .v (.int .i64 sp.mem), .v (.int .i64 sp.stack), .v (.int .i64 sp.val), .sl h 1 (intRow sp.ws)], .v undef, .v undef, .v undef, .v undef, .v undef, .v undef, .v undef, .v undef, .v undef, .v undef, .v undef, .v undef], []⟩ rfl ?_
  by_cases h0 : c = 0
  · subst h0
    cases b
    all_goals
      repeat' first | (with_reducible first | refine AWP_seq' ?_ | refine k_normal ?_ | refine k_ret ?_ | refine AWP_ret ?_ | refine AWP_skip ?_) | ((with_reducible refine AWP_reg fun KC J hJ hKC => ?_); simp (maxSteps := 10000000) only [push_cast, seval, ↓reduceIte, bne_self_eq_false]) | (refine hKC _ _ _ _ _ (callV0 (h1) rfl rfl rfl ?_ ?_); (· exact Lq); simp (maxSteps := 10000000) only [push_cast, seval, ↓reduceIte, bne_self_eq_false]) | (refine hKC _ _ _ _ _ (callV0 (h2) rfl rfl rfl ?_ ?_); (· exact Lq); simp (maxSteps := 10000000) only [push_cast, seval, ↓reduceIte, bne_self_eq_false]) | ((with_reducible refine hJ _ _ ?_); clear hJ hKC KC J) | ((with_reducible refine AWP_condT ?_ ?_); · rfl) | ((with_reducible refine AWP_condF ?_ ?_); · rfl)
      refine ret_plain ?_
      simp (maxSteps := 10000000) only [push_cast, seval, ↓reduceIte, show Tryz.f93.results = #[(.tmp 4)] from rfl]
      exact Lq
  · have h0' : (c != 0) = true := by simpa using h0
    rw [if_neg h0]
    repeat' first | (with_reducible first | refine AWP_seq' ?_ | refine k_normal ?_ | refine k_ret ?_ | refine AWP_ret ?_) | ((with_reducible refine AWP_reg fun KC J hJ hKC => ?_); simp (maxSteps := 10000000) only [push_cast, seval, ↓reduceIte, h0']) | (refine hKC _ _ _ _ _ (callV0 (h1) rfl rfl rfl ?_ ?_); (· exact Lq); simp (maxSteps := 10000000) only [push_cast, seval, ↓reduceIte, h0']) | ((with_reducible refine hJ _ _ ?_); clear hJ hKC KC J) | ((with_reducible refine AWP_condT ?_ ?_); · rfl)
    refine ret_plain ?_
    simp (maxSteps := 10000000) only [push_cast, seval, ↓reduceIte, show Tryz.f93.results = #[(.tmp 4)] from rfl]
    exact Lq
theorem rMay15_fn (f g h : Bool) (ns : List ByteArray) (us : List Nat) (sp : Sp) (hs : Szs ns) (hu : U32 us) (hw : sp.ws.length ≤ 1000) :
    Fn Tryz.prog 16 [.agg [.sl f 1 (strRow ns), .sl g 1 (u32Row us)], .agg (spF h sp)] [] (.v (.int .i64 (mayG ns us sp))) [] := by
  have h1 := rCheck_fn f g ns us hs hu
  have h2 := rRight15_fn h sp hw
  unfold mayG
  obtain ⟨c, hc⟩ : ∃ c, checkF ns us = c := ⟨_, rfl⟩
  obtain ⟨b, hb⟩ : ∃ b, spB sp = b := ⟨_, rfl⟩
  rw [hc] at h1 ⊢
  rw [hb] at h2 ⊢
  simp only [spF] at h2 ⊢
  refine Fn.of (fn := Tryz.f16) (by kernel_rfl) rfl (by kernel_rfl) ⟨[.agg [.sl f 1 (strRow ns), .sl g 1 (u32Row us)], .agg [.v (.int .i64 sp.code), .v (.int .i64 sp.mem), .v (.int .i64 sp.stack), .v (.int .i64 sp.val), .sl h 1 (intRow sp.ws)], .v undef, .v undef, .v undef, .v undef, .v undef, .v undef, .v undef, .v undef, .v undef, .v undef, .v undef, .v undef, .v undef, .v undef], []⟩ rfl ?_
  by_cases h0 : c = 0
  · subst h0
    cases b
    all_goals
      repeat' first | (with_reducible first | refine AWP_seq' ?_ | refine k_normal ?_ | refine k_ret ?_ | refine AWP_ret ?_ | refine AWP_skip ?_) | ((with_reducible refine AWP_reg fun KC J hJ hKC => ?_); simp (maxSteps := 10000000) only [push_cast, seval, ↓reduceIte, beq_self_eq_true, undef]) | (refine hKC _ _ _ _ _ (callV0 (h1) rfl rfl rfl ?_ ?_); (· exact Lq); simp (maxSteps := 10000000) only [push_cast, seval, ↓reduceIte, beq_self_eq_true, undef]) | (refine hKC _ _ _ _ _ (callV0 (h2) rfl rfl rfl ?_ ?_); (· exact Lq); simp (maxSteps := 10000000) only [push_cast, seval, ↓reduceIte, beq_self_eq_true, undef]) | ((with_reducible refine hJ _ _ ?_); clear hJ hKC KC J) | ((with_reducible refine AWP_condT ?_ ?_); · rfl) | ((with_reducible refine AWP_condF ?_ ?_); · rfl)
      refine ret_plain ?_
      simp (maxSteps := 10000000) only [push_cast, seval, ↓reduceIte, show Tryz.f16.results = #[(.tmp 4)] from rfl]
      exact Lq
  · have h0' : (c == 0) = false := by simpa using h0
    rw [if_neg h0]
    repeat' first | (with_reducible first | refine AWP_seq' ?_ | refine k_normal ?_ | refine AWP_ret ?_ | refine AWP_skip ?_) | ((with_reducible refine AWP_reg fun KC J hJ hKC => ?_); simp (maxSteps := 10000000) only [push_cast, seval, ↓reduceIte, h0', undef]) | (refine hKC _ _ _ _ _ (callV0 (h1) rfl rfl rfl ?_ ?_); (· exact Lq); simp (maxSteps := 10000000) only [push_cast, seval, ↓reduceIte, h0', undef]) | ((with_reducible refine hJ _ _ ?_); clear hJ hKC KC J) | ((with_reducible refine AWP_condF ?_ ?_); · rfl)
    refine ret_plain ?_
    simp (maxSteps := 10000000) only [push_cast, seval, ↓reduceIte, show Tryz.f16.results = #[(.tmp 4)] from rfl]
    exact Lq
end Go.Proofs.YtabliglgeiajlaaGreat.AM
