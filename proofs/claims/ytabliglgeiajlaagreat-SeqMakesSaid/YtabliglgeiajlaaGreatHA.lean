/- Instructions that may be. -/
import Derived.Test.YtabliglgeiajlaaGreatHE
import Derived.Test.YtabliglgeiajlaaGreatS0
set_option linter.unusedSimpArgs false
set_option linter.unusedVariables false
namespace Go.Proofs.YtabliglgeiajlaaGreat.AM
open Go Go.RowKit Go.Proofs
set_option maxRecDepth 100000
set_option maxHeartbeats 2000000

@[push_cast] theorem tyf1 : tyI Tryz.prog 142 = some ⟨TypeDesc.func #[3] #[4] false, 1, 8, Value.nilFunc⟩ := by kernel_rfl
abbrev inD (a b : Int) : D := .fn 299 [.fad [.v (.int .i64 a)], .fad [.v (.int .i64 b)]]
theorem spanIn_fn (a b n : Int) : Fn Tryz.prog 299 [.v (.int .i64 n), .fad [.v (.int .i64 a)], .fad [.v (.int .i64 b)]] [] (.v (.bool (inB a b n))) [] := by
  obtain ⟨x, hx⟩ : ∃ x, decide (a ≤ n) = x := ⟨_, rfl⟩
  rw [inB, hx]
  refine Fn.of (fn := Tryz.f299) (by kernel_rfl) rfl (by kernel_rfl) ⟨[.v (.int .i64 n), .fad [.v (.int .i64 a)], .fad [.v (.int .i64 b)], .v undef, .v undef, .v undef, .v undef, .v undef, .v undef, .v undef, .v undef, .v undef, .v undef], []⟩ rfl ?_
  cases x
  all_goals
    repeat' first | (with_reducible first | refine AWP_seq' ?_ | refine k_normal ?_ | refine AWP_ret ?_) | ((with_reducible refine AWP_reg fun KC J hJ hKC => ?_); simp (maxSteps := 10000000) only [push_cast, seval, ↓reduceIte, hx, undef]) | ((with_reducible refine hJ _ _ ?_); clear hJ hKC KC J)
    refine ret_plain ?_
    simp (maxSteps := 10000000) only [push_cast, seval, ↓reduceIte, show Tryz.f299.results = #[(.tmp 4)] from rfl]
    exact Lq
theorem span_fn (a b : Int) : Fn Tryz.prog 298 [.v (.int .i64 a), .v (.int .i64 b)] [] (inD a b) [] := by
  refine Fn.of (fn := Tryz.f298) (by kernel_rfl) rfl (by kernel_rfl) ⟨[.v (.int .i64 a), .v (.int .i64 b), .v undef, .v undef, .v undef, .v undef], []⟩ rfl ?_
  repeat' first | (with_reducible first | refine AWP_seq' ?_ | refine k_normal ?_) | ((with_reducible refine AWP_reg fun KC J hJ hKC => ?_); simp (maxSteps := 10000000) only [push_cast, seval, ↓reduceIte]) | ((with_reducible refine hJ _ _ ?_); clear hJ hKC KC J)
  refine AWP_freeze 0 rfl (by simp (maxSteps := 10000000) only [push_cast, seval, ↓reduceIte]) ?_
  simp (maxSteps := 10000000) only [push_cast, seval, ↓reduceIte, frSt, frSlot, fr3, fr2, fr1, fr0, sameB, arrOf]
  refine AWP_freeze 1 rfl (by simp (maxSteps := 10000000) only [push_cast, seval, ↓reduceIte]) ?_
  simp (maxSteps := 10000000) only [push_cast, seval, ↓reduceIte, frSt, frSlot, fr3, fr2, fr1, fr0, sameB, arrOf]
  refine AWP_ret ?_
  refine ret_plain ?_
  simp (maxSteps := 10000000) only [push_cast, seval, ↓reduceIte, show Tryz.f298.results = #[(.tmp 4)] from rfl]
  exact Lq
abbrev spansE : Ent := ⟨0, none, 304, [inD (-20) 20, inD 0 12, inD 0 3, inD 0 1], .map [.int .i64 1, .int .i64 8, .int .i64 9, .int .i64 10]⟩
theorem spans_fn : Fn Tryz.prog 292 [] [] (.kref true 0 0) [.ent spansE] := by
  have h1 := span_fn (-20) 20
  have h2 := span_fn 0 12
  have h3 := span_fn 0 3
  have h4 := span_fn 0 1
  refine Fn.of (fn := Tryz.f292) (by kernel_rfl) rfl (by kernel_rfl) ⟨[.v undef, .v undef, .v undef, .v undef, .v undef, .v undef, .v undef, .v undef, .v undef, .v undef, .v undef, .v undef], []⟩ rfl ?_
  repeat' first | (with_reducible first | refine AWP_seq' ?_ | refine k_normal ?_) | ((with_reducible refine AWP_reg fun KC J hJ hKC => ?_); simp (maxSteps := 10000000) only [push_cast, seval, ↓reduceIte]) | (refine hKC _ _ _ _ _ (callV0 (h1) rfl rfl rfl ?_ ?_); (· exact Lq); simp (maxSteps := 10000000) only [push_cast, seval, ↓reduceIte]) | (refine hKC _ _ _ _ _ (callV0 (h2) rfl rfl rfl ?_ ?_); (· exact Lq); simp (maxSteps := 10000000) only [push_cast, seval, ↓reduceIte]) | (refine hKC _ _ _ _ _ (callV0 (h3) rfl rfl rfl ?_ ?_); (· exact Lq); simp (maxSteps := 10000000) only [push_cast, seval, ↓reduceIte]) | (refine hKC _ _ _ _ _ (callV0 (h4) rfl rfl rfl ?_ ?_); (· exact Lq); simp (maxSteps := 10000000) only [push_cast, seval, ↓reduceIte]) | ((with_reducible refine hJ _ _ ?_); clear hJ hKC KC J)
  refine AWP_ret ?_
  refine ret_new [0] ?_ (by simp) ?_
  · simp (maxSteps := 10000000) only [push_cast, seval, ↓reduceIte, show Tryz.f292.results = #[.tmp 0] from rfl, pick, mOf, idx]
    exact ⟨rfl, leD_refl _⟩
  · intro k hk
    exact absurd hk (by simp)
theorem codeRight_fn (n : Nat) (x : Int × Int × Int) : Fn Tryz.prog 270 [.v (.int .i64 n), .agg [.v (.int .i64 x.1), .v (.int .i64 x.2.1), .v (.int .i64 x.2.2)]] [] (.v (.bool (instrB n x))) [] := by
  obtain ⟨o, v, l⟩ := x
  have hsp := spans_fn
  simp only [instrB]
  obtain ⟨a1, ha1⟩ : ∃ b, decide (o < 0) = b := ⟨_, rfl⟩
  cases a1
  case true =>
    have ho := of_decide_eq_true ha1
    rw [if_neg (by omega), show inB 0 12 o = false by simp [inB]; omega]
    refine Fn.of (fn := Tryz.f270) (by kernel_rfl) rfl (by kernel_rfl) ⟨[.v (.int .i64 n), .agg [.v (.int .i64 o), .v (.int .i64 v), .v (.int .i64 l)], .v undef, .v undef, .v undef, .v undef, .v undef, .v undef, .v undef, .v undef, .v undef, .v undef, .v undef, .v undef, .v undef, .v undef, .v undef, .v undef, .v undef, .v undef, .v undef, .v undef, .v undef, .v undef, .v undef, .v undef, .v undef, .v undef, .v undef, .v undef, .v undef, .v undef, .v undef, .v undef, .v undef, .v undef, .v undef, .v undef, .v undef, .v undef, .v undef, .v undef, .v undef, .v undef, .v undef, .v undef, .v undef, .v undef, .v undef, .v undef, .v undef, .v undef, .v undef, .v undef], []⟩ rfl ?_
    repeat' first | (with_reducible first | refine AWP_seq' ?_ | refine k_normal ?_ | refine k_ret ?_ | refine AWP_ret ?_) | ((with_reducible refine AWP_reg fun KC J hJ hKC => ?_); simp (maxSteps := 10000000) only [push_cast, seval, ↓reduceIte, ha1, undef]) | ((with_reducible refine hJ _ _ ?_); clear hJ hKC KC J) | ((with_reducible refine AWP_condT ?_ ?_); · rfl)
    refine ret_plain ?_
    simp (maxSteps := 10000000) only [push_cast, seval, ↓reduceIte, show Tryz.f270.results = #[(.tmp 4)] from rfl]
    exact Lq
  have ho := of_decide_eq_false ha1
  obtain ⟨a2, ha2⟩ : ∃ b, decide (13 ≤ o) = b := ⟨_, rfl⟩
  cases a2
  case true =>
    have ho2 := of_decide_eq_true ha2
    rw [if_neg (by omega), show inB 0 12 o = false by simp [inB]; omega]
    refine Fn.of (fn := Tryz.f270) (by kernel_rfl) rfl (by kernel_rfl) ⟨[.v (.int .i64 n), .agg [.v (.int .i64 o), .v (.int .i64 v), .v (.int .i64 l)], .v undef, .v undef, .v undef, .v undef, .v undef, .v undef, .v undef, .v undef, .v undef, .v undef, .v undef, .v undef, .v undef, .v undef, .v undef, .v undef, .v undef, .v undef, .v undef, .v undef, .v undef, .v undef, .v undef, .v undef, .v undef, .v undef, .v undef, .v undef, .v undef, .v undef, .v undef, .v undef, .v undef, .v undef, .v undef, .v undef, .v undef, .v undef, .v undef, .v undef, .v undef, .v undef, .v undef, .v undef, .v undef, .v undef, .v undef, .v undef, .v undef, .v undef, .v undef, .v undef], []⟩ rfl ?_
    repeat' first | (with_reducible first | refine AWP_seq' ?_ | refine k_normal ?_ | refine k_ret ?_ | refine AWP_ret ?_) | ((with_reducible refine AWP_reg fun KC J hJ hKC => ?_); simp (maxSteps := 10000000) only [push_cast, seval, ↓reduceIte, ha1, ha2, undef]) | ((with_reducible refine hJ _ _ ?_); clear hJ hKC KC J) | ((with_reducible refine AWP_condT ?_ ?_); · rfl)
    refine ret_plain ?_
    simp (maxSteps := 10000000) only [push_cast, seval, ↓reduceIte, show Tryz.f270.results = #[(.tmp 4)] from rfl]
    exact Lq
  have ho2 := of_decide_eq_false ha2
  have hin : inB 0 12 o = true := by simp [inB]; omega
  by_cases e1 : o = 1
  · subst e1
    have h1 := spanIn_fn (-20) 20 v
    rw [if_pos rfl]
    obtain ⟨b1, hb1⟩ : ∃ b, inB (-20) 20 v = b := ⟨_, rfl⟩
    obtain ⟨b2, hb2⟩ : ∃ b, decide (0 ≤ l) = b := ⟨_, rfl⟩
    have hod : (!oddL n l) = (b2 && decide (l < (n : Int))) := by
      rw [← hb2, Bool.eq_iff_iff]; simp [oddL]
    rw [hod, hb1]
    rw [hb1] at h1
    cases b1 <;> cases b2
    all_goals
      refine Fn.of (fn := Tryz.f270) (by kernel_rfl) rfl (by kernel_rfl) ⟨[.v (.int .i64 n), .agg [.v (.int .i64 1), .v (.int .i64 v), .v (.int .i64 l)], .v undef, .v undef, .v undef, .v undef, .v undef, .v undef, .v undef, .v undef, .v undef, .v undef, .v undef, .v undef, .v undef, .v undef, .v undef, .v undef, .v undef, .v undef, .v undef, .v undef, .v undef, .v undef, .v undef, .v undef, .v undef, .v undef, .v undef, .v undef, .v undef, .v undef, .v undef, .v undef, .v undef, .v undef, .v undef, .v undef, .v undef, .v undef, .v undef, .v undef, .v undef, .v undef, .v undef, .v undef, .v undef, .v undef, .v undef, .v undef, .v undef, .v undef, .v undef, .v undef], []⟩ rfl ?_
      repeat' first | (with_reducible first | refine AWP_seq' ?_ | refine k_normal ?_ | refine k_ret ?_ | refine AWP_ret ?_ | refine AWP_skip ?_) | ((with_reducible first | refine AWP_reg fun KC J hJ hKC => ?_ | refine AWP_regD rfl fun KC J hJ hKC => ?_); simp (maxSteps := 10000000) only [push_cast, seval, ↓reduceIte, hb2, undef, backOf, callSets, renSlot, pick, mOf, idx, ren, ren2, ren1, ren0]) | (refine hKC _ _ _ _ _ (callN [] hsp rfl rfl rfl (by simp) (fun _ h => by cases h) rfl rfl rfl leF_nil ?_); simp (maxSteps := 10000000) only [push_cast, seval, ↓reduceIte, hb2, undef, backOf, callSets, renSlot, pick, mOf, idx, ren, ren2, ren1, ren0]) | (refine hKC _ _ _ _ _ (callV0 (h1) rfl rfl rfl ?_ ?_); (· exact Lq); simp (maxSteps := 10000000) only [push_cast, seval, ↓reduceIte, hb2, undef, backOf, callSets, renSlot, pick, mOf, idx, ren, ren2, ren1, ren0]) | ((first | with_reducible refine hJ _ _ ?_ | (with_reducible refine hJ _ _ ?_ ?_; · kernel_rfl)); clear hJ hKC KC J) | ((with_reducible refine AWP_condT ?_ ?_); · rfl) | ((with_reducible refine AWP_condF ?_ ?_); · rfl)
      refine ret_plain ?_
      simp (maxSteps := 10000000) only [push_cast, seval, ↓reduceIte, show Tryz.f270.results = #[(.tmp 4)] from rfl]
      exact Lq
  rw [if_neg e1, hin]
  have e1' : (o == 1) = false := by simpa using e1
  have hl0 : decide (l = 0) = (l == 0) := by rw [Bool.eq_iff_iff]; simp
  rw [hl0]
  obtain ⟨c1, hc1⟩ : ∃ b, (l == 0) = b := ⟨_, rfl⟩
  rw [hc1]
  by_cases e8 : o = 8
  · subst e8
    have h1 := spanIn_fn 0 12 v
    rw [if_pos rfl]
    obtain ⟨b1, hb1⟩ : ∃ b, inB 0 12 v = b := ⟨_, rfl⟩
    rw [hb1] at h1 ⊢
    cases b1
    all_goals
      refine Fn.of (fn := Tryz.f270) (by kernel_rfl) rfl (by kernel_rfl) ⟨[.v (.int .i64 n), .agg [.v (.int .i64 8), .v (.int .i64 v), .v (.int .i64 l)], .v undef, .v undef, .v undef, .v undef, .v undef, .v undef, .v undef, .v undef, .v undef, .v undef, .v undef, .v undef, .v undef, .v undef, .v undef, .v undef, .v undef, .v undef, .v undef, .v undef, .v undef, .v undef, .v undef, .v undef, .v undef, .v undef, .v undef, .v undef, .v undef, .v undef, .v undef, .v undef, .v undef, .v undef, .v undef, .v undef, .v undef, .v undef, .v undef, .v undef, .v undef, .v undef, .v undef, .v undef, .v undef, .v undef, .v undef, .v undef, .v undef, .v undef, .v undef, .v undef], []⟩ rfl ?_
      repeat' first | (with_reducible first | refine AWP_seq' ?_ | refine k_normal ?_ | refine k_ret ?_ | refine AWP_ret ?_ | refine AWP_skip ?_) | ((with_reducible first | refine AWP_reg fun KC J hJ hKC => ?_ | refine AWP_regD rfl fun KC J hJ hKC => ?_); simp (maxSteps := 10000000) only [push_cast, seval, ↓reduceIte, hc1, undef, backOf, callSets, renSlot, pick, mOf, idx, ren, ren2, ren1, ren0]) | (refine hKC _ _ _ _ _ (callN [] hsp rfl rfl rfl (by simp) (fun _ h => by cases h) rfl rfl rfl leF_nil ?_); simp (maxSteps := 10000000) only [push_cast, seval, ↓reduceIte, hc1, undef, backOf, callSets, renSlot, pick, mOf, idx, ren, ren2, ren1, ren0]) | (refine hKC _ _ _ _ _ (callV0 (h1) rfl rfl rfl ?_ ?_); (· exact Lq); simp (maxSteps := 10000000) only [push_cast, seval, ↓reduceIte, hc1, undef, backOf, callSets, renSlot, pick, mOf, idx, ren, ren2, ren1, ren0]) | ((first | with_reducible refine hJ _ _ ?_ | (with_reducible refine hJ _ _ ?_ ?_; · kernel_rfl)); clear hJ hKC KC J) | ((with_reducible refine AWP_condT ?_ ?_); · rfl) | ((with_reducible refine AWP_condF ?_ ?_); · rfl)
      refine ret_plain ?_
      simp (maxSteps := 10000000) only [push_cast, seval, ↓reduceIte, show Tryz.f270.results = #[(.tmp 4)] from rfl]
      first | exact Lq | (simp only [Bool.true_and, Bool.and_true, Bool.and_false]; exact Lq)
  rw [if_neg e8]
  by_cases e9 : o = 9
  · subst e9
    have h1 := spanIn_fn 0 3 v
    rw [if_pos rfl]
    obtain ⟨b1, hb1⟩ : ∃ b, inB 0 3 v = b := ⟨_, rfl⟩
    rw [hb1] at h1 ⊢
    cases b1
    all_goals
      refine Fn.of (fn := Tryz.f270) (by kernel_rfl) rfl (by kernel_rfl) ⟨[.v (.int .i64 n), .agg [.v (.int .i64 9), .v (.int .i64 v), .v (.int .i64 l)], .v undef, .v undef, .v undef, .v undef, .v undef, .v undef, .v undef, .v undef, .v undef, .v undef, .v undef, .v undef, .v undef, .v undef, .v undef, .v undef, .v undef, .v undef, .v undef, .v undef, .v undef, .v undef, .v undef, .v undef, .v undef, .v undef, .v undef, .v undef, .v undef, .v undef, .v undef, .v undef, .v undef, .v undef, .v undef, .v undef, .v undef, .v undef, .v undef, .v undef, .v undef, .v undef, .v undef, .v undef, .v undef, .v undef, .v undef, .v undef, .v undef, .v undef, .v undef, .v undef], []⟩ rfl ?_
      repeat' first | (with_reducible first | refine AWP_seq' ?_ | refine k_normal ?_ | refine k_ret ?_ | refine AWP_ret ?_ | refine AWP_skip ?_) | ((with_reducible first | refine AWP_reg fun KC J hJ hKC => ?_ | refine AWP_regD rfl fun KC J hJ hKC => ?_); simp (maxSteps := 10000000) only [push_cast, seval, ↓reduceIte, hc1, undef, backOf, callSets, renSlot, pick, mOf, idx, ren, ren2, ren1, ren0]) | (refine hKC _ _ _ _ _ (callN [] hsp rfl rfl rfl (by simp) (fun _ h => by cases h) rfl rfl rfl leF_nil ?_); simp (maxSteps := 10000000) only [push_cast, seval, ↓reduceIte, hc1, undef, backOf, callSets, renSlot, pick, mOf, idx, ren, ren2, ren1, ren0]) | (refine hKC _ _ _ _ _ (callV0 (h1) rfl rfl rfl ?_ ?_); (· exact Lq); simp (maxSteps := 10000000) only [push_cast, seval, ↓reduceIte, hc1, undef, backOf, callSets, renSlot, pick, mOf, idx, ren, ren2, ren1, ren0]) | ((first | with_reducible refine hJ _ _ ?_ | (with_reducible refine hJ _ _ ?_ ?_; · kernel_rfl)); clear hJ hKC KC J) | ((with_reducible refine AWP_condT ?_ ?_); · rfl) | ((with_reducible refine AWP_condF ?_ ?_); · rfl)
      refine ret_plain ?_
      simp (maxSteps := 10000000) only [push_cast, seval, ↓reduceIte, show Tryz.f270.results = #[(.tmp 4)] from rfl]
      first | exact Lq | (simp only [Bool.true_and, Bool.and_true, Bool.and_false]; exact Lq)
  rw [if_neg e9]
  by_cases e10 : o = 10
  · subst e10
    have h1 := spanIn_fn 0 1 v
    rw [if_pos rfl]
    obtain ⟨b1, hb1⟩ : ∃ b, inB 0 1 v = b := ⟨_, rfl⟩
    rw [hb1] at h1 ⊢
    cases b1
    all_goals
      refine Fn.of (fn := Tryz.f270) (by kernel_rfl) rfl (by kernel_rfl) ⟨[.v (.int .i64 n), .agg [.v (.int .i64 10), .v (.int .i64 v), .v (.int .i64 l)], .v undef, .v undef, .v undef, .v undef, .v undef, .v undef, .v undef, .v undef, .v undef, .v undef, .v undef, .v undef, .v undef, .v undef, .v undef, .v undef, .v undef, .v undef, .v undef, .v undef, .v undef, .v undef, .v undef, .v undef, .v undef, .v undef, .v undef, .v undef, .v undef, .v undef, .v undef, .v undef, .v undef, .v undef, .v undef, .v undef, .v undef, .v undef, .v undef, .v undef, .v undef, .v undef, .v undef, .v undef, .v undef, .v undef, .v undef, .v undef, .v undef, .v undef, .v undef, .v undef], []⟩ rfl ?_
      repeat' first | (with_reducible first | refine AWP_seq' ?_ | refine k_normal ?_ | refine k_ret ?_ | refine AWP_ret ?_ | refine AWP_skip ?_) | ((with_reducible first | refine AWP_reg fun KC J hJ hKC => ?_ | refine AWP_regD rfl fun KC J hJ hKC => ?_); simp (maxSteps := 10000000) only [push_cast, seval, ↓reduceIte, hc1, undef, backOf, callSets, renSlot, pick, mOf, idx, ren, ren2, ren1, ren0]) | (refine hKC _ _ _ _ _ (callN [] hsp rfl rfl rfl (by simp) (fun _ h => by cases h) rfl rfl rfl leF_nil ?_); simp (maxSteps := 10000000) only [push_cast, seval, ↓reduceIte, hc1, undef, backOf, callSets, renSlot, pick, mOf, idx, ren, ren2, ren1, ren0]) | (refine hKC _ _ _ _ _ (callV0 (h1) rfl rfl rfl ?_ ?_); (· exact Lq); simp (maxSteps := 10000000) only [push_cast, seval, ↓reduceIte, hc1, undef, backOf, callSets, renSlot, pick, mOf, idx, ren, ren2, ren1, ren0]) | ((first | with_reducible refine hJ _ _ ?_ | (with_reducible refine hJ _ _ ?_ ?_; · kernel_rfl)); clear hJ hKC KC J) | ((with_reducible refine AWP_condT ?_ ?_); · rfl) | ((with_reducible refine AWP_condF ?_ ?_); · rfl)
      refine ret_plain ?_
      simp (maxSteps := 10000000) only [push_cast, seval, ↓reduceIte, show Tryz.f270.results = #[(.tmp 4)] from rfl]
      first | exact Lq | (simp only [Bool.true_and, Bool.and_true, Bool.and_false]; exact Lq)
  rw [if_neg e10]
  have e8' : (o == 8) = false := by simpa using e8
  have e9' : (o == 9) = false := by simpa using e9
  have e10' : (o == 10) = false := by simpa using e10
  obtain ⟨d1, hd1⟩ : ∃ b, (v != 0) = b := ⟨_, rfl⟩
  have hv0 : decide (v = 0) = !d1 := by rw [← hd1, Bool.eq_iff_iff]; simp
  rw [hv0]
  cases d1
  all_goals
    refine Fn.of (fn := Tryz.f270) (by kernel_rfl) rfl (by kernel_rfl) ⟨[.v (.int .i64 n), .agg [.v (.int .i64 o), .v (.int .i64 v), .v (.int .i64 l)], .v undef, .v undef, .v undef, .v undef, .v undef, .v undef, .v undef, .v undef, .v undef, .v undef, .v undef, .v undef, .v undef, .v undef, .v undef, .v undef, .v undef, .v undef, .v undef, .v undef, .v undef, .v undef, .v undef, .v undef, .v undef, .v undef, .v undef, .v undef, .v undef, .v undef, .v undef, .v undef, .v undef, .v undef, .v undef, .v undef, .v undef, .v undef, .v undef, .v undef, .v undef, .v undef, .v undef, .v undef, .v undef, .v undef, .v undef, .v undef, .v undef, .v undef, .v undef, .v undef], []⟩ rfl ?_
    repeat' first | (with_reducible first | refine AWP_seq' ?_ | refine k_normal ?_ | refine k_ret ?_ | refine AWP_ret ?_ | refine AWP_skip ?_) | ((with_reducible first | refine AWP_reg fun KC J hJ hKC => ?_ | refine AWP_regD rfl fun KC J hJ hKC => ?_); simp (maxSteps := 10000000) only [push_cast, seval, ↓reduceIte, ha1, ha2, e1', e8', e9', e10', hc1, hd1, undef, backOf, callSets, renSlot, pick, mOf, idx, ren, ren2, ren1, ren0]) | (refine hKC _ _ _ _ _ (callN [] hsp rfl rfl rfl (by simp) (fun _ h => by cases h) rfl rfl rfl leF_nil ?_); simp (maxSteps := 10000000) only [push_cast, seval, ↓reduceIte, ha1, ha2, e1', e8', e9', e10', hc1, hd1, undef, backOf, callSets, renSlot, pick, mOf, idx, ren, ren2, ren1, ren0]) | ((first | with_reducible refine hJ _ _ ?_ | (with_reducible refine hJ _ _ ?_ ?_; · kernel_rfl)); clear hJ hKC KC J) | ((with_reducible refine AWP_condT ?_ ?_); · rfl) | ((with_reducible refine AWP_condF ?_ ?_); · rfl)
    refine ret_plain ?_
    simp (maxSteps := 10000000) only [push_cast, seval, ↓reduceIte, show Tryz.f270.results = #[(.tmp 4)] from rfl]
    first | exact Lq | (simp only [Bool.true_and, Bool.and_true, Bool.and_false, Bool.not_false, Bool.not_true]; exact Lq)
end Go.Proofs.YtabliglgeiajlaaGreat.AM
