/- EquivStates. -/
import Derived.Test.YtabliglgeiajlaaP4
import Derived.Test.YtabliglgeiajlaaNA
set_option linter.unusedSimpArgs false
set_option linter.unusedVariables false
namespace Go.Proofs.Ytabliglgeiajlaa.AM
open Go Go.RowKit Go.Proofs
set_option maxRecDepth 100000
set_option maxHeartbeats 1000000

theorem may1S_only (ns : List ByteArray) (us : List Nat) (o : Int) (xs : List (Bool × Int × Int)) : may12F ns us o (onlyS xs) (onlyS []) = may1S ns us o xs := by
  unfold may12F may1S mayF
  by_cases hc : checkF ns us = 0
  · rw [if_pos hc, if_pos hc]
    simp only [labF, onlyS, labs1S, okL_any, List.map_nil, List.any_nil, odd0 hc, List.any_append, List.any_cons, Bool.not_false, Bool.true_and, Bool.and_true, Bool.or_false]
    cases (xs.map _).any (oddL us.length) <;> cases oddL us.length o <;> rfl
  · rw [if_neg hc, if_neg hc]
theorem cutSta_15 (s : Sta) : Sml15 (cutSta s) := let ⟨h1, h2, h3, h4⟩ := cutSta_sml s; ⟨h1, h2, h3, h4⟩
set_option maxHeartbeats 8000000 in
theorem equivStates_fn (f g fc fm fs fo fc' fm' fs' fo' : Bool) (ns : List ByteArray) (us : List Nat) (o : Int) (a b : Sta) (hu0 : U32 us) :
    Fn Try.prog 13 [.agg [.sl f 1 (strRow ns), .sl g 1 (u32Row us)], .v (.int .i64 o), .agg (staF fc fm fs fo a), .agg (staF fc' fm' fs' fo' b)] [] (.v (.bool true)) [] := by
  have hs := szs_few ns
  have hu := u32_few hu0
  have hfw := few12_fn f g ns us
  have hca := cut12_fn fc fm fs fo a
  have hcb := cut12_fn fc' fm' fs' fo' b
  obtain ⟨xs, hxs⟩ : ∃ xs, (ns.take 10).map cutS = xs := ⟨_, rfl⟩
  obtain ⟨ys, hys⟩ : ∃ xs, us.take 10 = xs := ⟨_, rfl⟩
  have hyl : ys.length ≤ 10 := by rw [← hys]; simp; omega
  rw [hxs] at hs hfw
  rw [hys] at hu hfw
  have la := cutSta_15 a
  have lb := cutSta_15 b
  obtain ⟨A, hA⟩ : ∃ A, cutSta a = A := ⟨_, rfl⟩
  obtain ⟨B, hB⟩ : ∃ B, cutSta b = B := ⟨_, rfl⟩
  rw [hA] at la hca
  rw [hB] at lb hcb
  have hst := apiStates_fn xs ys o A B hs hu la lb
  have hcr := apiCrop_fn false false false xs ys o A.stack hs hu (by have := la.stack; omega)
  have hm1 := rMay12_fn false false false false false false false false false false xs ys o (onlyS A.stack) (onlyS []) hs hu ⟨by simp [onlyS], by simp [onlyS], by simp [onlyS]; have := la.stack; omega, by simp [onlyS]⟩ ⟨by simp [onlyS], by simp [onlyS], by simp [onlyS], by simp [onlyS]⟩
  rw [may1S_only] at hm1
  have hm2 := rMay12_fn false false false false false false false false false false xs ys o A B hs hu la.sml lb.sml
  have hrs := rStates_fn xs ys o A B hu la lb (by omega)
  have hal := alive12_fn
  have hrc : may1S xs ys o A.stack = 0 → Fn Try.prog 74 [.agg [.sl false 1 (strRow xs), .sl false 1 (u32Row ys)], .v (.int .i64 o), .sl false 3 (sRow A.stack)] [] (.sl false 3 (sRow (cropS ys o.toNat A.stack))) [] := fun h => by
    obtain ⟨h1, h2⟩ := mayF_ok h
    obtain ⟨b, rfl, hb⟩ := oddL_no (h2 o (by simp))
    rw [Int.toNat_natCast]
    exact rCrop_fn false false false xs ys b A.stack hu (by omega) (by have := la.stack; omega) (fun x hx => h2 _ (List.mem_append_left _ (List.mem_map_of_mem hx)))
  have heq := equalS_fn false false (cropS ys o.toNat A.stack) (cropS ys o.toNat A.stack) (by have := la.stack; rw [cropS, List.length_take]; omega)
  rw [decide_eq_true rfl] at heq
  have hcM : cropM xs ys o A.stack = if may1S xs ys o A.stack = 0 then cropS ys o.toNat A.stack else [] := rfl
  obtain ⟨m1, hM1⟩ : ∃ m, may1S xs ys o A.stack = m := ⟨_, rfl⟩
  obtain ⟨m2, hM2⟩ : ∃ m, may12F xs ys o A B = m := ⟨_, rfl⟩
  obtain ⟨w, hw⟩ : ∃ w, statesB ys o.toNat A B = w := ⟨_, rfl⟩
  obtain ⟨C, hC⟩ : ∃ C, cropS ys o.toNat A.stack = C := ⟨_, rfl⟩
  obtain ⟨D', hD⟩ : ∃ D', cropM xs ys o A.stack = D' := ⟨_, rfl⟩
  rw [hM1, hC, hD] at hcM
  rw [hM1, hD] at hcr
  rw [hM1] at hm1 hrc
  rw [hC] at hrc heq
  rw [hM2] at hst hm2 hrs
  rw [hw] at hst hrs
  obtain ⟨ws, hws⟩ : ∃ ws, (decide (m2 = 0) && w) = ws := ⟨_, rfl⟩
  rw [hws] at hst
  refine Fn.of (fn := Try.f13) (by kernel_rfl) rfl (by kernel_rfl) ⟨[.agg [.sl f 1 (strRow ns), .sl g 1 (u32Row us)], .v (.int .i64 o), .agg (staF fc fm fs fo a), .agg (staF fc' fm' fs' fo' b), .v undef, .v undef, .v undef, .v undef, .v undef, .v undef, .v undef, .v undef, .v undef, .v undef, .v undef, .v undef, .v undef, .v undef, .v undef, .v undef, .v undef, .v undef, .v undef, .v undef, .v undef, .v undef, .v undef, .v undef, .v undef, .v undef, .v undef, .v undef, .v undef, .v undef, .v undef, .v undef, .v undef, .v undef, .v undef, .v undef, .v undef, .v undef, .v undef, .v undef, .v undef, .v undef, .v undef, .v undef, .v undef, .v undef, .v undef, .v undef, .v undef, .v undef, .v undef, .v undef, .v undef, .v undef, .v undef, .v undef, .v undef, .v undef, .v undef, .v undef, .v undef, .v undef, .v undef, .v undef, .v undef, .v undef, .v undef, .v undef, .v undef, .v undef, .v undef, .v undef, .v undef, .v undef, .v undef, .v undef, .v undef, .v undef, .v undef, .v undef, .v undef, .v undef, .v undef, .v undef, .v undef, .v undef, .v undef, .v undef, .v undef, .v undef, .v undef, .v undef, .v undef, .v undef, .v undef, .v undef, .v undef], []⟩ rfl ?_
  by_cases h1 : m1 = 0
  · subst h1
    have hrc := hrc rfl
    rw [if_pos rfl] at hcM
    subst hcM
    by_cases h2 : m2 = 0
    · subst h2
      have hrs := hrs rfl
      rw [decide_eq_true rfl, Bool.true_and] at hws
      subst hws
      repeat' first | (with_reducible first | refine AWP_seq' ?_ | refine k_normal ?_ | refine AWP_ret ?_ | refine AWP_skip ?_) | ((with_reducible first | refine AWP_reg fun KC J hJ hKC => ?_ | refine AWP_regD rfl fun KC J hJ hKC => ?_); simp (maxSteps := 10000000) only [push_cast, seval, ↓reduceIte, staF, hxs, hys, hA, hB, hM1, hM2, hw, hC, hD, beq_self_eq_true, bne_self_eq_false, undef]) | (refine' hKC _ _ _ _ _ (callV0 (few12_fn _ _ _ _) rfl rfl rfl ?_ ?_); (rotate_left 4); (· exact Lq); simp (maxSteps := 10000000) only [push_cast, seval, ↓reduceIte, staF, hxs, hys, hA, hB, hM1, hM2, hw, hC, hD, beq_self_eq_true, bne_self_eq_false, undef]) | (refine' hKC _ _ _ _ _ (callV0 (cut12_fn _ _ _ _ _) rfl rfl rfl ?_ ?_); (rotate_left 5); (· exact Lq); simp (maxSteps := 10000000) only [push_cast, seval, ↓reduceIte, staF, hxs, hys, hA, hB, hM1, hM2, hw, hC, hD, beq_self_eq_true, bne_self_eq_false, undef]) | (refine' hKC _ _ _ _ _ (callV0 (apiStates_fn _ _ _ _ _ ?_ ?_ ?_ ?_) rfl rfl rfl ?_ ?_); (rotate_left 9); (· exact Lq); (rotate_left 1); (iterate 4 (· exact Hq)); simp (maxSteps := 10000000) only [push_cast, seval, ↓reduceIte, staF, hxs, hys, hA, hB, hM1, hM2, hw, hC, hD, beq_self_eq_true, bne_self_eq_false, undef]) | (refine' hKC _ _ _ _ _ (callV0 (alive12_fn) rfl rfl rfl ?_ ?_); (· exact Lq); simp (maxSteps := 10000000) only [push_cast, seval, ↓reduceIte, staF, hxs, hys, hA, hB, hM1, hM2, hw, hC, hD, beq_self_eq_true, bne_self_eq_false, undef]) | (refine' hKC _ _ _ _ _ (callV0 (rStates_fn _ _ _ _ _ ?_ ?_ ?_ ?_ ?_) rfl rfl rfl ?_ ?_); (rotate_left 10); (· exact Lq); (rotate_left 1); (iterate 5 (· exact Hq)); simp (maxSteps := 10000000) only [push_cast, seval, ↓reduceIte, staF, hxs, hys, hA, hB, hM1, hM2, hw, hC, hD, beq_self_eq_true, bne_self_eq_false, undef]) | (refine hKC _ _ _ _ _ (callV0 (hcr) rfl rfl rfl ?_ ?_); (· exact Lq); simp (maxSteps := 10000000) only [push_cast, seval, ↓reduceIte, staF, hxs, hys, hA, hB, hM1, hM2, hw, hC, hD, beq_self_eq_true, bne_self_eq_false, undef]) | (refine hKC _ _ _ _ _ (callV0 (hm1) rfl rfl rfl ?_ ?_); (· exact Lq); simp (maxSteps := 10000000) only [push_cast, seval, ↓reduceIte, staF, hxs, hys, hA, hB, hM1, hM2, hw, hC, hD, beq_self_eq_true, bne_self_eq_false, undef]) | (refine hKC _ _ _ _ _ (callV0 (hm2) rfl rfl rfl ?_ ?_); (· exact Lq); simp (maxSteps := 10000000) only [push_cast, seval, ↓reduceIte, staF, hxs, hys, hA, hB, hM1, hM2, hw, hC, hD, beq_self_eq_true, bne_self_eq_false, undef]) | (refine hKC _ _ _ _ _ (callV0 (hrc) rfl rfl rfl ?_ ?_); (· exact Lq); simp (maxSteps := 10000000) only [push_cast, seval, ↓reduceIte, staF, hxs, hys, hA, hB, hM1, hM2, hw, hC, hD, beq_self_eq_true, bne_self_eq_false, undef]) | (refine hKC _ _ _ _ _ (callV0 (heq) rfl rfl rfl ?_ ?_); (· exact Lq); simp (maxSteps := 10000000) only [push_cast, seval, ↓reduceIte, staF, hxs, hys, hA, hB, hM1, hM2, hw, hC, hD, beq_self_eq_true, bne_self_eq_false, undef]) | ((first | with_reducible refine hJ _ _ ?_ | (with_reducible refine hJ _ _ ?_ ?_; · kernel_rfl)); clear hJ hKC KC J) | ((with_reducible refine AWP_condF ?_ ?_); · rfl)
      refine ret_plain ?_
      simp (maxSteps := 10000000) only [push_cast, seval, ↓reduceIte, show Try.f13.results = #[(.tmp 8)] from rfl]
      exact Lq
    · have h2' : (m2 != 0) = true := by simpa using h2
      have hq : (decide (m2 = 0) && w) = false := by simp [h2]
      rw [hq] at hws
      subst hws
      repeat' first | (with_reducible first | refine AWP_seq' ?_ | refine k_normal ?_ | refine k_ret ?_ | refine AWP_ret ?_ | refine AWP_skip ?_) | ((with_reducible first | refine AWP_reg fun KC J hJ hKC => ?_ | refine AWP_regD rfl fun KC J hJ hKC => ?_); simp (maxSteps := 10000000) only [push_cast, seval, ↓reduceIte, staF, hxs, hys, hA, hB, hM1, hM2, hw, hC, hD, h2', hq, beq_self_eq_true, bne_self_eq_false, undef]) | (refine' hKC _ _ _ _ _ (callV0 (few12_fn _ _ _ _) rfl rfl rfl ?_ ?_); (rotate_left 4); (· exact Lq); simp (maxSteps := 10000000) only [push_cast, seval, ↓reduceIte, staF, hxs, hys, hA, hB, hM1, hM2, hw, hC, hD, h2', hq, beq_self_eq_true, bne_self_eq_false, undef]) | (refine' hKC _ _ _ _ _ (callV0 (cut12_fn _ _ _ _ _) rfl rfl rfl ?_ ?_); (rotate_left 5); (· exact Lq); simp (maxSteps := 10000000) only [push_cast, seval, ↓reduceIte, staF, hxs, hys, hA, hB, hM1, hM2, hw, hC, hD, h2', hq, beq_self_eq_true, bne_self_eq_false, undef]) | (refine' hKC _ _ _ _ _ (callV0 (apiStates_fn _ _ _ _ _ ?_ ?_ ?_ ?_) rfl rfl rfl ?_ ?_); (rotate_left 9); (· exact Lq); (rotate_left 1); (iterate 4 (· exact Hq)); simp (maxSteps := 10000000) only [push_cast, seval, ↓reduceIte, staF, hxs, hys, hA, hB, hM1, hM2, hw, hC, hD, h2', hq, beq_self_eq_true, bne_self_eq_false, undef]) | (refine' hKC _ _ _ _ _ (callV0 (alive12_fn) rfl rfl rfl ?_ ?_); (· exact Lq); simp (maxSteps := 10000000) only [push_cast, seval, ↓reduceIte, staF, hxs, hys, hA, hB, hM1, hM2, hw, hC, hD, h2', hq, beq_self_eq_true, bne_self_eq_false, undef]) | (refine hKC _ _ _ _ _ (callV0 (hcr) rfl rfl rfl ?_ ?_); (· exact Lq); simp (maxSteps := 10000000) only [push_cast, seval, ↓reduceIte, staF, hxs, hys, hA, hB, hM1, hM2, hw, hC, hD, h2', hq, beq_self_eq_true, bne_self_eq_false, undef]) | (refine hKC _ _ _ _ _ (callV0 (hm1) rfl rfl rfl ?_ ?_); (· exact Lq); simp (maxSteps := 10000000) only [push_cast, seval, ↓reduceIte, staF, hxs, hys, hA, hB, hM1, hM2, hw, hC, hD, h2', hq, beq_self_eq_true, bne_self_eq_false, undef]) | (refine hKC _ _ _ _ _ (callV0 (hm2) rfl rfl rfl ?_ ?_); (· exact Lq); simp (maxSteps := 10000000) only [push_cast, seval, ↓reduceIte, staF, hxs, hys, hA, hB, hM1, hM2, hw, hC, hD, h2', hq, beq_self_eq_true, bne_self_eq_false, undef]) | (refine hKC _ _ _ _ _ (callV0 (hrc) rfl rfl rfl ?_ ?_); (· exact Lq); simp (maxSteps := 10000000) only [push_cast, seval, ↓reduceIte, staF, hxs, hys, hA, hB, hM1, hM2, hw, hC, hD, h2', hq, beq_self_eq_true, bne_self_eq_false, undef]) | (refine hKC _ _ _ _ _ (callV0 (heq) rfl rfl rfl ?_ ?_); (· exact Lq); simp (maxSteps := 10000000) only [push_cast, seval, ↓reduceIte, staF, hxs, hys, hA, hB, hM1, hM2, hw, hC, hD, h2', hq, beq_self_eq_true, bne_self_eq_false, undef]) | ((first | with_reducible refine hJ _ _ ?_ | (with_reducible refine hJ _ _ ?_ ?_; · kernel_rfl)); clear hJ hKC KC J) | ((with_reducible refine AWP_condT ?_ ?_); · rfl) | ((with_reducible refine AWP_condF ?_ ?_); · rfl)
      refine ret_plain ?_
      simp (maxSteps := 10000000) only [push_cast, seval, ↓reduceIte, show Try.f13.results = #[(.tmp 8)] from rfl]
      exact Lq
  · have h1' : (m1 != 0) = true := by simpa using h1
    have h1'' : (m1 == 0) = false := by simpa using h1
    rw [if_neg h1] at hcM
    subst hcM
    by_cases h2 : m2 = 0
    · subst h2
      have hrs := hrs rfl
      rw [decide_eq_true rfl, Bool.true_and] at hws
      subst hws
      repeat' first | (with_reducible first | refine AWP_seq' ?_ | refine k_normal ?_ | refine AWP_ret ?_ | refine AWP_skip ?_) | ((with_reducible first | refine AWP_reg fun KC J hJ hKC => ?_ | refine AWP_regD rfl fun KC J hJ hKC => ?_); simp (maxSteps := 10000000) only [push_cast, seval, ↓reduceIte, staF, hxs, hys, hA, hB, hM1, hM2, hw, hC, hD, h1', h1'', beq_self_eq_true, bne_self_eq_false, undef]) | (refine' hKC _ _ _ _ _ (callV0 (few12_fn _ _ _ _) rfl rfl rfl ?_ ?_); (rotate_left 4); (· exact Lq); simp (maxSteps := 10000000) only [push_cast, seval, ↓reduceIte, staF, hxs, hys, hA, hB, hM1, hM2, hw, hC, hD, h1', h1'', beq_self_eq_true, bne_self_eq_false, undef]) | (refine' hKC _ _ _ _ _ (callV0 (cut12_fn _ _ _ _ _) rfl rfl rfl ?_ ?_); (rotate_left 5); (· exact Lq); simp (maxSteps := 10000000) only [push_cast, seval, ↓reduceIte, staF, hxs, hys, hA, hB, hM1, hM2, hw, hC, hD, h1', h1'', beq_self_eq_true, bne_self_eq_false, undef]) | (refine' hKC _ _ _ _ _ (callV0 (apiStates_fn _ _ _ _ _ ?_ ?_ ?_ ?_) rfl rfl rfl ?_ ?_); (rotate_left 9); (· exact Lq); (rotate_left 1); (iterate 4 (· exact Hq)); simp (maxSteps := 10000000) only [push_cast, seval, ↓reduceIte, staF, hxs, hys, hA, hB, hM1, hM2, hw, hC, hD, h1', h1'', beq_self_eq_true, bne_self_eq_false, undef]) | (refine' hKC _ _ _ _ _ (callV0 (alive12_fn) rfl rfl rfl ?_ ?_); (· exact Lq); simp (maxSteps := 10000000) only [push_cast, seval, ↓reduceIte, staF, hxs, hys, hA, hB, hM1, hM2, hw, hC, hD, h1', h1'', beq_self_eq_true, bne_self_eq_false, undef]) | (refine' hKC _ _ _ _ _ (callV0 (rStates_fn _ _ _ _ _ ?_ ?_ ?_ ?_ ?_) rfl rfl rfl ?_ ?_); (rotate_left 10); (· exact Lq); (rotate_left 1); (iterate 5 (· exact Hq)); simp (maxSteps := 10000000) only [push_cast, seval, ↓reduceIte, staF, hxs, hys, hA, hB, hM1, hM2, hw, hC, hD, h1', h1'', beq_self_eq_true, bne_self_eq_false, undef]) | (refine hKC _ _ _ _ _ (callV0 (hcr) rfl rfl rfl ?_ ?_); (· exact Lq); simp (maxSteps := 10000000) only [push_cast, seval, ↓reduceIte, staF, hxs, hys, hA, hB, hM1, hM2, hw, hC, hD, h1', h1'', beq_self_eq_true, bne_self_eq_false, undef]) | (refine hKC _ _ _ _ _ (callV0 (hm1) rfl rfl rfl ?_ ?_); (· exact Lq); simp (maxSteps := 10000000) only [push_cast, seval, ↓reduceIte, staF, hxs, hys, hA, hB, hM1, hM2, hw, hC, hD, h1', h1'', beq_self_eq_true, bne_self_eq_false, undef]) | (refine hKC _ _ _ _ _ (callV0 (hm2) rfl rfl rfl ?_ ?_); (· exact Lq); simp (maxSteps := 10000000) only [push_cast, seval, ↓reduceIte, staF, hxs, hys, hA, hB, hM1, hM2, hw, hC, hD, h1', h1'', beq_self_eq_true, bne_self_eq_false, undef]) | ((first | with_reducible refine hJ _ _ ?_ | (with_reducible refine hJ _ _ ?_ ?_; · kernel_rfl)); clear hJ hKC KC J) | ((with_reducible refine AWP_condF ?_ ?_); · rfl)
      refine ret_plain ?_
      simp (maxSteps := 10000000) only [push_cast, seval, ↓reduceIte, show Try.f13.results = #[(.tmp 8)] from rfl]
      exact Lq
    · have h2' : (m2 != 0) = true := by simpa using h2
      have hq : (decide (m2 = 0) && w) = false := by simp [h2]
      rw [hq] at hws
      subst hws
      repeat' first | (with_reducible first | refine AWP_seq' ?_ | refine k_normal ?_ | refine k_ret ?_ | refine AWP_ret ?_ | refine AWP_skip ?_) | ((with_reducible first | refine AWP_reg fun KC J hJ hKC => ?_ | refine AWP_regD rfl fun KC J hJ hKC => ?_); simp (maxSteps := 10000000) only [push_cast, seval, ↓reduceIte, staF, hxs, hys, hA, hB, hM1, hM2, hw, hC, hD, h1', h1'', h2', hq, beq_self_eq_true, bne_self_eq_false, undef]) | (refine' hKC _ _ _ _ _ (callV0 (few12_fn _ _ _ _) rfl rfl rfl ?_ ?_); (rotate_left 4); (· exact Lq); simp (maxSteps := 10000000) only [push_cast, seval, ↓reduceIte, staF, hxs, hys, hA, hB, hM1, hM2, hw, hC, hD, h1', h1'', h2', hq, beq_self_eq_true, bne_self_eq_false, undef]) | (refine' hKC _ _ _ _ _ (callV0 (cut12_fn _ _ _ _ _) rfl rfl rfl ?_ ?_); (rotate_left 5); (· exact Lq); simp (maxSteps := 10000000) only [push_cast, seval, ↓reduceIte, staF, hxs, hys, hA, hB, hM1, hM2, hw, hC, hD, h1', h1'', h2', hq, beq_self_eq_true, bne_self_eq_false, undef]) | (refine' hKC _ _ _ _ _ (callV0 (apiStates_fn _ _ _ _ _ ?_ ?_ ?_ ?_) rfl rfl rfl ?_ ?_); (rotate_left 9); (· exact Lq); (rotate_left 1); (iterate 4 (· exact Hq)); simp (maxSteps := 10000000) only [push_cast, seval, ↓reduceIte, staF, hxs, hys, hA, hB, hM1, hM2, hw, hC, hD, h1', h1'', h2', hq, beq_self_eq_true, bne_self_eq_false, undef]) | (refine' hKC _ _ _ _ _ (callV0 (alive12_fn) rfl rfl rfl ?_ ?_); (· exact Lq); simp (maxSteps := 10000000) only [push_cast, seval, ↓reduceIte, staF, hxs, hys, hA, hB, hM1, hM2, hw, hC, hD, h1', h1'', h2', hq, beq_self_eq_true, bne_self_eq_false, undef]) | (refine hKC _ _ _ _ _ (callV0 (hcr) rfl rfl rfl ?_ ?_); (· exact Lq); simp (maxSteps := 10000000) only [push_cast, seval, ↓reduceIte, staF, hxs, hys, hA, hB, hM1, hM2, hw, hC, hD, h1', h1'', h2', hq, beq_self_eq_true, bne_self_eq_false, undef]) | (refine hKC _ _ _ _ _ (callV0 (hm1) rfl rfl rfl ?_ ?_); (· exact Lq); simp (maxSteps := 10000000) only [push_cast, seval, ↓reduceIte, staF, hxs, hys, hA, hB, hM1, hM2, hw, hC, hD, h1', h1'', h2', hq, beq_self_eq_true, bne_self_eq_false, undef]) | (refine hKC _ _ _ _ _ (callV0 (hm2) rfl rfl rfl ?_ ?_); (· exact Lq); simp (maxSteps := 10000000) only [push_cast, seval, ↓reduceIte, staF, hxs, hys, hA, hB, hM1, hM2, hw, hC, hD, h1', h1'', h2', hq, beq_self_eq_true, bne_self_eq_false, undef]) | ((first | with_reducible refine hJ _ _ ?_ | (with_reducible refine hJ _ _ ?_ ?_; · kernel_rfl)); clear hJ hKC KC J) | ((with_reducible refine AWP_condT ?_ ?_); · rfl) | ((with_reducible refine AWP_condF ?_ ?_); · rfl)
      refine ret_plain ?_
      simp (maxSteps := 10000000) only [push_cast, seval, ↓reduceIte, show Try.f13.results = #[(.tmp 8)] from rfl]
      exact Lq
end Go.Proofs.Ytabliglgeiajlaa.AM
