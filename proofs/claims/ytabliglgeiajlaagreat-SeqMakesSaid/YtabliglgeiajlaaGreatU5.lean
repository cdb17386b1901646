/- Choices by weights. -/
import Derived.Test.YtabliglgeiajlaaGreatU4
set_option linter.unusedSimpArgs false
set_option linter.unusedVariables false
namespace Go.Proofs.YtabliglgeiajlaaGreat.AM
open Go Go.RowKit Go.Proofs
set_option maxRecDepth 100000
set_option maxHeartbeats 400000

theorem weightsB_le {ws : List Int} (h : weightsB ws = true) : 1 ≤ ws.length ∧ ws.length ≤ 20 ∧ (∀ w ∈ ws, 0 ≤ w ∧ w ≤ 100) ∧ 0 < ws.sum := by simpa [weightsB] using h
/-- The first place whose sum is above a number. -/
def pickI (ws : List Int) (n : Int) : Int := match (List.range ws.length).find? (fun i => decide (n < (ws.take (i + 1)).sum)) with | some i => (i : Int) | none => 0
theorem pickI_at {ws : List Int} {n : Int} {k : Nat} (hk : k < ws.length) (h : n < (ws.take (k + 1)).sum) (hb : ∀ j, j < k → ¬ n < (ws.take (j + 1)).sum) : pickI ws n = k := by
  have : (List.range ws.length).find? (fun i => decide (n < (ws.take (i + 1)).sum)) = some k := by
    rw [List.find?_range_eq_some]
    exact ⟨by simpa using h, by simpa using hk, fun j hj => by simpa using hb j hj⟩
  simp [pickI, this]
theorem pickI_none {ws : List Int} {n : Int} (hb : ∀ j, j < ws.length → ¬ n < (ws.take (j + 1)).sum) : pickI ws n = 0 := by
  have : (List.range ws.length).find? (fun i => decide (n < (ws.take (i + 1)).sum)) = none := by
    rw [List.find?_range_eq_none]
    exact fun j hj => by simpa using hb j hj
  simp [pickI, this]
def weightedF (d : Dr) (ws : List Int) : Dr × Int × Int :=
  if weightsB ws = false then (Dr.z, 0, 1)
  else if (takeF d ws.sum).2.2 = 0 then ((takeF d ws.sum).1, pickI ws (takeF d ws.sum).2.1, 0) else (Dr.z, 0, (takeF d ws.sum).2.2)
theorem weighted_fn (f g e' : Bool) (l lg ws : List Int) (a : Int) (hb : ws.length ≤ 9223372036854775807) :
    Fn Tryz.prog 267 [.agg [.sl f 1 (intRow l), .v (.int .i64 a), .sl g 1 (intRow lg)], .sl e' 1 (intRow ws)] []
      (.tup [encDr f false (weightedF ⟨l, a, lg⟩ ws).1, .v (.int .i64 (weightedF ⟨l, a, lg⟩ ws).2.1), .v (.int .i64 (weightedF ⟨l, a, lg⟩ ws).2.2)]) [] := by
  refine Fn.of (fn := Tryz.f267) (by kernel_rfl) rfl (by kernel_rfl) ⟨[.agg [.sl f 1 (intRow l), .v (.int .i64 a), .sl g 1 (intRow lg)], .sl e' 1 (intRow ws), .v undef, .v undef, .v undef, .v undef, .v undef, .v undef, .v undef, .v undef, .v undef, .v undef, .v undef, .v undef, .v undef, .v undef, .v undef, .v undef, .v undef, .v undef, .v undef, .v undef, .v undef, .v undef, .v undef, .v undef, .v undef, .v undef, .v undef, .v undef, .v undef, .v undef, .v undef, .v undef, .v undef, .v undef, .v undef, .v undef, .v undef, .v undef, .v undef, .v undef, .v undef, .v undef], []⟩ rfl ?_
  by_cases hw : weightsB ws = true
  · obtain ⟨h1, h2, h3, h4⟩ := weightsB_le hw
    have hsum := take_nonneg h3 ws.length
    rw [List.take_length] at hsum
    repeat' first | (with_reducible first | refine AWP_seq' ?_ | refine k_normal ?_ | refine AWP_skip ?_ | refine AWP_block ?_) | ((with_reducible refine AWP_reg fun KC J hJ hKC => ?_); simp (maxSteps := 10000000) only [push_cast, seval, ↓reduceIte, hw]) | (refine' hKC _ _ _ _ _ (callV0 (pickMay_fn _ _ ?_) rfl rfl rfl ?_ ?_); (rotate_left 3); (· exact Lq); (rotate_left 1); (iterate 1 (· exact Hq)); simp (maxSteps := 10000000) only [push_cast, seval, ↓reduceIte, hw]) | (refine' hKC _ _ _ _ _ (callV0 (sums_fn _ _) rfl rfl rfl ?_ ?_); (rotate_left 2); (· exact Lq); simp (maxSteps := 10000000) only [push_cast, seval, ↓reduceIte, hw]) | ((with_reducible refine hJ _ _ ?_); clear hJ hKC KC J) | ((with_reducible refine AWP_condF ?_ ?_); · rfl)
    refine AWP_le ([.agg [.sl f 1 (intRow l), .v (.int .i64 a), .sl g 1 (intRow lg)], .sl e' 1 (intRow ws), .ptr 0 0 0, .any, .ptr 1 0 0, .ptr 2 0 0, .ptr 3 0 0, .ptr 5 0 0, .any, .any, .any, .any, .any, .any, .any, .any, .any, .any, .any, .fn 297 [.fad [.sl e' 1 (intRow ws)]], .any, .any, .any, .any, .any, .any, .any, .any, .any, .any, .any, .any, .any, .any, .any, .any, .any, .any, .any, .any, .any, .any, .any, .any]) (by exact Lq) ?_
    refine AWP_range (f := 297) rfl rfl (sums_it e' ws h3 (by omega)) (fun i hi => rfl) 7 rfl rfl
      (fun i => [.ent ⟨0, none, 30, [.sl f 1 (intRow l), .v (.int .i64 a), .sl g 1 (intRow lg)], .cells⟩, .ent ⟨0, none, 30, [.v (.slice none 0 0), .v (.int .i64 0), .v (.slice none 0 0)], .cells⟩, .ent ⟨0, none, 3, [.v (.int .i64 0)], .cells⟩, .ent ⟨0, none, 40, [.v (.int .i64 0)], .cells⟩, .free, .ent ⟨0, none, 3, [.v (.int .i64 (ws.take i).sum)], .cells⟩, .free])
      rfl (fun i => rfl) (fun i => rfl) (fun i => rfl) (fun _ => true) .ret .ret rfl
      (fun i => [.agg [.sl f 1 (intRow l), .v (.int .i64 a), .sl g 1 (intRow lg)], .sl e' 1 (intRow ws), .ptr 0 0 0, .any, .ptr 1 0 0, .ptr 2 0 0, .ptr 3 0 0, .ptr 5 0 0, .any, .v (.int .i64 (ws.take (i + 1)).sum), .any, .any, .any, .any, .any, .any, .any, .any, .any, .fn 297 [.fad [.sl e' 1 (intRow ws)]], .v (.int .i64 (i : Int)), .v (.int .i64 (ws.take (i + 1)).sum), .any, .any, .any, .any, .any, .any, .any, .any, .any, .any, .any, .any, .any, .any, .any, .any, .any, .any, .any, .any, .any, .any])
      (fun l' i r hi => ?_) (fun i => rfl) (fun l' i hi _ => ?_) (fun _ => ?_) (fun k hk h _ => by cases h)
    · skip
      repeat' first | ((with_reducible refine AWP_reg fun KC J hJ hKC => ?_); simp (maxSteps := 10000000) only [push_cast, seval, ↓reduceIte]) | ((with_reducible refine And.intro ?_ ?_); · exact Sq) | ((with_reducible refine hJ _ _ ?_); clear hJ hKC KC J)
      exact rfl
    · skip
      repeat' first | (with_reducible first | refine b_normal ?_ | refine AWP_block ?_) | ((with_reducible refine AWP_reg fun KC J hJ hKC => ?_); simp (maxSteps := 10000000) only [push_cast, seval, ↓reduceIte]) | ((with_reducible refine hJ _ _ ?_); clear hJ hKC KC J)
      exact ⟨weakS_free (k := 0) rfl rfl rfl, rfl⟩
    · obtain ⟨t, ht⟩ : ∃ t, takeF ⟨l, a, lg⟩ ws.sum = t := ⟨_, rfl⟩
      have hs : weightedF ⟨l, a, lg⟩ ws = if t.2.2 = 0 then (t.1, pickI ws t.2.1, 0) else (Dr.z, 0, t.2.2) := by rw [← ht]; exact if_neg (by simp [hw])
      rw [hs]
      repeat' first | (with_reducible first | refine AWP_seq' ?_ | refine k_normal ?_ | refine k_ret ?_ | refine b_normal ?_ | refine AWP_ret ?_ | refine AWP_skip ?_ | refine AWP_block ?_) | ((with_reducible refine AWP_reg fun KC J hJ hKC => ?_); simp (maxSteps := 10000000) only [push_cast, seval, ↓reduceIte, ht, List.take_length]) | (refine' hKC _ _ _ _ _ (callV0 (sums_fn _ _) rfl rfl rfl ?_ ?_); (rotate_left 2); (· exact Lq); simp (maxSteps := 10000000) only [push_cast, seval, ↓reduceIte, ht, List.take_length]) | (refine' hKC _ _ _ _ _ (callV0 (take_fn _ _ _ _ _ _ ?_) rfl rfl rfl ?_ ?_); (rotate_left 7); (· exact Lq); (rotate_left 1); (iterate 1 (· exact Hq)); simp (maxSteps := 10000000) only [push_cast, seval, ↓reduceIte, ht, List.take_length]) | ((with_reducible refine hJ _ _ ?_); clear hJ hKC KC J) | (refine AWP_cond rfl (fun h => ?_) (fun h => ?_) <;> try simp only [decide_eq_true_eq, decide_eq_false_iff_not, Bool.not_eq_true', Bool.not_eq_false', beq_iff_eq, bne_iff_ne, ne_eq, Bool.not_eq_true, Bool.or_eq_true, Bool.and_eq_true, Bool.or_eq_false_iff, Bool.and_eq_false_imp, beq_eq_false_iff_ne, bne_eq_false_iff_eq] at h)
      · refine ret_plain ?_
        simp (maxSteps := 10000000) only [push_cast, seval, ↓reduceIte, show Tryz.f267.results = #[(.cell 4 30), (.cell 5 3), (.cell 6 40)] from rfl]
        rw [if_neg h]
        exact Lq
      · rw [if_pos h]
        obtain ⟨ok, hok⟩ : ∃ ok : Nat → Bool, ok = fun i => decide (¬ t.2.1 < (ws.take (i + 1)).sum) := ⟨_, rfl⟩
        refine AWP_le ([.any, .sl e' 1 (intRow ws), .ptr 0 0 0, .any, .ptr 1 0 0, .ptr 2 0 0, .ptr 3 0 0, .any, .any, .any, .ptr 9 0 0, .any, .any, .any, .any, .any, .any, .any, .any, .any, .any, .any, .any, .any, .any, .any, .any, .any, .any, .any, .any, .any, .any, .any, .any, .fn 297 [.fad [.sl e' 1 (intRow ws)]], .any, .any, .any, .any, .any, .any, .any, .any]) (by exact Lq) ?_
        refine AWP_leS [.ent ⟨0, none, 30, [.sl f 1 (intRow t.1.l), .v (.int .i64 t.1.a), .sl false 1 (intRow t.1.g)], .cells⟩, .ent ⟨0, none, 30, [.v (.slice none 0 0), .v (.int .i64 0), .v (.slice none 0 0)], .cells⟩, .ent ⟨0, none, 3, [.v (.int .i64 0)], .cells⟩, .ent ⟨0, none, 40, [.v (.int .i64 0)], .cells⟩, .free, .dead, .free, .dead, .free, .ent ⟨0, none, 3, [.v (.int .i64 t.2.1)], .cells⟩, .free] (by simp [leS]) ?_
        refine AWP_range2 (f := 297) rfl rfl (sums_it e' ws h3 (by omega)) (fun i hi => rfl) 11 rfl rfl
          (fun i => [.ent ⟨0, none, 30, [.sl f 1 (intRow t.1.l), .v (.int .i64 t.1.a), .sl false 1 (intRow t.1.g)], .cells⟩, .ent ⟨0, none, 30, [.v (.slice none 0 0), .v (.int .i64 0), .v (.slice none 0 0)], .cells⟩, .ent ⟨0, none, 3, [.v (.int .i64 0)], .cells⟩, .ent ⟨0, none, 40, [.v (.int .i64 0)], .cells⟩, .free, .dead, .free, .dead, .free, .ent ⟨0, none, 3, [.v (.int .i64 t.2.1)], .cells⟩, .free]) (fun i => [.ent ⟨0, none, 30, [.sl f 1 (intRow t.1.l), .v (.int .i64 t.1.a), .sl false 1 (intRow t.1.g)], .cells⟩, .ent ⟨0, none, 30, [.sl f 1 (intRow t.1.l), .v (.int .i64 t.1.a), .sl false 1 (intRow t.1.g)], .cells⟩, .ent ⟨0, none, 3, [.v (.int .i64 (i : Int))], .cells⟩, .ent ⟨0, none, 40, [.v (.int .i64 0)], .cells⟩, .free, .dead, .free, .dead, .free, .ent ⟨0, none, 3, [.v (.int .i64 t.2.1)], .cells⟩, .free])
          rfl (fun i => ⟨rfl, rfl⟩) (fun i => ⟨rfl, rfl⟩) (fun i => ⟨rfl, rfl⟩) (fun i => decide (¬ t.2.1 < (ws.take (i + 1)).sum)) .ret .ret rfl
          (fun i => [.any, .sl e' 1 (intRow ws), .ptr 0 0 0, .any, .ptr 1 0 0, .ptr 2 0 0, .ptr 3 0 0, .any, .any, .any, .ptr 9 0 0, .any, .v (.int .i64 (i : Int)), .v (.int .i64 (ws.take (i + 1)).sum), .any, .any, .any, .any, .any, .any, .any, .any, .any, .any, .any, .any, .any, .any, .any, .any, .any, .any, .any, .any, .any, .fn 297 [.fad [.sl e' 1 (intRow ws)]], .v (.int .i64 (i : Int)), .v (.int .i64 (ws.take (i + 1)).sum), .any, .any, .any, .any, .any, .any])
          (fun l' i r σ hi => ?_) (fun i => rfl) (fun l' i hi hb' => ?_) (fun hall => ?_) (fun k hk hkf hkb => ?_)
        · skip
          repeat' first | (with_reducible first | refine AWP_seq' ?_ | refine k_normal ?_) | ((with_reducible refine AWP_reg fun KC J hJ hKC => ?_); simp (maxSteps := 10000000) only [push_cast, seval, ↓reduceIte]) | ((with_reducible refine And.intro ?_ ?_); · exact Sq) | ((with_reducible refine hJ _ _ ?_); clear hJ hKC KC J)
          exact rfl
        · skip
          repeat' first | (with_reducible first | refine AWP_seq' ?_ | refine k_normal ?_ | refine b_normal ?_ | refine b_ret ?_ | refine AWP_ret ?_ | refine AWP_skip ?_ | refine AWP_block ?_) | ((with_reducible refine AWP_reg fun KC J hJ hKC => ?_); simp (maxSteps := 10000000) only [push_cast, seval, ↓reduceIte]) | ((with_reducible refine hJ _ _ ?_); clear hJ hKC KC J) | (refine AWP_cond rfl (fun h => ?_) (fun h => ?_) <;> try simp only [decide_eq_true_eq, decide_eq_false_iff_not, Bool.not_eq_true', Bool.not_eq_false', beq_iff_eq, bne_iff_ne, ne_eq, Bool.not_eq_true, Bool.or_eq_true, Bool.and_eq_true, Bool.or_eq_false_iff, Bool.and_eq_false_imp, beq_eq_false_iff_ne, bne_eq_false_iff_eq] at h)
          · exact .inr ⟨by simp [h], rfl, weakS_free (k := 0) rfl rfl rfl⟩
          · exact .inl ⟨by simp [h], rfl, weakS_free (k := 0) rfl rfl rfl⟩
        · rw [pickI_none (fun j hj => by have := hall j hj; simpa using this)]
          repeat' first | (with_reducible first | refine AWP_seq' ?_ | refine k_normal ?_ | refine b_normal ?_ | refine AWP_ret ?_) | ((with_reducible refine AWP_reg fun KC J hJ hKC => ?_); simp (maxSteps := 10000000) only [push_cast, seval, ↓reduceIte]) | ((with_reducible refine hJ _ _ ?_); clear hJ hKC KC J)
          refine ret_plain ?_
          simp (maxSteps := 10000000) only [push_cast, seval, ↓reduceIte, show Tryz.f267.results = #[(.cell 4 30), (.cell 5 3), (.cell 6 40)] from rfl]
          exact Lq
        · rw [pickI_at hk (by simpa using hkf) (fun j hj => by have := hkb j hj; simpa using this)]
          repeat' first | (with_reducible first | refine k_ret ?_ | refine b_ret ?_)
          refine ret_plain ?_
          simp (maxSteps := 10000000) only [push_cast, seval, ↓reduceIte, show Tryz.f267.results = #[(.cell 4 30), (.cell 5 3), (.cell 6 40)] from rfl]
          exact Lq
  · have hw' : weightsB ws = false := by simpa using hw
    repeat' first | (with_reducible first | refine AWP_seq' ?_ | refine k_normal ?_ | refine k_ret ?_ | refine AWP_ret ?_) | ((with_reducible refine AWP_reg fun KC J hJ hKC => ?_); simp (maxSteps := 10000000) only [push_cast, seval, ↓reduceIte, hw']) | (refine' hKC _ _ _ _ _ (callV0 (pickMay_fn _ _ ?_) rfl rfl rfl ?_ ?_); (rotate_left 3); (· exact Lq); (rotate_left 1); (iterate 1 (· exact Hq)); simp (maxSteps := 10000000) only [push_cast, seval, ↓reduceIte, hw']) | ((with_reducible refine hJ _ _ ?_); clear hJ hKC KC J) | ((with_reducible refine AWP_condT ?_ ?_); · rfl)
    refine ret_plain ?_
    simp (maxSteps := 10000000) only [push_cast, seval, ↓reduceIte, show Tryz.f267.results = #[(.cell 4 30), (.cell 5 3), (.cell 6 40)] from rfl]
    rw [show weightedF ⟨l, a, lg⟩ ws = (Dr.z, 0, 1) from if_pos hw']
    exact Lq
end Go.Proofs.YtabliglgeiajlaaGreat.AM
