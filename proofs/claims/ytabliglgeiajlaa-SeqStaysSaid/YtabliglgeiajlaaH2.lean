/- An instruction, an atom, a slot. -/
import Derived.Test.YtabliglgeiajlaaH1
set_option linter.unusedSimpArgs false
set_option linter.unusedVariables false
namespace Go.Proofs.Ytabliglgeiajlaa.AM
open Go Go.RowKit Go.Proofs
set_option maxRecDepth 100000
set_option maxHeartbeats 1000000

theorem atom_fn (nl : Int) (sp : Sp) (d : Dr) (n e : Int) (hn : nl ≤ 9223372036854775807) :
    Fn (Try.prog) 145 [.ptr 0 0 0] [.ent (mkE nl sp d e)] (.agg [.v (.int .i64 (atomP nl sp (d, n, e)).2.1), .v (.int .i64 (atomP nl sp (d, n, e)).2.2)]) [.ent (mkE nl sp (atomP nl sp (d, n, e)).1.1 (atomP nl sp (d, n, e)).1.2.2)] := by
  have h1 := number_fn nl sp d n e
  simp only [atomP]
  obtain ⟨⟨d1, n1, e1⟩, hM⟩ : ∃ m, numberP (d, n, e) sp.val = m := ⟨_, rfl⟩
  rw [hM] at h1
  rw [hM]
  have h2 := label_fn nl sp d1 n1 e1 hn
  obtain ⟨⟨d2, n2, e2⟩, hM2⟩ : ∃ m, belowP (d1, n1, e1) nl = m := ⟨_, rfl⟩
  rw [hM2] at h2
  rw [hM2]
  simp only at h1 h2 ⊢
  refine Fn.of (fn := Try.f145) (by kernel_rfl) rfl (by kernel_rfl) ⟨[.ptr 0 0 0, .v undef, .v undef, .v undef, .v undef, .v undef, .v undef, .v undef, .v undef, .v undef], [.ent (mkE nl sp d e)]⟩ rfl ?_
  simp only [mkE]
  repeat' first | (with_reducible first | refine AWP_seq' ?_ | refine k_normal ?_ | refine k_ret ?_ | refine k_exit ?_ | refine b_normal ?_ | refine b_ret ?_ | refine b_exit ?_ | refine b_pass rfl ?_ | refine AWP_ret ?_ | refine AWP_skip ?_ | refine AWP_exit ?_ | refine AWP_block ?_) | ((with_reducible first | refine AWP_reg fun KC J hJ hKC => ?_ | refine AWP_regD rfl fun KC J hJ hKC => ?_); simp (maxSteps := 10000000) only [push_cast, seval, ↓reduceIte, backOf, callSets, renSlot, pick, mOf, idx, ren, ren2, ren1, ren0]) | ((with_reducible refine And.intro ?_ ?_); · exact Sq) | (refine hKC _ _ _ _ _ (callK [0] h1 rfl rfl rfl (by decide) (by simp) rfl rfl Lq ?_); simp (maxSteps := 10000000) only [push_cast, seval, ↓reduceIte, backOf, callSets, renSlot, pick, mOf, idx, ren, ren2, ren1, ren0]) | (refine hKC _ _ _ _ _ (callK [0] h2 rfl rfl rfl (by decide) (by simp) rfl rfl Lq ?_); simp (maxSteps := 10000000) only [push_cast, seval, ↓reduceIte, backOf, callSets, renSlot, pick, mOf, idx, ren, ren2, ren1, ren0]) | ((first | with_reducible refine hJ _ _ ?_ | (with_reducible refine hJ _ _ ?_ ?_; · kernel_rfl)); clear hJ hKC KC J) | ((with_reducible refine AWP_condT ?_ ?_); · rfl) | ((with_reducible refine AWP_condF ?_ ?_); · rfl) | ((with_reducible refine ite_intro (fun hs => ?_) (fun hs => ?_)) <;> (try simp only [Bool.not_eq_true, Bool.not_eq_false, Bool.not_eq_true', Bool.not_eq_false', Decidable.not_not, decide_eq_true_eq, decide_eq_false_iff_not] at hs) <;> (try simp (maxSteps := 10000000) only [push_cast, seval, ↓reduceIte, hs, backOf, callSets, renSlot, pick, mOf, idx, ren, ren2, ren1, ren0])) | (refine AWP_cond rfl (fun h => ?_) (fun h => ?_) <;> try simp only [decide_eq_true_eq, decide_eq_false_iff_not, Bool.not_eq_true', Bool.not_eq_false', beq_iff_eq, bne_iff_ne, ne_eq, Bool.not_eq_true, Bool.or_eq_true, Bool.and_eq_true, Bool.or_eq_false_iff, Bool.and_eq_false_imp, beq_eq_false_iff_ne, bne_eq_false_iff_eq] at h)
  refine ret_keys ?_
  simp (maxSteps := 10000000) only [push_cast, seval, ↓reduceIte, show Try.f145.results = #[(.cell 2 79)] from rfl]
  exact ⟨rfl, leD_refl _⟩
theorem slot_fn (nl : Int) (sp : Sp) (d : Dr) (n e : Int) (hn : nl ≤ 9223372036854775807) :
    Fn (Try.prog) 147 [.ptr 0 0 0] [.ent (mkE nl sp d e)] (.agg [.v (.bool (slotP nl sp (d, n, e)).2.1), .v (.int .i64 (slotP nl sp (d, n, e)).2.2.1), .v (.int .i64 (slotP nl sp (d, n, e)).2.2.2)]) [.ent (mkE nl sp (slotP nl sp (d, n, e)).1.1 (slotP nl sp (d, n, e)).1.2.2)] := by
  have h1 := below_fn nl sp d n e 2 (by omega)
  simp only [slotP]
  obtain ⟨⟨d1, n1, e1⟩, hM⟩ : ∃ m, belowP (d, n, e) 2 = m := ⟨_, rfl⟩
  rw [hM] at h1
  rw [hM]
  simp only at h1 ⊢
  by_cases hr : n1 = 1
  · have hr' : (n1 == 1) = true := by simpa using hr
    rw [if_pos hr]
    have h3 := place_fn nl sp d1 n1 e1
    obtain ⟨⟨d2, n2, e2⟩, hM2⟩ : ∃ m, belowP (d1, n1, e1) 13 = m := ⟨_, rfl⟩
    rw [hM2] at h3
    rw [hM2]
    have h2 := label_fn nl sp d2 n2 e2 hn
    obtain ⟨⟨d3, n3, e3⟩, hM3⟩ : ∃ m, belowP (d2, n2, e2) nl = m := ⟨_, rfl⟩
    rw [hM3] at h2
    rw [hM3, decide_eq_true hr]
    simp only at h1 h2 h3 ⊢
    refine Fn.of (fn := Try.f147) (by kernel_rfl) rfl (by kernel_rfl) ⟨[.ptr 0 0 0, .v undef, .v undef, .v undef, .v undef, .v undef, .v undef, .v undef, .v undef, .v undef, .v undef, .v undef, .v undef, .v undef, .v undef, .v undef, .v undef, .v undef, .v undef, .v undef], [.ent (mkE nl sp d e)]⟩ rfl ?_
    simp only [mkE]
    repeat' first | (with_reducible first | refine AWP_seq' ?_ | refine k_normal ?_ | refine k_ret ?_ | refine k_exit ?_ | refine b_normal ?_ | refine b_ret ?_ | refine b_exit ?_ | refine b_pass rfl ?_ | refine AWP_ret ?_ | refine AWP_skip ?_ | refine AWP_exit ?_ | refine AWP_block ?_) | ((with_reducible first | refine AWP_reg fun KC J hJ hKC => ?_ | refine AWP_regD rfl fun KC J hJ hKC => ?_); simp (maxSteps := 10000000) only [push_cast, seval, ↓reduceIte, hr', backOf, callSets, renSlot, pick, mOf, idx, ren, ren2, ren1, ren0]) | ((with_reducible refine And.intro ?_ ?_); · exact Sq) | (refine hKC _ _ _ _ _ (callK [0] h1 rfl rfl rfl (by decide) (by simp) rfl rfl Lq ?_); simp (maxSteps := 10000000) only [push_cast, seval, ↓reduceIte, hr', backOf, callSets, renSlot, pick, mOf, idx, ren, ren2, ren1, ren0]) | (refine hKC _ _ _ _ _ (callK [0] h3 rfl rfl rfl (by decide) (by simp) rfl rfl Lq ?_); simp (maxSteps := 10000000) only [push_cast, seval, ↓reduceIte, hr', backOf, callSets, renSlot, pick, mOf, idx, ren, ren2, ren1, ren0]) | (refine hKC _ _ _ _ _ (callK [0] h2 rfl rfl rfl (by decide) (by simp) rfl rfl Lq ?_); simp (maxSteps := 10000000) only [push_cast, seval, ↓reduceIte, hr', backOf, callSets, renSlot, pick, mOf, idx, ren, ren2, ren1, ren0]) | ((first | with_reducible refine hJ _ _ ?_ | (with_reducible refine hJ _ _ ?_ ?_; · kernel_rfl)); clear hJ hKC KC J) | ((with_reducible refine AWP_condT ?_ ?_); · rfl) | ((with_reducible refine AWP_condF ?_ ?_); · rfl) | ((with_reducible refine ite_intro (fun hs => ?_) (fun hs => ?_)) <;> (try simp only [Bool.not_eq_true, Bool.not_eq_false, Bool.not_eq_true', Bool.not_eq_false', Decidable.not_not, decide_eq_true_eq, decide_eq_false_iff_not] at hs) <;> (try simp (maxSteps := 10000000) only [push_cast, seval, ↓reduceIte, hs, hr', backOf, callSets, renSlot, pick, mOf, idx, ren, ren2, ren1, ren0])) | (refine AWP_cond rfl (fun h => ?_) (fun h => ?_) <;> try simp only [decide_eq_true_eq, decide_eq_false_iff_not, Bool.not_eq_true', Bool.not_eq_false', beq_iff_eq, bne_iff_ne, ne_eq, Bool.not_eq_true, Bool.or_eq_true, Bool.and_eq_true, Bool.or_eq_false_iff, Bool.and_eq_false_imp, beq_eq_false_iff_ne, bne_eq_false_iff_eq] at h)
    refine ret_keys ?_
    simp (maxSteps := 10000000) only [push_cast, seval, ↓reduceIte, show Try.f147.results = #[(.cell 2 113)] from rfl]
    exact ⟨rfl, leD_refl _⟩
  · have hr' : (n1 == 1) = false := by simpa using hr
    rw [if_neg hr]
    have h3 := number_fn nl sp d1 n1 e1
    obtain ⟨⟨d2, n2, e2⟩, hM2⟩ : ∃ m, numberP (d1, n1, e1) sp.val = m := ⟨_, rfl⟩
    rw [hM2] at h3
    rw [hM2]
    have h2 := label_fn nl sp d2 n2 e2 hn
    obtain ⟨⟨d3, n3, e3⟩, hM3⟩ : ∃ m, belowP (d2, n2, e2) nl = m := ⟨_, rfl⟩
    rw [hM3] at h2
    rw [hM3, decide_eq_false hr]
    simp only at h1 h2 h3 ⊢
    refine Fn.of (fn := Try.f147) (by kernel_rfl) rfl (by kernel_rfl) ⟨[.ptr 0 0 0, .v undef, .v undef, .v undef, .v undef, .v undef, .v undef, .v undef, .v undef, .v undef, .v undef, .v undef, .v undef, .v undef, .v undef, .v undef, .v undef, .v undef, .v undef, .v undef], [.ent (mkE nl sp d e)]⟩ rfl ?_
    simp only [mkE]
    repeat' first | (with_reducible first | refine AWP_seq' ?_ | refine k_normal ?_ | refine k_ret ?_ | refine k_exit ?_ | refine b_normal ?_ | refine b_ret ?_ | refine b_exit ?_ | refine b_pass rfl ?_ | refine AWP_ret ?_ | refine AWP_skip ?_ | refine AWP_exit ?_ | refine AWP_block ?_) | ((with_reducible first | refine AWP_reg fun KC J hJ hKC => ?_ | refine AWP_regD rfl fun KC J hJ hKC => ?_); simp (maxSteps := 10000000) only [push_cast, seval, ↓reduceIte, hr', backOf, callSets, renSlot, pick, mOf, idx, ren, ren2, ren1, ren0]) | ((with_reducible refine And.intro ?_ ?_); · exact Sq) | (refine hKC _ _ _ _ _ (callK [0] h1 rfl rfl rfl (by decide) (by simp) rfl rfl Lq ?_); simp (maxSteps := 10000000) only [push_cast, seval, ↓reduceIte, hr', backOf, callSets, renSlot, pick, mOf, idx, ren, ren2, ren1, ren0]) | (refine hKC _ _ _ _ _ (callK [0] h3 rfl rfl rfl (by decide) (by simp) rfl rfl Lq ?_); simp (maxSteps := 10000000) only [push_cast, seval, ↓reduceIte, hr', backOf, callSets, renSlot, pick, mOf, idx, ren, ren2, ren1, ren0]) | (refine hKC _ _ _ _ _ (callK [0] h2 rfl rfl rfl (by decide) (by simp) rfl rfl Lq ?_); simp (maxSteps := 10000000) only [push_cast, seval, ↓reduceIte, hr', backOf, callSets, renSlot, pick, mOf, idx, ren, ren2, ren1, ren0]) | ((first | with_reducible refine hJ _ _ ?_ | (with_reducible refine hJ _ _ ?_ ?_; · kernel_rfl)); clear hJ hKC KC J) | ((with_reducible refine AWP_condT ?_ ?_); · rfl) | ((with_reducible refine AWP_condF ?_ ?_); · rfl) | ((with_reducible refine ite_intro (fun hs => ?_) (fun hs => ?_)) <;> (try simp only [Bool.not_eq_true, Bool.not_eq_false, Bool.not_eq_true', Bool.not_eq_false', Decidable.not_not, decide_eq_true_eq, decide_eq_false_iff_not] at hs) <;> (try simp (maxSteps := 10000000) only [push_cast, seval, ↓reduceIte, hs, hr', backOf, callSets, renSlot, pick, mOf, idx, ren, ren2, ren1, ren0])) | (refine AWP_cond rfl (fun h => ?_) (fun h => ?_) <;> try simp only [decide_eq_true_eq, decide_eq_false_iff_not, Bool.not_eq_true', Bool.not_eq_false', beq_iff_eq, bne_iff_ne, ne_eq, Bool.not_eq_true, Bool.or_eq_true, Bool.and_eq_true, Bool.or_eq_false_iff, Bool.and_eq_false_imp, beq_eq_false_iff_ne, bne_eq_false_iff_eq] at h)
    refine ret_keys ?_
    simp (maxSteps := 10000000) only [push_cast, seval, ↓reduceIte, show Try.f147.results = #[(.cell 2 113)] from rfl]
    exact ⟨rfl, leD_refl _⟩
end Go.Proofs.Ytabliglgeiajlaa.AM
