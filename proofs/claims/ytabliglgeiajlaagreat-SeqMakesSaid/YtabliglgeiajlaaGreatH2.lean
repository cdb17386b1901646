/- An instruction, an atom, a slot. -/
import Derived.Test.YtabliglgeiajlaaGreatH1
set_option linter.unusedSimpArgs false
set_option linter.unusedVariables false
namespace Go.Proofs.YtabliglgeiajlaaGreat.AM
open Go Go.RowKit Go.Proofs
set_option maxRecDepth 100000
set_option maxHeartbeats 1000000

theorem atom_fn (nl : Int) (sp : Sp) (d : Dr) (n e : Int) (hn : nl ≤ 9223372036854775807) :
    Fn (Tryz.prog) 122 [.ptr 0 0 0] [.ent (mkE nl sp d e)] (.agg [.v (.int .i64 (atomP nl sp (d, n, e)).2.1), .v (.int .i64 (atomP nl sp (d, n, e)).2.2)]) [.ent (mkE nl sp (atomP nl sp (d, n, e)).1.1 (atomP nl sp (d, n, e)).1.2.2)] := by
  have h1 := number_fn nl sp d n e
  simp only [atomP]
  obtain ⟨⟨d1, n1, e1⟩, hM⟩ : ∃ m, numberP (d, n, e) sp.val = m := ⟨_, rfl⟩
  rw [hM] at h1
  rw [hM]
  have h2 := label_fn nl sp d1 n1 e1 hn
  obtain ⟨⟨d2, n2, e2⟩, hM2⟩ : ∃ m, belowP (d1, n1, e1) nl = m := ⟨_, rfl⟩
  rw [hM2] at h2
  rw [hM2]
  simp only at h1 h2 ⊢
  refine Fn.of (fn := Tryz.f122) (by kernel_rfl) rfl (by kernel_rfl) ⟨[.ptr 0 0 0, .v undef, .v undef, .v undef, .v undef, .v undef, .v undef, .v undef, .v undef, .v undef], [.ent (mkE nl sp d e)]⟩ rfl ?_
  simp only [mkE]
  repeat' first | (with_reducible first | refine AWP_seq' ?_ | refine k_normal ?_ | refine AWP_ret ?_) | ((with_reducible refine AWP_reg fun KC J hJ hKC => ?_); simp (maxSteps := 10000000) only [push_cast, seval, ↓reduceIte, backOf, callSets, renSlot, pick, mOf, idx, ren, ren2, ren1, ren0]) | (refine hKC _ _ _ _ _ (callK [0] h1 rfl rfl rfl (by decide) (by simp) rfl rfl Lq ?_); simp (maxSteps := 10000000) only [push_cast, seval, ↓reduceIte, backOf, callSets, renSlot, pick, mOf, idx, ren, ren2, ren1, ren0]) | (refine hKC _ _ _ _ _ (callK [0] h2 rfl rfl rfl (by decide) (by simp) rfl rfl Lq ?_); simp (maxSteps := 10000000) only [push_cast, seval, ↓reduceIte, backOf, callSets, renSlot, pick, mOf, idx, ren, ren2, ren1, ren0]) | ((with_reducible refine hJ _ _ ?_); clear hJ hKC KC J)
  refine ret_keys ?_
  simp (maxSteps := 10000000) only [push_cast, seval, ↓reduceIte, show Tryz.f122.results = #[(.cell 2 34)] from rfl]
  exact ⟨rfl, leD_refl _⟩
theorem slot_fn (nl : Int) (sp : Sp) (d : Dr) (n e : Int) (hn : nl ≤ 9223372036854775807) :
    Fn (Tryz.prog) 124 [.ptr 0 0 0] [.ent (mkE nl sp d e)] (.agg [.v (.bool (slotP nl sp (d, n, e)).2.1), .v (.int .i64 (slotP nl sp (d, n, e)).2.2.1), .v (.int .i64 (slotP nl sp (d, n, e)).2.2.2)]) [.ent (mkE nl sp (slotP nl sp (d, n, e)).1.1 (slotP nl sp (d, n, e)).1.2.2)] := by
  have h1 := below_fn nl sp d n e 2 (by omega)
  simp only [slotP]
  obtain ⟨⟨d1, n1, e1⟩, hM⟩ : ∃ m, belowP (d, n, e) 2 = m := ⟨_, rfl⟩
  rw [hM] at h1
  rw [hM]
  simp only at h1 ⊢
  by_cases hr : n1 = 1
  · have hr' : (n1 == 1) = true := by simpa using hr
    rw [if_pos hr]
    have h3 := place_fn nl sp d1 n1 e1
    obtain ⟨⟨d2, n2, e2⟩, hM2⟩ : ∃ m, belowP (d1, n1, e1) 13 = m := ⟨_, rfl⟩
    rw [hM2] at h3
    rw [hM2]
    have h2 := label_fn nl sp d2 n2 e2 hn
    obtain ⟨⟨d3, n3, e3⟩, hM3⟩ : ∃ m, belowP (d2, n2, e2) nl = m := ⟨_, rfl⟩
    rw [hM3] at h2
    rw [hM3, decide_eq_true hr]
    simp only at h1 h2 h3 ⊢
    refine Fn.of (fn := Tryz.f124) (by kernel_rfl) rfl (by kernel_rfl) ⟨[.ptr 0 0 0, .v undef, .v undef, .v undef, .v undef, .v undef, .v undef, .v undef, .v undef, .v undef, .v undef, .v undef, .v undef, .v undef, .v undef, .v undef, .v undef, .v undef, .v undef, .v undef], [.ent (mkE nl sp d e)]⟩ rfl ?_
    simp only [mkE]
    repeat' first | (with_reducible first | refine AWP_seq' ?_ | refine k_normal ?_ | refine AWP_ret ?_) | ((with_reducible refine AWP_reg fun KC J hJ hKC => ?_); simp (maxSteps := 10000000) only [push_cast, seval, ↓reduceIte, hr', backOf, callSets, renSlot, pick, mOf, idx, ren, ren2, ren1, ren0]) | (refine hKC _ _ _ _ _ (callK [0] h1 rfl rfl rfl (by decide) (by simp) rfl rfl Lq ?_); simp (maxSteps := 10000000) only [push_cast, seval, ↓reduceIte, hr', backOf, callSets, renSlot, pick, mOf, idx, ren, ren2, ren1, ren0]) | (refine hKC _ _ _ _ _ (callK [0] h3 rfl rfl rfl (by decide) (by simp) rfl rfl Lq ?_); simp (maxSteps := 10000000) only [push_cast, seval, ↓reduceIte, hr', backOf, callSets, renSlot, pick, mOf, idx, ren, ren2, ren1, ren0]) | (refine hKC _ _ _ _ _ (callK [0] h2 rfl rfl rfl (by decide) (by simp) rfl rfl Lq ?_); simp (maxSteps := 10000000) only [push_cast, seval, ↓reduceIte, hr', backOf, callSets, renSlot, pick, mOf, idx, ren, ren2, ren1, ren0]) | ((with_reducible refine hJ _ _ ?_); clear hJ hKC KC J) | ((with_reducible refine AWP_condT ?_ ?_); · rfl)
    refine ret_keys ?_
    simp (maxSteps := 10000000) only [push_cast, seval, ↓reduceIte, show Tryz.f124.results = #[(.cell 2 104)] from rfl]
    exact ⟨rfl, leD_refl _⟩
  · have hr' : (n1 == 1) = false := by simpa using hr
    rw [if_neg hr]
    have h3 := number_fn nl sp d1 n1 e1
    obtain ⟨⟨d2, n2, e2⟩, hM2⟩ : ∃ m, numberP (d1, n1, e1) sp.val = m := ⟨_, rfl⟩
    rw [hM2] at h3
    rw [hM2]
    have h2 := label_fn nl sp d2 n2 e2 hn
    obtain ⟨⟨d3, n3, e3⟩, hM3⟩ : ∃ m, belowP (d2, n2, e2) nl = m := ⟨_, rfl⟩
    rw [hM3] at h2
    rw [hM3, decide_eq_false hr]
    simp only at h1 h2 h3 ⊢
    refine Fn.of (fn := Tryz.f124) (by kernel_rfl) rfl (by kernel_rfl) ⟨[.ptr 0 0 0, .v undef, .v undef, .v undef, .v undef, .v undef, .v undef, .v undef, .v undef, .v undef, .v undef, .v undef, .v undef, .v undef, .v undef, .v undef, .v undef, .v undef, .v undef, .v undef], [.ent (mkE nl sp d e)]⟩ rfl ?_
    simp only [mkE]
    repeat' first | (with_reducible first | refine AWP_seq' ?_ | refine k_normal ?_ | refine AWP_ret ?_) | ((with_reducible refine AWP_reg fun KC J hJ hKC => ?_); simp (maxSteps := 10000000) only [push_cast, seval, ↓reduceIte, hr', backOf, callSets, renSlot, pick, mOf, idx, ren, ren2, ren1, ren0]) | (refine hKC _ _ _ _ _ (callK [0] h1 rfl rfl rfl (by decide) (by simp) rfl rfl Lq ?_); simp (maxSteps := 10000000) only [push_cast, seval, ↓reduceIte, hr', backOf, callSets, renSlot, pick, mOf, idx, ren, ren2, ren1, ren0]) | (refine hKC _ _ _ _ _ (callK [0] h3 rfl rfl rfl (by decide) (by simp) rfl rfl Lq ?_); simp (maxSteps := 10000000) only [push_cast, seval, ↓reduceIte, hr', backOf, callSets, renSlot, pick, mOf, idx, ren, ren2, ren1, ren0]) | (refine hKC _ _ _ _ _ (callK [0] h2 rfl rfl rfl (by decide) (by simp) rfl rfl Lq ?_); simp (maxSteps := 10000000) only [push_cast, seval, ↓reduceIte, hr', backOf, callSets, renSlot, pick, mOf, idx, ren, ren2, ren1, ren0]) | ((with_reducible refine hJ _ _ ?_); clear hJ hKC KC J) | ((with_reducible refine AWP_condF ?_ ?_); · rfl)
    refine ret_keys ?_
    simp (maxSteps := 10000000) only [push_cast, seval, ↓reduceIte, show Tryz.f124.results = #[(.cell 2 104)] from rfl]
    exact ⟨rfl, leD_refl _⟩
end Go.Proofs.YtabliglgeiajlaaGreat.AM
