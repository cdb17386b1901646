/- An instruction. -/
import Derived.Test.YtabliglgeiajlaaGreatH2
set_option linter.unusedSimpArgs false
set_option linter.unusedVariables false
namespace Go.Proofs.YtabliglgeiajlaaGreat.AM
open Go Go.RowKit Go.Proofs
set_option maxRecDepth 100000
set_option maxHeartbeats 1000000

@[push_cast] theorem tyf2 : tyI Tryz.prog 186 = some ⟨TypeDesc.func #[] #[3] false, 1, 8, Value.nilFunc⟩ := by kernel_rfl
abbrev bxE : Ent := ⟨0, none, 177, [.ptr 0 0 0], .cells⟩
theorem instr1_fn (nl : Int) (sp : Sp) (d : Dr) (n e : Int) :
    Fn (Tryz.prog) 224 [.ptr 1 0 0] [.ent (mkE nl sp d e), .ent bxE] (.v (.int .i64 (belowP (d, n, e) 4).2.1)) [.ent (mkE nl sp (belowP (d, n, e) 4).1 (belowP (d, n, e) 4).2.2), .ent bxE] := by
  have hk := below_fn nl sp d n e 4 (by omega)
  obtain ⟨m, hM⟩ : ∃ m, belowP (d, n, e) 4 = m := ⟨_, rfl⟩
  rw [hM] at hk
  rw [hM]
  refine Fn.of (fn := Tryz.f224) (by kernel_rfl) rfl (by kernel_rfl) ⟨[.ptr 1 0 0, .v undef, .v undef, .v undef], [.ent (mkE nl sp d e), .ent bxE]⟩ rfl ?_
  simp only [mkE, bxE]
  repeat' first | (with_reducible first | refine AWP_seq' ?_ | refine k_normal ?_ | refine AWP_ret ?_) | ((with_reducible refine AWP_reg fun KC J hJ hKC => ?_); simp (maxSteps := 10000000) only [push_cast, seval, ↓reduceIte, backOf, callSets, renSlot, pick, mOf, idx, ren, ren2, ren1, ren0]) | (refine hKC _ _ _ _ _ (callK [0] hk rfl rfl rfl (by decide) (by simp) rfl rfl Lq ?_); simp (maxSteps := 10000000) only [push_cast, seval, ↓reduceIte, backOf, callSets, renSlot, pick, mOf, idx, ren, ren2, ren1, ren0]) | ((with_reducible refine hJ _ _ ?_); clear hJ hKC KC J)
  refine ret_keys ?_
  simp (maxSteps := 10000000) only [push_cast, seval, ↓reduceIte, show Tryz.f224.results = #[(.tmp 1)] from rfl]
  exact ⟨rfl, leD_refl _⟩
theorem instr2_fn (nl : Int) (sp : Sp) (d : Dr) (n e : Int) :
    Fn (Tryz.prog) 225 [.ptr 1 0 0] [.ent (mkE nl sp d e), .ent bxE] (.v (.int .i64 (belowP (d, n, e) 2).2.1)) [.ent (mkE nl sp (belowP (d, n, e) 2).1 (belowP (d, n, e) 2).2.2), .ent bxE] := by
  have hk := below_fn nl sp d n e 2 (by omega)
  obtain ⟨m, hM⟩ : ∃ m, belowP (d, n, e) 2 = m := ⟨_, rfl⟩
  rw [hM] at hk
  rw [hM]
  refine Fn.of (fn := Tryz.f225) (by kernel_rfl) rfl (by kernel_rfl) ⟨[.ptr 1 0 0, .v undef, .v undef, .v undef], [.ent (mkE nl sp d e), .ent bxE]⟩ rfl ?_
  simp only [mkE, bxE]
  repeat' first | (with_reducible first | refine AWP_seq' ?_ | refine k_normal ?_ | refine AWP_ret ?_) | ((with_reducible refine AWP_reg fun KC J hJ hKC => ?_); simp (maxSteps := 10000000) only [push_cast, seval, ↓reduceIte, backOf, callSets, renSlot, pick, mOf, idx, ren, ren2, ren1, ren0]) | (refine hKC _ _ _ _ _ (callK [0] hk rfl rfl rfl (by decide) (by simp) rfl rfl Lq ?_); simp (maxSteps := 10000000) only [push_cast, seval, ↓reduceIte, backOf, callSets, renSlot, pick, mOf, idx, ren, ren2, ren1, ren0]) | ((with_reducible refine hJ _ _ ?_); clear hJ hKC KC J)
  refine ret_keys ?_
  simp (maxSteps := 10000000) only [push_cast, seval, ↓reduceIte, show Tryz.f225.results = #[(.tmp 1)] from rfl]
  exact ⟨rfl, leD_refl _⟩
theorem instr_fn (nl : Int) (sp : Sp) (d : Dr) (n e : Int) (hn : nl ≤ 9223372036854775807) (hw : sp.ws.length ≤ 9223372036854775807) :
    Fn (Tryz.prog) 120 [.ptr 0 0 0] [.ent (mkE nl sp d e)] (.agg [.v (.int .i64 (instrP nl sp (d, n, e)).2.1), .v (.int .i64 (instrP nl sp (d, n, e)).2.2.1), .v (.int .i64 (instrP nl sp (d, n, e)).2.2.2)]) [.ent (mkE nl sp (instrP nl sp (d, n, e)).1.1 (instrP nl sp (d, n, e)).1.2.2)] := by
  have h1 := op_fn nl sp d n e hw
  simp only [instrP]
  obtain ⟨⟨d1, n1, e1⟩, hM⟩ : ∃ m, opP (d, n, e) sp.ws = m := ⟨_, rfl⟩
  rw [hM] at h1
  rw [hM]
  simp only at h1 ⊢
  have hlab := fun d n e => label_fn nl sp d n e hn
  by_cases hr : n1 = 1
  · subst hr
    have h2 := number_fn nl sp d1 1 e1
    simp only [instrN, if_true]
    obtain ⟨⟨d2, n2, e2⟩, hM2⟩ : ∃ m, numberP (d1, 1, e1) sp.val = m := ⟨_, rfl⟩
    rw [hM2] at h2
    rw [hM2]
    have h3 := hlab d2 n2 e2
    obtain ⟨⟨d3, n3, e3⟩, hM3⟩ : ∃ m, belowP (d2, n2, e2) nl = m := ⟨_, rfl⟩
    rw [hM3] at h3
    rw [hM3]
    simp only at h2 h3 ⊢
    refine Fn.of (fn := Tryz.f120) (by kernel_rfl) rfl (by kernel_rfl) ⟨[.ptr 0 0 0, .v undef, .v undef, .v undef, .v undef, .v undef, .v undef, .v undef, .v undef, .v undef, .v undef, .v undef, .v undef, .v undef, .v undef, .v undef, .v undef, .v undef, .v undef, .v undef, .v undef, .v undef, .v undef, .v undef, .v undef, .v undef, .v undef, .v undef, .v undef, .v undef, .v undef, .v undef, .v undef, .v undef, .v undef, .v undef], [.ent (mkE nl sp d e)]⟩ rfl ?_
    simp only [mkE]
    repeat' first | (with_reducible first | refine AWP_seq' ?_ | refine k_normal ?_ | refine AWP_ret ?_) | ((with_reducible refine AWP_reg fun KC J hJ hKC => ?_); simp (maxSteps := 10000000) only [push_cast, seval, ↓reduceIte, beq_self_eq_true, backOf, callSets, renSlot, pick, mOf, idx, ren, ren2, ren1, ren0]) | (refine hKC _ _ _ _ _ (callK [0] h1 rfl rfl rfl (by decide) (by simp) rfl rfl Lq ?_); simp (maxSteps := 10000000) only [push_cast, seval, ↓reduceIte, beq_self_eq_true, backOf, callSets, renSlot, pick, mOf, idx, ren, ren2, ren1, ren0]) | (refine hKC _ _ _ _ _ (callB [0] h2 rfl rfl rfl (by decide) (by simp) rfl rfl Lq ?_); simp (maxSteps := 10000000) only [push_cast, seval, ↓reduceIte, beq_self_eq_true, backOf, callSets, renSlot, pick, mOf, idx, ren, ren2, ren1, ren0]) | (refine hKC _ _ _ _ _ (callK [0] h3 rfl rfl rfl (by decide) (by simp) rfl rfl Lq ?_); simp (maxSteps := 10000000) only [push_cast, seval, ↓reduceIte, beq_self_eq_true, backOf, callSets, renSlot, pick, mOf, idx, ren, ren2, ren1, ren0]) | ((with_reducible refine hJ _ _ ?_); clear hJ hKC KC J) | ((with_reducible refine AWP_condT ?_ ?_); · rfl)
    refine ret_keys ?_
    simp (maxSteps := 10000000) only [push_cast, seval, ↓reduceIte, show Tryz.f120.results = #[(.cell 2 100)] from rfl]
    exact ⟨rfl, leD_refl _⟩
  have hr' : (n1 == 1) = false := by simpa using hr
  by_cases hr8 : n1 = 8
  · subst hr8
    have h2 := place_fn nl sp d1 8 e1
    simp only [instrN, show ((8 : Int) = 1) = False by simp, if_true, if_false]
    obtain ⟨⟨d2, n2, e2⟩, hM2⟩ : ∃ m, belowP (d1, 8, e1) 13 = m := ⟨_, rfl⟩
    rw [hM2] at h2
    rw [hM2]
    simp only at h2 ⊢
    refine Fn.of (fn := Tryz.f120) (by kernel_rfl) rfl (by kernel_rfl) ⟨[.ptr 0 0 0, .v undef, .v undef, .v undef, .v undef, .v undef, .v undef, .v undef, .v undef, .v undef, .v undef, .v undef, .v undef, .v undef, .v undef, .v undef, .v undef, .v undef, .v undef, .v undef, .v undef, .v undef, .v undef, .v undef, .v undef, .v undef, .v undef, .v undef, .v undef, .v undef, .v undef, .v undef, .v undef, .v undef, .v undef, .v undef], [.ent (mkE nl sp d e)]⟩ rfl ?_
    simp only [mkE]
    repeat' first | (with_reducible first | refine AWP_seq' ?_ | refine k_normal ?_ | refine AWP_ret ?_ | refine AWP_skip ?_) | ((with_reducible refine AWP_reg fun KC J hJ hKC => ?_); simp (maxSteps := 10000000) only [push_cast, seval, ↓reduceIte, beq_self_eq_true, backOf, callSets, renSlot, pick, mOf, idx, ren, ren2, ren1, ren0]) | (refine hKC _ _ _ _ _ (callK [0] h1 rfl rfl rfl (by decide) (by simp) rfl rfl Lq ?_); simp (maxSteps := 10000000) only [push_cast, seval, ↓reduceIte, beq_self_eq_true, backOf, callSets, renSlot, pick, mOf, idx, ren, ren2, ren1, ren0]) | (refine hKC _ _ _ _ _ (callB [0] h2 rfl rfl rfl (by decide) (by simp) rfl rfl Lq ?_); simp (maxSteps := 10000000) only [push_cast, seval, ↓reduceIte, beq_self_eq_true, backOf, callSets, renSlot, pick, mOf, idx, ren, ren2, ren1, ren0]) | ((with_reducible refine hJ _ _ ?_); clear hJ hKC KC J) | ((with_reducible refine AWP_condT ?_ ?_); · rfl) | ((with_reducible refine AWP_condF ?_ ?_); · rfl)
    refine ret_keys ?_
    simp (maxSteps := 10000000) only [push_cast, seval, ↓reduceIte, show Tryz.f120.results = #[(.cell 2 100)] from rfl]
    exact ⟨rfl, leD_refl _⟩
  by_cases hr9 : n1 = 9
  · subst hr9
    have h2 := instr1_fn nl sp d1 9 e1
    simp only [instrN, show ((9 : Int) = 1) = False by simp, show ((9 : Int) = 8) = False by simp, if_true, if_false]
    obtain ⟨⟨d2, n2, e2⟩, hM2⟩ : ∃ m, belowP (d1, 9, e1) 4 = m := ⟨_, rfl⟩
    rw [hM2] at h2
    rw [hM2]
    simp only at h2 ⊢
    refine Fn.of (fn := Tryz.f120) (by kernel_rfl) rfl (by kernel_rfl) ⟨[.ptr 0 0 0, .v undef, .v undef, .v undef, .v undef, .v undef, .v undef, .v undef, .v undef, .v undef, .v undef, .v undef, .v undef, .v undef, .v undef, .v undef, .v undef, .v undef, .v undef, .v undef, .v undef, .v undef, .v undef, .v undef, .v undef, .v undef, .v undef, .v undef, .v undef, .v undef, .v undef, .v undef, .v undef, .v undef, .v undef, .v undef], [.ent (mkE nl sp d e)]⟩ rfl ?_
    simp only [mkE]
    repeat' first | (with_reducible first | refine AWP_seq' ?_ | refine k_normal ?_ | refine AWP_ret ?_ | refine AWP_skip ?_) | ((with_reducible refine AWP_reg fun KC J hJ hKC => ?_); simp (maxSteps := 10000000) only [push_cast, seval, ↓reduceIte, beq_self_eq_true, backOf, callSets, renSlot, pick, mOf, idx, ren, ren2, ren1, ren0]) | (refine hKC _ _ _ _ _ (callK [0] h1 rfl rfl rfl (by decide) (by simp) rfl rfl Lq ?_); simp (maxSteps := 10000000) only [push_cast, seval, ↓reduceIte, beq_self_eq_true, backOf, callSets, renSlot, pick, mOf, idx, ren, ren2, ren1, ren0]) | (refine hKC _ _ _ _ _ (callK [0, 1] h2 rfl rfl rfl (by decide) (by simp) rfl rfl Lq ?_); simp (maxSteps := 10000000) only [push_cast, seval, ↓reduceIte, beq_self_eq_true, backOf, callSets, renSlot, pick, mOf, idx, ren, ren2, ren1, ren0]) | ((with_reducible refine hJ _ _ ?_); clear hJ hKC KC J) | ((with_reducible refine AWP_condT ?_ ?_); · rfl) | ((with_reducible refine AWP_condF ?_ ?_); · rfl)
    refine ret_keys ?_
    simp (maxSteps := 10000000) only [push_cast, seval, ↓reduceIte, show Tryz.f120.results = #[(.cell 2 100)] from rfl]
    exact ⟨rfl, leD_refl _⟩
  by_cases hr10 : n1 = 10
  · subst hr10
    have h2 := instr2_fn nl sp d1 10 e1
    simp only [instrN, show ((10 : Int) = 1) = False by simp, show ((10 : Int) = 8) = False by simp, show ((10 : Int) = 9) = False by simp, if_true, if_false]
    obtain ⟨⟨d2, n2, e2⟩, hM2⟩ : ∃ m, belowP (d1, 10, e1) 2 = m := ⟨_, rfl⟩
    rw [hM2] at h2
    rw [hM2]
    simp only at h2 ⊢
    refine Fn.of (fn := Tryz.f120) (by kernel_rfl) rfl (by kernel_rfl) ⟨[.ptr 0 0 0, .v undef, .v undef, .v undef, .v undef, .v undef, .v undef, .v undef, .v undef, .v undef, .v undef, .v undef, .v undef, .v undef, .v undef, .v undef, .v undef, .v undef, .v undef, .v undef, .v undef, .v undef, .v undef, .v undef, .v undef, .v undef, .v undef, .v undef, .v undef, .v undef, .v undef, .v undef, .v undef, .v undef, .v undef, .v undef], [.ent (mkE nl sp d e)]⟩ rfl ?_
    simp only [mkE]
    repeat' first | (with_reducible first | refine AWP_seq' ?_ | refine k_normal ?_ | refine AWP_ret ?_ | refine AWP_skip ?_) | ((with_reducible refine AWP_reg fun KC J hJ hKC => ?_); simp (maxSteps := 10000000) only [push_cast, seval, ↓reduceIte, beq_self_eq_true, backOf, callSets, renSlot, pick, mOf, idx, ren, ren2, ren1, ren0]) | (refine hKC _ _ _ _ _ (callK [0] h1 rfl rfl rfl (by decide) (by simp) rfl rfl Lq ?_); simp (maxSteps := 10000000) only [push_cast, seval, ↓reduceIte, beq_self_eq_true, backOf, callSets, renSlot, pick, mOf, idx, ren, ren2, ren1, ren0]) | (refine hKC _ _ _ _ _ (callK [0, 1] h2 rfl rfl rfl (by decide) (by simp) rfl rfl Lq ?_); simp (maxSteps := 10000000) only [push_cast, seval, ↓reduceIte, beq_self_eq_true, backOf, callSets, renSlot, pick, mOf, idx, ren, ren2, ren1, ren0]) | ((with_reducible refine hJ _ _ ?_); clear hJ hKC KC J) | ((with_reducible refine AWP_condT ?_ ?_); · rfl) | ((with_reducible refine AWP_condF ?_ ?_); · rfl)
    refine ret_keys ?_
    simp (maxSteps := 10000000) only [push_cast, seval, ↓reduceIte, show Tryz.f120.results = #[(.cell 2 100)] from rfl]
    exact ⟨rfl, leD_refl _⟩
  have hr8' : (n1 == 8) = false := by simpa using hr8
  have hr9' : (n1 == 9) = false := by simpa using hr9
  have hr10' : (n1 == 10) = false := by simpa using hr10
  simp only [instrN, if_neg hr, if_neg hr8, if_neg hr9, if_neg hr10]
  refine Fn.of (fn := Tryz.f120) (by kernel_rfl) rfl (by kernel_rfl) ⟨[.ptr 0 0 0, .v undef, .v undef, .v undef, .v undef, .v undef, .v undef, .v undef, .v undef, .v undef, .v undef, .v undef, .v undef, .v undef, .v undef, .v undef, .v undef, .v undef, .v undef, .v undef, .v undef, .v undef, .v undef, .v undef, .v undef, .v undef, .v undef, .v undef, .v undef, .v undef, .v undef, .v undef, .v undef, .v undef, .v undef, .v undef], [.ent (mkE nl sp d e)]⟩ rfl ?_
  simp only [mkE]
  repeat' first | (with_reducible first | refine AWP_seq' ?_ | refine k_normal ?_ | refine AWP_ret ?_ | refine AWP_skip ?_) | ((with_reducible refine AWP_reg fun KC J hJ hKC => ?_); simp (maxSteps := 10000000) only [push_cast, seval, ↓reduceIte, hr', hr8', hr9', hr10', beq_self_eq_true, backOf, callSets, renSlot, pick, mOf, idx, ren, ren2, ren1, ren0]) | (refine hKC _ _ _ _ _ (callK [0] h1 rfl rfl rfl (by decide) (by simp) rfl rfl Lq ?_); simp (maxSteps := 10000000) only [push_cast, seval, ↓reduceIte, hr', hr8', hr9', hr10', beq_self_eq_true, backOf, callSets, renSlot, pick, mOf, idx, ren, ren2, ren1, ren0]) | ((with_reducible refine hJ _ _ ?_); clear hJ hKC KC J) | ((with_reducible refine AWP_condF ?_ ?_); · rfl)
  refine ret_keys ?_
  simp (maxSteps := 10000000) only [push_cast, seval, ↓reduceIte, show Tryz.f120.results = #[(.cell 2 100)] from rfl]
  exact ⟨rfl, leD_refl _⟩
end Go.Proofs.YtabliglgeiajlaaGreat.AM
