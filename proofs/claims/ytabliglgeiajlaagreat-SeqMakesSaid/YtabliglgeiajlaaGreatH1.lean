/- Choices: the maker's methods. -/
import Derived.Test.YtabliglgeiajlaaGreatU5
import Derived.Test.YtabliglgeiajlaaGreatHD
set_option linter.unusedSimpArgs false
set_option linter.unusedVariables false
namespace Go.Proofs.YtabliglgeiajlaaGreat.AM
open Go Go.RowKit Go.Proofs
set_option maxRecDepth 100000
set_option maxHeartbeats 1000000

abbrev mkE (nl : Int) (sp : Sp) (d : Dr) (e : Int) : Ent := ⟨0, none, 179, [.v (.int .i64 nl), .v (.int .i64 sp.code), .v (.int .i64 sp.mem), .v (.int .i64 sp.stack), .v (.int .i64 sp.val), .sl false 1 (intRow sp.ws), .sl false 1 (intRow d.l), .v (.int .i64 d.a), .sl false 1 (intRow d.g), .v (.int .i64 e)], .cells⟩
theorem took_fn (nl : Int) (sp : Sp) (d : Dr) (n e : Int) (t : M3) :
    Fn (Tryz.prog) 273 [.ptr 0 0 0, encDr false false t.1, .v (.int .i64 t.2.1), .v (.int .i64 t.2.2)] [.ent (mkE nl sp d e)] (.v (.int .i64 (tookP (d, n, e) t).2.1)) [.ent (mkE nl sp (tookP (d, n, e) t).1 (tookP (d, n, e) t).2.2)] := by
  obtain ⟨td, tn, te⟩ := t
  simp only [tookP, encDr, mkE]
  refine Fn.of (fn := Tryz.f273) (by kernel_rfl) rfl (by kernel_rfl) ⟨[.ptr 0 0 0, .agg [.sl false 1 (intRow td.l), .v (.int .i64 td.a), .sl false 1 (intRow td.g)], .v (.int .i64 tn), .v (.int .i64 te), .v undef, .v undef, .v undef, .v undef, .v undef, .v undef, .v undef, .v undef, .v undef, .v undef, .v undef, .v undef, .v undef, .v undef, .v undef, .v undef, .v undef, .v undef, .v undef, .v undef, .v undef, .v undef, .v undef, .v undef], [.ent (mkE nl sp d e)]⟩ rfl ?_
  simp only [mkE]
  by_cases h1 : e = 0
  · subst h1
    by_cases h2 : te = 0
    · subst h2
      repeat' first | (with_reducible first | refine AWP_seq' ?_ | refine k_normal ?_ | refine AWP_ret ?_ | refine AWP_skip ?_) | ((with_reducible refine AWP_reg fun KC J hJ hKC => ?_); simp (maxSteps := 10000000) only [push_cast, seval, ↓reduceIte, beq_self_eq_true, bne_self_eq_false]) | ((with_reducible refine hJ _ _ ?_); clear hJ hKC KC J) | ((with_reducible refine AWP_condT ?_ ?_); · rfl) | ((with_reducible refine AWP_condF ?_ ?_); · rfl)
      refine ret_keys ?_
      simp (maxSteps := 10000000) only [push_cast, seval, ↓reduceIte, show Tryz.f273.results = #[(.tmp 8)] from rfl]
      exact ⟨rfl, leD_refl _⟩
    · have h2' : (te != 0) = true := by simpa using h2
      rw [if_pos rfl, if_neg h2]
      repeat' first | (with_reducible first | refine AWP_seq' ?_ | refine k_normal ?_ | refine k_ret ?_ | refine AWP_ret ?_) | ((with_reducible refine AWP_reg fun KC J hJ hKC => ?_); simp (maxSteps := 10000000) only [push_cast, seval, ↓reduceIte, beq_self_eq_true, h2']) | ((with_reducible refine hJ _ _ ?_); clear hJ hKC KC J) | ((with_reducible refine AWP_condT ?_ ?_); · rfl)
      refine ret_keys ?_
      simp (maxSteps := 10000000) only [push_cast, seval, ↓reduceIte, show Tryz.f273.results = #[(.tmp 8)] from rfl]
      exact ⟨rfl, leD_refl _⟩
  · have h1' : (e != 0) = true := by simpa using h1
    have h1'' : (e == 0) = false := by simpa using h1
    rw [if_neg h1]
    repeat' first | (with_reducible first | refine AWP_seq' ?_ | refine k_normal ?_ | refine k_ret ?_ | refine AWP_ret ?_ | refine AWP_skip ?_) | ((with_reducible refine AWP_reg fun KC J hJ hKC => ?_); simp (maxSteps := 10000000) only [push_cast, seval, ↓reduceIte, h1', h1'']) | ((with_reducible refine hJ _ _ ?_); clear hJ hKC KC J) | ((with_reducible refine AWP_condT ?_ ?_); · rfl) | ((with_reducible refine AWP_condF ?_ ?_); · rfl)
    refine ret_keys ?_
    simp (maxSteps := 10000000) only [push_cast, seval, ↓reduceIte, show Tryz.f273.results = #[(.tmp 8)] from rfl]
    exact ⟨rfl, leD_refl _⟩
theorem below_fn (nl : Int) (sp : Sp) (d : Dr) (n e b : Int) (hB : b ≤ 9223372036854775807) :
    Fn (Tryz.prog) 221 [.ptr 0 0 0, .v (.int .i64 b)] [.ent (mkE nl sp d e)] (.v (.int .i64 (belowP (d, n, e) b).2.1)) [.ent (mkE nl sp (belowP (d, n, e) b).1 (belowP (d, n, e) b).2.2)] := by
  have ht := take_fn false false d.l d.g d.a b hB
  have hk := took_fn nl sp d n e (takeF d b)
  simp only [belowP]
  obtain ⟨t, hT⟩ : ∃ t, takeF d b = t := ⟨_, rfl⟩
  obtain ⟨m, hM⟩ : ∃ m, tookP (d, n, e) t = m := ⟨_, rfl⟩
  rw [show (⟨d.l, d.a, d.g⟩ : Dr) = d from rfl, hT] at ht
  rw [hT, hM] at hk
  rw [hT, hM]
  refine Fn.of (fn := Tryz.f221) (by kernel_rfl) rfl (by kernel_rfl) ⟨[.ptr 0 0 0, .v (.int .i64 b), .v undef, .v undef, .v undef, .v undef, .v undef, .v undef, .v undef, .v undef, .v undef, .v undef, .v undef, .v undef, .v undef, .v undef], [.ent (mkE nl sp d e)]⟩ rfl ?_
  simp only [mkE]
  repeat' first | (with_reducible first | refine AWP_seq' ?_ | refine k_normal ?_ | refine AWP_ret ?_) | ((with_reducible refine AWP_reg fun KC J hJ hKC => ?_); simp (maxSteps := 10000000) only [push_cast, seval, ↓reduceIte, encDr, hT, hM, backOf, callSets, renSlot, pick, mOf, idx, ren, ren2, ren1, ren0]) | (refine' hKC _ _ _ _ _ (callV0 (take_fn _ _ _ _ _ _ ?_) rfl rfl rfl ?_ ?_); (rotate_left 7); (· exact Lq); (rotate_left 1); (iterate 1 (· exact Hq)); simp (maxSteps := 10000000) only [push_cast, seval, ↓reduceIte, encDr, hT, hM, backOf, callSets, renSlot, pick, mOf, idx, ren, ren2, ren1, ren0]) | (refine hKC _ _ _ _ _ (callK [0] hk rfl rfl rfl (by decide) (by simp) rfl rfl Lq ?_); simp (maxSteps := 10000000) only [push_cast, seval, ↓reduceIte, encDr, hT, hM, backOf, callSets, renSlot, pick, mOf, idx, ren, ren2, ren1, ren0]) | ((with_reducible refine hJ _ _ ?_); clear hJ hKC KC J)
  refine ret_keys ?_
  simp (maxSteps := 10000000) only [push_cast, seval, ↓reduceIte, show Tryz.f221.results = #[(.tmp 4)] from rfl]
  exact ⟨rfl, leD_refl _⟩
theorem number_fn (nl : Int) (sp : Sp) (d : Dr) (n e : Int) :
    Fn (Tryz.prog) 223 [.ptr 0 0 0] [.ent (mkE nl sp d e)] (.v (.int .i64 (numberP (d, n, e) sp.val).2.1)) [.ent (mkE nl sp (numberP (d, n, e) sp.val).1 (numberP (d, n, e) sp.val).2.2)] := by
  have ht := signed_fn false false d.l d.g d.a sp.val
  have hk := took_fn nl sp d n e (signedF d sp.val)
  simp only [numberP]
  obtain ⟨t, hT⟩ : ∃ t, signedF d sp.val = t := ⟨_, rfl⟩
  obtain ⟨m, hM⟩ : ∃ m, tookP (d, n, e) t = m := ⟨_, rfl⟩
  rw [show (⟨d.l, d.a, d.g⟩ : Dr) = d from rfl, hT] at ht
  rw [hT, hM] at hk
  rw [hT, hM]
  refine Fn.of (fn := Tryz.f223) (by kernel_rfl) rfl (by kernel_rfl) ⟨[.ptr 0 0 0, .v undef, .v undef, .v undef, .v undef, .v undef, .v undef, .v undef, .v undef, .v undef, .v undef, .v undef, .v undef, .v undef, .v undef, .v undef, .v undef, .v undef], [.ent (mkE nl sp d e)]⟩ rfl ?_
  simp only [mkE]
  repeat' first | (with_reducible first | refine AWP_seq' ?_ | refine k_normal ?_ | refine AWP_ret ?_) | ((with_reducible first | refine AWP_reg fun KC J hJ hKC => ?_ | refine AWP_regD rfl fun KC J hJ hKC => ?_); simp (maxSteps := 10000000) only [push_cast, seval, ↓reduceIte, encDr, hT, hM, backOf, callSets, renSlot, pick, mOf, idx, ren, ren2, ren1, ren0]) | (refine' hKC _ _ _ _ _ (callV0 (signed_fn _ _ _ _ _ _) rfl rfl rfl ?_ ?_); (rotate_left 6); (· exact Lq); simp (maxSteps := 10000000) only [push_cast, seval, ↓reduceIte, encDr, hT, hM, backOf, callSets, renSlot, pick, mOf, idx, ren, ren2, ren1, ren0]) | (refine hKC _ _ _ _ _ (callK [0] hk rfl rfl rfl (by decide) (by simp) rfl rfl Lq ?_); simp (maxSteps := 10000000) only [push_cast, seval, ↓reduceIte, encDr, hT, hM, backOf, callSets, renSlot, pick, mOf, idx, ren, ren2, ren1, ren0]) | ((first | with_reducible refine hJ _ _ ?_ | (with_reducible refine hJ _ _ ?_ ?_; · kernel_rfl)); clear hJ hKC KC J)
  refine ret_keys ?_
  simp (maxSteps := 10000000) only [push_cast, seval, ↓reduceIte, show Tryz.f223.results = #[(.tmp 2)] from rfl]
  exact ⟨rfl, leD_refl _⟩
theorem op_fn (nl : Int) (sp : Sp) (d : Dr) (n e : Int) (hw : sp.ws.length ≤ 9223372036854775807) :
    Fn (Tryz.prog) 222 [.ptr 0 0 0] [.ent (mkE nl sp d e)] (.v (.int .i64 (opP (d, n, e) sp.ws).2.1)) [.ent (mkE nl sp (opP (d, n, e) sp.ws).1 (opP (d, n, e) sp.ws).2.2)] := by
  have ht := weighted_fn false false false d.l d.g sp.ws d.a hw
  have hk := took_fn nl sp d n e (weightedF d sp.ws)
  simp only [opP]
  obtain ⟨t, hT⟩ : ∃ t, weightedF d sp.ws = t := ⟨_, rfl⟩
  obtain ⟨m, hM⟩ : ∃ m, tookP (d, n, e) t = m := ⟨_, rfl⟩
  rw [show (⟨d.l, d.a, d.g⟩ : Dr) = d from rfl, hT] at ht
  rw [hT, hM] at hk
  rw [hT, hM]
  refine Fn.of (fn := Tryz.f222) (by kernel_rfl) rfl (by kernel_rfl) ⟨[.ptr 0 0 0, .v undef, .v undef, .v undef, .v undef, .v undef, .v undef, .v undef, .v undef, .v undef, .v undef, .v undef, .v undef, .v undef, .v undef, .v undef, .v undef, .v undef], [.ent (mkE nl sp d e)]⟩ rfl ?_
  simp only [mkE]
  repeat' first | (with_reducible first | refine AWP_seq' ?_ | refine k_normal ?_ | refine AWP_ret ?_) | ((with_reducible first | refine AWP_reg fun KC J hJ hKC => ?_ | refine AWP_regD rfl fun KC J hJ hKC => ?_); simp (maxSteps := 10000000) only [push_cast, seval, ↓reduceIte, encDr, hT, hM, backOf, callSets, renSlot, pick, mOf, idx, ren, ren2, ren1, ren0]) | (refine' hKC _ _ _ _ _ (callV0 (weighted_fn _ _ _ _ _ _ _ ?_) rfl rfl rfl ?_ ?_); (rotate_left 8); (· exact Lq); (rotate_left 1); (iterate 1 (· exact Hq)); simp (maxSteps := 10000000) only [push_cast, seval, ↓reduceIte, encDr, hT, hM, backOf, callSets, renSlot, pick, mOf, idx, ren, ren2, ren1, ren0]) | (refine hKC _ _ _ _ _ (callK [0] hk rfl rfl rfl (by decide) (by simp) rfl rfl Lq ?_); simp (maxSteps := 10000000) only [push_cast, seval, ↓reduceIte, encDr, hT, hM, backOf, callSets, renSlot, pick, mOf, idx, ren, ren2, ren1, ren0]) | ((first | with_reducible refine hJ _ _ ?_ | (with_reducible refine hJ _ _ ?_ ?_; · kernel_rfl)); clear hJ hKC KC J)
  refine ret_keys ?_
  simp (maxSteps := 10000000) only [push_cast, seval, ↓reduceIte, show Tryz.f222.results = #[(.tmp 2)] from rfl]
  exact ⟨rfl, leD_refl _⟩
theorem place_fn (nl : Int) (sp : Sp) (d : Dr) (n e : Int) :
    Fn (Tryz.prog) 125 [.ptr 0 0 0] [.ent (mkE nl sp d e)] (.v (.int .i64 (belowP (d, n, e) 13).2.1)) [.ent (mkE nl sp (belowP (d, n, e) 13).1 (belowP (d, n, e) 13).2.2)] := by
  have hk := below_fn nl sp d n e 13 (by omega)
  obtain ⟨m, hM⟩ : ∃ m, belowP (d, n, e) 13 = m := ⟨_, rfl⟩
  rw [hM] at hk
  rw [hM]
  refine Fn.of (fn := Tryz.f125) (by kernel_rfl) rfl (by kernel_rfl) ⟨[.ptr 0 0 0, .v undef, .v undef, .v undef, .v undef], [.ent (mkE nl sp d e)]⟩ rfl ?_
  simp only [mkE]
  repeat' first | (with_reducible first | refine AWP_seq' ?_ | refine k_normal ?_ | refine AWP_ret ?_) | ((with_reducible refine AWP_reg fun KC J hJ hKC => ?_); simp (maxSteps := 10000000) only [push_cast, seval, ↓reduceIte, backOf, callSets, renSlot, pick, mOf, idx, ren, ren2, ren1, ren0]) | (refine hKC _ _ _ _ _ (callK [0] hk rfl rfl rfl (by decide) (by simp) rfl rfl Lq ?_); simp (maxSteps := 10000000) only [push_cast, seval, ↓reduceIte, backOf, callSets, renSlot, pick, mOf, idx, ren, ren2, ren1, ren0]) | ((with_reducible refine hJ _ _ ?_); clear hJ hKC KC J)
  refine ret_keys ?_
  simp (maxSteps := 10000000) only [push_cast, seval, ↓reduceIte, show Tryz.f125.results = #[(.tmp 2)] from rfl]
  exact ⟨rfl, leD_refl _⟩
theorem label_fn (nl : Int) (sp : Sp) (d : Dr) (n e : Int) (hn : nl ≤ 9223372036854775807) :
    Fn (Tryz.prog) 126 [.ptr 0 0 0] [.ent (mkE nl sp d e)] (.v (.int .i64 (belowP (d, n, e) nl).2.1)) [.ent (mkE nl sp (belowP (d, n, e) nl).1 (belowP (d, n, e) nl).2.2)] := by
  have hk := below_fn nl sp d n e nl hn
  obtain ⟨m, hM⟩ : ∃ m, belowP (d, n, e) nl = m := ⟨_, rfl⟩
  rw [hM] at hk
  rw [hM]
  refine Fn.of (fn := Tryz.f126) (by kernel_rfl) rfl (by kernel_rfl) ⟨[.ptr 0 0 0, .v undef, .v undef, .v undef, .v undef, .v undef, .v undef, .v undef, .v undef], [.ent (mkE nl sp d e)]⟩ rfl ?_
  simp only [mkE]
  repeat' first | (with_reducible first | refine AWP_seq' ?_ | refine k_normal ?_ | refine AWP_ret ?_) | ((with_reducible refine AWP_reg fun KC J hJ hKC => ?_); simp (maxSteps := 10000000) only [push_cast, seval, ↓reduceIte, backOf, callSets, renSlot, pick, mOf, idx, ren, ren2, ren1, ren0]) | (refine hKC _ _ _ _ _ (callK [0] hk rfl rfl rfl (by decide) (by simp) rfl rfl Lq ?_); simp (maxSteps := 10000000) only [push_cast, seval, ↓reduceIte, backOf, callSets, renSlot, pick, mOf, idx, ren, ren2, ren1, ren0]) | ((with_reducible refine hJ _ _ ?_); clear hJ hKC KC J)
  refine ret_keys ?_
  simp (maxSteps := 10000000) only [push_cast, seval, ↓reduceIte, show Tryz.f126.results = #[(.tmp 2)] from rfl]
  exact ⟨rfl, leD_refl _⟩
end Go.Proofs.YtabliglgeiajlaaGreat.AM
