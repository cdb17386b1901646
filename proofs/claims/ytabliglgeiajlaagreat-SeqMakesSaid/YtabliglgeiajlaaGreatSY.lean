/- The reference's state of templates. -/
import Derived.Test.YtabliglgeiajlaaGreatSX
import Derived.Test.YtabliglgeiajlaaGreatSD
import Derived.Test.YtabliglgeiajlaaGreatHW
set_option linter.unusedSimpArgs false
set_option linter.unusedVariables false
namespace Go.Proofs.YtabliglgeiajlaaGreat.AM
open Go Go.RowKit Go.Proofs
set_option maxRecDepth 100000
set_option maxHeartbeats 4000000

theorem flRle (l : List (Int × Int × Int)) : Rle (.sl (flL l) 3 (tRow l)) (.sl false 3 (tRow l)) := by
  cases l with
  | nil => exact .full _ _
  | cons _ _ => exact .refl _
theorem rState18_fn (f g : Bool) (ns : List ByteArray) (us : List Nat) (sp : Sp) (d : Dr) (hul : us.length ≤ 1000) (hsp : SpOk sp) :
    Fn Tryz.prog 21 [.agg [.sl f 1 (strRow ns), .sl g 1 (u32Row us)], .agg (spF false sp), encDr false false d] [] (.agg [.sl false 1 (intRow (endF Sta.z ((seqC us.length sp).run d)).1.l), .v (.int .i64 (endF Sta.z ((seqC us.length sp).run d)).1.a), .sl false 1 (intRow (endF Sta.z ((seqC us.length sp).run d)).1.g), .v (.int .i64 (endF Sta.z ((seqC us.length sp).run d)).2.1.v), .v (.int .i64 (endF Sta.z ((seqC us.length sp).run d)).2.1.l), .sl false 3 (tRow (endF Sta.z ((seqC us.length sp).run d)).2.1.code), .sl false 2 (pRow (endF Sta.z ((seqC us.length sp).run d)).2.1.mem), .sl false 3 (sRow (endF Sta.z ((seqC us.length sp).run d)).2.1.stack), .sl false 2 (pRow (endF Sta.z ((seqC us.length sp).run d)).2.1.out), .v (.int .i64 (endF Sta.z ((seqC us.length sp).run d)).2.2)]) [] := by
  have h1 := (rProgram18_fn us.length sp d (by omega) hsp).post (res' := .agg (encM (programR us.length sp (d, 0, 0)).1 ++ [.sl false 3 (tRow (programR us.length sp (d, 0, 0)).2)])) (.agg (by
    simp only [encM, List.cons_append, List.nil_append]
    exact .cons (.refl _) (.cons (.refl _) (.cons (.refl _) (.cons (.refl _) (.cons (.refl _) (.cons (flRle _) .nil)))))))
  have hp := (isR_program (nl := us.length) hsp.c0).1 d 0
  unfold seqC
  rw [Cp.run_bind]
  cases hrun : (programC us.length sp).run d with
  | error e =>
    rw [hrun] at hp
    obtain ⟨he, hpe⟩ := hp
    have he' : (e != 0) = true := by simpa using he
    obtain ⟨⟨⟨d1, n1, e1⟩, c⟩, hc⟩ : ∃ x, programR us.length sp (d, 0, 0) = x := ⟨_, rfl⟩
    rw [hc] at h1 hpe
    simp only at hpe
    subst hpe
    simp only [encM, spF, encDr, endF, Dr.z, Sta.z, List.cons_append, List.nil_append] at h1 ⊢
    refine Fn.of (fn := Tryz.f21) (by kernel_rfl) rfl (by kernel_rfl) ⟨[.agg [.sl f 1 (strRow ns), .sl g 1 (u32Row us)], .agg [.v (.int .i64 sp.code), .v (.int .i64 sp.mem), .v (.int .i64 sp.stack), .v (.int .i64 sp.val), .sl false 1 (intRow sp.ws)], .agg [.sl false 1 (intRow d.l), .v (.int .i64 d.a), .sl false 1 (intRow d.g)], .v undef, .v undef, .v undef, .v undef, .v undef, .v undef, .v undef, .v undef, .v undef, .v undef, .v undef, .v undef, .v undef, .v undef, .v undef, .v undef, .v undef, .v undef, .v undef, .v undef, .v undef, .v undef, .v undef, .v undef, .v undef, .v undef, .v undef, .v undef, .v undef, .v undef, .v undef, .v undef, .v undef, .v undef, .v undef, .v undef], []⟩ rfl ?_
    repeat' first | (with_reducible first | refine AWP_seq' ?_ | refine k_normal ?_ | refine k_ret ?_ | refine AWP_ret ?_) | ((with_reducible refine AWP_reg fun KC J hJ hKC => ?_); simp (maxSteps := 10000000) only [push_cast, seval, ↓reduceIte, he']) | (refine hKC _ _ _ _ _ (callV0 (h1) rfl rfl rfl ?_ ?_); (· exact Lq); simp (maxSteps := 10000000) only [push_cast, seval, ↓reduceIte, he']) | ((with_reducible refine hJ _ _ ?_); clear hJ hKC KC J) | ((with_reducible refine AWP_condT ?_ ?_); · rfl)
    refine ret_plain ?_
    simp (maxSteps := 10000000) only [push_cast, seval, ↓reduceIte, show Tryz.f21.results = #[(.cell 6 52)] from rfl]
    exact Lq
  | ok x =>
    obtain ⟨d1, c⟩ := x
    rw [hrun] at hp
    obtain ⟨n1, hc⟩ := hp
    rw [hc] at h1
    have k2 := rState15_fn f g ns us (sp0 sp) d1 hul (sp0_ok hsp)
    have he : endF ⟨0, 0, [], [], [], []⟩ (match (Except.ok (d1, c) : Except Int (Dr × List (Int × Int × Int))) with | .ok (d', x) => ((genC us.length (sp0 sp)).bind fun s => Cp.ret { s with code := x }).run d' | .error e => .error e) =
        if (endF Sta.z ((genC us.length (sp0 sp)).run d1)).2.2 = 0 then ((endF Sta.z ((genC us.length (sp0 sp)).run d1)).1, { (endF Sta.z ((genC us.length (sp0 sp)).run d1)).2.1 with code := c }, 0) else endF Sta.z ((genC us.length (sp0 sp)).run d1) := by
      simp only [Cp.run_bind]
      have hgi := (is_gen us.length (sp0 sp)).1 d1 0
      cases hgr : (genC us.length (sp0 sp)).run d1 with
      | error e => rw [hgr] at hgi; exact (if_neg (show ¬ (endF Sta.z (.error e : Except Int (Dr × Sta))).2.2 = 0 from hgi.1)).symm
      | ok y => simp only [endF, Cp.run, if_true]
    rw [show Sta.z = (⟨0, 0, [], [], [], []⟩ : Sta) from rfl] at he
    rw [show Sta.z = (⟨0, 0, [], [], [], []⟩ : Sta) from rfl] at k2 ⊢
    rw [he]
    obtain ⟨⟨d2, ⟨sv, sl, sc, sm, ss, so⟩, e2⟩, hG⟩ : ∃ x, endF (⟨0, 0, [], [], [], []⟩ : Sta) ((genC us.length (sp0 sp)).run d1) = x := ⟨_, rfl⟩
    rw [hG] at k2 ⊢
    simp only [encM, encDr, spF, sp0, List.cons_append, List.nil_append] at h1 k2 ⊢
    by_cases hz : e2 = 0
    · subst hz
      rw [if_pos rfl]
      refine Fn.of (fn := Tryz.f21) (by kernel_rfl) rfl (by kernel_rfl) ⟨[.agg [.sl f 1 (strRow ns), .sl g 1 (u32Row us)], .agg [.v (.int .i64 sp.code), .v (.int .i64 sp.mem), .v (.int .i64 sp.stack), .v (.int .i64 sp.val), .sl false 1 (intRow sp.ws)], .agg [.sl false 1 (intRow d.l), .v (.int .i64 d.a), .sl false 1 (intRow d.g)], .v undef, .v undef, .v undef, .v undef, .v undef, .v undef, .v undef, .v undef, .v undef, .v undef, .v undef, .v undef, .v undef, .v undef, .v undef, .v undef, .v undef, .v undef, .v undef, .v undef, .v undef, .v undef, .v undef, .v undef, .v undef, .v undef, .v undef, .v undef, .v undef, .v undef, .v undef, .v undef, .v undef, .v undef, .v undef, .v undef], []⟩ rfl ?_
      repeat' first | (with_reducible first | refine AWP_seq' ?_ | refine k_normal ?_ | refine AWP_ret ?_ | refine AWP_skip ?_) | ((with_reducible refine AWP_reg fun KC J hJ hKC => ?_); simp (maxSteps := 10000000) only [push_cast, seval, ↓reduceIte, bne_self_eq_false, beq_self_eq_true]) | (refine hKC _ _ _ _ _ (callV0 (h1) rfl rfl rfl ?_ ?_); (· exact Lq); simp (maxSteps := 10000000) only [push_cast, seval, ↓reduceIte, bne_self_eq_false, beq_self_eq_true]) | (refine hKC _ _ _ _ _ (callV0 (k2) rfl rfl rfl ?_ ?_); (· exact Lq); simp (maxSteps := 10000000) only [push_cast, seval, ↓reduceIte, bne_self_eq_false, beq_self_eq_true]) | ((with_reducible refine hJ _ _ ?_); clear hJ hKC KC J) | ((with_reducible refine AWP_condT ?_ ?_); · rfl) | ((with_reducible refine AWP_condF ?_ ?_); · rfl)
      refine ret_plain ?_
      simp (maxSteps := 10000000) only [push_cast, seval, ↓reduceIte, show Tryz.f21.results = #[(.cell 6 52)] from rfl]
      exact Lq
    · have h2' : (e2 == 0) = false := by simpa using hz
      rw [if_neg hz]
      refine Fn.of (fn := Tryz.f21) (by kernel_rfl) rfl (by kernel_rfl) ⟨[.agg [.sl f 1 (strRow ns), .sl g 1 (u32Row us)], .agg [.v (.int .i64 sp.code), .v (.int .i64 sp.mem), .v (.int .i64 sp.stack), .v (.int .i64 sp.val), .sl false 1 (intRow sp.ws)], .agg [.sl false 1 (intRow d.l), .v (.int .i64 d.a), .sl false 1 (intRow d.g)], .v undef, .v undef, .v undef, .v undef, .v undef, .v undef, .v undef, .v undef, .v undef, .v undef, .v undef, .v undef, .v undef, .v undef, .v undef, .v undef, .v undef, .v undef, .v undef, .v undef, .v undef, .v undef, .v undef, .v undef, .v undef, .v undef, .v undef, .v undef, .v undef, .v undef, .v undef, .v undef, .v undef, .v undef, .v undef, .v undef], []⟩ rfl ?_
      repeat' first | (with_reducible first | refine AWP_seq' ?_ | refine k_normal ?_ | refine AWP_ret ?_ | refine AWP_skip ?_) | ((with_reducible refine AWP_reg fun KC J hJ hKC => ?_); simp (maxSteps := 10000000) only [push_cast, seval, ↓reduceIte, bne_self_eq_false, h2']) | (refine hKC _ _ _ _ _ (callV0 (h1) rfl rfl rfl ?_ ?_); (· exact Lq); simp (maxSteps := 10000000) only [push_cast, seval, ↓reduceIte, bne_self_eq_false, h2']) | (refine hKC _ _ _ _ _ (callV0 (k2) rfl rfl rfl ?_ ?_); (· exact Lq); simp (maxSteps := 10000000) only [push_cast, seval, ↓reduceIte, bne_self_eq_false, h2']) | ((with_reducible refine hJ _ _ ?_); clear hJ hKC KC J) | ((with_reducible refine AWP_condF ?_ ?_); · rfl)
      refine ret_plain ?_
      simp (maxSteps := 10000000) only [push_cast, seval, ↓reduceIte, show Tryz.f21.results = #[(.cell 6 52)] from rfl]
      exact Lq
end Go.Proofs.YtabliglgeiajlaaGreat.AM
