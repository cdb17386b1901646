/- Rows that choices make. -/
import Derived.Test.YtabliglgeiajlaaGreatH3
import Derived.Test.YtabliglgeiajlaaGreatHR
set_option linter.unusedSimpArgs false
set_option linter.unusedVariables false
namespace Go.Proofs.YtabliglgeiajlaaGreat.AM
open Go Go.RowKit Go.Proofs
set_option maxRecDepth 100000
set_option maxHeartbeats 2000000

theorem timesF_length {α : Type} (f : M3 → M3 × α) (m : M3) : ∀ n, (timesF f n m).2.length = n
  | 0 => rfl
  | n + 1 => by simp [timesF, timesF_length f m n]
theorem belowP_le {m : M3} {b : Int} (hb : 1 ≤ b) : 0 ≤ (belowP m b).2.1 ∧ (belowP m b).2.1 < b := by
  unfold belowP tookP
  have h := takeF_num m.1 b hb
  split
  · split
    · exact h
    · exact ⟨by simp only; omega, by simp only; omega⟩
  · exact ⟨by simp only; omega, by simp only; omega⟩

theorem rowsI_fn (nl : Int) (sp : Sp) (d : Dr) (n e most : Int) (hm0 : 0 ≤ most) (hm1 : most ≤ 1000) (hn : nl ≤ 9223372036854775807) (hw : sp.ws.length ≤ 9223372036854775807) :
    Fn (Tryz.prog) 119 [.ptr 0 0 0, .v (.int .i64 most), .bnd 120 [.ptr 0 0 0]] [.ent (mkE nl sp d e)] (.sl false 3 (tRow (rowsP (instrP nl sp) most (d, n, e)).2)) [.ent (mkE nl sp (rowsP (instrP nl sp) most (d, n, e)).1.1 (rowsP (instrP nl sp) most (d, n, e)).1.2.2)] := by
  have hk := below_fn nl sp d n e (most + 1) (by omega)
  have hr := belowP_le (m := (d, n, e)) (show 1 ≤ most + 1 by omega)
  unfold rowsP
  obtain ⟨b, hB⟩ : ∃ m, belowP (d, n, e) (most + 1) = m := ⟨_, rfl⟩
  rw [hB] at hk hr
  rw [hB]
  obtain ⟨N, hN⟩ : ∃ N : Nat, b.2.1 = N := ⟨b.2.1.toNat, by omega⟩
  rw [hN] at hk hr
  rw [hN, Int.toNat_natCast]
  obtain ⟨f, hf⟩ : ∃ f, instrP nl sp = f := ⟨_, rfl⟩
  have hone : ∀ (d : Dr) (n e : Int), Fn (Tryz.prog) 120 [.ptr 0 0 0] [.ent (mkE nl sp d e)] (.agg ((fun x : Int × Int × Int => [.v (.int .i64 x.1), .v (.int .i64 x.2.1), .v (.int .i64 x.2.2)]) (f (d, n, e)).2)) [.ent (mkE nl sp (f (d, n, e)).1.1 (f (d, n, e)).1.2.2)] := fun d n e => by rw [← hf]; exact instr_fn nl sp d n e hn hw
  rw [hf]
  have wm : IntKind.i64.wrap (most + 1) = most + 1 := wrapI (by omega) (by omega)
  have ek : ∀ d e, [Slot.ent (mkE nl sp d e)] ++ List.replicate 2 Slot.dead = [.ent (mkE nl sp d e), .dead, .dead] := fun d e => rfl
  have mk0 : ∀ d e, Slot.ent ⟨0, none, 179, (mkE nl sp d e).cells, .cells⟩ = .ent (mkE nl sp d e) := fun d e => rfl
  refine Fn.of (fn := Tryz.f119) (by kernel_rfl) rfl (by kernel_rfl) ⟨[.ptr 0 0 0, .v (.int .i64 most), .bnd 120 [.ptr 0 0 0], .v undef, .v undef, .v undef, .v undef, .v undef, .v undef, .v undef, .v undef, .v undef, .v undef, .v undef, .v undef, .v undef, .v undef, .v undef, .v undef, .v undef, .v undef], [.ent (mkE nl sp d e)]⟩ rfl ?_
  simp only [mkE] at hk ⊢
  repeat' first | (with_reducible first | refine AWP_seq' ?_ | refine k_normal ?_ | refine AWP_block ?_) | ((with_reducible refine AWP_reg fun KC J hJ hKC => ?_); simp (maxSteps := 10000000) only [push_cast, seval, ↓reduceIte, wm, backOf, callSets, renSlot, pick, mOf, idx, ren, ren2, ren1, ren0]) | (refine hKC _ _ _ _ _ (callK [0] hk rfl rfl rfl (by decide) (by simp) rfl rfl Lq ?_); simp (maxSteps := 10000000) only [push_cast, seval, ↓reduceIte, wm, backOf, callSets, renSlot, pick, mOf, idx, ren, ren2, ren1, ren0]) | ((with_reducible refine hJ _ _ ?_); clear hJ hKC KC J)
  refine AWP_loopE 1 (γ := {i : Nat // i ≤ N}) (fun i => ⟨[.ptr 0 0 0, .any, .bnd 120 [.ptr 0 0 0], .any, .any, .any, .any, eR 3 i.1, .any, .any, .any, .v (.int .i64 N), .v (.int .i64 i.1), .any, .any, .any, .any, .any, .any, .any, .any], σR [.ent (mkE nl sp (timesF f i.1 b).1.1 (timesF f i.1 b).1.2.2)] 2 i.1 3 100 (tCells (timesF f i.1 b).2)⟩) (fun i => N - i.1) ⟨0, by omega⟩ rfl (fun i => σR_le [_] _ _ _ _ _) (fun i => ?_) (fun i => ?_) ⟨?_, ?_⟩ ?_
  · refine clsd_all ?_
    rcases rCase [.ent (mkE nl sp (timesF f i.1 b).1.1 (timesF f i.1 b).1.2.2)] 3 2 i.1 3 100 (tCells (timesF f i.1 b).2) with ⟨_, hD, hσ⟩ | ⟨j, _, hD, hσ⟩
    all_goals
      simp only [hσ, ek, List.cons_append, List.nil_append, List.map_cons, List.map_nil, renSlot, mkE, ren_tCells]
      rfl
  · rcases rCase [.ent (mkE nl sp (timesF f i.1 b).1.1 (timesF f i.1 b).1.2.2)] 3 2 i.1 3 100 (tCells (timesF f i.1 b).2) with ⟨_, hD, hσ⟩ | ⟨j, _, hD, hσ⟩
    all_goals
      simp only [hD, hσ]
      rfl
  · exact Lq
  · exact Fq
  rintro ⟨i, hi⟩
  have hLl := timesF_length f b i
  obtain ⟨⟨d1, n1, e1⟩, hm⟩ : ∃ m, (timesF f i b).1 = m := ⟨_, rfl⟩
  obtain ⟨L, hL⟩ : ∃ L, (timesF f i b).2 = L := ⟨_, rfl⟩
  have hst : timesF f (i + 1) b = ((f (d1, n1, e1)).1, L ++ [(f (d1, n1, e1)).2]) := by simp only [timesF, hm, hL]
  simp only [hm, hL] at hLl ⊢
  by_cases hlt : (i : Int) < (N : Int)
  · have hi1 : i + 1 ≤ N := by omega
    have h1 := hone d1 n1 e1
    obtain ⟨⟨⟨d2, n2, e2⟩, x⟩, hx⟩ : ∃ r, f (d1, n1, e1) = r := ⟨_, rfl⟩
    rw [hx] at h1 hst
    simp only [mkE] at h1
    have hD1 : eR 3 (i + 1) = .ref 3 i (i + 1) := rfl
    have hσ1 : σR [.ent (mkE nl sp d2 e2)] 2 (i + 1) 3 100 (tCells (L ++ [x])) = [.ent (mkE nl sp d2 e2), .dead, .dead, .ent ⟨i, some 3, 100, tCells L ++ tCells [x], .cells⟩] := by rw [tCells_app]; rfl
    rcases rCase [.ent (mkE nl sp d1 e1)] 3 2 i 3 100 (tCells L) with ⟨h0, hD, hσ⟩ | ⟨q, hq, hD, hσ⟩
    · have hL0 : L = [] := List.length_eq_zero_iff.1 (by omega)
      subst hL0
      repeat' first | (with_reducible first | refine AWP_seq' ?_ | refine k_normal ?_ | refine b_normal ?_ | refine AWP_skip ?_ | refine AWP_block ?_) | ((with_reducible refine AWP_reg fun KC J hJ hKC => ?_); simp (maxSteps := 10000000) only [push_cast, seval, ↓reduceIte, hlt, hD, hσ, mkE, backOf, callSets, renSlot, pick, mOf, idx, ren, ren2, ren1, ren0, wrapN (i := i) (n := N) (by omega) (by omega)]) | (refine hKC _ _ _ _ _ (callB [0] h1 rfl rfl rfl (by decide) (by simp) rfl rfl Lq ?_); simp (maxSteps := 10000000) only [push_cast, seval, ↓reduceIte, hlt, hD, hσ, mkE, backOf, callSets, renSlot, pick, mOf, idx, ren, ren2, ren1, ren0, wrapN (i := i) (n := N) (by omega) (by omega)]) | ((with_reducible refine hJ _ _ ?_); clear hJ hKC KC J) | ((with_reducible refine AWP_condT ?_ ?_); · rfl)
      subst h0
      refine ⟨⟨_, hi1⟩, by simp only; omega, ?_, ?_⟩
      · simp only [hD1]
        exact Lq
      · simp only [hst, hσ1, mkE]
        exact ⟨[_, _, _, _], _, rfl, .inr (.inl rfl), .inl rfl, .inl rfl, .inr (.inl rfl), trivial⟩
    · have hlC : (tCells L).length = (q + 1) * 3 := by rw [tCells_length, hLl, hq]
      have htC := take_len hlC
      have hbm : Nat.beq q q = true := Nat.beq_refl q
      repeat' first | (with_reducible first | refine AWP_seq' ?_ | refine k_normal ?_ | refine b_normal ?_ | refine AWP_skip ?_ | refine AWP_block ?_) | ((with_reducible refine AWP_reg fun KC J hJ hKC => ?_); simp (maxSteps := 10000000) only [push_cast, seval, ↓reduceIte, hlt, hD, hσ, ek, List.cons_append, List.nil_append, hlC, htC, hbm, mkE, backOf, callSets, renSlot, pick, mOf, idx, ren, ren2, ren1, ren0, ren_tCells, wrapN (i := i) (n := N) (by omega) (by omega)]) | ((with_reducible refine And.intro ?_ ?_); · exact Sq) | (refine hKC _ _ _ _ _ (callB [0] h1 rfl rfl rfl (by decide) (by simp) rfl rfl Lq ?_); simp (maxSteps := 10000000) only [push_cast, seval, ↓reduceIte, hlt, hD, hσ, ek, List.cons_append, List.nil_append, hlC, htC, hbm, mkE, backOf, callSets, renSlot, pick, mOf, idx, ren, ren2, ren1, ren0, ren_tCells, wrapN (i := i) (n := N) (by omega) (by omega)]) | ((with_reducible refine hJ _ _ ?_); clear hJ hKC KC J) | ((with_reducible refine AWP_condT ?_ ?_); · rfl)
      subst hq
      refine ⟨⟨_, hi1⟩, by simp only; omega, ?_, ?_⟩
      · simp only [hD1]
        exact Lq
      · simp only [hst, hσ1, mkE]
        exact ⟨[_, _, _, _], _, rfl, .inr (.inl rfl), .inl rfl, .inl rfl, .inr (.inl rfl), trivial⟩
  · have hin : i = N := by omega
    subst hin
    rw [hm, hL]
    rcases rCase [.ent (mkE nl sp d1 e1)] 3 2 i 3 100 (tCells L) with ⟨h0, hD, hσ⟩ | ⟨q, hq, hD, hσ⟩
    · have hL0 : L = [] := List.length_eq_zero_iff.1 (by omega)
      subst hL0
      subst h0
      repeat' first | (with_reducible first | refine AWP_seq' ?_ | refine k_normal ?_ | refine k_exit ?_ | refine b_exit ?_ | refine AWP_ret ?_ | refine AWP_exit ?_) | ((with_reducible refine AWP_reg fun KC J hJ hKC => ?_); simp (maxSteps := 10000000) only [push_cast, seval, ↓reduceIte, hlt, hD, hσ, mkE]) | ((with_reducible refine hJ _ _ ?_); clear hJ hKC KC J) | ((with_reducible refine AWP_condF ?_ ?_); · rfl)
      refine ret_keys ?_
      simp (maxSteps := 10000000) only [push_cast, seval, ↓reduceIte, show Tryz.f119.results = #[(.tmp 6)] from rfl]
      exact ⟨rfl, Lq⟩
    · have hcI : chunk 3 (q + 1) (tCells L) = tRow L := by rw [← hq, ← hLl]; exact chunk_t L
      have hlC : (tCells L).length = (q + 1) * 3 := by rw [tCells_length, hLl, hq]
      have hbm : Nat.beq q q = true := Nat.beq_refl q
      simp only [hD, hσ, ek, List.cons_append, List.nil_append, mkE]
      repeat' first | (refine AWP_freezeR 3 3 rfl (by (simp (maxSteps := 10000000) only [push_cast, seval, ↓reduceIte]) <;> rfl) ?_; simp (maxSteps := 10000000) only [push_cast, seval, ↓reduceIte, frSt, frSlot, fr3, fr2, fr1, fr0, sameB, arrOf, hlt, hD, hσ, ek, List.cons_append, List.nil_append, hcI, hlC, hbm, mkE]) | (with_reducible first | refine AWP_seq' ?_ | refine k_normal ?_ | refine k_exit ?_ | refine b_exit ?_ | refine AWP_ret ?_ | refine AWP_exit ?_) | ((with_reducible refine AWP_reg fun KC J hJ hKC => ?_); simp (maxSteps := 10000000) only [push_cast, seval, ↓reduceIte, hlt, hD, hσ, ek, List.cons_append, List.nil_append, hcI, hlC, hbm, mkE]) | ((with_reducible refine hJ _ _ ?_); clear hJ hKC KC J) | ((with_reducible refine AWP_condF ?_ ?_); · rfl)
      refine ret_keys ?_
      simp (maxSteps := 10000000) only [push_cast, seval, ↓reduceIte, show Tryz.f119.results = #[(.tmp 6)] from rfl]
      exact ⟨rfl, Lq⟩

theorem rowsA_fn (nl : Int) (sp : Sp) (d : Dr) (n e most : Int) (hm0 : 0 ≤ most) (hm1 : most ≤ 1000) (hn : nl ≤ 9223372036854775807) :
    Fn (Tryz.prog) 121 [.ptr 0 0 0, .v (.int .i64 most), .bnd 122 [.ptr 0 0 0]] [.ent (mkE nl sp d e)] (.sl false 2 (pRow (rowsP (atomP nl sp) most (d, n, e)).2)) [.ent (mkE nl sp (rowsP (atomP nl sp) most (d, n, e)).1.1 (rowsP (atomP nl sp) most (d, n, e)).1.2.2)] := by
  have hk := below_fn nl sp d n e (most + 1) (by omega)
  have hr := belowP_le (m := (d, n, e)) (show 1 ≤ most + 1 by omega)
  unfold rowsP
  obtain ⟨b, hB⟩ : ∃ m, belowP (d, n, e) (most + 1) = m := ⟨_, rfl⟩
  rw [hB] at hk hr
  rw [hB]
  obtain ⟨N, hN⟩ : ∃ N : Nat, b.2.1 = N := ⟨b.2.1.toNat, by omega⟩
  rw [hN] at hk hr
  rw [hN, Int.toNat_natCast]
  obtain ⟨f, hf⟩ : ∃ f, atomP nl sp = f := ⟨_, rfl⟩
  have hone : ∀ (d : Dr) (n e : Int), Fn (Tryz.prog) 122 [.ptr 0 0 0] [.ent (mkE nl sp d e)] (.agg ((fun x : Int × Int => [.v (.int .i64 x.1), .v (.int .i64 x.2)]) (f (d, n, e)).2)) [.ent (mkE nl sp (f (d, n, e)).1.1 (f (d, n, e)).1.2.2)] := fun d n e => by rw [← hf]; exact atom_fn nl sp d n e hn
  rw [hf]
  have wm : IntKind.i64.wrap (most + 1) = most + 1 := wrapI (by omega) (by omega)
  have ek : ∀ d e, [Slot.ent (mkE nl sp d e)] ++ List.replicate 2 Slot.dead = [.ent (mkE nl sp d e), .dead, .dead] := fun d e => rfl
  have mk0 : ∀ d e, Slot.ent ⟨0, none, 179, (mkE nl sp d e).cells, .cells⟩ = .ent (mkE nl sp d e) := fun d e => rfl
  refine Fn.of (fn := Tryz.f121) (by kernel_rfl) rfl (by kernel_rfl) ⟨[.ptr 0 0 0, .v (.int .i64 most), .bnd 122 [.ptr 0 0 0], .v undef, .v undef, .v undef, .v undef, .v undef, .v undef, .v undef, .v undef, .v undef, .v undef, .v undef, .v undef, .v undef, .v undef, .v undef, .v undef, .v undef, .v undef], [.ent (mkE nl sp d e)]⟩ rfl ?_
  simp only [mkE] at hk ⊢
  repeat' first | (with_reducible first | refine AWP_seq' ?_ | refine k_normal ?_ | refine AWP_block ?_) | ((with_reducible refine AWP_reg fun KC J hJ hKC => ?_); simp (maxSteps := 10000000) only [push_cast, seval, ↓reduceIte, wm, backOf, callSets, renSlot, pick, mOf, idx, ren, ren2, ren1, ren0]) | (refine hKC _ _ _ _ _ (callK [0] hk rfl rfl rfl (by decide) (by simp) rfl rfl Lq ?_); simp (maxSteps := 10000000) only [push_cast, seval, ↓reduceIte, wm, backOf, callSets, renSlot, pick, mOf, idx, ren, ren2, ren1, ren0]) | ((with_reducible refine hJ _ _ ?_); clear hJ hKC KC J)
  refine AWP_loopE 1 (γ := {i : Nat // i ≤ N}) (fun i => ⟨[.ptr 0 0 0, .any, .bnd 122 [.ptr 0 0 0], .any, .any, .any, .any, eR 3 i.1, .any, .any, .any, .v (.int .i64 N), .v (.int .i64 i.1), .any, .any, .any, .any, .any, .any, .any, .any], σR [.ent (mkE nl sp (timesF f i.1 b).1.1 (timesF f i.1 b).1.2.2)] 2 i.1 2 34 (pCells (timesF f i.1 b).2)⟩) (fun i => N - i.1) ⟨0, by omega⟩ rfl (fun i => σR_le [_] _ _ _ _ _) (fun i => ?_) (fun i => ?_) ⟨?_, ?_⟩ ?_
  · refine clsd_all ?_
    rcases rCase [.ent (mkE nl sp (timesF f i.1 b).1.1 (timesF f i.1 b).1.2.2)] 3 2 i.1 2 34 (pCells (timesF f i.1 b).2) with ⟨_, hD, hσ⟩ | ⟨j, _, hD, hσ⟩
    all_goals
      simp only [hσ, ek, List.cons_append, List.nil_append, List.map_cons, List.map_nil, renSlot, mkE, ren_pCells]
      rfl
  · rcases rCase [.ent (mkE nl sp (timesF f i.1 b).1.1 (timesF f i.1 b).1.2.2)] 3 2 i.1 2 34 (pCells (timesF f i.1 b).2) with ⟨_, hD, hσ⟩ | ⟨j, _, hD, hσ⟩
    all_goals
      simp only [hD, hσ]
      rfl
  · exact Lq
  · exact Fq
  rintro ⟨i, hi⟩
  have hLl := timesF_length f b i
  obtain ⟨⟨d1, n1, e1⟩, hm⟩ : ∃ m, (timesF f i b).1 = m := ⟨_, rfl⟩
  obtain ⟨L, hL⟩ : ∃ L, (timesF f i b).2 = L := ⟨_, rfl⟩
  have hst : timesF f (i + 1) b = ((f (d1, n1, e1)).1, L ++ [(f (d1, n1, e1)).2]) := by simp only [timesF, hm, hL]
  simp only [hm, hL] at hLl ⊢
  by_cases hlt : (i : Int) < (N : Int)
  · have hi1 : i + 1 ≤ N := by omega
    have h1 := hone d1 n1 e1
    obtain ⟨⟨⟨d2, n2, e2⟩, x⟩, hx⟩ : ∃ r, f (d1, n1, e1) = r := ⟨_, rfl⟩
    rw [hx] at h1 hst
    simp only [mkE] at h1
    have hD1 : eR 3 (i + 1) = .ref 3 i (i + 1) := rfl
    have hσ1 : σR [.ent (mkE nl sp d2 e2)] 2 (i + 1) 2 34 (pCells (L ++ [x])) = [.ent (mkE nl sp d2 e2), .dead, .dead, .ent ⟨i, some 2, 34, pCells L ++ pCells [x], .cells⟩] := by rw [pCells_app]; rfl
    rcases rCase [.ent (mkE nl sp d1 e1)] 3 2 i 2 34 (pCells L) with ⟨h0, hD, hσ⟩ | ⟨q, hq, hD, hσ⟩
    · have hL0 : L = [] := List.length_eq_zero_iff.1 (by omega)
      subst hL0
      repeat' first | (with_reducible first | refine AWP_seq' ?_ | refine k_normal ?_ | refine b_normal ?_ | refine AWP_skip ?_ | refine AWP_block ?_) | ((with_reducible refine AWP_reg fun KC J hJ hKC => ?_); simp (maxSteps := 10000000) only [push_cast, seval, ↓reduceIte, hlt, hD, hσ, mkE, backOf, callSets, renSlot, pick, mOf, idx, ren, ren2, ren1, ren0, wrapN (i := i) (n := N) (by omega) (by omega)]) | (refine hKC _ _ _ _ _ (callB [0] h1 rfl rfl rfl (by decide) (by simp) rfl rfl Lq ?_); simp (maxSteps := 10000000) only [push_cast, seval, ↓reduceIte, hlt, hD, hσ, mkE, backOf, callSets, renSlot, pick, mOf, idx, ren, ren2, ren1, ren0, wrapN (i := i) (n := N) (by omega) (by omega)]) | ((with_reducible refine hJ _ _ ?_); clear hJ hKC KC J) | ((with_reducible refine AWP_condT ?_ ?_); · rfl)
      subst h0
      refine ⟨⟨_, hi1⟩, by simp only; omega, ?_, ?_⟩
      · simp only [hD1]
        exact Lq
      · simp only [hst, hσ1, mkE]
        exact ⟨[_, _, _, _], _, rfl, .inr (.inl rfl), .inl rfl, .inl rfl, .inr (.inl rfl), trivial⟩
    · have hlC : (pCells L).length = (q + 1) * 2 := by rw [pCells_length, hLl, hq]
      have htC := take_len hlC
      have hbm : Nat.beq q q = true := Nat.beq_refl q
      repeat' first | (with_reducible first | refine AWP_seq' ?_ | refine k_normal ?_ | refine b_normal ?_ | refine AWP_skip ?_ | refine AWP_block ?_) | ((with_reducible refine AWP_reg fun KC J hJ hKC => ?_); simp (maxSteps := 10000000) only [push_cast, seval, ↓reduceIte, hlt, hD, hσ, ek, List.cons_append, List.nil_append, hlC, htC, hbm, mkE, backOf, callSets, renSlot, pick, mOf, idx, ren, ren2, ren1, ren0, ren_pCells, wrapN (i := i) (n := N) (by omega) (by omega)]) | ((with_reducible refine And.intro ?_ ?_); · exact Sq) | (refine hKC _ _ _ _ _ (callB [0] h1 rfl rfl rfl (by decide) (by simp) rfl rfl Lq ?_); simp (maxSteps := 10000000) only [push_cast, seval, ↓reduceIte, hlt, hD, hσ, ek, List.cons_append, List.nil_append, hlC, htC, hbm, mkE, backOf, callSets, renSlot, pick, mOf, idx, ren, ren2, ren1, ren0, ren_pCells, wrapN (i := i) (n := N) (by omega) (by omega)]) | ((with_reducible refine hJ _ _ ?_); clear hJ hKC KC J) | ((with_reducible refine AWP_condT ?_ ?_); · rfl)
      subst hq
      refine ⟨⟨_, hi1⟩, by simp only; omega, ?_, ?_⟩
      · simp only [hD1]
        exact Lq
      · simp only [hst, hσ1, mkE]
        exact ⟨[_, _, _, _], _, rfl, .inr (.inl rfl), .inl rfl, .inl rfl, .inr (.inl rfl), trivial⟩
  · have hin : i = N := by omega
    subst hin
    rw [hm, hL]
    rcases rCase [.ent (mkE nl sp d1 e1)] 3 2 i 2 34 (pCells L) with ⟨h0, hD, hσ⟩ | ⟨q, hq, hD, hσ⟩
    · have hL0 : L = [] := List.length_eq_zero_iff.1 (by omega)
      subst hL0
      subst h0
      repeat' first | (with_reducible first | refine AWP_seq' ?_ | refine k_normal ?_ | refine k_exit ?_ | refine b_exit ?_ | refine AWP_ret ?_ | refine AWP_exit ?_) | ((with_reducible refine AWP_reg fun KC J hJ hKC => ?_); simp (maxSteps := 10000000) only [push_cast, seval, ↓reduceIte, hlt, hD, hσ, mkE]) | ((with_reducible refine hJ _ _ ?_); clear hJ hKC KC J) | ((with_reducible refine AWP_condF ?_ ?_); · rfl)
      refine ret_keys ?_
      simp (maxSteps := 10000000) only [push_cast, seval, ↓reduceIte, show Tryz.f121.results = #[(.tmp 6)] from rfl]
      exact ⟨rfl, Lq⟩
    · have hcI : chunk 2 (q + 1) (pCells L) = pRow L := by rw [← hq, ← hLl]; exact chunk_p L
      have hlC : (pCells L).length = (q + 1) * 2 := by rw [pCells_length, hLl, hq]
      have hbm : Nat.beq q q = true := Nat.beq_refl q
      simp only [hD, hσ, ek, List.cons_append, List.nil_append, mkE]
      repeat' first | (refine AWP_freezeR 3 3 rfl (by (simp (maxSteps := 10000000) only [push_cast, seval, ↓reduceIte]) <;> rfl) ?_; simp (maxSteps := 10000000) only [push_cast, seval, ↓reduceIte, frSt, frSlot, fr3, fr2, fr1, fr0, sameB, arrOf, hlt, hD, hσ, ek, List.cons_append, List.nil_append, hcI, hlC, hbm, mkE]) | (with_reducible first | refine AWP_seq' ?_ | refine k_normal ?_ | refine k_exit ?_ | refine b_exit ?_ | refine AWP_ret ?_ | refine AWP_exit ?_) | ((with_reducible refine AWP_reg fun KC J hJ hKC => ?_); simp (maxSteps := 10000000) only [push_cast, seval, ↓reduceIte, hlt, hD, hσ, ek, List.cons_append, List.nil_append, hcI, hlC, hbm, mkE]) | ((with_reducible refine hJ _ _ ?_); clear hJ hKC KC J) | ((with_reducible refine AWP_condF ?_ ?_); · rfl)
      refine ret_keys ?_
      simp (maxSteps := 10000000) only [push_cast, seval, ↓reduceIte, show Tryz.f121.results = #[(.tmp 6)] from rfl]
      exact ⟨rfl, Lq⟩

theorem rowsS_fn (nl : Int) (sp : Sp) (d : Dr) (n e most : Int) (hm0 : 0 ≤ most) (hm1 : most ≤ 1000) (hn : nl ≤ 9223372036854775807) :
    Fn (Tryz.prog) 123 [.ptr 0 0 0, .v (.int .i64 most), .bnd 124 [.ptr 0 0 0]] [.ent (mkE nl sp d e)] (.sl false 3 (sRow (rowsP (slotP nl sp) most (d, n, e)).2)) [.ent (mkE nl sp (rowsP (slotP nl sp) most (d, n, e)).1.1 (rowsP (slotP nl sp) most (d, n, e)).1.2.2)] := by
  have hk := below_fn nl sp d n e (most + 1) (by omega)
  have hr := belowP_le (m := (d, n, e)) (show 1 ≤ most + 1 by omega)
  unfold rowsP
  obtain ⟨b, hB⟩ : ∃ m, belowP (d, n, e) (most + 1) = m := ⟨_, rfl⟩
  rw [hB] at hk hr
  rw [hB]
  obtain ⟨N, hN⟩ : ∃ N : Nat, b.2.1 = N := ⟨b.2.1.toNat, by omega⟩
  rw [hN] at hk hr
  rw [hN, Int.toNat_natCast]
  obtain ⟨f, hf⟩ : ∃ f, slotP nl sp = f := ⟨_, rfl⟩
  have hone : ∀ (d : Dr) (n e : Int), Fn (Tryz.prog) 124 [.ptr 0 0 0] [.ent (mkE nl sp d e)] (.agg ((fun x : Bool × Int × Int => [.v (.bool x.1), .v (.int .i64 x.2.1), .v (.int .i64 x.2.2)]) (f (d, n, e)).2)) [.ent (mkE nl sp (f (d, n, e)).1.1 (f (d, n, e)).1.2.2)] := fun d n e => by rw [← hf]; exact slot_fn nl sp d n e hn
  rw [hf]
  have wm : IntKind.i64.wrap (most + 1) = most + 1 := wrapI (by omega) (by omega)
  have ek : ∀ d e, [Slot.ent (mkE nl sp d e)] ++ List.replicate 2 Slot.dead = [.ent (mkE nl sp d e), .dead, .dead] := fun d e => rfl
  have mk0 : ∀ d e, Slot.ent ⟨0, none, 179, (mkE nl sp d e).cells, .cells⟩ = .ent (mkE nl sp d e) := fun d e => rfl
  refine Fn.of (fn := Tryz.f123) (by kernel_rfl) rfl (by kernel_rfl) ⟨[.ptr 0 0 0, .v (.int .i64 most), .bnd 124 [.ptr 0 0 0], .v undef, .v undef, .v undef, .v undef, .v undef, .v undef, .v undef, .v undef, .v undef, .v undef, .v undef, .v undef, .v undef, .v undef, .v undef, .v undef, .v undef, .v undef], [.ent (mkE nl sp d e)]⟩ rfl ?_
  simp only [mkE] at hk ⊢
  repeat' first | (with_reducible first | refine AWP_seq' ?_ | refine k_normal ?_ | refine AWP_block ?_) | ((with_reducible refine AWP_reg fun KC J hJ hKC => ?_); simp (maxSteps := 10000000) only [push_cast, seval, ↓reduceIte, wm, backOf, callSets, renSlot, pick, mOf, idx, ren, ren2, ren1, ren0]) | (refine hKC _ _ _ _ _ (callK [0] hk rfl rfl rfl (by decide) (by simp) rfl rfl Lq ?_); simp (maxSteps := 10000000) only [push_cast, seval, ↓reduceIte, wm, backOf, callSets, renSlot, pick, mOf, idx, ren, ren2, ren1, ren0]) | ((with_reducible refine hJ _ _ ?_); clear hJ hKC KC J)
  refine AWP_loopE 1 (γ := {i : Nat // i ≤ N}) (fun i => ⟨[.ptr 0 0 0, .any, .bnd 124 [.ptr 0 0 0], .any, .any, .any, .any, eR 3 i.1, .any, .any, .any, .v (.int .i64 N), .v (.int .i64 i.1), .any, .any, .any, .any, .any, .any, .any, .any], σR [.ent (mkE nl sp (timesF f i.1 b).1.1 (timesF f i.1 b).1.2.2)] 2 i.1 3 104 (sCells (timesF f i.1 b).2)⟩) (fun i => N - i.1) ⟨0, by omega⟩ rfl (fun i => σR_le [_] _ _ _ _ _) (fun i => ?_) (fun i => ?_) ⟨?_, ?_⟩ ?_
  · refine clsd_all ?_
    rcases rCase [.ent (mkE nl sp (timesF f i.1 b).1.1 (timesF f i.1 b).1.2.2)] 3 2 i.1 3 104 (sCells (timesF f i.1 b).2) with ⟨_, hD, hσ⟩ | ⟨j, _, hD, hσ⟩
    all_goals
      simp only [hσ, ek, List.cons_append, List.nil_append, List.map_cons, List.map_nil, renSlot, mkE, ren_sCells]
      rfl
  · rcases rCase [.ent (mkE nl sp (timesF f i.1 b).1.1 (timesF f i.1 b).1.2.2)] 3 2 i.1 3 104 (sCells (timesF f i.1 b).2) with ⟨_, hD, hσ⟩ | ⟨j, _, hD, hσ⟩
    all_goals
      simp only [hD, hσ]
      rfl
  · exact Lq
  · exact Fq
  rintro ⟨i, hi⟩
  have hLl := timesF_length f b i
  obtain ⟨⟨d1, n1, e1⟩, hm⟩ : ∃ m, (timesF f i b).1 = m := ⟨_, rfl⟩
  obtain ⟨L, hL⟩ : ∃ L, (timesF f i b).2 = L := ⟨_, rfl⟩
  have hst : timesF f (i + 1) b = ((f (d1, n1, e1)).1, L ++ [(f (d1, n1, e1)).2]) := by simp only [timesF, hm, hL]
  simp only [hm, hL] at hLl ⊢
  by_cases hlt : (i : Int) < (N : Int)
  · have hi1 : i + 1 ≤ N := by omega
    have h1 := hone d1 n1 e1
    obtain ⟨⟨⟨d2, n2, e2⟩, x⟩, hx⟩ : ∃ r, f (d1, n1, e1) = r := ⟨_, rfl⟩
    rw [hx] at h1 hst
    simp only [mkE] at h1
    have hD1 : eR 3 (i + 1) = .ref 3 i (i + 1) := rfl
    have hσ1 : σR [.ent (mkE nl sp d2 e2)] 2 (i + 1) 3 104 (sCells (L ++ [x])) = [.ent (mkE nl sp d2 e2), .dead, .dead, .ent ⟨i, some 3, 104, sCells L ++ sCells [x], .cells⟩] := by rw [sCells_app]; rfl
    rcases rCase [.ent (mkE nl sp d1 e1)] 3 2 i 3 104 (sCells L) with ⟨h0, hD, hσ⟩ | ⟨q, hq, hD, hσ⟩
    · have hL0 : L = [] := List.length_eq_zero_iff.1 (by omega)
      subst hL0
      repeat' first | (with_reducible first | refine AWP_seq' ?_ | refine k_normal ?_ | refine b_normal ?_ | refine AWP_skip ?_ | refine AWP_block ?_) | ((with_reducible refine AWP_reg fun KC J hJ hKC => ?_); simp (maxSteps := 10000000) only [push_cast, seval, ↓reduceIte, hlt, hD, hσ, mkE, backOf, callSets, renSlot, pick, mOf, idx, ren, ren2, ren1, ren0, wrapN (i := i) (n := N) (by omega) (by omega)]) | (refine hKC _ _ _ _ _ (callB [0] h1 rfl rfl rfl (by decide) (by simp) rfl rfl Lq ?_); simp (maxSteps := 10000000) only [push_cast, seval, ↓reduceIte, hlt, hD, hσ, mkE, backOf, callSets, renSlot, pick, mOf, idx, ren, ren2, ren1, ren0, wrapN (i := i) (n := N) (by omega) (by omega)]) | ((with_reducible refine hJ _ _ ?_); clear hJ hKC KC J) | ((with_reducible refine AWP_condT ?_ ?_); · rfl)
      subst h0
      refine ⟨⟨_, hi1⟩, by simp only; omega, ?_, ?_⟩
      · simp only [hD1]
        exact Lq
      · simp only [hst, hσ1, mkE]
        exact ⟨[_, _, _, _], _, rfl, .inr (.inl rfl), .inl rfl, .inl rfl, .inr (.inl rfl), trivial⟩
    · have hlC : (sCells L).length = (q + 1) * 3 := by rw [sCells_length, hLl, hq]
      have htC := take_len hlC
      have hbm : Nat.beq q q = true := Nat.beq_refl q
      repeat' first | (with_reducible first | refine AWP_seq' ?_ | refine k_normal ?_ | refine b_normal ?_ | refine AWP_skip ?_ | refine AWP_block ?_) | ((with_reducible refine AWP_reg fun KC J hJ hKC => ?_); simp (maxSteps := 10000000) only [push_cast, seval, ↓reduceIte, hlt, hD, hσ, ek, List.cons_append, List.nil_append, hlC, htC, hbm, mkE, backOf, callSets, renSlot, pick, mOf, idx, ren, ren2, ren1, ren0, ren_sCells, wrapN (i := i) (n := N) (by omega) (by omega)]) | ((with_reducible refine And.intro ?_ ?_); · exact Sq) | (refine hKC _ _ _ _ _ (callB [0] h1 rfl rfl rfl (by decide) (by simp) rfl rfl Lq ?_); simp (maxSteps := 10000000) only [push_cast, seval, ↓reduceIte, hlt, hD, hσ, ek, List.cons_append, List.nil_append, hlC, htC, hbm, mkE, backOf, callSets, renSlot, pick, mOf, idx, ren, ren2, ren1, ren0, ren_sCells, wrapN (i := i) (n := N) (by omega) (by omega)]) | ((with_reducible refine hJ _ _ ?_); clear hJ hKC KC J) | ((with_reducible refine AWP_condT ?_ ?_); · rfl)
      subst hq
      refine ⟨⟨_, hi1⟩, by simp only; omega, ?_, ?_⟩
      · simp only [hD1]
        exact Lq
      · simp only [hst, hσ1, mkE]
        exact ⟨[_, _, _, _], _, rfl, .inr (.inl rfl), .inl rfl, .inl rfl, .inr (.inl rfl), trivial⟩
  · have hin : i = N := by omega
    subst hin
    rw [hm, hL]
    rcases rCase [.ent (mkE nl sp d1 e1)] 3 2 i 3 104 (sCells L) with ⟨h0, hD, hσ⟩ | ⟨q, hq, hD, hσ⟩
    · have hL0 : L = [] := List.length_eq_zero_iff.1 (by omega)
      subst hL0
      subst h0
      repeat' first | (with_reducible first | refine AWP_seq' ?_ | refine k_normal ?_ | refine k_exit ?_ | refine b_exit ?_ | refine AWP_ret ?_ | refine AWP_exit ?_) | ((with_reducible refine AWP_reg fun KC J hJ hKC => ?_); simp (maxSteps := 10000000) only [push_cast, seval, ↓reduceIte, hlt, hD, hσ, mkE]) | ((with_reducible refine hJ _ _ ?_); clear hJ hKC KC J) | ((with_reducible refine AWP_condF ?_ ?_); · rfl)
      refine ret_keys ?_
      simp (maxSteps := 10000000) only [push_cast, seval, ↓reduceIte, show Tryz.f123.results = #[(.tmp 6)] from rfl]
      exact ⟨rfl, Lq⟩
    · have hcI : chunk 3 (q + 1) (sCells L) = sRow L := by rw [← hq, ← hLl]; exact chunk_s L
      have hlC : (sCells L).length = (q + 1) * 3 := by rw [sCells_length, hLl, hq]
      have hbm : Nat.beq q q = true := Nat.beq_refl q
      simp only [hD, hσ, ek, List.cons_append, List.nil_append, mkE]
      repeat' first | (refine AWP_freezeR 3 3 rfl (by (simp (maxSteps := 10000000) only [push_cast, seval, ↓reduceIte]) <;> rfl) ?_; simp (maxSteps := 10000000) only [push_cast, seval, ↓reduceIte, frSt, frSlot, fr3, fr2, fr1, fr0, sameB, arrOf, hlt, hD, hσ, ek, List.cons_append, List.nil_append, hcI, hlC, hbm, mkE]) | (with_reducible first | refine AWP_seq' ?_ | refine k_normal ?_ | refine k_exit ?_ | refine b_exit ?_ | refine AWP_ret ?_ | refine AWP_exit ?_) | ((with_reducible refine AWP_reg fun KC J hJ hKC => ?_); simp (maxSteps := 10000000) only [push_cast, seval, ↓reduceIte, hlt, hD, hσ, ek, List.cons_append, List.nil_append, hcI, hlC, hbm, mkE]) | ((with_reducible refine hJ _ _ ?_); clear hJ hKC KC J) | ((with_reducible refine AWP_condF ?_ ?_); · rfl)
      refine ret_keys ?_
      simp (maxSteps := 10000000) only [push_cast, seval, ↓reduceIte, show Tryz.f123.results = #[(.tmp 6)] from rfl]
      exact ⟨rfl, Lq⟩
end Go.Proofs.YtabliglgeiajlaaGreat.AM
