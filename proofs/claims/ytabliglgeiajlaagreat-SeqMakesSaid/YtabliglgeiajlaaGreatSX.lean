/- The reference: programs of templates. -/
import Derived.Test.YtabliglgeiajlaaGreatSR
import Derived.Test.YtabliglgeiajlaaGreatSC
import Derived.Test.YtabliglgeiajlaaGreatHW
set_option linter.unusedSimpArgs false
set_option linter.unusedVariables false
namespace Go.Proofs.YtabliglgeiajlaaGreat.AM
open Go Go.RowKit Go.Proofs
set_option maxRecDepth 100000
set_option maxHeartbeats 8000000

theorem addrB_eq (x : Int) : addrB x = true ↔ x = 5 ∨ x = 6 ∨ x = 7 ∨ x = 9 := by simp [addrB]; omega
theorem rTemplates_fn : Fn Tryz.prog 14 [] [] (.sl true 1 tmplRow) [] := by
  refine Fn.of (fn := Tryz.f14) (by kernel_rfl) rfl (by kernel_rfl) ⟨[.v undef, .v undef, .v undef, .v undef, .v undef, .v undef, .v undef, .v undef, .v undef, .v undef, .v undef, .v undef, .v undef], []⟩ rfl ?_
  repeat' first | (with_reducible first | refine AWP_seq' ?_ | refine k_normal ?_ | refine AWP_ret ?_) | ((with_reducible refine AWP_reg fun KC J hJ hKC => ?_); simp (maxSteps := 10000000) only [push_cast, seval, ↓reduceIte]) | ((with_reducible refine hJ _ _ ?_); clear hJ hKC KC J)
  refine ret_plain ?_
  simp (maxSteps := 10000000) only [push_cast, seval, ↓reduceIte, show Tryz.f14.results = #[(.tmp 0)] from rfl]
  exact leD_refl _
theorem rInstr18_fn (f : Bool) (nl : Int) (m : M3) (sp : Sp) (ops : List Int) (i : Nat) (hn : nl ≤ 9223372036854775807) (hsp : SpOk sp) (hi : i < ops.length) (hl : ops.length ≤ 100) :
    Fn Tryz.prog 136 [.agg (encM m), .v (.int .i64 nl), .agg (spF false sp), .sl f 1 (intRow ops), .v (.int .i64 (i : Int))] []
    (.agg (encM (seqIR nl sp (ops.getD i 0) (ops.getD (i + 1) 0) m).1 ++ [.v (.int .i64 (seqIR nl sp (ops.getD i 0) (ops.getD (i + 1) 0) m).2.1), .v (.int .i64 (seqIR nl sp (ops.getD i 0) (ops.getD (i + 1) 0) m).2.2.1), .v (.int .i64 (seqIR nl sp (ops.getD i 0) (ops.getD (i + 1) 0) m).2.2.2)])) [] := by
  have hv0 := hsp.v0
  have hv1 := hsp.v1
  have hx : ops[i]? = some ops[i] := List.getElem?_eq_getElem hi
  obtain ⟨o, ho⟩ : ∃ o, ops[i] = o := ⟨_, rfl⟩
  rw [ho] at hx
  have hg : ops.getD i 0 = o := by rw [List.getD_eq_getElem?_getD, hx]; rfl
  obtain ⟨nx, hnx⟩ : ∃ nx, ops.getD (i + 1) 0 = nx := ⟨_, rfl⟩
  rw [hg, hnx]
  have wr : IntKind.i64.wrap ((i : Int) + 1) = (i : Int) + 1 := wrapI (by omega) (by omega)
  have hcast : ((i : Int) + 1).toNat = i + 1 := by omega
  have wm : IntKind.i64.wrap (sp.val + 1) = sp.val + 1 := wrapI (by omega) (by omega)
  have hnlt : (((i : Int) + 1 < (ops.length : Int)) ∧ ops[i + 1]? = some nx) ∨ (¬ ((i : Int) + 1 < (ops.length : Int)) ∧ nx = 0) := by
    by_cases h : i + 1 < ops.length
    · exact .inl ⟨by omega, by rw [← hnx, List.getD_eq_getElem?_getD, List.getElem?_eq_getElem h]; rfl⟩
    · exact .inr ⟨by omega, by rw [← hnx, List.getD_eq_getElem?_getD, List.getElem?_eq_none (by omega)]; rfl⟩
  simp only [seqIR]
  clear hg hnx ho
  by_cases e1 : o = 1
  · subst e1
    rw [if_pos rfl]
    have hway : ∀ v : M3, v = seqNR sp nx m → Fn Tryz.prog 135 [.agg (encM v), .v (.int .i64 nl)] [] (.agg (encM (belowR v nl))) [] := fun v _ => rBelow_fn v nl hn
    have hB := rBelow_fn m (sp.val + 1) (by omega)
    have hN := rNumber_fn false m sp
    by_cases hA : addrB nx = true
    · have hv : seqNR sp nx m = belowR m (sp.val + 1) := by unfold seqNR; rw [if_pos hA]
      rw [hv] at hway ⊢
      have h4 := hway _ rfl
      obtain ⟨v, hV⟩ : ∃ v, belowR m (sp.val + 1) = v := ⟨_, rfl⟩
      rw [hV] at h4 hB ⊢
      obtain ⟨t, hT⟩ : ∃ t, belowR v nl = t := ⟨_, rfl⟩
      rw [hT] at h4 ⊢
      rw [addrB_eq] at hA
      simp only [encM, spF, List.cons_append, List.nil_append] at hB h4 ⊢
      rcases hnlt with ⟨hq, hy⟩ | ⟨hq, hy⟩
      · rcases hA with rfl | rfl | rfl | rfl
        all_goals
          refine Fn.of (fn := Tryz.f136) (by kernel_rfl) rfl (by kernel_rfl) ⟨[.agg [.sl false 1 (intRow m.1.l), .v (.int .i64 m.1.a), .sl false 1 (intRow m.1.g), .v (.int .i64 m.2.1), .v (.int .i64 m.2.2)], .v (.int .i64 nl), .agg [.v (.int .i64 sp.code), .v (.int .i64 sp.mem), .v (.int .i64 sp.stack), .v (.int .i64 sp.val), .sl false 1 (intRow sp.ws)], .sl f 1 (intRow ops), .v (.int .i64 (i : Int)), .v undef, .v undef, .v undef, .v undef, .v undef, .v undef, .v undef, .v undef, .v undef, .v undef, .v undef, .v undef, .v undef, .v undef, .v undef, .v undef, .v undef, .v undef, .v undef, .v undef, .v undef, .v undef, .v undef, .v undef, .v undef, .v undef, .v undef, .v undef, .v undef, .v undef, .v undef, .v undef, .v undef, .v undef, .v undef, .v undef, .v undef, .v undef, .v undef, .v undef, .v undef, .v undef, .v undef, .v undef, .v undef, .v undef, .v undef, .v undef, .v undef, .v undef, .v undef, .v undef, .v undef, .v undef, .v undef, .v undef, .v undef, .v undef, .v undef, .v undef, .v undef, .v undef, .v undef, .v undef, .v undef, .v undef, .v undef, .v undef, .v undef, .v undef, .v undef, .v undef, .v undef, .v undef, .v undef, .v undef, .v undef, .v undef, .v undef], []⟩ rfl ?_
          repeat' first | (with_reducible first | refine AWP_seq' ?_ | refine k_normal ?_ | refine AWP_ret ?_ | refine AWP_skip ?_) | ((with_reducible refine AWP_reg fun KC J hJ hKC => ?_); simp (maxSteps := 10000000) only [push_cast, seval, ↓reduceIte, hq, wr, hcast, wm, getE_intRow hx, getE_intRow hy, undef]) | ((with_reducible refine And.intro ?_ ?_); · exact Sq) | (refine hKC _ _ _ _ _ (callV0 (hB) rfl rfl rfl ?_ ?_); (· exact Lq); simp (maxSteps := 10000000) only [push_cast, seval, ↓reduceIte, hq, wr, hcast, wm, getE_intRow hx, getE_intRow hy, undef]) | (refine hKC _ _ _ _ _ (callV0 (h4) rfl rfl rfl ?_ ?_); (· exact Lq); simp (maxSteps := 10000000) only [push_cast, seval, ↓reduceIte, hq, wr, hcast, wm, getE_intRow hx, getE_intRow hy, undef]) | ((with_reducible refine hJ _ _ ?_); clear hJ hKC KC J) | ((with_reducible refine AWP_condT ?_ ?_); · rfl) | ((with_reducible refine AWP_condF ?_ ?_); · rfl)
          refine ret_plain ?_
          simp (maxSteps := 10000000) only [push_cast, seval, ↓reduceIte, show Tryz.f136.results = #[(.cell 10 195)] from rfl]
          exact Lq
      · subst hy; rcases hA with h | h | h | h <;> cases h
    · have hv : seqNR sp nx m = numberR m sp.val := by unfold seqNR; rw [if_neg hA]
      rw [hv] at hway ⊢
      have h4 := hway _ rfl
      obtain ⟨v, hV⟩ : ∃ v, numberR m sp.val = v := ⟨_, rfl⟩
      rw [hV] at h4 hN ⊢
      obtain ⟨t, hT⟩ : ∃ t, belowR v nl = t := ⟨_, rfl⟩
      rw [hT] at h4 ⊢
      rw [addrB_eq] at hA
      have n5 : (nx == 5) = false := by simp; omega
      have n6 : (nx == 6) = false := by simp; omega
      have n7 : (nx == 7) = false := by simp; omega
      have n9 : (nx == 9) = false := by simp; omega
      simp only [encM, spF, List.cons_append, List.nil_append] at hN h4 ⊢
      rcases hnlt with ⟨hq, hy⟩ | ⟨hq, hy⟩
      · refine Fn.of (fn := Tryz.f136) (by kernel_rfl) rfl (by kernel_rfl) ⟨[.agg [.sl false 1 (intRow m.1.l), .v (.int .i64 m.1.a), .sl false 1 (intRow m.1.g), .v (.int .i64 m.2.1), .v (.int .i64 m.2.2)], .v (.int .i64 nl), .agg [.v (.int .i64 sp.code), .v (.int .i64 sp.mem), .v (.int .i64 sp.stack), .v (.int .i64 sp.val), .sl false 1 (intRow sp.ws)], .sl f 1 (intRow ops), .v (.int .i64 (i : Int)), .v undef, .v undef, .v undef, .v undef, .v undef, .v undef, .v undef, .v undef, .v undef, .v undef, .v undef, .v undef, .v undef, .v undef, .v undef, .v undef, .v undef, .v undef, .v undef, .v undef, .v undef, .v undef, .v undef, .v undef, .v undef, .v undef, .v undef, .v undef, .v undef, .v undef, .v undef, .v undef, .v undef, .v undef, .v undef, .v undef, .v undef, .v undef, .v undef, .v undef, .v undef, .v undef, .v undef, .v undef, .v undef, .v undef, .v undef, .v undef, .v undef, .v undef, .v undef, .v undef, .v undef, .v undef, .v undef, .v undef, .v undef, .v undef, .v undef, .v undef, .v undef, .v undef, .v undef, .v undef, .v undef, .v undef, .v undef, .v undef, .v undef, .v undef, .v undef, .v undef, .v undef, .v undef, .v undef, .v undef, .v undef, .v undef, .v undef], []⟩ rfl ?_
        repeat' first | (with_reducible first | refine AWP_seq' ?_ | refine k_normal ?_ | refine AWP_ret ?_ | refine AWP_skip ?_) | ((with_reducible refine AWP_reg fun KC J hJ hKC => ?_); simp (maxSteps := 10000000) only [push_cast, seval, ↓reduceIte, hq, wr, hcast, wm, getE_intRow hx, getE_intRow hy, n5, n6, n7, n9, undef]) | ((with_reducible refine And.intro ?_ ?_); · exact Sq) | (refine hKC _ _ _ _ _ (callV0 (hN) rfl rfl rfl ?_ ?_); (· exact Lq); simp (maxSteps := 10000000) only [push_cast, seval, ↓reduceIte, hq, wr, hcast, wm, getE_intRow hx, getE_intRow hy, n5, n6, n7, n9, undef]) | (refine hKC _ _ _ _ _ (callV0 (h4) rfl rfl rfl ?_ ?_); (· exact Lq); simp (maxSteps := 10000000) only [push_cast, seval, ↓reduceIte, hq, wr, hcast, wm, getE_intRow hx, getE_intRow hy, n5, n6, n7, n9, undef]) | ((with_reducible refine hJ _ _ ?_); clear hJ hKC KC J) | ((with_reducible refine AWP_condT ?_ ?_); · rfl) | ((with_reducible refine AWP_condF ?_ ?_); · rfl)
        refine ret_plain ?_
        simp (maxSteps := 10000000) only [push_cast, seval, ↓reduceIte, show Tryz.f136.results = #[(.cell 10 195)] from rfl]
        exact Lq
      · subst hy
        refine Fn.of (fn := Tryz.f136) (by kernel_rfl) rfl (by kernel_rfl) ⟨[.agg [.sl false 1 (intRow m.1.l), .v (.int .i64 m.1.a), .sl false 1 (intRow m.1.g), .v (.int .i64 m.2.1), .v (.int .i64 m.2.2)], .v (.int .i64 nl), .agg [.v (.int .i64 sp.code), .v (.int .i64 sp.mem), .v (.int .i64 sp.stack), .v (.int .i64 sp.val), .sl false 1 (intRow sp.ws)], .sl f 1 (intRow ops), .v (.int .i64 (i : Int)), .v undef, .v undef, .v undef, .v undef, .v undef, .v undef, .v undef, .v undef, .v undef, .v undef, .v undef, .v undef, .v undef, .v undef, .v undef, .v undef, .v undef, .v undef, .v undef, .v undef, .v undef, .v undef, .v undef, .v undef, .v undef, .v undef, .v undef, .v undef, .v undef, .v undef, .v undef, .v undef, .v undef, .v undef, .v undef, .v undef, .v undef, .v undef, .v undef, .v undef, .v undef, .v undef, .v undef, .v undef, .v undef, .v undef, .v undef, .v undef, .v undef, .v undef, .v undef, .v undef, .v undef, .v undef, .v undef, .v undef, .v undef, .v undef, .v undef, .v undef, .v undef, .v undef, .v undef, .v undef, .v undef, .v undef, .v undef, .v undef, .v undef, .v undef, .v undef, .v undef, .v undef, .v undef, .v undef, .v undef, .v undef, .v undef, .v undef], []⟩ rfl ?_
        repeat' first | (with_reducible first | refine AWP_seq' ?_ | refine k_normal ?_ | refine AWP_ret ?_ | refine AWP_skip ?_) | ((with_reducible refine AWP_reg fun KC J hJ hKC => ?_); simp (maxSteps := 10000000) only [push_cast, seval, ↓reduceIte, hq, wr, hcast, wm, getE_intRow hx, n5, n6, n7, n9, undef]) | ((with_reducible refine And.intro ?_ ?_); · exact Sq) | (refine hKC _ _ _ _ _ (callV0 (hN) rfl rfl rfl ?_ ?_); (· exact Lq); simp (maxSteps := 10000000) only [push_cast, seval, ↓reduceIte, hq, wr, hcast, wm, getE_intRow hx, n5, n6, n7, n9, undef]) | (refine hKC _ _ _ _ _ (callV0 (h4) rfl rfl rfl ?_ ?_); (· exact Lq); simp (maxSteps := 10000000) only [push_cast, seval, ↓reduceIte, hq, wr, hcast, wm, getE_intRow hx, n5, n6, n7, n9, undef]) | ((with_reducible refine hJ _ _ ?_); clear hJ hKC KC J) | ((with_reducible refine AWP_condT ?_ ?_); · rfl) | ((with_reducible refine AWP_condF ?_ ?_); · rfl)
        refine ret_plain ?_
        simp (maxSteps := 10000000) only [push_cast, seval, ↓reduceIte, show Tryz.f136.results = #[(.cell 10 195)] from rfl]
        exact Lq
  have e1' : (o == 1) = false := by simpa using e1
  rw [if_neg e1]
  by_cases e8 : o = 8
  · subst e8
    rw [if_pos rfl]
    have hB := rBelow_fn m 13 (by omega)
    obtain ⟨v, hV⟩ : ∃ v, belowR m 13 = v := ⟨_, rfl⟩
    rw [hV] at hB ⊢
    simp only [encM, spF, List.cons_append, List.nil_append] at hB ⊢
    rcases hnlt with ⟨hq, hy⟩ | ⟨hq, hy⟩
    · refine Fn.of (fn := Tryz.f136) (by kernel_rfl) rfl (by kernel_rfl) ⟨[.agg [.sl false 1 (intRow m.1.l), .v (.int .i64 m.1.a), .sl false 1 (intRow m.1.g), .v (.int .i64 m.2.1), .v (.int .i64 m.2.2)], .v (.int .i64 nl), .agg [.v (.int .i64 sp.code), .v (.int .i64 sp.mem), .v (.int .i64 sp.stack), .v (.int .i64 sp.val), .sl false 1 (intRow sp.ws)], .sl f 1 (intRow ops), .v (.int .i64 (i : Int)), .v undef, .v undef, .v undef, .v undef, .v undef, .v undef, .v undef, .v undef, .v undef, .v undef, .v undef, .v undef, .v undef, .v undef, .v undef, .v undef, .v undef, .v undef, .v undef, .v undef, .v undef, .v undef, .v undef, .v undef, .v undef, .v undef, .v undef, .v undef, .v undef, .v undef, .v undef, .v undef, .v undef, .v undef, .v undef, .v undef, .v undef, .v undef, .v undef, .v undef, .v undef, .v undef, .v undef, .v undef, .v undef, .v undef, .v undef, .v undef, .v undef, .v undef, .v undef, .v undef, .v undef, .v undef, .v undef, .v undef, .v undef, .v undef, .v undef, .v undef, .v undef, .v undef, .v undef, .v undef, .v undef, .v undef, .v undef, .v undef, .v undef, .v undef, .v undef, .v undef, .v undef, .v undef, .v undef, .v undef, .v undef, .v undef, .v undef], []⟩ rfl ?_
      repeat' first | (with_reducible first | refine AWP_seq' ?_ | refine k_normal ?_ | refine AWP_ret ?_ | refine AWP_skip ?_) | ((with_reducible first | refine AWP_reg fun KC J hJ hKC => ?_ | refine AWP_regD rfl fun KC J hJ hKC => ?_); simp (maxSteps := 10000000) only [push_cast, seval, ↓reduceIte, hq, wr, hcast, getE_intRow hx, getE_intRow hy, undef]) | ((with_reducible refine And.intro ?_ ?_); · exact Sq) | (refine hKC _ _ _ _ _ (callV0 (hB) rfl rfl rfl ?_ ?_); (· exact Lq); simp (maxSteps := 10000000) only [push_cast, seval, ↓reduceIte, hq, wr, hcast, getE_intRow hx, getE_intRow hy, undef]) | ((first | with_reducible refine hJ _ _ ?_ | (with_reducible refine hJ _ _ ?_ ?_; · kernel_rfl)); clear hJ hKC KC J) | ((with_reducible refine AWP_condT ?_ ?_); · rfl) | ((with_reducible refine AWP_condF ?_ ?_); · rfl)
      refine ret_plain ?_
      simp (maxSteps := 10000000) only [push_cast, seval, ↓reduceIte, show Tryz.f136.results = #[(.cell 10 195)] from rfl]
      exact Lq
    · refine Fn.of (fn := Tryz.f136) (by kernel_rfl) rfl (by kernel_rfl) ⟨[.agg [.sl false 1 (intRow m.1.l), .v (.int .i64 m.1.a), .sl false 1 (intRow m.1.g), .v (.int .i64 m.2.1), .v (.int .i64 m.2.2)], .v (.int .i64 nl), .agg [.v (.int .i64 sp.code), .v (.int .i64 sp.mem), .v (.int .i64 sp.stack), .v (.int .i64 sp.val), .sl false 1 (intRow sp.ws)], .sl f 1 (intRow ops), .v (.int .i64 (i : Int)), .v undef, .v undef, .v undef, .v undef, .v undef, .v undef, .v undef, .v undef, .v undef, .v undef, .v undef, .v undef, .v undef, .v undef, .v undef, .v undef, .v undef, .v undef, .v undef, .v undef, .v undef, .v undef, .v undef, .v undef, .v undef, .v undef, .v undef, .v undef, .v undef, .v undef, .v undef, .v undef, .v undef, .v undef, .v undef, .v undef, .v undef, .v undef, .v undef, .v undef, .v undef, .v undef, .v undef, .v undef, .v undef, .v undef, .v undef, .v undef, .v undef, .v undef, .v undef, .v undef, .v undef, .v undef, .v undef, .v undef, .v undef, .v undef, .v undef, .v undef, .v undef, .v undef, .v undef, .v undef, .v undef, .v undef, .v undef, .v undef, .v undef, .v undef, .v undef, .v undef, .v undef, .v undef, .v undef, .v undef, .v undef, .v undef, .v undef], []⟩ rfl ?_
      repeat' first | (with_reducible first | refine AWP_seq' ?_ | refine k_normal ?_ | refine AWP_ret ?_ | refine AWP_skip ?_) | ((with_reducible first | refine AWP_reg fun KC J hJ hKC => ?_ | refine AWP_regD rfl fun KC J hJ hKC => ?_); simp (maxSteps := 10000000) only [push_cast, seval, ↓reduceIte, hq, wr, hcast, getE_intRow hx, undef]) | ((with_reducible refine And.intro ?_ ?_); · exact Sq) | (refine hKC _ _ _ _ _ (callV0 (hB) rfl rfl rfl ?_ ?_); (· exact Lq); simp (maxSteps := 10000000) only [push_cast, seval, ↓reduceIte, hq, wr, hcast, getE_intRow hx, undef]) | ((first | with_reducible refine hJ _ _ ?_ | (with_reducible refine hJ _ _ ?_ ?_; · kernel_rfl)); clear hJ hKC KC J) | ((with_reducible refine AWP_condT ?_ ?_); · rfl) | ((with_reducible refine AWP_condF ?_ ?_); · rfl)
      refine ret_plain ?_
      simp (maxSteps := 10000000) only [push_cast, seval, ↓reduceIte, show Tryz.f136.results = #[(.cell 10 195)] from rfl]
      exact Lq
  rw [if_neg e8]
  by_cases e9 : o = 9
  · subst e9
    rw [if_pos rfl]
    have hB := rBelow_fn m 4 (by omega)
    obtain ⟨v, hV⟩ : ∃ v, belowR m 4 = v := ⟨_, rfl⟩
    rw [hV] at hB ⊢
    simp only [encM, spF, List.cons_append, List.nil_append] at hB ⊢
    rcases hnlt with ⟨hq, hy⟩ | ⟨hq, hy⟩
    · refine Fn.of (fn := Tryz.f136) (by kernel_rfl) rfl (by kernel_rfl) ⟨[.agg [.sl false 1 (intRow m.1.l), .v (.int .i64 m.1.a), .sl false 1 (intRow m.1.g), .v (.int .i64 m.2.1), .v (.int .i64 m.2.2)], .v (.int .i64 nl), .agg [.v (.int .i64 sp.code), .v (.int .i64 sp.mem), .v (.int .i64 sp.stack), .v (.int .i64 sp.val), .sl false 1 (intRow sp.ws)], .sl f 1 (intRow ops), .v (.int .i64 (i : Int)), .v undef, .v undef, .v undef, .v undef, .v undef, .v undef, .v undef, .v undef, .v undef, .v undef, .v undef, .v undef, .v undef, .v undef, .v undef, .v undef, .v undef, .v undef, .v undef, .v undef, .v undef, .v undef, .v undef, .v undef, .v undef, .v undef, .v undef, .v undef, .v undef, .v undef, .v undef, .v undef, .v undef, .v undef, .v undef, .v undef, .v undef, .v undef, .v undef, .v undef, .v undef, .v undef, .v undef, .v undef, .v undef, .v undef, .v undef, .v undef, .v undef, .v undef, .v undef, .v undef, .v undef, .v undef, .v undef, .v undef, .v undef, .v undef, .v undef, .v undef, .v undef, .v undef, .v undef, .v undef, .v undef, .v undef, .v undef, .v undef, .v undef, .v undef, .v undef, .v undef, .v undef, .v undef, .v undef, .v undef, .v undef, .v undef, .v undef], []⟩ rfl ?_
      repeat' first | (with_reducible first | refine AWP_seq' ?_ | refine k_normal ?_ | refine AWP_ret ?_ | refine AWP_skip ?_) | ((with_reducible first | refine AWP_reg fun KC J hJ hKC => ?_ | refine AWP_regD rfl fun KC J hJ hKC => ?_); simp (maxSteps := 10000000) only [push_cast, seval, ↓reduceIte, hq, wr, hcast, getE_intRow hx, getE_intRow hy, undef]) | ((with_reducible refine And.intro ?_ ?_); · exact Sq) | (refine hKC _ _ _ _ _ (callV0 (hB) rfl rfl rfl ?_ ?_); (· exact Lq); simp (maxSteps := 10000000) only [push_cast, seval, ↓reduceIte, hq, wr, hcast, getE_intRow hx, getE_intRow hy, undef]) | ((first | with_reducible refine hJ _ _ ?_ | (with_reducible refine hJ _ _ ?_ ?_; · kernel_rfl)); clear hJ hKC KC J) | ((with_reducible refine AWP_condT ?_ ?_); · rfl) | ((with_reducible refine AWP_condF ?_ ?_); · rfl)
      refine ret_plain ?_
      simp (maxSteps := 10000000) only [push_cast, seval, ↓reduceIte, show Tryz.f136.results = #[(.cell 10 195)] from rfl]
      exact Lq
    · refine Fn.of (fn := Tryz.f136) (by kernel_rfl) rfl (by kernel_rfl) ⟨[.agg [.sl false 1 (intRow m.1.l), .v (.int .i64 m.1.a), .sl false 1 (intRow m.1.g), .v (.int .i64 m.2.1), .v (.int .i64 m.2.2)], .v (.int .i64 nl), .agg [.v (.int .i64 sp.code), .v (.int .i64 sp.mem), .v (.int .i64 sp.stack), .v (.int .i64 sp.val), .sl false 1 (intRow sp.ws)], .sl f 1 (intRow ops), .v (.int .i64 (i : Int)), .v undef, .v undef, .v undef, .v undef, .v undef, .v undef, .v undef, .v undef, .v undef, .v undef, .v undef, .v undef, .v undef, .v undef, .v undef, .v undef, .v undef, .v undef, .v undef, .v undef, .v undef, .v undef, .v undef, .v undef, .v undef, .v undef, .v undef, .v undef, .v undef, .v undef, .v undef, .v undef, .v undef, .v undef, .v undef, .v undef, .v undef, .v undef, .v undef, .v undef, .v undef, .v undef, .v undef, .v undef, .v undef, .v undef, .v undef, .v undef, .v undef, .v undef, .v undef, .v undef, .v undef, .v undef, .v undef, .v undef, .v undef, .v undef, .v undef, .v undef, .v undef, .v undef, .v undef, .v undef, .v undef, .v undef, .v undef, .v undef, .v undef, .v undef, .v undef, .v undef, .v undef, .v undef, .v undef, .v undef, .v undef, .v undef, .v undef], []⟩ rfl ?_
      repeat' first | (with_reducible first | refine AWP_seq' ?_ | refine k_normal ?_ | refine AWP_ret ?_ | refine AWP_skip ?_) | ((with_reducible first | refine AWP_reg fun KC J hJ hKC => ?_ | refine AWP_regD rfl fun KC J hJ hKC => ?_); simp (maxSteps := 10000000) only [push_cast, seval, ↓reduceIte, hq, wr, hcast, getE_intRow hx, undef]) | ((with_reducible refine And.intro ?_ ?_); · exact Sq) | (refine hKC _ _ _ _ _ (callV0 (hB) rfl rfl rfl ?_ ?_); (· exact Lq); simp (maxSteps := 10000000) only [push_cast, seval, ↓reduceIte, hq, wr, hcast, getE_intRow hx, undef]) | ((first | with_reducible refine hJ _ _ ?_ | (with_reducible refine hJ _ _ ?_ ?_; · kernel_rfl)); clear hJ hKC KC J) | ((with_reducible refine AWP_condT ?_ ?_); · rfl) | ((with_reducible refine AWP_condF ?_ ?_); · rfl)
      refine ret_plain ?_
      simp (maxSteps := 10000000) only [push_cast, seval, ↓reduceIte, show Tryz.f136.results = #[(.cell 10 195)] from rfl]
      exact Lq
  rw [if_neg e9]
  by_cases e10 : o = 10
  · subst e10
    rw [if_pos rfl]
    have hB := rBelow_fn m 2 (by omega)
    obtain ⟨v, hV⟩ : ∃ v, belowR m 2 = v := ⟨_, rfl⟩
    rw [hV] at hB ⊢
    simp only [encM, spF, List.cons_append, List.nil_append] at hB ⊢
    rcases hnlt with ⟨hq, hy⟩ | ⟨hq, hy⟩
    · refine Fn.of (fn := Tryz.f136) (by kernel_rfl) rfl (by kernel_rfl) ⟨[.agg [.sl false 1 (intRow m.1.l), .v (.int .i64 m.1.a), .sl false 1 (intRow m.1.g), .v (.int .i64 m.2.1), .v (.int .i64 m.2.2)], .v (.int .i64 nl), .agg [.v (.int .i64 sp.code), .v (.int .i64 sp.mem), .v (.int .i64 sp.stack), .v (.int .i64 sp.val), .sl false 1 (intRow sp.ws)], .sl f 1 (intRow ops), .v (.int .i64 (i : Int)), .v undef, .v undef, .v undef, .v undef, .v undef, .v undef, .v undef, .v undef, .v undef, .v undef, .v undef, .v undef, .v undef, .v undef, .v undef, .v undef, .v undef, .v undef, .v undef, .v undef, .v undef, .v undef, .v undef, .v undef, .v undef, .v undef, .v undef, .v undef, .v undef, .v undef, .v undef, .v undef, .v undef, .v undef, .v undef, .v undef, .v undef, .v undef, .v undef, .v undef, .v undef, .v undef, .v undef, .v undef, .v undef, .v undef, .v undef, .v undef, .v undef, .v undef, .v undef, .v undef, .v undef, .v undef, .v undef, .v undef, .v undef, .v undef, .v undef, .v undef, .v undef, .v undef, .v undef, .v undef, .v undef, .v undef, .v undef, .v undef, .v undef, .v undef, .v undef, .v undef, .v undef, .v undef, .v undef, .v undef, .v undef, .v undef, .v undef], []⟩ rfl ?_
      repeat' first | (with_reducible first | refine AWP_seq' ?_ | refine k_normal ?_ | refine AWP_ret ?_ | refine AWP_skip ?_) | ((with_reducible first | refine AWP_reg fun KC J hJ hKC => ?_ | refine AWP_regD rfl fun KC J hJ hKC => ?_); simp (maxSteps := 10000000) only [push_cast, seval, ↓reduceIte, hq, wr, hcast, getE_intRow hx, getE_intRow hy, undef]) | ((with_reducible refine And.intro ?_ ?_); · exact Sq) | (refine hKC _ _ _ _ _ (callV0 (hB) rfl rfl rfl ?_ ?_); (· exact Lq); simp (maxSteps := 10000000) only [push_cast, seval, ↓reduceIte, hq, wr, hcast, getE_intRow hx, getE_intRow hy, undef]) | ((first | with_reducible refine hJ _ _ ?_ | (with_reducible refine hJ _ _ ?_ ?_; · kernel_rfl)); clear hJ hKC KC J) | ((with_reducible refine AWP_condT ?_ ?_); · rfl) | ((with_reducible refine AWP_condF ?_ ?_); · rfl)
      refine ret_plain ?_
      simp (maxSteps := 10000000) only [push_cast, seval, ↓reduceIte, show Tryz.f136.results = #[(.cell 10 195)] from rfl]
      exact Lq
    · refine Fn.of (fn := Tryz.f136) (by kernel_rfl) rfl (by kernel_rfl) ⟨[.agg [.sl false 1 (intRow m.1.l), .v (.int .i64 m.1.a), .sl false 1 (intRow m.1.g), .v (.int .i64 m.2.1), .v (.int .i64 m.2.2)], .v (.int .i64 nl), .agg [.v (.int .i64 sp.code), .v (.int .i64 sp.mem), .v (.int .i64 sp.stack), .v (.int .i64 sp.val), .sl false 1 (intRow sp.ws)], .sl f 1 (intRow ops), .v (.int .i64 (i : Int)), .v undef, .v undef, .v undef, .v undef, .v undef, .v undef, .v undef, .v undef, .v undef, .v undef, .v undef, .v undef, .v undef, .v undef, .v undef, .v undef, .v undef, .v undef, .v undef, .v undef, .v undef, .v undef, .v undef, .v undef, .v undef, .v undef, .v undef, .v undef, .v undef, .v undef, .v undef, .v undef, .v undef, .v undef, .v undef, .v undef, .v undef, .v undef, .v undef, .v undef, .v undef, .v undef, .v undef, .v undef, .v undef, .v undef, .v undef, .v undef, .v undef, .v undef, .v undef, .v undef, .v undef, .v undef, .v undef, .v undef, .v undef, .v undef, .v undef, .v undef, .v undef, .v undef, .v undef, .v undef, .v undef, .v undef, .v undef, .v undef, .v undef, .v undef, .v undef, .v undef, .v undef, .v undef, .v undef, .v undef, .v undef, .v undef, .v undef], []⟩ rfl ?_
      repeat' first | (with_reducible first | refine AWP_seq' ?_ | refine k_normal ?_ | refine AWP_ret ?_ | refine AWP_skip ?_) | ((with_reducible first | refine AWP_reg fun KC J hJ hKC => ?_ | refine AWP_regD rfl fun KC J hJ hKC => ?_); simp (maxSteps := 10000000) only [push_cast, seval, ↓reduceIte, hq, wr, hcast, getE_intRow hx, undef]) | ((with_reducible refine And.intro ?_ ?_); · exact Sq) | (refine hKC _ _ _ _ _ (callV0 (hB) rfl rfl rfl ?_ ?_); (· exact Lq); simp (maxSteps := 10000000) only [push_cast, seval, ↓reduceIte, hq, wr, hcast, getE_intRow hx, undef]) | ((first | with_reducible refine hJ _ _ ?_ | (with_reducible refine hJ _ _ ?_ ?_; · kernel_rfl)); clear hJ hKC KC J) | ((with_reducible refine AWP_condT ?_ ?_); · rfl) | ((with_reducible refine AWP_condF ?_ ?_); · rfl)
      refine ret_plain ?_
      simp (maxSteps := 10000000) only [push_cast, seval, ↓reduceIte, show Tryz.f136.results = #[(.cell 10 195)] from rfl]
      exact Lq
  rw [if_neg e10]
  simp only [encM, spF, List.cons_append, List.nil_append]
  obtain ⟨y, hy1⟩ : ∃ y, decide (8 ≤ o) = y := ⟨_, rfl⟩
  have hz : y = true → decide (o ≤ 10) = false := fun h => by
    rw [h] at hy1
    exact decide_eq_false (by have := of_decide_eq_true hy1; omega)
  cases y
  · skip
    rcases hnlt with ⟨hq, hy⟩ | ⟨hq, hy⟩
    · refine Fn.of (fn := Tryz.f136) (by kernel_rfl) rfl (by kernel_rfl) ⟨[.agg [.sl false 1 (intRow m.1.l), .v (.int .i64 m.1.a), .sl false 1 (intRow m.1.g), .v (.int .i64 m.2.1), .v (.int .i64 m.2.2)], .v (.int .i64 nl), .agg [.v (.int .i64 sp.code), .v (.int .i64 sp.mem), .v (.int .i64 sp.stack), .v (.int .i64 sp.val), .sl false 1 (intRow sp.ws)], .sl f 1 (intRow ops), .v (.int .i64 (i : Int)), .v undef, .v undef, .v undef, .v undef, .v undef, .v undef, .v undef, .v undef, .v undef, .v undef, .v undef, .v undef, .v undef, .v undef, .v undef, .v undef, .v undef, .v undef, .v undef, .v undef, .v undef, .v undef, .v undef, .v undef, .v undef, .v undef, .v undef, .v undef, .v undef, .v undef, .v undef, .v undef, .v undef, .v undef, .v undef, .v undef, .v undef, .v undef, .v undef, .v undef, .v undef, .v undef, .v undef, .v undef, .v undef, .v undef, .v undef, .v undef, .v undef, .v undef, .v undef, .v undef, .v undef, .v undef, .v undef, .v undef, .v undef, .v undef, .v undef, .v undef, .v undef, .v undef, .v undef, .v undef, .v undef, .v undef, .v undef, .v undef, .v undef, .v undef, .v undef, .v undef, .v undef, .v undef, .v undef, .v undef, .v undef, .v undef, .v undef], []⟩ rfl ?_
      repeat' first | (with_reducible first | refine AWP_seq' ?_ | refine k_normal ?_ | refine AWP_ret ?_ | refine AWP_skip ?_) | ((with_reducible refine AWP_reg fun KC J hJ hKC => ?_); simp (maxSteps := 10000000) only [push_cast, seval, ↓reduceIte, hq, wr, hcast, getE_intRow hx, getE_intRow hy, e1', hy1, undef]) | ((with_reducible refine And.intro ?_ ?_); · exact Sq) | ((with_reducible refine hJ _ _ ?_); clear hJ hKC KC J) | ((with_reducible refine AWP_condT ?_ ?_); · rfl) | ((with_reducible refine AWP_condF ?_ ?_); · rfl)
      refine ret_plain ?_
      simp (maxSteps := 10000000) only [push_cast, seval, ↓reduceIte, show Tryz.f136.results = #[(.cell 10 195)] from rfl]
      exact Lq
    · refine Fn.of (fn := Tryz.f136) (by kernel_rfl) rfl (by kernel_rfl) ⟨[.agg [.sl false 1 (intRow m.1.l), .v (.int .i64 m.1.a), .sl false 1 (intRow m.1.g), .v (.int .i64 m.2.1), .v (.int .i64 m.2.2)], .v (.int .i64 nl), .agg [.v (.int .i64 sp.code), .v (.int .i64 sp.mem), .v (.int .i64 sp.stack), .v (.int .i64 sp.val), .sl false 1 (intRow sp.ws)], .sl f 1 (intRow ops), .v (.int .i64 (i : Int)), .v undef, .v undef, .v undef, .v undef, .v undef, .v undef, .v undef, .v undef, .v undef, .v undef, .v undef, .v undef, .v undef, .v undef, .v undef, .v undef, .v undef, .v undef, .v undef, .v undef, .v undef, .v undef, .v undef, .v undef, .v undef, .v undef, .v undef, .v undef, .v undef, .v undef, .v undef, .v undef, .v undef, .v undef, .v undef, .v undef, .v undef, .v undef, .v undef, .v undef, .v undef, .v undef, .v undef, .v undef, .v undef, .v undef, .v undef, .v undef, .v undef, .v undef, .v undef, .v undef, .v undef, .v undef, .v undef, .v undef, .v undef, .v undef, .v undef, .v undef, .v undef, .v undef, .v undef, .v undef, .v undef, .v undef, .v undef, .v undef, .v undef, .v undef, .v undef, .v undef, .v undef, .v undef, .v undef, .v undef, .v undef, .v undef, .v undef], []⟩ rfl ?_
      repeat' first | (with_reducible first | refine AWP_seq' ?_ | refine k_normal ?_ | refine AWP_ret ?_ | refine AWP_skip ?_) | ((with_reducible refine AWP_reg fun KC J hJ hKC => ?_); simp (maxSteps := 10000000) only [push_cast, seval, ↓reduceIte, hq, wr, hcast, getE_intRow hx, e1', hy1, undef]) | ((with_reducible refine And.intro ?_ ?_); · exact Sq) | ((with_reducible refine hJ _ _ ?_); clear hJ hKC KC J) | ((with_reducible refine AWP_condF ?_ ?_); · rfl)
      refine ret_plain ?_
      simp (maxSteps := 10000000) only [push_cast, seval, ↓reduceIte, show Tryz.f136.results = #[(.cell 10 195)] from rfl]
      exact Lq
  · skip
    have hz' := hz rfl
    rcases hnlt with ⟨hq, hy⟩ | ⟨hq, hy⟩
    · refine Fn.of (fn := Tryz.f136) (by kernel_rfl) rfl (by kernel_rfl) ⟨[.agg [.sl false 1 (intRow m.1.l), .v (.int .i64 m.1.a), .sl false 1 (intRow m.1.g), .v (.int .i64 m.2.1), .v (.int .i64 m.2.2)], .v (.int .i64 nl), .agg [.v (.int .i64 sp.code), .v (.int .i64 sp.mem), .v (.int .i64 sp.stack), .v (.int .i64 sp.val), .sl false 1 (intRow sp.ws)], .sl f 1 (intRow ops), .v (.int .i64 (i : Int)), .v undef, .v undef, .v undef, .v undef, .v undef, .v undef, .v undef, .v undef, .v undef, .v undef, .v undef, .v undef, .v undef, .v undef, .v undef, .v undef, .v undef, .v undef, .v undef, .v undef, .v undef, .v undef, .v undef, .v undef, .v undef, .v undef, .v undef, .v undef, .v undef, .v undef, .v undef, .v undef, .v undef, .v undef, .v undef, .v undef, .v undef, .v undef, .v undef, .v undef, .v undef, .v undef, .v undef, .v undef, .v undef, .v undef, .v undef, .v undef, .v undef, .v undef, .v undef, .v undef, .v undef, .v undef, .v undef, .v undef, .v undef, .v undef, .v undef, .v undef, .v undef, .v undef, .v undef, .v undef, .v undef, .v undef, .v undef, .v undef, .v undef, .v undef, .v undef, .v undef, .v undef, .v undef, .v undef, .v undef, .v undef, .v undef, .v undef], []⟩ rfl ?_
      repeat' first | (with_reducible first | refine AWP_seq' ?_ | refine k_normal ?_ | refine AWP_ret ?_ | refine AWP_skip ?_) | ((with_reducible refine AWP_reg fun KC J hJ hKC => ?_); simp (maxSteps := 10000000) only [push_cast, seval, ↓reduceIte, hq, wr, hcast, getE_intRow hx, getE_intRow hy, e1', hy1, hz', undef]) | ((with_reducible refine And.intro ?_ ?_); · exact Sq) | ((with_reducible refine hJ _ _ ?_); clear hJ hKC KC J) | ((with_reducible refine AWP_condT ?_ ?_); · rfl) | ((with_reducible refine AWP_condF ?_ ?_); · rfl)
      refine ret_plain ?_
      simp (maxSteps := 10000000) only [push_cast, seval, ↓reduceIte, show Tryz.f136.results = #[(.cell 10 195)] from rfl]
      exact Lq
    · refine Fn.of (fn := Tryz.f136) (by kernel_rfl) rfl (by kernel_rfl) ⟨[.agg [.sl false 1 (intRow m.1.l), .v (.int .i64 m.1.a), .sl false 1 (intRow m.1.g), .v (.int .i64 m.2.1), .v (.int .i64 m.2.2)], .v (.int .i64 nl), .agg [.v (.int .i64 sp.code), .v (.int .i64 sp.mem), .v (.int .i64 sp.stack), .v (.int .i64 sp.val), .sl false 1 (intRow sp.ws)], .sl f 1 (intRow ops), .v (.int .i64 (i : Int)), .v undef, .v undef, .v undef, .v undef, .v undef, .v undef, .v undef, .v undef, .v undef, .v undef, .v undef, .v undef, .v undef, .v undef, .v undef, .v undef, .v undef, .v undef, .v undef, .v undef, .v undef, .v undef, .v undef, .v undef, .v undef, .v undef, .v undef, .v undef, .v undef, .v undef, .v undef, .v undef, .v undef, .v undef, .v undef, .v undef, .v undef, .v undef, .v undef, .v undef, .v undef, .v undef, .v undef, .v undef, .v undef, .v undef, .v undef, .v undef, .v undef, .v undef, .v undef, .v undef, .v undef, .v undef, .v undef, .v undef, .v undef, .v undef, .v undef, .v undef, .v undef, .v undef, .v undef, .v undef, .v undef, .v undef, .v undef, .v undef, .v undef, .v undef, .v undef, .v undef, .v undef, .v undef, .v undef, .v undef, .v undef, .v undef, .v undef], []⟩ rfl ?_
      repeat' first | (with_reducible first | refine AWP_seq' ?_ | refine k_normal ?_ | refine AWP_ret ?_ | refine AWP_skip ?_) | ((with_reducible refine AWP_reg fun KC J hJ hKC => ?_); simp (maxSteps := 10000000) only [push_cast, seval, ↓reduceIte, hq, wr, hcast, getE_intRow hx, e1', hy1, hz', undef]) | ((with_reducible refine And.intro ?_ ?_); · exact Sq) | ((with_reducible refine hJ _ _ ?_); clear hJ hKC KC J) | ((with_reducible refine AWP_condF ?_ ?_); · rfl)
      refine ret_plain ?_
      simp (maxSteps := 10000000) only [push_cast, seval, ↓reduceIte, show Tryz.f136.results = #[(.cell 10 195)] from rfl]
      exact Lq
/-- A row that grew from an empty one. -/
def eT (k n : Nat) : D := if n = 0 then .sl true 3 [] else .ref k (n - 1) n
theorem tCase (p : List Slot) (k dd n sz ty : Nat) (cs : List D) : (n = 0 ∧ eT k n = .sl true 3 [] ∧ σR p dd n sz ty cs = p) ∨ (∃ j, n = j + 1 ∧ eT k n = .ref k j (j + 1) ∧ σR p dd n sz ty cs = p ++ List.replicate dd .dead ++ [.ent ⟨j, some sz, ty, cs, .cells⟩]) := by
  cases n with
  | zero => exact .inl ⟨rfl, rfl, rfl⟩
  | succ j => exact .inr ⟨j, rfl, rfl, rfl⟩
theorem progR_bad {nl : Int} {sp : Sp} {b : M3} {i : Nat} (h : ¬ (belowR (progR nl sp i b).1 11).2.2 = 0) : ∀ j, progR nl sp (i + 1 + j) b = (belowR (progR nl sp i b).1 11, [])
  | 0 => by show progR nl sp (i + 1) b = _; simp only [progR]; rw [if_neg h]
  | j + 1 => by
    have ih := progR_bad h j
    show progR nl sp ((i + 1 + j) + 1) b = _
    simp only [progR, ih]
    rw [belowR_bad h, if_neg h]
theorem Fn.post {P : Program} {f : Nat} {args : List D} {ext : List Slot} {res res' : D} {out : List Slot} (h : Fn P f args ext res out) (hle : Rle res res') : Fn P f args ext res' out where
  enter := h.enter
  spec := fun N0 ρ w vs hp hs hr => (h.spec N0 ρ w vs hp hs hr).mono fun e w' ⟨v, ρ', he, hp', hr'⟩ => ⟨v, ρ', he, hp', hle _ _ _ _ _ hr'⟩
def flL : List (Int × Int × Int) → Bool
  | [] => true
  | _ => false
theorem tmplR_grow (nl : Int) (sp : Sp) (ops : List Int) (L : List (Int × Int × Int)) : ∀ x m, L.length ≤ (tmplR nl sp ops L x m).2.length
  | 0, m => Nat.le_refl _
  | x + 1, m => by
    have := tmplR_grow nl sp ops L x m
    simp only [tmplR, addR]
    split
    · rw [List.length_append]; omega
    · exact this
theorem tlen_le {n n' sz ty : Nat} (p p' : List Slot) (h : p.length = p'.length) (hn : n ≤ n') (cs cs' : List D) : (σR p 3 n sz ty cs).length ≤ (σR p' 3 n' sz ty cs').length := by
  unfold σR
  by_cases h0 : n = 0
  · rw [if_pos h0]; split
    · omega
    · simp; omega
  · rw [if_neg h0, if_neg (by omega)]; simp; omega
theorem rProgram18_fn (nl : Int) (sp : Sp) (d : Dr) (hn : nl ≤ 9223372036854775807) (hsp : SpOk sp) :
    Fn Tryz.prog 60 [.agg (encM (d, 0, 0)), .v (.int .i64 nl), .agg (spF false sp)] [] (.agg (encM (programR nl sp (d, 0, 0)).1 ++ [.sl (flL (programR nl sp (d, 0, 0)).2) 3 (tRow (programR nl sp (d, 0, 0)).2)])) [] := by
  have hc0 := hsp.c0
  have hc1 := hsp.c1
  have hwl := hsp.wl
  have ht := rTemplates_fn
  have htl := tmplRow_length
  have b1 := rBelow_fn (d, 0, 0) (sp.code + 1) (by omega)
  have hn1 := belowR_num (m := (d, 0, 0)) (b := sp.code + 1) (by omega) rfl
  unfold programR
  obtain ⟨b, hB⟩ : ∃ b, belowR (d, 0, 0) (sp.code + 1) = b := ⟨_, rfl⟩
  rw [hB] at b1 hn1 ⊢
  obtain ⟨N, hN⟩ : ∃ N : Nat, b.2.1.toNat = N := ⟨_, rfl⟩
  rw [hN]
  have hN1 : b.2.1 ≤ 1000 := by omega
  have wm : IntKind.i64.wrap (sp.code + 1) = sp.code + 1 := wrapI (by omega) (by omega)
  have hlen := fun i => programR_len (nl := nl) hc0 i b
  simp only [encM, spF, List.cons_append, List.nil_append] at b1 ⊢
  refine Fn.of (fn := Tryz.f60) (by kernel_rfl) rfl (by kernel_rfl) ⟨[.agg [.sl false 1 (intRow d.l), .v (.int .i64 d.a), .sl false 1 (intRow d.g), .v (.int .i64 0), .v (.int .i64 0)], .v (.int .i64 nl), .agg [.v (.int .i64 sp.code), .v (.int .i64 sp.mem), .v (.int .i64 sp.stack), .v (.int .i64 sp.val), .sl false 1 (intRow sp.ws)], .v undef, .v undef, .v undef, .v undef, .v undef, .v undef, .v undef, .v undef, .v undef, .v undef, .v undef, .v undef, .v undef, .v undef, .v undef, .v undef, .v undef, .v undef, .v undef, .v undef, .v undef, .v undef, .v undef, .v undef, .v undef, .v undef, .v undef, .v undef, .v undef, .v undef, .v undef, .v undef, .v undef, .v undef, .v undef, .v undef, .v undef, .v undef, .v undef, .v undef, .v undef, .v undef, .v undef, .v undef, .v undef, .v undef, .v undef, .v undef, .v undef, .v undef, .v undef, .v undef, .v undef, .v undef, .v undef, .v undef, .v undef, .v undef, .v undef, .v undef, .v undef, .v undef, .v undef, .v undef, .v undef, .v undef, .v undef, .v undef, .v undef, .v undef, .v undef], []⟩ rfl ?_
  repeat' first | (with_reducible first | refine AWP_seq' ?_ | refine k_normal ?_ | refine AWP_block ?_) | ((with_reducible refine AWP_reg fun KC J hJ hKC => ?_); simp (maxSteps := 10000000) only [push_cast, seval, ↓reduceIte, wm]) | (refine hKC _ _ _ _ _ (callV0 (b1) rfl rfl rfl ?_ ?_); (· exact Lq); simp (maxSteps := 10000000) only [push_cast, seval, ↓reduceIte, wm]) | ((with_reducible refine hJ _ _ ?_); clear hJ hKC KC J)
  refine AWP_loopE 3 (γ := {i : Nat // i ≤ N}) (fun i => ⟨[.any, .v (.int .i64 nl), .any, .ptr 0 0 0, .any, .ptr 1 0 0, .ptr 2 0 0, eT 6 (progR nl sp i.1 b).2.length, .v (.int .i64 (b.2.1 - (i.1 : Int))), .any, .any, .any, .any, .any, .any, .any, .any, .any, .any, .any, .any, .any, .any, .any, .any, .any, .any, .any, .any, .any, .any, .any, .any, .any, .any, .any, .any, .any, .any, .any, .any, .any, .any, .any, .any, .any, .any, .any, .any, .any, .any, .any, .any, .any, .any, .any, .any, .any, .any, .any, .any, .any, .any, .any, .any, .any, .any, .any, .any, .any, .any, .any, .any, .any], σR [.ent ⟨0, none, 106, encM (progR nl sp i.1 b).1, .cells⟩, .ent ⟨0, none, 28, spF false sp, .cells⟩, .ent ⟨0, none, 108, [.v (.slice none 0 0), .v (.int .i64 0), .v (.slice none 0 0), .v (.int .i64 0), .v (.int .i64 0), .v (.slice none 0 0)], .cells⟩] 3 (progR nl sp i.1 b).2.length 3 100 (tCells (progR nl sp i.1 b).2)⟩) (fun i => N - i.1) ⟨0, by omega⟩ rfl (fun i => σR_le [_, _, _] _ _ _ _ _) (fun i => ?_) (fun i => ?_) ⟨?_, ?_⟩ ?_
  · refine clsd_all ?_
    rcases tCase [.ent ⟨0, none, 106, encM (progR nl sp i.1 b).1, .cells⟩, .ent ⟨0, none, 28, spF false sp, .cells⟩, .ent ⟨0, none, 108, [.v (.slice none 0 0), .v (.int .i64 0), .v (.slice none 0 0), .v (.int .i64 0), .v (.int .i64 0), .v (.slice none 0 0)], .cells⟩] 6 3 (progR nl sp i.1 b).2.length 3 100 (tCells (progR nl sp i.1 b).2) with ⟨_, hD, hσ⟩ | ⟨j, _, hD, hσ⟩
    all_goals
      simp only [hσ]; simp only [spF, encM, List.cons_append, List.nil_append, List.replicate, List.map_cons, List.map_nil, renSlot, ren_tCells]
      rfl
  · rcases tCase [.ent ⟨0, none, 106, encM (progR nl sp i.1 b).1, .cells⟩, .ent ⟨0, none, 28, spF false sp, .cells⟩, .ent ⟨0, none, 108, [.v (.slice none 0 0), .v (.int .i64 0), .v (.slice none 0 0), .v (.int .i64 0), .v (.int .i64 0), .v (.slice none 0 0)], .cells⟩] 6 3 (progR nl sp i.1 b).2.length 3 100 (tCells (progR nl sp i.1 b).2) with ⟨_, hD, hσ⟩ | ⟨j, _, hD, hσ⟩
    all_goals
      simp only [hD, hσ]
      rfl
  · simp only [show b.2.1 - ((0 : Nat) : Int) = b.2.1 by omega]
    exact Lq
  · exact Fq
  rintro ⟨i, hi⟩
  have hLl := hlen i
  obtain ⟨m0, hm0⟩ : ∃ m, (progR nl sp i b).1 = m := ⟨_, rfl⟩
  obtain ⟨L, hL⟩ : ∃ L, (progR nl sp i b).2 = L := ⟨_, rfl⟩
  have hbad := fun h => progR_bad (nl := nl) (sp := sp) (b := b) (i := i) h
  simp only [hm0, hL] at hLl hbad ⊢
  by_cases hlt : i < N
  · have hgt : (0 < b.2.1 - (i : Int)) := by omega
    have hi1 : i + 1 ≤ N := by omega
    have k1 := rBelow_fn m0 11 (by omega)
    have hst : progR nl sp (i + 1) b = if (belowR m0 11).2.2 = 0 then tmplR nl sp (tmpls.getD (belowR m0 11).2.1.toNat []) L (tmpls.getD (belowR m0 11).2.1.toNat []).length (belowR m0 11) else (belowR m0 11, []) := by simp only [progR, hm0, hL]
    have hnum := fun h : m0.2.2 = 0 => belowR_num (m := m0) (b := 11) (by omega) h
    have hgood := fun h : (belowR m0 11).2.2 = 0 => belowR_good h
    obtain ⟨w, hw⟩ : ∃ w, belowR m0 11 = w := ⟨_, rfl⟩
    rw [hw] at k1 hst hbad hnum hgood
    simp only [encM] at k1
    by_cases he : w.2.2 = 0
    case neg =>
      have he' : (w.2.2 != 0) = true := by simpa using he
      have hfin : progR nl sp N b = (w, []) := by have := hbad he (N - (i + 1)); rwa [show i + 1 + (N - (i + 1)) = N by omega] at this
      rw [hfin]
      simp only [show flL [] = true from rfl, show tRow [] = [] from rfl]
      rcases tCase [.ent ⟨0, none, 106, encM m0, .cells⟩, .ent ⟨0, none, 28, spF false sp, .cells⟩, .ent ⟨0, none, 108, [.v (.slice none 0 0), .v (.int .i64 0), .v (.slice none 0 0), .v (.int .i64 0), .v (.int .i64 0), .v (.slice none 0 0)], .cells⟩] 6 3 L.length 3 100 (tCells L) with ⟨_, hD, hσ⟩ | ⟨j, _, hD, hσ⟩
      all_goals
        simp only [hσ, hD]; simp only [spF, encM, List.cons_append, List.nil_append, List.replicate]
        repeat' first | (with_reducible first | refine AWP_seq' ?_ | refine k_normal ?_ | refine k_ret ?_ | refine b_ret ?_ | refine AWP_ret ?_ | refine AWP_skip ?_ | refine AWP_block ?_) | ((with_reducible refine AWP_reg fun KC J hJ hKC => ?_); simp (maxSteps := 10000000) only [push_cast, seval, ↓reduceIte, hgt, he']) | (refine hKC _ _ _ _ _ (callV0 (k1) rfl rfl rfl ?_ ?_); (· exact Lq); simp (maxSteps := 10000000) only [push_cast, seval, ↓reduceIte, hgt, he']) | ((with_reducible refine hJ _ _ ?_); clear hJ hKC KC J) | ((with_reducible refine AWP_condT ?_ ?_); · rfl)
        refine ret_plain ?_
        simp (maxSteps := 10000000) only [push_cast, seval, ↓reduceIte, show Tryz.f60.results = #[(.cell 6 108)] from rfl]
        exact Lq
    have he' : (w.2.2 != 0) = false := by simpa using he
    rw [if_pos he] at hst
    have hwn := hnum (hgood he)
    obtain ⟨wd, wn, we⟩ := w
    simp only at hwn he he' hst k1
    obtain ⟨k, rfl⟩ : ∃ k : Nat, wn = k := ⟨wn.toNat, by omega⟩
    rw [Int.toNat_natCast] at hst
    have hto := tmpls_ok _ (tmpls_get hwn.1 hwn.2)
    rw [Int.toNat_natCast] at hto
    have hg : getE tmplRow k = [.sl true 1 (intRow (tmpls.getD k []))] := by
      unfold tmplRow
      have hkl : k < tmpls.length := by show k < 11; omega
      rw [List.getD_eq_getElem?_getD, List.getElem?_eq_getElem hkl]
      exact getE_map _ _ _ _ (List.getElem?_eq_getElem hkl)
    obtain ⟨ops, hops⟩ : ∃ o, tmpls.getD k [] = o := ⟨_, rfl⟩
    rw [hops] at hst hto hg
    have hto2 := hto.2.1
    have htlen : ∀ x m, ((tmplR nl sp ops L x m).2.length : Int) ≤ sp.code := fun x => by
      induction x with
      | zero => intro m; exact hLl
      | succ x ih =>
        intro m
        simp only [tmplR, addR]
        have := ih m
        split
        · rename_i h; rw [List.length_append]; simp; omega
        · exact this
    obtain ⟨W, hW⟩ : ∃ W : M3, (wd, (k : Int), we) = W := ⟨_, rfl⟩
    have hW1 : wd = W.1 := by rw [← hW]
    have hW2 : (k : Int) = W.2.1 := by rw [← hW]
    have hW3 : we = W.2.2 := by rw [← hW]
    rw [hW] at hst
    rcases tCase [.ent ⟨0, none, 106, encM m0, .cells⟩, .ent ⟨0, none, 28, spF false sp, .cells⟩, .ent ⟨0, none, 108, [.v (.slice none 0 0), .v (.int .i64 0), .v (.slice none 0 0), .v (.int .i64 0), .v (.int .i64 0), .v (.slice none 0 0)], .cells⟩] 6 3 L.length 3 100 (tCells L) with ⟨h0, hD, hσ⟩ | ⟨q, hq, hD, hσ⟩
    all_goals
      simp only [hσ, hD]
      simp only [spF, encM, List.cons_append, List.nil_append, List.replicate]
      repeat' first | (with_reducible first | refine AWP_seq' ?_ | refine k_normal ?_ | refine AWP_skip ?_ | refine AWP_block ?_) | ((with_reducible first | refine AWP_reg fun KC J hJ hKC => ?_ | refine AWP_regD rfl fun KC J hJ hKC => ?_); simp (maxSteps := 10000000) only [push_cast, seval, ↓reduceIte, hgt, he', htl, hg]) | ((with_reducible refine And.intro ?_ ?_); · exact Sq) | (refine hKC _ _ _ _ _ (callV0 (k1) rfl rfl rfl ?_ ?_); (· exact Lq); simp (maxSteps := 10000000) only [push_cast, seval, ↓reduceIte, hgt, he', htl, hg]) | (refine hKC _ _ _ _ _ (callV0 (ht) rfl rfl rfl ?_ ?_); (· exact Lq); simp (maxSteps := 10000000) only [push_cast, seval, ↓reduceIte, hgt, he', htl, hg]) | ((first | with_reducible refine hJ _ _ ?_ | (with_reducible refine hJ _ _ ?_ ?_; · kernel_rfl)); clear hJ hKC KC J) | ((with_reducible refine AWP_condT ?_ ?_); · rfl) | ((with_reducible refine AWP_condF ?_ ?_); · rfl)
      refine AWP_loopE (σR [.ent ⟨0, none, 106, encM W, .cells⟩, .ent ⟨0, none, 28, spF false sp, .cells⟩, .ent ⟨0, none, 108, [.v (.slice none 0 0), .v (.int .i64 0), .v (.slice none 0 0), .v (.int .i64 0), .v (.int .i64 0), .v (.slice none 0 0)], .cells⟩] 3 L.length 3 100 (tCells L)).length (γ := {x : Nat // x ≤ ops.length}) (fun x => ⟨[.any, .v (.int .i64 nl), .any, .ptr 0 0 0, .any, .ptr 1 0 0, .ptr 2 0 0, eT 6 (tmplR nl sp ops L x.1 W).2.length, .v (.int .i64 (b.2.1 - (i : Int))), .sl true 1 (intRow ops), .any, .any, .any, .any, .any, .any, .any, .any, .any, .any, .any, .any, .any, .any, .any, .any, .any, .any, .any, .any, .any, .any, .any, .any, .any, .any, .sl true 1 (intRow ops), .v (.int .i64 ops.length), .v (.int .i64 x.1), .any, .any, .any, .any, .any, .any, .any, .any, .any, .any, .any, .any, .any, .any, .any, .any, .any, .any, .any, .any, .any, .any, .any, .any, .any, .any, .any, .any, .any, .any, .any, .any, .any, .any, .any], σR [.ent ⟨0, none, 106, encM (tmplR nl sp ops L x.1 W).1, .cells⟩, .ent ⟨0, none, 28, spF false sp, .cells⟩, .ent ⟨0, none, 108, [.v (.slice none 0 0), .v (.int .i64 0), .v (.slice none 0 0), .v (.int .i64 0), .v (.int .i64 0), .v (.slice none 0 0)], .cells⟩] 3 (tmplR nl sp ops L x.1 W).2.length 3 100 (tCells (tmplR nl sp ops L x.1 W).2)⟩) (fun x => ops.length - x.1) ⟨0, by omega⟩ rfl (fun x => ?_) (fun x => ?_) (fun x => ?_) ⟨?_, ?_⟩ ?_
      · exact tlen_le _ _ (by rfl) (tmplR_grow nl sp ops L x.1 W) _ _
      · refine clsd_all ?_
        rcases tCase [.ent ⟨0, none, 106, encM (tmplR nl sp ops L x.1 W).1, .cells⟩, .ent ⟨0, none, 28, spF false sp, .cells⟩, .ent ⟨0, none, 108, [.v (.slice none 0 0), .v (.int .i64 0), .v (.slice none 0 0), .v (.int .i64 0), .v (.int .i64 0), .v (.slice none 0 0)], .cells⟩] 6 3 (tmplR nl sp ops L x.1 W).2.length 3 100 (tCells (tmplR nl sp ops L x.1 W).2) with ⟨_, hD, hσ⟩ | ⟨j, _, hD, hσ⟩
        all_goals
          simp only [hσ]; simp only [spF, encM, List.cons_append, List.nil_append, List.replicate, List.map_cons, List.map_nil, renSlot, ren_tCells]
          rfl
      · rcases tCase [.ent ⟨0, none, 106, encM (tmplR nl sp ops L x.1 W).1, .cells⟩, .ent ⟨0, none, 28, spF false sp, .cells⟩, .ent ⟨0, none, 108, [.v (.slice none 0 0), .v (.int .i64 0), .v (.slice none 0 0), .v (.int .i64 0), .v (.int .i64 0), .v (.slice none 0 0)], .cells⟩] 6 3 (tmplR nl sp ops L x.1 W).2.length 3 100 (tCells (tmplR nl sp ops L x.1 W).2) with ⟨_, hD, hσ⟩ | ⟨j, _, hD, hσ⟩
        all_goals
          simp only [hD, hσ]
          rfl
      · simp only [tmplR, hD]
        exact Lq
      · simp only [tmplR]
        first | rw [show ∀ p : List Slot, σR p 3 L.length 3 100 (tCells L) = p from fun p => if_pos h0] | rw [show ∀ p : List Slot, σR p 3 L.length 3 100 (tCells L) = p ++ [.dead, .dead, .dead, .ent ⟨q, some 3, 100, tCells L, .cells⟩] from fun p => by rw [hq]; simp [σR]]
        subst hW1
        rw [hW2, hW3]
        exact Fq
      clear hD hσ
      rintro ⟨x, hx⟩
      have hTl := htlen x W
      obtain ⟨m1, hm1⟩ : ∃ m, (tmplR nl sp ops L x W).1 = m := ⟨_, rfl⟩
      obtain ⟨T, hT⟩ : ∃ T, (tmplR nl sp ops L x W).2 = T := ⟨_, rfl⟩
      have hst2 : tmplR nl sp ops L (x + 1) W = ((seqIR nl sp (ops.getD x 0) (ops.getD (x + 1) 0) m1).1, addR sp (ops.getD x 0) T (seqIR nl sp (ops.getD x 0) (ops.getD (x + 1) 0) m1).2) := by simp only [tmplR, hm1, hT]
      simp only [hm1, hT] at hTl ⊢
      by_cases hxl : (x : Int) < (ops.length : Int)
      · have hx1 : x + 1 ≤ ops.length := by omega
        have wr := wrapN (i := x) (n := ops.length) (by omega) (by omega)
        have h1 := rInstr18_fn true nl m1 sp ops x hn hsp (by omega) (by omega)
        have hxx : ops[x]? = some ops[x] := List.getElem?_eq_getElem (by omega)
        have hoi := hto.2.2 _ (List.getElem_mem (show x < ops.length by omega))
        obtain ⟨o, ho⟩ : ∃ o : Nat, ops[x] = o := ⟨(ops[x]).toNat, by omega⟩
        rw [ho] at hxx hoi
        have hgx : ops.getD x 0 = (o : Int) := by rw [List.getD_eq_getElem?_getD, hxx]; rfl
        have hwk : sp.ws[o]? = some sp.ws[o] := List.getElem?_eq_getElem (by omega)
        obtain ⟨wt, hwt⟩ : ∃ w, sp.ws[o] = w := ⟨_, rfl⟩
        rw [hwt] at hwk
        have hwg : sp.ws.getD (o : Int).toNat 0 = wt := by rw [Int.toNat_natCast, List.getD_eq_getElem?_getD, hwk]; rfl
        rw [hgx] at h1 hst2
        obtain ⟨⟨m2, y⟩, hy⟩ : ∃ r, seqIR nl sp o (ops.getD (x + 1) 0) m1 = r := ⟨_, rfl⟩
        rw [hy] at h1 hst2
        unfold addR at hst2
        rw [hwg] at hst2
        simp only [encM, spF, List.cons_append, List.nil_append] at h1
        obtain ⟨wb, hwb⟩ : ∃ b, decide (0 < wt) = b := ⟨_, rfl⟩
        obtain ⟨cb, hcb⟩ : ∃ b, decide ((T.length : Int) < sp.code) = b := ⟨_, rfl⟩
        have hσ1 : ∀ q, σR q 3 (T.length + 1) 3 100 (tCells (T ++ [y])) = q ++ [.dead, .dead, .dead, .ent ⟨T.length, some 3, 100, tCells T ++ tCells [y], .cells⟩] := fun q => by rw [tCells_app]; unfold σR; rw [if_neg (by omega)]; simp only [List.replicate, List.append_assoc, List.cons_append, List.nil_append]; rfl
        have hD1 : eT 6 (T.length + 1) = .ref 6 T.length (T.length + 1) := rfl
        rcases tCase [.ent ⟨0, none, 106, encM m1, .cells⟩, .ent ⟨0, none, 28, spF false sp, .cells⟩, .ent ⟨0, none, 108, [.v (.slice none 0 0), .v (.int .i64 0), .v (.slice none 0 0), .v (.int .i64 0), .v (.int .i64 0), .v (.slice none 0 0)], .cells⟩] 6 3 T.length 3 100 (tCells T) with ⟨h0, hD, hσ⟩ | ⟨q, hq, hD, hσ⟩
        · have hT0 : T = [] := List.length_eq_zero_iff.1 h0
          subst hT0
          have hcb' : decide ((0 : Int) < sp.code) = cb := hcb
          cases wb
          case false =>
            rw [if_neg (fun h => of_decide_eq_false hwb h.1)] at hst2
            simp only [hσ, hD]
            repeat' first | (with_reducible first | refine AWP_seq' ?_ | refine k_normal ?_ | refine b_normal ?_ | refine AWP_skip ?_ | refine AWP_block ?_) | ((with_reducible first | refine AWP_reg fun KC J hJ hKC => ?_ | refine AWP_regD rfl fun KC J hJ hKC => ?_); simp (maxSteps := 10000000) only [push_cast, seval, ↓reduceIte, hxl, wr, spF, encM, getE_intRow hxx, getE_intRow hwk, hwb, hcb', undef]) | ((with_reducible refine And.intro ?_ ?_); · exact Sq) | (refine hKC _ _ _ _ _ (callV0 (h1) rfl rfl rfl ?_ ?_); (· exact Lq); simp (maxSteps := 10000000) only [push_cast, seval, ↓reduceIte, hxl, wr, spF, encM, getE_intRow hxx, getE_intRow hwk, hwb, hcb', undef]) | ((first | with_reducible refine hJ _ _ ?_ | (with_reducible refine hJ _ _ ?_ ?_; · kernel_rfl)); clear hJ hKC KC J) | ((with_reducible refine AWP_condT ?_ ?_); · rfl) | ((with_reducible refine AWP_condF ?_ ?_); · rfl)
            refine ⟨⟨_, hx1⟩, by simp only; omega, ?_, ?_⟩
            · simp only [hst2, hD]
              exact Lq
            · simp only [hst2, spF, encM]
              exact ⟨[_, _, _], _, rfl, .inr (.inl rfl), .inr (.inl rfl), .inr (.inl rfl), trivial⟩
          cases cb
          case false =>
            rw [if_neg (fun h => of_decide_eq_false hcb h.2)] at hst2
            simp only [hσ, hD]
            repeat' first | (with_reducible first | refine AWP_seq' ?_ | refine k_normal ?_ | refine b_normal ?_ | refine AWP_skip ?_ | refine AWP_block ?_) | ((with_reducible first | refine AWP_reg fun KC J hJ hKC => ?_ | refine AWP_regD rfl fun KC J hJ hKC => ?_); simp (maxSteps := 10000000) only [push_cast, seval, ↓reduceIte, hxl, wr, spF, encM, getE_intRow hxx, getE_intRow hwk, hwb, hcb', undef]) | ((with_reducible refine And.intro ?_ ?_); · exact Sq) | (refine hKC _ _ _ _ _ (callV0 (h1) rfl rfl rfl ?_ ?_); (· exact Lq); simp (maxSteps := 10000000) only [push_cast, seval, ↓reduceIte, hxl, wr, spF, encM, getE_intRow hxx, getE_intRow hwk, hwb, hcb', undef]) | ((first | with_reducible refine hJ _ _ ?_ | (with_reducible refine hJ _ _ ?_ ?_; · kernel_rfl)); clear hJ hKC KC J) | ((with_reducible refine AWP_condT ?_ ?_); · rfl) | ((with_reducible refine AWP_condF ?_ ?_); · rfl)
            refine ⟨⟨_, hx1⟩, by simp only; omega, ?_, ?_⟩
            · simp only [hst2, hD]
              exact Lq
            · simp only [hst2, spF, encM]
              exact ⟨[_, _, _], _, rfl, .inr (.inl rfl), .inr (.inl rfl), .inr (.inl rfl), trivial⟩
          rw [if_pos ⟨of_decide_eq_true hwb, of_decide_eq_true hcb⟩] at hst2
          simp only [hσ, hD]
          repeat' first | (with_reducible first | refine AWP_seq' ?_ | refine k_normal ?_ | refine b_normal ?_ | refine AWP_skip ?_ | refine AWP_block ?_) | ((with_reducible first | refine AWP_reg fun KC J hJ hKC => ?_ | refine AWP_regD rfl fun KC J hJ hKC => ?_); simp (maxSteps := 10000000) only [push_cast, seval, ↓reduceIte, hxl, wr, spF, encM, getE_intRow hxx, getE_intRow hwk, hwb, hcb', undef]) | ((with_reducible refine And.intro ?_ ?_); · exact Sq) | (refine hKC _ _ _ _ _ (callV0 (h1) rfl rfl rfl ?_ ?_); (· exact Lq); simp (maxSteps := 10000000) only [push_cast, seval, ↓reduceIte, hxl, wr, spF, encM, getE_intRow hxx, getE_intRow hwk, hwb, hcb', undef]) | ((first | with_reducible refine hJ _ _ ?_ | (with_reducible refine hJ _ _ ?_ ?_; · kernel_rfl)); clear hJ hKC KC J) | ((with_reducible refine AWP_condT ?_ ?_); · rfl)
          refine ⟨⟨_, hx1⟩, by simp only; omega, ?_, ?_⟩
          · simp only [hst2]
            exact Lq
          · simp only [hst2]
            exact ⟨[_, _, _, _, _, _, _], _, rfl, .inr (.inl rfl), .inr (.inl rfl), .inr (.inl rfl), .inl rfl, .inl rfl, .inl rfl, .inr (.inl rfl), trivial⟩
        · have hlC : (tCells T).length = (q + 1) * 3 := by rw [tCells_length, hq]
          have htC := take_len hlC
          have hbm : Nat.beq q q = true := Nat.beq_refl q
          have hcb' : decide ((q : Int) + 1 < sp.code) = cb := by rw [← hcb, hq]; exact decide_eq_decide.2 (by omega)
          cases wb
          case false =>
            rw [if_neg (fun h => of_decide_eq_false hwb h.1)] at hst2
            simp only [hσ, hD]
            repeat' first | (with_reducible first | refine AWP_seq' ?_ | refine k_normal ?_ | refine b_normal ?_ | refine AWP_skip ?_ | refine AWP_block ?_) | ((with_reducible first | refine AWP_reg fun KC J hJ hKC => ?_ | refine AWP_regD rfl fun KC J hJ hKC => ?_); simp (maxSteps := 10000000) only [push_cast, seval, ↓reduceIte, hxl, wr, spF, encM, List.cons_append, List.nil_append, List.replicate, getE_intRow hxx, getE_intRow hwk, hwb, hcb', hbm, undef]) | ((with_reducible refine And.intro ?_ ?_); · exact Sq) | (refine hKC _ _ _ _ _ (callV0 (h1) rfl rfl rfl ?_ ?_); (· exact Lq); simp (maxSteps := 10000000) only [push_cast, seval, ↓reduceIte, hxl, wr, spF, encM, List.cons_append, List.nil_append, List.replicate, getE_intRow hxx, getE_intRow hwk, hwb, hcb', hbm, undef]) | ((first | with_reducible refine hJ _ _ ?_ | (with_reducible refine hJ _ _ ?_ ?_; · kernel_rfl)); clear hJ hKC KC J) | ((with_reducible refine AWP_condT ?_ ?_); · rfl) | ((with_reducible refine AWP_condF ?_ ?_); · rfl)
            refine ⟨⟨_, hx1⟩, by simp only; omega, ?_, ?_⟩
            · simp only [hst2, hD]
              exact Lq
            · simp only [hst2]
              rw [show ∀ p : List Slot, σR p 3 T.length 3 100 (tCells T) = p ++ [.dead, .dead, .dead, .ent ⟨q, some 3, 100, tCells T, .cells⟩] from fun p => by rw [hq]; simp [σR]]
              simp only [spF, encM, List.cons_append, List.nil_append]
              exact ⟨[_, _, _, _, _, _, _], _, rfl, .inr (.inl rfl), .inr (.inl rfl), .inr (.inl rfl), .inl rfl, .inl rfl, .inl rfl, .inr (.inl rfl), trivial⟩
          cases cb
          case false =>
            rw [if_neg (fun h => of_decide_eq_false hcb h.2)] at hst2
            simp only [hσ, hD]
            repeat' first | (with_reducible first | refine AWP_seq' ?_ | refine k_normal ?_ | refine b_normal ?_ | refine AWP_skip ?_ | refine AWP_block ?_) | ((with_reducible first | refine AWP_reg fun KC J hJ hKC => ?_ | refine AWP_regD rfl fun KC J hJ hKC => ?_); simp (maxSteps := 10000000) only [push_cast, seval, ↓reduceIte, hxl, wr, spF, encM, List.cons_append, List.nil_append, List.replicate, getE_intRow hxx, getE_intRow hwk, hwb, hcb', hbm, undef]) | ((with_reducible refine And.intro ?_ ?_); · exact Sq) | (refine hKC _ _ _ _ _ (callV0 (h1) rfl rfl rfl ?_ ?_); (· exact Lq); simp (maxSteps := 10000000) only [push_cast, seval, ↓reduceIte, hxl, wr, spF, encM, List.cons_append, List.nil_append, List.replicate, getE_intRow hxx, getE_intRow hwk, hwb, hcb', hbm, undef]) | ((first | with_reducible refine hJ _ _ ?_ | (with_reducible refine hJ _ _ ?_ ?_; · kernel_rfl)); clear hJ hKC KC J) | ((with_reducible refine AWP_condT ?_ ?_); · rfl) | ((with_reducible refine AWP_condF ?_ ?_); · rfl)
            refine ⟨⟨_, hx1⟩, by simp only; omega, ?_, ?_⟩
            · simp only [hst2, hD]
              exact Lq
            · simp only [hst2]
              rw [show ∀ p : List Slot, σR p 3 T.length 3 100 (tCells T) = p ++ [.dead, .dead, .dead, .ent ⟨q, some 3, 100, tCells T, .cells⟩] from fun p => by rw [hq]; simp [σR]]
              simp only [spF, encM, List.cons_append, List.nil_append]
              exact ⟨[_, _, _, _, _, _, _], _, rfl, .inr (.inl rfl), .inr (.inl rfl), .inr (.inl rfl), .inl rfl, .inl rfl, .inl rfl, .inr (.inl rfl), trivial⟩
          rw [if_pos ⟨of_decide_eq_true hwb, of_decide_eq_true hcb⟩] at hst2
          simp only [hσ, hD]
          repeat' first | (with_reducible first | refine AWP_seq' ?_ | refine k_normal ?_ | refine b_normal ?_ | refine AWP_skip ?_ | refine AWP_block ?_) | ((with_reducible first | refine AWP_reg fun KC J hJ hKC => ?_ | refine AWP_regD rfl fun KC J hJ hKC => ?_); simp (maxSteps := 10000000) only [push_cast, seval, ↓reduceIte, hxl, wr, spF, encM, List.cons_append, List.nil_append, List.replicate, getE_intRow hxx, getE_intRow hwk, hwb, hcb', hbm, hlC, htC, undef]) | ((with_reducible refine And.intro ?_ ?_); · exact Sq) | (refine hKC _ _ _ _ _ (callV0 (h1) rfl rfl rfl ?_ ?_); (· exact Lq); simp (maxSteps := 10000000) only [push_cast, seval, ↓reduceIte, hxl, wr, spF, encM, List.cons_append, List.nil_append, List.replicate, getE_intRow hxx, getE_intRow hwk, hwb, hcb', hbm, hlC, htC, undef]) | ((first | with_reducible refine hJ _ _ ?_ | (with_reducible refine hJ _ _ ?_ ?_; · kernel_rfl)); clear hJ hKC KC J) | ((with_reducible refine AWP_condT ?_ ?_); · rfl)
          rw [hq] at hσ1
          refine ⟨⟨_, hx1⟩, by simp only; omega, ?_, ?_⟩
          · simp only [hst2, List.length_append, List.length_cons, List.length_nil, hq]
            exact Lq
          · simp only [hst2, List.length_append, List.length_cons, List.length_nil, hq]
            simp only [Nat.zero_add, hσ1, spF, encM, List.cons_append, List.nil_append]
            exact ⟨[_, _, _, _, _, _, _], _, rfl, .inr (.inl rfl), .inr (.inl rfl), .inr (.inl rfl), .inl rfl, .inl rfl, .inl rfl, .inr (.inl rfl), trivial⟩
      · have hxe : x = ops.length := by omega
        subst hxe
        have hfin : progR nl sp (i + 1) b = (m1, T) := by rw [hst, ← hm1, ← hT]
        rcases tCase [.ent ⟨0, none, 106, encM m1, .cells⟩, .ent ⟨0, none, 28, spF false sp, .cells⟩, .ent ⟨0, none, 108, [.v (.slice none 0 0), .v (.int .i64 0), .v (.slice none 0 0), .v (.int .i64 0), .v (.int .i64 0), .v (.slice none 0 0)], .cells⟩] 6 3 T.length 3 100 (tCells T) with ⟨h0', hD, hσ⟩ | ⟨q', hq', hD, hσ⟩
        all_goals
          simp only [hσ, hD]
          repeat' first | (with_reducible first | refine AWP_seq' ?_ | refine k_normal ?_ | refine k_exit ?_ | refine b_normal ?_ | refine b_exit ?_ | refine AWP_exit ?_) | ((with_reducible refine AWP_reg fun KC J hJ hKC => ?_); simp (maxSteps := 10000000) only [push_cast, seval, ↓reduceIte, hxl, spF, encM, List.cons_append, List.nil_append, List.replicate, wrapDown hgt hN1]) | ((with_reducible refine hJ _ _ ?_); clear hJ hKC KC J) | ((with_reducible refine AWP_condF ?_ ?_); · rfl)
          refine ⟨⟨_, hi1⟩, by simp only; omega, ?_, ?_⟩
          · simp only [hfin, hD]
            exact Lq
          · simp only [hfin]
            first | rw [show ∀ p : List Slot, σR p 3 T.length 3 100 (tCells T) = p from fun p => if_pos h0'] | rw [show ∀ p : List Slot, σR p 3 T.length 3 100 (tCells T) = p ++ [.dead, .dead, .dead, .ent ⟨q', some 3, 100, tCells T, .cells⟩] from fun p => by rw [hq']; simp [σR]]
            exact ⟨_, [], (List.append_nil _).symm, leS_refl _⟩
  · have hgt : ¬ (0 < b.2.1 - (i : Int)) := by omega
    have hin : i = N := by omega
    subst hin
    rw [hm0, hL]
    rcases tCase [.ent ⟨0, none, 106, encM m0, .cells⟩, .ent ⟨0, none, 28, spF false sp, .cells⟩, .ent ⟨0, none, 108, [.v (.slice none 0 0), .v (.int .i64 0), .v (.slice none 0 0), .v (.int .i64 0), .v (.int .i64 0), .v (.slice none 0 0)], .cells⟩] 6 3 L.length 3 100 (tCells L) with ⟨h0, hD, hσ⟩ | ⟨q, hq, hD, hσ⟩
    · have hL0 : L = [] := List.length_eq_zero_iff.1 h0
      subst hL0
      rw [show flL [] = true from rfl, show tRow [] = [] from rfl]
      simp only [hσ, hD]
      simp only [spF, encM]
      repeat' first | (with_reducible first | refine AWP_seq' ?_ | refine k_normal ?_ | refine k_exit ?_ | refine b_exit ?_ | refine AWP_ret ?_ | refine AWP_exit ?_) | ((with_reducible refine AWP_reg fun KC J hJ hKC => ?_); simp (maxSteps := 10000000) only [push_cast, seval, ↓reduceIte, hgt]) | ((with_reducible refine hJ _ _ ?_); clear hJ hKC KC J) | ((with_reducible refine AWP_condF ?_ ?_); · rfl)
      refine ret_plain ?_
      simp (maxSteps := 10000000) only [push_cast, seval, ↓reduceIte, show Tryz.f60.results = #[(.cell 6 108)] from rfl]
      exact Lq
    · have hcI : chunk 3 (q + 1) (tCells L) = tRow L := by rw [← hq]; exact chunk_t L
      have hlC : (tCells L).length = (q + 1) * 3 := by rw [tCells_length, hq]
      have hbm : Nat.beq q q = true := Nat.beq_refl q
      have hfl : flL L = false := by
        cases L with
        | nil => cases hq
        | cons _ _ => rfl
      rw [hfl]
      simp only [hσ, hD]
      simp only [spF, encM, List.cons_append, List.nil_append, List.replicate]
      repeat' first | (refine AWP_freezeR 4 6 rfl (by (simp (maxSteps := 10000000) only [push_cast, seval, ↓reduceIte]) <;> rfl) ?_; simp (maxSteps := 10000000) only [push_cast, seval, ↓reduceIte, frSt, frSlot, fr3, fr2, fr1, fr0, sameB, arrOf, hgt, hcI, hlC, hbm]) | (with_reducible first | refine AWP_seq' ?_ | refine k_normal ?_ | refine k_exit ?_ | refine b_exit ?_ | refine AWP_ret ?_ | refine AWP_exit ?_) | ((with_reducible refine AWP_reg fun KC J hJ hKC => ?_); simp (maxSteps := 10000000) only [push_cast, seval, ↓reduceIte, hgt, hcI, hlC, hbm]) | ((with_reducible refine hJ _ _ ?_); clear hJ hKC KC J) | ((with_reducible refine AWP_condF ?_ ?_); · rfl)
      refine ret_plain ?_
      simp (maxSteps := 10000000) only [push_cast, seval, ↓reduceIte, show Tryz.f60.results = #[(.cell 6 108)] from rfl]
      exact Lq
end Go.Proofs.YtabliglgeiajlaaGreat.AM
