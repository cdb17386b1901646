/- Templates: their instructions; programs. -/
import Derived.Test.YtabliglgeiajlaaGreatSA
set_option linter.unusedSimpArgs false
set_option linter.unusedVariables false
namespace Go.Proofs.YtabliglgeiajlaaGreat.AM
open Go Go.RowKit Go.Proofs
set_option maxRecDepth 100000
set_option maxHeartbeats 4000000

theorem addI_len (sp : Sp) (o : Int) (l : List (Int × Int × Int)) (x : Int × Int × Int) : (addI sp o l x).length ≤ l.length + 1 := by unfold addI; split <;> simp
theorem tmplP_len (nl : Int) (sp : Sp) (ops : List Int) (m : M3) : ∀ n, (tmplP nl sp ops n m).2.length ≤ n
  | 0 => Nat.le_refl _
  | n + 1 => Nat.le_trans (addI_len _ _ _ _) (Nat.succ_le_succ (tmplP_len nl sp ops m n))
theorem template_fn (f : Bool) (nl : Int) (sp : Sp) (d : Dr) (n e : Int) (ops : List Int) (hn : nl ≤ 9223372036854775807) (hsp : SpOk sp) (hl : ops.length ≤ 3) (ho : ∀ o ∈ ops, 0 ≤ o ∧ o < 13) :
    Fn (Tryz.prog) 128 [.ptr 0 0 0, .sl f 1 (intRow ops)] [.ent (mkQ nl sp d e)] (.sl false 3 (tRow (tmplP nl sp ops ops.length (d, n, e)).2)) [.ent (mkQ nl sp (tmplP nl sp ops ops.length (d, n, e)).1.1 (tmplP nl sp ops ops.length (d, n, e)).1.2.2)] := by
  have hwl := hsp.wl
  have ek : ∀ d e, [Slot.ent (mkQ nl sp d e)] ++ List.replicate 3 Slot.dead = [.ent (mkQ nl sp d e), .dead, .dead, .dead] := fun d e => rfl
  obtain ⟨b, hB⟩ : ∃ b : M3, (d, n, e) = b := ⟨_, rfl⟩
  have hB1 : d = b.1 := by rw [← hB]
  have hB2 : e = b.2.2 := by rw [← hB]
  rw [hB]
  refine Fn.of (fn := Tryz.f128) (by kernel_rfl) rfl (by kernel_rfl) ⟨[.ptr 0 0 0, .sl f 1 (intRow ops), .v undef, .v undef, .v undef, .v undef, .v undef, .v undef, .v undef, .v undef, .v undef, .v undef, .v undef, .v undef, .v undef, .v undef, .v undef, .v undef, .v undef, .v undef, .v undef, .v undef, .v undef, .v undef, .v undef, .v undef, .v undef, .v undef, .v undef, .v undef, .v undef, .v undef, .v undef, .v undef, .v undef, .v undef, .v undef, .v undef, .v undef, .v undef, .v undef, .v undef, .v undef, .v undef, .v undef, .v undef], [.ent (mkQ nl sp d e)]⟩ rfl ?_
  simp only [mkQ]
  repeat' first | (with_reducible first | refine AWP_seq' ?_ | refine k_normal ?_ | refine AWP_block ?_) | ((with_reducible refine AWP_reg fun KC J hJ hKC => ?_); simp (maxSteps := 10000000) only [push_cast, seval, ↓reduceIte]) | ((with_reducible refine hJ _ _ ?_); clear hJ hKC KC J)
  refine AWP_loopE 1 (γ := {i : Nat // i ≤ ops.length}) (fun i => ⟨[.ptr 0 0 0, .sl f 1 (intRow ops), .any, .any, .any, eR 4 (tmplP nl sp ops i.1 b).2.length, .any, .any, .any, .any, .sl f 1 (intRow ops), .v (.int .i64 ops.length), .v (.int .i64 i.1), .any, .any, .any, .any, .any, .any, .any, .any, .any, .any, .any, .any, .any, .any, .any, .any, .any, .any, .any, .any, .any, .any, .any, .any, .any, .any, .any, .any, .any, .any, .any, .any, .any], σR [.ent (mkQ nl sp (tmplP nl sp ops i.1 b).1.1 (tmplP nl sp ops i.1 b).1.2.2)] 3 (tmplP nl sp ops i.1 b).2.length 3 100 (tCells (tmplP nl sp ops i.1 b).2)⟩) (fun i => ops.length - i.1) ⟨0, by omega⟩ rfl (fun i => σR_le [_] _ _ _ _ _) (fun i => ?_) (fun i => ?_) ⟨?_, ?_⟩ ?_
  · refine clsd_all ?_
    rcases rCase [.ent (mkQ nl sp (tmplP nl sp ops i.1 b).1.1 (tmplP nl sp ops i.1 b).1.2.2)] 4 3 (tmplP nl sp ops i.1 b).2.length 3 100 (tCells (tmplP nl sp ops i.1 b).2) with ⟨_, hD, hσ⟩ | ⟨j, _, hD, hσ⟩
    all_goals
      simp only [hσ, ek, List.cons_append, List.nil_append, List.map_cons, List.map_nil, renSlot, mkQ, ren_tCells]
      rfl
  · rcases rCase [.ent (mkQ nl sp (tmplP nl sp ops i.1 b).1.1 (tmplP nl sp ops i.1 b).1.2.2)] 4 3 (tmplP nl sp ops i.1 b).2.length 3 100 (tCells (tmplP nl sp ops i.1 b).2) with ⟨_, hD, hσ⟩ | ⟨j, _, hD, hσ⟩
    all_goals
      simp only [hD, hσ]
      rfl
  · exact Lq
  · simp only [tmplP, σR]
    subst hB1
    subst hB2
    exact Fq
  rintro ⟨i, hi⟩
  have hLl := tmplP_len nl sp ops b i
  obtain ⟨⟨d1, n1, e1⟩, hm⟩ : ∃ m, (tmplP nl sp ops i b).1 = m := ⟨_, rfl⟩
  obtain ⟨L, hL⟩ : ∃ L, (tmplP nl sp ops i b).2 = L := ⟨_, rfl⟩
  have hst : tmplP nl sp ops (i + 1) b = ((seqIP nl sp (ops.getD i 0) (ops.getD (i + 1) 0) (d1, n1, e1)).1, addI sp (ops.getD i 0) L (seqIP nl sp (ops.getD i 0) (ops.getD (i + 1) 0) (d1, n1, e1)).2) := by simp only [tmplP, hm, hL]
  simp only [hm, hL] at hLl ⊢
  by_cases hlt : (i : Int) < (ops.length : Int)
  · have hi1 : i + 1 ≤ ops.length := by omega
    have hx : ops[i]? = some ops[i] := List.getElem?_eq_getElem (by omega)
    have hoi := ho _ (List.getElem_mem (show i < ops.length by omega))
    obtain ⟨k, hk⟩ : ∃ k : Nat, ops[i] = k := ⟨(ops[i]).toNat, by omega⟩
    rw [hk] at hx hoi
    have hg : ops.getD i 0 = (k : Int) := by rw [List.getD_eq_getElem?_getD, hx]; rfl
    have hwk : sp.ws[k]? = some sp.ws[k] := List.getElem?_eq_getElem (by omega)
    obtain ⟨w, hw0⟩ : ∃ w, sp.ws[k] = w := ⟨_, rfl⟩
    rw [hw0] at hwk
    have hwg : sp.ws.getD (k : Int).toNat 0 = w := by rw [Int.toNat_natCast, List.getD_eq_getElem?_getD, hwk]; rfl
    have wr := wrapN (i := i) (n := ops.length) (by omega) (by omega)
    have h1 := qInstr_fn nl sp d1 n1 e1 k (ops.getD (i + 1) 0) hn hsp.v0 hsp.v1
    obtain ⟨nx, hnx⟩ : ∃ nx, ops.getD (i + 1) 0 = nx := ⟨_, rfl⟩
    rw [hnx] at h1
    rw [hg, hnx] at hst
    obtain ⟨⟨⟨d2, n2, e2⟩, x⟩, hxx⟩ : ∃ r, seqIP nl sp k nx (d1, n1, e1) = r := ⟨_, rfl⟩
    rw [hxx] at h1 hst
    simp only [mkQ] at h1
    unfold addI at hst
    rw [hwg] at hst
    have hσ1 : σR [.ent (mkQ nl sp d2 e2)] 3 (L.length + 1) 3 100 (tCells (L ++ [x])) = [.ent (mkQ nl sp d2 e2), .dead, .dead, .dead, .ent ⟨L.length, some 3, 100, tCells L ++ tCells [x], .cells⟩] := by rw [tCells_app]; rfl
    have hnlt : (((i : Int) + 1 < (ops.length : Int)) ∧ ops[i + 1]? = some nx) ∨ (¬ ((i : Int) + 1 < (ops.length : Int)) ∧ nx = 0) := by
      by_cases h : i + 1 < ops.length
      · exact .inl ⟨by omega, by rw [← hnx, List.getD_eq_getElem?_getD, List.getElem?_eq_getElem h]; rfl⟩
      · exact .inr ⟨by omega, by rw [← hnx, List.getD_eq_getElem?_getD, List.getElem?_eq_none (by omega)]; rfl⟩
    have hcast : ((i : Int) + 1).toNat = i + 1 := by omega
    obtain ⟨wb, hwb⟩ : ∃ b, decide (0 < w) = b := ⟨_, rfl⟩
    rcases hnlt with ⟨hq, hy⟩ | ⟨hq, hy⟩
    · skip
      cases wb
      · rw [if_neg (of_decide_eq_false hwb)] at hst
        have hwf := of_decide_eq_false hwb
        rcases rCase [.ent (mkQ nl sp d1 e1)] 4 3 L.length 3 100 (tCells L) with ⟨h0, hD, hσ⟩ | ⟨q, hq2, hD, hσ⟩
        all_goals
          simp only [hD, hσ]
          repeat' first | (with_reducible first | refine AWP_seq' ?_ | refine k_normal ?_ | refine b_normal ?_ | refine AWP_skip ?_ | refine AWP_block ?_) | ((with_reducible refine AWP_reg fun KC J hJ hKC => ?_); simp (maxSteps := 10000000) only [push_cast, seval, ↓reduceIte, hlt, wr, hq, hcast, getE_intRow hy, getE_intRow hx, getE_intRow hwk, hwf, hwb, ek, List.cons_append, List.nil_append, mkQ, backOf, callSets, renSlot, pick, mOf, idx, ren, ren2, ren1, ren0, ren_tCells]) | ((with_reducible refine And.intro ?_ ?_); · exact Sq) | (refine hKC _ _ _ _ _ (callK [0] h1 rfl rfl rfl (by decide) (by simp) rfl rfl Lq ?_); simp (maxSteps := 10000000) only [push_cast, seval, ↓reduceIte, hlt, wr, hq, hcast, getE_intRow hy, getE_intRow hx, getE_intRow hwk, hwf, hwb, ek, List.cons_append, List.nil_append, mkQ, backOf, callSets, renSlot, pick, mOf, idx, ren, ren2, ren1, ren0, ren_tCells]) | ((with_reducible refine hJ _ _ ?_); clear hJ hKC KC J) | ((with_reducible refine AWP_condT ?_ ?_); · rfl) | ((with_reducible refine AWP_condF ?_ ?_); · rfl)
          refine ⟨⟨_, hi1⟩, by simp only; omega, ?_, ?_⟩
          · simp only [hst, hD]
            exact Lq
          · simp only [hst]
            first | rw [show ∀ d e, σR [Slot.ent (mkQ nl sp d e)] 3 L.length 3 100 (tCells L) = [.ent (mkQ nl sp d e)] from fun d e => if_pos h0] | rw [show ∀ d e, σR [Slot.ent (mkQ nl sp d e)] 3 L.length 3 100 (tCells L) = [.ent (mkQ nl sp d e), .dead, .dead, .dead, .ent ⟨q, some 3, 100, tCells L, .cells⟩] from fun d e => by rw [hq2]; rfl]
            first | exact ⟨[_], _, rfl, .inr (.inl rfl), trivial⟩ | exact ⟨[_, _, _, _, _], _, rfl, .inr (.inl rfl), .inl rfl, .inl rfl, .inl rfl, .inr (.inl rfl), trivial⟩
      · rw [if_pos (of_decide_eq_true hwb)] at hst
        have hwf := of_decide_eq_true hwb
        rcases rCase [.ent (mkQ nl sp d1 e1)] 4 3 L.length 3 100 (tCells L) with ⟨h0, hD, hσ⟩ | ⟨q, hq2, hD, hσ⟩
        · have hL0 : L = [] := List.length_eq_zero_iff.1 h0
          subst hL0
          simp only [hD, hσ]
          repeat' first | (with_reducible first | refine AWP_seq' ?_ | refine k_normal ?_ | refine b_normal ?_ | refine AWP_skip ?_ | refine AWP_block ?_) | ((with_reducible refine AWP_reg fun KC J hJ hKC => ?_); simp (maxSteps := 10000000) only [push_cast, seval, ↓reduceIte, hlt, wr, hq, hcast, getE_intRow hy, getE_intRow hx, getE_intRow hwk, hwf, hwb, mkQ, backOf, callSets, renSlot, pick, mOf, idx, ren, ren2, ren1, ren0]) | ((with_reducible refine And.intro ?_ ?_); · exact Sq) | (refine hKC _ _ _ _ _ (callK [0] h1 rfl rfl rfl (by decide) (by simp) rfl rfl Lq ?_); simp (maxSteps := 10000000) only [push_cast, seval, ↓reduceIte, hlt, wr, hq, hcast, getE_intRow hy, getE_intRow hx, getE_intRow hwk, hwf, hwb, mkQ, backOf, callSets, renSlot, pick, mOf, idx, ren, ren2, ren1, ren0]) | ((with_reducible refine hJ _ _ ?_); clear hJ hKC KC J) | ((with_reducible refine AWP_condT ?_ ?_); · rfl)
          refine ⟨⟨_, hi1⟩, by simp only; omega, ?_, ?_⟩
          · simp only [hst]
            exact Lq
          · simp only [hst, List.length_append, List.length_cons, List.length_nil] at hσ1 ⊢
            simp only [hσ1, mkQ]
            exact ⟨[_, _, _, _, _], _, rfl, .inr (.inl rfl), .inl rfl, .inl rfl, .inl rfl, .inr (.inl rfl), trivial⟩
        · have hlC : (tCells L).length = (q + 1) * 3 := by rw [tCells_length, hq2]
          have htC := take_len hlC
          have hbm : Nat.beq q q = true := Nat.beq_refl q
          simp only [hD, hσ]
          repeat' first | (with_reducible first | refine AWP_seq' ?_ | refine k_normal ?_ | refine b_normal ?_ | refine AWP_skip ?_ | refine AWP_block ?_) | ((with_reducible refine AWP_reg fun KC J hJ hKC => ?_); simp (maxSteps := 10000000) only [push_cast, seval, ↓reduceIte, hlt, wr, hq, hcast, getE_intRow hy, getE_intRow hx, getE_intRow hwk, hwf, hwb, ek, List.cons_append, List.nil_append, hlC, htC, hbm, mkQ, backOf, callSets, renSlot, pick, mOf, idx, ren, ren2, ren1, ren0, ren_tCells]) | ((with_reducible refine And.intro ?_ ?_); · exact Sq) | (refine hKC _ _ _ _ _ (callK [0] h1 rfl rfl rfl (by decide) (by simp) rfl rfl Lq ?_); simp (maxSteps := 10000000) only [push_cast, seval, ↓reduceIte, hlt, wr, hq, hcast, getE_intRow hy, getE_intRow hx, getE_intRow hwk, hwf, hwb, ek, List.cons_append, List.nil_append, hlC, htC, hbm, mkQ, backOf, callSets, renSlot, pick, mOf, idx, ren, ren2, ren1, ren0, ren_tCells]) | ((with_reducible refine hJ _ _ ?_); clear hJ hKC KC J) | ((with_reducible refine AWP_condT ?_ ?_); · rfl)
          rw [hq2] at hσ1
          refine ⟨⟨_, hi1⟩, by simp only; omega, ?_, ?_⟩
          · simp only [hst, List.length_append, List.length_cons, List.length_nil, hq2]
            exact Lq
          · simp only [hst, List.length_append, List.length_cons, List.length_nil, hq2]
            simp only [Nat.zero_add, hσ1, mkQ]
            exact ⟨[_, _, _, _, _], _, rfl, .inr (.inl rfl), .inl rfl, .inl rfl, .inl rfl, .inr (.inl rfl), trivial⟩
    · subst hy
      cases wb
      · rw [if_neg (of_decide_eq_false hwb)] at hst
        have hwf := of_decide_eq_false hwb
        rcases rCase [.ent (mkQ nl sp d1 e1)] 4 3 L.length 3 100 (tCells L) with ⟨h0, hD, hσ⟩ | ⟨q, hq2, hD, hσ⟩
        all_goals
          simp only [hD, hσ]
          repeat' first | (with_reducible first | refine AWP_seq' ?_ | refine k_normal ?_ | refine b_normal ?_ | refine AWP_skip ?_ | refine AWP_block ?_) | ((with_reducible refine AWP_reg fun KC J hJ hKC => ?_); simp (maxSteps := 10000000) only [push_cast, seval, ↓reduceIte, hlt, wr, hq, hcast, getE_intRow hx, getE_intRow hwk, hwf, hwb, ek, List.cons_append, List.nil_append, mkQ, backOf, callSets, renSlot, pick, mOf, idx, ren, ren2, ren1, ren0, ren_tCells]) | ((with_reducible refine And.intro ?_ ?_); · exact Sq) | (refine hKC _ _ _ _ _ (callK [0] h1 rfl rfl rfl (by decide) (by simp) rfl rfl Lq ?_); simp (maxSteps := 10000000) only [push_cast, seval, ↓reduceIte, hlt, wr, hq, hcast, getE_intRow hx, getE_intRow hwk, hwf, hwb, ek, List.cons_append, List.nil_append, mkQ, backOf, callSets, renSlot, pick, mOf, idx, ren, ren2, ren1, ren0, ren_tCells]) | ((with_reducible refine hJ _ _ ?_); clear hJ hKC KC J) | ((with_reducible refine AWP_condT ?_ ?_); · rfl) | ((with_reducible refine AWP_condF ?_ ?_); · rfl)
          refine ⟨⟨_, hi1⟩, by simp only; omega, ?_, ?_⟩
          · simp only [hst, hD]
            exact Lq
          · simp only [hst]
            first | rw [show ∀ d e, σR [Slot.ent (mkQ nl sp d e)] 3 L.length 3 100 (tCells L) = [.ent (mkQ nl sp d e)] from fun d e => if_pos h0] | rw [show ∀ d e, σR [Slot.ent (mkQ nl sp d e)] 3 L.length 3 100 (tCells L) = [.ent (mkQ nl sp d e), .dead, .dead, .dead, .ent ⟨q, some 3, 100, tCells L, .cells⟩] from fun d e => by rw [hq2]; rfl]
            first | exact ⟨[_], _, rfl, .inr (.inl rfl), trivial⟩ | exact ⟨[_, _, _, _, _], _, rfl, .inr (.inl rfl), .inl rfl, .inl rfl, .inl rfl, .inr (.inl rfl), trivial⟩
      · rw [if_pos (of_decide_eq_true hwb)] at hst
        have hwf := of_decide_eq_true hwb
        rcases rCase [.ent (mkQ nl sp d1 e1)] 4 3 L.length 3 100 (tCells L) with ⟨h0, hD, hσ⟩ | ⟨q, hq2, hD, hσ⟩
        · have hL0 : L = [] := List.length_eq_zero_iff.1 h0
          subst hL0
          simp only [hD, hσ]
          repeat' first | (with_reducible first | refine AWP_seq' ?_ | refine k_normal ?_ | refine b_normal ?_ | refine AWP_skip ?_ | refine AWP_block ?_) | ((with_reducible refine AWP_reg fun KC J hJ hKC => ?_); simp (maxSteps := 10000000) only [push_cast, seval, ↓reduceIte, hlt, wr, hq, hcast, getE_intRow hx, getE_intRow hwk, hwf, hwb, mkQ, backOf, callSets, renSlot, pick, mOf, idx, ren, ren2, ren1, ren0]) | ((with_reducible refine And.intro ?_ ?_); · exact Sq) | (refine hKC _ _ _ _ _ (callK [0] h1 rfl rfl rfl (by decide) (by simp) rfl rfl Lq ?_); simp (maxSteps := 10000000) only [push_cast, seval, ↓reduceIte, hlt, wr, hq, hcast, getE_intRow hx, getE_intRow hwk, hwf, hwb, mkQ, backOf, callSets, renSlot, pick, mOf, idx, ren, ren2, ren1, ren0]) | ((with_reducible refine hJ _ _ ?_); clear hJ hKC KC J) | ((with_reducible refine AWP_condT ?_ ?_); · rfl) | ((with_reducible refine AWP_condF ?_ ?_); · rfl)
          refine ⟨⟨_, hi1⟩, by simp only; omega, ?_, ?_⟩
          · simp only [hst]
            exact Lq
          · simp only [hst, List.length_append, List.length_cons, List.length_nil] at hσ1 ⊢
            simp only [hσ1, mkQ]
            exact ⟨[_, _, _, _, _], _, rfl, .inr (.inl rfl), .inl rfl, .inl rfl, .inl rfl, .inr (.inl rfl), trivial⟩
        · have hlC : (tCells L).length = (q + 1) * 3 := by rw [tCells_length, hq2]
          have htC := take_len hlC
          have hbm : Nat.beq q q = true := Nat.beq_refl q
          simp only [hD, hσ]
          repeat' first | (with_reducible first | refine AWP_seq' ?_ | refine k_normal ?_ | refine b_normal ?_ | refine AWP_skip ?_ | refine AWP_block ?_) | ((with_reducible refine AWP_reg fun KC J hJ hKC => ?_); simp (maxSteps := 10000000) only [push_cast, seval, ↓reduceIte, hlt, wr, hq, hcast, getE_intRow hx, getE_intRow hwk, hwf, hwb, ek, List.cons_append, List.nil_append, hlC, htC, hbm, mkQ, backOf, callSets, renSlot, pick, mOf, idx, ren, ren2, ren1, ren0, ren_tCells]) | ((with_reducible refine And.intro ?_ ?_); · exact Sq) | (refine hKC _ _ _ _ _ (callK [0] h1 rfl rfl rfl (by decide) (by simp) rfl rfl Lq ?_); simp (maxSteps := 10000000) only [push_cast, seval, ↓reduceIte, hlt, wr, hq, hcast, getE_intRow hx, getE_intRow hwk, hwf, hwb, ek, List.cons_append, List.nil_append, hlC, htC, hbm, mkQ, backOf, callSets, renSlot, pick, mOf, idx, ren, ren2, ren1, ren0, ren_tCells]) | ((with_reducible refine hJ _ _ ?_); clear hJ hKC KC J) | ((with_reducible refine AWP_condT ?_ ?_); · rfl) | ((with_reducible refine AWP_condF ?_ ?_); · rfl)
          rw [hq2] at hσ1
          refine ⟨⟨_, hi1⟩, by simp only; omega, ?_, ?_⟩
          · simp only [hst, List.length_append, List.length_cons, List.length_nil, hq2]
            exact Lq
          · simp only [hst, List.length_append, List.length_cons, List.length_nil, hq2]
            simp only [Nat.zero_add, hσ1, mkQ]
            exact ⟨[_, _, _, _, _], _, rfl, .inr (.inl rfl), .inl rfl, .inl rfl, .inl rfl, .inr (.inl rfl), trivial⟩
  · have hin : i = ops.length := by omega
    subst hin
    rw [hm, hL]
    rcases rCase [.ent (mkQ nl sp d1 e1)] 4 3 L.length 3 100 (tCells L) with ⟨h0, hD, hσ⟩ | ⟨q, hq, hD, hσ⟩
    · have hL0 : L = [] := List.length_eq_zero_iff.1 h0
      subst hL0
      simp only [hD, hσ]
      repeat' first | (with_reducible first | refine AWP_seq' ?_ | refine k_normal ?_ | refine k_exit ?_ | refine b_exit ?_ | refine AWP_ret ?_ | refine AWP_exit ?_) | ((with_reducible refine AWP_reg fun KC J hJ hKC => ?_); simp (maxSteps := 10000000) only [push_cast, seval, ↓reduceIte, hlt, mkQ]) | ((with_reducible refine hJ _ _ ?_); clear hJ hKC KC J) | ((with_reducible refine AWP_condF ?_ ?_); · rfl)
      refine ret_keys ?_
      simp (maxSteps := 10000000) only [push_cast, seval, ↓reduceIte, show Tryz.f128.results = #[(.tmp 4)] from rfl]
      exact ⟨rfl, Lq⟩
    · have hcI : chunk 3 (q + 1) (tCells L) = tRow L := by rw [← hq]; exact chunk_t L
      have hlC : (tCells L).length = (q + 1) * 3 := by rw [tCells_length, hq]
      have hbm : Nat.beq q q = true := Nat.beq_refl q
      simp only [hD, hσ, ek, List.cons_append, List.nil_append, mkQ]
      repeat' first | (refine AWP_freezeR 3 4 rfl (by (simp (maxSteps := 10000000) only [push_cast, seval, ↓reduceIte]) <;> rfl) ?_; simp (maxSteps := 10000000) only [push_cast, seval, ↓reduceIte, frSt, frSlot, fr3, fr2, fr1, fr0, sameB, arrOf, hlt, hcI, hlC, hbm, mkQ]) | (with_reducible first | refine AWP_seq' ?_ | refine k_normal ?_ | refine k_exit ?_ | refine b_exit ?_ | refine AWP_ret ?_ | refine AWP_exit ?_) | ((with_reducible refine AWP_reg fun KC J hJ hKC => ?_); simp (maxSteps := 10000000) only [push_cast, seval, ↓reduceIte, hlt, hcI, hlC, hbm, mkQ]) | ((with_reducible refine hJ _ _ ?_); clear hJ hKC KC J) | ((with_reducible refine AWP_condF ?_ ?_); · rfl)
      refine ret_keys ?_
      simp (maxSteps := 10000000) only [push_cast, seval, ↓reduceIte, show Tryz.f128.results = #[(.tmp 4)] from rfl]
      exact ⟨rfl, Lq⟩
end Go.Proofs.YtabliglgeiajlaaGreat.AM
