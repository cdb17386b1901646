/- seq.State. -/
import Derived.Test.YtabliglgeiajlaaGreatSC
import Derived.Test.YtabliglgeiajlaaGreatHV
import Derived.Test.YtabliglgeiajlaaGreatHH
set_option linter.unusedSimpArgs false
set_option linter.unusedVariables false
namespace Go.Proofs.YtabliglgeiajlaaGreat.AM
open Go Go.RowKit Go.Proofs
set_option maxRecDepth 100000
set_option maxHeartbeats 4000000

theorem run_right {α : Type} (c : Cp α) {d d' : Dr} {x : α} (h : c.run d = .ok (d', x)) (hr : rightB d.l d.g d.a = true) : rightB d'.l d'.g d'.a = true := by
  induction c generalizing d with
  | ret z => simp only [Cp.run, Except.ok.injEq, Prod.mk.injEq] at h; rw [← h.1]; exact hr
  | bad e => simp [Cp.run] at h
  | take b k ih =>
    simp only [Cp.run] at h
    split at h
    · rename_i h0
      refine ih _ h ?_
      obtain ⟨_, _, h3, _, _, h4, _⟩ := Cp.takeF_ok h0
      rw [h4]
      simp only [rightB, Bool.and_eq_true, decide_eq_true_eq, List.length_append, List.length_cons, List.length_nil] at hr ⊢
      refine ⟨⟨hr.1.1, by omega⟩, ?_⟩
      split <;> omega
    · cases h
def seqF (ns : List ByteArray) (us : List Nat) (sp : Sp) (d : Dr) : Dr × Sta × Int :=
  if mayG ns us sp = 0 then if rightB d.l d.g d.a = true then endF Sta.z ((seqC us.length sp).run d) else (Dr.z, Sta.z, 1) else (Dr.z, Sta.z, mayG ns us sp)
theorem mayG_sp {ns : List ByteArray} {us : List Nat} {sp : Sp} (hm : mayG ns us sp = 0) : checkF ns us = 0 ∧ SpOk sp := by
  unfold mayG at hm
  split at hm
  · rename_i hc
    split at hm
    · rename_i hsp; exact ⟨hc, spB_iff.1 hsp⟩
    · cases hm
  · rename_i hc; exact absurd hm hc
theorem mayG_of {ns : List ByteArray} {us : List Nat} {sp : Sp} (hc : checkF ns us = 0) (h : SpOk sp) : mayG ns us sp = 0 := by
  unfold mayG; rw [if_pos hc, if_pos (spB_iff.2 h)]
theorem seqState_fn (f g : Bool) (ns : List ByteArray) (us : List Nat) (sp : Sp) (d : Dr) (hs : Szs ns) (hu : U32 us) (hw : sp.ws.length ≤ 1000) :
    Fn Tryz.prog 12 [.agg [.sl f 1 (strRow ns), .sl g 1 (u32Row us)], .agg (spF false sp), encDr false false d] [] (.tup [encDr false false (seqF ns us sp d).1, .agg (staF false false false false (seqF ns us sp d).2.1), .v (.int .i64 (seqF ns us sp d).2.2)]) [] := by
  have h1 := genHas_fn f g false ns us sp Sta.z hs hu hw ⟨by decide, by decide, by decide, by decide⟩
  have h2 := drRight_fn false false d.l d.g d.a
  unfold seqF
  obtain ⟨m, hm⟩ : ∃ m, mayG ns us sp = m := ⟨_, rfl⟩
  obtain ⟨r, hr⟩ : ∃ r, rightB d.l d.g d.a = r := ⟨_, rfl⟩
  obtain ⟨hf, hhf⟩ : ∃ hf, hasF ns us sp Sta.z = hf := ⟨_, rfl⟩
  rw [hm, hhf] at h1
  rw [hm]
  rw [hr] at h2 ⊢
  simp only [spF, encDr, staF, Sta.z] at h1 h2 ⊢
  by_cases h0 : m = 0
  case neg =>
    have h0' : (m != 0) = true := by simpa using h0
    rw [if_neg h0]
    refine Fn.of (fn := Tryz.f12) (by kernel_rfl) rfl (by kernel_rfl) ⟨[.agg [.sl f 1 (strRow ns), .sl g 1 (u32Row us)], .agg [.v (.int .i64 sp.code), .v (.int .i64 sp.mem), .v (.int .i64 sp.stack), .v (.int .i64 sp.val), .sl false 1 (intRow sp.ws)], .agg [.sl false 1 (intRow d.l), .v (.int .i64 d.a), .sl false 1 (intRow d.g)], .v undef, .v undef, .v undef, .v undef, .v undef, .v undef, .v undef, .v undef, .v undef, .v undef, .v undef, .v undef, .v undef, .v undef, .v undef, .v undef, .v undef, .v undef, .v undef, .v undef, .v undef, .v undef, .v undef, .v undef, .v undef, .v undef, .v undef, .v undef, .v undef, .v undef, .v undef, .v undef, .v undef, .v undef, .v undef, .v undef, .v undef, .v undef, .v undef, .v undef, .v undef, .v undef, .v undef, .v undef, .v undef, .v undef, .v undef, .v undef, .v undef, .v undef, .v undef, .v undef, .v undef, .v undef, .v undef, .v undef, .v undef, .v undef, .v undef, .v undef, .v undef, .v undef, .v undef, .v undef, .v undef, .v undef, .v undef, .v undef, .v undef, .v undef, .v undef, .v undef], []⟩ rfl ?_
    repeat' first | (with_reducible first | refine AWP_seq' ?_ | refine k_normal ?_ | refine k_ret ?_ | refine AWP_ret ?_) | ((with_reducible refine AWP_reg fun KC J hJ hKC => ?_); simp (maxSteps := 10000000) only [push_cast, seval, ↓reduceIte, h0']) | (refine hKC _ _ _ _ _ (callV0 (h1) rfl rfl rfl ?_ ?_); (· exact Lq); simp (maxSteps := 10000000) only [push_cast, seval, ↓reduceIte, h0']) | ((with_reducible refine hJ _ _ ?_); clear hJ hKC KC J) | ((with_reducible refine AWP_condT ?_ ?_); · rfl)
    refine ret_plain ?_
    simp (maxSteps := 10000000) only [push_cast, seval, ↓reduceIte, show Tryz.f12.results = #[(.cell 6 30), (.cell 7 39), (.tmp 8)] from rfl]
    exact Lq
  subst h0
  have hul := us_of_may (mayG_sp hm).1
  have hsp := (mayG_sp hm).2
  cases r
  case false =>
    refine Fn.of (fn := Tryz.f12) (by kernel_rfl) rfl (by kernel_rfl) ⟨[.agg [.sl f 1 (strRow ns), .sl g 1 (u32Row us)], .agg [.v (.int .i64 sp.code), .v (.int .i64 sp.mem), .v (.int .i64 sp.stack), .v (.int .i64 sp.val), .sl false 1 (intRow sp.ws)], .agg [.sl false 1 (intRow d.l), .v (.int .i64 d.a), .sl false 1 (intRow d.g)], .v undef, .v undef, .v undef, .v undef, .v undef, .v undef, .v undef, .v undef, .v undef, .v undef, .v undef, .v undef, .v undef, .v undef, .v undef, .v undef, .v undef, .v undef, .v undef, .v undef, .v undef, .v undef, .v undef, .v undef, .v undef, .v undef, .v undef, .v undef, .v undef, .v undef, .v undef, .v undef, .v undef, .v undef, .v undef, .v undef, .v undef, .v undef, .v undef, .v undef, .v undef, .v undef, .v undef, .v undef, .v undef, .v undef, .v undef, .v undef, .v undef, .v undef, .v undef, .v undef, .v undef, .v undef, .v undef, .v undef, .v undef, .v undef, .v undef, .v undef, .v undef, .v undef, .v undef, .v undef, .v undef, .v undef, .v undef, .v undef, .v undef, .v undef, .v undef, .v undef], []⟩ rfl ?_
    repeat' first | (with_reducible first | refine AWP_seq' ?_ | refine k_normal ?_ | refine k_ret ?_ | refine AWP_ret ?_ | refine AWP_skip ?_) | ((with_reducible refine AWP_reg fun KC J hJ hKC => ?_); simp (maxSteps := 10000000) only [push_cast, seval, ↓reduceIte, bne_self_eq_false]) | (refine hKC _ _ _ _ _ (callV0 (h1) rfl rfl rfl ?_ ?_); (· exact Lq); simp (maxSteps := 10000000) only [push_cast, seval, ↓reduceIte, bne_self_eq_false]) | (refine hKC _ _ _ _ _ (callV0 (h2) rfl rfl rfl ?_ ?_); (· exact Lq); simp (maxSteps := 10000000) only [push_cast, seval, ↓reduceIte, bne_self_eq_false]) | ((with_reducible refine hJ _ _ ?_); clear hJ hKC KC J) | ((with_reducible refine AWP_condT ?_ ?_); · rfl) | ((with_reducible refine AWP_condF ?_ ?_); · rfl)
    refine ret_plain ?_
    simp (maxSteps := 10000000) only [push_cast, seval, ↓reduceIte, show Tryz.f12.results = #[(.cell 6 30), (.cell 7 39), (.tmp 8)] from rfl]
    exact Lq
  rw [if_pos rfl, if_pos rfl]
  have k1 := program_fn us.length sp d 0 0 (by omega) hsp
  have hp := (is_program us.length sp).1 d 0
  unfold seqC
  rw [Cp.run_bind]
  cases hrun : (programC us.length sp).run d with
  | error e =>
    rw [hrun] at hp
    obtain ⟨he, hpe⟩ := hp
    have he' : (e != 0) = true := by simpa using he
    obtain ⟨⟨⟨d1, n1, e1⟩, c⟩, hc⟩ : ∃ x, programP us.length sp (d, 0, 0) = x := ⟨_, rfl⟩
    rw [hc] at k1 hpe
    simp only at hpe
    subst hpe
    simp only [mkQ, endF] at k1 ⊢
    refine Fn.of (fn := Tryz.f12) (by kernel_rfl) rfl (by kernel_rfl) ⟨[.agg [.sl f 1 (strRow ns), .sl g 1 (u32Row us)], .agg [.v (.int .i64 sp.code), .v (.int .i64 sp.mem), .v (.int .i64 sp.stack), .v (.int .i64 sp.val), .sl false 1 (intRow sp.ws)], .agg [.sl false 1 (intRow d.l), .v (.int .i64 d.a), .sl false 1 (intRow d.g)], .v undef, .v undef, .v undef, .v undef, .v undef, .v undef, .v undef, .v undef, .v undef, .v undef, .v undef, .v undef, .v undef, .v undef, .v undef, .v undef, .v undef, .v undef, .v undef, .v undef, .v undef, .v undef, .v undef, .v undef, .v undef, .v undef, .v undef, .v undef, .v undef, .v undef, .v undef, .v undef, .v undef, .v undef, .v undef, .v undef, .v undef, .v undef, .v undef, .v undef, .v undef, .v undef, .v undef, .v undef, .v undef, .v undef, .v undef, .v undef, .v undef, .v undef, .v undef, .v undef, .v undef, .v undef, .v undef, .v undef, .v undef, .v undef, .v undef, .v undef, .v undef, .v undef, .v undef, .v undef, .v undef, .v undef, .v undef, .v undef, .v undef, .v undef, .v undef, .v undef], []⟩ rfl ?_
    repeat' first | (with_reducible first | refine AWP_seq' ?_ | refine k_normal ?_ | refine k_ret ?_ | refine AWP_ret ?_ | refine AWP_skip ?_) | ((with_reducible first | refine AWP_reg fun KC J hJ hKC => ?_ | refine AWP_regD rfl fun KC J hJ hKC => ?_); simp (maxSteps := 10000000) only [push_cast, seval, ↓reduceIte, bne_self_eq_false, he', backOf, callSets, renSlot, pick, mOf, idx, ren, ren2, ren1, ren0]) | (refine hKC _ _ _ _ _ (callK [8] k1 rfl rfl rfl (by decide) (by simp) rfl rfl Lq ?_); simp (maxSteps := 10000000) only [push_cast, seval, ↓reduceIte, bne_self_eq_false, he', backOf, callSets, renSlot, pick, mOf, idx, ren, ren2, ren1, ren0]) | (refine hKC _ _ _ _ _ (callV0 (h1) rfl rfl rfl ?_ ?_); (· exact Lq); simp (maxSteps := 10000000) only [push_cast, seval, ↓reduceIte, bne_self_eq_false, he', backOf, callSets, renSlot, pick, mOf, idx, ren, ren2, ren1, ren0]) | (refine hKC _ _ _ _ _ (callV0 (h2) rfl rfl rfl ?_ ?_); (· exact Lq); simp (maxSteps := 10000000) only [push_cast, seval, ↓reduceIte, bne_self_eq_false, he', backOf, callSets, renSlot, pick, mOf, idx, ren, ren2, ren1, ren0]) | ((first | with_reducible refine hJ _ _ ?_ | (with_reducible refine hJ _ _ ?_ ?_; · kernel_rfl)); clear hJ hKC KC J) | ((with_reducible refine AWP_condT ?_ ?_); · rfl) | ((with_reducible refine AWP_condF ?_ ?_); · rfl)
    refine ret_plain ?_
    simp (maxSteps := 10000000) only [push_cast, seval, ↓reduceIte, show Tryz.f12.results = #[(.cell 6 30), (.cell 7 39), (.tmp 8)] from rfl]
    exact Lq
  | ok x =>
    obtain ⟨d1, c⟩ := x
    rw [hrun] at hp
    obtain ⟨n1, hc⟩ := hp
    rw [hc] at k1
    have hr1 := run_right _ hrun hr
    have k2 := genState_fn f g ns us (sp0 sp) d1 hs hu hw
    have hg : genF ns us (sp0 sp) d1 = endF Sta.z ((genC us.length (sp0 sp)).run d1) := by
      unfold genF; rw [if_pos (mayG_of (mayG_sp hm).1 (sp0_ok hsp)), if_pos hr1]
    have he : endF ⟨0, 0, [], [], [], []⟩ (match (Except.ok (d1, c) : Except Int (Dr × List (Int × Int × Int))) with | .ok (d', x) => ((genC us.length (sp0 sp)).bind fun s => Cp.ret { s with code := x }).run d' | .error e => .error e) =
        if (genF ns us (sp0 sp) d1).2.2 = 0 then ((genF ns us (sp0 sp) d1).1, { (genF ns us (sp0 sp) d1).2.1 with code := c }, 0) else (Dr.z, ⟨0, 0, [], [], [], []⟩, (genF ns us (sp0 sp) d1).2.2) := by
      simp only [Cp.run_bind]
      have hgi := (is_gen us.length (sp0 sp)).1 d1 0
      rw [hg]
      cases hgr : (genC us.length (sp0 sp)).run d1 with
      | error e => rw [hgr] at hgi; exact (if_neg (show ¬ (endF Sta.z (.error e : Except Int (Dr × Sta))).2.2 = 0 from hgi.1)).symm
      | ok y => simp only [endF, Cp.run, if_true]
    rw [he]
    obtain ⟨⟨d2, ⟨sv, sl, sc, sm, ss, so⟩, e2⟩, hG⟩ : ∃ x, genF ns us (sp0 sp) d1 = x := ⟨_, rfl⟩
    rw [hG] at k2 ⊢
    simp only [mkQ, encDr, spF, staF, sp0] at k1 k2 ⊢
    by_cases hz : e2 = 0
    · have h2' : (e2 != 0) = false := by simpa using hz
      rw [if_pos hz]
      refine Fn.of (fn := Tryz.f12) (by kernel_rfl) rfl (by kernel_rfl) ⟨[.agg [.sl f 1 (strRow ns), .sl g 1 (u32Row us)], .agg [.v (.int .i64 sp.code), .v (.int .i64 sp.mem), .v (.int .i64 sp.stack), .v (.int .i64 sp.val), .sl false 1 (intRow sp.ws)], .agg [.sl false 1 (intRow d.l), .v (.int .i64 d.a), .sl false 1 (intRow d.g)], .v undef, .v undef, .v undef, .v undef, .v undef, .v undef, .v undef, .v undef, .v undef, .v undef, .v undef, .v undef, .v undef, .v undef, .v undef, .v undef, .v undef, .v undef, .v undef, .v undef, .v undef, .v undef, .v undef, .v undef, .v undef, .v undef, .v undef, .v undef, .v undef, .v undef, .v undef, .v undef, .v undef, .v undef, .v undef, .v undef, .v undef, .v undef, .v undef, .v undef, .v undef, .v undef, .v undef, .v undef, .v undef, .v undef, .v undef, .v undef, .v undef, .v undef, .v undef, .v undef, .v undef, .v undef, .v undef, .v undef, .v undef, .v undef, .v undef, .v undef, .v undef, .v undef, .v undef, .v undef, .v undef, .v undef, .v undef, .v undef, .v undef, .v undef, .v undef, .v undef], []⟩ rfl ?_
      repeat' first | (with_reducible first | refine AWP_seq' ?_ | refine k_normal ?_ | refine AWP_ret ?_ | refine AWP_skip ?_) | ((with_reducible first | refine AWP_reg fun KC J hJ hKC => ?_ | refine AWP_regD rfl fun KC J hJ hKC => ?_); simp (maxSteps := 10000000) only [push_cast, seval, ↓reduceIte, bne_self_eq_false, h2', backOf, callSets, renSlot, pick, mOf, idx, ren, ren2, ren1, ren0]) | (refine hKC _ _ _ _ _ (callK [8] k1 rfl rfl rfl (by decide) (by simp) rfl rfl Lq ?_); simp (maxSteps := 10000000) only [push_cast, seval, ↓reduceIte, bne_self_eq_false, h2', backOf, callSets, renSlot, pick, mOf, idx, ren, ren2, ren1, ren0]) | (refine hKC _ _ _ _ _ (callV0 (h1) rfl rfl rfl ?_ ?_); (· exact Lq); simp (maxSteps := 10000000) only [push_cast, seval, ↓reduceIte, bne_self_eq_false, h2', backOf, callSets, renSlot, pick, mOf, idx, ren, ren2, ren1, ren0]) | (refine hKC _ _ _ _ _ (callV0 (h2) rfl rfl rfl ?_ ?_); (· exact Lq); simp (maxSteps := 10000000) only [push_cast, seval, ↓reduceIte, bne_self_eq_false, h2', backOf, callSets, renSlot, pick, mOf, idx, ren, ren2, ren1, ren0]) | (refine hKC _ _ _ _ _ (callV0 (k2) rfl rfl rfl ?_ ?_); (· exact Lq); simp (maxSteps := 10000000) only [push_cast, seval, ↓reduceIte, bne_self_eq_false, h2', backOf, callSets, renSlot, pick, mOf, idx, ren, ren2, ren1, ren0]) | ((first | with_reducible refine hJ _ _ ?_ | (with_reducible refine hJ _ _ ?_ ?_; · kernel_rfl)); clear hJ hKC KC J) | ((with_reducible refine AWP_condF ?_ ?_); · rfl)
      refine ret_plain ?_
      simp (maxSteps := 10000000) only [push_cast, seval, ↓reduceIte, show Tryz.f12.results = #[(.cell 6 30), (.cell 7 39), (.tmp 8)] from rfl]
      exact Lq
    · have h2' : (e2 != 0) = true := by simpa using hz
      rw [if_neg hz]
      refine Fn.of (fn := Tryz.f12) (by kernel_rfl) rfl (by kernel_rfl) ⟨[.agg [.sl f 1 (strRow ns), .sl g 1 (u32Row us)], .agg [.v (.int .i64 sp.code), .v (.int .i64 sp.mem), .v (.int .i64 sp.stack), .v (.int .i64 sp.val), .sl false 1 (intRow sp.ws)], .agg [.sl false 1 (intRow d.l), .v (.int .i64 d.a), .sl false 1 (intRow d.g)], .v undef, .v undef, .v undef, .v undef, .v undef, .v undef, .v undef, .v undef, .v undef, .v undef, .v undef, .v undef, .v undef, .v undef, .v undef, .v undef, .v undef, .v undef, .v undef, .v undef, .v undef, .v undef, .v undef, .v undef, .v undef, .v undef, .v undef, .v undef, .v undef, .v undef, .v undef, .v undef, .v undef, .v undef, .v undef, .v undef, .v undef, .v undef, .v undef, .v undef, .v undef, .v undef, .v undef, .v undef, .v undef, .v undef, .v undef, .v undef, .v undef, .v undef, .v undef, .v undef, .v undef, .v undef, .v undef, .v undef, .v undef, .v undef, .v undef, .v undef, .v undef, .v undef, .v undef, .v undef, .v undef, .v undef, .v undef, .v undef, .v undef, .v undef, .v undef, .v undef], []⟩ rfl ?_
      repeat' first | (with_reducible first | refine AWP_seq' ?_ | refine k_normal ?_ | refine k_ret ?_ | refine AWP_ret ?_ | refine AWP_skip ?_) | ((with_reducible first | refine AWP_reg fun KC J hJ hKC => ?_ | refine AWP_regD rfl fun KC J hJ hKC => ?_); simp (maxSteps := 10000000) only [push_cast, seval, ↓reduceIte, bne_self_eq_false, h2', backOf, callSets, renSlot, pick, mOf, idx, ren, ren2, ren1, ren0]) | (refine hKC _ _ _ _ _ (callK [8] k1 rfl rfl rfl (by decide) (by simp) rfl rfl Lq ?_); simp (maxSteps := 10000000) only [push_cast, seval, ↓reduceIte, bne_self_eq_false, h2', backOf, callSets, renSlot, pick, mOf, idx, ren, ren2, ren1, ren0]) | (refine hKC _ _ _ _ _ (callV0 (h1) rfl rfl rfl ?_ ?_); (· exact Lq); simp (maxSteps := 10000000) only [push_cast, seval, ↓reduceIte, bne_self_eq_false, h2', backOf, callSets, renSlot, pick, mOf, idx, ren, ren2, ren1, ren0]) | (refine hKC _ _ _ _ _ (callV0 (h2) rfl rfl rfl ?_ ?_); (· exact Lq); simp (maxSteps := 10000000) only [push_cast, seval, ↓reduceIte, bne_self_eq_false, h2', backOf, callSets, renSlot, pick, mOf, idx, ren, ren2, ren1, ren0]) | (refine hKC _ _ _ _ _ (callV0 (k2) rfl rfl rfl ?_ ?_); (· exact Lq); simp (maxSteps := 10000000) only [push_cast, seval, ↓reduceIte, bne_self_eq_false, h2', backOf, callSets, renSlot, pick, mOf, idx, ren, ren2, ren1, ren0]) | ((first | with_reducible refine hJ _ _ ?_ | (with_reducible refine hJ _ _ ?_ ?_; · kernel_rfl)); clear hJ hKC KC J) | ((with_reducible refine AWP_condT ?_ ?_); · rfl) | ((with_reducible refine AWP_condF ?_ ?_); · rfl)
      refine ret_plain ?_
      simp (maxSteps := 10000000) only [push_cast, seval, ↓reduceIte, show Tryz.f12.results = #[(.cell 6 30), (.cell 7 39), (.tmp 8)] from rfl]
      exact Lq
end Go.Proofs.YtabliglgeiajlaaGreat.AM
