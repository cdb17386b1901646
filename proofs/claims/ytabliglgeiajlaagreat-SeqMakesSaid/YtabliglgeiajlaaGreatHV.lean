/- gen.State. -/
import Derived.Test.YtabliglgeiajlaaGreatHU
import Derived.Test.YtabliglgeiajlaaGreatHS
import Derived.Test.YtabliglgeiajlaaGreatS0
set_option linter.unusedSimpArgs false
set_option linter.unusedVariables false
namespace Go.Proofs.YtabliglgeiajlaaGreat.AM
open Go Go.RowKit Go.Proofs
set_option maxRecDepth 100000
set_option maxHeartbeats 4000000

/-- A state of draws, or why there is none. -/
def genF (ns : List ByteArray) (us : List Nat) (sp : Sp) (d : Dr) : Dr × Sta × Int :=
  if mayG ns us sp = 0 then if rightB d.l d.g d.a = true then endF Sta.z ((genC us.length sp).run d) else (Dr.z, Sta.z, 1) else (Dr.z, Sta.z, mayG ns us sp)
theorem us_of_may {ns : List ByteArray} {us : List Nat} (hc : checkF ns us = 0) : 1 ≤ us.length ∧ us.length ≤ 8 := by
  have := (mayB_get (show mayB ns us = true by
    unfold checkF at hc
    split at hc
    · assumption
    · cases hc)).1
  omega
theorem genState_fn (f g : Bool) (ns : List ByteArray) (us : List Nat) (sp : Sp) (d : Dr) (hs : Szs ns) (hu : U32 us) (hw : sp.ws.length ≤ 1000) :
    Fn Tryz.prog 51 [.agg [.sl f 1 (strRow ns), .sl g 1 (u32Row us)], .agg (spF false sp), encDr false false d] [] (.tup [encDr false false (genF ns us sp d).1, .agg (staF false false false false (genF ns us sp d).2.1), .v (.int .i64 (genF ns us sp d).2.2)]) [] := by
  have h1 := genMay_fn f g false ns us sp hs hu hw
  have h2 := drRight_fn false false d.l d.g d.a
  unfold genF
  obtain ⟨m, hm⟩ : ∃ m, mayG ns us sp = m := ⟨_, rfl⟩
  obtain ⟨r, hr⟩ : ∃ r, rightB d.l d.g d.a = r := ⟨_, rfl⟩
  rw [hm] at h1 ⊢
  rw [hr] at h2 ⊢
  simp only [spF, encDr, staF] at h1 h2 ⊢
  by_cases h0 : m = 0
  case neg =>
    have h0' : (m != 0) = true := by simpa using h0
    rw [if_neg h0]
    refine Fn.of (fn := Tryz.f51) (by kernel_rfl) rfl (by kernel_rfl) ⟨[.agg [.sl f 1 (strRow ns), .sl g 1 (u32Row us)], .agg [.v (.int .i64 sp.code), .v (.int .i64 sp.mem), .v (.int .i64 sp.stack), .v (.int .i64 sp.val), .sl false 1 (intRow sp.ws)], .agg [.sl false 1 (intRow d.l), .v (.int .i64 d.a), .sl false 1 (intRow d.g)], .v undef, .v undef, .v undef, .v undef, .v undef, .v undef, .v undef, .v undef, .v undef, .v undef, .v undef, .v undef, .v undef, .v undef, .v undef, .v undef, .v undef, .v undef, .v undef, .v undef, .v undef, .v undef, .v undef, .v undef, .v undef, .v undef, .v undef, .v undef, .v undef, .v undef, .v undef, .v undef, .v undef, .v undef, .v undef, .v undef, .v undef, .v undef, .v undef, .v undef, .v undef, .v undef, .v undef, .v undef, .v undef, .v undef, .v undef, .v undef, .v undef, .v undef, .v undef, .v undef, .v undef, .v undef, .v undef, .v undef, .v undef, .v undef, .v undef, .v undef, .v undef, .v undef, .v undef, .v undef, .v undef, .v undef, .v undef, .v undef, .v undef, .v undef, .v undef, .v undef, .v undef, .v undef], []⟩ rfl ?_
    repeat' first | (with_reducible first | refine AWP_seq' ?_ | refine k_normal ?_ | refine k_ret ?_ | refine AWP_ret ?_) | ((with_reducible refine AWP_reg fun KC J hJ hKC => ?_); simp (maxSteps := 10000000) only [push_cast, seval, ↓reduceIte, h0']) | (refine hKC _ _ _ _ _ (callV0 (h1) rfl rfl rfl ?_ ?_); (· exact Lq); simp (maxSteps := 10000000) only [push_cast, seval, ↓reduceIte, h0']) | ((with_reducible refine hJ _ _ ?_); clear hJ hKC KC J) | ((with_reducible refine AWP_condT ?_ ?_); · rfl)
    refine ret_plain ?_
    simp (maxSteps := 10000000) only [push_cast, seval, ↓reduceIte, show Tryz.f51.results = #[(.cell 6 30), (.cell 7 39), (.tmp 8)] from rfl]
    exact Lq
  subst h0
  have hchk : checkF ns us = 0 ∧ SpOk sp := by
    unfold mayG at hm
    split at hm
    · rename_i hc
      split at hm
      · rename_i hsp; exact ⟨hc, spB_iff.1 hsp⟩
      · cases hm
    · rename_i hc; exact absurd hm hc
  have hul := us_of_may hchk.1
  have hsp := hchk.2
  cases r
  case false =>
    refine Fn.of (fn := Tryz.f51) (by kernel_rfl) rfl (by kernel_rfl) ⟨[.agg [.sl f 1 (strRow ns), .sl g 1 (u32Row us)], .agg [.v (.int .i64 sp.code), .v (.int .i64 sp.mem), .v (.int .i64 sp.stack), .v (.int .i64 sp.val), .sl false 1 (intRow sp.ws)], .agg [.sl false 1 (intRow d.l), .v (.int .i64 d.a), .sl false 1 (intRow d.g)], .v undef, .v undef, .v undef, .v undef, .v undef, .v undef, .v undef, .v undef, .v undef, .v undef, .v undef, .v undef, .v undef, .v undef, .v undef, .v undef, .v undef, .v undef, .v undef, .v undef, .v undef, .v undef, .v undef, .v undef, .v undef, .v undef, .v undef, .v undef, .v undef, .v undef, .v undef, .v undef, .v undef, .v undef, .v undef, .v undef, .v undef, .v undef, .v undef, .v undef, .v undef, .v undef, .v undef, .v undef, .v undef, .v undef, .v undef, .v undef, .v undef, .v undef, .v undef, .v undef, .v undef, .v undef, .v undef, .v undef, .v undef, .v undef, .v undef, .v undef, .v undef, .v undef, .v undef, .v undef, .v undef, .v undef, .v undef, .v undef, .v undef, .v undef, .v undef, .v undef, .v undef, .v undef], []⟩ rfl ?_
    repeat' first | (with_reducible first | refine AWP_seq' ?_ | refine k_normal ?_ | refine k_ret ?_ | refine AWP_ret ?_ | refine AWP_skip ?_) | ((with_reducible refine AWP_reg fun KC J hJ hKC => ?_); simp (maxSteps := 10000000) only [push_cast, seval, ↓reduceIte, bne_self_eq_false]) | (refine hKC _ _ _ _ _ (callV0 (h1) rfl rfl rfl ?_ ?_); (· exact Lq); simp (maxSteps := 10000000) only [push_cast, seval, ↓reduceIte, bne_self_eq_false]) | (refine hKC _ _ _ _ _ (callV0 (h2) rfl rfl rfl ?_ ?_); (· exact Lq); simp (maxSteps := 10000000) only [push_cast, seval, ↓reduceIte, bne_self_eq_false]) | ((with_reducible refine hJ _ _ ?_); clear hJ hKC KC J) | ((with_reducible refine AWP_condT ?_ ?_); · rfl) | ((with_reducible refine AWP_condF ?_ ?_); · rfl)
    refine ret_plain ?_
    simp (maxSteps := 10000000) only [push_cast, seval, ↓reduceIte, show Tryz.f51.results = #[(.cell 6 30), (.cell 7 39), (.tmp 8)] from rfl]
    exact Lq
  rw [if_pos rfl, if_pos rfl, (is_gen us.length sp).end Sta.z d 0]
  unfold genP
  have k1 := rowsI_fn us.length sp d 0 0 sp.code hsp.c0 (by have := hsp.c1; omega) (by omega) (by omega)
  obtain ⟨⟨⟨d1, n1, e1⟩, c⟩, hc⟩ : ∃ x, rowsP (instrP us.length sp) sp.code (d, 0, 0) = x := ⟨_, rfl⟩
  rw [hc] at k1 ⊢
  have k2 := rowsA_fn us.length sp d1 n1 e1 sp.mem hsp.m0 (by have := hsp.m1; omega) (by omega)
  simp only at k2 ⊢
  obtain ⟨⟨⟨d2, n2, e2⟩, a⟩, ha⟩ : ∃ x, rowsP (atomP us.length sp) sp.mem (d1, n1, e1) = x := ⟨_, rfl⟩
  rw [ha] at k2 ⊢
  have k3 := rowsS_fn us.length sp d2 n2 e2 sp.stack hsp.s0 (by have := hsp.s1; omega) (by omega)
  simp only at k3 ⊢
  obtain ⟨⟨⟨d3, n3, e3⟩, s⟩, hS⟩ : ∃ x, rowsP (slotP us.length sp) sp.stack (d2, n2, e2) = x := ⟨_, rfl⟩
  rw [hS] at k3 ⊢
  have k4 := place_fn us.length sp d3 n3 e3
  simp only at k4 ⊢
  obtain ⟨⟨d4, n4, e4⟩, h4⟩ : ∃ x, belowP (d3, n3, e3) 13 = x := ⟨_, rfl⟩
  rw [h4] at k4 ⊢
  have k5 := label_fn us.length sp d4 n4 e4 (by omega)
  simp only at k5 ⊢
  obtain ⟨⟨d5, n5, e5⟩, h5⟩ : ∃ x, belowP (d4, n4, e4) us.length = x := ⟨_, rfl⟩
  rw [h5] at k5 ⊢
  simp only [mkE] at k1 k2 k3 k4 k5 ⊢
  by_cases he : e5 = 0
  · have he' : (e5 != 0) = false := by simpa using he
    rw [if_pos he]
    refine Fn.of (fn := Tryz.f51) (by kernel_rfl) rfl (by kernel_rfl) ⟨[.agg [.sl f 1 (strRow ns), .sl g 1 (u32Row us)], .agg [.v (.int .i64 sp.code), .v (.int .i64 sp.mem), .v (.int .i64 sp.stack), .v (.int .i64 sp.val), .sl false 1 (intRow sp.ws)], .agg [.sl false 1 (intRow d.l), .v (.int .i64 d.a), .sl false 1 (intRow d.g)], .v undef, .v undef, .v undef, .v undef, .v undef, .v undef, .v undef, .v undef, .v undef, .v undef, .v undef, .v undef, .v undef, .v undef, .v undef, .v undef, .v undef, .v undef, .v undef, .v undef, .v undef, .v undef, .v undef, .v undef, .v undef, .v undef, .v undef, .v undef, .v undef, .v undef, .v undef, .v undef, .v undef, .v undef, .v undef, .v undef, .v undef, .v undef, .v undef, .v undef, .v undef, .v undef, .v undef, .v undef, .v undef, .v undef, .v undef, .v undef, .v undef, .v undef, .v undef, .v undef, .v undef, .v undef, .v undef, .v undef, .v undef, .v undef, .v undef, .v undef, .v undef, .v undef, .v undef, .v undef, .v undef, .v undef, .v undef, .v undef, .v undef, .v undef, .v undef, .v undef, .v undef, .v undef], []⟩ rfl ?_
    repeat' first | (with_reducible first | refine AWP_seq' ?_ | refine k_normal ?_ | refine AWP_ret ?_ | refine AWP_skip ?_) | ((with_reducible first | refine AWP_reg fun KC J hJ hKC => ?_ | refine AWP_regD rfl fun KC J hJ hKC => ?_); simp (maxSteps := 10000000) only [push_cast, seval, ↓reduceIte, bne_self_eq_false, he', backOf, callSets, renSlot, pick, mOf, idx, ren, ren2, ren1, ren0]) | (refine hKC _ _ _ _ _ (callK [7] k1 rfl rfl rfl (by decide) (by simp) rfl rfl Lq ?_); simp (maxSteps := 10000000) only [push_cast, seval, ↓reduceIte, bne_self_eq_false, he', backOf, callSets, renSlot, pick, mOf, idx, ren, ren2, ren1, ren0]) | (refine hKC _ _ _ _ _ (callK [7] k2 rfl rfl rfl (by decide) (by simp) rfl rfl Lq ?_); simp (maxSteps := 10000000) only [push_cast, seval, ↓reduceIte, bne_self_eq_false, he', backOf, callSets, renSlot, pick, mOf, idx, ren, ren2, ren1, ren0]) | (refine hKC _ _ _ _ _ (callK [7] k3 rfl rfl rfl (by decide) (by simp) rfl rfl Lq ?_); simp (maxSteps := 10000000) only [push_cast, seval, ↓reduceIte, bne_self_eq_false, he', backOf, callSets, renSlot, pick, mOf, idx, ren, ren2, ren1, ren0]) | (refine hKC _ _ _ _ _ (callK [7] k4 rfl rfl rfl (by decide) (by simp) rfl rfl Lq ?_); simp (maxSteps := 10000000) only [push_cast, seval, ↓reduceIte, bne_self_eq_false, he', backOf, callSets, renSlot, pick, mOf, idx, ren, ren2, ren1, ren0]) | (refine hKC _ _ _ _ _ (callK [7] k5 rfl rfl rfl (by decide) (by simp) rfl rfl Lq ?_); simp (maxSteps := 10000000) only [push_cast, seval, ↓reduceIte, bne_self_eq_false, he', backOf, callSets, renSlot, pick, mOf, idx, ren, ren2, ren1, ren0]) | (refine hKC _ _ _ _ _ (callV0 (h1) rfl rfl rfl ?_ ?_); (· exact Lq); simp (maxSteps := 10000000) only [push_cast, seval, ↓reduceIte, bne_self_eq_false, he', backOf, callSets, renSlot, pick, mOf, idx, ren, ren2, ren1, ren0]) | (refine hKC _ _ _ _ _ (callV0 (h2) rfl rfl rfl ?_ ?_); (· exact Lq); simp (maxSteps := 10000000) only [push_cast, seval, ↓reduceIte, bne_self_eq_false, he', backOf, callSets, renSlot, pick, mOf, idx, ren, ren2, ren1, ren0]) | ((first | with_reducible refine hJ _ _ ?_ | (with_reducible refine hJ _ _ ?_ ?_; · kernel_rfl)); clear hJ hKC KC J) | ((with_reducible refine AWP_condF ?_ ?_); · rfl)
    refine ret_plain ?_
    simp (maxSteps := 10000000) only [push_cast, seval, ↓reduceIte, show Tryz.f51.results = #[(.cell 6 30), (.cell 7 39), (.tmp 8)] from rfl]
    exact Lq
  · have he' : (e5 != 0) = true := by simpa using he
    rw [if_neg he]
    refine Fn.of (fn := Tryz.f51) (by kernel_rfl) rfl (by kernel_rfl) ⟨[.agg [.sl f 1 (strRow ns), .sl g 1 (u32Row us)], .agg [.v (.int .i64 sp.code), .v (.int .i64 sp.mem), .v (.int .i64 sp.stack), .v (.int .i64 sp.val), .sl false 1 (intRow sp.ws)], .agg [.sl false 1 (intRow d.l), .v (.int .i64 d.a), .sl false 1 (intRow d.g)], .v undef, .v undef, .v undef, .v undef, .v undef, .v undef, .v undef, .v undef, .v undef, .v undef, .v undef, .v undef, .v undef, .v undef, .v undef, .v undef, .v undef, .v undef, .v undef, .v undef, .v undef, .v undef, .v undef, .v undef, .v undef, .v undef, .v undef, .v undef, .v undef, .v undef, .v undef, .v undef, .v undef, .v undef, .v undef, .v undef, .v undef, .v undef, .v undef, .v undef, .v undef, .v undef, .v undef, .v undef, .v undef, .v undef, .v undef, .v undef, .v undef, .v undef, .v undef, .v undef, .v undef, .v undef, .v undef, .v undef, .v undef, .v undef, .v undef, .v undef, .v undef, .v undef, .v undef, .v undef, .v undef, .v undef, .v undef, .v undef, .v undef, .v undef, .v undef, .v undef, .v undef, .v undef], []⟩ rfl ?_
    repeat' first | (with_reducible first | refine AWP_seq' ?_ | refine k_normal ?_ | refine k_ret ?_ | refine AWP_ret ?_ | refine AWP_skip ?_) | ((with_reducible first | refine AWP_reg fun KC J hJ hKC => ?_ | refine AWP_regD rfl fun KC J hJ hKC => ?_); simp (maxSteps := 10000000) only [push_cast, seval, ↓reduceIte, bne_self_eq_false, he', backOf, callSets, renSlot, pick, mOf, idx, ren, ren2, ren1, ren0]) | (refine hKC _ _ _ _ _ (callK [7] k1 rfl rfl rfl (by decide) (by simp) rfl rfl Lq ?_); simp (maxSteps := 10000000) only [push_cast, seval, ↓reduceIte, bne_self_eq_false, he', backOf, callSets, renSlot, pick, mOf, idx, ren, ren2, ren1, ren0]) | (refine hKC _ _ _ _ _ (callK [7] k2 rfl rfl rfl (by decide) (by simp) rfl rfl Lq ?_); simp (maxSteps := 10000000) only [push_cast, seval, ↓reduceIte, bne_self_eq_false, he', backOf, callSets, renSlot, pick, mOf, idx, ren, ren2, ren1, ren0]) | (refine hKC _ _ _ _ _ (callK [7] k3 rfl rfl rfl (by decide) (by simp) rfl rfl Lq ?_); simp (maxSteps := 10000000) only [push_cast, seval, ↓reduceIte, bne_self_eq_false, he', backOf, callSets, renSlot, pick, mOf, idx, ren, ren2, ren1, ren0]) | (refine hKC _ _ _ _ _ (callK [7] k4 rfl rfl rfl (by decide) (by simp) rfl rfl Lq ?_); simp (maxSteps := 10000000) only [push_cast, seval, ↓reduceIte, bne_self_eq_false, he', backOf, callSets, renSlot, pick, mOf, idx, ren, ren2, ren1, ren0]) | (refine hKC _ _ _ _ _ (callK [7] k5 rfl rfl rfl (by decide) (by simp) rfl rfl Lq ?_); simp (maxSteps := 10000000) only [push_cast, seval, ↓reduceIte, bne_self_eq_false, he', backOf, callSets, renSlot, pick, mOf, idx, ren, ren2, ren1, ren0]) | (refine hKC _ _ _ _ _ (callV0 (h1) rfl rfl rfl ?_ ?_); (· exact Lq); simp (maxSteps := 10000000) only [push_cast, seval, ↓reduceIte, bne_self_eq_false, he', backOf, callSets, renSlot, pick, mOf, idx, ren, ren2, ren1, ren0]) | (refine hKC _ _ _ _ _ (callV0 (h2) rfl rfl rfl ?_ ?_); (· exact Lq); simp (maxSteps := 10000000) only [push_cast, seval, ↓reduceIte, bne_self_eq_false, he', backOf, callSets, renSlot, pick, mOf, idx, ren, ren2, ren1, ren0]) | ((first | with_reducible refine hJ _ _ ?_ | (with_reducible refine hJ _ _ ?_ ?_; · kernel_rfl)); clear hJ hKC KC J) | ((with_reducible refine AWP_condT ?_ ?_); · rfl) | ((with_reducible refine AWP_condF ?_ ?_); · rfl)
    refine ret_plain ?_
    simp (maxSteps := 10000000) only [push_cast, seval, ↓reduceIte, show Tryz.f51.results = #[(.cell 6 30), (.cell 7 39), (.tmp 8)] from rfl]
    exact Lq
end Go.Proofs.YtabliglgeiajlaaGreat.AM
