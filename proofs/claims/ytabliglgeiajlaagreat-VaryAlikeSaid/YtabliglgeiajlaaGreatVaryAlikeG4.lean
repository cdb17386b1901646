/- Walks and plain laws, put together: part 4. -/
import Derived.Test.YtabliglgeiajlaaGreatVaryAlikeG1
import Derived.Test.YtabliglgeiajlaaGreatVaryAlikeG2
import Derived.Test.YtabliglgeiajlaaGreatVaryAlikeG3
import Derived.Test.YtabliglgeiajlaaGreatVaryAlikeG0
import Derived.Test.YtabliglgeiajlaaGreatMc
set_option linter.unusedSimpArgs false
set_option linter.unusedVariables false
namespace Go.Proofs.YtabliglgeiajlaaGreat.AM
open Go Go.RowKit Go.Proofs
set_option maxRecDepth 100000
set_option maxHeartbeats 4000000
def genF (ns : List ByteArray) (us : List Nat) (sp : Sp) (d : Dr) : Dr × Sta × Int :=
  if mayG ns us sp = 0 then if rightB d.l d.g d.a = true then endF Sta.z ((genC us.length sp).run d) else (Dr.z, Sta.z, 1) else (Dr.z, Sta.z, mayG ns us sp)
theorem us_of_may {ns : List ByteArray} {us : List Nat} (hc : checkF ns us = 0) : 1 ≤ us.length ∧ us.length ≤ 8 := by
  have := (mayB_get (show mayB ns us = true by
    unfold checkF at hc
    split at hc
    · assumption
    · cases hc)).1
  omega
theorem genState_fn (f g : Bool) (ns : List ByteArray) (us : List Nat) (sp : Sp) (d : Dr) (hs : Szs ns) (hu : U32 us) (hw : sp.ws.length ≤ 1000) :
    Fn Tryz.prog 51 [.agg [.sl f 1 (strRow ns), .sl g 1 (u32Row us)], .agg (spF false sp), encDr false false d] [] (.tup [encDr false false (genF ns us sp d).1, .agg (staF false false false false (genF ns us sp d).2.1), .v (.int .i64 (genF ns us sp d).2.2)]) [] := by
  have h1 := genMay_fn f g false ns us sp hs hu hw
  have h2 := drRight_fn false false d.l d.g d.a
  unfold genF
  obtain ⟨m, hm⟩ : ∃ m, mayG ns us sp = m := ⟨_, rfl⟩
  obtain ⟨r, hr⟩ : ∃ r, rightB d.l d.g d.a = r := ⟨_, rfl⟩
  rw [hm] at h1 ⊢
  rw [hr] at h2 ⊢
  simp only [spF, encDr, staF] at h1 h2 ⊢
  by_cases h0 : m = 0
  case neg =>
    have h0' : (m != 0) = true := by simpa using h0
    rw [if_neg h0]
    refine Fn.of (fn := Tryz.f51) (by kernel_rfl) rfl (by kernel_rfl) ⟨[.agg [.sl f 1 (strRow ns), .sl g 1 (u32Row us)], .agg [.v (.int .i64 sp.code), .v (.int .i64 sp.mem), .v (.int .i64 sp.stack), .v (.int .i64 sp.val), .sl false 1 (intRow sp.ws)], .agg [.sl false 1 (intRow d.l), .v (.int .i64 d.a), .sl false 1 (intRow d.g)], .v undef, .v undef, .v undef, .v undef, .v undef, .v undef, .v undef, .v undef, .v undef, .v undef, .v undef, .v undef, .v undef, .v undef, .v undef, .v undef, .v undef, .v undef, .v undef, .v undef, .v undef, .v undef, .v undef, .v undef, .v undef, .v undef, .v undef, .v undef, .v undef, .v undef, .v undef, .v undef, .v undef, .v undef, .v undef, .v undef, .v undef, .v undef, .v undef, .v undef, .v undef, .v undef, .v undef, .v undef, .v undef, .v undef, .v undef, .v undef, .v undef, .v undef, .v undef, .v undef, .v undef, .v undef, .v undef, .v undef, .v undef, .v undef, .v undef, .v undef, .v undef, .v undef, .v undef, .v undef, .v undef, .v undef, .v undef, .v undef, .v undef, .v undef, .v undef, .v undef, .v undef, .v undef], []⟩ rfl ?_
    repeat' first | (with_reducible first | refine AWP_seq' ?_ | refine k_normal ?_ | refine k_ret ?_ | refine AWP_ret ?_) | ((first | with_reducible refine AWP_reg fun KC J hJ hKC => ?_ | (refine hKC _ _ _ _ _ (callV0 (h1) rfl rfl rfl ?_ ?_); (· exact Lq))); simp (maxSteps := 9999999) only [push_cast, seval, ↓reduceIte, h0']) | ((with_reducible refine hJ _ _ ?_); clear hJ hKC KC J) | ((with_reducible refine AWP_condT ?_ ?_); · rfl)
    refine ret_plain ?_
    simp (maxSteps := 9999999) only [push_cast, seval, ↓reduceIte, show Tryz.f51.results = #[(.cell 6 30), (.cell 7 39), (.tmp 8)] from rfl]
    exact Lq
  subst h0
  have hchk : checkF ns us = 0 ∧ SpOk sp := by
    unfold mayG at hm
    split at hm
    · rename_i hc
      split at hm
      · rename_i hsp; exact ⟨hc, spB_iff.1 hsp⟩
      · cases hm
    · rename_i hc; exact absurd hm hc
  have hul := us_of_may hchk.1
  have hsp := hchk.2
  cases r
  case false =>
    refine Fn.of (fn := Tryz.f51) (by kernel_rfl) rfl (by kernel_rfl) ⟨[.agg [.sl f 1 (strRow ns), .sl g 1 (u32Row us)], .agg [.v (.int .i64 sp.code), .v (.int .i64 sp.mem), .v (.int .i64 sp.stack), .v (.int .i64 sp.val), .sl false 1 (intRow sp.ws)], .agg [.sl false 1 (intRow d.l), .v (.int .i64 d.a), .sl false 1 (intRow d.g)], .v undef, .v undef, .v undef, .v undef, .v undef, .v undef, .v undef, .v undef, .v undef, .v undef, .v undef, .v undef, .v undef, .v undef, .v undef, .v undef, .v undef, .v undef, .v undef, .v undef, .v undef, .v undef, .v undef, .v undef, .v undef, .v undef, .v undef, .v undef, .v undef, .v undef, .v undef, .v undef, .v undef, .v undef, .v undef, .v undef, .v undef, .v undef, .v undef, .v undef, .v undef, .v undef, .v undef, .v undef, .v undef, .v undef, .v undef, .v undef, .v undef, .v undef, .v undef, .v undef, .v undef, .v undef, .v undef, .v undef, .v undef, .v undef, .v undef, .v undef, .v undef, .v undef, .v undef, .v undef, .v undef, .v undef, .v undef, .v undef, .v undef, .v undef, .v undef, .v undef, .v undef, .v undef], []⟩ rfl ?_
    repeat' first | (with_reducible first | refine AWP_seq' ?_ | refine k_normal ?_ | refine k_ret ?_ | refine AWP_ret ?_ | refine AWP_skip ?_) | ((first | with_reducible refine AWP_reg fun KC J hJ hKC => ?_ | (refine hKC _ _ _ _ _ (callV0 (h1) rfl rfl rfl ?_ ?_); (· exact Lq)) | (refine hKC _ _ _ _ _ (callV0 (h2) rfl rfl rfl ?_ ?_); (· exact Lq))); simp (maxSteps := 9999999) only [push_cast, seval, ↓reduceIte, bne_self_eq_false]) | ((with_reducible refine hJ _ _ ?_); clear hJ hKC KC J) | ((with_reducible refine AWP_condT ?_ ?_); · rfl) | ((with_reducible refine AWP_condF ?_ ?_); · rfl)
    refine ret_plain ?_
    simp (maxSteps := 9999999) only [push_cast, seval, ↓reduceIte, show Tryz.f51.results = #[(.cell 6 30), (.cell 7 39), (.tmp 8)] from rfl]
    exact Lq
  rw [if_pos rfl, if_pos rfl, (is_gen us.length sp).end Sta.z d 0]
  unfold genP
  have k1 := rowsI_fn us.length sp d 0 0 sp.code hsp.c0 (by have := hsp.c1; omega) (by omega) (by omega)
  obtain ⟨⟨⟨d1, n1, e1⟩, c⟩, hc⟩ : ∃ x, rowsP (instrP us.length sp) sp.code (d, 0, 0) = x := ⟨_, rfl⟩
  rw [hc] at k1 ⊢
  have k2 := rowsA_fn us.length sp d1 n1 e1 sp.mem hsp.m0 (by have := hsp.m1; omega) (by omega)
  simp only at k2 ⊢
  obtain ⟨⟨⟨d2, n2, e2⟩, a⟩, ha⟩ : ∃ x, rowsP (atomP us.length sp) sp.mem (d1, n1, e1) = x := ⟨_, rfl⟩
  rw [ha] at k2 ⊢
  have k3 := rowsS_fn us.length sp d2 n2 e2 sp.stack hsp.s0 (by have := hsp.s1; omega) (by omega)
  simp only at k3 ⊢
  obtain ⟨⟨⟨d3, n3, e3⟩, s⟩, hS⟩ : ∃ x, rowsP (slotP us.length sp) sp.stack (d2, n2, e2) = x := ⟨_, rfl⟩
  rw [hS] at k3 ⊢
  have k4 := place_fn us.length sp d3 n3 e3
  simp only at k4 ⊢
  obtain ⟨⟨d4, n4, e4⟩, h4⟩ : ∃ x, belowP (d3, n3, e3) 13 = x := ⟨_, rfl⟩
  rw [h4] at k4 ⊢
  have k5 := label_fn us.length sp d4 n4 e4 (by omega)
  simp only at k5 ⊢
  obtain ⟨⟨d5, n5, e5⟩, h5⟩ : ∃ x, belowP (d4, n4, e4) us.length = x := ⟨_, rfl⟩
  rw [h5] at k5 ⊢
  simp only [mkE] at k1 k2 k3 k4 k5 ⊢
  by_cases he : e5 = 0
  · have he' : (e5 != 0) = false := by simpa using he
    rw [if_pos he]
    refine Fn.of (fn := Tryz.f51) (by kernel_rfl) rfl (by kernel_rfl) ⟨[.agg [.sl f 1 (strRow ns), .sl g 1 (u32Row us)], .agg [.v (.int .i64 sp.code), .v (.int .i64 sp.mem), .v (.int .i64 sp.stack), .v (.int .i64 sp.val), .sl false 1 (intRow sp.ws)], .agg [.sl false 1 (intRow d.l), .v (.int .i64 d.a), .sl false 1 (intRow d.g)], .v undef, .v undef, .v undef, .v undef, .v undef, .v undef, .v undef, .v undef, .v undef, .v undef, .v undef, .v undef, .v undef, .v undef, .v undef, .v undef, .v undef, .v undef, .v undef, .v undef, .v undef, .v undef, .v undef, .v undef, .v undef, .v undef, .v undef, .v undef, .v undef, .v undef, .v undef, .v undef, .v undef, .v undef, .v undef, .v undef, .v undef, .v undef, .v undef, .v undef, .v undef, .v undef, .v undef, .v undef, .v undef, .v undef, .v undef, .v undef, .v undef, .v undef, .v undef, .v undef, .v undef, .v undef, .v undef, .v undef, .v undef, .v undef, .v undef, .v undef, .v undef, .v undef, .v undef, .v undef, .v undef, .v undef, .v undef, .v undef, .v undef, .v undef, .v undef, .v undef, .v undef, .v undef], []⟩ rfl ?_
    repeat' first | (with_reducible first | refine AWP_seq' ?_ | refine k_normal ?_ | refine AWP_ret ?_ | refine AWP_skip ?_) | ((first | with_reducible refine AWP_reg fun KC J hJ hKC => ?_ | with_reducible refine AWP_regD rfl fun KC J hJ hKC => ?_ | (refine hKC _ _ _ _ _ (callK [7] k1 rfl rfl rfl (by decide) (by simp) rfl rfl Lq ?_)) | (refine hKC _ _ _ _ _ (callK [7] k2 rfl rfl rfl (by decide) (by simp) rfl rfl Lq ?_)) | (refine hKC _ _ _ _ _ (callK [7] k3 rfl rfl rfl (by decide) (by simp) rfl rfl Lq ?_)) | (refine hKC _ _ _ _ _ (callK [7] k4 rfl rfl rfl (by decide) (by simp) rfl rfl Lq ?_)) | (refine hKC _ _ _ _ _ (callK [7] k5 rfl rfl rfl (by decide) (by simp) rfl rfl Lq ?_)) | (refine hKC _ _ _ _ _ (callV0 (h1) rfl rfl rfl ?_ ?_); (· exact Lq)) | (refine hKC _ _ _ _ _ (callV0 (h2) rfl rfl rfl ?_ ?_); (· exact Lq))); simp (maxSteps := 9999999) only [push_cast, seval, ↓reduceIte, bne_self_eq_false, he', backOf, callSets, renSlot, pick, mOf, idx, ren, ren2, ren1, ren0]) | ((first | with_reducible refine hJ _ _ ?_ | (with_reducible refine hJ _ _ ?_ ?_; · kernel_rfl)); clear hJ hKC KC J) | ((with_reducible refine AWP_condF ?_ ?_); · rfl)
    refine ret_plain ?_
    simp (maxSteps := 9999999) only [push_cast, seval, ↓reduceIte, show Tryz.f51.results = #[(.cell 6 30), (.cell 7 39), (.tmp 8)] from rfl]
    exact Lq
  · have he' : (e5 != 0) = true := by simpa using he
    rw [if_neg he]
    refine Fn.of (fn := Tryz.f51) (by kernel_rfl) rfl (by kernel_rfl) ⟨[.agg [.sl f 1 (strRow ns), .sl g 1 (u32Row us)], .agg [.v (.int .i64 sp.code), .v (.int .i64 sp.mem), .v (.int .i64 sp.stack), .v (.int .i64 sp.val), .sl false 1 (intRow sp.ws)], .agg [.sl false 1 (intRow d.l), .v (.int .i64 d.a), .sl false 1 (intRow d.g)], .v undef, .v undef, .v undef, .v undef, .v undef, .v undef, .v undef, .v undef, .v undef, .v undef, .v undef, .v undef, .v undef, .v undef, .v undef, .v undef, .v undef, .v undef, .v undef, .v undef, .v undef, .v undef, .v undef, .v undef, .v undef, .v undef, .v undef, .v undef, .v undef, .v undef, .v undef, .v undef, .v undef, .v undef, .v undef, .v undef, .v undef, .v undef, .v undef, .v undef, .v undef, .v undef, .v undef, .v undef, .v undef, .v undef, .v undef, .v undef, .v undef, .v undef, .v undef, .v undef, .v undef, .v undef, .v undef, .v undef, .v undef, .v undef, .v undef, .v undef, .v undef, .v undef, .v undef, .v undef, .v undef, .v undef, .v undef, .v undef, .v undef, .v undef, .v undef, .v undef, .v undef, .v undef], []⟩ rfl ?_
    repeat' first | (with_reducible first | refine AWP_seq' ?_ | refine k_normal ?_ | refine k_ret ?_ | refine AWP_ret ?_ | refine AWP_skip ?_) | ((first | with_reducible refine AWP_reg fun KC J hJ hKC => ?_ | with_reducible refine AWP_regD rfl fun KC J hJ hKC => ?_ | (refine hKC _ _ _ _ _ (callK [7] k1 rfl rfl rfl (by decide) (by simp) rfl rfl Lq ?_)) | (refine hKC _ _ _ _ _ (callK [7] k2 rfl rfl rfl (by decide) (by simp) rfl rfl Lq ?_)) | (refine hKC _ _ _ _ _ (callK [7] k3 rfl rfl rfl (by decide) (by simp) rfl rfl Lq ?_)) | (refine hKC _ _ _ _ _ (callK [7] k4 rfl rfl rfl (by decide) (by simp) rfl rfl Lq ?_)) | (refine hKC _ _ _ _ _ (callK [7] k5 rfl rfl rfl (by decide) (by simp) rfl rfl Lq ?_)) | (refine hKC _ _ _ _ _ (callV0 (h1) rfl rfl rfl ?_ ?_); (· exact Lq)) | (refine hKC _ _ _ _ _ (callV0 (h2) rfl rfl rfl ?_ ?_); (· exact Lq))); simp (maxSteps := 9999999) only [push_cast, seval, ↓reduceIte, bne_self_eq_false, he', backOf, callSets, renSlot, pick, mOf, idx, ren, ren2, ren1, ren0]) | ((first | with_reducible refine hJ _ _ ?_ | (with_reducible refine hJ _ _ ?_ ?_; · kernel_rfl)); clear hJ hKC KC J) | ((with_reducible refine AWP_condT ?_ ?_); · rfl) | ((with_reducible refine AWP_condF ?_ ?_); · rfl)
    refine ret_plain ?_
    simp (maxSteps := 9999999) only [push_cast, seval, ↓reduceIte, show Tryz.f51.results = #[(.cell 6 30), (.cell 7 39), (.tmp 8)] from rfl]
    exact Lq
end Go.Proofs.YtabliglgeiajlaaGreat.AM

namespace Go.Proofs.YtabliglgeiajlaaGreat.AM
open Go Go.RowKit Go.Proofs
set_option maxRecDepth 100000
set_option maxHeartbeats 4000000
def pairG (ns : List ByteArray) (us : List Nat) (sp : Sp) (o : Int) (d : Dr) : Dr × Sta × Sta × Int :=
  if (genF ns us sp d).2.2 = 0 then
    if (varyG ns us sp o (genF ns us sp d).2.1 (genF ns us sp d).1).2.2 = 0 then ((varyG ns us sp o (genF ns us sp d).2.1 (genF ns us sp d).1).1, (genF ns us sp d).2.1, (varyG ns us sp o (genF ns us sp d).2.1 (genF ns us sp d).1).2.1, 0)
    else (Dr.z, Sta.z, Sta.z, (varyG ns us sp o (genF ns us sp d).2.1 (genF ns us sp d).1).2.2)
  else (Dr.z, Sta.z, Sta.z, (genF ns us sp d).2.2)
theorem pair_fn (f g : Bool) (ns : List ByteArray) (us : List Nat) (sp : Sp) (o : Int) (d : Dr) (hs : Szs ns) (hu : U32 us) (hw : sp.ws.length ≤ 1000) (hg : (genF ns us sp d).2.2 = 0 → Sml (genF ns us sp d).2.1) :
    Fn Tryz.prog 45 [.agg [.sl f 1 (strRow ns), .sl g 1 (u32Row us)], .agg (spF false sp), .v (.int .i64 o), encDr false false d] [] (.tup [encDr false false (pairG ns us sp o d).1, .agg (staF false false false false (pairG ns us sp o d).2.1), .agg (staF false false false false (pairG ns us sp o d).2.2.1), .v (.int .i64 (pairG ns us sp o d).2.2.2)]) [] := by
  have h1 := genState_fn f g ns us sp d hs hu hw
  unfold pairG
  obtain ⟨⟨d1, s, e⟩, hG⟩ : ∃ r, genF ns us sp d = r := ⟨_, rfl⟩
  rw [hG] at h1 hg ⊢
  simp only at h1 hg ⊢
  by_cases e0 : e = 0
  · have h2 := vary_fn f g ns us sp o s d1 hs hu hw (hg e0)
    subst e0
    obtain ⟨⟨d2, t, e2⟩, hV⟩ : ∃ r, varyG ns us sp o s d1 = r := ⟨_, rfl⟩
    rw [hV] at h2 ⊢
    rw [if_pos rfl]
    simp only [spF, encDr, staF] at h1 h2 ⊢
    by_cases e3 : e2 = 0
    · subst e3
      rw [if_pos rfl]
      refine Fn.of (fn := Tryz.f45) (by kernel_rfl) rfl (by kernel_rfl) ⟨[.agg [.sl f 1 (strRow ns), .sl g 1 (u32Row us)], .agg [.v (.int .i64 sp.code), .v (.int .i64 sp.mem), .v (.int .i64 sp.stack), .v (.int .i64 sp.val), .sl false 1 (intRow sp.ws)], .v (.int .i64 o), .agg [.sl false 1 (intRow d.l), .v (.int .i64 d.a), .sl false 1 (intRow d.g)], .v undef, .v undef, .v undef, .v undef, .v undef, .v undef, .v undef, .v undef, .v undef, .v undef, .v undef, .v undef, .v undef, .v undef, .v undef, .v undef, .v undef, .v undef, .v undef, .v undef, .v undef, .v undef, .v undef, .v undef, .v undef, .v undef, .v undef, .v undef, .v undef, .v undef, .v undef, .v undef, .v undef, .v undef, .v undef, .v undef, .v undef, .v undef, .v undef, .v undef, .v undef, .v undef, .v undef, .v undef], []⟩ rfl ?_
      repeat' first | (with_reducible first | refine AWP_seq' ?_ | refine k_normal ?_ | refine AWP_ret ?_ | refine AWP_skip ?_) | ((first | with_reducible refine AWP_reg fun KC J hJ hKC => ?_ | with_reducible refine AWP_regD rfl fun KC J hJ hKC => ?_ | (refine hKC _ _ _ _ _ (callV0 (h1) rfl rfl rfl ?_ ?_); (· exact Lq)) | (refine hKC _ _ _ _ _ (callV0 (h2) rfl rfl rfl ?_ ?_); (· exact Lq))); simp (maxSteps := 9999999) only [push_cast, seval, ↓reduceIte, bne_self_eq_false]) | ((first | with_reducible refine hJ _ _ ?_ | (with_reducible refine hJ _ _ ?_ ?_; · kernel_rfl)); clear hJ hKC KC J) | ((with_reducible refine AWP_condF ?_ ?_); · rfl)
      refine ret_plain ?_
      simp (maxSteps := 9999999) only [push_cast, seval, ↓reduceIte, show Tryz.f45.results = #[(.cell 8 30), (.cell 9 39), (.cell 10 39), (.tmp 11)] from rfl]
      exact Lq
    · have e3' : (e2 != 0) = true := by simpa using e3
      rw [if_neg e3]
      refine Fn.of (fn := Tryz.f45) (by kernel_rfl) rfl (by kernel_rfl) ⟨[.agg [.sl f 1 (strRow ns), .sl g 1 (u32Row us)], .agg [.v (.int .i64 sp.code), .v (.int .i64 sp.mem), .v (.int .i64 sp.stack), .v (.int .i64 sp.val), .sl false 1 (intRow sp.ws)], .v (.int .i64 o), .agg [.sl false 1 (intRow d.l), .v (.int .i64 d.a), .sl false 1 (intRow d.g)], .v undef, .v undef, .v undef, .v undef, .v undef, .v undef, .v undef, .v undef, .v undef, .v undef, .v undef, .v undef, .v undef, .v undef, .v undef, .v undef, .v undef, .v undef, .v undef, .v undef, .v undef, .v undef, .v undef, .v undef, .v undef, .v undef, .v undef, .v undef, .v undef, .v undef, .v undef, .v undef, .v undef, .v undef, .v undef, .v undef, .v undef, .v undef, .v undef, .v undef, .v undef, .v undef, .v undef, .v undef], []⟩ rfl ?_
      repeat' first | (with_reducible first | refine AWP_seq' ?_ | refine k_normal ?_ | refine k_ret ?_ | refine AWP_ret ?_ | refine AWP_skip ?_) | ((first | with_reducible refine AWP_reg fun KC J hJ hKC => ?_ | (refine hKC _ _ _ _ _ (callV0 (h1) rfl rfl rfl ?_ ?_); (· exact Lq)) | (refine hKC _ _ _ _ _ (callV0 (h2) rfl rfl rfl ?_ ?_); (· exact Lq))); simp (maxSteps := 9999999) only [push_cast, seval, ↓reduceIte, bne_self_eq_false, e3']) | ((with_reducible refine hJ _ _ ?_); clear hJ hKC KC J) | ((with_reducible refine AWP_condT ?_ ?_); · rfl) | ((with_reducible refine AWP_condF ?_ ?_); · rfl)
      refine ret_plain ?_
      simp (maxSteps := 9999999) only [push_cast, seval, ↓reduceIte, show Tryz.f45.results = #[(.cell 8 30), (.cell 9 39), (.cell 10 39), (.tmp 11)] from rfl]
      exact Lq
  · have e0' : (e != 0) = true := by simpa using e0
    rw [if_neg e0]
    simp only [spF, encDr, staF] at h1 ⊢
    refine Fn.of (fn := Tryz.f45) (by kernel_rfl) rfl (by kernel_rfl) ⟨[.agg [.sl f 1 (strRow ns), .sl g 1 (u32Row us)], .agg [.v (.int .i64 sp.code), .v (.int .i64 sp.mem), .v (.int .i64 sp.stack), .v (.int .i64 sp.val), .sl false 1 (intRow sp.ws)], .v (.int .i64 o), .agg [.sl false 1 (intRow d.l), .v (.int .i64 d.a), .sl false 1 (intRow d.g)], .v undef, .v undef, .v undef, .v undef, .v undef, .v undef, .v undef, .v undef, .v undef, .v undef, .v undef, .v undef, .v undef, .v undef, .v undef, .v undef, .v undef, .v undef, .v undef, .v undef, .v undef, .v undef, .v undef, .v undef, .v undef, .v undef, .v undef, .v undef, .v undef, .v undef, .v undef, .v undef, .v undef, .v undef, .v undef, .v undef, .v undef, .v undef, .v undef, .v undef, .v undef, .v undef, .v undef, .v undef], []⟩ rfl ?_
    repeat' first | (with_reducible first | refine AWP_seq' ?_ | refine k_normal ?_ | refine k_ret ?_ | refine AWP_ret ?_) | ((first | with_reducible refine AWP_reg fun KC J hJ hKC => ?_ | (refine hKC _ _ _ _ _ (callV0 (h1) rfl rfl rfl ?_ ?_); (· exact Lq))); simp (maxSteps := 9999999) only [push_cast, seval, ↓reduceIte, e0']) | ((with_reducible refine hJ _ _ ?_); clear hJ hKC KC J) | ((with_reducible refine AWP_condT ?_ ?_); · rfl)
    refine ret_plain ?_
    simp (maxSteps := 9999999) only [push_cast, seval, ↓reduceIte, show Tryz.f45.results = #[(.cell 8 30), (.cell 9 39), (.cell 10 39), (.tmp 11)] from rfl]
    exact Lq
end Go.Proofs.YtabliglgeiajlaaGreat.AM

namespace Go.Proofs.YtabliglgeiajlaaGreat.AM
open Go Go.RowKit Go.Proofs
set_option maxRecDepth 100000
set_option maxHeartbeats 1000000
theorem hasB_sml {n : Nat} {sp : Sp} {s : Sta} (h : hasB n sp s = true) : Sml15 s := by
  simp only [hasB, staB, codeB, Bool.and_eq_true, decide_eq_true_eq] at h
  obtain ⟨⟨⟨_, h1⟩, _, _, _, h2, _, h3, _, h4⟩, _⟩ := h
  exact ⟨by omega, by omega, by omega, by omega⟩
theorem mayG_ok {ns : List ByteArray} {us : List Nat} {sp : Sp} (hm : mayG ns us sp = 0) : checkF ns us = 0 ∧ SpOk sp := by
  unfold mayG at hm
  split at hm
  · rename_i hc
    split at hm
    · rename_i hsp; exact ⟨hc, spB_iff.1 hsp⟩
    · cases hm
  · rename_i hc; exact absurd hm hc
theorem run_gen {n : Nat} {sp : Sp} (hsp : SpOk sp) (d : Dr) : (∃ e, e ≠ 0 ∧ (genC n sp).run d = .error e) ∨ ∃ d' s cs, (genC n sp).run d = .ok (d', s) ∧ hasB n sp s = true ∧ (genC n sp).path cs = some s ∧ d'.l = d.l ∧ d'.g = d.g ++ cs ∧ cs.length ≤ 89 := by
  have hi := (is_gen n sp).1 d 0
  cases hr : (genC n sp).run d with
  | error e => rw [hr] at hi; exact .inl ⟨e, hi.1, rfl⟩
  | ok r =>
    obtain ⟨d', s⟩ := r
    obtain ⟨cs, h1, h2, h3⟩ := Cp.run_path _ hr
    exact .inr ⟨d', s, cs, rfl, Cp.all_path _ (genC_all hsp) h1, h1, h3, h2, Cp.path_deep _ (deep_gen hsp) h1⟩
theorem genF_small {ns : List ByteArray} {us : List Nat} {sp : Sp} {d : Dr} (hl : d.l.length ≤ 1000) (hg : d.g.length ≤ 3000) : Sml15 (genF ns us sp d).2.1 ∧ (genF ns us sp d).1.l.length ≤ 4000 ∧ (genF ns us sp d).1.g.length ≤ 4000 := by
  have z : Sml15 Sta.z := ⟨by decide, by decide, by decide, by decide⟩
  have zz : Sml15 Sta.z ∧ Dr.z.l.length ≤ 4000 ∧ Dr.z.g.length ≤ 4000 := ⟨z, by decide, by decide⟩
  unfold genF
  split
  · rename_i hm
    split
    · rcases run_gen (mayG_ok hm).2 (n := us.length) d with ⟨e, _, hr⟩ | ⟨d', s, cs, hr, hb, _, h1, h2, h3⟩
      · rw [hr]; exact zz
      · rw [hr]
        refine ⟨hasB_sml hb, ?_, ?_⟩
        · show d'.l.length ≤ 4000; rw [h1]; omega
        · show d'.g.length ≤ 4000; rw [h2, List.length_append]; omega
    · exact zz
  · exact zz
def spCut (sp : Sp) : Sp := { sp with ws := sp.ws.take 16 }
end Go.Proofs.YtabliglgeiajlaaGreat.AM

namespace Go.Proofs.YtabliglgeiajlaaGreat.AM
open Go Go.RowKit Go.Proofs
set_option maxRecDepth 100000
set_option maxHeartbeats 1000000
def popc (x : Nat) : Int := (List.range 8).foldl (fun n i => if x.testBit i then n + 1 else n) 0
theorem ishr_hi {x : Nat} (hx : x < 256) {b : Nat} (hb : 8 ≤ b) : ishr .u32 (uv x) (b : Int) = 0 := by
  rw [uv_shr (by omega), Nat.shiftRight_eq_div_pow, Nat.div_eq_of_lt]
  · rfl
  · exact Nat.lt_of_lt_of_le (show x < 2 ^ 8 from hx) (Nat.pow_le_pow_right (by decide) hb)
theorem and_255 {x : Nat} (hx : x < 256) : ibits .and .u32 (uv x) 255 = uv x := by
  have h := uv_and (a := x) (b := 255) (by omega) (by decide)
  rw [show uv 255 = 255 from rfl] at h
  rw [h, show x &&& 255 = x from by rw [show 255 = 2 ^ 8 - 1 from rfl, Nat.and_two_pow_sub_one_eq_mod]; exact Nat.mod_eq_of_lt hx]
theorem onesCount_fn (x : Nat) (hx : x < 256) : Fn Tryz.prog 118 [.v (.int .u32 (uv x))] [] (.v (.int .i64 (popc x))) [] := by
  have h1 := ishr_hi hx (b := 24) (by omega)
  have h2 := ishr_hi hx (b := 16) (by omega)
  have h3 := ishr_hi hx (b := 8) (by omega)
  have h4 := and_255 hx
  have h5 : ibits .and .u32 0 255 = 0 := rfl
  have hx0 : (0 : Int) ≤ uv x := Int.natCast_nonneg _
  have hx1 : uv x < 256 := by show (x : Int) < 256; omega
  simp only [Int.cast_ofNat_Int] at h1 h2 h3
  refine Fn.of (fn := Tryz.f118) (by kernel_rfl) rfl (by kernel_rfl) ⟨[.v (.int .u32 (uv x)), .v undef, .v undef, .v undef, .v undef, .v undef, .v undef, .v undef, .v undef, .v undef, .v undef, .v undef, .v undef, .v undef, .v undef, .v undef, .v undef, .v undef, .v undef, .v undef, .v undef], []⟩ rfl ?_
  repeat' first | (with_reducible first | refine AWP_seq' ?_ | refine k_normal ?_ | refine AWP_ret ?_) | ((with_reducible refine And.intro ?_ ?_); · exact Sq) | ((first | with_reducible refine AWP_reg fun KC J hJ hKC => ?_ | with_reducible refine AWP_regD rfl fun KC J hJ hKC => ?_); simp (maxSteps := 9999999) only [push_cast, seval, ↓reduceIte, h1, h2, h3, h4, h5, ByteArray.size, List.size_toArray, List.append_eq, List.length_append]) | ((first | with_reducible refine hJ _ _ ?_ | (with_reducible refine hJ _ _ ?_ ?_; · kernel_rfl)); clear hJ hKC KC J)
  refine ret_plain ?_
  simp (maxSteps := 9999999) only [push_cast, seval, ↓reduceIte, show Tryz.f118.results = #[(.tmp 2)] from rfl]
  refine leD_v (congrArg _ ?_)
  clear h1 h2 h3 h4 hx0 hx1
  revert x
  decide +kernel
theorem top1_fn (x : Nat) (hx : x < 256) : Fn Tryz.prog 117 [.v (.int .u32 (uv x))] [] (.v (.bool (popc x == 1))) [] := by
  refine Fn.of (fn := Tryz.f117) (by kernel_rfl) rfl (by kernel_rfl) ⟨[.v (.int .u32 (uv x)), .v undef, .v undef, .v undef, .v undef, .v undef], []⟩ rfl ?_
  repeat' first | (with_reducible first | refine AWP_seq' ?_ | refine k_normal ?_ | refine AWP_ret ?_) | ((first | with_reducible refine AWP_reg fun KC J hJ hKC => ?_ | (refine' hKC _ _ _ _ _ (callV0 (onesCount_fn _ ?_) rfl rfl rfl ?_ ?_); (rotate_left 2); (· exact Lq); (rotate_left 1); (iterate 1 (· exact Hq)))); simp (maxSteps := 9999999) only [push_cast, seval, ↓reduceIte]) | ((with_reducible refine hJ _ _ ?_); clear hJ hKC KC J)
  refine ret_plain ?_
  simp (maxSteps := 9999999) only [push_cast, seval, ↓reduceIte, show Tryz.f117.results = #[(.tmp 2)] from rfl]
  exact leD_refl _
def topI (us : List Nat) : Int := idxF (fun x => popc x == 1) us
theorem low_256 {ns : List ByteArray} {us : List Nat} (hm : mayB ns us = true) : ∀ u ∈ us, u < 256 := fun u hu => by
  obtain ⟨i, hi, rfl⟩ := List.getElem_of_mem hu
  have h8 := (mayB_get hm).1.2.1
  have hl := low_of_may hm i hi
  rw [List.getD_eq_getElem?_getD, List.getElem?_eq_getElem hi] at hl
  exact Nat.lt_of_lt_of_le hl (Nat.pow_le_pow_right (n := 2) (by decide) h8)
theorem checkF_may {ns : List ByteArray} {us : List Nat} (h : checkF ns us = 0) : mayB ns us = true ∧ Ord us ∧ Lat us := by
  unfold checkF at h
  split at h
  · split at h
    · split at h
      · exact ⟨by assumption, by assumption, by assumption⟩
      · cases h
    · cases h
  · cases h
theorem top_fn (f g : Bool) (ns : List ByteArray) (us : List Nat) (hs : Szs ns) (hu : U32 us) (hc : checkF ns us = 0) :
    Fn Tryz.prog 50 [.agg [.sl f 1 (strRow ns), .sl g 1 (u32Row us)]] [] (.tup [.v (.int .i64 (topI us)), .v (.int .i64 0)]) [] := by
  have hm : mayF ns us [] = 0 := by rw [mayF, if_pos hc]; rfl
  have hth := there_fn f g true ns us [] hs hu (by simp)
  rw [hm, show intRow [] = [] from rfl] at hth
  have h256 := low_256 (checkF_may hc).1
  have h8 := (mayB_get (checkF_may hc).1).1.2.1
  have hix := indexFuncU32_fn g us 117 [] (fun x => popc x == 1) (by omega) rfl (fun x hx => top1_fn x (h256 x hx))
  refine Fn.of (fn := Tryz.f50) (by kernel_rfl) rfl (by kernel_rfl) ⟨[.agg [.sl f 1 (strRow ns), .sl g 1 (u32Row us)], .v undef, .v undef, .v undef, .v undef, .v undef, .v undef, .v undef, .v undef, .v undef, .v undef, .v undef, .v undef], []⟩ rfl ?_
  repeat' first | (with_reducible first | refine AWP_seq' ?_ | refine k_normal ?_ | refine AWP_ret ?_ | refine AWP_skip ?_) | ((first | with_reducible refine AWP_reg fun KC J hJ hKC => ?_ | (refine hKC _ _ _ _ _ (callV0 (hth) rfl rfl rfl ?_ ?_); (· exact Lq)) | (refine hKC _ _ _ _ _ (callV0 (hix) rfl rfl rfl ?_ ?_); (· exact Lq))); simp (maxSteps := 9999999) only [push_cast, seval, ↓reduceIte]) | ((with_reducible refine hJ _ _ ?_); clear hJ hKC KC J) | ((with_reducible refine AWP_condF ?_ ?_); · rfl)
  refine ret_plain ?_
  simp (maxSteps := 9999999) only [push_cast, seval, ↓reduceIte, show Tryz.f50.results = #[(.tmp 2), (.tmp 3)] from rfl]
  exact Lq
def popcB (x : Nat) : Bool := (List.range 8).all fun i => (List.range 8).all fun j => !(x.testBit i && x.testBit j) || decide (i = j) || !decide (popc x = 1)
theorem popcB_all : ∀ x, x < 256 → popcB x = true := by decide +kernel
theorem popc_one (x : Nat) (hx : x < 256) (i : Nat) (hi : i < 8) (j : Nat) (hj : j < 8) (hp : popc x = 1) (h1 : x.testBit i = true) (h2 : x.testBit j = true) : i = j := by
  have h := popcB_all x hx
  rw [popcB, List.all_eq_true] at h
  have h := h i (List.mem_range.2 hi)
  rw [List.all_eq_true] at h
  have h := h j (List.mem_range.2 hj)
  rw [h1, h2, decide_eq_true hp] at h
  simpa using h
theorem popc_of : ∀ x, x < 256 → ∀ t, t < 8 → x.testBit t = true → (∀ j, j < 8 → x.testBit j = true → j = t) → popc x = 1 := by decide +kernel
theorem has_top {us : List Nat} (hlw : Low us) (ho : Ord us) (hL : Lat us) : ∀ k, k < us.length → ∃ t, t < us.length ∧ ∀ a, a ≤ k → fl us a t = true
  | 0, hk => ⟨0, hk, fun a ha => by have : a = 0 := by omega
                                    subst this; exact ho.1 0 hk⟩
  | k + 1, hk => by
    obtain ⟨t, ht, hta⟩ := has_top hlw ho hL k (by omega)
    have hj := (hL t ht (k + 1) hk).1
    rcases idxF_cases (fun u => decide (u = us.getD t 0 &&& us.getD (k + 1) 0)) us with ⟨h, _⟩ | ⟨c, _, hc, hp, _⟩
    · rw [joinI, h] at hj; omega
    · have hcj : isJ us t (k + 1) c := (isJ_iff hlw ho ht hk hc).2 (by rw [List.getD_eq_getElem?_getD, List.getElem?_eq_getElem hc]; simpa using hp)
      refine ⟨c, hc, fun a ha => ?_⟩
      rcases Nat.lt_or_ge k a with h | h
      · have : a = k + 1 := by omega
        subst this; exact hcj.1.2
      · exact ho.2.2 a (by omega) t ht c hc (hta a h) hcj.1.1
theorem topI_spec {ns : List ByteArray} {us : List Nat} (hc : checkF ns us = 0) : ∃ t : Nat, topI us = (t : Int) ∧ t < us.length ∧ ∀ a, a < us.length → fl us a t = true := by
  obtain ⟨hm, ho, hL⟩ := checkF_may hc
  have hlw := low_of_may hm
  have h8 := (mayB_get hm).1
  have h256 := low_256 hm
  obtain ⟨t, ht, hta⟩ := has_top hlw ho hL (us.length - 1) (by omega)
  have hget : ∀ i, (hi : i < us.length) → us.getD i 0 = us[i] := fun i hi => by rw [List.getD_eq_getElem?_getD, List.getElem?_eq_getElem hi]; rfl
  have hpt : popc us[t] = 1 := by
    refine popc_of _ (h256 _ (List.getElem_mem ht)) t (by omega) ?_ fun j hj hb => ?_
    · rw [← hget t ht]; exact ho.1 t ht
    · rw [← hget t ht] at hb
      have hjl := hlw.bit ht (i := j) hb
      have h1 := hta j (by omega)
      by_cases h : j = t
      · exact h
      · exact absurd ⟨h1, hb⟩ (ho.2.1 j hjl t ht h)
  rcases idxF_cases (fun x => popc x == 1) us with ⟨_, hn⟩ | ⟨i, hi, hil, hp, _⟩
  · have := hn us[t] (List.getElem_mem ht)
    rw [hpt] at this; cases this
  · refine ⟨i, hi, hil, fun a ha => ?_⟩
    have hp1 : popc us[i] = 1 := by simpa using hp
    have hii := ho.1 i hil
    have hit := hta i (by omega)
    have : i = t := popc_one _ (h256 _ (List.getElem_mem hil)) i (by omega) t (by omega) hp1 (by rw [← hget i hil]; exact hii) (by rw [← hget i hil]; exact hit)
    rw [this]
    exact hta a (by omega)
end Go.Proofs.YtabliglgeiajlaaGreat.AM

namespace Go.Proofs.YtabliglgeiajlaaGreat.AM
open Go Go.RowKit Go.Proofs
theorem right_run {α : Type} (c : Cp α) {d d' : Dr} {x : α} (h : c.run d = .ok (d', x)) (hr : rightB d.l d.g d.a = true) : rightB d'.l d'.g d'.a = true := by
  induction c generalizing d with
  | ret z => simp only [Cp.run, Except.ok.injEq, Prod.mk.injEq] at h; obtain ⟨rfl, rfl⟩ := h; exact hr
  | bad e => simp [Cp.run] at h
  | take b k ih =>
    simp only [Cp.run] at h
    split at h
    · rename_i h0
      obtain ⟨h1, h2, h3, h4, h5, h6, h7⟩ := Cp.takeF_ok h0
      refine ih _ h ?_
      rw [h6]
      simp only [rightB, Bool.and_eq_true, decide_eq_true_eq, List.length_append, List.length_cons, List.length_nil] at hr ⊢
      split <;> omega
    · cases h
theorem deep_vI (sp : Sp) (us : List Nat) (o : Nat) (x : Int × Int × Int) : Cp.Deep 1 (vIC sp us o x) := by
  unfold vIC; split
  · exact Cp.deep_bind (n := 1) (m := 0) _ _ (deep_num _) (Cp.all_true _) fun v _ => trivial
  · exact deep_ret _ _
theorem deep_vA (sp : Sp) (us : List Nat) (o : Nat) (x : Int × Int) : Cp.Deep 1 (vAC sp us o x) := by
  unfold vAC; split
  · exact Cp.deep_bind (n := 1) (m := 0) _ _ (deep_num _) (Cp.all_true _) fun v _ => trivial
  · exact deep_ret _ _
theorem deep_vV (sp : Sp) (r : Bool) : Cp.Deep 1 (vVC sp r) := by
  unfold vVC; split
  · exact deep_one _
  · exact deep_num _
theorem deep_vS (sp : Sp) (us : List Nat) (o : Nat) (x : Bool × Int × Int) : Cp.Deep 1 (vSC sp us o x) := by
  unfold vSC; split
  · exact Cp.deep_bind (n := 1) (m := 0) _ _ (deep_vV _ _) (Cp.all_true _) fun v _ => trivial
  · exact deep_ret _ _
theorem deep_v1 (sp : Sp) (us : List Nat) (o : Nat) : Cp.Deep 3 (v1C sp us o) :=
  Cp.deep_bind (n := 1) (m := 2) _ _ (deep_one _) (Cp.all_true _) fun r _ => Cp.deep_bind (n := 1) (m := 1) _ _ (deep_one _) (Cp.all_true _) fun l _ => Cp.deep_bind (n := 1) (m := 0) _ _ (deep_vV _ _) (Cp.all_true _) fun v _ => trivial
theorem deep_more {sp : Sp} (h : SpOk sp) (us : List Nat) (o : Nat) (k : List (Bool × Int × Int)) : Cp.Deep 37 (moreC sp us o k) := by
  have h1 := h.s1
  unfold moreC oneC
  intro j h0 h2
  show Cp.Deep 36 (((v1C sp us o).times j.toNat).bind fun t => .ret (k ++ t))
  exact Cp.deep_mono _ (Cp.deep_bind (n := j.toNat * 3) (m := 0) _ _ (Cp.deep_times (deep_v1 sp us o) j.toNat) (Cp.all_true _) fun t _ => trivial) (by omega)
theorem deep_vary {sp : Sp} (h : SpOk sp) {us : List Nat} {o : Nat} {s : Sta} (hs : InSp us.length sp s) : Cp.Deep 69 (varyC sp us o s) := by
  have c1 := h.c1
  have m1 := h.m1
  have s1 := h.s1
  have c2 := hs.cl
  have m2 := hs.ml
  have s2 := hs.sl
  have s3 : (cropS us o s.stack).length ≤ s.stack.length := by unfold cropS; rw [List.length_take]; omega
  refine Cp.deep_bind (n := 12) (m := 57) _ _ (Cp.deep_mono _ (Cp.deep_map (deep_vI sp us o) _) (by omega)) (Cp.all_true _) fun c _ => Cp.deep_bind (n := 6) (m := 51) _ _ (Cp.deep_mono _ (Cp.deep_map (deep_vA sp us o) _) (by omega)) (Cp.all_true _) fun m _ => ?_
  split
  · exact Cp.deep_bind (n := 12) (m := 39) _ _ (Cp.deep_mono _ (Cp.deep_map (deep_vS sp us o) _) (by omega)) (Cp.all_true _) fun k _ => Cp.deep_bind (n := 37) (m := 2) _ _ (deep_more h us o k) (Cp.all_true _) fun t _ =>
      Cp.deep_bind (n := 1) (m := 1) _ _ (deep_one _) (Cp.all_true _) fun v _ => Cp.deep_bind (n := 1) (m := 0) _ _ (deep_one _) (Cp.all_true _) fun n _ => trivial
  · exact Cp.deep_mono _ (Cp.deep_bind (n := 12) (m := 0) _ _ (Cp.deep_mono _ (Cp.deep_map (deep_vS sp us o) _) (by omega)) (Cp.all_true _) fun k _ => trivial) (by omega)
def pairC (sp : Sp) (us : List Nat) (o : Nat) : Cp (Sta × Sta) := (genC us.length sp).bind fun a => (varyC sp us o a).bind fun b => .ret (a, b)
theorem pairC_all {sp : Sp} (h : SpOk sp) (us : List Nat) (o : Nat) : (pairC sp us o).All fun x => InSp us.length sp x.1 ∧ InSp us.length sp x.2 ∧ statesB us o x.1 x.2 = true :=
  Cp.all_bind _ _ (genC_all h) fun a ha => Cp.all_bind _ _ (varyC_all h ((inSp_iff h).1 ha)) fun b hb => ⟨(inSp_iff h).1 ha, hb.1, hb.2⟩
theorem deep_pair {sp : Sp} (h : SpOk sp) (us : List Nat) (o : Nat) : Cp.Deep 158 (pairC sp us o) :=
  Cp.deep_bind (n := 89) (m := 69) _ _ (deep_gen h) (genC_all h) fun a ha => Cp.deep_bind (n := 69) (m := 0) _ _ (deep_vary h ((inSp_iff h).1 ha)) (Cp.all_true _) fun b _ => trivial
theorem vary_nz (sp : Sp) (us : List Nat) (o : Nat) (s : Sta) (d : Dr) {e : Int} (h : (varyC sp us o s).run d = .error e) : e ≠ 0 := by
  have hi := (is_state ⟨true, true, [], us, sp, o⟩ s).1 d 0
  simp only [h] at hi
  exact hi.1
theorem pairC_nz {sp : Sp} (h : SpOk sp) (us : List Nat) (o : Nat) (d : Dr) {e : Int} (hr : (pairC sp us o).run d = .error e) : e ≠ 0 := by
  unfold pairC at hr
  rw [Cp.run_bind] at hr
  rcases run_gen h (n := us.length) d with ⟨e2, he, h1⟩ | ⟨d', s, cs, h1, _⟩
  · rw [h1] at hr; cases hr; exact he
  · rw [h1] at hr
    simp only [Cp.run_bind] at hr
    cases hv : (varyC sp us o s).run d' with
    | error e2 => rw [hv] at hr; cases hr; exact vary_nz _ _ _ _ _ hv
    | ok y => rw [hv] at hr; cases hr
def endP (r : Except Int (Dr × Sta × Sta)) : Dr × Sta × Sta × Int := match r with | .ok (d, a, b) => (d, a, b, 0) | .error e => (Dr.z, Sta.z, Sta.z, e)
theorem pairG_run {ns : List ByteArray} {us : List Nat} {sp : Sp} {o : Nat} (hm : mayG ns us sp = 0) (ho : oddL us.length (o : Int) = false) {l : List Int} (hl : l.length ≤ 500) :
    pairG ns us sp (o : Int) ⟨l, 0, []⟩ = endP ((pairC sp us o).run ⟨l, 0, []⟩) := by
  have hr : rightB l [] 0 = true := by simp [rightB]; omega
  have hsp := (mayG_ok hm).2
  have hg : genF ns us sp ⟨l, 0, []⟩ = endF Sta.z ((genC us.length sp).run ⟨l, 0, []⟩) := by unfold genF; rw [if_pos hm, if_pos hr]
  unfold pairG pairC
  rw [Cp.run_bind]
  rcases run_gen hsp (n := us.length) ⟨l, 0, []⟩ with ⟨e, he, h1⟩ | ⟨d', s, cs, h1, hb, _⟩
  · have hg2 : genF ns us sp ⟨l, 0, []⟩ = (Dr.z, Sta.z, e) := by rw [hg, h1]; rfl
    rw [hg2, h1]
    exact if_neg he
  · have hg2 : genF ns us sp ⟨l, 0, []⟩ = (d', s, 0) := by rw [hg, h1]; rfl
    rw [hg2, h1]
    have hr2 := right_run _ h1 hr
    have hv : varyG ns us sp (o : Int) s d' = endF Sta.z ((varyC sp us o s).run d') := by
      unfold varyG; rw [if_pos hm, if_pos hb, if_pos ho, if_pos hr2, Int.toNat_natCast]
    refine (if_pos rfl).trans ?_
    show (if (varyG ns us sp (o : Int) s d').2.2 = 0 then ((varyG ns us sp (o : Int) s d').1, s, (varyG ns us sp (o : Int) s d').2.1, 0) else (Dr.z, Sta.z, Sta.z, (varyG ns us sp (o : Int) s d').2.2)) = endP (((varyC sp us o s).bind fun b => Cp.ret (s, b)).run d')
    rw [Cp.run_bind]
    cases hq : (varyC sp us o s).run d' with
    | error e =>
      have hv2 : varyG ns us sp (o : Int) s d' = (Dr.z, Sta.z, e) := by rw [hv, hq]; rfl
      rw [hv2]
      exact if_neg (vary_nz _ _ _ _ _ hq)
    | ok y =>
      have hv2 : varyG ns us sp (o : Int) s d' = (y.1, y.2, 0) := by rw [hv, hq]; rfl
      rw [hv2]
      exact if_pos rfl
theorem inSp_labs {n : Nat} (hn : 1 ≤ n) {sp : Sp} {s : Sta} (h : InSp n sp s) : labF n s = true := by
  simp only [labF, okL, Bool.and_eq_true, Bool.not_eq_true', List.all_eq_true, List.mem_map, forall_exists_index, and_imp, forall_apply_eq_imp_iff₂]
  refine ⟨fun x hx => ?_, fun x hx => ?_, fun x hx => ?_, fun x hx => ?_, h.l⟩
  · have := (h.c x hx).1
    unfold instrB at this
    split at this
    · simp only [Bool.and_eq_true, Bool.not_eq_true'] at this; exact this.2
    · simp only [Bool.and_eq_true, decide_eq_true_eq] at this
      rw [this.2.1]; simp [oddL]; omega
  · have := (h.m x hx).1
    simp only [atomB, Bool.and_eq_true, Bool.not_eq_true'] at this
    exact this.2
  · have := (h.s x hx).1
    simp only [slotB, Bool.and_eq_true, Bool.not_eq_true'] at this
    exact this.1
  · rw [h.out] at hx; cases hx
theorem pair_no {ns : List ByteArray} {us : List Nat} {sp : Sp} {o : Int} {l : List Int} (hl : l.length ≤ 500) (h : ¬ (mayG ns us sp = 0 ∧ oddL us.length o = false)) : ∃ e, e ≠ 0 ∧ pairG ns us sp o ⟨l, 0, []⟩ = (Dr.z, Sta.z, Sta.z, e) := by
  have hr : rightB l [] 0 = true := by simp [rightB]; omega
  by_cases hm : mayG ns us sp = 0
  case neg =>
    refine ⟨mayG ns us sp, hm, ?_⟩
    have hg : genF ns us sp ⟨l, 0, []⟩ = (Dr.z, Sta.z, mayG ns us sp) := by unfold genF; rw [if_neg hm]
    unfold pairG
    rw [hg]
    exact if_neg hm
  have ho : ¬ oddL us.length o = false := fun ho => h ⟨hm, ho⟩
  obtain ⟨hc, hsp⟩ := mayG_ok hm
  have hg : genF ns us sp ⟨l, 0, []⟩ = endF Sta.z ((genC us.length sp).run ⟨l, 0, []⟩) := by unfold genF; rw [if_pos hm, if_pos hr]
  unfold pairG
  rcases run_gen hsp (n := us.length) ⟨l, 0, []⟩ with ⟨e, he, h1⟩ | ⟨d', s, cs, h1, hb, _⟩
  · refine ⟨e, he, ?_⟩
    have hg2 : genF ns us sp ⟨l, 0, []⟩ = (Dr.z, Sta.z, e) := by rw [hg, h1]; rfl
    rw [hg2]
    exact if_neg he
  · refine ⟨9, by decide, ?_⟩
    have hg2 : genF ns us sp ⟨l, 0, []⟩ = (d', s, 0) := by rw [hg, h1]; rfl
    have hv : varyG ns us sp o s d' = (Dr.z, Sta.z, 9) := by
      unfold varyG; rw [if_pos hm, if_pos hb, if_neg ho]
    rw [hg2]
    refine (if_pos rfl).trans ?_
    show (if (varyG ns us sp o s d').2.2 = 0 then ((varyG ns us sp o s d').1, s, (varyG ns us sp o s d').2.1, 0) else (Dr.z, Sta.z, Sta.z, (varyG ns us sp o s d').2.2)) = _
    rw [hv]
    rfl
theorem pair_cases (ns : List ByteArray) (us : List Nat) (sp : Sp) (o : Int) (l : List Int) (hl : l.length ≤ 500) : (∃ e, e ≠ 0 ∧ pairG ns us sp o ⟨l, 0, []⟩ = (Dr.z, Sta.z, Sta.z, e)) ∨
    ∃ d a b dg dt, pairG ns us sp o ⟨l, 0, []⟩ = (d, a, b, 0) ∧ mayG ns us sp = 0 ∧ hasF ns us sp a = true ∧ hasF ns us sp b = true ∧ may12F ns us o a b = 0 ∧ statesB us o.toNat a b = true ∧ Sml15 a ∧ Sml15 b ∧
      d.g.length ≤ 158 ∧ pairG ns us sp o ⟨d.g, 0, []⟩ = (dg, a, b, 0) ∧ pairG ns us sp (topI us) ⟨l, 0, []⟩ = (dt, a, a, 0) := by
  by_cases hmo : mayG ns us sp = 0 ∧ oddL us.length o = false
  case neg => exact .inl (pair_no hl hmo)
  obtain ⟨hm, ho⟩ := hmo
  obtain ⟨hc, hsp⟩ := mayG_ok hm
  have hul := us_of_may hc
  obtain ⟨O, rfl, hO⟩ := oddL_no ho
  obtain ⟨t, ht, ht1, ht2⟩ := topI_spec hc
  have hot : oddL us.length (t : Int) = false := oddL_iff.2 (by omega)
  rw [pairG_run hm ho hl, ht, pairG_run hm hot hl]
  cases hrun : (pairC sp us O).run ⟨l, 0, []⟩ with
  | error e => exact .inl ⟨e, pairC_nz hsp us O _ hrun, rfl⟩
  | ok x =>
    obtain ⟨d, a, b⟩ := x
    obtain ⟨g1, g2, g3⟩ := run_again (deep_pair hsp us O) (by omega) hrun
    obtain ⟨ia, ib, hst⟩ := Cp.all_path _ (pairC_all hsp us O) g1
    have ha := (inSp_iff hsp).2 ia
    have hb := (inSp_iff hsp).2 ib
    have hla := inSp_labs hul.1 ia
    have hlb := inSp_labs hul.1 ib
    have hgen : ∃ d1, (genC us.length sp).run ⟨l, 0, []⟩ = .ok (d1, a) := by
      unfold pairC at hrun
      rw [Cp.run_bind] at hrun
      cases h1 : (genC us.length sp).run ⟨l, 0, []⟩ with
      | error e => rw [h1] at hrun; cases hrun
      | ok y =>
        obtain ⟨d1, s⟩ := y
        rw [h1] at hrun
        simp only [Cp.run_bind] at hrun
        cases h2 : (varyC sp us O s).run d1 with
        | error e => rw [h2] at hrun; cases hrun
        | ok z =>
          obtain ⟨d2, s2⟩ := z
          rw [h2] at hrun
          simp only [Cp.run, Except.ok.injEq, Prod.mk.injEq] at hrun
          obtain ⟨_, rfl, _⟩ := hrun
          exact ⟨d1, rfl⟩
    obtain ⟨d1, hgen⟩ := hgen
    have htop : (pairC sp us t).run ⟨l, 0, []⟩ = .ok (d1, a, a) := by
      unfold pairC
      rw [Cp.run_bind, hgen]
      simp only
      rw [vary_top ia ht2]
      rfl
    refine .inr ⟨d, a, b, ⟨d.g, (d.g.length : Int), d.g⟩, d1, rfl, hm, ?_, ?_, ?_, ?_, hasB_sml ha, hasB_sml hb, g2, ?_, ?_⟩
    · unfold hasF; rw [ha, decide_eq_true hm]; rfl
    · unfold hasF; rw [hb, decide_eq_true hm]; rfl
    · unfold may12F; rw [if_pos hc, ho, hla, hlb]; rfl
    · rw [Int.toNat_natCast]; exact hst
    · rw [pairG_run hm ho (by omega), g3]; rfl
    · rw [htop]; rfl
end Go.Proofs.YtabliglgeiajlaaGreat.AM

namespace Go.Proofs.YtabliglgeiajlaaGreat.AM
open Go Go.RowKit Go.Proofs
set_option maxRecDepth 100000
set_option maxHeartbeats 4000000
theorem few16_fn (f g : Bool) (ns : List ByteArray) (us : List Nat) :
    Fn Tryz.prog 44 [.agg [.sl f 1 (strRow ns), .sl g 1 (u32Row us)]] [] (.agg [.sl false 1 (strRow ((ns.take 10).map cutS)), .sl false 1 (u32Row (us.take 10))]) [] := by
  refine Fn.of (fn := Tryz.f44) (by kernel_rfl) rfl (by kernel_rfl) ⟨[.agg [.sl f 1 (strRow ns), .sl g 1 (u32Row us)], .v undef, .v undef, .v undef, .v undef, .v undef, .v undef, .v undef, .v undef, .v undef, .v undef, .v undef, .v undef, .v undef, .v undef, .v undef, .v undef, .v undef, .v undef, .v undef, .v undef, .v undef, .v undef, .v undef, .v undef, .v undef, .v undef, .v undef, .v undef, .v undef, .v undef, .v undef, .v undef, .v undef, .v undef, .v undef, .v undef, .v undef], []⟩ rfl ?_
  repeat' first | (with_reducible first | refine AWP_seq' ?_ | refine k_normal ?_ | refine AWP_block ?_) | ((with_reducible refine And.intro ?_ ?_); · exact Sq) | ((with_reducible refine AWP_reg fun KC J hJ hKC => ?_); simp (maxSteps := 9999999) only [push_cast, seval, ↓reduceIte, take_minL (K := 10) (k := 10) rfl ns, take_minL (K := 10) (k := 10) rfl us]) | ((with_reducible refine hJ _ _ ?_); clear hJ hKC KC J)
  obtain ⟨xs, hxs⟩ : ∃ xs, ns.take 10 = xs := ⟨_, rfl⟩
  have hx10 : xs.length ≤ 10 := by rw [← hxs]; simp; omega
  rw [hxs]
  refine AWP_loopF (γ := {i : Nat // i ≤ xs.length}) (fun i => ⟨[.any, .ptr 0 0 0, .ptr 1 0 0, .ptr 2 0 0, .any, .any, .any, .any, .any, .any, .any, .any, .any, .any, .any, .any, .any, .any, .any, .any, .sl false 1 (strRow xs), .v (.int .i64 xs.length), .v (.int .i64 i.1), .any, .any, .any, .any, .any, .any, .any, .any, .any, .any, .any, .any, .any, .any, .any], fσ ⟨0, none, 25, [.sl f 1 (strRow ns), .sl g 1 (u32Row us)], .cells⟩ ⟨0, none, 25, [.v (.slice none 0 0), .v (.slice none 0 0)], .cells⟩ (.sl false 1 (u32Row (us.take 10))) xs i.1⟩) (fun i => xs.length - i.1) ⟨0, by simp⟩ ⟨?_, ?_⟩ ?_
  · exact Lq
  · simp only [fσ]
    exact Fq
  rintro ⟨i, hi⟩
  obtain ⟨e1, he1⟩ : ∃ e1 : Ent, ⟨0, none, 25, [.sl f 1 (strRow ns), .sl g 1 (u32Row us)], .cells⟩ = e1 := ⟨_, rfl⟩
  rw [he1]
  by_cases hlt : (i : Int) < (xs.length : Int)
  · have hx : xs[i]? = some xs[i] := List.getElem?_eq_getElem (by omega)
    obtain ⟨a, ha⟩ : ∃ a, xs[i] = a := ⟨_, rfl⟩
    rw [ha] at hx
    have hcut : a.extract 0 (if (15 : Int) < (a.size : Int) then 15 else (a.size : Int)).toNat = cutS a := rfl
    rcases Nat.eq_zero_or_pos i with rfl | hpos
    · have hσ := fσ_zero e1 ⟨0, none, 25, [.v (.slice none 0 0), .v (.slice none 0 0)], .cells⟩ (.sl false 1 (u32Row (us.take 10))) xs
      have hσ1 := fσ_one e1 ⟨0, none, 25, [.v (.slice none 0 0), .v (.slice none 0 0)], .cells⟩ (.sl false 1 (u32Row (us.take 10))) xs hx
      have hlt0 : (0 : Int) < xs.length := hlt
      repeat' first | (with_reducible first | refine AWP_seq' ?_ | refine k_normal ?_ | refine b_normal ?_ | refine AWP_skip ?_ | refine AWP_block ?_) | ((with_reducible refine And.intro ?_ ?_); · exact Sq) | ((first | with_reducible refine AWP_reg fun KC J hJ hKC => ?_ | with_reducible refine AWP_regD rfl fun KC J hJ hKC => ?_); simp (maxSteps := 9999999) only [push_cast, seval, ↓reduceIte, hlt0, hσ, getE_str hx, hcut]) | ((first | with_reducible refine hJ _ _ ?_ | (with_reducible refine hJ _ _ ?_ ?_; · kernel_rfl)); clear hJ hKC KC J) | ((with_reducible refine AWP_condT ?_ ?_); · rfl)
      refine ⟨⟨0 + 1, by omega⟩, by simp only; omega, ?_, ?_⟩
      · exact Lq
      · simp only [hσ1]
        exact Fq
    · obtain ⟨i', hi'⟩ : ∃ i', i = i' + 1 := ⟨i - 1, by omega⟩
      have hσ := fσ_pos e1 ⟨0, none, 25, [.v (.slice none 0 0), .v (.slice none 0 0)], .cells⟩ (.sl false 1 (u32Row (us.take 10))) xs hi'
      have hσ1 := fσ_succ e1 ⟨0, none, 25, [.v (.slice none 0 0), .v (.slice none 0 0)], .cells⟩ (.sl false 1 (u32Row (us.take 10))) xs hi' hx
      have hlS : (cellS (fewL xs i)).length = i := by simp [cellS, fewL_length hi]
      have htS := take_of hlS
      have htS' : (cellS (fewL xs i)).take i = cellS (fewL xs i) := List.take_of_length_le (by omega)
      have hbq : Nat.beq i' i' = true := Nat.beq_refl i'
      repeat' first | (with_reducible first | refine AWP_seq' ?_ | refine k_normal ?_ | refine b_normal ?_ | refine AWP_skip ?_ | refine AWP_block ?_) | ((with_reducible refine And.intro ?_ ?_); · exact Sq) | ((first | with_reducible refine AWP_reg fun KC J hJ hKC => ?_ | with_reducible refine AWP_regD rfl fun KC J hJ hKC => ?_); simp (maxSteps := 9999999) only [push_cast, seval, ↓reduceIte, hlt, hσ, getE_str hx, hcut, hbq, hlS, htS, htS', wrapN (i := i) (n := xs.length) (by omega) (by omega)]) | ((first | with_reducible refine hJ _ _ ?_ | (with_reducible refine hJ _ _ ?_ ?_; · kernel_rfl)); clear hJ hKC KC J) | ((with_reducible refine AWP_condT ?_ ?_); · rfl)
      refine ⟨⟨i + 1, by omega⟩, by simp only; omega, ?_, ?_⟩
      · exact Lq
      · simp only [hσ1]
        exact Fq
  · have hix : i = xs.length := by omega
    have hfin : fewL xs i = xs.map cutS := by rw [fewL, hix, List.take_length]
    rcases Nat.eq_zero_or_pos i with rfl | hpos
    · have hσ := fσ_zero e1 ⟨0, none, 25, [.v (.slice none 0 0), .v (.slice none 0 0)], .cells⟩ (.sl false 1 (u32Row (us.take 10))) xs
      have hlt0 : ¬ (0 : Int) < xs.length := hlt
      repeat' first | (with_reducible first | refine AWP_seq' ?_ | refine k_normal ?_ | refine k_exit ?_ | refine b_exit ?_ | refine AWP_ret ?_ | refine AWP_exit ?_) | ((with_reducible refine AWP_reg fun KC J hJ hKC => ?_); simp (maxSteps := 9999999) only [push_cast, seval, ↓reduceIte, hlt0, hσ]) | ((with_reducible refine hJ _ _ ?_); clear hJ hKC KC J) | ((with_reducible refine AWP_condF ?_ ?_); · rfl)
      refine ret_plain ?_
      simp (maxSteps := 9999999) only [push_cast, seval, ↓reduceIte, show Tryz.f44.results = #[(.cell 2 25)] from rfl]
      rw [← hfin]
      exact Lq
    · obtain ⟨i', hi'⟩ : ∃ i', i = i' + 1 := ⟨i - 1, by omega⟩
      have hσ := fσ_pos e1 ⟨0, none, 25, [.v (.slice none 0 0), .v (.slice none 0 0)], .cells⟩ (.sl false 1 (u32Row (us.take 10))) xs hi'
      have hbq : Nat.beq i' i' = true := Nat.beq_refl i'
      have hlS : (cellS (fewL xs i)).length = i := by simp [cellS, fewL_length hi]
      have hcS : chunk 1 i (cellS (fewL xs i)) = strRow (fewL xs i) := by
        have := chunk_one (fun s : ByteArray => (.v (.string s) : D)) (fewL xs i)
        rw [fewL_length hi] at this; exact this
      subst he1
      repeat' first | (with_reducible first | refine AWP_seq' ?_ | refine k_normal ?_ | refine k_exit ?_ | refine b_exit ?_ | refine AWP_exit ?_) | ((with_reducible refine AWP_reg fun KC J hJ hKC => ?_); simp (maxSteps := 9999999) only [push_cast, seval, ↓reduceIte, hlt, hσ]) | ((with_reducible refine hJ _ _ ?_); clear hJ hKC KC J) | ((with_reducible refine AWP_condF ?_ ?_); · rfl)
      refine AWP_freeze 4 rfl (by simp (maxSteps := 9999999) only [push_cast, seval, ↓reduceIte]) ?_
      simp (maxSteps := 9999999) only [push_cast, seval, ↓reduceIte, frSt, frSlot, fr3, fr2, fr1, fr0, sameB, arrOf, hbq, hlS, hcS]
      refine AWP_ret ?_
      refine ret_plain ?_
      simp (maxSteps := 9999999) only [push_cast, seval, ↓reduceIte, show Tryz.f44.results = #[(.cell 2 25)] from rfl]
      rw [← hfin]
      exact Lq
def nsQ16 : List ByteArray := [{ data := #[97] }, { data := #[98] }]
@[reducible] def sp16 : Sp := ⟨0, 2, 0, 5, List.replicate 13 1⟩
@[reducible] def s16 : Sta := ⟨0, 0, [], [(1, 1), (1, 0)], [], []⟩
theorem alive16_fn : Fn Tryz.prog 47 [] [] (.v (.bool true)) [] := by
  have hs : Szs nsQ16 := by
    intro s hs
    simp only [nsQ16, List.mem_cons, List.not_mem_nil, or_false] at hs
    rcases hs with rfl | rfl <;> (show 1 ≤ _; omega)
  have hu : U32 [3, 2] := by
    intro u hu
    simp at hu
    rcases hu with rfl | rfl <;> decide
  have sa : Sml s16 := ⟨by decide, by decide, by decide, by decide⟩
  have hrep : RleF [.v (.int .i64 0), .v (.int .i64 0), .sl false 3 [], .sl true 2 (pRow [(1, 1), (1, 0)]), .sl false 3 [], .sl false 2 []] (staF false false false false s16) :=
    .cons (.refl _) (.cons (.refl _) (.cons (.refl _) (.cons (.full _ _) (.cons (.refl _) (.cons (.refl _) .nil)))))
  have h1 := (vary_fn true true nsQ16 [3, 2] sp16 0 s16 ⟨[3], 0, []⟩ hs hu (by simp) sa).pre (args := [.agg [.sl true 1 (strRow nsQ16), .sl true 1 (u32Row [3, 2])], .agg (spF true sp16), .v (.int .i64 0), .agg [.v (.int .i64 0), .v (.int .i64 0), .sl false 3 [], .sl true 2 (pRow [(1, 1), (1, 0)]), .sl false 3 [], .sl false 2 []], encDr true false ⟨[3], 0, []⟩])
    (.cons (.refl _) (.cons (.agg (.cons (.refl _) (.cons (.refl _) (.cons (.refl _) (.cons (.refl _) (.cons (.full _ _) .nil)))))) (.cons (.refl _) (.cons (.agg hrep) (.cons (.agg (.cons (.full _ _) (.cons (.refl _) (.cons (.refl _) .nil)))) .nil)))))
  rw [show varyG nsQ16 [3, 2] sp16 0 s16 ⟨[3], 0, []⟩ = (⟨[3], 1, [3]⟩, ⟨0, 0, [], [(2, 1), (1, 0)], [], []⟩, 0) by kernel_rfl] at h1
  simp only [spF, sp16, encDr, staF] at h1
  have h2 := drNew_fn true [3]
  refine Fn.of (fn := Tryz.f47) (by kernel_rfl) rfl (by kernel_rfl) ⟨[.v undef, .v undef, .v undef, .v undef, .v undef, .v undef, .v undef, .v undef, .v undef, .v undef, .v undef, .v undef, .v undef, .v undef, .v undef, .v undef, .v undef, .v undef, .v undef, .v undef, .v undef, .v undef, .v undef, .v undef, .v undef, .v undef, .v undef, .v undef, .v undef, .v undef, .v undef, .v undef, .v undef, .v undef, .v undef, .v undef, .v undef, .v undef, .v undef, .v undef, .v undef, .v undef, .v undef, .v undef, .v undef, .v undef, .v undef, .v undef], []⟩ rfl ?_
  repeat' first | (with_reducible first | refine AWP_seq' ?_ | refine k_normal ?_ | refine AWP_ret ?_) | ((first | with_reducible refine AWP_reg fun KC J hJ hKC => ?_ | with_reducible refine AWP_regD rfl fun KC J hJ hKC => ?_ | (refine hKC _ _ _ _ _ (callV0 (h1) rfl rfl rfl ?_ ?_); (· exact Lq)) | (refine hKC _ _ _ _ _ (callV0 (h2) rfl rfl rfl ?_ ?_); (· exact Lq))); simp (maxSteps := 9999999) only [push_cast, seval, ↓reduceIte, getE_p (l := [(2, 1), (1, 0)]) (n := 0) rfl, getE_p (l := [(2, 1), (1, 0)]) (n := 1) rfl]) | ((first | with_reducible refine hJ _ _ ?_ | (with_reducible refine hJ _ _ ?_ ?_; · kernel_rfl)); clear hJ hKC KC J)
  refine ret_plain ?_
  simp (maxSteps := 9999999) only [push_cast, seval, ↓reduceIte, show Tryz.f47.results = #[(.tmp 0)] from rfl]
  exact Lq
end Go.Proofs.YtabliglgeiajlaaGreat.AM

namespace Go.Proofs.YtabliglgeiajlaaGreat.AM
open Go Go.RowKit Go.Proofs
set_option maxRecDepth 100000
set_option maxHeartbeats 4000000
theorem genSml {ns : List ByteArray} {us : List Nat} {sp : Sp} {l : List Int} (hl : l.length ≤ 500) : Sml (genF ns us sp ⟨l, 0, []⟩).2.1 := ((genF_small (ns := ns) (us := us) (sp := sp) (d := ⟨l, 0, []⟩) (by simp only; omega) (by simp)).1).sml
theorem varyAlike_fn (f g fl : Bool) (ns : List ByteArray) (us : List Nat) (sp : Sp) (o : Int) (l : List Int) (hu0 : U32 us) :
    Fn Tryz.prog 7 [.agg [.sl f 1 (strRow ns), .sl g 1 (u32Row us)], .agg (spF false sp), .v (.int .i64 o), .sl false 1 (intRow l)] [] (.v (.bool true)) [] := by
  have hs := szs_few ns
  have hu := u32_few hu0
  have h1 := few16_fn f g ns us
  obtain ⟨xs, hxs⟩ : ∃ xs, (ns.take 10).map cutS = xs := ⟨_, rfl⟩
  obtain ⟨ys, hys⟩ : ∃ xs, us.take 10 = xs := ⟨_, rfl⟩
  rw [hxs] at hs h1
  rw [hys] at hu h1
  obtain ⟨q, hq⟩ : ∃ q, spCut sp = q := ⟨_, rfl⟩
  have hqw : q.ws.length ≤ 1000 := by rw [← hq]; simp [spCut]; omega
  have q1 : sp.code = q.code := by rw [← hq]; rfl
  have q2 : sp.mem = q.mem := by rw [← hq]; rfl
  have q3 : sp.stack = q.stack := by rw [← hq]; rfl
  have q4 : sp.val = q.val := by rw [← hq]; rfl
  have q5 : sp.ws.take 16 = q.ws := by rw [← hq]; rfl
  obtain ⟨L, hL⟩ : ∃ L, l.take 500 = L := ⟨_, rfl⟩
  have hLl : L.length ≤ 500 := by rw [← hL]; simp; omega
  have n1 := drNew_fn false L
  have h3 := pair_fn false false xs ys q o ⟨L, 0, []⟩ hs hu hqw (fun _ => genSml hLl)
  have h6 := alive16_fn
  rcases pair_cases xs ys q o L hLl with ⟨e, he, hg⟩ | ⟨d, a, b, dg, dt, hg, hm, ha, hb, hmay, hst, sa, sb, hdl, hg2, hg3⟩
  · have he' : (e != 0) = true := by simpa using he
    simp only [hg, Dr.z, Sta.z, staF, encDr, spF] at h3
    simp only [spF]
    refine Fn.of (fn := Tryz.f7) (by kernel_rfl) rfl (by kernel_rfl) ⟨[.agg [.sl f 1 (strRow ns), .sl g 1 (u32Row us)], .agg [.v (.int .i64 sp.code), .v (.int .i64 sp.mem), .v (.int .i64 sp.stack), .v (.int .i64 sp.val), .sl false 1 (intRow sp.ws)], .v (.int .i64 o), .sl false 1 (intRow l), .v undef, .v undef, .v undef, .v undef, .v undef, .v undef, .v undef, .v undef, .v undef, .v undef, .v undef, .v undef, .v undef, .v undef, .v undef, .v undef, .v undef, .v undef, .v undef, .v undef, .v undef, .v undef, .v undef, .v undef, .v undef, .v undef, .v undef, .v undef, .v undef, .v undef, .v undef, .v undef, .v undef, .v undef, .v undef, .v undef, .v undef, .v undef, .v undef, .v undef, .v undef, .v undef, .v undef, .v undef, .v undef, .v undef, .v undef, .v undef, .v undef, .v undef, .v undef, .v undef, .v undef, .v undef, .v undef, .v undef, .v undef, .v undef, .v undef, .v undef, .v undef, .v undef, .v undef, .v undef, .v undef, .v undef, .v undef, .v undef, .v undef, .v undef, .v undef, .v undef, .v undef, .v undef, .v undef, .v undef, .v undef, .v undef, .v undef, .v undef, .v undef, .v undef, .v undef, .v undef, .v undef, .v undef, .v undef, .v undef, .v undef, .v undef, .v undef, .v undef, .v undef, .v undef, .v undef, .v undef, .v undef, .v undef, .v undef, .v undef, .v undef, .v undef, .v undef, .v undef, .v undef, .v undef, .v undef, .v undef, .v undef, .v undef, .v undef, .v undef, .v undef, .v undef, .v undef, .v undef, .v undef, .v undef, .v undef, .v undef, .v undef, .v undef, .v undef, .v undef, .v undef, .v undef, .v undef, .v undef, .v undef, .v undef, .v undef, .v undef, .v undef, .v undef, .v undef, .v undef, .v undef, .v undef, .v undef, .v undef, .v undef, .v undef, .v undef, .v undef, .v undef, .v undef, .v undef, .v undef, .v undef, .v undef, .v undef, .v undef, .v undef, .v undef, .v undef, .v undef, .v undef, .v undef, .v undef, .v undef, .v undef], []⟩ rfl ?_
    repeat' first | (with_reducible first | refine AWP_seq' ?_ | refine k_normal ?_ | refine k_ret ?_ | refine AWP_ret ?_) | ((with_reducible refine And.intro ?_ ?_); · exact Sq) | ((first | with_reducible refine AWP_reg fun KC J hJ hKC => ?_ | with_reducible refine AWP_regD rfl fun KC J hJ hKC => ?_ | (refine hKC _ _ _ _ _ (callV0 (h1) rfl rfl rfl ?_ ?_); (· exact Lq)) | (refine hKC _ _ _ _ _ (callV0 (h3) rfl rfl rfl ?_ ?_); (· exact Lq)) | (refine hKC _ _ _ _ _ (callV0 (h6) rfl rfl rfl ?_ ?_); (· exact Lq)) | (refine hKC _ _ _ _ _ (callV0 (n1) rfl rfl rfl ?_ ?_); (· exact Lq))); simp (maxSteps := 9999999) only [push_cast, seval, ↓reduceIte, q1, q2, q3, q4, q5, take_minL (K := 16) (k := 16) rfl sp.ws, take_minL (K := 500) (k := 500) rfl l, hL, he', undef, beq_self_eq_true]) | ((first | with_reducible refine hJ _ _ ?_ | (with_reducible refine hJ _ _ ?_ ?_; · kernel_rfl)); clear hJ hKC KC J) | ((with_reducible refine AWP_condT ?_ ?_); · rfl)
    refine ret_plain ?_
    simp (maxSteps := 9999999) only [push_cast, seval, ↓reduceIte, show Tryz.f7.results = #[(.tmp 8)] from rfl]
    exact Lq
  rw [hg] at h3
  have n2 := drNew_fn false d.g
  have h4 := genHas_fn false false false xs ys q a hs hu hqw sa.sml
  have h5 := genHas_fn false false false xs ys q b hs hu hqw sb.sml
  rw [ha, hm] at h4
  rw [hb, hm] at h5
  have e1 := apiStates_fn xs ys o a b hs hu sa sb
  rw [hmay, hst, decide_eq_true rfl] at e1
  have h7 := pair_fn false false xs ys q o ⟨d.g, 0, []⟩ hs hu hqw (fun _ => genSml (by omega))
  rw [hg2] at h7
  have tp := top_fn false false xs ys hs hu (mayG_ok hm).1
  have h8 := pair_fn false false xs ys q (topI ys) ⟨L, 0, []⟩ hs hu hqw (fun _ => genSml hLl)
  rw [hg3] at h8
  have z1 := rSame9_fn a a sa sa
  have z2 := rSame9_fn b b sb sb
  rw [show sameT a a = true from sameT_iff.2 rfl] at z1
  rw [show sameT b b = true from sameT_iff.2 rfl] at z2
  simp only [staF, encDr, spF] at h3 h4 h5 e1 h7 h8 z1 z2 ⊢
  refine Fn.of (fn := Tryz.f7) (by kernel_rfl) rfl (by kernel_rfl) ⟨[.agg [.sl f 1 (strRow ns), .sl g 1 (u32Row us)], .agg [.v (.int .i64 sp.code), .v (.int .i64 sp.mem), .v (.int .i64 sp.stack), .v (.int .i64 sp.val), .sl false 1 (intRow sp.ws)], .v (.int .i64 o), .sl false 1 (intRow l), .v undef, .v undef, .v undef, .v undef, .v undef, .v undef, .v undef, .v undef, .v undef, .v undef, .v undef, .v undef, .v undef, .v undef, .v undef, .v undef, .v undef, .v undef, .v undef, .v undef, .v undef, .v undef, .v undef, .v undef, .v undef, .v undef, .v undef, .v undef, .v undef, .v undef, .v undef, .v undef, .v undef, .v undef, .v undef, .v undef, .v undef, .v undef, .v undef, .v undef, .v undef, .v undef, .v undef, .v undef, .v undef, .v undef, .v undef, .v undef, .v undef, .v undef, .v undef, .v undef, .v undef, .v undef, .v undef, .v undef, .v undef, .v undef, .v undef, .v undef, .v undef, .v undef, .v undef, .v undef, .v undef, .v undef, .v undef, .v undef, .v undef, .v undef, .v undef, .v undef, .v undef, .v undef, .v undef, .v undef, .v undef, .v undef, .v undef, .v undef, .v undef, .v undef, .v undef, .v undef, .v undef, .v undef, .v undef, .v undef, .v undef, .v undef, .v undef, .v undef, .v undef, .v undef, .v undef, .v undef, .v undef, .v undef, .v undef, .v undef, .v undef, .v undef, .v undef, .v undef, .v undef, .v undef, .v undef, .v undef, .v undef, .v undef, .v undef, .v undef, .v undef, .v undef, .v undef, .v undef, .v undef, .v undef, .v undef, .v undef, .v undef, .v undef, .v undef, .v undef, .v undef, .v undef, .v undef, .v undef, .v undef, .v undef, .v undef, .v undef, .v undef, .v undef, .v undef, .v undef, .v undef, .v undef, .v undef, .v undef, .v undef, .v undef, .v undef, .v undef, .v undef, .v undef, .v undef, .v undef, .v undef, .v undef, .v undef, .v undef, .v undef, .v undef, .v undef, .v undef, .v undef, .v undef, .v undef, .v undef, .v undef], []⟩ rfl ?_
  repeat' first | (with_reducible first | refine AWP_seq' ?_ | refine k_normal ?_ | refine AWP_ret ?_ | refine AWP_skip ?_) | ((with_reducible refine And.intro ?_ ?_); · exact Sq) | ((first | with_reducible refine AWP_reg fun KC J hJ hKC => ?_ | with_reducible refine AWP_regD rfl fun KC J hJ hKC => ?_ | (refine hKC _ _ _ _ _ (callV0 (h1) rfl rfl rfl ?_ ?_); (· exact Lq)) | (refine hKC _ _ _ _ _ (callV0 (h3) rfl rfl rfl ?_ ?_); (· exact Lq)) | (refine hKC _ _ _ _ _ (callV0 (h4) rfl rfl rfl ?_ ?_); (· exact Lq)) | (refine hKC _ _ _ _ _ (callV0 (h5) rfl rfl rfl ?_ ?_); (· exact Lq)) | (refine hKC _ _ _ _ _ (callV0 (h6) rfl rfl rfl ?_ ?_); (· exact Lq)) | (refine hKC _ _ _ _ _ (callV0 (h7) rfl rfl rfl ?_ ?_); (· exact Lq)) | (refine hKC _ _ _ _ _ (callV0 (h8) rfl rfl rfl ?_ ?_); (· exact Lq)) | (refine hKC _ _ _ _ _ (callV0 (e1) rfl rfl rfl ?_ ?_); (· exact Lq)) | (refine hKC _ _ _ _ _ (callV0 (tp) rfl rfl rfl ?_ ?_); (· exact Lq)) | (refine hKC _ _ _ _ _ (callV0 (n1) rfl rfl rfl ?_ ?_); (· exact Lq)) | (refine hKC _ _ _ _ _ (callV0 (n2) rfl rfl rfl ?_ ?_); (· exact Lq)) | (refine hKC _ _ _ _ _ (callV0 (z1) rfl rfl rfl ?_ ?_); (· exact Lq)) | (refine hKC _ _ _ _ _ (callV0 (z2) rfl rfl rfl ?_ ?_); (· exact Lq))); simp (maxSteps := 9999999) only [push_cast, seval, ↓reduceIte, q1, q2, q3, q4, q5, take_minL (K := 16) (k := 16) rfl sp.ws, take_minL (K := 500) (k := 500) rfl l, hL, undef, beq_self_eq_true, bne_self_eq_false, Bool.true_and, Bool.and_true]) | ((first | with_reducible refine hJ _ _ ?_ | (with_reducible refine hJ _ _ ?_ ?_; · kernel_rfl)); clear hJ hKC KC J) | ((with_reducible refine AWP_condF ?_ ?_); · rfl)
  refine ret_plain ?_
  simp (maxSteps := 9999999) only [push_cast, seval, ↓reduceIte, show Tryz.f7.results = #[(.tmp 8)] from rfl]
  exact Lq
end Go.Proofs.YtabliglgeiajlaaGreat.AM

namespace Go.Proofs.YtabliglgeiajlaaGreat.AM
open Go Go.RowKit Go.Proofs
set_option maxRecDepth 100000
abbrev kInt : Kk := .int .i64
abbrev kInts : Kk := .sl kInt
theorem conf_int : Conf Tryz.prog (.ty 3) kInt := .int Tryz.underlying3
theorem conf_ints : Conf Tryz.prog (.ty 26) kInts := .sl Tryz.underlying26 (by kernel_rfl) (by decide) conf_int
theorem is_int {e : D} (h : Shape kInt [e]) : ∃ n, e = .v (.int .i64 n) := by obtain ⟨n, rfl, _⟩ := shape_int h; exact ⟨n, rfl⟩
theorem is_ints {e : D} (h : Shape kInts [e]) : ∃ l, e = .sl false 1 (intRow l) ∧ l.length ≤ maxLen := by
  obtain ⟨xs, rfl, h1, h2⟩ := shape_sl h
  obtain ⟨l, rfl⟩ := shape_rows (fun n : Int => [D.v (.int .i64 n)]) (fun x hx => by
    obtain ⟨e, rfl, he⟩ := shape_one hx rfl
    obtain ⟨n, rfl⟩ := is_int he
    exact ⟨n, rfl⟩) h1
  exact ⟨l, rfl, by simpa using h2⟩
end Go.Proofs.YtabliglgeiajlaaGreat.AM

namespace Go.Proofs.YtabliglgeiajlaaGreat.AM
open Go Go.RowKit Go.Proofs
set_option maxRecDepth 100000
abbrev kStr : Kk := .str
abbrev kStrs : Kk := .sl kStr
abbrev kU32 : Kk := .int .u32
abbrev kU32s : Kk := .sl kU32
abbrev kLat : Kk := .pair kStrs (.pair kU32s .unit)
theorem conf_str : Conf Tryz.prog (.ty 9) kStr := .str Tryz.underlying9
theorem conf_strs : Conf Tryz.prog (.ty 22) kStrs := .sl Tryz.underlying22 (by kernel_rfl) (by decide) conf_str
theorem conf_u32 : Conf Tryz.prog (.ty 98) kU32 := .int Tryz.underlying98
theorem conf_u32s : Conf Tryz.prog (.ty 23) kU32s := .sl Tryz.underlying23 (by kernel_rfl) (by decide) conf_u32
theorem conf_lat : Conf Tryz.prog (.ty 25) (.st kLat) := .st Tryz.underlying25 (by kernel_rfl) (.pair rfl (by kernel_rfl) conf_strs (.pair rfl (by kernel_rfl) conf_u32s .unit))
theorem is_str {e : D} (h : Shape kStr [e]) : ∃ s : ByteArray, e = .v (.string s) ∧ s.size ≤ maxLen := shape_str h
theorem is_strs {e : D} (h : Shape kStrs [e]) : ∃ l, e = .sl false 1 (strRow l) ∧ (∀ s ∈ l, s.size ≤ maxLen) ∧ l.length ≤ maxLen := by
  obtain ⟨xs, rfl, h1, h2⟩ := shape_sl h
  obtain ⟨l, rfl⟩ := shape_rows (fun s : { s : ByteArray // s.size ≤ maxLen } => [D.v (.string s.1)]) (fun x hx => by
    obtain ⟨e, rfl, he⟩ := shape_one hx rfl
    obtain ⟨n, rfl, hn⟩ := is_str he
    exact ⟨⟨n, hn⟩, rfl⟩) h1
  refine ⟨l.map (·.1), by simp [strRow, List.map_map]; rfl, fun s hs => ?_, by simpa using h2⟩
  obtain ⟨x, _, rfl⟩ := List.mem_map.1 hs
  exact x.2
theorem is_u32 {e : D} (h : Shape kU32 [e]) : ∃ u : Nat, e = .v (.int .u32 (uv u)) ∧ u < 2 ^ 32 := by
  obtain ⟨n, rfl, hw⟩ := shape_int h
  have h2 : 0 ≤ n ∧ n < 4294967296 := by
    simp only [Lit.wf, Bool.and_eq_true, decide_eq_true_eq] at hw
    have e1 : IntKind.u32.min = 0 := rfl
    have e2 : IntKind.u32.max = 4294967295 := by decide
    omega
  refine ⟨n.toNat, ?_, by omega⟩
  rw [uv, Int.toNat_of_nonneg h2.1]
theorem is_u32s {e : D} (h : Shape kU32s [e]) : ∃ l, e = .sl false 1 (u32Row l) ∧ U32 l ∧ l.length ≤ maxLen := by
  obtain ⟨xs, rfl, h1, h2⟩ := shape_sl h
  obtain ⟨l, rfl⟩ := shape_rows (fun u : { u : Nat // u < 2 ^ 32 } => [D.v (.int .u32 (uv u.1))]) (fun x hx => by
    obtain ⟨e, rfl, he⟩ := shape_one hx rfl
    obtain ⟨n, rfl, hn⟩ := is_u32 he
    exact ⟨⟨n, hn⟩, rfl⟩) h1
  refine ⟨l.map (·.1), by simp [u32Row, List.map_map]; rfl, fun s hs => ?_, by simpa using h2⟩
  obtain ⟨x, _, rfl⟩ := List.mem_map.1 hs
  exact x.2
structure NsOk (ns : List ByteArray) : Prop where
  szs : Szs ns
  len : ns.length ≤ maxLen
structure UsOk (us : List Nat) : Prop where
  u32 : U32 us
  len : us.length ≤ maxLen
theorem is_lat {ds : List D} (h : Shape kLat ds) : ∃ ns us, D.agg ds = .agg [.sl false 1 (strRow ns), .sl false 1 (u32Row us)] ∧ NsOk ns ∧ UsOk us := by
  obtain ⟨a, b, rfl, h1, h2⟩ := shape_pair h
  obtain ⟨c, d, rfl, h3, h4⟩ := shape_pair h2
  cases shape_unit h4
  obtain ⟨e1, rfl, h1⟩ := shape_one h1 rfl
  obtain ⟨e2, rfl, h3⟩ := shape_one h3 rfl
  obtain ⟨ns, rfl, h5, h6⟩ := is_strs h1
  obtain ⟨us, rfl, h7, h8⟩ := is_u32s h3
  exact ⟨ns, us, rfl, ⟨fun s hs => Nat.le_trans (h5 s hs) (by decide), h6⟩, ⟨h7, h8⟩⟩
end Go.Proofs.YtabliglgeiajlaaGreat.AM

namespace Go.Proofs.YtabliglgeiajlaaGreat.AM
open Go Go.RowKit Go.Proofs
set_option maxRecDepth 100000
abbrev kSpace : Kk := .pair kInt (.pair kInt (.pair kInt (.pair kInt (.pair kInts .unit))))
theorem conf_space : Conf Tryz.prog (.ty 28) (.st kSpace) := .st Tryz.underlying28 (by kernel_rfl) (.pair rfl (by kernel_rfl) conf_int (.pair rfl (by kernel_rfl) conf_int (.pair rfl (by kernel_rfl) conf_int (.pair rfl (by kernel_rfl) conf_int (.pair rfl (by kernel_rfl) conf_ints .unit)))))
theorem is_space {ds : List D} (h : Shape kSpace ds) : ∃ sp : Sp, D.agg ds = .agg (spF false sp) := by
  obtain ⟨a1, b1, rfl, h1, g1⟩ := shape_pair h
  obtain ⟨a2, b2, rfl, h2, g2⟩ := shape_pair g1
  obtain ⟨a3, b3, rfl, h3, g3⟩ := shape_pair g2
  obtain ⟨a4, b4, rfl, h4, g4⟩ := shape_pair g3
  obtain ⟨a5, b5, rfl, h5, g5⟩ := shape_pair g4
  cases shape_unit g5
  obtain ⟨e1, rfl, h1⟩ := shape_one h1 rfl
  obtain ⟨e2, rfl, h2⟩ := shape_one h2 rfl
  obtain ⟨e3, rfl, h3⟩ := shape_one h3 rfl
  obtain ⟨e4, rfl, h4⟩ := shape_one h4 rfl
  obtain ⟨e5, rfl, h5⟩ := shape_one h5 rfl
  obtain ⟨n1, rfl⟩ := is_int h1
  obtain ⟨n2, rfl⟩ := is_int h2
  obtain ⟨n3, rfl⟩ := is_int h3
  obtain ⟨n4, rfl⟩ := is_int h4
  obtain ⟨ws, rfl, _⟩ := is_ints h5
  exact ⟨⟨n1, n2, n3, n4, ws⟩, rfl⟩
end Go.Proofs.YtabliglgeiajlaaGreat.AM
