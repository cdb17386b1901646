/- Numbers with a sign. -/
import Derived.Test.YtabliglgeiajlaaGreatU2
set_option linter.unusedSimpArgs false
set_option linter.unusedVariables false
namespace Go.Proofs.YtabliglgeiajlaaGreat.AM
open Go Go.RowKit Go.Proofs
set_option maxRecDepth 100000
set_option maxHeartbeats 400000
attribute [push_cast] encDr encT13

theorem and_one (n : Int) : ibits .and .i64 n 1 = n % 2 := by
  have h : (BitVec.ofInt 64 n &&& BitVec.ofInt 64 1).toNat = (n % 2).toNat := by
    rw [BitVec.toNat_and, BitVec.toNat_ofInt, BitVec.toNat_ofInt]
    rw [show ((1 : Int) % ((2 ^ 64 : Nat) : Int)).toNat = 1 from by decide, Nat.and_one_is_mod]
    omega
  show IntKind.i64.wrap ((BitVec.ofInt 64 n &&& BitVec.ofInt 64 1).toNat : Int) = n % 2
  rw [h, wrapI (by omega) (by omega)]
  omega
theorem choiceI_range (l : List Int) (a : Int) {b : Int} (hb : 1 ≤ b) : 0 ≤ choiceI l a b ∧ choiceI l a b < b := by
  unfold choiceI
  split
  · exact ⟨Int.emod_nonneg _ (by omega), Int.emod_lt_of_pos _ (by omega)⟩
  · omega
/-- The number that a choice makes. -/
def madeI (n : Int) : Int := if n % 2 = 1 then (n + 1) / 2 else - (n / 2)
def signedF (d : Dr) (most : Int) : Dr × Int × Int :=
  if most < 0 ∨ 20 < most then (Dr.z, 0, 1)
  else if (takeF d (2 * most + 1)).2.2 = 0 then ((takeF d (2 * most + 1)).1, madeI (takeF d (2 * most + 1)).2.1, 0) else (Dr.z, 0, (takeF d (2 * most + 1)).2.2)
theorem takeF_cases (d : Dr) (b : Int) : (∃ e, takeF d b = (Dr.z, 0, e) ∧ e ≠ 0) ∨ ((takeF d b).2.2 = 0 ∧ 1 ≤ b ∧ rightB d.l d.g d.a = true ∧ (takeF d b).2.1 = choiceI d.l d.a b) := by
  unfold takeF
  split
  · exact .inl ⟨1, rfl, by decide⟩
  · rename_i h
    split
    · exact .inl ⟨8, rfl, by decide⟩
    · refine .inr ⟨rfl, by omega, ?_, rfl⟩
      cases hr : rightB d.l d.g d.a with
      | true => rfl
      | false => exact absurd (.inl hr) h
theorem takeF_num (d : Dr) (b : Int) (hb : 1 ≤ b) : 0 ≤ (takeF d b).2.1 ∧ (takeF d b).2.1 < b := by
  rcases takeF_cases d b with ⟨e, h, _⟩ | ⟨_, _, _, h⟩
  · rw [h]; simp only; omega
  · rw [h]; exact choiceI_range _ _ hb
theorem signed_fn (f g : Bool) (l lg : List Int) (a most : Int) :
    Fn Tryz.prog 274 [.agg [.sl f 1 (intRow l), .v (.int .i64 a), .sl g 1 (intRow lg)], .v (.int .i64 most)] []
      (.tup [encDr f false (signedF ⟨l, a, lg⟩ most).1, .v (.int .i64 (signedF ⟨l, a, lg⟩ most).2.1), .v (.int .i64 (signedF ⟨l, a, lg⟩ most).2.2)]) [] := by
  refine Fn.of (fn := Tryz.f274) (by kernel_rfl) rfl (by kernel_rfl) ⟨[.agg [.sl f 1 (intRow l), .v (.int .i64 a), .sl g 1 (intRow lg)], .v (.int .i64 most), .v undef, .v undef, .v undef, .v undef, .v undef, .v undef, .v undef, .v undef, .v undef, .v undef, .v undef, .v undef, .v undef, .v undef, .v undef, .v undef, .v undef, .v undef, .v undef, .v undef, .v undef, .v undef, .v undef, .v undef, .v undef, .v undef, .v undef, .v undef, .v undef, .v undef, .v undef, .v undef, .v undef, .v undef, .v undef, .v undef, .v undef, .v undef, .v undef, .v undef], []⟩ rfl ?_
  by_cases h1 : most < 0
  · skip
    repeat' first | (with_reducible first | refine AWP_seq' ?_ | refine k_normal ?_ | refine k_ret ?_ | refine AWP_ret ?_) | ((with_reducible refine AWP_reg fun KC J hJ hKC => ?_); simp (maxSteps := 10000000) only [push_cast, seval, ↓reduceIte, h1]) | ((with_reducible refine hJ _ _ ?_); clear hJ hKC KC J) | ((with_reducible refine AWP_condT ?_ ?_); · rfl)
    refine ret_plain ?_
    simp (maxSteps := 10000000) only [push_cast, seval, ↓reduceIte, show Tryz.f274.results = #[(.cell 4 30), (.tmp 5), (.tmp 6)] from rfl]
    rw [show signedF ⟨l, a, lg⟩ most = (Dr.z, 0, 1) from if_pos (.inl h1)]
    exact Lq
  by_cases h2 : 20 < most
  · skip
    repeat' first | (with_reducible first | refine AWP_seq' ?_ | refine k_normal ?_ | refine k_ret ?_ | refine AWP_ret ?_) | ((with_reducible refine AWP_reg fun KC J hJ hKC => ?_); simp (maxSteps := 10000000) only [push_cast, seval, ↓reduceIte, h1, h2]) | ((with_reducible refine hJ _ _ ?_); clear hJ hKC KC J) | ((with_reducible refine AWP_condT ?_ ?_); · rfl)
    refine ret_plain ?_
    simp (maxSteps := 10000000) only [push_cast, seval, ↓reduceIte, show Tryz.f274.results = #[(.cell 4 30), (.tmp 5), (.tmp 6)] from rfl]
    rw [show signedF ⟨l, a, lg⟩ most = (Dr.z, 0, 1) from if_pos (.inr h2)]
    exact Lq
  have w1 : IntKind.i64.wrap (2 * most) = 2 * most := wrapI (by omega) (by omega)
  have w2 : IntKind.i64.wrap (2 * most + 1) = 2 * most + 1 := wrapI (by omega) (by omega)
  obtain ⟨t, ht⟩ : ∃ t, takeF ⟨l, a, lg⟩ (2 * most + 1) = t := ⟨_, rfl⟩
  have hn := takeF_num ⟨l, a, lg⟩ (2 * most + 1) (by omega)
  have hs : signedF ⟨l, a, lg⟩ most = if t.2.2 = 0 then (t.1, madeI t.2.1, 0) else (Dr.z, 0, t.2.2) := by rw [← ht]; exact if_neg (by omega)
  rw [ht] at hn
  rw [hs]
  repeat' first | (with_reducible first | refine AWP_seq' ?_ | refine k_normal ?_ | refine k_ret ?_ | refine b_normal ?_ | refine b_ret ?_ | refine AWP_ret ?_ | refine AWP_skip ?_ | refine AWP_block ?_) | ((with_reducible refine AWP_reg fun KC J hJ hKC => ?_); simp (maxSteps := 10000000) only [push_cast, seval, ↓reduceIte, h1, h2, w1, w2, and_one, ht]) | (refine' hKC _ _ _ _ _ (callV0 (take_fn _ _ _ _ _ _ ?_) rfl rfl rfl ?_ ?_); (rotate_left 7); (· exact Lq); (rotate_left 1); (iterate 1 (· exact Hq)); simp (maxSteps := 10000000) only [push_cast, seval, ↓reduceIte, h1, h2, w1, w2, and_one, ht]) | ((with_reducible refine hJ _ _ ?_); clear hJ hKC KC J) | ((with_reducible refine AWP_condF ?_ ?_); · rfl) | (refine AWP_cond rfl (fun h => ?_) (fun h => ?_) <;> try simp only [decide_eq_true_eq, decide_eq_false_iff_not, Bool.not_eq_true', Bool.not_eq_false', beq_iff_eq, bne_iff_ne, ne_eq, Bool.not_eq_true, Bool.or_eq_true, Bool.and_eq_true, Bool.or_eq_false_iff, Bool.and_eq_false_imp, beq_eq_false_iff_ne, bne_eq_false_iff_eq] at h)
  · refine ret_plain ?_
    simp (maxSteps := 10000000) only [push_cast, seval, ↓reduceIte, show Tryz.f274.results = #[(.cell 4 30), (.tmp 5), (.tmp 6)] from rfl]
    rw [if_neg h]
    exact Lq
  · refine ret_plain ?_
    simp (maxSteps := 10000000) only [push_cast, seval, ↓reduceIte, show Tryz.f274.results = #[(.cell 4 30), (.tmp 5), (.tmp 6)] from rfl]
    rw [if_pos (by assumption), wrapI (n := t.2.1 + 1) (by omega) (by omega), Int.tdiv_eq_ediv_of_nonneg (by omega), wrapI (by omega) (by omega)]
    simp only [madeI, if_pos h]
    exact Lq
  · refine ret_plain ?_
    simp (maxSteps := 10000000) only [push_cast, seval, ↓reduceIte, show Tryz.f274.results = #[(.cell 4 30), (.tmp 5), (.tmp 6)] from rfl]
    have e : Int.tdiv (-t.2.1) 2 = - (t.2.1 / 2) := by rw [Int.neg_tdiv, Int.tdiv_eq_ediv_of_nonneg (by omega)]
    rw [if_pos (by assumption), Int.zero_sub, wrapI (n := -t.2.1) (by omega) (by omega), e, wrapI (by omega) (by omega)]
    simp only [madeI, if_neg h]
    exact Lq
theorem made_fn (n : Int) (h0 : 0 ≤ n) (h1 : n ≤ 1000) : Fn Tryz.prog 258 [.v (.int .i64 n)] [] (.v (.int .i64 (madeI n))) [] := by
  have e1 : Int.tmod n 2 = n % 2 := Int.tmod_eq_emod_of_nonneg h0
  have e2 : Int.tdiv n 2 = n / 2 := Int.tdiv_eq_ediv_of_nonneg h0
  refine Fn.of (fn := Tryz.f258) (by kernel_rfl) rfl (by kernel_rfl) ⟨[.v (.int .i64 n), .v undef, .v undef, .v undef, .v undef, .v undef, .v undef, .v undef, .v undef, .v undef, .v undef, .v undef], []⟩ rfl ?_
  repeat' first | (with_reducible first | refine AWP_seq' ?_ | refine k_normal ?_ | refine k_ret ?_ | refine AWP_ret ?_ | refine AWP_skip ?_) | ((with_reducible refine AWP_reg fun KC J hJ hKC => ?_); simp (maxSteps := 10000000) only [push_cast, seval, ↓reduceIte, e1, e2]) | ((with_reducible refine hJ _ _ ?_); clear hJ hKC KC J) | (refine AWP_cond rfl (fun h => ?_) (fun h => ?_) <;> try simp only [decide_eq_true_eq, decide_eq_false_iff_not, Bool.not_eq_true', Bool.not_eq_false', beq_iff_eq, bne_iff_ne, ne_eq, Bool.not_eq_true, Bool.or_eq_true, Bool.and_eq_true, Bool.or_eq_false_iff, Bool.and_eq_false_imp, beq_eq_false_iff_ne, bne_eq_false_iff_eq] at h)
  · refine ret_plain ?_
    simp (maxSteps := 10000000) only [push_cast, seval, ↓reduceIte, show Tryz.f258.results = #[(.tmp 2)] from rfl]
    rw [wrapI (n := n / 2) (by omega) (by omega), wrapI (by omega) (by omega)]
    exact leD_v (by simp only [madeI, if_pos h]; congr 1; omega)
  · refine ret_plain ?_
    simp (maxSteps := 10000000) only [push_cast, seval, ↓reduceIte, show Tryz.f258.results = #[(.tmp 2)] from rfl]
    rw [wrapI (n := n / 2) (by omega) (by omega), wrapI (by omega) (by omega)]
    exact leD_v (by simp only [madeI, if_neg h]; congr 1; omega)
theorem rSigned_fn (f g : Bool) (l lg : List Int) (a most : Int) :
    Fn Tryz.prog 280 [.agg [.sl f 1 (intRow l), .v (.int .i64 a), .sl g 1 (intRow lg)], .v (.int .i64 most)] [] (encT13 f false (signedF ⟨l, a, lg⟩ most)) [] := by
  refine Fn.of (fn := Tryz.f280) (by kernel_rfl) rfl (by kernel_rfl) ⟨[.agg [.sl f 1 (intRow l), .v (.int .i64 a), .sl g 1 (intRow lg)], .v (.int .i64 most), .v undef, .v undef, .v undef, .v undef, .v undef, .v undef, .v undef, .v undef, .v undef, .v undef, .v undef, .v undef, .v undef, .v undef, .v undef, .v undef, .v undef, .v undef, .v undef, .v undef, .v undef, .v undef, .v undef, .v undef], []⟩ rfl ?_
  by_cases h1 : most < 0
  · skip
    repeat' first | (with_reducible first | refine AWP_seq' ?_ | refine k_normal ?_ | refine k_ret ?_ | refine AWP_ret ?_) | ((with_reducible refine AWP_reg fun KC J hJ hKC => ?_); simp (maxSteps := 10000000) only [push_cast, seval, ↓reduceIte, h1]) | ((with_reducible refine hJ _ _ ?_); clear hJ hKC KC J) | ((with_reducible refine AWP_condT ?_ ?_); · rfl)
    refine ret_plain ?_
    simp (maxSteps := 10000000) only [push_cast, seval, ↓reduceIte, show Tryz.f280.results = #[(.cell 4 272)] from rfl]
    rw [show signedF ⟨l, a, lg⟩ most = (Dr.z, 0, 1) from if_pos (.inl h1)]
    exact Lq
  by_cases h2 : 20 < most
  · skip
    repeat' first | (with_reducible first | refine AWP_seq' ?_ | refine k_normal ?_ | refine k_ret ?_ | refine AWP_ret ?_) | ((with_reducible refine AWP_reg fun KC J hJ hKC => ?_); simp (maxSteps := 10000000) only [push_cast, seval, ↓reduceIte, h1, h2]) | ((with_reducible refine hJ _ _ ?_); clear hJ hKC KC J) | ((with_reducible refine AWP_condT ?_ ?_); · rfl)
    refine ret_plain ?_
    simp (maxSteps := 10000000) only [push_cast, seval, ↓reduceIte, show Tryz.f280.results = #[(.cell 4 272)] from rfl]
    rw [show signedF ⟨l, a, lg⟩ most = (Dr.z, 0, 1) from if_pos (.inr h2)]
    exact Lq
  have w1 : IntKind.i64.wrap (2 * most) = 2 * most := wrapI (by omega) (by omega)
  have w2 : IntKind.i64.wrap (2 * most + 1) = 2 * most + 1 := wrapI (by omega) (by omega)
  obtain ⟨t, ht⟩ : ∃ t, takeF ⟨l, a, lg⟩ (2 * most + 1) = t := ⟨_, rfl⟩
  have hn := takeF_num ⟨l, a, lg⟩ (2 * most + 1) (by omega)
  have hc := takeF_cases ⟨l, a, lg⟩ (2 * most + 1)
  have hs : signedF ⟨l, a, lg⟩ most = if t.2.2 = 0 then (t.1, madeI t.2.1, 0) else (Dr.z, 0, t.2.2) := by rw [← ht]; exact if_neg (by omega)
  rw [ht] at hn hc
  rw [hs]
  repeat' first | (with_reducible first | refine AWP_seq' ?_ | refine k_normal ?_ | refine AWP_ret ?_ | refine AWP_skip ?_) | ((with_reducible refine AWP_reg fun KC J hJ hKC => ?_); simp (maxSteps := 10000000) only [push_cast, seval, ↓reduceIte, h1, h2, w1, w2, ht]) | (refine' hKC _ _ _ _ _ (callV0 (rTake_fn _ _ _ _ _ _ ?_) rfl rfl rfl ?_ ?_); (rotate_left 7); (· exact Lq); (rotate_left 1); (iterate 1 (· exact Hq)); simp (maxSteps := 10000000) only [push_cast, seval, ↓reduceIte, h1, h2, w1, w2, ht]) | (refine' hKC _ _ _ _ _ (callV0 (made_fn _ ?_ ?_) rfl rfl rfl ?_ ?_); (rotate_left 3); (· exact Lq); (rotate_left 1); (iterate 2 (· exact Hq)); simp (maxSteps := 10000000) only [push_cast, seval, ↓reduceIte, h1, h2, w1, w2, ht]) | ((with_reducible refine hJ _ _ ?_); clear hJ hKC KC J) | ((with_reducible refine AWP_condF ?_ ?_); · rfl) | (refine AWP_cond rfl (fun h => ?_) (fun h => ?_) <;> try simp only [decide_eq_true_eq, decide_eq_false_iff_not, Bool.not_eq_true', Bool.not_eq_false', beq_iff_eq, bne_iff_ne, ne_eq, Bool.not_eq_true, Bool.or_eq_true, Bool.and_eq_true, Bool.or_eq_false_iff, Bool.and_eq_false_imp, beq_eq_false_iff_ne, bne_eq_false_iff_eq] at h)
  · refine ret_plain ?_
    simp (maxSteps := 10000000) only [push_cast, seval, ↓reduceIte, show Tryz.f280.results = #[(.cell 4 272)] from rfl]
    rw [if_pos h, h]
    exact Lq
  · refine ret_plain ?_
    simp (maxSteps := 10000000) only [push_cast, seval, ↓reduceIte, show Tryz.f280.results = #[(.cell 4 272)] from rfl]
    rw [if_neg h]
    rcases hc with ⟨e, rfl, _⟩ | ⟨hc, _⟩
    · exact Lq
    · exact absurd hc h
def unsignedF (most n : Int) : Int × Int :=
  if most < 0 ∨ 20 < most then (0, 1) else if n < - most ∨ most < n then (0, 9) else if 0 < n then (2 * n - 1, 0) else (-2 * n, 0)
theorem unsigned_fn (most n : Int) : Fn Tryz.prog 256 [.v (.int .i64 most), .v (.int .i64 n)] [] (.tup [.v (.int .i64 (unsignedF most n).1), .v (.int .i64 (unsignedF most n).2)]) [] := by
  refine Fn.of (fn := Tryz.f256) (by kernel_rfl) rfl (by kernel_rfl) ⟨[.v (.int .i64 most), .v (.int .i64 n), .v undef, .v undef, .v undef, .v undef, .v undef, .v undef, .v undef, .v undef, .v undef, .v undef, .v undef, .v undef, .v undef, .v undef, .v undef, .v undef, .v undef, .v undef, .v undef, .v undef, .v undef, .v undef, .v undef, .v undef, .v undef, .v undef, .v undef, .v undef, .v undef], []⟩ rfl ?_
  by_cases h1 : most < 0
  · skip
    repeat' first | (with_reducible first | refine AWP_seq' ?_ | refine k_normal ?_ | refine k_ret ?_ | refine b_ret ?_ | refine AWP_ret ?_ | refine AWP_block ?_) | ((with_reducible refine AWP_reg fun KC J hJ hKC => ?_); simp (maxSteps := 10000000) only [push_cast, seval, ↓reduceIte, h1]) | ((with_reducible refine hJ _ _ ?_); clear hJ hKC KC J) | ((with_reducible refine AWP_condT ?_ ?_); · rfl)
    refine ret_plain ?_
    simp (maxSteps := 10000000) only [push_cast, seval, ↓reduceIte, show Tryz.f256.results = #[(.tmp 4), (.tmp 5)] from rfl]
    rw [show unsignedF most n = (0, 1) from if_pos (.inl h1)]
    exact Lq
  by_cases h2 : 20 < most
  · skip
    repeat' first | (with_reducible first | refine AWP_seq' ?_ | refine k_normal ?_ | refine k_ret ?_ | refine b_ret ?_ | refine AWP_ret ?_ | refine AWP_block ?_) | ((with_reducible refine AWP_reg fun KC J hJ hKC => ?_); simp (maxSteps := 10000000) only [push_cast, seval, ↓reduceIte, h1, h2]) | ((with_reducible refine hJ _ _ ?_); clear hJ hKC KC J) | ((with_reducible refine AWP_condT ?_ ?_); · rfl)
    refine ret_plain ?_
    simp (maxSteps := 10000000) only [push_cast, seval, ↓reduceIte, show Tryz.f256.results = #[(.tmp 4), (.tmp 5)] from rfl]
    rw [show unsignedF most n = (0, 1) from if_pos (.inr h2)]
    exact Lq
  have w1 : IntKind.i64.wrap (0 - most) = - most := by rw [wrapI (by omega) (by omega)]; omega
  have hs : unsignedF most n = if n < - most ∨ most < n then (0, 9) else if 0 < n then (2 * n - 1, 0) else (-2 * n, 0) := if_neg (by omega)
  rw [hs]
  repeat' first | (with_reducible first | refine AWP_seq' ?_ | refine k_normal ?_ | refine k_ret ?_ | refine b_normal ?_ | refine b_ret ?_ | refine AWP_ret ?_ | refine AWP_skip ?_ | refine AWP_block ?_) | ((with_reducible refine AWP_reg fun KC J hJ hKC => ?_); simp (maxSteps := 10000000) only [push_cast, seval, ↓reduceIte, h1, h2, w1]) | ((with_reducible refine hJ _ _ ?_); clear hJ hKC KC J) | ((with_reducible refine AWP_condT ?_ ?_); · rfl) | ((with_reducible refine AWP_condF ?_ ?_); · rfl) | ((with_reducible refine ite_intro (fun hs => ?_) (fun hs => ?_)) <;> (try simp only [Bool.not_eq_true, Bool.not_eq_false, Bool.not_eq_true', Bool.not_eq_false', Decidable.not_not, decide_eq_true_eq, decide_eq_false_iff_not] at hs) <;> (try simp (maxSteps := 10000000) only [push_cast, seval, ↓reduceIte, hs, h1, h2, w1])) | (refine AWP_cond rfl (fun h => ?_) (fun h => ?_) <;> try simp only [decide_eq_true_eq, decide_eq_false_iff_not, Bool.not_eq_true', Bool.not_eq_false', beq_iff_eq, bne_iff_ne, ne_eq, Bool.not_eq_true, Bool.or_eq_true, Bool.and_eq_true, Bool.or_eq_false_iff, Bool.and_eq_false_imp, beq_eq_false_iff_ne, bne_eq_false_iff_eq] at h)
  all_goals
    refine ret_plain ?_
    simp (maxSteps := 10000000) only [push_cast, seval, ↓reduceIte, show Tryz.f256.results = #[(.tmp 4), (.tmp 5)] from rfl]
    first
      | (rw [if_pos (by omega)]; exact Lq; done)
      | (rw [if_neg (by omega), if_pos (by omega), wrapI (n := 2 * n) (by omega) (by omega), wrapI (by omega) (by omega)]; exact Lq; done)
      | (rw [if_neg (by omega), if_neg (by omega), wrapI (by omega) (by omega)]; exact Lq; done)
theorem made_inv {most n i : Int} (h0 : 0 ≤ most) (hi : 0 ≤ i) (hi2 : i ≤ 2 * most) : madeI i = n ↔ - most ≤ n ∧ n ≤ most ∧ i = if 0 < n then 2 * n - 1 else -2 * n := by
  unfold madeI
  split
  · split <;> omega
  · split <;> omega
theorem rUnsigned_fn (most n : Int) : Fn Tryz.prog 181 [.v (.int .i64 most), .v (.int .i64 n)] [] (.agg [.v (.int .i64 (unsignedF most n).1), .v (.int .i64 (unsignedF most n).2)]) [] := by
  refine Fn.of (fn := Tryz.f181) (by kernel_rfl) rfl (by kernel_rfl) ⟨[.v (.int .i64 most), .v (.int .i64 n), .v undef, .v undef, .v undef, .v undef, .v undef, .v undef, .v undef, .v undef, .v undef, .v undef, .v undef, .v undef, .v undef, .v undef, .v undef, .v undef, .v undef, .v undef, .v undef, .v undef, .v undef, .v undef, .v undef, .v undef], []⟩ rfl ?_
  by_cases h1 : most < 0
  · skip
    repeat' first | (with_reducible first | refine AWP_seq' ?_ | refine k_normal ?_ | refine k_ret ?_ | refine AWP_ret ?_) | ((with_reducible refine AWP_reg fun KC J hJ hKC => ?_); simp (maxSteps := 10000000) only [push_cast, seval, ↓reduceIte, h1]) | ((with_reducible refine hJ _ _ ?_); clear hJ hKC KC J) | ((with_reducible refine AWP_condT ?_ ?_); · rfl)
    refine ret_plain ?_
    simp (maxSteps := 10000000) only [push_cast, seval, ↓reduceIte, show Tryz.f181.results = #[(.cell 4 130)] from rfl]
    rw [show unsignedF most n = (0, 1) from if_pos (.inl h1)]
    exact Lq
  by_cases h2 : 20 < most
  · skip
    repeat' first | (with_reducible first | refine AWP_seq' ?_ | refine k_normal ?_ | refine k_ret ?_ | refine AWP_ret ?_) | ((with_reducible refine AWP_reg fun KC J hJ hKC => ?_); simp (maxSteps := 10000000) only [push_cast, seval, ↓reduceIte, h1, h2]) | ((with_reducible refine hJ _ _ ?_); clear hJ hKC KC J) | ((with_reducible refine AWP_condT ?_ ?_); · rfl)
    refine ret_plain ?_
    simp (maxSteps := 10000000) only [push_cast, seval, ↓reduceIte, show Tryz.f181.results = #[(.cell 4 130)] from rfl]
    rw [show unsignedF most n = (0, 1) from if_pos (.inr h2)]
    exact Lq
  have w1 : IntKind.i64.wrap (2 * most) = 2 * most := wrapI (by omega) (by omega)
  have hs : unsignedF most n = if n < - most ∨ most < n then (0, 9) else if 0 < n then (2 * n - 1, 0) else (-2 * n, 0) := if_neg (by omega)
  rw [hs]
  repeat' first | (with_reducible first | refine AWP_seq' ?_ | refine k_normal ?_ | refine AWP_skip ?_ | refine AWP_block ?_) | ((with_reducible refine AWP_reg fun KC J hJ hKC => ?_); simp (maxSteps := 10000000) only [push_cast, seval, ↓reduceIte, h1, h2]) | ((with_reducible refine hJ _ _ ?_); clear hJ hKC KC J) | ((with_reducible refine AWP_condF ?_ ?_); · rfl)
  refine AWP_loopF (γ := {i : Int // 0 ≤ i ∧ i ≤ 2 * most + 1 ∧ ∀ j, 0 ≤ j → j < i → madeI j ≠ n}) (fun i => ⟨[.v (.int .i64 most), .v (.int .i64 n), .any, .any, .ptr 0 0 0, .v (.int .i64 i.1), .any, .any, .any, .any, .any, .any, .any, .any, .any, .any, .any, .any, .any, .any, .any, .any, .any, .any, .any, .any], [.ent ⟨0, none, 130, [.v (.int .i64 0), .v (.int .i64 0)], .cells⟩]⟩) (fun i => (2 * most + 1 - i.1).toNat) ⟨0, by omega, by omega, by omega⟩ ⟨?_, Fq⟩ ?_
  · exact Lq
  · rintro ⟨i, hi0, hi1, hi⟩
    by_cases hlt : i ≤ 2 * most
    · skip
      repeat' first | (with_reducible first | refine AWP_seq' ?_ | refine k_normal ?_ | refine k_ret ?_ | refine b_normal ?_ | refine b_ret ?_ | refine AWP_ret ?_ | refine AWP_skip ?_ | refine AWP_block ?_) | ((with_reducible refine AWP_reg fun KC J hJ hKC => ?_); simp (maxSteps := 10000000) only [push_cast, seval, ↓reduceIte, w1, hlt]) | (refine' hKC _ _ _ _ _ (callV0 (made_fn _ ?_ ?_) rfl rfl rfl ?_ ?_); (rotate_left 3); (· exact Lq); (rotate_left 1); (iterate 2 (· exact Hq)); simp (maxSteps := 10000000) only [push_cast, seval, ↓reduceIte, w1, hlt]) | ((with_reducible refine hJ _ _ ?_); clear hJ hKC KC J) | ((with_reducible refine AWP_condT ?_ ?_); · rfl) | (refine AWP_cond rfl (fun h => ?_) (fun h => ?_) <;> try simp only [decide_eq_true_eq, decide_eq_false_iff_not, Bool.not_eq_true', Bool.not_eq_false', beq_iff_eq, bne_iff_ne, ne_eq, Bool.not_eq_true, Bool.or_eq_true, Bool.and_eq_true, Bool.or_eq_false_iff, Bool.and_eq_false_imp, beq_eq_false_iff_ne, bne_eq_false_iff_eq] at h)
      · refine ret_plain ?_
        simp (maxSteps := 10000000) only [push_cast, seval, ↓reduceIte, show Tryz.f181.results = #[(.cell 4 130)] from rfl]
        have := (made_inv (by omega) hi0 hlt).1 h
        rw [if_neg (by omega)]
        obtain ⟨_, _, he⟩ := this
        rw [he]
        split
        · exact Lq
        · exact Lq
      · refine ⟨⟨i + 1, by omega, by omega, fun j hj0 hj => ?_⟩, by simp only; omega, ?_, Fq⟩
        · by_cases hji : j = i
          · rw [hji]; exact h
          · exact hi j hj0 (by omega)
        · rw [wrapI (by omega) (by omega)]
          exact Lq
    · skip
      repeat' first | (with_reducible first | refine AWP_seq' ?_ | refine k_normal ?_ | refine k_exit ?_ | refine b_exit ?_ | refine AWP_ret ?_ | refine AWP_exit ?_) | ((with_reducible refine AWP_reg fun KC J hJ hKC => ?_); simp (maxSteps := 10000000) only [push_cast, seval, ↓reduceIte, w1, hlt]) | ((with_reducible refine hJ _ _ ?_); clear hJ hKC KC J) | ((with_reducible refine AWP_condF ?_ ?_); · rfl)
      refine ret_plain ?_
      simp (maxSteps := 10000000) only [push_cast, seval, ↓reduceIte, show Tryz.f181.results = #[(.cell 4 130)] from rfl]
      have : n < -most ∨ most < n := by
        rcases Int.lt_or_le n (-most) with h | h
        · exact .inl h
        · rcases Int.lt_or_le most n with h' | h'
          · exact .inr h'
          · exfalso
            refine hi (if 0 < n then 2 * n - 1 else -2 * n) (by split <;> omega) (by split <;> omega) ((made_inv (by omega) (by split <;> omega) (by split <;> omega)).2 ⟨h, h', rfl⟩)
      rw [if_pos this]
      exact Lq
end Go.Proofs.YtabliglgeiajlaaGreat.AM
