/- The reference's choices by weights; the least choices. -/
import Derived.Test.YtabliglgeiajlaaGreatU5
set_option linter.unusedSimpArgs false
set_option linter.unusedVariables false
namespace Go.Proofs.YtabliglgeiajlaaGreat.AM
open Go Go.RowKit Go.Proofs
set_option maxRecDepth 100000
set_option maxHeartbeats 400000

theorem rSum_fn (f : Bool) (ws : List Int) (hw : ∀ w ∈ ws, 0 ≤ w ∧ w ≤ 100) (hl : ws.length ≤ 1000) : Fn Tryz.prog 179 [.sl f 1 (intRow ws)] [] (.v (.int .i64 ws.sum)) [] := by
  refine Fn.of (fn := Tryz.f179) (by kernel_rfl) rfl (by kernel_rfl) ⟨[.sl f 1 (intRow ws), .v undef, .v undef, .v undef, .v undef, .v undef, .v undef, .v undef, .v undef, .v undef, .v undef, .v undef, .v undef, .v undef, .v undef, .v undef, .v undef], []⟩ rfl ?_
  repeat' first | (with_reducible first | refine AWP_seq' ?_ | refine k_normal ?_ | refine AWP_block ?_) | ((with_reducible refine AWP_reg fun KC J hJ hKC => ?_); simp (maxSteps := 10000000) only [push_cast, seval, ↓reduceIte]) | ((with_reducible refine hJ _ _ ?_); clear hJ hKC KC J)
  refine AWP_loopF (γ := {i : Nat // i ≤ ws.length}) (fun i => ⟨[.sl f 1 (intRow ws), .any, .any, .v (.int .i64 (ws.take i.1).sum), .any, .any, .sl f 1 (intRow ws), .v (.int .i64 ws.length), .v (.int .i64 i.1), .any, .any, .any, .any, .any, .any, .any, .any], []⟩) (fun i => ws.length - i.1) ⟨0, by simp⟩ ⟨?_, Fq⟩ ?_
  · exact Lq
  · rintro ⟨i, hi⟩
    by_cases hlt : (i : Int) < (ws.length : Int)
    · have hx : ws[i]? = some ws[i] := List.getElem?_eq_getElem (by omega)
      have hb := take_nonneg hw i
      have hwi := hw ws[i] (List.getElem_mem _)
      have hs : IntKind.i64.wrap ((ws.take i).sum + ws[i]) = (ws.take (i + 1)).sum := by rw [take_sum_succ (by omega), wrapI (by omega) (by omega)]
      repeat' first | (with_reducible first | refine AWP_seq' ?_ | refine k_normal ?_ | refine b_normal ?_ | refine AWP_skip ?_ | refine AWP_block ?_) | ((with_reducible refine AWP_reg fun KC J hJ hKC => ?_); simp (maxSteps := 10000000) only [push_cast, seval, ↓reduceIte, hlt, getE_intRow hx, hs, wrapN (i := i) (n := ws.length) (by omega) (by omega)]) | ((with_reducible refine And.intro ?_ ?_); · exact Sq) | ((with_reducible refine hJ _ _ ?_); clear hJ hKC KC J) | ((with_reducible refine AWP_condT ?_ ?_); · rfl)
      refine ⟨⟨i + 1, by omega⟩, by simp only; omega, ?_, Fq⟩
      exact Lq
    · have e : ws.take i = ws := List.take_of_length_le (by omega)
      repeat' first | (with_reducible first | refine AWP_seq' ?_ | refine k_normal ?_ | refine k_exit ?_ | refine b_exit ?_ | refine AWP_ret ?_ | refine AWP_exit ?_) | ((with_reducible refine AWP_reg fun KC J hJ hKC => ?_); simp (maxSteps := 10000000) only [push_cast, seval, ↓reduceIte, hlt, e]) | ((with_reducible refine hJ _ _ ?_); clear hJ hKC KC J) | ((with_reducible refine AWP_condF ?_ ?_); · rfl)
      refine ret_plain ?_
      simp (maxSteps := 10000000) only [push_cast, seval, ↓reduceIte, show Tryz.f179.results = #[(.tmp 2)] from rfl]
      exact leD_refl _
theorem rWeights_fn (f : Bool) (ws : List Int) (hb : ws.length ≤ 9223372036854775807) : Fn Tryz.prog 134 [.sl f 1 (intRow ws)] [] (.v (.bool (weightsB ws))) [] := by
  refine Fn.of (fn := Tryz.f134) (by kernel_rfl) rfl (by kernel_rfl) ⟨[.sl f 1 (intRow ws), .v undef, .v undef, .v undef, .v undef, .v undef, .v undef, .v undef, .v undef, .v undef, .v undef, .v undef, .v undef, .v undef, .v undef, .v undef, .v undef, .v undef, .v undef, .v undef, .v undef, .v undef, .v undef, .v undef, .v undef, .v undef, .v undef, .v undef, .v undef, .v undef, .v undef], []⟩ rfl ?_
  repeat' first | (with_reducible first | refine AWP_seq' ?_ | refine k_normal ?_ | refine AWP_block ?_) | ((with_reducible refine AWP_reg fun KC J hJ hKC => ?_); simp (maxSteps := 10000000) only [push_cast, seval, ↓reduceIte]) | ((with_reducible refine hJ _ _ ?_); clear hJ hKC KC J)
  refine AWP_loopF (γ := {i : Nat // i ≤ ws.length ∧ ∀ (j : Nat) (hj : j < ws.length), j < i → 0 ≤ ws[j] ∧ ws[j] ≤ 100}) (fun i => ⟨[.sl f 1 (intRow ws), .any, .any, .any, .any, .sl f 1 (intRow ws), .v (.int .i64 ws.length), .v (.int .i64 i.1), .any, .any, .any, .any, .any, .any, .any, .any, .any, .any, .any, .any, .any, .any, .any, .any, .any, .any, .any, .any, .any, .any, .any], []⟩) (fun i => ws.length - i.1) ⟨0, by simp⟩ ⟨?_, Fq⟩ ?_
  · exact Lq
  · rintro ⟨i, hi, hn⟩
    by_cases hlt : (i : Int) < (ws.length : Int)
    · have hx : ws[i]? = some ws[i] := List.getElem?_eq_getElem (by omega)
      have hbad : (ws[i] < 0 ∨ 100 < ws[i]) → weightsB ws = false := fun h => by
        cases hc : weightsB ws with
        | false => rfl
        | true => have := (weightsB_le hc).2.2.1 ws[i] (List.getElem_mem _); omega
      by_cases h1 : ws[i] < 0
      · skip
        repeat' first | (with_reducible first | refine AWP_seq' ?_ | refine k_normal ?_ | refine k_ret ?_ | refine b_ret ?_ | refine AWP_ret ?_ | refine AWP_skip ?_ | refine AWP_block ?_) | ((with_reducible refine AWP_reg fun KC J hJ hKC => ?_); simp (maxSteps := 10000000) only [push_cast, seval, ↓reduceIte, hlt, getE_intRow hx, h1]) | ((with_reducible refine And.intro ?_ ?_); · exact Sq) | ((with_reducible refine hJ _ _ ?_); clear hJ hKC KC J) | ((with_reducible refine AWP_condT ?_ ?_); · rfl)
        refine ret_plain ?_
        simp (maxSteps := 10000000) only [push_cast, seval, ↓reduceIte, show Tryz.f134.results = #[(.tmp 2)] from rfl]
        rw [hbad (.inl h1)]
        exact leD_refl _
      by_cases h2 : 100 < ws[i]
      · skip
        repeat' first | (with_reducible first | refine AWP_seq' ?_ | refine k_normal ?_ | refine k_ret ?_ | refine b_ret ?_ | refine AWP_ret ?_ | refine AWP_skip ?_ | refine AWP_block ?_) | ((with_reducible refine AWP_reg fun KC J hJ hKC => ?_); simp (maxSteps := 10000000) only [push_cast, seval, ↓reduceIte, hlt, getE_intRow hx, h1, h2]) | ((with_reducible refine And.intro ?_ ?_); · exact Sq) | ((with_reducible refine hJ _ _ ?_); clear hJ hKC KC J) | ((with_reducible refine AWP_condT ?_ ?_); · rfl)
        refine ret_plain ?_
        simp (maxSteps := 10000000) only [push_cast, seval, ↓reduceIte, show Tryz.f134.results = #[(.tmp 2)] from rfl]
        rw [hbad (.inr h2)]
        exact leD_refl _
      repeat' first | (with_reducible first | refine AWP_seq' ?_ | refine k_normal ?_ | refine b_normal ?_ | refine AWP_skip ?_ | refine AWP_block ?_) | ((with_reducible refine AWP_reg fun KC J hJ hKC => ?_); simp (maxSteps := 10000000) only [push_cast, seval, ↓reduceIte, hlt, getE_intRow hx, h1, h2, wrapN (i := i) (n := ws.length) (by omega) hb]) | ((with_reducible refine And.intro ?_ ?_); · exact Sq) | ((with_reducible refine hJ _ _ ?_); clear hJ hKC KC J) | ((with_reducible refine AWP_condT ?_ ?_); · rfl) | ((with_reducible refine AWP_condF ?_ ?_); · rfl)
      refine ⟨⟨i + 1, by omega, fun j hj hji => ?_⟩, by simp only; omega, ?_, Fq⟩
      · by_cases he : j = i
        · subst he; omega
        · exact hn j hj (by omega)
      · exact Lq
    · have hall : ∀ w ∈ ws, 0 ≤ w ∧ w ≤ 100 := fun w hw => by
        obtain ⟨j, hj, rfl⟩ := List.mem_iff_getElem.1 hw
        exact hn j hj (by omega)
      by_cases h20 : (ws.length : Int) ≤ 20
      · have hsum := rSum_fn f ws hall (by omega)
        repeat' first | (with_reducible first | refine AWP_seq' ?_ | refine k_normal ?_ | refine k_exit ?_ | refine b_exit ?_ | refine AWP_ret ?_ | refine AWP_exit ?_) | ((with_reducible refine AWP_reg fun KC J hJ hKC => ?_); simp (maxSteps := 10000000) only [push_cast, seval, ↓reduceIte, hlt, h20]) | (refine' hKC _ _ _ _ _ (callV0 (rSum_fn _ _ ?_ ?_) rfl rfl rfl ?_ ?_); (rotate_left 4); (· exact Lq); (rotate_left 1); (iterate 2 (· exact Hq)); simp (maxSteps := 10000000) only [push_cast, seval, ↓reduceIte, hlt, h20]) | ((with_reducible refine hJ _ _ ?_); clear hJ hKC KC J) | ((with_reducible refine AWP_condF ?_ ?_); · rfl) | ((with_reducible refine ite_intro (fun hs => ?_) (fun hs => ?_)) <;> (try simp only [Bool.not_eq_true, Bool.not_eq_false, Bool.not_eq_true', Bool.not_eq_false', Decidable.not_not, decide_eq_true_eq, decide_eq_false_iff_not] at hs) <;> (try simp (maxSteps := 10000000) only [push_cast, seval, ↓reduceIte, hs, hlt, h20]))
        all_goals
          refine ret_plain ?_
          simp (maxSteps := 10000000) only [push_cast, seval, ↓reduceIte, show Tryz.f134.results = #[(.tmp 2)] from rfl]
          refine leD_v (congrArg Value.bool (Bool.eq_iff_iff.2 ?_))
          simp only [weightsB, decide_eq_true_eq, Bool.false_eq_true, false_iff]
        · exact ⟨fun h => ⟨by omega, by omega, hall, h⟩, fun h => h.2.2.2⟩
        · omega
      · skip
        repeat' first | (with_reducible first | refine AWP_seq' ?_ | refine k_normal ?_ | refine k_exit ?_ | refine b_exit ?_ | refine AWP_ret ?_ | refine AWP_exit ?_) | ((with_reducible refine AWP_reg fun KC J hJ hKC => ?_); simp (maxSteps := 10000000) only [push_cast, seval, ↓reduceIte, hlt, h20]) | ((with_reducible refine hJ _ _ ?_); clear hJ hKC KC J) | ((with_reducible refine AWP_condF ?_ ?_); · rfl) | ((with_reducible refine ite_intro (fun hs => ?_) (fun hs => ?_)) <;> (try simp only [Bool.not_eq_true, Bool.not_eq_false, Bool.not_eq_true', Bool.not_eq_false', Decidable.not_not, decide_eq_true_eq, decide_eq_false_iff_not] at hs) <;> (try simp (maxSteps := 10000000) only [push_cast, seval, ↓reduceIte, hs, hlt, h20]))
        all_goals
          refine ret_plain ?_
          simp (maxSteps := 10000000) only [push_cast, seval, ↓reduceIte, show Tryz.f134.results = #[(.tmp 2)] from rfl]
          refine leD_v (congrArg Value.bool (Bool.eq_iff_iff.2 ?_))
          simp only [weightsB, decide_eq_true_eq, Bool.false_eq_true, false_iff]
          omega
theorem rPicks_fn (f : Bool) (ws : List Int) (n : Int) (hw : ∀ w ∈ ws, 0 ≤ w ∧ w ≤ 100) (hl : ws.length ≤ 1000) : Fn Tryz.prog 180 [.sl f 1 (intRow ws), .v (.int .i64 n)] [] (.v (.int .i64 (pickI ws n))) [] := by
  refine Fn.of (fn := Tryz.f180) (by kernel_rfl) rfl (by kernel_rfl) ⟨[.sl f 1 (intRow ws), .v (.int .i64 n), .v undef, .v undef, .v undef, .v undef, .v undef, .v undef, .v undef, .v undef, .v undef, .v undef, .v undef, .v undef, .v undef, .v undef, .v undef, .v undef, .v undef, .v undef], []⟩ rfl ?_
  repeat' first | (with_reducible first | refine AWP_seq' ?_ | refine k_normal ?_ | refine AWP_block ?_) | ((with_reducible refine AWP_reg fun KC J hJ hKC => ?_); simp (maxSteps := 10000000) only [push_cast, seval, ↓reduceIte]) | ((with_reducible refine hJ _ _ ?_); clear hJ hKC KC J)
  refine AWP_loopF (γ := {i : Nat // i ≤ ws.length ∧ ∀ j, j < i → ¬ n < (ws.take (j + 1)).sum}) (fun i => ⟨[.sl f 1 (intRow ws), .v (.int .i64 n), .any, .any, .any, .any, .any, .v (.int .i64 ws.length), .v (.int .i64 i.1), .any, .any, .any, .any, .any, .any, .any, .any, .any, .any, .any], []⟩) (fun i => ws.length - i.1) ⟨0, by simp⟩ ⟨?_, Fq⟩ ?_
  · exact Lq
  · rintro ⟨i, hi, hn⟩
    by_cases hlt : (i : Int) < (ws.length : Int)
    · have hsum := rSum_fn false (ws.take (i + 1)) (fun w h => hw w (List.mem_of_mem_take h)) (by simp; omega)
      have hto : ((i : Int) + 1).toNat = i + 1 := by omega
      repeat' first | (with_reducible first | refine AWP_seq' ?_ | refine k_normal ?_ | refine k_ret ?_ | refine b_normal ?_ | refine b_ret ?_ | refine AWP_ret ?_ | refine AWP_skip ?_ | refine AWP_block ?_) | ((with_reducible refine AWP_reg fun KC J hJ hKC => ?_); simp (maxSteps := 10000000) only [push_cast, seval, ↓reduceIte, hlt, hto, wrapN (i := i) (n := ws.length) (by omega) (by omega)]) | ((with_reducible refine And.intro ?_ ?_); · exact Sq) | (refine hKC _ _ _ _ _ (callV0 (hsum) rfl rfl rfl ?_ ?_); (· exact Lq); simp (maxSteps := 10000000) only [push_cast, seval, ↓reduceIte, hlt, hto, wrapN (i := i) (n := ws.length) (by omega) (by omega)]) | ((with_reducible refine hJ _ _ ?_); clear hJ hKC KC J) | ((with_reducible refine AWP_condT ?_ ?_); · rfl) | (refine AWP_cond rfl (fun h => ?_) (fun h => ?_) <;> try simp only [decide_eq_true_eq, decide_eq_false_iff_not, Bool.not_eq_true', Bool.not_eq_false', beq_iff_eq, bne_iff_ne, ne_eq, Bool.not_eq_true, Bool.or_eq_true, Bool.and_eq_true, Bool.or_eq_false_iff, Bool.and_eq_false_imp, beq_eq_false_iff_ne, bne_eq_false_iff_eq] at h)
      · refine ret_plain ?_
        simp (maxSteps := 10000000) only [push_cast, seval, ↓reduceIte, show Tryz.f180.results = #[(.tmp 4)] from rfl]
        rw [pickI_at (by omega) h hn]
        exact leD_refl _
      · refine ⟨⟨i + 1, by omega, fun j hj => ?_⟩, by simp only; omega, ?_, Fq⟩
        · by_cases he : j = i
          · subst he; exact h
          · exact hn j (by omega)
        · exact Lq
    · skip
      repeat' first | (with_reducible first | refine AWP_seq' ?_ | refine k_normal ?_ | refine k_exit ?_ | refine b_exit ?_ | refine AWP_ret ?_ | refine AWP_exit ?_) | ((with_reducible refine AWP_reg fun KC J hJ hKC => ?_); simp (maxSteps := 10000000) only [push_cast, seval, ↓reduceIte, hlt]) | ((with_reducible refine hJ _ _ ?_); clear hJ hKC KC J) | ((with_reducible refine AWP_condF ?_ ?_); · rfl)
      refine ret_plain ?_
      simp (maxSteps := 10000000) only [push_cast, seval, ↓reduceIte, show Tryz.f180.results = #[(.tmp 4)] from rfl]
      rw [pickI_none (fun j hj => hn j (by omega))]
      exact leD_refl _
theorem rWeighted_fn (f g e' : Bool) (l lg ws : List Int) (a : Int) (hb : ws.length ≤ 9223372036854775807) :
    Fn Tryz.prog 234 [.agg [.sl f 1 (intRow l), .v (.int .i64 a), .sl g 1 (intRow lg)], .sl e' 1 (intRow ws)] [] (encT13 f false (weightedF ⟨l, a, lg⟩ ws)) [] := by
  refine Fn.of (fn := Tryz.f234) (by kernel_rfl) rfl (by kernel_rfl) ⟨[.agg [.sl f 1 (intRow l), .v (.int .i64 a), .sl g 1 (intRow lg)], .sl e' 1 (intRow ws), .v undef, .v undef, .v undef, .v undef, .v undef, .v undef, .v undef, .v undef, .v undef, .v undef, .v undef, .v undef, .v undef, .v undef, .v undef, .v undef, .v undef, .v undef, .v undef, .v undef, .v undef], []⟩ rfl ?_
  by_cases hw : weightsB ws = true
  · obtain ⟨h1, h2, h3, h4⟩ := weightsB_le hw
    have hsum := take_nonneg h3 ws.length
    rw [List.take_length] at hsum
    obtain ⟨t, ht⟩ : ∃ t, takeF ⟨l, a, lg⟩ ws.sum = t := ⟨_, rfl⟩
    have hs : weightedF ⟨l, a, lg⟩ ws = if t.2.2 = 0 then (t.1, pickI ws t.2.1, 0) else (Dr.z, 0, t.2.2) := by rw [← ht]; exact if_neg (by simp [hw])
    have hc := takeF_cases ⟨l, a, lg⟩ ws.sum
    rw [ht] at hc
    rw [hs]
    have hsf := rSum_fn e' ws h3 (by omega)
    have hpf := rPicks_fn e' ws t.2.1 h3 (by omega)
    repeat' first | (with_reducible first | refine AWP_seq' ?_ | refine k_normal ?_ | refine AWP_ret ?_ | refine AWP_skip ?_) | ((with_reducible first | refine AWP_reg fun KC J hJ hKC => ?_ | refine AWP_regD rfl fun KC J hJ hKC => ?_); simp (maxSteps := 10000000) only [push_cast, seval, ↓reduceIte, hw, ht]) | (refine' hKC _ _ _ _ _ (callV0 (rWeights_fn _ _ ?_) rfl rfl rfl ?_ ?_); (rotate_left 3); (· exact Lq); (rotate_left 1); (iterate 1 (· exact Hq)); simp (maxSteps := 10000000) only [push_cast, seval, ↓reduceIte, hw, ht]) | (refine' hKC _ _ _ _ _ (callV0 (rSum_fn _ _ ?_ ?_) rfl rfl rfl ?_ ?_); (rotate_left 4); (· exact Lq); (rotate_left 1); (iterate 2 (· exact Hq)); simp (maxSteps := 10000000) only [push_cast, seval, ↓reduceIte, hw, ht]) | (refine' hKC _ _ _ _ _ (callV0 (rTake_fn _ _ _ _ _ _ ?_) rfl rfl rfl ?_ ?_); (rotate_left 7); (· exact Lq); (rotate_left 1); (iterate 1 (· exact Hq)); simp (maxSteps := 10000000) only [push_cast, seval, ↓reduceIte, hw, ht]) | (refine' hKC _ _ _ _ _ (callV0 (rPicks_fn _ _ _ ?_ ?_) rfl rfl rfl ?_ ?_); (rotate_left 5); (· exact Lq); (rotate_left 1); (iterate 2 (· exact Hq)); simp (maxSteps := 10000000) only [push_cast, seval, ↓reduceIte, hw, ht]) | ((first | with_reducible refine hJ _ _ ?_ | (with_reducible refine hJ _ _ ?_ ?_; · kernel_rfl)); clear hJ hKC KC J) | ((with_reducible refine AWP_condF ?_ ?_); · rfl) | (refine AWP_cond rfl (fun h => ?_) (fun h => ?_) <;> try simp only [decide_eq_true_eq, decide_eq_false_iff_not, Bool.not_eq_true', Bool.not_eq_false', beq_iff_eq, bne_iff_ne, ne_eq, Bool.not_eq_true, Bool.or_eq_true, Bool.and_eq_true, Bool.or_eq_false_iff, Bool.and_eq_false_imp, beq_eq_false_iff_ne, bne_eq_false_iff_eq] at h)
    · refine ret_plain ?_
      simp (maxSteps := 10000000) only [push_cast, seval, ↓reduceIte, show Tryz.f234.results = #[(.cell 4 272)] from rfl]
      rw [if_pos h, h]
      exact Lq
    · refine ret_plain ?_
      simp (maxSteps := 10000000) only [push_cast, seval, ↓reduceIte, show Tryz.f234.results = #[(.cell 4 272)] from rfl]
      rw [if_neg h]
      rcases hc with ⟨e, rfl, _⟩ | ⟨hc, _⟩
      · exact Lq
      · exact absurd hc h
  · have hw' : weightsB ws = false := by simpa using hw
    repeat' first | (with_reducible first | refine AWP_seq' ?_ | refine k_normal ?_ | refine k_ret ?_ | refine AWP_ret ?_) | ((with_reducible refine AWP_reg fun KC J hJ hKC => ?_); simp (maxSteps := 10000000) only [push_cast, seval, ↓reduceIte, hw']) | (refine' hKC _ _ _ _ _ (callV0 (rWeights_fn _ _ ?_) rfl rfl rfl ?_ ?_); (rotate_left 3); (· exact Lq); (rotate_left 1); (iterate 1 (· exact Hq)); simp (maxSteps := 10000000) only [push_cast, seval, ↓reduceIte, hw']) | ((with_reducible refine hJ _ _ ?_); clear hJ hKC KC J) | ((with_reducible refine AWP_condT ?_ ?_); · rfl)
    refine ret_plain ?_
    simp (maxSteps := 10000000) only [push_cast, seval, ↓reduceIte, show Tryz.f234.results = #[(.cell 4 272)] from rfl]
    rw [show weightedF ⟨l, a, lg⟩ ws = (Dr.z, 0, 1) from if_pos hw']
    exact Lq
/-! ### The least choice that picks a place -/
theorem sum_mono {ws : List Int} (hw : ∀ w ∈ ws, 0 ≤ w ∧ w ≤ 100) {i j : Nat} (h : i ≤ j) : (ws.take i).sum ≤ (ws.take j).sum := by
  induction j with
  | zero => simp at h; subst h; simp
  | succ j ih =>
    by_cases he : i = j + 1
    · rw [he]; omega
    · have := ih (by omega)
      by_cases hj : j < ws.length
      · rw [take_sum_succ hj]
        have := hw ws[j] (List.getElem_mem _)
        omega
      · rw [List.take_of_length_le (by omega : ws.length ≤ j)] at this
        rw [List.take_of_length_le (by omega : ws.length ≤ j + 1)]
        exact this
theorem pickI_iff {ws : List Int} (hw : ∀ w ∈ ws, 0 ≤ w ∧ w ≤ 100) {n i : Int} (h0 : 0 ≤ n) (hn : n < ws.sum) :
    pickI ws n = i ↔ ∃ k : Nat, k < ws.length ∧ i = k ∧ (ws.take k).sum ≤ n ∧ n < (ws.take (k + 1)).sum := by
  have hex : ∃ k : Nat, k < ws.length ∧ (ws.take k).sum ≤ n ∧ n < (ws.take (k + 1)).sum := by
    rcases ok_dec ws.length (fun k => decide (¬ n < (ws.take (k + 1)).sum)) with h | ⟨k, hk, h1, h2⟩
    · exfalso
      cases hl : ws.length with
      | zero => rw [List.length_eq_zero_iff.1 hl] at hn; simp at hn; omega
      | succ m =>
        have := h m (by omega)
        rw [← hl, List.take_length] at this
        simp at this; omega
    · refine ⟨k, hk, ?_, by simpa using h1⟩
      cases k with
      | zero => simpa using h0
      | succ k => have := h2 k (by omega); simp at this; exact this
  obtain ⟨k, hk, hk1, hk2⟩ := hex
  have hp : pickI ws n = k := pickI_at hk hk2 (fun j hj => by have := sum_mono hw (show j + 1 ≤ k by omega); omega)
  constructor
  · intro h; exact ⟨k, hk, by omega, hk1, hk2⟩
  · rintro ⟨k', hk', rfl, h1, h2⟩
    rw [hp]
    rcases Nat.lt_trichotomy k k' with h | h | h
    · have := sum_mono hw (show k + 1 ≤ k' by omega); omega
    · rw [h]
    · have := sum_mono hw (show k' + 1 ≤ k by omega); omega
def leastF (ws : List Int) (i : Int) : Int × Int :=
  if weightsB ws = false then (0, 1) else if i < 0 ∨ ws.length ≤ i ∨ ws.getD i.toNat 0 = 0 then (0, 9) else ((ws.take i.toNat).sum, 0)
theorem rLeast_fn (f : Bool) (ws : List Int) (i : Int) (hb : ws.length ≤ 9223372036854775807) : Fn Tryz.prog 82 [.sl f 1 (intRow ws), .v (.int .i64 i)] [] (.agg [.v (.int .i64 (leastF ws i).1), .v (.int .i64 (leastF ws i).2)]) [] := by
  refine Fn.of (fn := Tryz.f82) (by kernel_rfl) rfl (by kernel_rfl) ⟨[.sl f 1 (intRow ws), .v (.int .i64 i), .v undef, .v undef, .v undef, .v undef, .v undef, .v undef, .v undef, .v undef, .v undef, .v undef, .v undef, .v undef, .v undef, .v undef, .v undef, .v undef, .v undef, .v undef, .v undef, .v undef, .v undef, .v undef], []⟩ rfl ?_
  by_cases hw : weightsB ws = true
  · obtain ⟨h1, h2, h3, h4⟩ := weightsB_le hw
    have hsb := take_nonneg h3 ws.length
    rw [List.take_length] at hsb
    have hs : leastF ws i = if i < 0 ∨ ws.length ≤ i ∨ ws.getD i.toNat 0 = 0 then (0, 9) else ((ws.take i.toNat).sum, 0) := if_neg (by simp [hw])
    have hsf := rSum_fn f ws h3 (by omega)
    rw [hs]
    repeat' first | (with_reducible first | refine AWP_seq' ?_ | refine k_normal ?_ | refine AWP_skip ?_ | refine AWP_block ?_) | ((with_reducible refine AWP_reg fun KC J hJ hKC => ?_); simp (maxSteps := 10000000) only [push_cast, seval, ↓reduceIte, hw]) | (refine' hKC _ _ _ _ _ (callV0 (rWeights_fn _ _ ?_) rfl rfl rfl ?_ ?_); (rotate_left 3); (· exact Lq); (rotate_left 1); (iterate 1 (· exact Hq)); simp (maxSteps := 10000000) only [push_cast, seval, ↓reduceIte, hw]) | ((with_reducible refine hJ _ _ ?_); clear hJ hKC KC J) | ((with_reducible refine AWP_condF ?_ ?_); · rfl)
    refine AWP_loopF (γ := {n : Int // 0 ≤ n ∧ n ≤ ws.sum ∧ ∀ j, 0 ≤ j → j < n → pickI ws j ≠ i}) (fun n => ⟨[.sl f 1 (intRow ws), .v (.int .i64 i), .any, .any, .ptr 0 0 0, .v (.int .i64 n.1), .any, .any, .any, .any, .any, .any, .any, .any, .any, .any, .any, .any, .any, .any, .any, .any, .any, .any], [.ent ⟨0, none, 130, [.v (.int .i64 0), .v (.int .i64 0)], .cells⟩, .free]⟩) (fun n => (ws.sum - n.1).toNat) ⟨0, by omega, by omega, by omega⟩ ⟨?_, Fq⟩ ?_
    · exact Lq
    · rintro ⟨n, hn0, hn1, hn⟩
      by_cases hlt : n < ws.sum
      · have hpf := rPicks_fn f ws n h3 (by omega)
        repeat' first | (with_reducible first | refine AWP_seq' ?_ | refine k_normal ?_ | refine k_ret ?_ | refine b_normal ?_ | refine b_ret ?_ | refine AWP_ret ?_ | refine AWP_skip ?_ | refine AWP_block ?_) | ((with_reducible refine AWP_reg fun KC J hJ hKC => ?_); simp (maxSteps := 10000000) only [push_cast, seval, ↓reduceIte, hlt]) | (refine' hKC _ _ _ _ _ (callV0 (rSum_fn _ _ ?_ ?_) rfl rfl rfl ?_ ?_); (rotate_left 4); (· exact Lq); (rotate_left 1); (iterate 2 (· exact Hq)); simp (maxSteps := 10000000) only [push_cast, seval, ↓reduceIte, hlt]) | (refine' hKC _ _ _ _ _ (callV0 (rPicks_fn _ _ _ ?_ ?_) rfl rfl rfl ?_ ?_); (rotate_left 5); (· exact Lq); (rotate_left 1); (iterate 2 (· exact Hq)); simp (maxSteps := 10000000) only [push_cast, seval, ↓reduceIte, hlt]) | ((with_reducible refine hJ _ _ ?_); clear hJ hKC KC J) | ((with_reducible refine AWP_condT ?_ ?_); · rfl) | (refine AWP_cond rfl (fun h => ?_) (fun h => ?_) <;> try simp only [decide_eq_true_eq, decide_eq_false_iff_not, Bool.not_eq_true', Bool.not_eq_false', beq_iff_eq, bne_iff_ne, ne_eq, Bool.not_eq_true, Bool.or_eq_true, Bool.and_eq_true, Bool.or_eq_false_iff, Bool.and_eq_false_imp, beq_eq_false_iff_ne, bne_eq_false_iff_eq] at h)
        · refine ret_plain ?_
          simp (maxSteps := 10000000) only [push_cast, seval, ↓reduceIte, show Tryz.f82.results = #[(.cell 4 130)] from rfl]
          obtain ⟨k, hk, rfl, hk1, hk2⟩ := (pickI_iff h3 hn0 hlt).1 h
          have hx : ws.getD k 0 = ws[k] := by simp [hk]
          have htk := take_sum_succ hk
          have hnk : n = (ws.take k).sum := by
            rcases Int.lt_or_le (ws.take k).sum n with hl | hl
            · exfalso
              have hk0 := (take_nonneg h3 k).1
              exact hn (ws.take k).sum hk0 hl ((pickI_iff h3 hk0 (by omega)).2 ⟨k, hk, rfl, by omega, by omega⟩)
            · omega
          rw [if_neg (by rw [Int.toNat_natCast, hx]; omega), Int.toNat_natCast, ← hnk]
          exact Lq
        · refine ⟨⟨n + 1, by omega, by omega, fun j hj0 hj => ?_⟩, by simp only; omega, ?_, Fq⟩
          · by_cases hji : j = n
            · rw [hji]; exact h
            · exact hn j hj0 (by omega)
          · rw [wrapI (by omega) (by omega)]
            exact Lq
      · skip
        repeat' first | (with_reducible first | refine AWP_seq' ?_ | refine k_normal ?_ | refine k_exit ?_ | refine b_exit ?_ | refine AWP_ret ?_ | refine AWP_exit ?_) | ((with_reducible refine AWP_reg fun KC J hJ hKC => ?_); simp (maxSteps := 10000000) only [push_cast, seval, ↓reduceIte, hlt]) | (refine' hKC _ _ _ _ _ (callV0 (rSum_fn _ _ ?_ ?_) rfl rfl rfl ?_ ?_); (rotate_left 4); (· exact Lq); (rotate_left 1); (iterate 2 (· exact Hq)); simp (maxSteps := 10000000) only [push_cast, seval, ↓reduceIte, hlt]) | ((with_reducible refine hJ _ _ ?_); clear hJ hKC KC J) | ((with_reducible refine AWP_condF ?_ ?_); · rfl)
        refine ret_plain ?_
        simp (maxSteps := 10000000) only [push_cast, seval, ↓reduceIte, show Tryz.f82.results = #[(.cell 4 130)] from rfl]
        have : i < 0 ∨ ws.length ≤ i ∨ ws.getD i.toNat 0 = 0 := by
          rcases Int.lt_or_le i 0 with hi | hi
          · exact .inl hi
          rcases Int.lt_or_le i ws.length with hi2 | hi2
          · refine .inr (.inr ?_)
            have hk : i.toNat < ws.length := by omega
            have hx : ws.getD i.toNat 0 = ws[i.toNat] := by simp [hk]
            have htk := take_sum_succ hk
            have hwk := h3 ws[i.toNat] (List.getElem_mem _)
            rw [hx]
            rcases Int.lt_or_le 0 ws[i.toNat] with hp | hp
            · exfalso
              have hk0 := (take_nonneg h3 i.toNat).1
              have hm := sum_mono h3 (show i.toNat + 1 ≤ ws.length by omega)
              rw [List.take_length] at hm
              exact hn (ws.take i.toNat).sum hk0 (by omega) ((pickI_iff h3 hk0 (by omega)).2 ⟨i.toNat, hk, by omega, by omega, by omega⟩)
            · omega
          · exact .inr (.inl hi2)
        rw [if_pos this]
        exact Lq
  · have hw' : weightsB ws = false := by simpa using hw
    repeat' first | (with_reducible first | refine AWP_seq' ?_ | refine k_normal ?_ | refine k_ret ?_ | refine AWP_ret ?_) | ((with_reducible refine AWP_reg fun KC J hJ hKC => ?_); simp (maxSteps := 10000000) only [push_cast, seval, ↓reduceIte, hw']) | (refine' hKC _ _ _ _ _ (callV0 (rWeights_fn _ _ ?_) rfl rfl rfl ?_ ?_); (rotate_left 3); (· exact Lq); (rotate_left 1); (iterate 1 (· exact Hq)); simp (maxSteps := 10000000) only [push_cast, seval, ↓reduceIte, hw']) | ((with_reducible refine hJ _ _ ?_); clear hJ hKC KC J) | ((with_reducible refine AWP_condT ?_ ?_); · rfl)
    refine ret_plain ?_
    simp (maxSteps := 10000000) only [push_cast, seval, ↓reduceIte, show Tryz.f82.results = #[(.cell 4 130)] from rfl]
    rw [show leastF ws i = (0, 1) from if_pos hw']
    exact Lq
end Go.Proofs.YtabliglgeiajlaaGreat.AM
