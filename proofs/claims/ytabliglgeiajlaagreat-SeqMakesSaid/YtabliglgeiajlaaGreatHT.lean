/- The reference: choices. -/
import Derived.Test.YtabliglgeiajlaaGreatHD
import Derived.Test.YtabliglgeiajlaaGreatU6
set_option linter.unusedSimpArgs false
set_option linter.unusedVariables false
namespace Go.Proofs.YtabliglgeiajlaaGreat.AM
open Go Go.RowKit Go.Proofs
set_option maxRecDepth 100000
set_option maxHeartbeats 1000000

def encM (m : M3) : List D := [.sl false 1 (intRow m.1.l), .v (.int .i64 m.1.a), .sl false 1 (intRow m.1.g), .v (.int .i64 m.2.1), .v (.int .i64 m.2.2)]
def spF (f : Bool) (sp : Sp) : List D := [.v (.int .i64 sp.code), .v (.int .i64 sp.mem), .v (.int .i64 sp.stack), .v (.int .i64 sp.val), .sl f 1 (intRow sp.ws)]
theorem rTook_fn (m t : M3) : Fn Tryz.prog 231 [.agg (encM m), encT13 false false t] [] (.agg (encM (tookR m t))) [] := by
  obtain ⟨⟨l, a, g⟩, n, e⟩ := m
  obtain ⟨⟨l', a', g'⟩, n', e'⟩ := t
  simp only [encM, encT13, tookR]
  refine Fn.of (fn := Tryz.f231) (by kernel_rfl) rfl (by kernel_rfl) ⟨[.agg [.sl false 1 (intRow l), .v (.int .i64 a), .sl false 1 (intRow g), .v (.int .i64 n), .v (.int .i64 e)], .agg [.sl false 1 (intRow l'), .v (.int .i64 a'), .sl false 1 (intRow g'), .v (.int .i64 n'), .v (.slice none 0 0), .v (.int .i64 e')], .v undef, .v undef, .v undef, .v undef, .v undef, .v undef, .v undef, .v undef, .v undef, .v undef, .v undef, .v undef, .v undef, .v undef, .v undef, .v undef, .v undef, .v undef], []⟩ rfl ?_
  by_cases h1 : e = 0
  · subst h1
    by_cases h2 : e' = 0
    · subst h2
      repeat' first | (with_reducible first | refine AWP_seq' ?_ | refine k_normal ?_ | refine AWP_ret ?_ | refine AWP_skip ?_) | ((with_reducible refine AWP_reg fun KC J hJ hKC => ?_); simp (maxSteps := 10000000) only [push_cast, seval, ↓reduceIte, bne_self_eq_false]) | ((with_reducible refine hJ _ _ ?_); clear hJ hKC KC J) | ((with_reducible refine AWP_condF ?_ ?_); · rfl)
      refine ret_plain ?_
      simp (maxSteps := 10000000) only [push_cast, seval, ↓reduceIte, show Tryz.f231.results = #[(.cell 4 106)] from rfl]
      exact Lq
    · have h2' : (e' != 0) = true := by simpa using h2
      rw [if_pos rfl, if_neg h2]
      repeat' first | (with_reducible first | refine AWP_seq' ?_ | refine k_normal ?_ | refine k_ret ?_ | refine AWP_ret ?_ | refine AWP_skip ?_) | ((with_reducible refine AWP_reg fun KC J hJ hKC => ?_); simp (maxSteps := 10000000) only [push_cast, seval, ↓reduceIte, h2', bne_self_eq_false]) | ((with_reducible refine hJ _ _ ?_); clear hJ hKC KC J) | ((with_reducible refine AWP_condT ?_ ?_); · rfl) | ((with_reducible refine AWP_condF ?_ ?_); · rfl)
      refine ret_plain ?_
      simp (maxSteps := 10000000) only [push_cast, seval, ↓reduceIte, show Tryz.f231.results = #[(.cell 4 106)] from rfl]
      exact Lq
  · have h1' : (e != 0) = true := by simpa using h1
    rw [if_neg h1]
    repeat' first | (with_reducible first | refine AWP_seq' ?_ | refine k_normal ?_ | refine k_ret ?_ | refine AWP_ret ?_) | ((with_reducible refine AWP_reg fun KC J hJ hKC => ?_); simp (maxSteps := 10000000) only [push_cast, seval, ↓reduceIte, h1']) | ((with_reducible refine hJ _ _ ?_); clear hJ hKC KC J) | ((with_reducible refine AWP_condT ?_ ?_); · rfl)
    refine ret_plain ?_
    simp (maxSteps := 10000000) only [push_cast, seval, ↓reduceIte, show Tryz.f231.results = #[(.cell 4 106)] from rfl]
    exact Lq
theorem rBelow_fn (m : M3) (b : Int) (hB : b ≤ 9223372036854775807) : Fn Tryz.prog 135 [.agg (encM m), .v (.int .i64 b)] [] (.agg (encM (belowR m b))) [] := by
  obtain ⟨⟨l, a, g⟩, n, e⟩ := m
  have h1 := rTake_fn false false l g a b hB
  have h2 := rTook_fn (⟨l, a, g⟩, n, e) (takeF ⟨l, a, g⟩ b)
  unfold belowR
  obtain ⟨t, hT⟩ : ∃ t, takeF ⟨l, a, g⟩ b = t := ⟨_, rfl⟩
  rw [hT] at h1 h2 ⊢
  simp only [encM] at h2 ⊢
  refine Fn.of (fn := Tryz.f135) (by kernel_rfl) rfl (by kernel_rfl) ⟨[.agg [.sl false 1 (intRow l), .v (.int .i64 a), .sl false 1 (intRow g), .v (.int .i64 n), .v (.int .i64 e)], .v (.int .i64 b), .v undef, .v undef, .v undef, .v undef, .v undef, .v undef, .v undef, .v undef, .v undef], []⟩ rfl ?_
  repeat' first | (with_reducible first | refine AWP_seq' ?_ | refine k_normal ?_ | refine AWP_ret ?_) | ((with_reducible first | refine AWP_reg fun KC J hJ hKC => ?_ | refine AWP_regD rfl fun KC J hJ hKC => ?_); simp (maxSteps := 10000000) only [push_cast, seval, ↓reduceIte]) | (refine hKC _ _ _ _ _ (callV0 (h1) rfl rfl rfl ?_ ?_); (· exact Lq); simp (maxSteps := 10000000) only [push_cast, seval, ↓reduceIte]) | (refine hKC _ _ _ _ _ (callV0 (h2) rfl rfl rfl ?_ ?_); (· exact Lq); simp (maxSteps := 10000000) only [push_cast, seval, ↓reduceIte]) | ((first | with_reducible refine hJ _ _ ?_ | (with_reducible refine hJ _ _ ?_ ?_; · kernel_rfl)); clear hJ hKC KC J)
  refine ret_plain ?_
  simp (maxSteps := 10000000) only [push_cast, seval, ↓reduceIte, show Tryz.f135.results = #[(.cell 4 106)] from rfl]
  exact Lq
theorem rNumber_fn (f : Bool) (m : M3) (sp : Sp) : Fn Tryz.prog 233 [.agg (encM m), .agg (spF f sp)] [] (.agg (encM (numberR m sp.val))) [] := by
  obtain ⟨⟨l, a, g⟩, n, e⟩ := m
  obtain ⟨c, mm, s, v, ws⟩ := sp
  have h1 := rSigned_fn false false l g a v
  have h2 := rTook_fn (⟨l, a, g⟩, n, e) (signedF ⟨l, a, g⟩ v)
  unfold numberR
  obtain ⟨t, hT⟩ : ∃ t, signedF ⟨l, a, g⟩ v = t := ⟨_, rfl⟩
  simp only [hT] at h1 h2 ⊢
  simp only [encM, spF] at h2 ⊢
  refine Fn.of (fn := Tryz.f233) (by kernel_rfl) rfl (by kernel_rfl) ⟨[.agg [.sl false 1 (intRow l), .v (.int .i64 a), .sl false 1 (intRow g), .v (.int .i64 n), .v (.int .i64 e)], .agg [.v (.int .i64 c), .v (.int .i64 mm), .v (.int .i64 s), .v (.int .i64 v), .sl f 1 (intRow ws)], .v undef, .v undef, .v undef, .v undef, .v undef, .v undef, .v undef, .v undef, .v undef, .v undef], []⟩ rfl ?_
  repeat' first | (with_reducible first | refine AWP_seq' ?_ | refine k_normal ?_ | refine AWP_ret ?_) | ((with_reducible first | refine AWP_reg fun KC J hJ hKC => ?_ | refine AWP_regD rfl fun KC J hJ hKC => ?_); simp (maxSteps := 10000000) only [push_cast, seval, ↓reduceIte]) | (refine hKC _ _ _ _ _ (callV0 (h1) rfl rfl rfl ?_ ?_); (· exact Lq); simp (maxSteps := 10000000) only [push_cast, seval, ↓reduceIte]) | (refine hKC _ _ _ _ _ (callV0 (h2) rfl rfl rfl ?_ ?_); (· exact Lq); simp (maxSteps := 10000000) only [push_cast, seval, ↓reduceIte]) | ((first | with_reducible refine hJ _ _ ?_ | (with_reducible refine hJ _ _ ?_ ?_; · kernel_rfl)); clear hJ hKC KC J)
  refine ret_plain ?_
  simp (maxSteps := 10000000) only [push_cast, seval, ↓reduceIte, show Tryz.f233.results = #[(.cell 4 106)] from rfl]
  exact Lq
theorem numberR_bad {m : M3} {v : Int} (h : ¬ m.2.2 = 0) : numberR m v = m := tookR_bad h
theorem belowR_bad {m : M3} {v : Int} (h : ¬ m.2.2 = 0) : belowR m v = m := tookR_bad h
theorem opR_op {m : M3} {ws : List Int} (h : (opR m ws).2.2 = 0) (hm : m.2.2 = 0) (hw : ws.length ≤ 1000) : 0 ≤ (opR m ws).2.1 ∧ (opR m ws).2.1 ≤ 1000 := by
  unfold opR tookR at h ⊢
  rw [if_pos hm] at h ⊢
  split
  · rename_i h2
    unfold weightedF
    split
    · exact ⟨by simp, by simp⟩
    · split
      · simp only [pickI]
        split
        · rename_i i hi
          have := List.mem_of_find?_eq_some hi
          rw [List.mem_range] at this
          omega
        · omega
      · exact ⟨by simp, by simp⟩
  · exact ⟨by simp, by simp⟩
theorem rSlot0_fn (f : Bool) (nl : Int) (m : M3) (sp : Sp) (hn : nl ≤ 9223372036854775807) : Fn Tryz.prog 138 [.agg (encM m), .v (.int .i64 nl), .agg (spF f sp), .v (.bool false)] []
    (.agg (encM (atomR nl sp m).1 ++ [.v (.bool false), .v (.int .i64 (atomR nl sp m).2.1), .v (.int .i64 (atomR nl sp m).2.2)])) [] := by
  have h1 := rNumber_fn f m sp
  unfold atomR
  obtain ⟨v, hV⟩ : ∃ t, numberR m sp.val = t := ⟨_, rfl⟩
  rw [hV] at h1 ⊢
  have h2 := rBelow_fn v nl hn
  simp only at h2 ⊢
  obtain ⟨t, hT⟩ : ∃ t, belowR v nl = t := ⟨_, rfl⟩
  rw [hT] at h2 ⊢
  simp only [encM, spF, List.cons_append, List.nil_append] at h1 h2 ⊢
  refine Fn.of (fn := Tryz.f138) (by kernel_rfl) rfl (by kernel_rfl) ⟨[.agg [.sl false 1 (intRow m.1.l), .v (.int .i64 m.1.a), .sl false 1 (intRow m.1.g), .v (.int .i64 m.2.1), .v (.int .i64 m.2.2)], .v (.int .i64 nl), .agg [.v (.int .i64 sp.code), .v (.int .i64 sp.mem), .v (.int .i64 sp.stack), .v (.int .i64 sp.val), .sl f 1 (intRow sp.ws)], .v (.bool false), .v undef, .v undef, .v undef, .v undef, .v undef, .v undef, .v undef, .v undef, .v undef, .v undef, .v undef, .v undef, .v undef, .v undef, .v undef, .v undef, .v undef, .v undef, .v undef, .v undef, .v undef, .v undef, .v undef, .v undef, .v undef, .v undef, .v undef, .v undef, .v undef, .v undef, .v undef, .v undef, .v undef, .v undef, .v undef, .v undef, .v undef, .v undef], []⟩ rfl ?_
  repeat' first | (with_reducible first | refine AWP_seq' ?_ | refine k_normal ?_ | refine AWP_ret ?_ | refine AWP_skip ?_) | ((with_reducible refine AWP_reg fun KC J hJ hKC => ?_); simp (maxSteps := 10000000) only [push_cast, seval, ↓reduceIte]) | (refine hKC _ _ _ _ _ (callV0 (h1) rfl rfl rfl ?_ ?_); (· exact Lq); simp (maxSteps := 10000000) only [push_cast, seval, ↓reduceIte]) | (refine hKC _ _ _ _ _ (callV0 (h2) rfl rfl rfl ?_ ?_); (· exact Lq); simp (maxSteps := 10000000) only [push_cast, seval, ↓reduceIte]) | ((with_reducible refine hJ _ _ ?_); clear hJ hKC KC J) | ((with_reducible refine AWP_condF ?_ ?_); · rfl)
  refine ret_plain ?_
  simp (maxSteps := 10000000) only [push_cast, seval, ↓reduceIte, show Tryz.f138.results = #[(.cell 8 200)] from rfl]
  exact Lq
theorem rSlot1_fn (f : Bool) (nl : Int) (m : M3) (sp : Sp) (hn : nl ≤ 9223372036854775807) : Fn Tryz.prog 138 [.agg (encM m), .v (.int .i64 nl), .agg (spF f sp), .v (.bool true)] []
    (.agg (encM (slotR nl sp m).1 ++ [.v (.bool (slotR nl sp m).2.1), .v (.int .i64 (slotR nl sp m).2.2.1), .v (.int .i64 (slotR nl sp m).2.2.2)])) [] := by
  have h0 := rBelow_fn m 2 (by omega)
  unfold slotR
  obtain ⟨r, hR⟩ : ∃ t, belowR m 2 = t := ⟨_, rfl⟩
  rw [hR] at h0 ⊢
  have h1 := rNumber_fn f r sp
  have h3 := rBelow_fn r 13 (by omega)
  simp only at h1 h3 ⊢
  obtain ⟨q1, hq1⟩ : ∃ q, decide (r.2.2 = 0) = q := ⟨_, rfl⟩
  obtain ⟨q2, hq2⟩ : ∃ q, decide (r.2.1 = 1) = q := ⟨_, rfl⟩
  have hq1' : (r.2.2 == 0) = q1 := by rw [← hq1]; rw [Bool.eq_iff_iff]; simp
  have hq2' : (r.2.1 == 1) = q2 := by rw [← hq2]; rw [Bool.eq_iff_iff]; simp
  rw [hq1, hq2]
  have hvv : ∀ v : M3, v = (if (q1 && q2) = true then belowR r 13 else numberR r sp.val) → Fn Tryz.prog 135 [.agg (encM v), .v (.int .i64 nl)] [] (.agg (encM (belowR v nl))) [] := fun v _ => rBelow_fn v nl hn
  cases q1 <;> cases q2
  all_goals
    simp only [Bool.and_true, Bool.and_false, Bool.false_eq_true, if_true, if_false] at hvv ⊢
    first | (obtain ⟨v, hV⟩ : ∃ t, numberR r sp.val = t := ⟨_, rfl⟩; rw [hV] at h1 hvv ⊢) | (obtain ⟨v, hV⟩ : ∃ t, belowR r 13 = t := ⟨_, rfl⟩; rw [hV] at h3 hvv ⊢)
    have h2 := hvv v rfl
    obtain ⟨t, hT⟩ : ∃ t, belowR v nl = t := ⟨_, rfl⟩
    rw [hT] at h2 ⊢
    simp only [encM, spF, List.cons_append, List.nil_append] at h0 h1 h2 h3 ⊢
    refine Fn.of (fn := Tryz.f138) (by kernel_rfl) rfl (by kernel_rfl) ⟨[.agg [.sl false 1 (intRow m.1.l), .v (.int .i64 m.1.a), .sl false 1 (intRow m.1.g), .v (.int .i64 m.2.1), .v (.int .i64 m.2.2)], .v (.int .i64 nl), .agg [.v (.int .i64 sp.code), .v (.int .i64 sp.mem), .v (.int .i64 sp.stack), .v (.int .i64 sp.val), .sl f 1 (intRow sp.ws)], .v (.bool true), .v undef, .v undef, .v undef, .v undef, .v undef, .v undef, .v undef, .v undef, .v undef, .v undef, .v undef, .v undef, .v undef, .v undef, .v undef, .v undef, .v undef, .v undef, .v undef, .v undef, .v undef, .v undef, .v undef, .v undef, .v undef, .v undef, .v undef, .v undef, .v undef, .v undef, .v undef, .v undef, .v undef, .v undef, .v undef, .v undef, .v undef, .v undef], []⟩ rfl ?_
    repeat' first | (with_reducible first | refine AWP_seq' ?_ | refine k_normal ?_ | refine AWP_ret ?_) | ((with_reducible refine AWP_reg fun KC J hJ hKC => ?_); simp (maxSteps := 10000000) only [push_cast, seval, ↓reduceIte, hq1', hq2', undef]) | (refine hKC _ _ _ _ _ (callV0 (h0) rfl rfl rfl ?_ ?_); (· exact Lq); simp (maxSteps := 10000000) only [push_cast, seval, ↓reduceIte, hq1', hq2', undef]) | (refine hKC _ _ _ _ _ (callV0 (h1) rfl rfl rfl ?_ ?_); (· exact Lq); simp (maxSteps := 10000000) only [push_cast, seval, ↓reduceIte, hq1', hq2', undef]) | (refine hKC _ _ _ _ _ (callV0 (h2) rfl rfl rfl ?_ ?_); (· exact Lq); simp (maxSteps := 10000000) only [push_cast, seval, ↓reduceIte, hq1', hq2', undef]) | (refine hKC _ _ _ _ _ (callV0 (h3) rfl rfl rfl ?_ ?_); (· exact Lq); simp (maxSteps := 10000000) only [push_cast, seval, ↓reduceIte, hq1', hq2', undef]) | ((with_reducible refine hJ _ _ ?_); clear hJ hKC KC J) | ((with_reducible refine AWP_condT ?_ ?_); · rfl) | ((with_reducible refine AWP_condF ?_ ?_); · rfl)
    refine ret_plain ?_
    simp (maxSteps := 10000000) only [push_cast, seval, ↓reduceIte, show Tryz.f138.results = #[(.cell 8 200)] from rfl]
    exact Lq
set_option maxHeartbeats 4000000 in
theorem rInstr_fn (f : Bool) (nl : Int) (m : M3) (sp : Sp) (hn : nl ≤ 9223372036854775807) (hw : sp.ws.length ≤ 1000) : Fn Tryz.prog 137 [.agg (encM m), .v (.int .i64 nl), .agg (spF f sp)] []
    (.agg (encM (instrR nl sp m).1 ++ [.v (.int .i64 (instrR nl sp m).2.1), .v (.int .i64 (instrR nl sp m).2.2.1), .v (.int .i64 (instrR nl sp m).2.2.2)])) [] := by
  have h1 := rWeighted_fn false false f m.1.l m.1.g sp.ws m.1.a (by omega)
  have h2 := rTook_fn m (weightedF m.1 sp.ws)
  unfold instrR
  have hoo : opR m sp.ws = tookR m (weightedF m.1 sp.ws) := rfl
  rw [← hoo] at h2
  rw [show (⟨m.1.l, m.1.a, m.1.g⟩ : Dr) = m.1 from rfl] at h1
  have hop : (opR m sp.ws).2.2 = 0 → 0 ≤ (opR m sp.ws).2.1 ∧ (opR m sp.ws).2.1 ≤ 1000 := fun h => by
    by_cases hm : m.2.2 = 0
    · exact opR_op h hm hw
    · rw [hoo, tookR_bad hm] at h; exact absurd h hm
  obtain ⟨t, hT⟩ : ∃ t, weightedF m.1 sp.ws = t := ⟨_, rfl⟩
  rw [hT] at h1 h2
  obtain ⟨o, hO⟩ : ∃ t, opR m sp.ws = t := ⟨_, rfl⟩
  rw [hO] at h2 hop ⊢
  clear hoo hT hO
  simp only at ⊢
  by_cases h0 : o.2.2 = 0
  case neg =>
    have h0' : (o.2.2 != 0) = true := by simpa using h0
    rw [if_neg h0]
    simp only [encM, spF, List.cons_append, List.nil_append] at h1 h2 ⊢
    refine Fn.of (fn := Tryz.f137) (by kernel_rfl) rfl (by kernel_rfl) ⟨[.agg [.sl false 1 (intRow m.1.l), .v (.int .i64 m.1.a), .sl false 1 (intRow m.1.g), .v (.int .i64 m.2.1), .v (.int .i64 m.2.2)], .v (.int .i64 nl), .agg [.v (.int .i64 sp.code), .v (.int .i64 sp.mem), .v (.int .i64 sp.stack), .v (.int .i64 sp.val), .sl f 1 (intRow sp.ws)], .v undef, .v undef, .v undef, .v undef, .v undef, .v undef, .v undef, .v undef, .v undef, .v undef, .v undef, .v undef, .v undef, .v undef, .v undef, .v undef, .v undef, .v undef, .v undef, .v undef, .v undef, .v undef, .v undef, .v undef, .v undef, .v undef, .v undef, .v undef, .v undef, .v undef, .v undef, .v undef, .v undef, .v undef, .v undef, .v undef, .v undef, .v undef, .v undef, .v undef, .v undef, .v undef, .v undef, .v undef, .v undef, .v undef, .v undef, .v undef, .v undef, .v undef, .v undef, .v undef, .v undef, .v undef, .v undef, .v undef, .v undef], []⟩ rfl ?_
    repeat' first | (with_reducible first | refine AWP_seq' ?_ | refine k_normal ?_ | refine k_ret ?_ | refine AWP_ret ?_) | ((with_reducible first | refine AWP_reg fun KC J hJ hKC => ?_ | refine AWP_regD rfl fun KC J hJ hKC => ?_); simp (maxSteps := 10000000) only [push_cast, seval, ↓reduceIte, h0']) | (refine hKC _ _ _ _ _ (callV0 (h1) rfl rfl rfl ?_ ?_); (· exact Lq); simp (maxSteps := 10000000) only [push_cast, seval, ↓reduceIte, h0']) | (refine hKC _ _ _ _ _ (callV0 (h2) rfl rfl rfl ?_ ?_); (· exact Lq); simp (maxSteps := 10000000) only [push_cast, seval, ↓reduceIte, h0']) | ((first | with_reducible refine hJ _ _ ?_ | (with_reducible refine hJ _ _ ?_ ?_; · kernel_rfl)); clear hJ hKC KC J) | ((with_reducible refine AWP_condT ?_ ?_); · rfl)
    refine ret_plain ?_
    simp (maxSteps := 10000000) only [push_cast, seval, ↓reduceIte, show Tryz.f137.results = #[(.cell 6 197)] from rfl]
    exact Lq
  have h0' : (o.2.2 != 0) = false := by simpa using h0
  obtain ⟨hop0, hop1⟩ := hop h0
  rw [if_pos h0]
  by_cases e1 : o.2.1 = 1
  · have e1' : (o.2.1 == 1) = true := by simpa using e1
    have e8' : decide (8 ≤ o.2.1) = false := by rw [e1]; rfl
    have h3 := rNumber_fn f o sp
    rw [if_pos e1]
    obtain ⟨v, hV⟩ : ∃ t, numberR o sp.val = t := ⟨_, rfl⟩
    rw [hV] at h3 ⊢
    have h4 := rBelow_fn v nl hn
    simp only at h4 ⊢
    obtain ⟨t, hT⟩ : ∃ t, belowR v nl = t := ⟨_, rfl⟩
    rw [hT] at h4 ⊢
    simp only [encM, spF, List.cons_append, List.nil_append] at h1 h2 h3 h4 ⊢
    rw [e1] at h2 h3
    refine Fn.of (fn := Tryz.f137) (by kernel_rfl) rfl (by kernel_rfl) ⟨[.agg [.sl false 1 (intRow m.1.l), .v (.int .i64 m.1.a), .sl false 1 (intRow m.1.g), .v (.int .i64 m.2.1), .v (.int .i64 m.2.2)], .v (.int .i64 nl), .agg [.v (.int .i64 sp.code), .v (.int .i64 sp.mem), .v (.int .i64 sp.stack), .v (.int .i64 sp.val), .sl f 1 (intRow sp.ws)], .v undef, .v undef, .v undef, .v undef, .v undef, .v undef, .v undef, .v undef, .v undef, .v undef, .v undef, .v undef, .v undef, .v undef, .v undef, .v undef, .v undef, .v undef, .v undef, .v undef, .v undef, .v undef, .v undef, .v undef, .v undef, .v undef, .v undef, .v undef, .v undef, .v undef, .v undef, .v undef, .v undef, .v undef, .v undef, .v undef, .v undef, .v undef, .v undef, .v undef, .v undef, .v undef, .v undef, .v undef, .v undef, .v undef, .v undef, .v undef, .v undef, .v undef, .v undef, .v undef, .v undef, .v undef, .v undef, .v undef, .v undef], []⟩ rfl ?_
    repeat' first | (with_reducible first | refine AWP_seq' ?_ | refine k_normal ?_ | refine AWP_ret ?_ | refine AWP_skip ?_) | ((with_reducible first | refine AWP_reg fun KC J hJ hKC => ?_ | refine AWP_regD rfl fun KC J hJ hKC => ?_); simp (maxSteps := 10000000) only [push_cast, seval, ↓reduceIte, h0', undef]) | (refine hKC _ _ _ _ _ (callV0 (h1) rfl rfl rfl ?_ ?_); (· exact Lq); simp (maxSteps := 10000000) only [push_cast, seval, ↓reduceIte, h0', undef]) | (refine hKC _ _ _ _ _ (callV0 (h2) rfl rfl rfl ?_ ?_); (· exact Lq); simp (maxSteps := 10000000) only [push_cast, seval, ↓reduceIte, h0', undef]) | (refine hKC _ _ _ _ _ (callV0 (h3) rfl rfl rfl ?_ ?_); (· exact Lq); simp (maxSteps := 10000000) only [push_cast, seval, ↓reduceIte, h0', undef]) | (refine hKC _ _ _ _ _ (callV0 (h4) rfl rfl rfl ?_ ?_); (· exact Lq); simp (maxSteps := 10000000) only [push_cast, seval, ↓reduceIte, h0', undef]) | ((first | with_reducible refine hJ _ _ ?_ | (with_reducible refine hJ _ _ ?_ ?_; · kernel_rfl)); clear hJ hKC KC J) | ((with_reducible refine AWP_condT ?_ ?_); · rfl) | ((with_reducible refine AWP_condF ?_ ?_); · rfl)
    refine ret_plain ?_
    simp (maxSteps := 10000000) only [push_cast, seval, ↓reduceIte, show Tryz.f137.results = #[(.cell 6 197)] from rfl]
    exact Lq
  have e1' : (o.2.1 == 1) = false := by simpa using e1
  rw [if_neg e1]
  by_cases e8 : o.2.1 = 8
  · have h4 := rBelow_fn o 13 (by omega)
    rw [if_pos e8]
    obtain ⟨t, hT⟩ : ∃ t, belowR o 13 = t := ⟨_, rfl⟩
    rw [hT] at h4 ⊢
    simp only [encM, spF, List.cons_append, List.nil_append] at h1 h2 h4 ⊢
    rw [e8] at h2 h4
    refine Fn.of (fn := Tryz.f137) (by kernel_rfl) rfl (by kernel_rfl) ⟨[.agg [.sl false 1 (intRow m.1.l), .v (.int .i64 m.1.a), .sl false 1 (intRow m.1.g), .v (.int .i64 m.2.1), .v (.int .i64 m.2.2)], .v (.int .i64 nl), .agg [.v (.int .i64 sp.code), .v (.int .i64 sp.mem), .v (.int .i64 sp.stack), .v (.int .i64 sp.val), .sl f 1 (intRow sp.ws)], .v undef, .v undef, .v undef, .v undef, .v undef, .v undef, .v undef, .v undef, .v undef, .v undef, .v undef, .v undef, .v undef, .v undef, .v undef, .v undef, .v undef, .v undef, .v undef, .v undef, .v undef, .v undef, .v undef, .v undef, .v undef, .v undef, .v undef, .v undef, .v undef, .v undef, .v undef, .v undef, .v undef, .v undef, .v undef, .v undef, .v undef, .v undef, .v undef, .v undef, .v undef, .v undef, .v undef, .v undef, .v undef, .v undef, .v undef, .v undef, .v undef, .v undef, .v undef, .v undef, .v undef, .v undef, .v undef, .v undef, .v undef], []⟩ rfl ?_
    repeat' first | (with_reducible first | refine AWP_seq' ?_ | refine k_normal ?_ | refine AWP_ret ?_ | refine AWP_skip ?_) | ((with_reducible first | refine AWP_reg fun KC J hJ hKC => ?_ | refine AWP_regD rfl fun KC J hJ hKC => ?_); simp (maxSteps := 10000000) only [push_cast, seval, ↓reduceIte, h0', undef]) | ((with_reducible refine And.intro ?_ ?_); · exact Sq) | (refine hKC _ _ _ _ _ (callV0 (h1) rfl rfl rfl ?_ ?_); (· exact Lq); simp (maxSteps := 10000000) only [push_cast, seval, ↓reduceIte, h0', undef]) | (refine hKC _ _ _ _ _ (callV0 (h2) rfl rfl rfl ?_ ?_); (· exact Lq); simp (maxSteps := 10000000) only [push_cast, seval, ↓reduceIte, h0', undef]) | (refine hKC _ _ _ _ _ (callV0 (h4) rfl rfl rfl ?_ ?_); (· exact Lq); simp (maxSteps := 10000000) only [push_cast, seval, ↓reduceIte, h0', undef]) | ((first | with_reducible refine hJ _ _ ?_ | (with_reducible refine hJ _ _ ?_ ?_; · kernel_rfl)); clear hJ hKC KC J) | ((with_reducible refine AWP_condT ?_ ?_); · rfl) | ((with_reducible refine AWP_condF ?_ ?_); · rfl)
    refine ret_plain ?_
    simp (maxSteps := 10000000) only [push_cast, seval, ↓reduceIte, show Tryz.f137.results = #[(.cell 6 197)] from rfl]
    exact Lq
  by_cases e9 : o.2.1 = 9
  · have h4 := rBelow_fn o 4 (by omega)
    rw [if_neg e8, if_pos e9]
    obtain ⟨t, hT⟩ : ∃ t, belowR o 4 = t := ⟨_, rfl⟩
    rw [hT] at h4 ⊢
    simp only [encM, spF, List.cons_append, List.nil_append] at h1 h2 h4 ⊢
    rw [e9] at h2 h4
    refine Fn.of (fn := Tryz.f137) (by kernel_rfl) rfl (by kernel_rfl) ⟨[.agg [.sl false 1 (intRow m.1.l), .v (.int .i64 m.1.a), .sl false 1 (intRow m.1.g), .v (.int .i64 m.2.1), .v (.int .i64 m.2.2)], .v (.int .i64 nl), .agg [.v (.int .i64 sp.code), .v (.int .i64 sp.mem), .v (.int .i64 sp.stack), .v (.int .i64 sp.val), .sl f 1 (intRow sp.ws)], .v undef, .v undef, .v undef, .v undef, .v undef, .v undef, .v undef, .v undef, .v undef, .v undef, .v undef, .v undef, .v undef, .v undef, .v undef, .v undef, .v undef, .v undef, .v undef, .v undef, .v undef, .v undef, .v undef, .v undef, .v undef, .v undef, .v undef, .v undef, .v undef, .v undef, .v undef, .v undef, .v undef, .v undef, .v undef, .v undef, .v undef, .v undef, .v undef, .v undef, .v undef, .v undef, .v undef, .v undef, .v undef, .v undef, .v undef, .v undef, .v undef, .v undef, .v undef, .v undef, .v undef, .v undef, .v undef, .v undef, .v undef], []⟩ rfl ?_
    repeat' first | (with_reducible first | refine AWP_seq' ?_ | refine k_normal ?_ | refine AWP_ret ?_ | refine AWP_skip ?_) | ((with_reducible first | refine AWP_reg fun KC J hJ hKC => ?_ | refine AWP_regD rfl fun KC J hJ hKC => ?_); simp (maxSteps := 10000000) only [push_cast, seval, ↓reduceIte, h0', undef]) | ((with_reducible refine And.intro ?_ ?_); · exact Sq) | (refine hKC _ _ _ _ _ (callV0 (h1) rfl rfl rfl ?_ ?_); (· exact Lq); simp (maxSteps := 10000000) only [push_cast, seval, ↓reduceIte, h0', undef]) | (refine hKC _ _ _ _ _ (callV0 (h2) rfl rfl rfl ?_ ?_); (· exact Lq); simp (maxSteps := 10000000) only [push_cast, seval, ↓reduceIte, h0', undef]) | (refine hKC _ _ _ _ _ (callV0 (h4) rfl rfl rfl ?_ ?_); (· exact Lq); simp (maxSteps := 10000000) only [push_cast, seval, ↓reduceIte, h0', undef]) | ((first | with_reducible refine hJ _ _ ?_ | (with_reducible refine hJ _ _ ?_ ?_; · kernel_rfl)); clear hJ hKC KC J) | ((with_reducible refine AWP_condT ?_ ?_); · rfl) | ((with_reducible refine AWP_condF ?_ ?_); · rfl)
    refine ret_plain ?_
    simp (maxSteps := 10000000) only [push_cast, seval, ↓reduceIte, show Tryz.f137.results = #[(.cell 6 197)] from rfl]
    exact Lq
  by_cases e10 : o.2.1 = 10
  · have h4 := rBelow_fn o 2 (by omega)
    rw [if_neg e8, if_neg e9, if_pos e10]
    obtain ⟨t, hT⟩ : ∃ t, belowR o 2 = t := ⟨_, rfl⟩
    rw [hT] at h4 ⊢
    simp only [encM, spF, List.cons_append, List.nil_append] at h1 h2 h4 ⊢
    rw [e10] at h2 h4
    refine Fn.of (fn := Tryz.f137) (by kernel_rfl) rfl (by kernel_rfl) ⟨[.agg [.sl false 1 (intRow m.1.l), .v (.int .i64 m.1.a), .sl false 1 (intRow m.1.g), .v (.int .i64 m.2.1), .v (.int .i64 m.2.2)], .v (.int .i64 nl), .agg [.v (.int .i64 sp.code), .v (.int .i64 sp.mem), .v (.int .i64 sp.stack), .v (.int .i64 sp.val), .sl f 1 (intRow sp.ws)], .v undef, .v undef, .v undef, .v undef, .v undef, .v undef, .v undef, .v undef, .v undef, .v undef, .v undef, .v undef, .v undef, .v undef, .v undef, .v undef, .v undef, .v undef, .v undef, .v undef, .v undef, .v undef, .v undef, .v undef, .v undef, .v undef, .v undef, .v undef, .v undef, .v undef, .v undef, .v undef, .v undef, .v undef, .v undef, .v undef, .v undef, .v undef, .v undef, .v undef, .v undef, .v undef, .v undef, .v undef, .v undef, .v undef, .v undef, .v undef, .v undef, .v undef, .v undef, .v undef, .v undef, .v undef, .v undef, .v undef, .v undef], []⟩ rfl ?_
    repeat' first | (with_reducible first | refine AWP_seq' ?_ | refine k_normal ?_ | refine AWP_ret ?_ | refine AWP_skip ?_) | ((with_reducible first | refine AWP_reg fun KC J hJ hKC => ?_ | refine AWP_regD rfl fun KC J hJ hKC => ?_); simp (maxSteps := 10000000) only [push_cast, seval, ↓reduceIte, h0', undef]) | ((with_reducible refine And.intro ?_ ?_); · exact Sq) | (refine hKC _ _ _ _ _ (callV0 (h1) rfl rfl rfl ?_ ?_); (· exact Lq); simp (maxSteps := 10000000) only [push_cast, seval, ↓reduceIte, h0', undef]) | (refine hKC _ _ _ _ _ (callV0 (h2) rfl rfl rfl ?_ ?_); (· exact Lq); simp (maxSteps := 10000000) only [push_cast, seval, ↓reduceIte, h0', undef]) | (refine hKC _ _ _ _ _ (callV0 (h4) rfl rfl rfl ?_ ?_); (· exact Lq); simp (maxSteps := 10000000) only [push_cast, seval, ↓reduceIte, h0', undef]) | ((first | with_reducible refine hJ _ _ ?_ | (with_reducible refine hJ _ _ ?_ ?_; · kernel_rfl)); clear hJ hKC KC J) | ((with_reducible refine AWP_condT ?_ ?_); · rfl) | ((with_reducible refine AWP_condF ?_ ?_); · rfl)
    refine ret_plain ?_
    simp (maxSteps := 10000000) only [push_cast, seval, ↓reduceIte, show Tryz.f137.results = #[(.cell 6 197)] from rfl]
    exact Lq
  rw [if_neg e8, if_neg e9, if_neg e10]
  simp only [encM, spF, List.cons_append, List.nil_append] at h1 h2 ⊢
  obtain ⟨y, hy⟩ : ∃ y, decide (8 ≤ o.2.1) = y := ⟨_, rfl⟩
  have hz : y = true → decide (o.2.1 ≤ 10) = false := fun h => by
    rw [h] at hy
    exact decide_eq_false (by have := of_decide_eq_true hy; omega)
  cases y
  · refine Fn.of (fn := Tryz.f137) (by kernel_rfl) rfl (by kernel_rfl) ⟨[.agg [.sl false 1 (intRow m.1.l), .v (.int .i64 m.1.a), .sl false 1 (intRow m.1.g), .v (.int .i64 m.2.1), .v (.int .i64 m.2.2)], .v (.int .i64 nl), .agg [.v (.int .i64 sp.code), .v (.int .i64 sp.mem), .v (.int .i64 sp.stack), .v (.int .i64 sp.val), .sl f 1 (intRow sp.ws)], .v undef, .v undef, .v undef, .v undef, .v undef, .v undef, .v undef, .v undef, .v undef, .v undef, .v undef, .v undef, .v undef, .v undef, .v undef, .v undef, .v undef, .v undef, .v undef, .v undef, .v undef, .v undef, .v undef, .v undef, .v undef, .v undef, .v undef, .v undef, .v undef, .v undef, .v undef, .v undef, .v undef, .v undef, .v undef, .v undef, .v undef, .v undef, .v undef, .v undef, .v undef, .v undef, .v undef, .v undef, .v undef, .v undef, .v undef, .v undef, .v undef, .v undef, .v undef, .v undef, .v undef, .v undef, .v undef, .v undef, .v undef], []⟩ rfl ?_
    repeat' first | (with_reducible first | refine AWP_seq' ?_ | refine k_normal ?_ | refine AWP_ret ?_ | refine AWP_skip ?_) | ((with_reducible first | refine AWP_reg fun KC J hJ hKC => ?_ | refine AWP_regD rfl fun KC J hJ hKC => ?_); simp (maxSteps := 10000000) only [push_cast, seval, ↓reduceIte, h0', e1', hy, undef]) | (refine hKC _ _ _ _ _ (callV0 (h1) rfl rfl rfl ?_ ?_); (· exact Lq); simp (maxSteps := 10000000) only [push_cast, seval, ↓reduceIte, h0', e1', hy, undef]) | (refine hKC _ _ _ _ _ (callV0 (h2) rfl rfl rfl ?_ ?_); (· exact Lq); simp (maxSteps := 10000000) only [push_cast, seval, ↓reduceIte, h0', e1', hy, undef]) | ((first | with_reducible refine hJ _ _ ?_ | (with_reducible refine hJ _ _ ?_ ?_; · kernel_rfl)); clear hJ hKC KC J) | ((with_reducible refine AWP_condF ?_ ?_); · rfl)
    refine ret_plain ?_
    simp (maxSteps := 10000000) only [push_cast, seval, ↓reduceIte, show Tryz.f137.results = #[(.cell 6 197)] from rfl]
    exact Lq
  · have hz' := hz rfl
    refine Fn.of (fn := Tryz.f137) (by kernel_rfl) rfl (by kernel_rfl) ⟨[.agg [.sl false 1 (intRow m.1.l), .v (.int .i64 m.1.a), .sl false 1 (intRow m.1.g), .v (.int .i64 m.2.1), .v (.int .i64 m.2.2)], .v (.int .i64 nl), .agg [.v (.int .i64 sp.code), .v (.int .i64 sp.mem), .v (.int .i64 sp.stack), .v (.int .i64 sp.val), .sl f 1 (intRow sp.ws)], .v undef, .v undef, .v undef, .v undef, .v undef, .v undef, .v undef, .v undef, .v undef, .v undef, .v undef, .v undef, .v undef, .v undef, .v undef, .v undef, .v undef, .v undef, .v undef, .v undef, .v undef, .v undef, .v undef, .v undef, .v undef, .v undef, .v undef, .v undef, .v undef, .v undef, .v undef, .v undef, .v undef, .v undef, .v undef, .v undef, .v undef, .v undef, .v undef, .v undef, .v undef, .v undef, .v undef, .v undef, .v undef, .v undef, .v undef, .v undef, .v undef, .v undef, .v undef, .v undef, .v undef, .v undef, .v undef, .v undef, .v undef], []⟩ rfl ?_
    repeat' first | (with_reducible first | refine AWP_seq' ?_ | refine k_normal ?_ | refine AWP_ret ?_ | refine AWP_skip ?_) | ((with_reducible first | refine AWP_reg fun KC J hJ hKC => ?_ | refine AWP_regD rfl fun KC J hJ hKC => ?_); simp (maxSteps := 10000000) only [push_cast, seval, ↓reduceIte, h0', e1', hy, hz', undef]) | (refine hKC _ _ _ _ _ (callV0 (h1) rfl rfl rfl ?_ ?_); (· exact Lq); simp (maxSteps := 10000000) only [push_cast, seval, ↓reduceIte, h0', e1', hy, hz', undef]) | (refine hKC _ _ _ _ _ (callV0 (h2) rfl rfl rfl ?_ ?_); (· exact Lq); simp (maxSteps := 10000000) only [push_cast, seval, ↓reduceIte, h0', e1', hy, hz', undef]) | ((first | with_reducible refine hJ _ _ ?_ | (with_reducible refine hJ _ _ ?_ ?_; · kernel_rfl)); clear hJ hKC KC J) | ((with_reducible refine AWP_condF ?_ ?_); · rfl)
    refine ret_plain ?_
    simp (maxSteps := 10000000) only [push_cast, seval, ↓reduceIte, show Tryz.f137.results = #[(.cell 6 197)] from rfl]
    exact Lq
end Go.Proofs.YtabliglgeiajlaaGreat.AM
