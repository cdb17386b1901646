/- The next choice. -/
import Derived.Test.YtabliglgeiajlaaGreatU1
set_option linter.unusedSimpArgs false
set_option linter.unusedVariables false
namespace Go.Proofs.YtabliglgeiajlaaGreat.AM
open Go Go.RowKit Go.Proofs
set_option maxRecDepth 100000
set_option maxHeartbeats 400000

theorem clip_fn (f : Bool) (l : List Int) : Fn Tryz.prog 276 [.sl f 1 (intRow l)] [] (.sl true 1 (intRow l)) [] := by
  refine Fn.of (fn := Tryz.f276) (by kernel_rfl) rfl (by kernel_rfl) ⟨[.sl f 1 (intRow l), .v undef, .v undef, .v undef, .v undef, .v undef, .v undef, .v undef, .v undef], []⟩ rfl ?_
  repeat' first | (with_reducible first | refine AWP_seq' ?_ | refine k_normal ?_ | refine AWP_ret ?_) | ((with_reducible refine AWP_reg fun KC J hJ hKC => ?_); simp (maxSteps := 10000000) only [push_cast, seval, ↓reduceIte]) | ((with_reducible refine And.intro ?_ ?_); · exact Sq) | ((with_reducible refine hJ _ _ ?_); clear hJ hKC KC J)
  refine ret_plain ?_
  simp (maxSteps := 10000000) only [push_cast, seval, ↓reduceIte, show Tryz.f276.results = #[(.tmp 2)] from rfl]
  rw [List.take_length]
  exact leD_refl _
structure Dr where
  l : List Int
  a : Int
  g : List Int
  deriving DecidableEq
def Dr.z : Dr := ⟨[], 0, []⟩
def Dr.ok (d : Dr) : Bool := rightB d.l d.g d.a
def encDr (f g : Bool) (d : Dr) : D := .agg [.sl f 1 (intRow d.l), .v (.int .i64 d.a), .sl g 1 (intRow d.g)]
def takeF (d : Dr) (b : Int) : Dr × Int × Int :=
  if rightB d.l d.g d.a = false ∨ b < 1 then (Dr.z, 0, 1)
  else if d.g.length = 2000 then (Dr.z, 0, 8)
  else (⟨d.l, (if d.a < d.l.length then d.a + 1 else d.a), d.g ++ [choiceI d.l d.a b]⟩, choiceI d.l d.a b, 0)
theorem takeF_1 {l lg : List Int} {a b : Int} (h : rightB l lg a = false ∨ b < 1) : takeF ⟨l, a, lg⟩ b = (Dr.z, 0, 1) := if_pos h
theorem takeF_8 {l lg : List Int} {a b : Int} (h1 : rightB l lg a = true) (h2 : ¬ b < 1) (h3 : (lg.length : Int) = 2000) : takeF ⟨l, a, lg⟩ b = (Dr.z, 0, 8) := by
  unfold takeF
  have hn : ¬ (rightB l lg a = false ∨ b < 1) := by
    rintro (h | h)
    · rw [h1] at h; cases h
    · exact h2 h
  rw [if_neg hn, if_pos (by simp only; omega)]
theorem takeF_0 {l lg : List Int} {a b : Int} (h1 : rightB l lg a = true) (h2 : ¬ b < 1) (h3 : ¬ (lg.length : Int) = 2000) :
    takeF ⟨l, a, lg⟩ b = (⟨l, (if a < l.length then a + 1 else a), lg ++ [choiceI l a b]⟩, choiceI l a b, 0) := by
  unfold takeF
  have hn : ¬ (rightB l lg a = false ∨ b < 1) := by
    rintro (h | h)
    · rw [h1] at h; cases h
    · exact h2 h
  rw [if_neg hn, if_neg (by simp only; omega)]
theorem take_fn (f g : Bool) (l lg : List Int) (a b : Int) (hB : b ≤ 9223372036854775807) :
    Fn Tryz.prog 227 [.agg [.sl f 1 (intRow l), .v (.int .i64 a), .sl g 1 (intRow lg)], .v (.int .i64 b)] []
      (.tup [encDr f false (takeF ⟨l, a, lg⟩ b).1, .v (.int .i64 (takeF ⟨l, a, lg⟩ b).2.1), .v (.int .i64 (takeF ⟨l, a, lg⟩ b).2.2)]) [] := by
  refine Fn.of (fn := Tryz.f227) (by kernel_rfl) rfl (by kernel_rfl) ⟨[.agg [.sl f 1 (intRow l), .v (.int .i64 a), .sl g 1 (intRow lg)], .v (.int .i64 b), .v undef, .v undef, .v undef, .v undef, .v undef, .v undef, .v undef, .v undef, .v undef, .v undef, .v undef, .v undef, .v undef, .v undef, .v undef, .v undef, .v undef, .v undef, .v undef, .v undef, .v undef, .v undef, .v undef, .v undef, .v undef, .v undef, .v undef, .v undef, .v undef, .v undef, .v undef, .v undef, .v undef, .v undef, .v undef, .v undef, .v undef, .v undef, .v undef, .v undef, .v undef, .v undef, .v undef], []⟩ rfl ?_
  by_cases hr : rightB l lg a = true
  · have h0 : 0 ≤ a ∧ l.length ≤ 500 ∧ lg.length ≤ 2000 := by simp [rightB] at hr; omega
    repeat' first | (with_reducible first | refine AWP_seq' ?_ | refine k_normal ?_ | refine b_normal ?_ | refine AWP_skip ?_ | refine AWP_block ?_) | ((with_reducible refine AWP_reg fun KC J hJ hKC => ?_); simp (maxSteps := 10000000) only [push_cast, seval, ↓reduceIte, hr]) | ((with_reducible refine And.intro ?_ ?_); · exact Sq) | (refine' hKC _ _ _ _ _ (callV0 (drRight_fn _ _ _ _ _) rfl rfl rfl ?_ ?_); (rotate_left 5); (· exact Lq); simp (maxSteps := 10000000) only [push_cast, seval, ↓reduceIte, hr]) | (refine' hKC _ _ _ _ _ (callV0 (choice_fn _ _ _ _ _ _ ?_ ?_ ?_) rfl rfl rfl ?_ ?_); (rotate_left 9); (· exact Lq); (rotate_left 1); (iterate 3 (· exact Hq)); simp (maxSteps := 10000000) only [push_cast, seval, ↓reduceIte, hr]) | (refine' hKC _ _ _ _ _ (callV0 (clip_fn _ _) rfl rfl rfl ?_ ?_); (rotate_left 2); (· exact Lq); simp (maxSteps := 10000000) only [push_cast, seval, ↓reduceIte, hr]) | ((with_reducible refine hJ _ _ ?_); clear hJ hKC KC J) | (refine AWP_cond rfl (fun h => ?_) (fun h => ?_) <;> try simp only [decide_eq_true_eq, decide_eq_false_iff_not, Bool.not_eq_true', Bool.not_eq_false', beq_iff_eq, bne_iff_ne, ne_eq, Bool.not_eq_true, Bool.or_eq_true, Bool.and_eq_true, Bool.or_eq_false_iff, Bool.and_eq_false_imp, beq_eq_false_iff_ne, bne_eq_false_iff_eq] at h)
    · refine AWP_ret ?_
      refine ret_plain ?_
      simp (maxSteps := 10000000) only [push_cast, seval, ↓reduceIte, show Tryz.f227.results = #[(.cell 4 30), (.tmp 5), (.tmp 6)] from rfl]
      simp only [takeF, hr, if_pos h, Bool.true_eq_false, false_or, encDr, Dr.z]
      exact Lq
    · refine AWP_ret ?_
      refine ret_plain ?_
      simp (maxSteps := 10000000) only [push_cast, seval, ↓reduceIte, show Tryz.f227.results = #[(.cell 4 30), (.tmp 5), (.tmp 6)] from rfl]
      simp only [takeF, hr, Bool.true_eq_false, false_or, encDr, Dr.z]
      rw [if_neg (by assumption), if_pos (by omega)]
      exact Lq
    · refine AWP_freeze 6 rfl (by simp (maxSteps := 10000000) only [push_cast, seval, ↓reduceIte]) ?_
      simp (maxSteps := 10000000) only [push_cast, seval, ↓reduceIte, frSt, frSlot, fr3, fr2, fr1, fr0, sameB, arrOf]
      refine AWP_ret ?_
      refine ret_plain ?_
      simp (maxSteps := 10000000) only [push_cast, seval, ↓reduceIte, show Tryz.f227.results = #[(.cell 4 30), (.tmp 5), (.tmp 6)] from rfl]
      simp only [takeF, hr, Bool.true_eq_false, false_or, encDr]
      rw [if_neg (by assumption), if_neg (by omega), wrapI (by omega) (by omega)]
      simp only [if_pos h]
      exact Lq
    · refine AWP_freeze 6 rfl (by simp (maxSteps := 10000000) only [push_cast, seval, ↓reduceIte]) ?_
      simp (maxSteps := 10000000) only [push_cast, seval, ↓reduceIte, frSt, frSlot, fr3, fr2, fr1, fr0, sameB, arrOf]
      refine AWP_ret ?_
      refine ret_plain ?_
      simp (maxSteps := 10000000) only [push_cast, seval, ↓reduceIte, show Tryz.f227.results = #[(.cell 4 30), (.tmp 5), (.tmp 6)] from rfl]
      simp only [takeF, hr, Bool.true_eq_false, false_or, encDr]
      rw [if_neg (by assumption), if_neg (by omega)]
      simp only [if_neg h]
      exact Lq
  · have hr' : rightB l lg a = false := by simpa using hr
    repeat' first | (with_reducible first | refine AWP_seq' ?_ | refine k_normal ?_ | refine k_ret ?_ | refine b_ret ?_ | refine AWP_ret ?_ | refine AWP_block ?_) | ((with_reducible refine AWP_reg fun KC J hJ hKC => ?_); simp (maxSteps := 10000000) only [push_cast, seval, ↓reduceIte, hr']) | (refine' hKC _ _ _ _ _ (callV0 (drRight_fn _ _ _ _ _) rfl rfl rfl ?_ ?_); (rotate_left 5); (· exact Lq); simp (maxSteps := 10000000) only [push_cast, seval, ↓reduceIte, hr']) | ((with_reducible refine hJ _ _ ?_); clear hJ hKC KC J) | ((with_reducible refine AWP_condT ?_ ?_); · rfl)
    all_goals
      refine ret_plain ?_
      simp (maxSteps := 10000000) only [push_cast, seval, ↓reduceIte, show Tryz.f227.results = #[(.cell 4 30), (.tmp 5), (.tmp 6)] from rfl]
      simp only [takeF, hr', true_or, if_true, encDr, Dr.z]
      exact Lq
/-- So does the reference. -/
theorem left_fn (a b : Int) (hb : 1 ≤ b) (hB : b ≤ 9223372036854775807) : Fn Tryz.prog 278 [.v (.int .i64 a), .v (.int .i64 b)] [] (.v (.int .i64 (a % b))) [] := by
  have hfix := tmod_fix (x := a) hb hB
  refine Fn.of (fn := Tryz.f278) (by kernel_rfl) rfl (by kernel_rfl) ⟨[.v (.int .i64 a), .v (.int .i64 b), .v undef, .v undef, .v undef, .v undef, .v undef, .v undef, .v undef, .v undef, .v undef, .v undef, .v undef, .v undef], []⟩ rfl ?_
  repeat' first | (with_reducible first | refine AWP_seq' ?_ | refine k_normal ?_ | refine AWP_ret ?_ | refine AWP_skip ?_) | ((with_reducible refine AWP_reg fun KC J hJ hKC => ?_); simp (maxSteps := 10000000) only [push_cast, seval, ↓reduceIte]) | ((with_reducible refine And.intro ?_ ?_); · exact Sq) | ((with_reducible refine hJ _ _ ?_); clear hJ hKC KC J) | (refine AWP_cond rfl (fun h => ?_) (fun h => ?_) <;> try simp only [decide_eq_true_eq, decide_eq_false_iff_not, Bool.not_eq_true', Bool.not_eq_false', beq_iff_eq, bne_iff_ne, ne_eq, Bool.not_eq_true, Bool.or_eq_true, Bool.and_eq_true, Bool.or_eq_false_iff, Bool.and_eq_false_imp, beq_eq_false_iff_ne, bne_eq_false_iff_eq] at h)
  · rw [if_pos h] at hfix
    refine ret_plain ?_
    simp (maxSteps := 10000000) only [push_cast, seval, ↓reduceIte, show Tryz.f278.results = #[(.tmp 4)] from rfl]
    exact leD_v (by rw [hfix])
  · rw [if_neg (by omega)] at hfix
    refine ret_plain ?_
    simp (maxSteps := 10000000) only [push_cast, seval, ↓reduceIte, show Tryz.f278.results = #[(.tmp 4)] from rfl]
    exact leD_v (by rw [hfix])
theorem log_fn (f : Bool) (l : List Int) (n : Int) (hl : l.length ≤ 3000) : Fn Tryz.prog 279 [.sl f 1 (intRow l), .v (.int .i64 n)] [] (.sl false 1 (intRow (l ++ [n]))) [] := by
  cases l with
  | nil =>
    refine Fn.of (fn := Tryz.f279) (by kernel_rfl) rfl (by kernel_rfl) ⟨[.sl f 1 (intRow []), .v (.int .i64 n), .v undef, .v undef, .v undef, .v undef, .v undef, .v undef, .v undef, .v undef, .v undef, .v undef, .v undef, .v undef, .v undef], []⟩ rfl ?_
    repeat' first | (with_reducible first | refine AWP_seq' ?_ | refine k_normal ?_) | ((with_reducible refine AWP_reg fun KC J hJ hKC => ?_); simp (maxSteps := 10000000) only [push_cast, seval, ↓reduceIte]) | ((with_reducible refine hJ _ _ ?_); clear hJ hKC KC J)
    refine AWP_freeze 3 rfl (by simp (maxSteps := 10000000) only [push_cast, seval, ↓reduceIte]) ?_
    simp (maxSteps := 10000000) only [push_cast, seval, ↓reduceIte, frSt, frSlot, fr3, fr2, fr1, fr0, sameB, arrOf, chunk]
    refine AWP_ret ?_
    refine ret_plain ?_
    simp (maxSteps := 10000000) only [push_cast, seval, ↓reduceIte, show Tryz.f279.results = #[(.tmp 4)] from rfl]
    exact Lq
  | cons x l =>
    have hl' : l.length + 1 ≤ 3000 := hl
    have hc := chunk_snoc (x :: l) n
    refine Fn.of (fn := Tryz.f279) (by kernel_rfl) rfl (by kernel_rfl) ⟨[.sl f 1 (intRow (x :: l)), .v (.int .i64 n), .v undef, .v undef, .v undef, .v undef, .v undef, .v undef, .v undef, .v undef, .v undef, .v undef, .v undef, .v undef, .v undef], []⟩ rfl ?_
    repeat' first | (with_reducible first | refine AWP_seq' ?_ | refine k_normal ?_) | ((with_reducible refine AWP_reg fun KC J hJ hKC => ?_); simp (maxSteps := 10000000) only [push_cast, seval, ↓reduceIte, take_intRow (x :: l) (l.length + 1) rfl]) | ((with_reducible refine And.intro ?_ ?_); · exact Sq) | ((with_reducible refine hJ _ _ ?_); clear hJ hKC KC J)
    simp only [List.length_cons] at hc
    refine AWP_freeze 1 rfl (by simp (maxSteps := 10000000) only [push_cast, seval, ↓reduceIte]) ?_
    simp (maxSteps := 10000000) only [push_cast, seval, ↓reduceIte, frSt, frSlot, fr3, fr2, fr1, fr0, sameB, arrOf, hc]
    refine AWP_ret ?_
    refine ret_plain ?_
    simp (maxSteps := 10000000) only [push_cast, seval, ↓reduceIte, show Tryz.f279.results = #[(.tmp 4)] from rfl]
    exact Lq
def encT13 (f g : Bool) (t : Dr × Int × Int) : D := .agg [.sl f 1 (intRow t.1.l), .v (.int .i64 t.1.a), .sl g 1 (intRow t.1.g), .v (.int .i64 t.2.1), .v (.slice none 0 0), .v (.int .i64 t.2.2)]
theorem rTake_fn (f g : Bool) (l lg : List Int) (a b : Int) (hB : b ≤ 9223372036854775807) :
    Fn Tryz.prog 232 [.agg [.sl f 1 (intRow l), .v (.int .i64 a), .sl g 1 (intRow lg)], .v (.int .i64 b)] [] (encT13 f false (takeF ⟨l, a, lg⟩ b)) [] := by
  refine Fn.of (fn := Tryz.f232) (by kernel_rfl) rfl (by kernel_rfl) ⟨[.agg [.sl f 1 (intRow l), .v (.int .i64 a), .sl g 1 (intRow lg)], .v (.int .i64 b), .v undef, .v undef, .v undef, .v undef, .v undef, .v undef, .v undef, .v undef, .v undef, .v undef, .v undef, .v undef, .v undef, .v undef, .v undef, .v undef, .v undef, .v undef, .v undef, .v undef, .v undef, .v undef, .v undef, .v undef, .v undef, .v undef, .v undef, .v undef, .v undef, .v undef, .v undef, .v undef, .v undef, .v undef, .v undef, .v undef, .v undef, .v undef, .v undef, .v undef, .v undef, .v undef, .v undef], []⟩ rfl ?_
  by_cases hr : rightB l lg a = true
  · have h0 : 0 ≤ a ∧ l.length ≤ 500 ∧ lg.length ≤ 2000 := by simp [rightB] at hr; omega
    by_cases hlt : a < l.length
    · have hx : l[a.toNat]? = some (l.getD a.toNat 0) := by rw [List.getD_eq_getElem?_getD, List.getElem?_eq_getElem (by omega)]; rfl
      repeat' first | (with_reducible first | refine AWP_seq' ?_ | refine k_normal ?_ | refine k_ret ?_ | refine AWP_ret ?_ | refine AWP_skip ?_) | ((with_reducible refine AWP_reg fun KC J hJ hKC => ?_); simp (maxSteps := 10000000) only [push_cast, seval, ↓reduceIte, hr, hlt, getE_intRow hx]) | ((with_reducible refine And.intro ?_ ?_); · exact Sq) | (refine' hKC _ _ _ _ _ (callV0 (rRight_fn _ _ _ _ _) rfl rfl rfl ?_ ?_); (rotate_left 5); (· exact Lq); simp (maxSteps := 10000000) only [push_cast, seval, ↓reduceIte, hr, hlt, getE_intRow hx]) | (refine' hKC _ _ _ _ _ (callV0 (left_fn _ _ ?_ ?_) rfl rfl rfl ?_ ?_); (rotate_left 4); (· exact Lq); (rotate_left 1); (iterate 2 (· exact Hq)); simp (maxSteps := 10000000) only [push_cast, seval, ↓reduceIte, hr, hlt, getE_intRow hx]) | (refine' hKC _ _ _ _ _ (callV0 (log_fn _ _ _ ?_) rfl rfl rfl ?_ ?_); (rotate_left 4); (· exact Lq); (rotate_left 1); (iterate 1 (· exact Hq)); simp (maxSteps := 10000000) only [push_cast, seval, ↓reduceIte, hr, hlt, getE_intRow hx]) | ((with_reducible refine hJ _ _ ?_); clear hJ hKC KC J) | ((with_reducible refine AWP_condT ?_ ?_); · rfl) | (refine AWP_cond rfl (fun h => ?_) (fun h => ?_) <;> try simp only [decide_eq_true_eq, decide_eq_false_iff_not, Bool.not_eq_true', Bool.not_eq_false', beq_iff_eq, bne_iff_ne, ne_eq, Bool.not_eq_true, Bool.or_eq_true, Bool.and_eq_true, Bool.or_eq_false_iff, Bool.and_eq_false_imp, beq_eq_false_iff_ne, bne_eq_false_iff_eq] at h)
      · refine ret_plain ?_
        simp (maxSteps := 10000000) only [push_cast, seval, ↓reduceIte, show Tryz.f232.results = #[(.cell 4 272)] from rfl]
        rw [takeF_1 (.inr h)]
        exact Lq
      · refine ret_plain ?_
        simp (maxSteps := 10000000) only [push_cast, seval, ↓reduceIte, show Tryz.f232.results = #[(.cell 4 272)] from rfl]
        rw [takeF_8 hr (by assumption) h]
        exact Lq
      · refine ret_plain ?_
        simp (maxSteps := 10000000) only [push_cast, seval, ↓reduceIte, show Tryz.f232.results = #[(.cell 4 272)] from rfl]
        rw [takeF_0 hr (by assumption) h, wrapI (by omega) (by omega)]
        simp only [choiceI, if_pos hlt]
        exact Lq
    · skip
      repeat' first | (with_reducible first | refine AWP_seq' ?_ | refine k_normal ?_ | refine k_ret ?_ | refine AWP_ret ?_ | refine AWP_skip ?_) | ((with_reducible refine AWP_reg fun KC J hJ hKC => ?_); simp (maxSteps := 10000000) only [push_cast, seval, ↓reduceIte, hr, hlt]) | (refine' hKC _ _ _ _ _ (callV0 (rRight_fn _ _ _ _ _) rfl rfl rfl ?_ ?_); (rotate_left 5); (· exact Lq); simp (maxSteps := 10000000) only [push_cast, seval, ↓reduceIte, hr, hlt]) | (refine' hKC _ _ _ _ _ (callV0 (log_fn _ _ _ ?_) rfl rfl rfl ?_ ?_); (rotate_left 4); (· exact Lq); (rotate_left 1); (iterate 1 (· exact Hq)); simp (maxSteps := 10000000) only [push_cast, seval, ↓reduceIte, hr, hlt]) | ((with_reducible refine hJ _ _ ?_); clear hJ hKC KC J) | ((with_reducible refine AWP_condF ?_ ?_); · rfl) | (refine AWP_cond rfl (fun h => ?_) (fun h => ?_) <;> try simp only [decide_eq_true_eq, decide_eq_false_iff_not, Bool.not_eq_true', Bool.not_eq_false', beq_iff_eq, bne_iff_ne, ne_eq, Bool.not_eq_true, Bool.or_eq_true, Bool.and_eq_true, Bool.or_eq_false_iff, Bool.and_eq_false_imp, beq_eq_false_iff_ne, bne_eq_false_iff_eq] at h)
      · refine ret_plain ?_
        simp (maxSteps := 10000000) only [push_cast, seval, ↓reduceIte, show Tryz.f232.results = #[(.cell 4 272)] from rfl]
        rw [takeF_1 (.inr h)]
        exact Lq
      · refine ret_plain ?_
        simp (maxSteps := 10000000) only [push_cast, seval, ↓reduceIte, show Tryz.f232.results = #[(.cell 4 272)] from rfl]
        rw [takeF_8 hr (by assumption) h]
        exact Lq
      · refine ret_plain ?_
        simp (maxSteps := 10000000) only [push_cast, seval, ↓reduceIte, show Tryz.f232.results = #[(.cell 4 272)] from rfl]
        rw [takeF_0 hr (by assumption) h]
        simp only [choiceI, if_neg hlt]
        exact Lq
  · have hr' : rightB l lg a = false := by simpa using hr
    repeat' first | (with_reducible first | refine AWP_seq' ?_ | refine k_normal ?_ | refine k_ret ?_ | refine AWP_ret ?_) | ((with_reducible refine AWP_reg fun KC J hJ hKC => ?_); simp (maxSteps := 10000000) only [push_cast, seval, ↓reduceIte, hr']) | (refine' hKC _ _ _ _ _ (callV0 (rRight_fn _ _ _ _ _) rfl rfl rfl ?_ ?_); (rotate_left 5); (· exact Lq); simp (maxSteps := 10000000) only [push_cast, seval, ↓reduceIte, hr']) | ((with_reducible refine hJ _ _ ?_); clear hJ hKC KC J) | ((with_reducible refine AWP_condT ?_ ?_); · rfl)
    all_goals
      refine ret_plain ?_
      simp (maxSteps := 10000000) only [push_cast, seval, ↓reduceIte, show Tryz.f232.results = #[(.cell 4 272)] from rfl]
      rw [takeF_1 (.inl hr')]
      exact Lq

/-! ### Rows the same -/
def cmpL : List Int → List Int → Int
  | [], [] => 0
  | [], _ :: _ => -1
  | _ :: _, [] => 1
  | x :: xs, y :: ys => if cmpI x y ≠ 0 then cmpI x y else cmpL xs ys
def cmpR (xs ys : List Int) : Int := if cmpI xs.length ys.length ≠ 0 then cmpI xs.length ys.length else cmpL xs ys
theorem cmpI_zero {x y : Int} : cmpI x y = 0 ↔ x = y := by
  unfold cmpI
  split
  · omega
  · split <;> omega
theorem cmpL_zero : ∀ {xs ys : List Int}, cmpL xs ys = 0 ↔ xs = ys
  | [], [] => by simp [cmpL]
  | [], _ :: _ => by simp [cmpL]
  | _ :: _, [] => by simp [cmpL]
  | x :: xs, y :: ys => by
    simp only [cmpL, List.cons.injEq]
    by_cases h : cmpI x y = 0
    · have ih := @cmpL_zero xs ys
      have hxy := cmpI_zero.1 h
      have hyy : cmpI y y = 0 := cmpI_zero.2 rfl
      simp [h, ih, hxy, hyy]
    · simp only [ne_eq, h, not_false_eq_true, if_true]
      have : x ≠ y := fun e => h (cmpI_zero.2 e)
      simp [this]
theorem cmpR_zero {xs ys : List Int} : cmpR xs ys = 0 ↔ xs = ys := by
  unfold cmpR
  by_cases h : cmpI xs.length ys.length = 0
  · simp [h, cmpL_zero]
  · simp only [ne_eq, h, not_false_eq_true, if_true, false_iff]
    intro e; subst e; exact h (cmpI_zero.2 rfl)
theorem cmpL_drop {xs ys : List Int} {i : Nat} (h1 : i < xs.length) (h2 : i < ys.length) (he : cmpL xs ys = cmpL (xs.drop i) (ys.drop i)) :
    cmpL xs ys = if cmpI xs[i] ys[i] ≠ 0 then cmpI xs[i] ys[i] else cmpL (xs.drop (i + 1)) (ys.drop (i + 1)) := by
  rw [he, List.drop_eq_getElem_cons h1, List.drop_eq_getElem_cons h2]
  rfl
theorem rCmp_fn (f g : Bool) (xs ys : List Int) (hb : xs.length ≤ 9223372036854775807) : Fn Tryz.prog 55 [.sl f 1 (intRow xs), .sl g 1 (intRow ys)] [] (.v (.int .i64 (cmpR xs ys))) [] := by
  refine Fn.of (fn := Tryz.f55) (by kernel_rfl) rfl (by kernel_rfl) ⟨[.sl f 1 (intRow xs), .sl g 1 (intRow ys), .v undef, .v undef, .v undef, .v undef, .v undef, .v undef, .v undef, .v undef, .v undef, .v undef, .v undef, .v undef, .v undef, .v undef, .v undef, .v undef, .v undef, .v undef, .v undef, .v undef, .v undef, .v undef, .v undef, .v undef, .v undef, .v undef, .v undef, .v undef, .v undef, .v undef, .v undef, .v undef, .v undef, .v undef, .v undef, .v undef, .v undef, .v undef], []⟩ rfl ?_
  repeat' first | (with_reducible first | refine AWP_seq' ?_ | refine k_normal ?_ | refine k_ret ?_ | refine AWP_ret ?_ | refine AWP_skip ?_ | refine AWP_block ?_) | ((with_reducible refine AWP_reg fun KC J hJ hKC => ?_); simp (maxSteps := 10000000) only [push_cast, seval, ↓reduceIte]) | ((with_reducible refine hJ _ _ ?_); clear hJ hKC KC J) | (refine AWP_cond rfl (fun h => ?_) (fun h => ?_) <;> try simp only [decide_eq_true_eq, decide_eq_false_iff_not, Bool.not_eq_true', Bool.not_eq_false', beq_iff_eq, bne_iff_ne, ne_eq, Bool.not_eq_true, Bool.or_eq_true, Bool.and_eq_true, Bool.or_eq_false_iff, Bool.and_eq_false_imp, beq_eq_false_iff_ne, bne_eq_false_iff_eq] at h)
  · refine ret_plain ?_
    simp (maxSteps := 10000000) only [push_cast, seval, ↓reduceIte, show Tryz.f55.results = #[(.tmp 4)] from rfl]
    exact leD_v (by simp [cmpR, cmpI, h])
  · refine ret_plain ?_
    simp (maxSteps := 10000000) only [push_cast, seval, ↓reduceIte, show Tryz.f55.results = #[(.tmp 4)] from rfl]
    have e1 : ¬ xs.length < ys.length := by omega
    have e2 : ys.length < xs.length := by omega
    exact leD_v (by simp [cmpR, cmpI, e1, e2])
  · have hl : xs.length = ys.length := by omega
    have hR : cmpR xs ys = cmpL xs ys := by simp [cmpR, cmpI, hl]
    refine AWP_loopF (γ := {i : Nat // i ≤ xs.length ∧ cmpL xs ys = cmpL (xs.drop i) (ys.drop i)}) (fun i => ⟨[.sl f 1 (intRow xs), .sl g 1 (intRow ys), .any, .any, .any, .any, .any, .any, .any, .any, .any, .any, .any, .any, .any, .any, .any, .v (.int .i64 xs.length), .v (.int .i64 i.1), .any, .any, .any, .any, .any, .any, .any, .any, .any, .any, .any, .any, .any, .any, .any, .any, .any, .any, .any, .any, .any], []⟩) (fun i => xs.length - i.1) ⟨0, by simp⟩ ⟨?_, Fq⟩ ?_
    · exact Lq
    · rintro ⟨i, hi, he⟩
      by_cases hlt : (i : Int) < (xs.length : Int)
      · have hx : xs[i]? = some xs[i] := List.getElem?_eq_getElem (by omega)
        have hy : ys[i]? = some ys[i] := List.getElem?_eq_getElem (by omega)
        have hd := cmpL_drop (by omega) (by omega) he
        repeat' first | (with_reducible first | refine AWP_seq' ?_ | refine k_normal ?_ | refine k_ret ?_ | refine b_normal ?_ | refine b_ret ?_ | refine AWP_ret ?_ | refine AWP_skip ?_ | refine AWP_block ?_) | ((with_reducible first | refine AWP_reg fun KC J hJ hKC => ?_ | refine AWP_regD rfl fun KC J hJ hKC => ?_); simp (maxSteps := 10000000) only [push_cast, seval, ↓reduceIte, hlt, getE_intRow hx, getE_intRow hy, wrapN (i := i) (n := xs.length) (by omega) hb]) | ((with_reducible refine And.intro ?_ ?_); · exact Sq) | ((first | with_reducible refine hJ _ _ ?_ | (with_reducible refine hJ _ _ ?_ ?_; · kernel_rfl)); clear hJ hKC KC J) | ((with_reducible refine AWP_condT ?_ ?_); · rfl) | (refine AWP_cond rfl (fun h => ?_) (fun h => ?_) <;> try simp only [decide_eq_true_eq, decide_eq_false_iff_not, Bool.not_eq_true', Bool.not_eq_false', beq_iff_eq, bne_iff_ne, ne_eq, Bool.not_eq_true, Bool.or_eq_true, Bool.and_eq_true, Bool.or_eq_false_iff, Bool.and_eq_false_imp, beq_eq_false_iff_ne, bne_eq_false_iff_eq] at h)
        · refine ret_plain ?_
          simp (maxSteps := 10000000) only [push_cast, seval, ↓reduceIte, show Tryz.f55.results = #[(.tmp 4)] from rfl]
          exact leD_v (by rw [hR, hd]; simp [cmpI, h])
        · refine ret_plain ?_
          simp (maxSteps := 10000000) only [push_cast, seval, ↓reduceIte, show Tryz.f55.results = #[(.tmp 4)] from rfl]
          exact leD_v (by rw [hR, hd]; simp [cmpI, *])
        · refine ⟨⟨i + 1, by omega, ?_⟩, by simp only; omega, ?_, Fq⟩
          · rw [hd]; simp [cmpI, *]
          · exact Lq
      · have e1 : xs.drop i = [] := List.drop_eq_nil_of_le (by omega)
        have e2 : ys.drop i = [] := List.drop_eq_nil_of_le (by omega)
        repeat' first | (with_reducible first | refine AWP_seq' ?_ | refine k_normal ?_ | refine k_exit ?_ | refine b_exit ?_ | refine AWP_ret ?_ | refine AWP_exit ?_) | ((with_reducible refine AWP_reg fun KC J hJ hKC => ?_); simp (maxSteps := 10000000) only [push_cast, seval, ↓reduceIte, hlt]) | ((with_reducible refine hJ _ _ ?_); clear hJ hKC KC J) | ((with_reducible refine AWP_condF ?_ ?_); · rfl)
        refine ret_plain ?_
        simp (maxSteps := 10000000) only [push_cast, seval, ↓reduceIte, show Tryz.f55.results = #[(.tmp 4)] from rfl]
        exact leD_v (by rw [hR, he, e1, e2]; simp [cmpL])
theorem rInts_fn (f g : Bool) (xs ys : List Int) (hb : xs.length ≤ 9223372036854775807) : Fn Tryz.prog 15 [.sl f 1 (intRow xs), .sl g 1 (intRow ys)] [] (.v (.bool (decide (xs = ys)))) [] := by
  refine Fn.of (fn := Tryz.f15) (by kernel_rfl) rfl (by kernel_rfl) ⟨[.sl f 1 (intRow xs), .sl g 1 (intRow ys), .v undef, .v undef, .v undef, .v undef, .v undef, .v undef, .v undef], []⟩ rfl ?_
  repeat' first | (with_reducible first | refine AWP_seq' ?_ | refine k_normal ?_ | refine AWP_ret ?_) | ((with_reducible refine AWP_reg fun KC J hJ hKC => ?_); simp (maxSteps := 10000000) only [push_cast, seval, ↓reduceIte]) | (refine' hKC _ _ _ _ _ (callV0 (rCmp_fn _ _ _ _ ?_) rfl rfl rfl ?_ ?_); (rotate_left 5); (· exact Lq); (rotate_left 1); (iterate 1 (· exact Hq)); simp (maxSteps := 10000000) only [push_cast, seval, ↓reduceIte]) | ((with_reducible refine hJ _ _ ?_); clear hJ hKC KC J)
  refine ret_plain ?_
  simp (maxSteps := 10000000) only [push_cast, seval, ↓reduceIte, show Tryz.f15.results = #[(.tmp 4)] from rfl]
  refine leD_v (congrArg Value.bool (Bool.eq_iff_iff.2 ?_))
  simp [cmpR_zero]
theorem rSame_fn (f g f' g' : Bool) (l lg l' lg' : List Int) (a a' : Int) (hb : l.length ≤ 9223372036854775807) (hc : lg.length ≤ 9223372036854775807) :
    Fn Tryz.prog 19 [.agg [.sl f 1 (intRow l), .v (.int .i64 a), .sl g 1 (intRow lg)], .agg [.sl f' 1 (intRow l'), .v (.int .i64 a'), .sl g' 1 (intRow lg')]] [] (.v (.bool (decide ((⟨l, a, lg⟩ : Dr) = ⟨l', a', lg'⟩)))) [] := by
  refine Fn.of (fn := Tryz.f19) (by kernel_rfl) rfl (by kernel_rfl) ⟨[.agg [.sl f 1 (intRow l), .v (.int .i64 a), .sl g 1 (intRow lg)], .agg [.sl f' 1 (intRow l'), .v (.int .i64 a'), .sl g' 1 (intRow lg')], .v undef, .v undef, .v undef, .v undef, .v undef, .v undef, .v undef, .v undef, .v undef, .v undef, .v undef, .v undef, .v undef, .v undef, .v undef, .v undef, .v undef, .v undef, .v undef, .v undef, .v undef, .v undef], []⟩ rfl ?_
  repeat' first | (with_reducible first | refine AWP_seq' ?_ | refine k_normal ?_ | refine AWP_ret ?_) | ((with_reducible refine AWP_reg fun KC J hJ hKC => ?_); simp (maxSteps := 10000000) only [push_cast, seval, ↓reduceIte]) | (refine' hKC _ _ _ _ _ (callV0 (rInts_fn _ _ _ _ ?_) rfl rfl rfl ?_ ?_); (rotate_left 5); (· exact Lq); (rotate_left 1); (iterate 1 (· exact Hq)); simp (maxSteps := 10000000) only [push_cast, seval, ↓reduceIte]) | ((with_reducible refine hJ _ _ ?_); clear hJ hKC KC J) | ((with_reducible refine ite_intro (fun hs => ?_) (fun hs => ?_)) <;> (try simp only [Bool.not_eq_true, Bool.not_eq_false, Bool.not_eq_true', Bool.not_eq_false', Decidable.not_not, decide_eq_true_eq, decide_eq_false_iff_not] at hs) <;> (try simp (maxSteps := 10000000) only [push_cast, seval, ↓reduceIte, hs]))
  all_goals
    refine ret_plain ?_
    simp (maxSteps := 10000000) only [push_cast, seval, ↓reduceIte, show Tryz.f19.results = #[(.tmp 4)] from rfl]
    refine leD_v (congrArg Value.bool (Bool.eq_iff_iff.2 ?_))
    simp_all
end Go.Proofs.YtabliglgeiajlaaGreat.AM
