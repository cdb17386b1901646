/- Orders alike. -/
import Derived.Test.YtabliglgeiajlaaW2
set_option linter.unusedSimpArgs false
set_option linter.unusedVariables false
namespace Go.Proofs.Ytabliglgeiajlaa.AM
open Go Go.RowKit Go.Proofs
set_option maxRecDepth 100000
set_option maxHeartbeats 1000000

theorem list_eq_of {α : Type} {xs ys : List α} (hl : xs.length = ys.length) (h : ∀ j, j < xs.length → xs[j]? = ys[j]?) : xs = ys :=
  List.ext_getElem? fun j => by
    by_cases hj : j < xs.length
    · exact h j hj
    · rw [List.getElem?_eq_none (by omega), List.getElem?_eq_none (by omega)]
theorem equalStr_fn (f g : Bool) (xs ys : List ByteArray) (hb : xs.length ≤ 9223372036854775807) : Fn Try.prog 99 [.sl f 1 (strRow xs), .sl g 1 (strRow ys)] [] (.v (.bool (decide (xs = ys)))) [] := by
  refine Fn.of (fn := Try.f99) (by kernel_rfl) rfl (by kernel_rfl) ⟨[.sl f 1 (strRow xs), .sl g 1 (strRow ys), .v undef, .v undef, .v undef, .v undef, .v undef, .v undef, .v undef, .v undef, .v undef, .v undef, .v undef, .v undef, .v undef, .v undef, .v undef, .v undef, .v undef, .v undef, .v undef, .v undef, .v undef, .v undef, .v undef, .v undef], []⟩ rfl ?_
  by_cases hl : xs.length = ys.length
  · have hl' : ((xs.length : Int) != (ys.length : Int)) = false := by simp [hl]
    repeat' first
      | with_reducible first | refine AWP_seq' ?_ | refine k_normal ?_ | refine k_ret ?_ | refine k_exit ?_ | refine b_normal ?_ | refine b_ret ?_ | refine b_exit ?_ | refine b_pass rfl ?_ | refine AWP_ret ?_ | refine AWP_skip ?_ | refine AWP_exit ?_ | refine AWP_block ?_
      | ((with_reducible first | refine AWP_reg fun KC J hJ hKC => ?_ | refine AWP_regD rfl fun KC J hJ hKC => ?_); simp (maxSteps := 10000000) only [push_cast, seval, ↓reduceIte, hl'])
      | ((with_reducible refine And.intro ?_ ?_); · first | trivial | omega | assumption | (simp; done) | (simp; omega))
      | ((first | with_reducible refine hJ _ _ ?_ | (with_reducible refine hJ _ _ ?_ ?_; · kernel_rfl)); clear hJ hKC KC J)
      | ((with_reducible refine AWP_condT ?_ ?_); · rfl)
      | ((with_reducible refine AWP_condF ?_ ?_); · rfl)
      | ((with_reducible refine ite_intro (fun hs => ?_) (fun hs => ?_)) <;> (try simp only [Bool.not_eq_true, Bool.not_eq_false, Bool.not_eq_true', Bool.not_eq_false', Decidable.not_not, decide_eq_true_eq, decide_eq_false_iff_not] at hs) <;> (try simp (maxSteps := 10000000) only [push_cast, seval, ↓reduceIte, hs, hl']))
      | (refine AWP_cond rfl (fun h => ?_) (fun h => ?_) <;> try simp only [decide_eq_true_eq, decide_eq_false_iff_not, Bool.not_eq_true', Bool.not_eq_false', beq_iff_eq, bne_iff_ne, ne_eq, Bool.not_eq_true, Bool.or_eq_true, Bool.and_eq_true, Bool.or_eq_false_iff, Bool.and_eq_false_imp, beq_eq_false_iff_ne, bne_eq_false_iff_eq] at h)
    refine AWP_loopF (γ := {i : Nat // i ≤ xs.length ∧ ∀ j, j < i → xs[j]? = ys[j]?}) (fun i => ⟨[.sl f 1 (strRow xs), .sl g 1 (strRow ys), .any, .any, .any, .any, .any, .any, .any, .any, .any, .any, .v (.int .i64 xs.length), .v (.int .i64 i.1), .any, .any, .any, .any, .any, .any, .any, .any, .any, .any, .any, .any], []⟩) (fun i => xs.length - i.1) ⟨0, by simp⟩ ⟨?_, (by first | exact ⟨0, (List.append_nil _).symm⟩ | exact ⟨1, rfl⟩ | exact ⟨2, rfl⟩ | exact ⟨3, rfl⟩ | exact ⟨4, rfl⟩ | exact ⟨5, rfl⟩ | exact ⟨6, rfl⟩ | exact ⟨7, rfl⟩ | exact ⟨8, rfl⟩)⟩ ?_
    · repeat' first | exact leF_nil | refine leD_tup ?_ | refine leF1_cons ?_ ?_ | exact leF1_nil | exact leD1_refl _ | refine leD1_agg ?_ | refine leF_cons ?_ ?_ | exact leD_refl _ | exact leD_nil | exact leD_any | exact .inl leD0_nil | exact leF_caps (by assumption) | exact leD_fn (by assumption) | refine leD_agg ?_ | refine leF0_cons ?_ ?_ | exact leF0_nil | exact leD0_refl _ | exact leD0_nil | exact leD0_any
    · rintro ⟨i, hi, hn⟩
      by_cases hlt : (i : Int) < (xs.length : Int)
      · have hx : xs[i]? = some xs[i] := List.getElem?_eq_getElem (by omega)
        have hy : ys[i]? = some ys[i] := List.getElem?_eq_getElem (by omega)
        obtain ⟨a, ha⟩ : ∃ a, xs[i] = a := ⟨_, rfl⟩
        obtain ⟨b, hb2⟩ : ∃ b, ys[i] = b := ⟨_, rfl⟩
        rw [ha] at hx
        rw [hb2] at hy
        by_cases he : a = b
        · have he' : decide (a = b) = true := decide_eq_true he
          repeat' first
            | with_reducible first | refine AWP_seq' ?_ | refine k_normal ?_ | refine k_ret ?_ | refine k_exit ?_ | refine b_normal ?_ | refine b_ret ?_ | refine b_exit ?_ | refine b_pass rfl ?_ | refine AWP_ret ?_ | refine AWP_skip ?_ | refine AWP_exit ?_ | refine AWP_block ?_
            | ((with_reducible first | refine AWP_reg fun KC J hJ hKC => ?_ | refine AWP_regD rfl fun KC J hJ hKC => ?_); simp (maxSteps := 10000000) only [push_cast, seval, ↓reduceIte, hlt, getE_str hx, getE_str hy, he', wrapN (i := i) (n := xs.length) (by omega) hb])
            | ((with_reducible refine And.intro ?_ ?_); · first | trivial | omega | assumption | (simp; done) | (simp; omega))
            | ((first | with_reducible refine hJ _ _ ?_ | (with_reducible refine hJ _ _ ?_ ?_; · kernel_rfl)); clear hJ hKC KC J)
            | ((with_reducible refine AWP_condT ?_ ?_); · rfl)
            | ((with_reducible refine AWP_condF ?_ ?_); · rfl)
            | ((with_reducible refine ite_intro (fun hs => ?_) (fun hs => ?_)) <;> (try simp only [Bool.not_eq_true, Bool.not_eq_false, Bool.not_eq_true', Bool.not_eq_false', Decidable.not_not, decide_eq_true_eq, decide_eq_false_iff_not] at hs) <;> (try simp (maxSteps := 10000000) only [push_cast, seval, ↓reduceIte, hs, hlt, getE_str hx, getE_str hy, he', wrapN (i := i) (n := xs.length) (by omega) hb]))
            | (refine AWP_cond rfl (fun h => ?_) (fun h => ?_) <;> try simp only [decide_eq_true_eq, decide_eq_false_iff_not, Bool.not_eq_true', Bool.not_eq_false', beq_iff_eq, bne_iff_ne, ne_eq, Bool.not_eq_true, Bool.or_eq_true, Bool.and_eq_true, Bool.or_eq_false_iff, Bool.and_eq_false_imp, beq_eq_false_iff_ne, bne_eq_false_iff_eq] at h)
          refine ⟨⟨i + 1, by omega, fun j hj => ?_⟩, by simp only; omega, ?_, (by first | exact ⟨0, (List.append_nil _).symm⟩ | exact ⟨1, rfl⟩ | exact ⟨2, rfl⟩ | exact ⟨3, rfl⟩ | exact ⟨4, rfl⟩ | exact ⟨5, rfl⟩ | exact ⟨6, rfl⟩ | exact ⟨7, rfl⟩ | exact ⟨8, rfl⟩)⟩
          · by_cases hji : j = i
            · rw [hji, hx, hy, he]
            · exact hn j (by omega)
          · repeat' first | exact leF_nil | refine leD_tup ?_ | refine leF1_cons ?_ ?_ | exact leF1_nil | exact leD1_refl _ | refine leD1_agg ?_ | refine leF_cons ?_ ?_ | exact leD_refl _ | exact leD_nil | exact leD_any | exact .inl leD0_nil | exact leF_caps (by assumption) | exact leD_fn (by assumption) | refine leD_agg ?_ | refine leF0_cons ?_ ?_ | exact leF0_nil | exact leD0_refl _ | exact leD0_nil | exact leD0_any
        · have he' : decide (a = b) = false := decide_eq_false he
          repeat' first
            | with_reducible first | refine AWP_seq' ?_ | refine k_normal ?_ | refine k_ret ?_ | refine k_exit ?_ | refine b_normal ?_ | refine b_ret ?_ | refine b_exit ?_ | refine b_pass rfl ?_ | refine AWP_ret ?_ | refine AWP_skip ?_ | refine AWP_exit ?_ | refine AWP_block ?_
            | ((with_reducible first | refine AWP_reg fun KC J hJ hKC => ?_ | refine AWP_regD rfl fun KC J hJ hKC => ?_); simp (maxSteps := 10000000) only [push_cast, seval, ↓reduceIte, hlt, getE_str hx, getE_str hy, he'])
            | ((with_reducible refine And.intro ?_ ?_); · first | trivial | omega | assumption | (simp; done) | (simp; omega))
            | ((first | with_reducible refine hJ _ _ ?_ | (with_reducible refine hJ _ _ ?_ ?_; · kernel_rfl)); clear hJ hKC KC J)
            | ((with_reducible refine AWP_condT ?_ ?_); · rfl)
            | ((with_reducible refine AWP_condF ?_ ?_); · rfl)
            | ((with_reducible refine ite_intro (fun hs => ?_) (fun hs => ?_)) <;> (try simp only [Bool.not_eq_true, Bool.not_eq_false, Bool.not_eq_true', Bool.not_eq_false', Decidable.not_not, decide_eq_true_eq, decide_eq_false_iff_not] at hs) <;> (try simp (maxSteps := 10000000) only [push_cast, seval, ↓reduceIte, hs, hlt, getE_str hx, getE_str hy, he']))
            | (refine AWP_cond rfl (fun h => ?_) (fun h => ?_) <;> try simp only [decide_eq_true_eq, decide_eq_false_iff_not, Bool.not_eq_true', Bool.not_eq_false', beq_iff_eq, bne_iff_ne, ne_eq, Bool.not_eq_true, Bool.or_eq_true, Bool.and_eq_true, Bool.or_eq_false_iff, Bool.and_eq_false_imp, beq_eq_false_iff_ne, bne_eq_false_iff_eq] at h)
          refine ret_plain ?_
          simp (maxSteps := 10000000) only [push_cast, seval, ↓reduceIte, show Try.f99.results = #[(.tmp 4)] from rfl]
          rw [decide_eq_false (fun h => he (by rw [h, hy] at hx; exact (Option.some.inj hx).symm))]
          exact leD_refl _
      · skip
        repeat' first
          | with_reducible first | refine AWP_seq' ?_ | refine k_normal ?_ | refine k_ret ?_ | refine k_exit ?_ | refine b_normal ?_ | refine b_ret ?_ | refine b_exit ?_ | refine b_pass rfl ?_ | refine AWP_ret ?_ | refine AWP_skip ?_ | refine AWP_exit ?_ | refine AWP_block ?_
          | ((with_reducible first | refine AWP_reg fun KC J hJ hKC => ?_ | refine AWP_regD rfl fun KC J hJ hKC => ?_); simp (maxSteps := 10000000) only [push_cast, seval, ↓reduceIte, hlt])
          | ((with_reducible refine And.intro ?_ ?_); · first | trivial | omega | assumption | (simp; done) | (simp; omega))
          | ((first | with_reducible refine hJ _ _ ?_ | (with_reducible refine hJ _ _ ?_ ?_; · kernel_rfl)); clear hJ hKC KC J)
          | ((with_reducible refine AWP_condT ?_ ?_); · rfl)
          | ((with_reducible refine AWP_condF ?_ ?_); · rfl)
          | ((with_reducible refine ite_intro (fun hs => ?_) (fun hs => ?_)) <;> (try simp only [Bool.not_eq_true, Bool.not_eq_false, Bool.not_eq_true', Bool.not_eq_false', Decidable.not_not, decide_eq_true_eq, decide_eq_false_iff_not] at hs) <;> (try simp (maxSteps := 10000000) only [push_cast, seval, ↓reduceIte, hs, hlt]))
          | (refine AWP_cond rfl (fun h => ?_) (fun h => ?_) <;> try simp only [decide_eq_true_eq, decide_eq_false_iff_not, Bool.not_eq_true', Bool.not_eq_false', beq_iff_eq, bne_iff_ne, ne_eq, Bool.not_eq_true, Bool.or_eq_true, Bool.and_eq_true, Bool.or_eq_false_iff, Bool.and_eq_false_imp, beq_eq_false_iff_ne, bne_eq_false_iff_eq] at h)
        refine ret_plain ?_
        simp (maxSteps := 10000000) only [push_cast, seval, ↓reduceIte, show Try.f99.results = #[(.tmp 4)] from rfl]
        rw [decide_eq_true (list_eq_of hl fun j hj => hn j (by omega))]
        exact leD_refl _
  · have hl' : ((xs.length : Int) != (ys.length : Int)) = true := by simp; omega
    repeat' first
      | with_reducible first | refine AWP_seq' ?_ | refine k_normal ?_ | refine k_ret ?_ | refine k_exit ?_ | refine b_normal ?_ | refine b_ret ?_ | refine b_exit ?_ | refine b_pass rfl ?_ | refine AWP_ret ?_ | refine AWP_skip ?_ | refine AWP_exit ?_ | refine AWP_block ?_
      | ((with_reducible first | refine AWP_reg fun KC J hJ hKC => ?_ | refine AWP_regD rfl fun KC J hJ hKC => ?_); simp (maxSteps := 10000000) only [push_cast, seval, ↓reduceIte, hl'])
      | ((with_reducible refine And.intro ?_ ?_); · first | trivial | omega | assumption | (simp; done) | (simp; omega))
      | ((first | with_reducible refine hJ _ _ ?_ | (with_reducible refine hJ _ _ ?_ ?_; · kernel_rfl)); clear hJ hKC KC J)
      | ((with_reducible refine AWP_condT ?_ ?_); · rfl)
      | ((with_reducible refine AWP_condF ?_ ?_); · rfl)
      | ((with_reducible refine ite_intro (fun hs => ?_) (fun hs => ?_)) <;> (try simp only [Bool.not_eq_true, Bool.not_eq_false, Bool.not_eq_true', Bool.not_eq_false', Decidable.not_not, decide_eq_true_eq, decide_eq_false_iff_not] at hs) <;> (try simp (maxSteps := 10000000) only [push_cast, seval, ↓reduceIte, hs, hl']))
      | (refine AWP_cond rfl (fun h => ?_) (fun h => ?_) <;> try simp only [decide_eq_true_eq, decide_eq_false_iff_not, Bool.not_eq_true', Bool.not_eq_false', beq_iff_eq, bne_iff_ne, ne_eq, Bool.not_eq_true, Bool.or_eq_true, Bool.and_eq_true, Bool.or_eq_false_iff, Bool.and_eq_false_imp, beq_eq_false_iff_ne, bne_eq_false_iff_eq] at h)
    refine ret_plain ?_
    simp (maxSteps := 10000000) only [push_cast, seval, ↓reduceIte, show Try.f99.results = #[(.tmp 4)] from rfl]
    rw [decide_eq_false (fun h => hl (by rw [h]))]
    exact leD_refl _
theorem equalU32_fn (f g : Bool) (xs ys : List Nat) (hb : xs.length ≤ 9223372036854775807) : Fn Try.prog 100 [.sl f 1 (u32Row xs), .sl g 1 (u32Row ys)] [] (.v (.bool (decide (xs = ys)))) [] := by
  refine Fn.of (fn := Try.f100) (by kernel_rfl) rfl (by kernel_rfl) ⟨[.sl f 1 (u32Row xs), .sl g 1 (u32Row ys), .v undef, .v undef, .v undef, .v undef, .v undef, .v undef, .v undef, .v undef, .v undef, .v undef, .v undef, .v undef, .v undef, .v undef, .v undef, .v undef, .v undef, .v undef, .v undef, .v undef, .v undef, .v undef, .v undef, .v undef], []⟩ rfl ?_
  by_cases hl : xs.length = ys.length
  · have hl' : ((xs.length : Int) != (ys.length : Int)) = false := by simp [hl]
    repeat' first
      | with_reducible first | refine AWP_seq' ?_ | refine k_normal ?_ | refine k_ret ?_ | refine k_exit ?_ | refine b_normal ?_ | refine b_ret ?_ | refine b_exit ?_ | refine b_pass rfl ?_ | refine AWP_ret ?_ | refine AWP_skip ?_ | refine AWP_exit ?_ | refine AWP_block ?_
      | ((with_reducible first | refine AWP_reg fun KC J hJ hKC => ?_ | refine AWP_regD rfl fun KC J hJ hKC => ?_); simp (maxSteps := 10000000) only [push_cast, seval, ↓reduceIte, hl'])
      | ((with_reducible refine And.intro ?_ ?_); · first | trivial | omega | assumption | (simp; done) | (simp; omega))
      | ((first | with_reducible refine hJ _ _ ?_ | (with_reducible refine hJ _ _ ?_ ?_; · kernel_rfl)); clear hJ hKC KC J)
      | ((with_reducible refine AWP_condT ?_ ?_); · rfl)
      | ((with_reducible refine AWP_condF ?_ ?_); · rfl)
      | ((with_reducible refine ite_intro (fun hs => ?_) (fun hs => ?_)) <;> (try simp only [Bool.not_eq_true, Bool.not_eq_false, Bool.not_eq_true', Bool.not_eq_false', Decidable.not_not, decide_eq_true_eq, decide_eq_false_iff_not] at hs) <;> (try simp (maxSteps := 10000000) only [push_cast, seval, ↓reduceIte, hs, hl']))
      | (refine AWP_cond rfl (fun h => ?_) (fun h => ?_) <;> try simp only [decide_eq_true_eq, decide_eq_false_iff_not, Bool.not_eq_true', Bool.not_eq_false', beq_iff_eq, bne_iff_ne, ne_eq, Bool.not_eq_true, Bool.or_eq_true, Bool.and_eq_true, Bool.or_eq_false_iff, Bool.and_eq_false_imp, beq_eq_false_iff_ne, bne_eq_false_iff_eq] at h)
    refine AWP_loopF (γ := {i : Nat // i ≤ xs.length ∧ ∀ j, j < i → xs[j]? = ys[j]?}) (fun i => ⟨[.sl f 1 (u32Row xs), .sl g 1 (u32Row ys), .any, .any, .any, .any, .any, .any, .any, .any, .any, .any, .v (.int .i64 xs.length), .v (.int .i64 i.1), .any, .any, .any, .any, .any, .any, .any, .any, .any, .any, .any, .any], []⟩) (fun i => xs.length - i.1) ⟨0, by simp⟩ ⟨?_, (by first | exact ⟨0, (List.append_nil _).symm⟩ | exact ⟨1, rfl⟩ | exact ⟨2, rfl⟩ | exact ⟨3, rfl⟩ | exact ⟨4, rfl⟩ | exact ⟨5, rfl⟩ | exact ⟨6, rfl⟩ | exact ⟨7, rfl⟩ | exact ⟨8, rfl⟩)⟩ ?_
    · repeat' first | exact leF_nil | refine leD_tup ?_ | refine leF1_cons ?_ ?_ | exact leF1_nil | exact leD1_refl _ | refine leD1_agg ?_ | refine leF_cons ?_ ?_ | exact leD_refl _ | exact leD_nil | exact leD_any | exact .inl leD0_nil | exact leF_caps (by assumption) | exact leD_fn (by assumption) | refine leD_agg ?_ | refine leF0_cons ?_ ?_ | exact leF0_nil | exact leD0_refl _ | exact leD0_nil | exact leD0_any
    · rintro ⟨i, hi, hn⟩
      by_cases hlt : (i : Int) < (xs.length : Int)
      · have hx : xs[i]? = some xs[i] := List.getElem?_eq_getElem (by omega)
        have hy : ys[i]? = some ys[i] := List.getElem?_eq_getElem (by omega)
        obtain ⟨a, ha⟩ : ∃ a, xs[i] = a := ⟨_, rfl⟩
        obtain ⟨b, hb2⟩ : ∃ b, ys[i] = b := ⟨_, rfl⟩
        rw [ha] at hx
        rw [hb2] at hy
        by_cases he : a = b
        · have he' : decide (a = b) = true := decide_eq_true he
          repeat' first
            | with_reducible first | refine AWP_seq' ?_ | refine k_normal ?_ | refine k_ret ?_ | refine k_exit ?_ | refine b_normal ?_ | refine b_ret ?_ | refine b_exit ?_ | refine b_pass rfl ?_ | refine AWP_ret ?_ | refine AWP_skip ?_ | refine AWP_exit ?_ | refine AWP_block ?_
            | ((with_reducible first | refine AWP_reg fun KC J hJ hKC => ?_ | refine AWP_regD rfl fun KC J hJ hKC => ?_); simp (maxSteps := 10000000) only [push_cast, seval, ↓reduceIte, hlt, getE_u32 hx, getE_u32 hy, he', wrapN (i := i) (n := xs.length) (by omega) hb])
            | ((with_reducible refine And.intro ?_ ?_); · first | trivial | omega | assumption | (simp; done) | (simp; omega))
            | ((first | with_reducible refine hJ _ _ ?_ | (with_reducible refine hJ _ _ ?_ ?_; · kernel_rfl)); clear hJ hKC KC J)
            | ((with_reducible refine AWP_condT ?_ ?_); · rfl)
            | ((with_reducible refine AWP_condF ?_ ?_); · rfl)
            | ((with_reducible refine ite_intro (fun hs => ?_) (fun hs => ?_)) <;> (try simp only [Bool.not_eq_true, Bool.not_eq_false, Bool.not_eq_true', Bool.not_eq_false', Decidable.not_not, decide_eq_true_eq, decide_eq_false_iff_not] at hs) <;> (try simp (maxSteps := 10000000) only [push_cast, seval, ↓reduceIte, hs, hlt, getE_u32 hx, getE_u32 hy, he', wrapN (i := i) (n := xs.length) (by omega) hb]))
            | (refine AWP_cond rfl (fun h => ?_) (fun h => ?_) <;> try simp only [decide_eq_true_eq, decide_eq_false_iff_not, Bool.not_eq_true', Bool.not_eq_false', beq_iff_eq, bne_iff_ne, ne_eq, Bool.not_eq_true, Bool.or_eq_true, Bool.and_eq_true, Bool.or_eq_false_iff, Bool.and_eq_false_imp, beq_eq_false_iff_ne, bne_eq_false_iff_eq] at h)
          refine ⟨⟨i + 1, by omega, fun j hj => ?_⟩, by simp only; omega, ?_, (by first | exact ⟨0, (List.append_nil _).symm⟩ | exact ⟨1, rfl⟩ | exact ⟨2, rfl⟩ | exact ⟨3, rfl⟩ | exact ⟨4, rfl⟩ | exact ⟨5, rfl⟩ | exact ⟨6, rfl⟩ | exact ⟨7, rfl⟩ | exact ⟨8, rfl⟩)⟩
          · by_cases hji : j = i
            · rw [hji, hx, hy, he]
            · exact hn j (by omega)
          · repeat' first | exact leF_nil | refine leD_tup ?_ | refine leF1_cons ?_ ?_ | exact leF1_nil | exact leD1_refl _ | refine leD1_agg ?_ | refine leF_cons ?_ ?_ | exact leD_refl _ | exact leD_nil | exact leD_any | exact .inl leD0_nil | exact leF_caps (by assumption) | exact leD_fn (by assumption) | refine leD_agg ?_ | refine leF0_cons ?_ ?_ | exact leF0_nil | exact leD0_refl _ | exact leD0_nil | exact leD0_any
        · have he' : decide (a = b) = false := decide_eq_false he
          repeat' first
            | with_reducible first | refine AWP_seq' ?_ | refine k_normal ?_ | refine k_ret ?_ | refine k_exit ?_ | refine b_normal ?_ | refine b_ret ?_ | refine b_exit ?_ | refine b_pass rfl ?_ | refine AWP_ret ?_ | refine AWP_skip ?_ | refine AWP_exit ?_ | refine AWP_block ?_
            | ((with_reducible first | refine AWP_reg fun KC J hJ hKC => ?_ | refine AWP_regD rfl fun KC J hJ hKC => ?_); simp (maxSteps := 10000000) only [push_cast, seval, ↓reduceIte, hlt, getE_u32 hx, getE_u32 hy, he'])
            | ((with_reducible refine And.intro ?_ ?_); · first | trivial | omega | assumption | (simp; done) | (simp; omega))
            | ((first | with_reducible refine hJ _ _ ?_ | (with_reducible refine hJ _ _ ?_ ?_; · kernel_rfl)); clear hJ hKC KC J)
            | ((with_reducible refine AWP_condT ?_ ?_); · rfl)
            | ((with_reducible refine AWP_condF ?_ ?_); · rfl)
            | ((with_reducible refine ite_intro (fun hs => ?_) (fun hs => ?_)) <;> (try simp only [Bool.not_eq_true, Bool.not_eq_false, Bool.not_eq_true', Bool.not_eq_false', Decidable.not_not, decide_eq_true_eq, decide_eq_false_iff_not] at hs) <;> (try simp (maxSteps := 10000000) only [push_cast, seval, ↓reduceIte, hs, hlt, getE_u32 hx, getE_u32 hy, he']))
            | (refine AWP_cond rfl (fun h => ?_) (fun h => ?_) <;> try simp only [decide_eq_true_eq, decide_eq_false_iff_not, Bool.not_eq_true', Bool.not_eq_false', beq_iff_eq, bne_iff_ne, ne_eq, Bool.not_eq_true, Bool.or_eq_true, Bool.and_eq_true, Bool.or_eq_false_iff, Bool.and_eq_false_imp, beq_eq_false_iff_ne, bne_eq_false_iff_eq] at h)
          refine ret_plain ?_
          simp (maxSteps := 10000000) only [push_cast, seval, ↓reduceIte, show Try.f100.results = #[(.tmp 4)] from rfl]
          rw [decide_eq_false (fun h => he (by rw [h, hy] at hx; exact (Option.some.inj hx).symm))]
          exact leD_refl _
      · skip
        repeat' first
          | with_reducible first | refine AWP_seq' ?_ | refine k_normal ?_ | refine k_ret ?_ | refine k_exit ?_ | refine b_normal ?_ | refine b_ret ?_ | refine b_exit ?_ | refine b_pass rfl ?_ | refine AWP_ret ?_ | refine AWP_skip ?_ | refine AWP_exit ?_ | refine AWP_block ?_
          | ((with_reducible first | refine AWP_reg fun KC J hJ hKC => ?_ | refine AWP_regD rfl fun KC J hJ hKC => ?_); simp (maxSteps := 10000000) only [push_cast, seval, ↓reduceIte, hlt])
          | ((with_reducible refine And.intro ?_ ?_); · first | trivial | omega | assumption | (simp; done) | (simp; omega))
          | ((first | with_reducible refine hJ _ _ ?_ | (with_reducible refine hJ _ _ ?_ ?_; · kernel_rfl)); clear hJ hKC KC J)
          | ((with_reducible refine AWP_condT ?_ ?_); · rfl)
          | ((with_reducible refine AWP_condF ?_ ?_); · rfl)
          | ((with_reducible refine ite_intro (fun hs => ?_) (fun hs => ?_)) <;> (try simp only [Bool.not_eq_true, Bool.not_eq_false, Bool.not_eq_true', Bool.not_eq_false', Decidable.not_not, decide_eq_true_eq, decide_eq_false_iff_not] at hs) <;> (try simp (maxSteps := 10000000) only [push_cast, seval, ↓reduceIte, hs, hlt]))
          | (refine AWP_cond rfl (fun h => ?_) (fun h => ?_) <;> try simp only [decide_eq_true_eq, decide_eq_false_iff_not, Bool.not_eq_true', Bool.not_eq_false', beq_iff_eq, bne_iff_ne, ne_eq, Bool.not_eq_true, Bool.or_eq_true, Bool.and_eq_true, Bool.or_eq_false_iff, Bool.and_eq_false_imp, beq_eq_false_iff_ne, bne_eq_false_iff_eq] at h)
        refine ret_plain ?_
        simp (maxSteps := 10000000) only [push_cast, seval, ↓reduceIte, show Try.f100.results = #[(.tmp 4)] from rfl]
        rw [decide_eq_true (list_eq_of hl fun j hj => hn j (by omega))]
        exact leD_refl _
  · have hl' : ((xs.length : Int) != (ys.length : Int)) = true := by simp; omega
    repeat' first
      | with_reducible first | refine AWP_seq' ?_ | refine k_normal ?_ | refine k_ret ?_ | refine k_exit ?_ | refine b_normal ?_ | refine b_ret ?_ | refine b_exit ?_ | refine b_pass rfl ?_ | refine AWP_ret ?_ | refine AWP_skip ?_ | refine AWP_exit ?_ | refine AWP_block ?_
      | ((with_reducible first | refine AWP_reg fun KC J hJ hKC => ?_ | refine AWP_regD rfl fun KC J hJ hKC => ?_); simp (maxSteps := 10000000) only [push_cast, seval, ↓reduceIte, hl'])
      | ((with_reducible refine And.intro ?_ ?_); · first | trivial | omega | assumption | (simp; done) | (simp; omega))
      | ((first | with_reducible refine hJ _ _ ?_ | (with_reducible refine hJ _ _ ?_ ?_; · kernel_rfl)); clear hJ hKC KC J)
      | ((with_reducible refine AWP_condT ?_ ?_); · rfl)
      | ((with_reducible refine AWP_condF ?_ ?_); · rfl)
      | ((with_reducible refine ite_intro (fun hs => ?_) (fun hs => ?_)) <;> (try simp only [Bool.not_eq_true, Bool.not_eq_false, Bool.not_eq_true', Bool.not_eq_false', Decidable.not_not, decide_eq_true_eq, decide_eq_false_iff_not] at hs) <;> (try simp (maxSteps := 10000000) only [push_cast, seval, ↓reduceIte, hs, hl']))
      | (refine AWP_cond rfl (fun h => ?_) (fun h => ?_) <;> try simp only [decide_eq_true_eq, decide_eq_false_iff_not, Bool.not_eq_true', Bool.not_eq_false', beq_iff_eq, bne_iff_ne, ne_eq, Bool.not_eq_true, Bool.or_eq_true, Bool.and_eq_true, Bool.or_eq_false_iff, Bool.and_eq_false_imp, beq_eq_false_iff_ne, bne_eq_false_iff_eq] at h)
    refine ret_plain ?_
    simp (maxSteps := 10000000) only [push_cast, seval, ↓reduceIte, show Try.f100.results = #[(.tmp 4)] from rfl]
    rw [decide_eq_false (fun h => hl (by rw [h]))]
    exact leD_refl _
theorem like_fn (f g f' g' : Bool) (ns ns' : List ByteArray) (us us' : List Nat) (hb : ns.length ≤ 9223372036854775807) (hc : us.length ≤ 9223372036854775807) :
    Fn Try.prog 24 [.agg [.sl f 1 (strRow ns), .sl g 1 (u32Row us)], .agg [.sl f' 1 (strRow ns'), .sl g' 1 (u32Row us')]] [] (.v (.bool (decide (ns = ns' ∧ us = us')))) [] := by
  refine Fn.of (fn := Try.f24) (by kernel_rfl) rfl (by kernel_rfl) ⟨[.agg [.sl f 1 (strRow ns), .sl g 1 (u32Row us)], .agg [.sl f' 1 (strRow ns'), .sl g' 1 (u32Row us')], .v undef, .v undef, .v undef, .v undef, .v undef, .v undef, .v undef, .v undef, .v undef, .v undef, .v undef, .v undef, .v undef, .v undef, .v undef], []⟩ rfl ?_
  by_cases h1 : ns = ns'
  · have h1' := decide_eq_true h1
    repeat' first
      | with_reducible first | refine AWP_seq' ?_ | refine k_normal ?_ | refine k_ret ?_ | refine k_exit ?_ | refine b_normal ?_ | refine b_ret ?_ | refine b_exit ?_ | refine b_pass rfl ?_ | refine AWP_ret ?_ | refine AWP_skip ?_ | refine AWP_exit ?_ | refine AWP_block ?_
      | ((with_reducible first | refine AWP_reg fun KC J hJ hKC => ?_ | refine AWP_regD rfl fun KC J hJ hKC => ?_); simp (maxSteps := 10000000) only [push_cast, seval, ↓reduceIte, h1'])
      | ((with_reducible refine And.intro ?_ ?_); · first | trivial | omega | assumption | (simp; done) | (simp; omega))
      | first | (refine' hKC _ _ _ _ _ (callV0 (equalStr_fn _ _ _ _ ?_) rfl rfl rfl ?_ ?_); (rotate_left 5); (· (repeat' first | exact leF_nil | refine leD_tup ?_ | refine leF1_cons ?_ ?_ | exact leF1_nil | exact leD1_refl _ | refine leD1_agg ?_ | refine leF_cons ?_ ?_ | exact leD_refl _ | exact leD_nil | exact leD_any | exact .inl leD0_nil | exact leF_caps (by assumption) | exact leD_fn (by assumption) | refine leD_agg ?_ | refine leF0_cons ?_ ?_ | exact leF0_nil | exact leD0_refl _ | exact leD0_nil | exact leD0_any)); (rotate_left 1); (iterate 1 (· first | assumption | omega | trivial | (simp; done) | (simp; omega))); simp (maxSteps := 10000000) only [push_cast, seval, ↓reduceIte, h1']) | (refine' hKC _ _ _ _ _ (callV0 (equalU32_fn _ _ _ _ ?_) rfl rfl rfl ?_ ?_); (rotate_left 5); (· (repeat' first | exact leF_nil | refine leD_tup ?_ | refine leF1_cons ?_ ?_ | exact leF1_nil | exact leD1_refl _ | refine leD1_agg ?_ | refine leF_cons ?_ ?_ | exact leD_refl _ | exact leD_nil | exact leD_any | exact .inl leD0_nil | exact leF_caps (by assumption) | exact leD_fn (by assumption) | refine leD_agg ?_ | refine leF0_cons ?_ ?_ | exact leF0_nil | exact leD0_refl _ | exact leD0_nil | exact leD0_any)); (rotate_left 1); (iterate 1 (· first | assumption | omega | trivial | (simp; done) | (simp; omega))); simp (maxSteps := 10000000) only [push_cast, seval, ↓reduceIte, h1'])
      | ((first | with_reducible refine hJ _ _ ?_ | (with_reducible refine hJ _ _ ?_ ?_; · kernel_rfl)); clear hJ hKC KC J)
      | ((with_reducible refine AWP_condT ?_ ?_); · rfl)
      | ((with_reducible refine AWP_condF ?_ ?_); · rfl)
      | ((with_reducible refine ite_intro (fun hs => ?_) (fun hs => ?_)) <;> (try simp only [Bool.not_eq_true, Bool.not_eq_false, Bool.not_eq_true', Bool.not_eq_false', Decidable.not_not, decide_eq_true_eq, decide_eq_false_iff_not] at hs) <;> (try simp (maxSteps := 10000000) only [push_cast, seval, ↓reduceIte, hs, h1']))
      | (refine AWP_cond rfl (fun h => ?_) (fun h => ?_) <;> try simp only [decide_eq_true_eq, decide_eq_false_iff_not, Bool.not_eq_true', Bool.not_eq_false', beq_iff_eq, bne_iff_ne, ne_eq, Bool.not_eq_true, Bool.or_eq_true, Bool.and_eq_true, Bool.or_eq_false_iff, Bool.and_eq_false_imp, beq_eq_false_iff_ne, bne_eq_false_iff_eq] at h)
    all_goals
      refine ret_plain ?_
      simp (maxSteps := 10000000) only [push_cast, seval, ↓reduceIte, show Try.f24.results = #[(.tmp 4)] from rfl]
      refine leD_v (congrArg Value.bool (Bool.eq_iff_iff.2 ?_))
      simp [h1]
  · have h1' := decide_eq_false h1
    repeat' first
      | with_reducible first | refine AWP_seq' ?_ | refine k_normal ?_ | refine k_ret ?_ | refine k_exit ?_ | refine b_normal ?_ | refine b_ret ?_ | refine b_exit ?_ | refine b_pass rfl ?_ | refine AWP_ret ?_ | refine AWP_skip ?_ | refine AWP_exit ?_ | refine AWP_block ?_
      | ((with_reducible first | refine AWP_reg fun KC J hJ hKC => ?_ | refine AWP_regD rfl fun KC J hJ hKC => ?_); simp (maxSteps := 10000000) only [push_cast, seval, ↓reduceIte, h1', undef])
      | ((with_reducible refine And.intro ?_ ?_); · first | trivial | omega | assumption | (simp; done) | (simp; omega))
      | first | (refine' hKC _ _ _ _ _ (callV0 (equalStr_fn _ _ _ _ ?_) rfl rfl rfl ?_ ?_); (rotate_left 5); (· (repeat' first | exact leF_nil | refine leD_tup ?_ | refine leF1_cons ?_ ?_ | exact leF1_nil | exact leD1_refl _ | refine leD1_agg ?_ | refine leF_cons ?_ ?_ | exact leD_refl _ | exact leD_nil | exact leD_any | exact .inl leD0_nil | exact leF_caps (by assumption) | exact leD_fn (by assumption) | refine leD_agg ?_ | refine leF0_cons ?_ ?_ | exact leF0_nil | exact leD0_refl _ | exact leD0_nil | exact leD0_any)); (rotate_left 1); (iterate 1 (· first | assumption | omega | trivial | (simp; done) | (simp; omega))); simp (maxSteps := 10000000) only [push_cast, seval, ↓reduceIte, h1', undef]) | (refine' hKC _ _ _ _ _ (callV0 (equalU32_fn _ _ _ _ ?_) rfl rfl rfl ?_ ?_); (rotate_left 5); (· (repeat' first | exact leF_nil | refine leD_tup ?_ | refine leF1_cons ?_ ?_ | exact leF1_nil | exact leD1_refl _ | refine leD1_agg ?_ | refine leF_cons ?_ ?_ | exact leD_refl _ | exact leD_nil | exact leD_any | exact .inl leD0_nil | exact leF_caps (by assumption) | exact leD_fn (by assumption) | refine leD_agg ?_ | refine leF0_cons ?_ ?_ | exact leF0_nil | exact leD0_refl _ | exact leD0_nil | exact leD0_any)); (rotate_left 1); (iterate 1 (· first | assumption | omega | trivial | (simp; done) | (simp; omega))); simp (maxSteps := 10000000) only [push_cast, seval, ↓reduceIte, h1', undef])
      | ((first | with_reducible refine hJ _ _ ?_ | (with_reducible refine hJ _ _ ?_ ?_; · kernel_rfl)); clear hJ hKC KC J)
      | ((with_reducible refine AWP_condT ?_ ?_); · rfl)
      | ((with_reducible refine AWP_condF ?_ ?_); · rfl)
      | ((with_reducible refine ite_intro (fun hs => ?_) (fun hs => ?_)) <;> (try simp only [Bool.not_eq_true, Bool.not_eq_false, Bool.not_eq_true', Bool.not_eq_false', Decidable.not_not, decide_eq_true_eq, decide_eq_false_iff_not] at hs) <;> (try simp (maxSteps := 10000000) only [push_cast, seval, ↓reduceIte, hs, h1', undef]))
      | (refine AWP_cond rfl (fun h => ?_) (fun h => ?_) <;> try simp only [decide_eq_true_eq, decide_eq_false_iff_not, Bool.not_eq_true', Bool.not_eq_false', beq_iff_eq, bne_iff_ne, ne_eq, Bool.not_eq_true, Bool.or_eq_true, Bool.and_eq_true, Bool.or_eq_false_iff, Bool.and_eq_false_imp, beq_eq_false_iff_ne, bne_eq_false_iff_eq] at h)
    refine ret_plain ?_
    simp (maxSteps := 10000000) only [push_cast, seval, ↓reduceIte, show Try.f24.results = #[(.tmp 4)] from rfl]
    rw [decide_eq_false (fun h => h1 h.1)]
    exact leD_refl _
theorem same_fn (f g f' g' : Bool) (ns ns' : List ByteArray) (us us' : List Nat) (hb : ns.length ≤ 9223372036854775806) (hc : us.length ≤ 9223372036854775806) :
    Fn Try.prog 23 [.agg [.sl f 1 (strRow ns), .sl g 1 (u32Row us)], .agg [.sl f' 1 (strRow ns'), .sl g' 1 (u32Row us')]] [] (.v (.bool (decide (ns = ns' ∧ us = us')))) [] := by
  refine Fn.of (fn := Try.f23) (by kernel_rfl) rfl (by kernel_rfl) ⟨[.agg [.sl f 1 (strRow ns), .sl g 1 (u32Row us)], .agg [.sl f' 1 (strRow ns'), .sl g' 1 (u32Row us')], .v undef, .v undef, .v undef, .v undef, .v undef, .v undef, .v undef, .v undef, .v undef, .v undef, .v undef, .v undef, .v undef, .v undef, .v undef, .v undef, .v undef, .v undef, .v undef, .v undef, .v undef, .v undef, .v undef, .v undef, .v undef, .v undef, .v undef, .v undef, .v undef, .v undef, .v undef, .v undef, .v undef, .v undef, .v undef, .v undef, .v undef, .v undef, .v undef, .v undef, .v undef, .v undef, .v undef, .v undef, .v undef, .v undef, .v undef, .v undef, .v undef, .v undef, .v undef, .v undef, .v undef, .v undef, .v undef, .v undef, .v undef], []⟩ rfl ?_
  by_cases hl1 : ns.length = ns'.length
  · have hl1' : ((ns.length : Int) != (ns'.length : Int)) = false := by simp [hl1]
    by_cases hl2 : us.length = us'.length
    · have hl2' : ((us.length : Int) != (us'.length : Int)) = false := by simp [hl2]
      repeat' first
        | with_reducible first | refine AWP_seq' ?_ | refine k_normal ?_ | refine k_ret ?_ | refine k_exit ?_ | refine b_normal ?_ | refine b_ret ?_ | refine b_exit ?_ | refine b_pass rfl ?_ | refine AWP_ret ?_ | refine AWP_skip ?_ | refine AWP_exit ?_ | refine AWP_block ?_
        | ((with_reducible first | refine AWP_reg fun KC J hJ hKC => ?_ | refine AWP_regD rfl fun KC J hJ hKC => ?_); simp (maxSteps := 10000000) only [push_cast, seval, ↓reduceIte, hl1', hl2', undef])
        | ((with_reducible refine And.intro ?_ ?_); · first | trivial | omega | assumption | (simp; done) | (simp; omega))
        | ((first | with_reducible refine hJ _ _ ?_ | (with_reducible refine hJ _ _ ?_ ?_; · kernel_rfl)); clear hJ hKC KC J)
        | ((with_reducible refine AWP_condT ?_ ?_); · rfl)
        | ((with_reducible refine AWP_condF ?_ ?_); · rfl)
        | ((with_reducible refine ite_intro (fun hs => ?_) (fun hs => ?_)) <;> (try simp only [Bool.not_eq_true, Bool.not_eq_false, Bool.not_eq_true', Bool.not_eq_false', Decidable.not_not, decide_eq_true_eq, decide_eq_false_iff_not] at hs) <;> (try simp (maxSteps := 10000000) only [push_cast, seval, ↓reduceIte, hs, hl1', hl2', undef]))
        | (refine AWP_cond rfl (fun h => ?_) (fun h => ?_) <;> try simp only [decide_eq_true_eq, decide_eq_false_iff_not, Bool.not_eq_true', Bool.not_eq_false', beq_iff_eq, bne_iff_ne, ne_eq, Bool.not_eq_true, Bool.or_eq_true, Bool.and_eq_true, Bool.or_eq_false_iff, Bool.and_eq_false_imp, beq_eq_false_iff_ne, bne_eq_false_iff_eq] at h)
      refine AWP_loopF (γ := {i : Nat // i ≤ ns.length ∧ ∀ j, j < i → ns[j]? = ns'[j]?}) (fun i => ⟨[.any, .any, .ptr 0 0 0, .ptr 1 0 0, .any, .any, .any, .any, .any, .any, .any, .any, .any, .any, .any, .any, .any, .any, .any, .any, .any, .any, .any, .any, .any, .v (.int .i64 ns.length), .v (.int .i64 i.1), .any, .any, .any, .any, .any, .any, .any, .any, .any, .any, .any, .any, .any, .any, .any, .any, .any, .any, .any, .any, .any, .any, .any, .any, .any, .any, .any, .any, .any, .any, .any, .any], [.ent ⟨0, none, 25, [.sl f 1 (strRow ns), .sl g 1 (u32Row us)], .cells⟩, .ent ⟨0, none, 25, [.sl f' 1 (strRow ns'), .sl g' 1 (u32Row us')], .cells⟩]⟩) (fun i => ns.length - i.1) ⟨0, by simp⟩ ⟨?_, (by first | exact ⟨0, (List.append_nil _).symm⟩ | exact ⟨1, rfl⟩ | exact ⟨2, rfl⟩ | exact ⟨3, rfl⟩ | exact ⟨4, rfl⟩ | exact ⟨5, rfl⟩ | exact ⟨6, rfl⟩ | exact ⟨7, rfl⟩ | exact ⟨8, rfl⟩)⟩ ?_
      · repeat' first | exact leF_nil | refine leD_tup ?_ | refine leF1_cons ?_ ?_ | exact leF1_nil | exact leD1_refl _ | refine leD1_agg ?_ | refine leF_cons ?_ ?_ | exact leD_refl _ | exact leD_nil | exact leD_any | exact .inl leD0_nil | exact leF_caps (by assumption) | exact leD_fn (by assumption) | refine leD_agg ?_ | refine leF0_cons ?_ ?_ | exact leF0_nil | exact leD0_refl _ | exact leD0_nil | exact leD0_any
      · rintro ⟨i, hi, hn⟩
        by_cases hlt : (i : Int) < (ns.length : Int)
        · have hx : ns[i]? = some ns[i] := List.getElem?_eq_getElem (by omega)
          have hy : ns'[i]? = some ns'[i] := List.getElem?_eq_getElem (by omega)
          obtain ⟨a, ha⟩ : ∃ a, ns[i] = a := ⟨_, rfl⟩
          obtain ⟨b, hb2⟩ : ∃ b, ns'[i] = b := ⟨_, rfl⟩
          rw [ha] at hx
          rw [hb2] at hy
          by_cases he : a = b
          · have he' : decide (a = b) = true := decide_eq_true he
            repeat' first
              | with_reducible first | refine AWP_seq' ?_ | refine k_normal ?_ | refine k_ret ?_ | refine k_exit ?_ | refine b_normal ?_ | refine b_ret ?_ | refine b_exit ?_ | refine b_pass rfl ?_ | refine AWP_ret ?_ | refine AWP_skip ?_ | refine AWP_exit ?_ | refine AWP_block ?_
              | ((with_reducible first | refine AWP_reg fun KC J hJ hKC => ?_ | refine AWP_regD rfl fun KC J hJ hKC => ?_); simp (maxSteps := 10000000) only [push_cast, seval, ↓reduceIte, hlt, getE_str hx, getE_str hy, he', wrapN (i := i) (n := ns.length) (by omega) (by omega)])
              | ((with_reducible refine And.intro ?_ ?_); · first | trivial | omega | assumption | (simp; done) | (simp; omega))
              | ((first | with_reducible refine hJ _ _ ?_ | (with_reducible refine hJ _ _ ?_ ?_; · kernel_rfl)); clear hJ hKC KC J)
              | ((with_reducible refine AWP_condT ?_ ?_); · rfl)
              | ((with_reducible refine AWP_condF ?_ ?_); · rfl)
              | ((with_reducible refine ite_intro (fun hs => ?_) (fun hs => ?_)) <;> (try simp only [Bool.not_eq_true, Bool.not_eq_false, Bool.not_eq_true', Bool.not_eq_false', Decidable.not_not, decide_eq_true_eq, decide_eq_false_iff_not] at hs) <;> (try simp (maxSteps := 10000000) only [push_cast, seval, ↓reduceIte, hs, hlt, getE_str hx, getE_str hy, he', wrapN (i := i) (n := ns.length) (by omega) (by omega)]))
              | (refine AWP_cond rfl (fun h => ?_) (fun h => ?_) <;> try simp only [decide_eq_true_eq, decide_eq_false_iff_not, Bool.not_eq_true', Bool.not_eq_false', beq_iff_eq, bne_iff_ne, ne_eq, Bool.not_eq_true, Bool.or_eq_true, Bool.and_eq_true, Bool.or_eq_false_iff, Bool.and_eq_false_imp, beq_eq_false_iff_ne, bne_eq_false_iff_eq] at h)
            refine ⟨⟨i + 1, by omega, fun j hj => ?_⟩, by simp only; omega, ?_, (by first | exact ⟨0, (List.append_nil _).symm⟩ | exact ⟨1, rfl⟩ | exact ⟨2, rfl⟩ | exact ⟨3, rfl⟩ | exact ⟨4, rfl⟩ | exact ⟨5, rfl⟩ | exact ⟨6, rfl⟩ | exact ⟨7, rfl⟩ | exact ⟨8, rfl⟩)⟩
            · by_cases hji : j = i
              · rw [hji, hx, hy, he]
              · exact hn j (by omega)
            · repeat' first | exact leF_nil | refine leD_tup ?_ | refine leF1_cons ?_ ?_ | exact leF1_nil | exact leD1_refl _ | refine leD1_agg ?_ | refine leF_cons ?_ ?_ | exact leD_refl _ | exact leD_nil | exact leD_any | exact .inl leD0_nil | exact leF_caps (by assumption) | exact leD_fn (by assumption) | refine leD_agg ?_ | refine leF0_cons ?_ ?_ | exact leF0_nil | exact leD0_refl _ | exact leD0_nil | exact leD0_any
          · have he' : decide (a = b) = false := decide_eq_false he
            repeat' first
              | with_reducible first | refine AWP_seq' ?_ | refine k_normal ?_ | refine k_ret ?_ | refine k_exit ?_ | refine b_normal ?_ | refine b_ret ?_ | refine b_exit ?_ | refine b_pass rfl ?_ | refine AWP_ret ?_ | refine AWP_skip ?_ | refine AWP_exit ?_ | refine AWP_block ?_
              | ((with_reducible first | refine AWP_reg fun KC J hJ hKC => ?_ | refine AWP_regD rfl fun KC J hJ hKC => ?_); simp (maxSteps := 10000000) only [push_cast, seval, ↓reduceIte, hlt, getE_str hx, getE_str hy, he'])
              | ((with_reducible refine And.intro ?_ ?_); · first | trivial | omega | assumption | (simp; done) | (simp; omega))
              | ((first | with_reducible refine hJ _ _ ?_ | (with_reducible refine hJ _ _ ?_ ?_; · kernel_rfl)); clear hJ hKC KC J)
              | ((with_reducible refine AWP_condT ?_ ?_); · rfl)
              | ((with_reducible refine AWP_condF ?_ ?_); · rfl)
              | ((with_reducible refine ite_intro (fun hs => ?_) (fun hs => ?_)) <;> (try simp only [Bool.not_eq_true, Bool.not_eq_false, Bool.not_eq_true', Bool.not_eq_false', Decidable.not_not, decide_eq_true_eq, decide_eq_false_iff_not] at hs) <;> (try simp (maxSteps := 10000000) only [push_cast, seval, ↓reduceIte, hs, hlt, getE_str hx, getE_str hy, he']))
              | (refine AWP_cond rfl (fun h => ?_) (fun h => ?_) <;> try simp only [decide_eq_true_eq, decide_eq_false_iff_not, Bool.not_eq_true', Bool.not_eq_false', beq_iff_eq, bne_iff_ne, ne_eq, Bool.not_eq_true, Bool.or_eq_true, Bool.and_eq_true, Bool.or_eq_false_iff, Bool.and_eq_false_imp, beq_eq_false_iff_ne, bne_eq_false_iff_eq] at h)
            refine ret_plain ?_
            simp (maxSteps := 10000000) only [push_cast, seval, ↓reduceIte, show Try.f23.results = #[(.tmp 4)] from rfl]
            rw [decide_eq_false (fun h => he (by rw [h.1, hy] at hx; exact (Option.some.inj hx).symm))]
            exact leD_refl _
        · have hns : ns = ns' := list_eq_of hl1 fun j hj => hn j (by omega)
          repeat' first
            | with_reducible first | refine AWP_seq' ?_ | refine k_normal ?_ | refine k_ret ?_ | refine k_exit ?_ | refine b_normal ?_ | refine b_ret ?_ | refine b_exit ?_ | refine b_pass rfl ?_ | refine AWP_ret ?_ | refine AWP_skip ?_ | refine AWP_exit ?_ | refine AWP_block ?_
            | ((with_reducible first | refine AWP_reg fun KC J hJ hKC => ?_ | refine AWP_regD rfl fun KC J hJ hKC => ?_); simp (maxSteps := 10000000) only [push_cast, seval, ↓reduceIte, hlt])
            | ((with_reducible refine And.intro ?_ ?_); · first | trivial | omega | assumption | (simp; done) | (simp; omega))
            | ((first | with_reducible refine hJ _ _ ?_ | (with_reducible refine hJ _ _ ?_ ?_; · kernel_rfl)); clear hJ hKC KC J)
            | ((with_reducible refine AWP_condT ?_ ?_); · rfl)
            | ((with_reducible refine AWP_condF ?_ ?_); · rfl)
            | ((with_reducible refine ite_intro (fun hs => ?_) (fun hs => ?_)) <;> (try simp only [Bool.not_eq_true, Bool.not_eq_false, Bool.not_eq_true', Bool.not_eq_false', Decidable.not_not, decide_eq_true_eq, decide_eq_false_iff_not] at hs) <;> (try simp (maxSteps := 10000000) only [push_cast, seval, ↓reduceIte, hs, hlt]))
            | (refine AWP_cond rfl (fun h => ?_) (fun h => ?_) <;> try simp only [decide_eq_true_eq, decide_eq_false_iff_not, Bool.not_eq_true', Bool.not_eq_false', beq_iff_eq, bne_iff_ne, ne_eq, Bool.not_eq_true, Bool.or_eq_true, Bool.and_eq_true, Bool.or_eq_false_iff, Bool.and_eq_false_imp, beq_eq_false_iff_ne, bne_eq_false_iff_eq] at h)
          refine AWP_loopF (γ := {i : Nat // i ≤ us.length ∧ ∀ j, j < i → us[j]? = us'[j]?}) (fun i => ⟨[.any, .any, .ptr 0 0 0, .ptr 1 0 0, .any, .any, .any, .any, .any, .any, .any, .any, .any, .any, .any, .any, .any, .any, .any, .any, .any, .any, .any, .any, .any, .any, .any, .any, .any, .any, .any, .any, .any, .any, .any, .any, .any, .any, .any, .any, .any, .any, .any, .v (.int .i64 us.length), .v (.int .i64 i.1), .any, .any, .any, .any, .any, .any, .any, .any, .any, .any, .any, .any, .any, .any], [.ent ⟨0, none, 25, [.sl f 1 (strRow ns), .sl g 1 (u32Row us)], .cells⟩, .ent ⟨0, none, 25, [.sl f' 1 (strRow ns'), .sl g' 1 (u32Row us')], .cells⟩]⟩) (fun i => us.length - i.1) ⟨0, by simp⟩ ⟨?_, (by first | exact ⟨0, (List.append_nil _).symm⟩ | exact ⟨1, rfl⟩ | exact ⟨2, rfl⟩ | exact ⟨3, rfl⟩ | exact ⟨4, rfl⟩ | exact ⟨5, rfl⟩ | exact ⟨6, rfl⟩ | exact ⟨7, rfl⟩ | exact ⟨8, rfl⟩)⟩ ?_
          · repeat' first | exact leF_nil | refine leD_tup ?_ | refine leF1_cons ?_ ?_ | exact leF1_nil | exact leD1_refl _ | refine leD1_agg ?_ | refine leF_cons ?_ ?_ | exact leD_refl _ | exact leD_nil | exact leD_any | exact .inl leD0_nil | exact leF_caps (by assumption) | exact leD_fn (by assumption) | refine leD_agg ?_ | refine leF0_cons ?_ ?_ | exact leF0_nil | exact leD0_refl _ | exact leD0_nil | exact leD0_any
          · rintro ⟨i, hi, hn⟩
            by_cases hlt : (i : Int) < (us.length : Int)
            · have hx : us[i]? = some us[i] := List.getElem?_eq_getElem (by omega)
              have hy : us'[i]? = some us'[i] := List.getElem?_eq_getElem (by omega)
              obtain ⟨a, ha⟩ : ∃ a, us[i] = a := ⟨_, rfl⟩
              obtain ⟨b, hb2⟩ : ∃ b, us'[i] = b := ⟨_, rfl⟩
              rw [ha] at hx
              rw [hb2] at hy
              by_cases he : a = b
              · have he' : decide (a = b) = true := decide_eq_true he
                repeat' first
                  | with_reducible first | refine AWP_seq' ?_ | refine k_normal ?_ | refine k_ret ?_ | refine k_exit ?_ | refine b_normal ?_ | refine b_ret ?_ | refine b_exit ?_ | refine b_pass rfl ?_ | refine AWP_ret ?_ | refine AWP_skip ?_ | refine AWP_exit ?_ | refine AWP_block ?_
                  | ((with_reducible first | refine AWP_reg fun KC J hJ hKC => ?_ | refine AWP_regD rfl fun KC J hJ hKC => ?_); simp (maxSteps := 10000000) only [push_cast, seval, ↓reduceIte, hlt, getE_u32 hx, getE_u32 hy, he', wrapN (i := i) (n := us.length) (by omega) (by omega)])
                  | ((with_reducible refine And.intro ?_ ?_); · first | trivial | omega | assumption | (simp; done) | (simp; omega))
                  | ((first | with_reducible refine hJ _ _ ?_ | (with_reducible refine hJ _ _ ?_ ?_; · kernel_rfl)); clear hJ hKC KC J)
                  | ((with_reducible refine AWP_condT ?_ ?_); · rfl)
                  | ((with_reducible refine AWP_condF ?_ ?_); · rfl)
                  | ((with_reducible refine ite_intro (fun hs => ?_) (fun hs => ?_)) <;> (try simp only [Bool.not_eq_true, Bool.not_eq_false, Bool.not_eq_true', Bool.not_eq_false', Decidable.not_not, decide_eq_true_eq, decide_eq_false_iff_not] at hs) <;> (try simp (maxSteps := 10000000) only [push_cast, seval, ↓reduceIte, hs, hlt, getE_u32 hx, getE_u32 hy, he', wrapN (i := i) (n := us.length) (by omega) (by omega)]))
                  | (refine AWP_cond rfl (fun h => ?_) (fun h => ?_) <;> try simp only [decide_eq_true_eq, decide_eq_false_iff_not, Bool.not_eq_true', Bool.not_eq_false', beq_iff_eq, bne_iff_ne, ne_eq, Bool.not_eq_true, Bool.or_eq_true, Bool.and_eq_true, Bool.or_eq_false_iff, Bool.and_eq_false_imp, beq_eq_false_iff_ne, bne_eq_false_iff_eq] at h)
                refine ⟨⟨i + 1, by omega, fun j hj => ?_⟩, by simp only; omega, ?_, (by first | exact ⟨0, (List.append_nil _).symm⟩ | exact ⟨1, rfl⟩ | exact ⟨2, rfl⟩ | exact ⟨3, rfl⟩ | exact ⟨4, rfl⟩ | exact ⟨5, rfl⟩ | exact ⟨6, rfl⟩ | exact ⟨7, rfl⟩ | exact ⟨8, rfl⟩)⟩
                · by_cases hji : j = i
                  · rw [hji, hx, hy, he]
                  · exact hn j (by omega)
                · repeat' first | exact leF_nil | refine leD_tup ?_ | refine leF1_cons ?_ ?_ | exact leF1_nil | exact leD1_refl _ | refine leD1_agg ?_ | refine leF_cons ?_ ?_ | exact leD_refl _ | exact leD_nil | exact leD_any | exact .inl leD0_nil | exact leF_caps (by assumption) | exact leD_fn (by assumption) | refine leD_agg ?_ | refine leF0_cons ?_ ?_ | exact leF0_nil | exact leD0_refl _ | exact leD0_nil | exact leD0_any
              · have he' : decide (a = b) = false := decide_eq_false he
                repeat' first
                  | with_reducible first | refine AWP_seq' ?_ | refine k_normal ?_ | refine k_ret ?_ | refine k_exit ?_ | refine b_normal ?_ | refine b_ret ?_ | refine b_exit ?_ | refine b_pass rfl ?_ | refine AWP_ret ?_ | refine AWP_skip ?_ | refine AWP_exit ?_ | refine AWP_block ?_
                  | ((with_reducible first | refine AWP_reg fun KC J hJ hKC => ?_ | refine AWP_regD rfl fun KC J hJ hKC => ?_); simp (maxSteps := 10000000) only [push_cast, seval, ↓reduceIte, hlt, getE_u32 hx, getE_u32 hy, he'])
                  | ((with_reducible refine And.intro ?_ ?_); · first | trivial | omega | assumption | (simp; done) | (simp; omega))
                  | ((first | with_reducible refine hJ _ _ ?_ | (with_reducible refine hJ _ _ ?_ ?_; · kernel_rfl)); clear hJ hKC KC J)
                  | ((with_reducible refine AWP_condT ?_ ?_); · rfl)
                  | ((with_reducible refine AWP_condF ?_ ?_); · rfl)
                  | ((with_reducible refine ite_intro (fun hs => ?_) (fun hs => ?_)) <;> (try simp only [Bool.not_eq_true, Bool.not_eq_false, Bool.not_eq_true', Bool.not_eq_false', Decidable.not_not, decide_eq_true_eq, decide_eq_false_iff_not] at hs) <;> (try simp (maxSteps := 10000000) only [push_cast, seval, ↓reduceIte, hs, hlt, getE_u32 hx, getE_u32 hy, he']))
                  | (refine AWP_cond rfl (fun h => ?_) (fun h => ?_) <;> try simp only [decide_eq_true_eq, decide_eq_false_iff_not, Bool.not_eq_true', Bool.not_eq_false', beq_iff_eq, bne_iff_ne, ne_eq, Bool.not_eq_true, Bool.or_eq_true, Bool.and_eq_true, Bool.or_eq_false_iff, Bool.and_eq_false_imp, beq_eq_false_iff_ne, bne_eq_false_iff_eq] at h)
                refine ret_plain ?_
                simp (maxSteps := 10000000) only [push_cast, seval, ↓reduceIte, show Try.f23.results = #[(.tmp 4)] from rfl]
                rw [decide_eq_false (fun h => he (by rw [h.2, hy] at hx; exact (Option.some.inj hx).symm))]
                exact leD_refl _
            · skip
              repeat' first
                | with_reducible first | refine AWP_seq' ?_ | refine k_normal ?_ | refine k_ret ?_ | refine k_exit ?_ | refine b_normal ?_ | refine b_ret ?_ | refine b_exit ?_ | refine b_pass rfl ?_ | refine AWP_ret ?_ | refine AWP_skip ?_ | refine AWP_exit ?_ | refine AWP_block ?_
                | ((with_reducible first | refine AWP_reg fun KC J hJ hKC => ?_ | refine AWP_regD rfl fun KC J hJ hKC => ?_); simp (maxSteps := 10000000) only [push_cast, seval, ↓reduceIte, hlt])
                | ((with_reducible refine And.intro ?_ ?_); · first | trivial | omega | assumption | (simp; done) | (simp; omega))
                | ((first | with_reducible refine hJ _ _ ?_ | (with_reducible refine hJ _ _ ?_ ?_; · kernel_rfl)); clear hJ hKC KC J)
                | ((with_reducible refine AWP_condT ?_ ?_); · rfl)
                | ((with_reducible refine AWP_condF ?_ ?_); · rfl)
                | ((with_reducible refine ite_intro (fun hs => ?_) (fun hs => ?_)) <;> (try simp only [Bool.not_eq_true, Bool.not_eq_false, Bool.not_eq_true', Bool.not_eq_false', Decidable.not_not, decide_eq_true_eq, decide_eq_false_iff_not] at hs) <;> (try simp (maxSteps := 10000000) only [push_cast, seval, ↓reduceIte, hs, hlt]))
                | (refine AWP_cond rfl (fun h => ?_) (fun h => ?_) <;> try simp only [decide_eq_true_eq, decide_eq_false_iff_not, Bool.not_eq_true', Bool.not_eq_false', beq_iff_eq, bne_iff_ne, ne_eq, Bool.not_eq_true, Bool.or_eq_true, Bool.and_eq_true, Bool.or_eq_false_iff, Bool.and_eq_false_imp, beq_eq_false_iff_ne, bne_eq_false_iff_eq] at h)
              refine ret_plain ?_
              simp (maxSteps := 10000000) only [push_cast, seval, ↓reduceIte, show Try.f23.results = #[(.tmp 4)] from rfl]
              rw [decide_eq_true ⟨hns, list_eq_of hl2 fun j hj => hn j (by omega)⟩]
              exact leD_refl _
    · have hl2' : ((us.length : Int) != (us'.length : Int)) = true := by simp; omega
      repeat' first
        | with_reducible first | refine AWP_seq' ?_ | refine k_normal ?_ | refine k_ret ?_ | refine k_exit ?_ | refine b_normal ?_ | refine b_ret ?_ | refine b_exit ?_ | refine b_pass rfl ?_ | refine AWP_ret ?_ | refine AWP_skip ?_ | refine AWP_exit ?_ | refine AWP_block ?_
        | ((with_reducible first | refine AWP_reg fun KC J hJ hKC => ?_ | refine AWP_regD rfl fun KC J hJ hKC => ?_); simp (maxSteps := 10000000) only [push_cast, seval, ↓reduceIte, hl1', hl2', undef])
        | ((with_reducible refine And.intro ?_ ?_); · first | trivial | omega | assumption | (simp; done) | (simp; omega))
        | ((first | with_reducible refine hJ _ _ ?_ | (with_reducible refine hJ _ _ ?_ ?_; · kernel_rfl)); clear hJ hKC KC J)
        | ((with_reducible refine AWP_condT ?_ ?_); · rfl)
        | ((with_reducible refine AWP_condF ?_ ?_); · rfl)
        | ((with_reducible refine ite_intro (fun hs => ?_) (fun hs => ?_)) <;> (try simp only [Bool.not_eq_true, Bool.not_eq_false, Bool.not_eq_true', Bool.not_eq_false', Decidable.not_not, decide_eq_true_eq, decide_eq_false_iff_not] at hs) <;> (try simp (maxSteps := 10000000) only [push_cast, seval, ↓reduceIte, hs, hl1', hl2', undef]))
        | (refine AWP_cond rfl (fun h => ?_) (fun h => ?_) <;> try simp only [decide_eq_true_eq, decide_eq_false_iff_not, Bool.not_eq_true', Bool.not_eq_false', beq_iff_eq, bne_iff_ne, ne_eq, Bool.not_eq_true, Bool.or_eq_true, Bool.and_eq_true, Bool.or_eq_false_iff, Bool.and_eq_false_imp, beq_eq_false_iff_ne, bne_eq_false_iff_eq] at h)
      refine ret_plain ?_
      simp (maxSteps := 10000000) only [push_cast, seval, ↓reduceIte, show Try.f23.results = #[(.tmp 4)] from rfl]
      rw [decide_eq_false (fun h => hl2 (by rw [h.2]))]
      exact leD_refl _
  · have hl1' : ((ns.length : Int) != (ns'.length : Int)) = true := by simp; omega
    repeat' first
      | with_reducible first | refine AWP_seq' ?_ | refine k_normal ?_ | refine k_ret ?_ | refine k_exit ?_ | refine b_normal ?_ | refine b_ret ?_ | refine b_exit ?_ | refine b_pass rfl ?_ | refine AWP_ret ?_ | refine AWP_skip ?_ | refine AWP_exit ?_ | refine AWP_block ?_
      | ((with_reducible first | refine AWP_reg fun KC J hJ hKC => ?_ | refine AWP_regD rfl fun KC J hJ hKC => ?_); simp (maxSteps := 10000000) only [push_cast, seval, ↓reduceIte, hl1', undef])
      | ((with_reducible refine And.intro ?_ ?_); · first | trivial | omega | assumption | (simp; done) | (simp; omega))
      | ((first | with_reducible refine hJ _ _ ?_ | (with_reducible refine hJ _ _ ?_ ?_; · kernel_rfl)); clear hJ hKC KC J)
      | ((with_reducible refine AWP_condT ?_ ?_); · rfl)
      | ((with_reducible refine AWP_condF ?_ ?_); · rfl)
      | ((with_reducible refine ite_intro (fun hs => ?_) (fun hs => ?_)) <;> (try simp only [Bool.not_eq_true, Bool.not_eq_false, Bool.not_eq_true', Bool.not_eq_false', Decidable.not_not, decide_eq_true_eq, decide_eq_false_iff_not] at hs) <;> (try simp (maxSteps := 10000000) only [push_cast, seval, ↓reduceIte, hs, hl1', undef]))
      | (refine AWP_cond rfl (fun h => ?_) (fun h => ?_) <;> try simp only [decide_eq_true_eq, decide_eq_false_iff_not, Bool.not_eq_true', Bool.not_eq_false', beq_iff_eq, bne_iff_ne, ne_eq, Bool.not_eq_true, Bool.or_eq_true, Bool.and_eq_true, Bool.or_eq_false_iff, Bool.and_eq_false_imp, beq_eq_false_iff_ne, bne_eq_false_iff_eq] at h)
    refine ret_plain ?_
    simp (maxSteps := 10000000) only [push_cast, seval, ↓reduceIte, show Try.f23.results = #[(.tmp 4)] from rfl]
    rw [decide_eq_false (fun h => hl1 (by rw [h.1]))]
    exact leD_refl _
end Go.Proofs.Ytabliglgeiajlaa.AM
