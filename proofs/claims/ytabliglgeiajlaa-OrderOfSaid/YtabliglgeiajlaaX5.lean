/- OrderOf. -/
import Derived.Test.YtabliglgeiajlaaX4
set_option linter.unusedSimpArgs false
set_option linter.unusedVariables false
namespace Go.Proofs.Ytabliglgeiajlaa.AM
open Go Go.RowKit Go.Proofs
set_option maxRecDepth 100000
set_option maxHeartbeats 1000000

theorem ofF_le (ns : List ByteArray) (l : List (Int × Int)) : (ofF ns l).1.length ≤ ns.length ∧ (ofF ns l).2.1.length ≤ ns.length := by
  unfold ofF
  split
  · simp
  · split
    · simp
    · split
      · simp
      · split
        · exact ⟨Nat.le_refl _, by rw [closU, upsN_length]; exact Nat.le_refl _⟩
        · simp
theorem orderOf_fn (f g : Bool) (ns : List ByteArray) (l : List (Int × Int)) :
    Fn Try.prog 9 [.sl f 1 (strRow ns), .sl g 2 (pRow l)] [] (.v (.bool true)) [] := by
  have hs := szs_few ns
  have hfw := few_fn f false ns []
  obtain ⟨xs, hxs⟩ : ∃ xs, (ns.take 10).map cutS = xs := ⟨_, rfl⟩
  obtain ⟨zs, hzs⟩ : ∃ zs, l.take 66 = zs := ⟨_, rfl⟩
  have l1 : xs.length ≤ 10 := by rw [← hxs]; simp; omega
  have l2 : zs.length ≤ 66 := by rw [← hzs]; simp; omega
  rw [hxs] at hs hfw
  have hr := ofF_le xs zs
  obtain ⟨r, hr1⟩ : ∃ r, ofF xs zs = r := ⟨_, rfl⟩
  rw [hr1] at hr
  have hsm := same_fn false false false false r.1 r.1 r.2.1 r.2.1 (by omega) (by omega)
  rw [decide_eq_true (⟨rfl, rfl⟩ : r.1 = r.1 ∧ r.2.1 = r.2.1)] at hsm
  refine Fn.of (fn := Try.f9) (by kernel_rfl) rfl (by kernel_rfl) ⟨[.sl f 1 (strRow ns), .sl g 2 (pRow l), .v undef, .v undef, .v undef, .v undef, .v undef, .v undef, .v undef, .v undef, .v undef, .v undef, .v undef, .v undef, .v undef, .v undef, .v undef, .v undef, .v undef, .v undef, .v undef, .v undef, .v undef, .v undef, .v undef, .v undef, .v undef, .v undef, .v undef, .v undef, .v undef, .v undef, .v undef, .v undef, .v undef, .v undef, .v undef, .v undef, .v undef], []⟩ rfl ?_
  repeat' first
    | with_reducible first | refine AWP_seq' ?_ | refine k_normal ?_ | refine k_ret ?_ | refine k_exit ?_ | refine b_normal ?_ | refine b_ret ?_ | refine b_exit ?_ | refine b_pass rfl ?_ | refine AWP_ret ?_ | refine AWP_skip ?_ | refine AWP_exit ?_ | refine AWP_block ?_
    | ((with_reducible first | refine AWP_reg fun KC J hJ hKC => ?_ | refine AWP_regD rfl fun KC J hJ hKC => ?_); simp (maxSteps := 10000000) only [push_cast, seval, ↓reduceIte, take_minL (K := 66) (k := 66) rfl l, hzs, hr1, and_self])
    | ((with_reducible refine And.intro ?_ ?_); · first | trivial | omega | assumption | (simp; done) | (simp; omega))
    | first | (refine' hKC _ _ _ _ _ (callV0 (few_fn _ _ _ _) rfl rfl rfl ?_ ?_); (rotate_left 4); (· (repeat' first | exact leF_nil | refine leD_tup ?_ | refine leF1_cons ?_ ?_ | exact leF1_nil | exact leD1_refl _ | refine leD1_agg ?_ | refine leF_cons ?_ ?_ | exact leD_refl _ | exact leD_nil | exact leD_any | exact .inl leD0_nil | exact leF_caps (by assumption) | exact leD_fn (by assumption) | refine leD_agg ?_ | refine leF0_cons ?_ ?_ | exact leF0_nil | exact leD0_refl _ | exact leD0_nil | exact leD0_any)); simp (maxSteps := 10000000) only [push_cast, seval, ↓reduceIte, take_minL (K := 66) (k := 66) rfl l, hzs, hr1, and_self]) | (refine' hKC _ _ _ _ _ (callV0 (of_fn _ _ _ ?_ ?_) rfl rfl rfl ?_ ?_); (rotate_left 5); (· (repeat' first | exact leF_nil | refine leD_tup ?_ | refine leF1_cons ?_ ?_ | exact leF1_nil | exact leD1_refl _ | refine leD1_agg ?_ | refine leF_cons ?_ ?_ | exact leD_refl _ | exact leD_nil | exact leD_any | exact .inl leD0_nil | exact leF_caps (by assumption) | exact leD_fn (by assumption) | refine leD_agg ?_ | refine leF0_cons ?_ ?_ | exact leF0_nil | exact leD0_refl _ | exact leD0_nil | exact leD0_any)); (rotate_left 1); (iterate 2 (· first | assumption | omega | trivial | (simp; done) | (simp; omega))); simp (maxSteps := 10000000) only [push_cast, seval, ↓reduceIte, take_minL (K := 66) (k := 66) rfl l, hzs, hr1, and_self]) | (refine' hKC _ _ _ _ _ (callV0 (rOf_fn _ _ _ ?_ ?_) rfl rfl rfl ?_ ?_); (rotate_left 5); (· (repeat' first | exact leF_nil | refine leD_tup ?_ | refine leF1_cons ?_ ?_ | exact leF1_nil | exact leD1_refl _ | refine leD1_agg ?_ | refine leF_cons ?_ ?_ | exact leD_refl _ | exact leD_nil | exact leD_any | exact .inl leD0_nil | exact leF_caps (by assumption) | exact leD_fn (by assumption) | refine leD_agg ?_ | refine leF0_cons ?_ ?_ | exact leF0_nil | exact leD0_refl _ | exact leD0_nil | exact leD0_any)); (rotate_left 1); (iterate 2 (· first | assumption | omega | trivial | (simp; done) | (simp; omega))); simp (maxSteps := 10000000) only [push_cast, seval, ↓reduceIte, take_minL (K := 66) (k := 66) rfl l, hzs, hr1, and_self]) | (refine' hKC _ _ _ _ _ (callV0 (alive02_fn) rfl rfl rfl ?_ ?_); (· (repeat' first | exact leF_nil | refine leD_tup ?_ | refine leF1_cons ?_ ?_ | exact leF1_nil | exact leD1_refl _ | refine leD1_agg ?_ | refine leF_cons ?_ ?_ | exact leD_refl _ | exact leD_nil | exact leD_any | exact .inl leD0_nil | exact leF_caps (by assumption) | exact leD_fn (by assumption) | refine leD_agg ?_ | refine leF0_cons ?_ ?_ | exact leF0_nil | exact leD0_refl _ | exact leD0_nil | exact leD0_any)); simp (maxSteps := 10000000) only [push_cast, seval, ↓reduceIte, take_minL (K := 66) (k := 66) rfl l, hzs, hr1, and_self]) | (refine' hKC _ _ _ _ _ (callV0 (same_fn _ _ _ _ _ _ _ _ ?_ ?_) rfl rfl rfl ?_ ?_); (rotate_left 10); (· (repeat' first | exact leF_nil | refine leD_tup ?_ | refine leF1_cons ?_ ?_ | exact leF1_nil | exact leD1_refl _ | refine leD1_agg ?_ | refine leF_cons ?_ ?_ | exact leD_refl _ | exact leD_nil | exact leD_any | exact .inl leD0_nil | exact leF_caps (by assumption) | exact leD_fn (by assumption) | refine leD_agg ?_ | refine leF0_cons ?_ ?_ | exact leF0_nil | exact leD0_refl _ | exact leD0_nil | exact leD0_any)); (rotate_left 1); (iterate 2 (· first | assumption | omega | trivial | (simp; done) | (simp; omega))); simp (maxSteps := 10000000) only [push_cast, seval, ↓reduceIte, take_minL (K := 66) (k := 66) rfl l, hzs, hr1, and_self]) | (refine hKC _ _ _ _ _ (callV0 (hfw) rfl rfl rfl ?_ ?_); (· (repeat' first | exact leF_nil | refine leD_tup ?_ | refine leF1_cons ?_ ?_ | exact leF1_nil | exact leD1_refl _ | refine leD1_agg ?_ | refine leF_cons ?_ ?_ | exact leD_refl _ | exact leD_nil | exact leD_any | exact .inl leD0_nil | exact leF_caps (by assumption) | exact leD_fn (by assumption) | refine leD_agg ?_ | refine leF0_cons ?_ ?_ | exact leF0_nil | exact leD0_refl _ | exact leD0_nil | exact leD0_any)); simp (maxSteps := 10000000) only [push_cast, seval, ↓reduceIte, take_minL (K := 66) (k := 66) rfl l, hzs, hr1, and_self]) | (refine hKC _ _ _ _ _ (callV0 (hsm) rfl rfl rfl ?_ ?_); (· (repeat' first | exact leF_nil | refine leD_tup ?_ | refine leF1_cons ?_ ?_ | exact leF1_nil | exact leD1_refl _ | refine leD1_agg ?_ | refine leF_cons ?_ ?_ | exact leD_refl _ | exact leD_nil | exact leD_any | exact .inl leD0_nil | exact leF_caps (by assumption) | exact leD_fn (by assumption) | refine leD_agg ?_ | refine leF0_cons ?_ ?_ | exact leF0_nil | exact leD0_refl _ | exact leD0_nil | exact leD0_any)); simp (maxSteps := 10000000) only [push_cast, seval, ↓reduceIte, take_minL (K := 66) (k := 66) rfl l, hzs, hr1, and_self])
    | ((first | with_reducible refine hJ _ _ ?_ | (with_reducible refine hJ _ _ ?_ ?_; · kernel_rfl)); clear hJ hKC KC J)
    | ((with_reducible refine AWP_condT ?_ ?_); · rfl)
    | ((with_reducible refine AWP_condF ?_ ?_); · rfl)
    | ((with_reducible refine ite_intro (fun hs => ?_) (fun hs => ?_)) <;> (try simp only [Bool.not_eq_true, Bool.not_eq_false, Bool.not_eq_true', Bool.not_eq_false', Decidable.not_not, decide_eq_true_eq, decide_eq_false_iff_not] at hs) <;> (try simp (maxSteps := 10000000) only [push_cast, seval, ↓reduceIte, hs, take_minL (K := 66) (k := 66) rfl l, hzs, hr1, and_self]))
    | (refine AWP_cond rfl (fun h => ?_) (fun h => ?_) <;> try simp only [decide_eq_true_eq, decide_eq_false_iff_not, Bool.not_eq_true', Bool.not_eq_false', beq_iff_eq, bne_iff_ne, ne_eq, Bool.not_eq_true, Bool.or_eq_true, Bool.and_eq_true, Bool.or_eq_false_iff, Bool.and_eq_false_imp, beq_eq_false_iff_ne, bne_eq_false_iff_eq] at h)
  refine ret_plain ?_
  simp (maxSteps := 10000000) only [push_cast, seval, ↓reduceIte, show Try.f9.results = #[(.tmp 4)] from rfl]
  exact leD_refl _
end Go.Proofs.Ytabliglgeiajlaa.AM
