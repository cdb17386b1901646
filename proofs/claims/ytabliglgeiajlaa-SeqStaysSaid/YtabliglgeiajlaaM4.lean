/- Law 18: what is cut; what is alive; SeqStays. -/
import Derived.Test.YtabliglgeiajlaaSD
import Derived.Test.YtabliglgeiajlaaSE
import Derived.Test.YtabliglgeiajlaaF0
set_option linter.unusedSimpArgs false
set_option linter.unusedVariables false
namespace Go.Proofs.Ytabliglgeiajlaa.AM
open Go Go.RowKit Go.Proofs
set_option maxRecDepth 100000
set_option maxHeartbeats 4000000

theorem few18_fn (f g : Bool) (ns : List ByteArray) (us : List Nat) :
    Fn Try.prog 83 [.agg [.sl f 1 (strRow ns), .sl g 1 (u32Row us)]] [] (.agg [.sl false 1 (strRow ((ns.take 10).map cutS)), .sl false 1 (u32Row (us.take 10))]) [] := by
  refine Fn.of (fn := Try.f83) (by kernel_rfl) rfl (by kernel_rfl) ⟨[.agg [.sl f 1 (strRow ns), .sl g 1 (u32Row us)], .v undef, .v undef, .v undef, .v undef, .v undef, .v undef, .v undef, .v undef, .v undef, .v undef, .v undef, .v undef, .v undef, .v undef, .v undef, .v undef, .v undef, .v undef, .v undef, .v undef, .v undef, .v undef, .v undef, .v undef, .v undef, .v undef, .v undef, .v undef, .v undef, .v undef, .v undef, .v undef, .v undef, .v undef, .v undef, .v undef, .v undef], []⟩ rfl ?_
  repeat' first | (with_reducible first | refine AWP_seq' ?_ | refine k_normal ?_ | refine k_ret ?_ | refine k_exit ?_ | refine b_normal ?_ | refine b_ret ?_ | refine b_exit ?_ | refine b_pass rfl ?_ | refine AWP_ret ?_ | refine AWP_skip ?_ | refine AWP_exit ?_ | refine AWP_block ?_) | ((with_reducible first | refine AWP_reg fun KC J hJ hKC => ?_ | refine AWP_regD rfl fun KC J hJ hKC => ?_); simp (maxSteps := 10000000) only [push_cast, seval, ↓reduceIte, take_minL (K := 10) (k := 10) rfl ns, take_minL (K := 10) (k := 10) rfl us]) | ((with_reducible refine And.intro ?_ ?_); · exact Sq) | ((first | with_reducible refine hJ _ _ ?_ | (with_reducible refine hJ _ _ ?_ ?_; · kernel_rfl)); clear hJ hKC KC J) | ((with_reducible refine AWP_condT ?_ ?_); · rfl) | ((with_reducible refine AWP_condF ?_ ?_); · rfl) | ((with_reducible refine ite_intro (fun hs => ?_) (fun hs => ?_)) <;> (try simp only [Bool.not_eq_true, Bool.not_eq_false, Bool.not_eq_true', Bool.not_eq_false', Decidable.not_not, decide_eq_true_eq, decide_eq_false_iff_not] at hs) <;> (try simp (maxSteps := 10000000) only [push_cast, seval, ↓reduceIte, hs, take_minL (K := 10) (k := 10) rfl ns, take_minL (K := 10) (k := 10) rfl us])) | (refine AWP_cond rfl (fun h => ?_) (fun h => ?_) <;> try simp only [decide_eq_true_eq, decide_eq_false_iff_not, Bool.not_eq_true', Bool.not_eq_false', beq_iff_eq, bne_iff_ne, ne_eq, Bool.not_eq_true, Bool.or_eq_true, Bool.and_eq_true, Bool.or_eq_false_iff, Bool.and_eq_false_imp, beq_eq_false_iff_ne, bne_eq_false_iff_eq] at h)
  obtain ⟨xs, hxs⟩ : ∃ xs, ns.take 10 = xs := ⟨_, rfl⟩
  have hx10 : xs.length ≤ 10 := by rw [← hxs]; simp; omega
  rw [hxs]
  refine AWP_loopF (γ := {i : Nat // i ≤ xs.length}) (fun i => ⟨[.any, .ptr 0 0 0, .ptr 1 0 0, .ptr 2 0 0, .any, .any, .any, .any, .any, .any, .any, .any, .any, .any, .any, .any, .any, .any, .any, .any, .sl false 1 (strRow xs), .v (.int .i64 xs.length), .v (.int .i64 i.1), .any, .any, .any, .any, .any, .any, .any, .any, .any, .any, .any, .any, .any, .any, .any], fσ ⟨0, none, 25, [.sl f 1 (strRow ns), .sl g 1 (u32Row us)], .cells⟩ ⟨0, none, 25, [.v (.slice none 0 0), .v (.slice none 0 0)], .cells⟩ (.sl false 1 (u32Row (us.take 10))) xs i.1⟩) (fun i => xs.length - i.1) ⟨0, by simp⟩ ⟨?_, ?_⟩ ?_
  · exact Lq
  · simp only [fσ]
    exact Fq
  rintro ⟨i, hi⟩
  obtain ⟨e1, he1⟩ : ∃ e1 : Ent, ⟨0, none, 25, [.sl f 1 (strRow ns), .sl g 1 (u32Row us)], .cells⟩ = e1 := ⟨_, rfl⟩
  rw [he1]
  by_cases hlt : (i : Int) < (xs.length : Int)
  · have hx : xs[i]? = some xs[i] := List.getElem?_eq_getElem (by omega)
    obtain ⟨a, ha⟩ : ∃ a, xs[i] = a := ⟨_, rfl⟩
    rw [ha] at hx
    have hcut : a.extract 0 (if (15 : Int) < (a.size : Int) then 15 else (a.size : Int)).toNat = cutS a := rfl
    rcases Nat.eq_zero_or_pos i with rfl | hpos
    · have hσ := fσ_zero e1 ⟨0, none, 25, [.v (.slice none 0 0), .v (.slice none 0 0)], .cells⟩ (.sl false 1 (u32Row (us.take 10))) xs
      have hσ1 := fσ_one e1 ⟨0, none, 25, [.v (.slice none 0 0), .v (.slice none 0 0)], .cells⟩ (.sl false 1 (u32Row (us.take 10))) xs hx
      have hlt0 : (0 : Int) < xs.length := hlt
      repeat' first | (with_reducible first | refine AWP_seq' ?_ | refine k_normal ?_ | refine k_ret ?_ | refine k_exit ?_ | refine b_normal ?_ | refine b_ret ?_ | refine b_exit ?_ | refine b_pass rfl ?_ | refine AWP_ret ?_ | refine AWP_skip ?_ | refine AWP_exit ?_ | refine AWP_block ?_) | ((with_reducible first | refine AWP_reg fun KC J hJ hKC => ?_ | refine AWP_regD rfl fun KC J hJ hKC => ?_); simp (maxSteps := 10000000) only [push_cast, seval, ↓reduceIte, hlt0, hσ, getE_str hx, hcut]) | ((with_reducible refine And.intro ?_ ?_); · exact Sq) | ((first | with_reducible refine hJ _ _ ?_ | (with_reducible refine hJ _ _ ?_ ?_; · kernel_rfl)); clear hJ hKC KC J) | ((with_reducible refine AWP_condT ?_ ?_); · rfl) | ((with_reducible refine AWP_condF ?_ ?_); · rfl) | ((with_reducible refine ite_intro (fun hs => ?_) (fun hs => ?_)) <;> (try simp only [Bool.not_eq_true, Bool.not_eq_false, Bool.not_eq_true', Bool.not_eq_false', Decidable.not_not, decide_eq_true_eq, decide_eq_false_iff_not] at hs) <;> (try simp (maxSteps := 10000000) only [push_cast, seval, ↓reduceIte, hs, hlt0, hσ, getE_str hx, hcut])) | (refine AWP_cond rfl (fun h => ?_) (fun h => ?_) <;> try simp only [decide_eq_true_eq, decide_eq_false_iff_not, Bool.not_eq_true', Bool.not_eq_false', beq_iff_eq, bne_iff_ne, ne_eq, Bool.not_eq_true, Bool.or_eq_true, Bool.and_eq_true, Bool.or_eq_false_iff, Bool.and_eq_false_imp, beq_eq_false_iff_ne, bne_eq_false_iff_eq] at h)
      refine ⟨⟨0 + 1, by omega⟩, by simp only; omega, ?_, ?_⟩
      · exact Lq
      · simp only [hσ1]
        exact Fq
    · obtain ⟨i', hi'⟩ : ∃ i', i = i' + 1 := ⟨i - 1, by omega⟩
      have hσ := fσ_pos e1 ⟨0, none, 25, [.v (.slice none 0 0), .v (.slice none 0 0)], .cells⟩ (.sl false 1 (u32Row (us.take 10))) xs hi'
      have hσ1 := fσ_succ e1 ⟨0, none, 25, [.v (.slice none 0 0), .v (.slice none 0 0)], .cells⟩ (.sl false 1 (u32Row (us.take 10))) xs hi' hx
      have hlS : (cellS (fewL xs i)).length = i := by simp [cellS, fewL_length hi]
      have htS := take_of hlS
      have htS' : (cellS (fewL xs i)).take i = cellS (fewL xs i) := List.take_of_length_le (by omega)
      have hbq : Nat.beq i' i' = true := Nat.beq_refl i'
      repeat' first | (with_reducible first | refine AWP_seq' ?_ | refine k_normal ?_ | refine k_ret ?_ | refine k_exit ?_ | refine b_normal ?_ | refine b_ret ?_ | refine b_exit ?_ | refine b_pass rfl ?_ | refine AWP_ret ?_ | refine AWP_skip ?_ | refine AWP_exit ?_ | refine AWP_block ?_) | ((with_reducible first | refine AWP_reg fun KC J hJ hKC => ?_ | refine AWP_regD rfl fun KC J hJ hKC => ?_); simp (maxSteps := 10000000) only [push_cast, seval, ↓reduceIte, hlt, hσ, getE_str hx, hcut, hbq, hlS, htS, htS', wrapN (i := i) (n := xs.length) (by omega) (by omega)]) | ((with_reducible refine And.intro ?_ ?_); · exact Sq) | ((first | with_reducible refine hJ _ _ ?_ | (with_reducible refine hJ _ _ ?_ ?_; · kernel_rfl)); clear hJ hKC KC J) | ((with_reducible refine AWP_condT ?_ ?_); · rfl) | ((with_reducible refine AWP_condF ?_ ?_); · rfl) | ((with_reducible refine ite_intro (fun hs => ?_) (fun hs => ?_)) <;> (try simp only [Bool.not_eq_true, Bool.not_eq_false, Bool.not_eq_true', Bool.not_eq_false', Decidable.not_not, decide_eq_true_eq, decide_eq_false_iff_not] at hs) <;> (try simp (maxSteps := 10000000) only [push_cast, seval, ↓reduceIte, hs, hlt, hσ, getE_str hx, hcut, hbq, hlS, htS, htS', wrapN (i := i) (n := xs.length) (by omega) (by omega)])) | (refine AWP_cond rfl (fun h => ?_) (fun h => ?_) <;> try simp only [decide_eq_true_eq, decide_eq_false_iff_not, Bool.not_eq_true', Bool.not_eq_false', beq_iff_eq, bne_iff_ne, ne_eq, Bool.not_eq_true, Bool.or_eq_true, Bool.and_eq_true, Bool.or_eq_false_iff, Bool.and_eq_false_imp, beq_eq_false_iff_ne, bne_eq_false_iff_eq] at h)
      refine ⟨⟨i + 1, by omega⟩, by simp only; omega, ?_, ?_⟩
      · exact Lq
      · simp only [hσ1]
        exact Fq
  · have hix : i = xs.length := by omega
    have hfin : fewL xs i = xs.map cutS := by rw [fewL, hix, List.take_length]
    rcases Nat.eq_zero_or_pos i with rfl | hpos
    · have hσ := fσ_zero e1 ⟨0, none, 25, [.v (.slice none 0 0), .v (.slice none 0 0)], .cells⟩ (.sl false 1 (u32Row (us.take 10))) xs
      have hlt0 : ¬ (0 : Int) < xs.length := hlt
      repeat' first | (with_reducible first | refine AWP_seq' ?_ | refine k_normal ?_ | refine k_ret ?_ | refine k_exit ?_ | refine b_normal ?_ | refine b_ret ?_ | refine b_exit ?_ | refine b_pass rfl ?_ | refine AWP_ret ?_ | refine AWP_skip ?_ | refine AWP_exit ?_ | refine AWP_block ?_) | ((with_reducible first | refine AWP_reg fun KC J hJ hKC => ?_ | refine AWP_regD rfl fun KC J hJ hKC => ?_); simp (maxSteps := 10000000) only [push_cast, seval, ↓reduceIte, hlt0, hσ]) | ((with_reducible refine And.intro ?_ ?_); · exact Sq) | ((first | with_reducible refine hJ _ _ ?_ | (with_reducible refine hJ _ _ ?_ ?_; · kernel_rfl)); clear hJ hKC KC J) | ((with_reducible refine AWP_condT ?_ ?_); · rfl) | ((with_reducible refine AWP_condF ?_ ?_); · rfl) | ((with_reducible refine ite_intro (fun hs => ?_) (fun hs => ?_)) <;> (try simp only [Bool.not_eq_true, Bool.not_eq_false, Bool.not_eq_true', Bool.not_eq_false', Decidable.not_not, decide_eq_true_eq, decide_eq_false_iff_not] at hs) <;> (try simp (maxSteps := 10000000) only [push_cast, seval, ↓reduceIte, hs, hlt0, hσ])) | (refine AWP_cond rfl (fun h => ?_) (fun h => ?_) <;> try simp only [decide_eq_true_eq, decide_eq_false_iff_not, Bool.not_eq_true', Bool.not_eq_false', beq_iff_eq, bne_iff_ne, ne_eq, Bool.not_eq_true, Bool.or_eq_true, Bool.and_eq_true, Bool.or_eq_false_iff, Bool.and_eq_false_imp, beq_eq_false_iff_ne, bne_eq_false_iff_eq] at h)
      refine ret_plain ?_
      simp (maxSteps := 10000000) only [push_cast, seval, ↓reduceIte, show Try.f83.results = #[(.cell 2 25)] from rfl]
      rw [← hfin]
      exact Lq
    · obtain ⟨i', hi'⟩ : ∃ i', i = i' + 1 := ⟨i - 1, by omega⟩
      have hσ := fσ_pos e1 ⟨0, none, 25, [.v (.slice none 0 0), .v (.slice none 0 0)], .cells⟩ (.sl false 1 (u32Row (us.take 10))) xs hi'
      have hbq : Nat.beq i' i' = true := Nat.beq_refl i'
      have hlS : (cellS (fewL xs i)).length = i := by simp [cellS, fewL_length hi]
      have hcS : chunk 1 i (cellS (fewL xs i)) = strRow (fewL xs i) := by
        have := chunk_one (fun s : ByteArray => (.v (.string s) : D)) (fewL xs i)
        rw [fewL_length hi] at this; exact this
      subst he1
      repeat' first | (with_reducible first | refine AWP_seq' ?_ | refine k_normal ?_ | refine k_ret ?_ | refine k_exit ?_ | refine b_normal ?_ | refine b_ret ?_ | refine b_exit ?_ | refine b_pass rfl ?_ | refine AWP_skip ?_ | refine AWP_exit ?_ | refine AWP_block ?_) | ((with_reducible first | refine AWP_reg fun KC J hJ hKC => ?_ | refine AWP_regD rfl fun KC J hJ hKC => ?_); simp (maxSteps := 10000000) only [push_cast, seval, ↓reduceIte, hlt, hσ]) | ((with_reducible refine And.intro ?_ ?_); · exact Sq) | ((first | with_reducible refine hJ _ _ ?_ | (with_reducible refine hJ _ _ ?_ ?_; · kernel_rfl)); clear hJ hKC KC J) | ((with_reducible refine AWP_condT ?_ ?_); · rfl) | ((with_reducible refine AWP_condF ?_ ?_); · rfl) | ((with_reducible refine ite_intro (fun hs => ?_) (fun hs => ?_)) <;> (try simp only [Bool.not_eq_true, Bool.not_eq_false, Bool.not_eq_true', Bool.not_eq_false', Decidable.not_not, decide_eq_true_eq, decide_eq_false_iff_not] at hs) <;> (try simp (maxSteps := 10000000) only [push_cast, seval, ↓reduceIte, hs, hlt, hσ])) | (refine AWP_cond rfl (fun h => ?_) (fun h => ?_) <;> try simp only [decide_eq_true_eq, decide_eq_false_iff_not, Bool.not_eq_true', Bool.not_eq_false', beq_iff_eq, bne_iff_ne, ne_eq, Bool.not_eq_true, Bool.or_eq_true, Bool.and_eq_true, Bool.or_eq_false_iff, Bool.and_eq_false_imp, beq_eq_false_iff_ne, bne_eq_false_iff_eq] at h)
      refine AWP_freeze 4 rfl (by simp (maxSteps := 10000000) only [push_cast, seval, ↓reduceIte]) ?_
      simp (maxSteps := 10000000) only [push_cast, seval, ↓reduceIte, frSt, frSlot, fr3, fr2, fr1, fr0, sameB, arrOf, hbq, hlS, hcS]
      refine AWP_ret ?_
      refine ret_plain ?_
      simp (maxSteps := 10000000) only [push_cast, seval, ↓reduceIte, show Try.f83.results = #[(.cell 2 25)] from rfl]
      rw [← hfin]
      exact Lq
/-- A state cut short. -/
def nsQ : List ByteArray := [{ data := #[97] }, { data := #[98] }]
@[reducible] def sp18 : Sp := ⟨4, 0, 0, 5, List.replicate 13 1⟩
theorem alive18_fn : Fn Try.prog 85 [] [] (.v (.bool true)) [] := by
  have hs : Szs nsQ := by
    intro s hs
    simp only [nsQ, List.mem_cons, List.not_mem_nil, or_false] at hs
    rcases hs with rfl | rfl <;> (show 1 ≤ _; omega)
  have hu : U32 [3, 2] := by
    intro u hu
    simp at hu
    rcases hu with rfl | rfl <;> decide
  have h1 := (seqState_fn true true nsQ [3, 2] sp18 ⟨[1, 6, 2], 0, []⟩ hs hu (by simp)).pre (args := [.agg [.sl true 1 (strRow nsQ), .sl true 1 (u32Row [3, 2])], .agg (spF true sp18), encDr true false ⟨[1, 6, 2], 0, []⟩])
    (.cons (.refl _) (.cons (.agg (.cons (.refl _) (.cons (.refl _) (.cons (.refl _) (.cons (.refl _) (.cons (.full _ _) .nil)))))) (.cons (.agg (.cons (.full _ _) (.cons (.refl _) (.cons (.refl _) .nil)))) .nil)))
  rw [show seqF nsQ [3, 2] sp18 ⟨[1, 6, 2], 0, []⟩ = (⟨[1, 6, 2], 3, [1, 6, 2, 0, 0, 0, 0, 0, 0]⟩, ⟨0, 0, [(1, -1, 0), (11, 0, 0)], [], [], []⟩, 0) by kernel_rfl] at h1
  simp only [spF, sp18, encDr, staF] at h1
  have h2 := drNew_fn true [1, 6, 2]
  refine Fn.of (fn := Try.f85) (by kernel_rfl) rfl (by kernel_rfl) ⟨[.v undef, .v undef, .v undef, .v undef, .v undef, .v undef, .v undef, .v undef, .v undef, .v undef, .v undef, .v undef, .v undef, .v undef, .v undef, .v undef, .v undef, .v undef, .v undef, .v undef, .v undef, .v undef, .v undef, .v undef, .v undef, .v undef, .v undef, .v undef, .v undef, .v undef, .v undef, .v undef, .v undef, .v undef, .v undef, .v undef, .v undef, .v undef, .v undef, .v undef, .v undef, .v undef, .v undef, .v undef], []⟩ rfl ?_
  repeat' first | (with_reducible first | refine AWP_seq' ?_ | refine k_normal ?_ | refine k_ret ?_ | refine k_exit ?_ | refine b_normal ?_ | refine b_ret ?_ | refine b_exit ?_ | refine b_pass rfl ?_ | refine AWP_ret ?_ | refine AWP_skip ?_ | refine AWP_exit ?_ | refine AWP_block ?_) | ((with_reducible first | refine AWP_reg fun KC J hJ hKC => ?_ | refine AWP_regD rfl fun KC J hJ hKC => ?_); simp (maxSteps := 10000000) only [push_cast, seval, ↓reduceIte, getE_t (l := [(1, -1, 0), (11, 0, 0)]) (n := 0) rfl, getE_t (l := [(1, -1, 0), (11, 0, 0)]) (n := 1) rfl]) | ((with_reducible refine And.intro ?_ ?_); · exact Sq) | (refine hKC _ _ _ _ _ (callV0 (h1) rfl rfl rfl ?_ ?_); (· exact Lq); simp (maxSteps := 10000000) only [push_cast, seval, ↓reduceIte, getE_t (l := [(1, -1, 0), (11, 0, 0)]) (n := 0) rfl, getE_t (l := [(1, -1, 0), (11, 0, 0)]) (n := 1) rfl]) | (refine hKC _ _ _ _ _ (callV0 (h2) rfl rfl rfl ?_ ?_); (· exact Lq); simp (maxSteps := 10000000) only [push_cast, seval, ↓reduceIte, getE_t (l := [(1, -1, 0), (11, 0, 0)]) (n := 0) rfl, getE_t (l := [(1, -1, 0), (11, 0, 0)]) (n := 1) rfl]) | ((first | with_reducible refine hJ _ _ ?_ | (with_reducible refine hJ _ _ ?_ ?_; · kernel_rfl)); clear hJ hKC KC J) | ((with_reducible refine AWP_condT ?_ ?_); · rfl) | ((with_reducible refine AWP_condF ?_ ?_); · rfl) | ((with_reducible refine ite_intro (fun hs => ?_) (fun hs => ?_)) <;> (try simp only [Bool.not_eq_true, Bool.not_eq_false, Bool.not_eq_true', Bool.not_eq_false', Decidable.not_not, decide_eq_true_eq, decide_eq_false_iff_not] at hs) <;> (try simp (maxSteps := 10000000) only [push_cast, seval, ↓reduceIte, hs, getE_t (l := [(1, -1, 0), (11, 0, 0)]) (n := 0) rfl, getE_t (l := [(1, -1, 0), (11, 0, 0)]) (n := 1) rfl])) | (refine AWP_cond rfl (fun h => ?_) (fun h => ?_) <;> try simp only [decide_eq_true_eq, decide_eq_false_iff_not, Bool.not_eq_true', Bool.not_eq_false', beq_iff_eq, bne_iff_ne, ne_eq, Bool.not_eq_true, Bool.or_eq_true, Bool.and_eq_true, Bool.or_eq_false_iff, Bool.and_eq_false_imp, beq_eq_false_iff_ne, bne_eq_false_iff_eq] at h)
  refine ret_plain ?_
  simp (maxSteps := 10000000) only [push_cast, seval, ↓reduceIte, show Try.f85.results = #[(.tmp 0)] from rfl]
  exact Lq
theorem hasB_sml8 {n : Nat} {sp : Sp} {s : Sta} (h : hasB n sp s = true) : Sml15 s := by
  simp only [hasB, staB, codeB, Bool.and_eq_true, decide_eq_true_eq] at h
  obtain ⟨⟨⟨_, h1⟩, _, _, _, h2, _, h3, _, h4⟩, _⟩ := h
  exact ⟨by omega, by omega, by omega, by omega⟩
theorem seqF_cases (ns : List ByteArray) (us : List Nat) (sp : Sp) (l : List Int) (hl : l.length ≤ 500) : (∃ e, e ≠ 0 ∧ seqF ns us sp ⟨l, 0, []⟩ = (Dr.z, Sta.z, e)) ∨
    ∃ d s, seqF ns us sp ⟨l, 0, []⟩ = (d, s, 0) ∧ hasF ns us sp s = true ∧ mayG ns us sp = 0 ∧ d.g.length ≤ 174 ∧ d.l.length ≤ 500 ∧ seqF ns us sp ⟨d.g, 0, []⟩ = (⟨d.g, (d.g.length : Int), d.g⟩, s, 0) ∧ Sml15 s ∧ (Pos sp → Tail (s.code.map (·.1))) := by
  have hr : ∀ l : List Int, l.length ≤ 500 → rightB l [] 0 = true := fun l h => by simp [rightB]; omega
  by_cases hm : mayG ns us sp = 0
  · have hsp := (mayG_sp hm).2
    have hg : ∀ l : List Int, l.length ≤ 500 → seqF ns us sp ⟨l, 0, []⟩ = endF Sta.z ((seqC us.length sp).run ⟨l, 0, []⟩) := fun l h => by unfold seqF; rw [if_pos hm, if_pos (hr l h)]
    have hnz : ∀ e, (seqC us.length sp).run ⟨l, 0, []⟩ = .error e → e ≠ 0 := fun e he => by
      unfold seqC at he
      rw [Cp.run_bind] at he
      have hi := (is_program us.length sp).1 ⟨l, 0, []⟩ 0
      cases hp : (programC us.length sp).run ⟨l, 0, []⟩ with
      | error e2 => rw [hp] at he hi; cases he; exact hi.1
      | ok x =>
        obtain ⟨d1, c⟩ := x
        rw [hp] at he
        simp only [Cp.run_bind] at he
        have hj := (is_gen us.length (sp0 sp)).1 d1 0
        cases hq : (genC us.length (sp0 sp)).run d1 with
        | error e2 => rw [hq] at he hj; cases he; exact hj.1
        | ok y => rw [hq] at he; cases he
    cases hrun : (seqC us.length sp).run ⟨l, 0, []⟩ with
    | error e => exact .inl ⟨e, hnz e hrun, by rw [hg l hl, hrun]; rfl⟩
    | ok x =>
      obtain ⟨d, s⟩ := x
      obtain ⟨g1, g2, g3⟩ := run_again (deep_seq hsp) (by omega) hrun
      obtain ⟨_, _, _, g4⟩ := Cp.run_path _ hrun
      have ha := Cp.all_path _ (seqC_all hsp) g1
      refine .inr ⟨d, s, by rw [hg l hl, hrun]; rfl, by unfold hasF; rw [ha.1, decide_eq_true hm]; rfl, hm, g2, by rw [g4]; exact hl, by rw [hg _ (by omega), g3]; rfl, hasB_sml8 ha.1, ha.2⟩
  · exact .inl ⟨mayG ns us sp, hm, by unfold seqF; rw [if_neg hm]⟩
def spCut8 (sp : Sp) : Sp := { sp with ws := sp.ws.take 16 }
theorem seqStays_fn (f g fl : Bool) (ns : List ByteArray) (us : List Nat) (sp : Sp) (l : List Int) (hu0 : U32 us) :
    Fn Try.prog 17 [.agg [.sl f 1 (strRow ns), .sl g 1 (u32Row us)], .agg (spF false sp), .sl false 1 (intRow l)] [] (.v (.bool true)) [] := by
  have hs := szs_few ns
  have hu := u32_few hu0
  have h1 := few18_fn f g ns us
  obtain ⟨xs, hxs⟩ : ∃ xs, (ns.take 10).map cutS = xs := ⟨_, rfl⟩
  obtain ⟨ys, hys⟩ : ∃ xs, us.take 10 = xs := ⟨_, rfl⟩
  rw [hxs] at hs h1
  rw [hys] at hu h1
  obtain ⟨q, hq⟩ : ∃ q, spCut8 sp = q := ⟨_, rfl⟩
  have hqw : q.ws.length ≤ 1000 := by rw [← hq]; simp [spCut8]; omega
  have q1 : sp.code = q.code := by rw [← hq]; rfl
  have q2 : sp.mem = q.mem := by rw [← hq]; rfl
  have q3 : sp.stack = q.stack := by rw [← hq]; rfl
  have q4 : sp.val = q.val := by rw [← hq]; rfl
  have q5 : sp.ws.take 16 = q.ws := by rw [← hq]; rfl
  obtain ⟨L, hL⟩ : ∃ L, l.take 500 = L := ⟨_, rfl⟩
  have hLl : L.length ≤ 500 := by rw [← hL]; simp; omega
  have n1 := drNew_fn false L
  have h3 := seqState_fn false false xs ys q ⟨L, 0, []⟩ hs hu hqw
  have h6 := alive18_fn
  rcases seqF_cases xs ys q L hLl with ⟨e, he, hg⟩ | ⟨d, s, hg, hh, hm, hdl, hdl2, hg2, sm, hT⟩
  · have he' : (e != 0) = true := by simpa using he
    simp only [hg, Dr.z, Sta.z, staF, encDr, spF] at h3
    simp only [spF]
    refine Fn.of (fn := Try.f17) (by kernel_rfl) rfl (by kernel_rfl) ⟨[.agg [.sl f 1 (strRow ns), .sl g 1 (u32Row us)], .agg [.v (.int .i64 sp.code), .v (.int .i64 sp.mem), .v (.int .i64 sp.stack), .v (.int .i64 sp.val), .sl false 1 (intRow sp.ws)], .sl false 1 (intRow l), .v undef, .v undef, .v undef, .v undef, .v undef, .v undef, .v undef, .v undef, .v undef, .v undef, .v undef, .v undef, .v undef, .v undef, .v undef, .v undef, .v undef, .v undef, .v undef, .v undef, .v undef, .v undef, .v undef, .v undef, .v undef, .v undef, .v undef, .v undef, .v undef, .v undef, .v undef, .v undef, .v undef, .v undef, .v undef, .v undef, .v undef, .v undef, .v undef, .v undef, .v undef, .v undef, .v undef, .v undef, .v undef, .v undef, .v undef, .v undef, .v undef, .v undef, .v undef, .v undef, .v undef, .v undef, .v undef, .v undef, .v undef, .v undef, .v undef, .v undef, .v undef, .v undef, .v undef, .v undef, .v undef, .v undef, .v undef, .v undef, .v undef, .v undef, .v undef, .v undef, .v undef, .v undef, .v undef, .v undef, .v undef, .v undef, .v undef, .v undef, .v undef, .v undef, .v undef, .v undef, .v undef, .v undef, .v undef, .v undef, .v undef, .v undef, .v undef, .v undef, .v undef, .v undef, .v undef, .v undef, .v undef, .v undef, .v undef, .v undef, .v undef, .v undef, .v undef, .v undef, .v undef, .v undef], []⟩ rfl ?_
    repeat' first | (with_reducible first | refine AWP_seq' ?_ | refine k_normal ?_ | refine k_ret ?_ | refine k_exit ?_ | refine b_normal ?_ | refine b_ret ?_ | refine b_exit ?_ | refine b_pass rfl ?_ | refine AWP_ret ?_ | refine AWP_skip ?_ | refine AWP_exit ?_ | refine AWP_block ?_) | ((with_reducible first | refine AWP_reg fun KC J hJ hKC => ?_ | refine AWP_regD rfl fun KC J hJ hKC => ?_); simp (maxSteps := 10000000) only [push_cast, seval, ↓reduceIte, q1, q2, q3, q4, q5, take_minL (K := 16) (k := 16) rfl sp.ws, take_minL (K := 500) (k := 500) rfl l, hL, he', undef, beq_self_eq_true]) | ((with_reducible refine And.intro ?_ ?_); · exact Sq) | (refine hKC _ _ _ _ _ (callV0 (h1) rfl rfl rfl ?_ ?_); (· exact Lq); simp (maxSteps := 10000000) only [push_cast, seval, ↓reduceIte, q1, q2, q3, q4, q5, take_minL (K := 16) (k := 16) rfl sp.ws, take_minL (K := 500) (k := 500) rfl l, hL, he', undef, beq_self_eq_true]) | (refine hKC _ _ _ _ _ (callV0 (h3) rfl rfl rfl ?_ ?_); (· exact Lq); simp (maxSteps := 10000000) only [push_cast, seval, ↓reduceIte, q1, q2, q3, q4, q5, take_minL (K := 16) (k := 16) rfl sp.ws, take_minL (K := 500) (k := 500) rfl l, hL, he', undef, beq_self_eq_true]) | (refine hKC _ _ _ _ _ (callV0 (h6) rfl rfl rfl ?_ ?_); (· exact Lq); simp (maxSteps := 10000000) only [push_cast, seval, ↓reduceIte, q1, q2, q3, q4, q5, take_minL (K := 16) (k := 16) rfl sp.ws, take_minL (K := 500) (k := 500) rfl l, hL, he', undef, beq_self_eq_true]) | (refine hKC _ _ _ _ _ (callV0 (n1) rfl rfl rfl ?_ ?_); (· exact Lq); simp (maxSteps := 10000000) only [push_cast, seval, ↓reduceIte, q1, q2, q3, q4, q5, take_minL (K := 16) (k := 16) rfl sp.ws, take_minL (K := 500) (k := 500) rfl l, hL, he', undef, beq_self_eq_true]) | ((first | with_reducible refine hJ _ _ ?_ | (with_reducible refine hJ _ _ ?_ ?_; · kernel_rfl)); clear hJ hKC KC J) | ((with_reducible refine AWP_condT ?_ ?_); · rfl) | ((with_reducible refine AWP_condF ?_ ?_); · rfl) | ((with_reducible refine ite_intro (fun hs => ?_) (fun hs => ?_)) <;> (try simp only [Bool.not_eq_true, Bool.not_eq_false, Bool.not_eq_true', Bool.not_eq_false', Decidable.not_not, decide_eq_true_eq, decide_eq_false_iff_not] at hs) <;> (try simp (maxSteps := 10000000) only [push_cast, seval, ↓reduceIte, hs, q1, q2, q3, q4, q5, take_minL (K := 16) (k := 16) rfl sp.ws, take_minL (K := 500) (k := 500) rfl l, hL, he', undef, beq_self_eq_true])) | (refine AWP_cond rfl (fun h => ?_) (fun h => ?_) <;> try simp only [decide_eq_true_eq, decide_eq_false_iff_not, Bool.not_eq_true', Bool.not_eq_false', beq_iff_eq, bne_iff_ne, ne_eq, Bool.not_eq_true, Bool.or_eq_true, Bool.and_eq_true, Bool.or_eq_false_iff, Bool.and_eq_false_imp, beq_eq_false_iff_ne, bne_eq_false_iff_eq] at h)
    refine ret_plain ?_
    simp (maxSteps := 10000000) only [push_cast, seval, ↓reduceIte, show Try.f17.results = #[(.tmp 6)] from rfl]
    exact Lq
  rw [hg] at h3
  have n2 := drNew_fn false d.g
  have h4 := genHas_fn false false false xs ys q s hs hu hqw sm.sml
  have h5 := seqState_fn false false xs ys q ⟨d.g, 0, []⟩ hs hu hqw
  rw [hg2] at h5
  rw [hh, hm] at h4
  have z1 := rSame9_fn s s sm sm
  have z2 := rInts_fn false false d.g d.g (by omega)
  rw [show sameT s s = true from sameT_iff.2 rfl] at z1
  rw [decide_eq_true rfl] at z2
  have tt := templates_fn
  have hsc := sm.code
  simp only [staF, encDr, spF] at h3 h4 h5 z1 ⊢
  refine Fn.of (fn := Try.f17) (by kernel_rfl) rfl (by kernel_rfl) ⟨[.agg [.sl f 1 (strRow ns), .sl g 1 (u32Row us)], .agg [.v (.int .i64 sp.code), .v (.int .i64 sp.mem), .v (.int .i64 sp.stack), .v (.int .i64 sp.val), .sl false 1 (intRow sp.ws)], .sl false 1 (intRow l), .v undef, .v undef, .v undef, .v undef, .v undef, .v undef, .v undef, .v undef, .v undef, .v undef, .v undef, .v undef, .v undef, .v undef, .v undef, .v undef, .v undef, .v undef, .v undef, .v undef, .v undef, .v undef, .v undef, .v undef, .v undef, .v undef, .v undef, .v undef, .v undef, .v undef, .v undef, .v undef, .v undef, .v undef, .v undef, .v undef, .v undef, .v undef, .v undef, .v undef, .v undef, .v undef, .v undef, .v undef, .v undef, .v undef, .v undef, .v undef, .v undef, .v undef, .v undef, .v undef, .v undef, .v undef, .v undef, .v undef, .v undef, .v undef, .v undef, .v undef, .v undef, .v undef, .v undef, .v undef, .v undef, .v undef, .v undef, .v undef, .v undef, .v undef, .v undef, .v undef, .v undef, .v undef, .v undef, .v undef, .v undef, .v undef, .v undef, .v undef, .v undef, .v undef, .v undef, .v undef, .v undef, .v undef, .v undef, .v undef, .v undef, .v undef, .v undef, .v undef, .v undef, .v undef, .v undef, .v undef, .v undef, .v undef, .v undef, .v undef, .v undef, .v undef, .v undef, .v undef, .v undef, .v undef], []⟩ rfl ?_
  repeat' first | (with_reducible first | refine AWP_seq' ?_ | refine k_normal ?_ | refine k_ret ?_ | refine k_exit ?_ | refine b_normal ?_ | refine b_ret ?_ | refine b_exit ?_ | refine b_pass rfl ?_ | refine AWP_ret ?_ | refine AWP_skip ?_ | refine AWP_exit ?_ | refine AWP_block ?_) | ((with_reducible first | refine AWP_reg fun KC J hJ hKC => ?_ | refine AWP_regD rfl fun KC J hJ hKC => ?_); simp (maxSteps := 10000000) only [push_cast, seval, ↓reduceIte, q1, q2, q3, q4, q5, take_minL (K := 16) (k := 16) rfl sp.ws, take_minL (K := 500) (k := 500) rfl l, hL, undef, beq_self_eq_true, bne_self_eq_false]) | ((with_reducible refine And.intro ?_ ?_); · exact Sq) | (refine hKC _ _ _ _ _ (callV0 (h1) rfl rfl rfl ?_ ?_); (· exact Lq); simp (maxSteps := 10000000) only [push_cast, seval, ↓reduceIte, q1, q2, q3, q4, q5, take_minL (K := 16) (k := 16) rfl sp.ws, take_minL (K := 500) (k := 500) rfl l, hL, undef, beq_self_eq_true, bne_self_eq_false]) | (refine hKC _ _ _ _ _ (callV0 (h3) rfl rfl rfl ?_ ?_); (· exact Lq); simp (maxSteps := 10000000) only [push_cast, seval, ↓reduceIte, q1, q2, q3, q4, q5, take_minL (K := 16) (k := 16) rfl sp.ws, take_minL (K := 500) (k := 500) rfl l, hL, undef, beq_self_eq_true, bne_self_eq_false]) | (refine hKC _ _ _ _ _ (callV0 (h4) rfl rfl rfl ?_ ?_); (· exact Lq); simp (maxSteps := 10000000) only [push_cast, seval, ↓reduceIte, q1, q2, q3, q4, q5, take_minL (K := 16) (k := 16) rfl sp.ws, take_minL (K := 500) (k := 500) rfl l, hL, undef, beq_self_eq_true, bne_self_eq_false]) | (refine hKC _ _ _ _ _ (callV0 (h5) rfl rfl rfl ?_ ?_); (· exact Lq); simp (maxSteps := 10000000) only [push_cast, seval, ↓reduceIte, q1, q2, q3, q4, q5, take_minL (K := 16) (k := 16) rfl sp.ws, take_minL (K := 500) (k := 500) rfl l, hL, undef, beq_self_eq_true, bne_self_eq_false]) | (refine hKC _ _ _ _ _ (callV0 (h6) rfl rfl rfl ?_ ?_); (· exact Lq); simp (maxSteps := 10000000) only [push_cast, seval, ↓reduceIte, q1, q2, q3, q4, q5, take_minL (K := 16) (k := 16) rfl sp.ws, take_minL (K := 500) (k := 500) rfl l, hL, undef, beq_self_eq_true, bne_self_eq_false]) | (refine hKC _ _ _ _ _ (callV0 (n1) rfl rfl rfl ?_ ?_); (· exact Lq); simp (maxSteps := 10000000) only [push_cast, seval, ↓reduceIte, q1, q2, q3, q4, q5, take_minL (K := 16) (k := 16) rfl sp.ws, take_minL (K := 500) (k := 500) rfl l, hL, undef, beq_self_eq_true, bne_self_eq_false]) | (refine hKC _ _ _ _ _ (callV0 (n2) rfl rfl rfl ?_ ?_); (· exact Lq); simp (maxSteps := 10000000) only [push_cast, seval, ↓reduceIte, q1, q2, q3, q4, q5, take_minL (K := 16) (k := 16) rfl sp.ws, take_minL (K := 500) (k := 500) rfl l, hL, undef, beq_self_eq_true, bne_self_eq_false]) | (refine hKC _ _ _ _ _ (callV0 (z1) rfl rfl rfl ?_ ?_); (· exact Lq); simp (maxSteps := 10000000) only [push_cast, seval, ↓reduceIte, q1, q2, q3, q4, q5, take_minL (K := 16) (k := 16) rfl sp.ws, take_minL (K := 500) (k := 500) rfl l, hL, undef, beq_self_eq_true, bne_self_eq_false]) | (refine hKC _ _ _ _ _ (callV0 (z2) rfl rfl rfl ?_ ?_); (· exact Lq); simp (maxSteps := 10000000) only [push_cast, seval, ↓reduceIte, q1, q2, q3, q4, q5, take_minL (K := 16) (k := 16) rfl sp.ws, take_minL (K := 500) (k := 500) rfl l, hL, undef, beq_self_eq_true, bne_self_eq_false]) | ((first | with_reducible refine hJ _ _ ?_ | (with_reducible refine hJ _ _ ?_ ?_; · kernel_rfl)); clear hJ hKC KC J) | ((with_reducible refine AWP_condT ?_ ?_); · rfl) | ((with_reducible refine AWP_condF ?_ ?_); · rfl) | ((with_reducible refine ite_intro (fun hs => ?_) (fun hs => ?_)) <;> (try simp only [Bool.not_eq_true, Bool.not_eq_false, Bool.not_eq_true', Bool.not_eq_false', Decidable.not_not, decide_eq_true_eq, decide_eq_false_iff_not] at hs) <;> (try simp (maxSteps := 10000000) only [push_cast, seval, ↓reduceIte, hs, q1, q2, q3, q4, q5, take_minL (K := 16) (k := 16) rfl sp.ws, take_minL (K := 500) (k := 500) rfl l, hL, undef, beq_self_eq_true, bne_self_eq_false])) | (refine AWP_cond rfl (fun h => ?_) (fun h => ?_) <;> try simp only [decide_eq_true_eq, decide_eq_false_iff_not, Bool.not_eq_true', Bool.not_eq_false', beq_iff_eq, bne_iff_ne, ne_eq, Bool.not_eq_true, Bool.or_eq_true, Bool.and_eq_true, Bool.or_eq_false_iff, Bool.and_eq_false_imp, beq_eq_false_iff_ne, bne_eq_false_iff_eq] at h)
  refine AWP_loopF (γ := {i : Nat // i ≤ q.ws.length ∧ ∀ (j : Nat) (w : Int), j < i → q.ws[j]? = some w → w ≠ 0}) (fun i => ⟨[.any, .any, .any, .any, .any, .any, .any, .any, .ptr 6 0 0, .any, .any, .any, .any, .any, .any, .any, .any, .any, .any, .any, .any, .any, .any, .any, .any, .any, .any, .any, .any, .any, .any, .any, .any, .any, .any, .any, .any, .any, .any, .any, .any, .any, .any, .any, .any, .any, .any, .any, .any, .any, .any, .any, .any, .any, .any, .any, .any, .any, .any, .any, .any, .any, .any, .any, .any, .any, .any, .any, .any, .any, .any, .any, .any, .any, .any, .any, .any, .any, .any, .any, .any, .any, .any, .any, .any, .any, .any, .any, .any, .any, .any, .any, .any, .any, .any, .any, .sl false 1 (intRow q.ws), .v (.int .i64 q.ws.length), .v (.int .i64 i.1), .any, .any, .any, .any, .any, .any, .any, .any, .any, .any], [.ent ⟨0, none, 25, [.sl false 1 (strRow xs), .sl false 1 (u32Row ys)], .cells⟩, .ent ⟨0, none, 98, [.v (.int .i64 q.code), .v (.int .i64 q.mem), .v (.int .i64 q.stack), .v (.int .i64 q.val), .sl false 1 (intRow q.ws)], .cells⟩, .free, .free, .free, .ent ⟨0, none, 40, [.sl false 1 (intRow d.l), .v (.int .i64 d.a), .sl false 1 (intRow d.g)], .cells⟩, .ent ⟨0, none, 84, [.v (.int .i64 s.v), .v (.int .i64 s.l), .sl false 3 (tRow s.code), .sl false 2 (pRow s.mem), .sl false 3 (sRow s.stack), .sl false 2 (pRow s.out)], .cells⟩, .free, .free, .free, .ent ⟨0, none, 40, [.sl false 1 (intRow d.g), .v (.int .i64 d.g.length), .sl false 1 (intRow d.g)], .cells⟩, .ent ⟨0, none, 84, [.v (.int .i64 s.v), .v (.int .i64 s.l), .sl false 3 (tRow s.code), .sl false 2 (pRow s.mem), .sl false 3 (sRow s.stack), .sl false 2 (pRow s.out)], .cells⟩]⟩) (fun i => q.ws.length - i.1) ⟨0, by simp⟩ ⟨?_, Fq⟩ ?_
  · exact Lq
  rintro ⟨i, hi, hn⟩
  by_cases hlt : (i : Int) < (q.ws.length : Int)
  · have hx : q.ws[i]? = some q.ws[i] := List.getElem?_eq_getElem (by omega)
    obtain ⟨w, hw⟩ : ∃ w, q.ws[i] = w := ⟨_, rfl⟩
    rw [hw] at hx
    obtain ⟨b, hb⟩ : ∃ b, (w == 0) = b := ⟨_, rfl⟩
    cases b
    case true =>
      repeat' first | (with_reducible first | refine AWP_seq' ?_ | refine k_normal ?_ | refine k_ret ?_ | refine k_exit ?_ | refine b_normal ?_ | refine b_ret ?_ | refine b_exit ?_ | refine b_pass rfl ?_ | refine AWP_ret ?_ | refine AWP_skip ?_ | refine AWP_exit ?_ | refine AWP_block ?_) | ((with_reducible first | refine AWP_reg fun KC J hJ hKC => ?_ | refine AWP_regD rfl fun KC J hJ hKC => ?_); simp (maxSteps := 10000000) only [push_cast, seval, ↓reduceIte, hlt, getE_intRow hx, hb]) | ((with_reducible refine And.intro ?_ ?_); · exact Sq) | ((first | with_reducible refine hJ _ _ ?_ | (with_reducible refine hJ _ _ ?_ ?_; · kernel_rfl)); clear hJ hKC KC J) | ((with_reducible refine AWP_condT ?_ ?_); · rfl) | ((with_reducible refine AWP_condF ?_ ?_); · rfl) | ((with_reducible refine ite_intro (fun hs => ?_) (fun hs => ?_)) <;> (try simp only [Bool.not_eq_true, Bool.not_eq_false, Bool.not_eq_true', Bool.not_eq_false', Decidable.not_not, decide_eq_true_eq, decide_eq_false_iff_not] at hs) <;> (try simp (maxSteps := 10000000) only [push_cast, seval, ↓reduceIte, hs, hlt, getE_intRow hx, hb])) | (refine AWP_cond rfl (fun h => ?_) (fun h => ?_) <;> try simp only [decide_eq_true_eq, decide_eq_false_iff_not, Bool.not_eq_true', Bool.not_eq_false', beq_iff_eq, bne_iff_ne, ne_eq, Bool.not_eq_true, Bool.or_eq_true, Bool.and_eq_true, Bool.or_eq_false_iff, Bool.and_eq_false_imp, beq_eq_false_iff_ne, bne_eq_false_iff_eq] at h)
      refine ret_plain ?_
      simp (maxSteps := 10000000) only [push_cast, seval, ↓reduceIte, show Try.f17.results = #[(.tmp 6)] from rfl]
      exact Lq
    repeat' first | (with_reducible first | refine AWP_seq' ?_ | refine k_normal ?_ | refine k_ret ?_ | refine k_exit ?_ | refine b_normal ?_ | refine b_ret ?_ | refine b_exit ?_ | refine b_pass rfl ?_ | refine AWP_ret ?_ | refine AWP_skip ?_ | refine AWP_exit ?_ | refine AWP_block ?_) | ((with_reducible first | refine AWP_reg fun KC J hJ hKC => ?_ | refine AWP_regD rfl fun KC J hJ hKC => ?_); simp (maxSteps := 10000000) only [push_cast, seval, ↓reduceIte, hlt, getE_intRow hx, hb, wrapN (i := i) (n := q.ws.length) (by omega) (by omega)]) | ((with_reducible refine And.intro ?_ ?_); · exact Sq) | ((first | with_reducible refine hJ _ _ ?_ | (with_reducible refine hJ _ _ ?_ ?_; · kernel_rfl)); clear hJ hKC KC J) | ((with_reducible refine AWP_condT ?_ ?_); · rfl) | ((with_reducible refine AWP_condF ?_ ?_); · rfl) | ((with_reducible refine ite_intro (fun hs => ?_) (fun hs => ?_)) <;> (try simp only [Bool.not_eq_true, Bool.not_eq_false, Bool.not_eq_true', Bool.not_eq_false', Decidable.not_not, decide_eq_true_eq, decide_eq_false_iff_not] at hs) <;> (try simp (maxSteps := 10000000) only [push_cast, seval, ↓reduceIte, hs, hlt, getE_intRow hx, hb, wrapN (i := i) (n := q.ws.length) (by omega) (by omega)])) | (refine AWP_cond rfl (fun h => ?_) (fun h => ?_) <;> try simp only [decide_eq_true_eq, decide_eq_false_iff_not, Bool.not_eq_true', Bool.not_eq_false', beq_iff_eq, bne_iff_ne, ne_eq, Bool.not_eq_true, Bool.or_eq_true, Bool.and_eq_true, Bool.or_eq_false_iff, Bool.and_eq_false_imp, beq_eq_false_iff_ne, bne_eq_false_iff_eq] at h)
    refine ⟨⟨i + 1, by omega, fun j v hj hv => ?_⟩, by simp only; omega, ?_, Fq⟩
    · by_cases hji : j = i
      · subst hji; rw [hx] at hv; cases hv; simpa using hb
      · exact hn j v (by omega) hv
    · exact Lq
  have hin : i = q.ws.length := by omega
  subst hin
  have hpos : Pos q := fun w hw => by
    obtain ⟨j, hj⟩ := List.mem_iff_getElem?.1 hw
    exact hn j w (List.getElem?_eq_some_iff.1 hj).1 hj
  have hwh := whole_fn false s.code (by omega) (hT hpos)
  repeat' first | (with_reducible first | refine AWP_seq' ?_ | refine k_normal ?_ | refine k_ret ?_ | refine k_exit ?_ | refine b_normal ?_ | refine b_ret ?_ | refine b_exit ?_ | refine b_pass rfl ?_ | refine AWP_ret ?_ | refine AWP_skip ?_ | refine AWP_exit ?_ | refine AWP_block ?_) | ((with_reducible first | refine AWP_reg fun KC J hJ hKC => ?_ | refine AWP_regD rfl fun KC J hJ hKC => ?_); simp (maxSteps := 10000000) only [push_cast, seval, ↓reduceIte, hlt]) | ((with_reducible refine And.intro ?_ ?_); · exact Sq) | (refine hKC _ _ _ _ _ (callV0 (hwh) rfl rfl rfl ?_ ?_); (· exact Lq); simp (maxSteps := 10000000) only [push_cast, seval, ↓reduceIte, hlt]) | (refine hKC _ _ _ _ _ (callV0 (tt) rfl rfl rfl ?_ ?_); (· exact Lq); simp (maxSteps := 10000000) only [push_cast, seval, ↓reduceIte, hlt]) | ((first | with_reducible refine hJ _ _ ?_ | (with_reducible refine hJ _ _ ?_ ?_; · kernel_rfl)); clear hJ hKC KC J) | ((with_reducible refine AWP_condT ?_ ?_); · rfl) | ((with_reducible refine AWP_condF ?_ ?_); · rfl) | ((with_reducible refine ite_intro (fun hs => ?_) (fun hs => ?_)) <;> (try simp only [Bool.not_eq_true, Bool.not_eq_false, Bool.not_eq_true', Bool.not_eq_false', Decidable.not_not, decide_eq_true_eq, decide_eq_false_iff_not] at hs) <;> (try simp (maxSteps := 10000000) only [push_cast, seval, ↓reduceIte, hs, hlt])) | (refine AWP_cond rfl (fun h => ?_) (fun h => ?_) <;> try simp only [decide_eq_true_eq, decide_eq_false_iff_not, Bool.not_eq_true', Bool.not_eq_false', beq_iff_eq, bne_iff_ne, ne_eq, Bool.not_eq_true, Bool.or_eq_true, Bool.and_eq_true, Bool.or_eq_false_iff, Bool.and_eq_false_imp, beq_eq_false_iff_ne, bne_eq_false_iff_eq] at h)
  refine ret_plain ?_
  simp (maxSteps := 10000000) only [push_cast, seval, ↓reduceIte, show Try.f17.results = #[(.tmp 6)] from rfl]
  exact Lq
end Go.Proofs.Ytabliglgeiajlaa.AM
