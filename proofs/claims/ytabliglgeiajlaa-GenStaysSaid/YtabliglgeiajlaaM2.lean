/- GenStays. -/
import Derived.Test.YtabliglgeiajlaaL15
import Derived.Test.YtabliglgeiajlaaHH
set_option linter.unusedSimpArgs false
set_option linter.unusedVariables false
namespace Go.Proofs.Ytabliglgeiajlaa.AM
open Go Go.RowKit Go.Proofs
set_option maxRecDepth 100000
set_option maxHeartbeats 4000000

theorem genF_cases (ns : List ByteArray) (us : List Nat) (sp : Sp) (l : List Int) (hl : l.length ≤ 500) : (∃ e, e ≠ 0 ∧ genF ns us sp ⟨l, 0, []⟩ = (Dr.z, Sta.z, e)) ∨
    ∃ d s dn, genF ns us sp ⟨l, 0, []⟩ = (d, s, 0) ∧ hasF ns us sp s = true ∧ mayG ns us sp = 0 ∧ d.g.length ≤ 89 ∧ genF ns us sp ⟨d.g, 0, []⟩ = (⟨d.g, (d.g.length : Int), d.g⟩, s, 0) ∧ genF ns us sp ⟨[], 0, []⟩ = (dn, Sta.z, 0) ∧ dn.l.length ≤ 500 ∧ dn.g.length ≤ 500 := by
  have hr : ∀ l : List Int, l.length ≤ 500 → rightB l [] 0 = true := fun l h => by simp [rightB]; omega
  by_cases hm : mayG ns us sp = 0
  · have hsp := (mayG_ok hm).2
    have hg : ∀ l : List Int, l.length ≤ 500 → genF ns us sp ⟨l, 0, []⟩ = endF Sta.z ((genC us.length sp).run ⟨l, 0, []⟩) := fun l h => by unfold genF; rw [if_pos hm, if_pos (hr l h)]
    rcases run_gen hsp (n := us.length) ⟨l, 0, []⟩ with ⟨e, he, hrun⟩ | ⟨d', s, cs, hrun, hb, hp, h1, h2, h3⟩
    · exact .inl ⟨e, he, by rw [hg l hl, hrun]; rfl⟩
    · obtain ⟨_, g2, g3⟩ := run_again (deep_gen hsp) (by omega) hrun
      obtain ⟨dn, gn⟩ := gen_none hsp (us_of_may (mayG_ok hm).1).1
      obtain ⟨cn, n1, n2, n3⟩ := Cp.run_path _ gn
      have n4 := Cp.path_deep _ (deep_gen hsp) n1
      refine .inr ⟨d', s, dn, by rw [hg l hl, hrun]; rfl, by unfold hasF; rw [hb, decide_eq_true hm]; rfl, hm, g2, by rw [hg _ (by omega), g3]; rfl, by rw [hg _ (by simp), gn]; rfl, by rw [n3]; simp, by rw [n2]; simp; omega⟩
  · exact .inl ⟨mayG ns us sp, hm, by unfold genF; rw [if_neg hm]⟩
theorem genStays_fn (f g fl : Bool) (ns : List ByteArray) (us : List Nat) (sp : Sp) (l : List Int) (hu0 : U32 us) :
    Fn Try.prog 16 [.agg [.sl f 1 (strRow ns), .sl g 1 (u32Row us)], .agg (spF false sp), .sl false 1 (intRow l)] [] (.v (.bool true)) [] := by
  have hs := szs_few ns
  have hu := u32_few hu0
  have h1 := few15_fn f g ns us
  obtain ⟨xs, hxs⟩ : ∃ xs, (ns.take 10).map cutS = xs := ⟨_, rfl⟩
  obtain ⟨ys, hys⟩ : ∃ xs, us.take 10 = xs := ⟨_, rfl⟩
  rw [hxs] at hs h1
  rw [hys] at hu h1
  obtain ⟨q, hq⟩ : ∃ q, spCut sp = q := ⟨_, rfl⟩
  have hqw : q.ws.length ≤ 1000 := by rw [← hq]; simp [spCut]; omega
  have q1 : sp.code = q.code := by rw [← hq]; rfl
  have q2 : sp.mem = q.mem := by rw [← hq]; rfl
  have q3 : sp.stack = q.stack := by rw [← hq]; rfl
  have q4 : sp.val = q.val := by rw [← hq]; rfl
  have q5 : sp.ws.take 16 = q.ws := by rw [← hq]; rfl
  obtain ⟨L, hL⟩ : ∃ L, l.take 500 = L := ⟨_, rfl⟩
  have hLl : L.length ≤ 500 := by rw [← hL]; simp; omega
  have n1 := drNew_fn false L
  have h3 := genState_fn false false xs ys q ⟨L, 0, []⟩ hs hu hqw
  have h6 := alive15_fn
  rcases genF_cases xs ys q L hLl with ⟨e, he, hg⟩ | ⟨d, s, dn, hg, hh, hm, hdl, hg2, hg3, hd3, hd4⟩
  · have he' : (e != 0) = true := by simpa using he
    simp only [hg, Dr.z, Sta.z, staF, encDr, spF] at h3
    simp only [spF]
    refine Fn.of (fn := Try.f16) (by kernel_rfl) rfl (by kernel_rfl) ⟨[.agg [.sl f 1 (strRow ns), .sl g 1 (u32Row us)], .agg [.v (.int .i64 sp.code), .v (.int .i64 sp.mem), .v (.int .i64 sp.stack), .v (.int .i64 sp.val), .sl false 1 (intRow sp.ws)], .sl false 1 (intRow l), .v undef, .v undef, .v undef, .v undef, .v undef, .v undef, .v undef, .v undef, .v undef, .v undef, .v undef, .v undef, .v undef, .v undef, .v undef, .v undef, .v undef, .v undef, .v undef, .v undef, .v undef, .v undef, .v undef, .v undef, .v undef, .v undef, .v undef, .v undef, .v undef, .v undef, .v undef, .v undef, .v undef, .v undef, .v undef, .v undef, .v undef, .v undef, .v undef, .v undef, .v undef, .v undef, .v undef, .v undef, .v undef, .v undef, .v undef, .v undef, .v undef, .v undef, .v undef, .v undef, .v undef, .v undef, .v undef, .v undef, .v undef, .v undef, .v undef, .v undef, .v undef, .v undef, .v undef, .v undef, .v undef, .v undef, .v undef, .v undef, .v undef, .v undef, .v undef, .v undef, .v undef, .v undef, .v undef, .v undef, .v undef, .v undef, .v undef, .v undef, .v undef, .v undef, .v undef, .v undef, .v undef, .v undef, .v undef, .v undef, .v undef, .v undef, .v undef, .v undef, .v undef, .v undef, .v undef, .v undef, .v undef, .v undef, .v undef, .v undef, .v undef, .v undef, .v undef, .v undef, .v undef, .v undef], []⟩ rfl ?_
    repeat' first | (with_reducible first | refine AWP_seq' ?_ | refine k_normal ?_ | refine k_ret ?_ | refine k_exit ?_ | refine b_normal ?_ | refine b_ret ?_ | refine b_exit ?_ | refine b_pass rfl ?_ | refine AWP_ret ?_ | refine AWP_skip ?_ | refine AWP_exit ?_ | refine AWP_block ?_) | ((with_reducible first | refine AWP_reg fun KC J hJ hKC => ?_ | refine AWP_regD rfl fun KC J hJ hKC => ?_); simp (maxSteps := 10000000) only [push_cast, seval, ↓reduceIte, q1, q2, q3, q4, q5, take_minL (K := 16) (k := 16) rfl sp.ws, take_minL (K := 500) (k := 500) rfl l, hL, he', undef, beq_self_eq_true]) | ((with_reducible refine And.intro ?_ ?_); · exact Sq) | (refine hKC _ _ _ _ _ (callV0 (h1) rfl rfl rfl ?_ ?_); (· exact Lq); simp (maxSteps := 10000000) only [push_cast, seval, ↓reduceIte, q1, q2, q3, q4, q5, take_minL (K := 16) (k := 16) rfl sp.ws, take_minL (K := 500) (k := 500) rfl l, hL, he', undef, beq_self_eq_true]) | (refine hKC _ _ _ _ _ (callV0 (h3) rfl rfl rfl ?_ ?_); (· exact Lq); simp (maxSteps := 10000000) only [push_cast, seval, ↓reduceIte, q1, q2, q3, q4, q5, take_minL (K := 16) (k := 16) rfl sp.ws, take_minL (K := 500) (k := 500) rfl l, hL, he', undef, beq_self_eq_true]) | (refine hKC _ _ _ _ _ (callV0 (h6) rfl rfl rfl ?_ ?_); (· exact Lq); simp (maxSteps := 10000000) only [push_cast, seval, ↓reduceIte, q1, q2, q3, q4, q5, take_minL (K := 16) (k := 16) rfl sp.ws, take_minL (K := 500) (k := 500) rfl l, hL, he', undef, beq_self_eq_true]) | (refine hKC _ _ _ _ _ (callV0 (n1) rfl rfl rfl ?_ ?_); (· exact Lq); simp (maxSteps := 10000000) only [push_cast, seval, ↓reduceIte, q1, q2, q3, q4, q5, take_minL (K := 16) (k := 16) rfl sp.ws, take_minL (K := 500) (k := 500) rfl l, hL, he', undef, beq_self_eq_true]) | ((first | with_reducible refine hJ _ _ ?_ | (with_reducible refine hJ _ _ ?_ ?_; · kernel_rfl)); clear hJ hKC KC J) | ((with_reducible refine AWP_condT ?_ ?_); · rfl) | ((with_reducible refine AWP_condF ?_ ?_); · rfl) | ((with_reducible refine ite_intro (fun hs => ?_) (fun hs => ?_)) <;> (try simp only [Bool.not_eq_true, Bool.not_eq_false, Bool.not_eq_true', Bool.not_eq_false', Decidable.not_not, decide_eq_true_eq, decide_eq_false_iff_not] at hs) <;> (try simp (maxSteps := 10000000) only [push_cast, seval, ↓reduceIte, hs, q1, q2, q3, q4, q5, take_minL (K := 16) (k := 16) rfl sp.ws, take_minL (K := 500) (k := 500) rfl l, hL, he', undef, beq_self_eq_true])) | (refine AWP_cond rfl (fun h => ?_) (fun h => ?_) <;> try simp only [decide_eq_true_eq, decide_eq_false_iff_not, Bool.not_eq_true', Bool.not_eq_false', beq_iff_eq, bne_iff_ne, ne_eq, Bool.not_eq_true, Bool.or_eq_true, Bool.and_eq_true, Bool.or_eq_false_iff, Bool.and_eq_false_imp, beq_eq_false_iff_ne, bne_eq_false_iff_eq] at h)
    refine ret_plain ?_
    simp (maxSteps := 10000000) only [push_cast, seval, ↓reduceIte, show Try.f16.results = #[(.tmp 6)] from rfl]
    exact Lq
  have hsm := genF_small (ns := xs) (us := ys) (sp := q) (d := ⟨L, 0, []⟩) (by simp only; omega) (by simp)
  rw [hg] at h3 hsm
  obtain ⟨sm, _, _⟩ := hsm
  have n2 := drNew_fn false d.g
  have n3 := drNew_fn false []
  have h4 := genHas_fn false false false xs ys q s hs hu hqw sm.sml
  have h5 := genState_fn false false xs ys q ⟨d.g, 0, []⟩ hs hu hqw
  have h7 := genState_fn false false xs ys q ⟨[], 0, []⟩ hs hu hqw
  rw [hg2] at h5
  rw [hg3] at h7
  rw [hh, hm] at h4
  have z1 := rSame9_fn s s sm sm
  have z2 := rInts_fn false false d.g d.g (by omega)
  have z3 := rSame9_fn Sta.z Sta.z ⟨by decide, by decide, by decide, by decide⟩ ⟨by decide, by decide, by decide, by decide⟩
  rw [show sameT s s = true from sameT_iff.2 rfl] at z1
  rw [decide_eq_true rfl] at z2
  rw [show sameT Sta.z Sta.z = true from sameT_iff.2 rfl] at z3
  simp only [staF, encDr, spF, Sta.z] at h3 h4 h5 h7 z1 z3 ⊢
  refine Fn.of (fn := Try.f16) (by kernel_rfl) rfl (by kernel_rfl) ⟨[.agg [.sl f 1 (strRow ns), .sl g 1 (u32Row us)], .agg [.v (.int .i64 sp.code), .v (.int .i64 sp.mem), .v (.int .i64 sp.stack), .v (.int .i64 sp.val), .sl false 1 (intRow sp.ws)], .sl false 1 (intRow l), .v undef, .v undef, .v undef, .v undef, .v undef, .v undef, .v undef, .v undef, .v undef, .v undef, .v undef, .v undef, .v undef, .v undef, .v undef, .v undef, .v undef, .v undef, .v undef, .v undef, .v undef, .v undef, .v undef, .v undef, .v undef, .v undef, .v undef, .v undef, .v undef, .v undef, .v undef, .v undef, .v undef, .v undef, .v undef, .v undef, .v undef, .v undef, .v undef, .v undef, .v undef, .v undef, .v undef, .v undef, .v undef, .v undef, .v undef, .v undef, .v undef, .v undef, .v undef, .v undef, .v undef, .v undef, .v undef, .v undef, .v undef, .v undef, .v undef, .v undef, .v undef, .v undef, .v undef, .v undef, .v undef, .v undef, .v undef, .v undef, .v undef, .v undef, .v undef, .v undef, .v undef, .v undef, .v undef, .v undef, .v undef, .v undef, .v undef, .v undef, .v undef, .v undef, .v undef, .v undef, .v undef, .v undef, .v undef, .v undef, .v undef, .v undef, .v undef, .v undef, .v undef, .v undef, .v undef, .v undef, .v undef, .v undef, .v undef, .v undef, .v undef, .v undef, .v undef, .v undef, .v undef, .v undef], []⟩ rfl ?_
  repeat' first | (with_reducible first | refine AWP_seq' ?_ | refine k_normal ?_ | refine k_ret ?_ | refine k_exit ?_ | refine b_normal ?_ | refine b_ret ?_ | refine b_exit ?_ | refine b_pass rfl ?_ | refine AWP_ret ?_ | refine AWP_skip ?_ | refine AWP_exit ?_ | refine AWP_block ?_) | ((with_reducible first | refine AWP_reg fun KC J hJ hKC => ?_ | refine AWP_regD rfl fun KC J hJ hKC => ?_); simp (maxSteps := 10000000) only [push_cast, seval, ↓reduceIte, q1, q2, q3, q4, q5, take_minL (K := 16) (k := 16) rfl sp.ws, take_minL (K := 500) (k := 500) rfl l, hL, undef, beq_self_eq_true, bne_self_eq_false]) | ((with_reducible refine And.intro ?_ ?_); · exact Sq) | (refine hKC _ _ _ _ _ (callV0 (h1) rfl rfl rfl ?_ ?_); (· exact Lq); simp (maxSteps := 10000000) only [push_cast, seval, ↓reduceIte, q1, q2, q3, q4, q5, take_minL (K := 16) (k := 16) rfl sp.ws, take_minL (K := 500) (k := 500) rfl l, hL, undef, beq_self_eq_true, bne_self_eq_false]) | (refine hKC _ _ _ _ _ (callV0 (h3) rfl rfl rfl ?_ ?_); (· exact Lq); simp (maxSteps := 10000000) only [push_cast, seval, ↓reduceIte, q1, q2, q3, q4, q5, take_minL (K := 16) (k := 16) rfl sp.ws, take_minL (K := 500) (k := 500) rfl l, hL, undef, beq_self_eq_true, bne_self_eq_false]) | (refine hKC _ _ _ _ _ (callV0 (h4) rfl rfl rfl ?_ ?_); (· exact Lq); simp (maxSteps := 10000000) only [push_cast, seval, ↓reduceIte, q1, q2, q3, q4, q5, take_minL (K := 16) (k := 16) rfl sp.ws, take_minL (K := 500) (k := 500) rfl l, hL, undef, beq_self_eq_true, bne_self_eq_false]) | (refine hKC _ _ _ _ _ (callV0 (h5) rfl rfl rfl ?_ ?_); (· exact Lq); simp (maxSteps := 10000000) only [push_cast, seval, ↓reduceIte, q1, q2, q3, q4, q5, take_minL (K := 16) (k := 16) rfl sp.ws, take_minL (K := 500) (k := 500) rfl l, hL, undef, beq_self_eq_true, bne_self_eq_false]) | (refine hKC _ _ _ _ _ (callV0 (h6) rfl rfl rfl ?_ ?_); (· exact Lq); simp (maxSteps := 10000000) only [push_cast, seval, ↓reduceIte, q1, q2, q3, q4, q5, take_minL (K := 16) (k := 16) rfl sp.ws, take_minL (K := 500) (k := 500) rfl l, hL, undef, beq_self_eq_true, bne_self_eq_false]) | (refine hKC _ _ _ _ _ (callV0 (h7) rfl rfl rfl ?_ ?_); (· exact Lq); simp (maxSteps := 10000000) only [push_cast, seval, ↓reduceIte, q1, q2, q3, q4, q5, take_minL (K := 16) (k := 16) rfl sp.ws, take_minL (K := 500) (k := 500) rfl l, hL, undef, beq_self_eq_true, bne_self_eq_false]) | (refine hKC _ _ _ _ _ (callV0 (n1) rfl rfl rfl ?_ ?_); (· exact Lq); simp (maxSteps := 10000000) only [push_cast, seval, ↓reduceIte, q1, q2, q3, q4, q5, take_minL (K := 16) (k := 16) rfl sp.ws, take_minL (K := 500) (k := 500) rfl l, hL, undef, beq_self_eq_true, bne_self_eq_false]) | (refine hKC _ _ _ _ _ (callV0 (n2) rfl rfl rfl ?_ ?_); (· exact Lq); simp (maxSteps := 10000000) only [push_cast, seval, ↓reduceIte, q1, q2, q3, q4, q5, take_minL (K := 16) (k := 16) rfl sp.ws, take_minL (K := 500) (k := 500) rfl l, hL, undef, beq_self_eq_true, bne_self_eq_false]) | (refine hKC _ _ _ _ _ (callV0 (n3) rfl rfl rfl ?_ ?_); (· exact Lq); simp (maxSteps := 10000000) only [push_cast, seval, ↓reduceIte, q1, q2, q3, q4, q5, take_minL (K := 16) (k := 16) rfl sp.ws, take_minL (K := 500) (k := 500) rfl l, hL, undef, beq_self_eq_true, bne_self_eq_false]) | (refine hKC _ _ _ _ _ (callV0 (z1) rfl rfl rfl ?_ ?_); (· exact Lq); simp (maxSteps := 10000000) only [push_cast, seval, ↓reduceIte, q1, q2, q3, q4, q5, take_minL (K := 16) (k := 16) rfl sp.ws, take_minL (K := 500) (k := 500) rfl l, hL, undef, beq_self_eq_true, bne_self_eq_false]) | (refine hKC _ _ _ _ _ (callV0 (z2) rfl rfl rfl ?_ ?_); (· exact Lq); simp (maxSteps := 10000000) only [push_cast, seval, ↓reduceIte, q1, q2, q3, q4, q5, take_minL (K := 16) (k := 16) rfl sp.ws, take_minL (K := 500) (k := 500) rfl l, hL, undef, beq_self_eq_true, bne_self_eq_false]) | (refine hKC _ _ _ _ _ (callV0 (z3) rfl rfl rfl ?_ ?_); (· exact Lq); simp (maxSteps := 10000000) only [push_cast, seval, ↓reduceIte, q1, q2, q3, q4, q5, take_minL (K := 16) (k := 16) rfl sp.ws, take_minL (K := 500) (k := 500) rfl l, hL, undef, beq_self_eq_true, bne_self_eq_false]) | ((first | with_reducible refine hJ _ _ ?_ | (with_reducible refine hJ _ _ ?_ ?_; · kernel_rfl)); clear hJ hKC KC J) | ((with_reducible refine AWP_condT ?_ ?_); · rfl) | ((with_reducible refine AWP_condF ?_ ?_); · rfl) | ((with_reducible refine ite_intro (fun hs => ?_) (fun hs => ?_)) <;> (try simp only [Bool.not_eq_true, Bool.not_eq_false, Bool.not_eq_true', Bool.not_eq_false', Decidable.not_not, decide_eq_true_eq, decide_eq_false_iff_not] at hs) <;> (try simp (maxSteps := 10000000) only [push_cast, seval, ↓reduceIte, hs, q1, q2, q3, q4, q5, take_minL (K := 16) (k := 16) rfl sp.ws, take_minL (K := 500) (k := 500) rfl l, hL, undef, beq_self_eq_true, bne_self_eq_false])) | (refine AWP_cond rfl (fun h => ?_) (fun h => ?_) <;> try simp only [decide_eq_true_eq, decide_eq_false_iff_not, Bool.not_eq_true', Bool.not_eq_false', beq_iff_eq, bne_iff_ne, ne_eq, Bool.not_eq_true, Bool.or_eq_true, Bool.and_eq_true, Bool.or_eq_false_iff, Bool.and_eq_false_imp, beq_eq_false_iff_ne, bne_eq_false_iff_eq] at h)
  refine ret_plain ?_
  simp (maxSteps := 10000000) only [push_cast, seval, ↓reduceIte, show Try.f16.results = #[(.tmp 6)] from rfl]
  exact Lq
end Go.Proofs.Ytabliglgeiajlaa.AM
