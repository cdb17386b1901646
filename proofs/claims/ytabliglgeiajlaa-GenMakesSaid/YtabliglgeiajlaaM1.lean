/- GenMakes. -/
import Derived.Test.YtabliglgeiajlaaL15
import Derived.Test.YtabliglgeiajlaaHW
set_option linter.unusedSimpArgs false
set_option linter.unusedVariables false
namespace Go.Proofs.Ytabliglgeiajlaa.AM
open Go Go.RowKit Go.Proofs
set_option maxRecDepth 100000
set_option maxHeartbeats 4000000

theorem hasB_sml {n : Nat} {sp : Sp} {s : Sta} (h : hasB n sp s = true) : Sml15 s := by
  simp only [hasB, staB, codeB, Bool.and_eq_true, decide_eq_true_eq] at h
  obtain ⟨⟨⟨_, h1⟩, _, _, _, h2, _, h3, _, h4⟩, _⟩ := h
  exact ⟨by omega, by omega, by omega, by omega⟩
theorem mayG_ok {ns : List ByteArray} {us : List Nat} {sp : Sp} (hm : mayG ns us sp = 0) : checkF ns us = 0 ∧ SpOk sp := by
  unfold mayG at hm
  split at hm
  · rename_i hc
    split at hm
    · rename_i hsp; exact ⟨hc, spB_iff.1 hsp⟩
    · cases hm
  · rename_i hc; exact absurd hm hc
theorem run_gen {n : Nat} {sp : Sp} (hsp : SpOk sp) (d : Dr) : (∃ e, e ≠ 0 ∧ (genC n sp).run d = .error e) ∨ ∃ d' s cs, (genC n sp).run d = .ok (d', s) ∧ hasB n sp s = true ∧ (genC n sp).path cs = some s ∧ d'.l = d.l ∧ d'.g = d.g ++ cs ∧ cs.length ≤ 89 := by
  have hi := (is_gen n sp).1 d 0
  cases hr : (genC n sp).run d with
  | error e => rw [hr] at hi; exact .inl ⟨e, hi.1, rfl⟩
  | ok r =>
    obtain ⟨d', s⟩ := r
    obtain ⟨cs, h1, h2, h3⟩ := Cp.run_path _ hr
    exact .inr ⟨d', s, cs, rfl, Cp.all_path _ (genC_all hsp) h1, h1, h3, h2, Cp.path_deep _ (deep_gen hsp) h1⟩
theorem genF_small {ns : List ByteArray} {us : List Nat} {sp : Sp} {d : Dr} (hl : d.l.length ≤ 1000) (hg : d.g.length ≤ 3000) : Sml15 (genF ns us sp d).2.1 ∧ (genF ns us sp d).1.l.length ≤ 4000 ∧ (genF ns us sp d).1.g.length ≤ 4000 := by
  have z : Sml15 Sta.z := ⟨by decide, by decide, by decide, by decide⟩
  have zz : Sml15 Sta.z ∧ Dr.z.l.length ≤ 4000 ∧ Dr.z.g.length ≤ 4000 := ⟨z, by decide, by decide⟩
  unfold genF
  split
  · rename_i hm
    split
    · rcases run_gen (mayG_ok hm).2 (n := us.length) d with ⟨e, _, hr⟩ | ⟨d', s, cs, hr, hb, _, h1, h2, h3⟩
      · rw [hr]; exact zz
      · rw [hr]
        refine ⟨hasB_sml hb, ?_, ?_⟩
        · show d'.l.length ≤ 4000; rw [h1]; omega
        · show d'.g.length ≤ 4000; rw [h2, List.length_append]; omega
    · exact zz
  · exact zz
def spCut (sp : Sp) : Sp := { sp with ws := sp.ws.take 16 }
theorem genMakes_fn (f g h fd gd : Bool) (ns : List ByteArray) (us : List Nat) (sp : Sp) (d : Dr) (hu0 : U32 us) :
    Fn Try.prog 12 [.agg [.sl f 1 (strRow ns), .sl g 1 (u32Row us)], .agg (spF false sp), encDr fd gd d] [] (.v (.bool true)) [] := by
  have hs := szs_few ns
  have hu := u32_few hu0
  have h1 := few15_fn f g ns us
  have h2 := draws15_fn fd gd d
  obtain ⟨xs, hxs⟩ : ∃ xs, (ns.take 10).map cutS = xs := ⟨_, rfl⟩
  obtain ⟨ys, hys⟩ : ∃ xs, us.take 10 = xs := ⟨_, rfl⟩
  have hyl : ys.length ≤ 10 := by rw [← hys, List.length_take]; omega
  rw [hxs] at hs h1
  rw [hys] at hu h1
  obtain ⟨q, hq⟩ : ∃ q, spCut sp = q := ⟨_, rfl⟩
  have hqw : q.ws.length ≤ 1000 := by rw [← hq]; simp [spCut]; omega
  have q1 : sp.code = q.code := by rw [← hq]; rfl
  have q2 : sp.mem = q.mem := by rw [← hq]; rfl
  have q3 : sp.stack = q.stack := by rw [← hq]; rfl
  have q4 : sp.val = q.val := by rw [← hq]; rfl
  have q5 : sp.ws.take 16 = q.ws := by rw [← hq]; rfl
  obtain ⟨e, he⟩ : ∃ e, cutDr d = e := ⟨_, rfl⟩
  have hel : e.l.length ≤ 1000 := by rw [← he]; simp [cutDr]; omega
  have heg : e.g.length ≤ 3000 := by rw [← he]; simp [cutDr]; omega
  rw [he] at h2
  have h3 := genState_fn false false xs ys q e hs hu hqw
  have h4 := rMay15_fn false false false xs ys q hs hu hqw
  have h5 := rRight_fn false false e.l e.g e.a
  have h6 := alive15_fn
  have hsm := genF_small (ns := xs) (us := ys) (sp := q) hel heg
  have z9 := rSame9_fn Sta.z Sta.z ⟨by decide, by decide, by decide, by decide⟩ ⟨by decide, by decide, by decide, by decide⟩
  have zd := rSame_fn false false false false [] [] [] [] 0 0 (by decide) (by decide)
  rw [show sameT Sta.z Sta.z = true from sameT_iff.2 rfl] at z9
  rw [decide_eq_true (rfl : (⟨[], 0, []⟩ : Dr) = ⟨[], 0, []⟩)] at zd
  obtain ⟨m, hm⟩ : ∃ m, mayG xs ys q = m := ⟨_, rfl⟩
  rw [hm] at h4
  obtain ⟨r, hr⟩ : ∃ r, rightB e.l e.g e.a = r := ⟨_, rfl⟩
  rw [hr] at h5
  simp only [encDr, spF] at h1 h2 h3 h4 ⊢
  by_cases h0 : m = 0
  case neg =>
    have h0' : (m == 0) = false := by simpa using h0
    have h0'' : (m != 0) = true := by simpa using h0
    have hg : genF xs ys q e = (Dr.z, Sta.z, m) := by unfold genF; rw [if_neg (by rw [hm]; exact h0), hm]
    simp only [hg, Dr.z, Sta.z, staF] at h3 z9
    refine Fn.of (fn := Try.f12) (by kernel_rfl) rfl (by kernel_rfl) ⟨[.agg [.sl f 1 (strRow ns), .sl g 1 (u32Row us)], .agg [.v (.int .i64 sp.code), .v (.int .i64 sp.mem), .v (.int .i64 sp.stack), .v (.int .i64 sp.val), .sl false 1 (intRow sp.ws)], .agg [.sl fd 1 (intRow d.l), .v (.int .i64 d.a), .sl gd 1 (intRow d.g)], .v undef, .v undef, .v undef, .v undef, .v undef, .v undef, .v undef, .v undef, .v undef, .v undef, .v undef, .v undef, .v undef, .v undef, .v undef, .v undef, .v undef, .v undef, .v undef, .v undef, .v undef, .v undef, .v undef, .v undef, .v undef, .v undef, .v undef, .v undef, .v undef, .v undef, .v undef, .v undef, .v undef, .v undef, .v undef, .v undef, .v undef, .v undef, .v undef, .v undef, .v undef, .v undef, .v undef, .v undef, .v undef, .v undef, .v undef, .v undef, .v undef, .v undef, .v undef, .v undef, .v undef, .v undef, .v undef, .v undef, .v undef, .v undef, .v undef, .v undef, .v undef, .v undef, .v undef, .v undef, .v undef, .v undef, .v undef, .v undef, .v undef, .v undef, .v undef, .v undef, .v undef, .v undef, .v undef, .v undef, .v undef, .v undef, .v undef, .v undef], []⟩ rfl ?_
    repeat' first | (with_reducible first | refine AWP_seq' ?_ | refine k_normal ?_ | refine k_ret ?_ | refine k_exit ?_ | refine b_normal ?_ | refine b_ret ?_ | refine b_exit ?_ | refine b_pass rfl ?_ | refine AWP_ret ?_ | refine AWP_skip ?_ | refine AWP_exit ?_ | refine AWP_block ?_) | ((with_reducible first | refine AWP_reg fun KC J hJ hKC => ?_ | refine AWP_regD rfl fun KC J hJ hKC => ?_); simp (maxSteps := 10000000) only [push_cast, seval, ↓reduceIte, q1, q2, q3, q4, q5, take_minL (K := 16) (k := 16) rfl sp.ws, h0', h0'', undef, beq_self_eq_true]) | ((with_reducible refine And.intro ?_ ?_); · exact Sq) | (refine hKC _ _ _ _ _ (callV0 (h1) rfl rfl rfl ?_ ?_); (· exact Lq); simp (maxSteps := 10000000) only [push_cast, seval, ↓reduceIte, q1, q2, q3, q4, q5, take_minL (K := 16) (k := 16) rfl sp.ws, h0', h0'', undef, beq_self_eq_true]) | (refine hKC _ _ _ _ _ (callV0 (h2) rfl rfl rfl ?_ ?_); (· exact Lq); simp (maxSteps := 10000000) only [push_cast, seval, ↓reduceIte, q1, q2, q3, q4, q5, take_minL (K := 16) (k := 16) rfl sp.ws, h0', h0'', undef, beq_self_eq_true]) | (refine hKC _ _ _ _ _ (callV0 (h3) rfl rfl rfl ?_ ?_); (· exact Lq); simp (maxSteps := 10000000) only [push_cast, seval, ↓reduceIte, q1, q2, q3, q4, q5, take_minL (K := 16) (k := 16) rfl sp.ws, h0', h0'', undef, beq_self_eq_true]) | (refine hKC _ _ _ _ _ (callV0 (h4) rfl rfl rfl ?_ ?_); (· exact Lq); simp (maxSteps := 10000000) only [push_cast, seval, ↓reduceIte, q1, q2, q3, q4, q5, take_minL (K := 16) (k := 16) rfl sp.ws, h0', h0'', undef, beq_self_eq_true]) | (refine hKC _ _ _ _ _ (callV0 (h6) rfl rfl rfl ?_ ?_); (· exact Lq); simp (maxSteps := 10000000) only [push_cast, seval, ↓reduceIte, q1, q2, q3, q4, q5, take_minL (K := 16) (k := 16) rfl sp.ws, h0', h0'', undef, beq_self_eq_true]) | (refine hKC _ _ _ _ _ (callV0 (z9) rfl rfl rfl ?_ ?_); (· exact Lq); simp (maxSteps := 10000000) only [push_cast, seval, ↓reduceIte, q1, q2, q3, q4, q5, take_minL (K := 16) (k := 16) rfl sp.ws, h0', h0'', undef, beq_self_eq_true]) | (refine hKC _ _ _ _ _ (callV0 (zd) rfl rfl rfl ?_ ?_); (· exact Lq); simp (maxSteps := 10000000) only [push_cast, seval, ↓reduceIte, q1, q2, q3, q4, q5, take_minL (K := 16) (k := 16) rfl sp.ws, h0', h0'', undef, beq_self_eq_true]) | ((first | with_reducible refine hJ _ _ ?_ | (with_reducible refine hJ _ _ ?_ ?_; · kernel_rfl)); clear hJ hKC KC J) | ((with_reducible refine AWP_condT ?_ ?_); · rfl) | ((with_reducible refine AWP_condF ?_ ?_); · rfl) | ((with_reducible refine ite_intro (fun hs => ?_) (fun hs => ?_)) <;> (try simp only [Bool.not_eq_true, Bool.not_eq_false, Bool.not_eq_true', Bool.not_eq_false', Decidable.not_not, decide_eq_true_eq, decide_eq_false_iff_not] at hs) <;> (try simp (maxSteps := 10000000) only [push_cast, seval, ↓reduceIte, hs, q1, q2, q3, q4, q5, take_minL (K := 16) (k := 16) rfl sp.ws, h0', h0'', undef, beq_self_eq_true])) | (refine AWP_cond rfl (fun h => ?_) (fun h => ?_) <;> try simp only [decide_eq_true_eq, decide_eq_false_iff_not, Bool.not_eq_true', Bool.not_eq_false', beq_iff_eq, bne_iff_ne, ne_eq, Bool.not_eq_true, Bool.or_eq_true, Bool.and_eq_true, Bool.or_eq_false_iff, Bool.and_eq_false_imp, beq_eq_false_iff_ne, bne_eq_false_iff_eq] at h)
    refine ret_plain ?_
    simp (maxSteps := 10000000) only [push_cast, seval, ↓reduceIte, show Try.f12.results = #[(.tmp 6)] from rfl]
    exact Lq
  subst h0
  cases r
  case false =>
    have hg : genF xs ys q e = (Dr.z, Sta.z, 1) := by unfold genF; rw [if_pos hm, if_neg (by rw [hr]; simp)]
    simp only [hg, Dr.z, Sta.z, staF] at h3 z9
    refine Fn.of (fn := Try.f12) (by kernel_rfl) rfl (by kernel_rfl) ⟨[.agg [.sl f 1 (strRow ns), .sl g 1 (u32Row us)], .agg [.v (.int .i64 sp.code), .v (.int .i64 sp.mem), .v (.int .i64 sp.stack), .v (.int .i64 sp.val), .sl false 1 (intRow sp.ws)], .agg [.sl fd 1 (intRow d.l), .v (.int .i64 d.a), .sl gd 1 (intRow d.g)], .v undef, .v undef, .v undef, .v undef, .v undef, .v undef, .v undef, .v undef, .v undef, .v undef, .v undef, .v undef, .v undef, .v undef, .v undef, .v undef, .v undef, .v undef, .v undef, .v undef, .v undef, .v undef, .v undef, .v undef, .v undef, .v undef, .v undef, .v undef, .v undef, .v undef, .v undef, .v undef, .v undef, .v undef, .v undef, .v undef, .v undef, .v undef, .v undef, .v undef, .v undef, .v undef, .v undef, .v undef, .v undef, .v undef, .v undef, .v undef, .v undef, .v undef, .v undef, .v undef, .v undef, .v undef, .v undef, .v undef, .v undef, .v undef, .v undef, .v undef, .v undef, .v undef, .v undef, .v undef, .v undef, .v undef, .v undef, .v undef, .v undef, .v undef, .v undef, .v undef, .v undef, .v undef, .v undef, .v undef, .v undef, .v undef, .v undef, .v undef], []⟩ rfl ?_
    repeat' first | (with_reducible first | refine AWP_seq' ?_ | refine k_normal ?_ | refine k_ret ?_ | refine k_exit ?_ | refine b_normal ?_ | refine b_ret ?_ | refine b_exit ?_ | refine b_pass rfl ?_ | refine AWP_ret ?_ | refine AWP_skip ?_ | refine AWP_exit ?_ | refine AWP_block ?_) | ((with_reducible first | refine AWP_reg fun KC J hJ hKC => ?_ | refine AWP_regD rfl fun KC J hJ hKC => ?_); simp (maxSteps := 10000000) only [push_cast, seval, ↓reduceIte, q1, q2, q3, q4, q5, take_minL (K := 16) (k := 16) rfl sp.ws, undef, beq_self_eq_true]) | ((with_reducible refine And.intro ?_ ?_); · exact Sq) | (refine hKC _ _ _ _ _ (callV0 (h1) rfl rfl rfl ?_ ?_); (· exact Lq); simp (maxSteps := 10000000) only [push_cast, seval, ↓reduceIte, q1, q2, q3, q4, q5, take_minL (K := 16) (k := 16) rfl sp.ws, undef, beq_self_eq_true]) | (refine hKC _ _ _ _ _ (callV0 (h2) rfl rfl rfl ?_ ?_); (· exact Lq); simp (maxSteps := 10000000) only [push_cast, seval, ↓reduceIte, q1, q2, q3, q4, q5, take_minL (K := 16) (k := 16) rfl sp.ws, undef, beq_self_eq_true]) | (refine hKC _ _ _ _ _ (callV0 (h3) rfl rfl rfl ?_ ?_); (· exact Lq); simp (maxSteps := 10000000) only [push_cast, seval, ↓reduceIte, q1, q2, q3, q4, q5, take_minL (K := 16) (k := 16) rfl sp.ws, undef, beq_self_eq_true]) | (refine hKC _ _ _ _ _ (callV0 (h4) rfl rfl rfl ?_ ?_); (· exact Lq); simp (maxSteps := 10000000) only [push_cast, seval, ↓reduceIte, q1, q2, q3, q4, q5, take_minL (K := 16) (k := 16) rfl sp.ws, undef, beq_self_eq_true]) | (refine hKC _ _ _ _ _ (callV0 (h5) rfl rfl rfl ?_ ?_); (· exact Lq); simp (maxSteps := 10000000) only [push_cast, seval, ↓reduceIte, q1, q2, q3, q4, q5, take_minL (K := 16) (k := 16) rfl sp.ws, undef, beq_self_eq_true]) | (refine hKC _ _ _ _ _ (callV0 (h6) rfl rfl rfl ?_ ?_); (· exact Lq); simp (maxSteps := 10000000) only [push_cast, seval, ↓reduceIte, q1, q2, q3, q4, q5, take_minL (K := 16) (k := 16) rfl sp.ws, undef, beq_self_eq_true]) | (refine hKC _ _ _ _ _ (callV0 (z9) rfl rfl rfl ?_ ?_); (· exact Lq); simp (maxSteps := 10000000) only [push_cast, seval, ↓reduceIte, q1, q2, q3, q4, q5, take_minL (K := 16) (k := 16) rfl sp.ws, undef, beq_self_eq_true]) | (refine hKC _ _ _ _ _ (callV0 (zd) rfl rfl rfl ?_ ?_); (· exact Lq); simp (maxSteps := 10000000) only [push_cast, seval, ↓reduceIte, q1, q2, q3, q4, q5, take_minL (K := 16) (k := 16) rfl sp.ws, undef, beq_self_eq_true]) | ((first | with_reducible refine hJ _ _ ?_ | (with_reducible refine hJ _ _ ?_ ?_; · kernel_rfl)); clear hJ hKC KC J) | ((with_reducible refine AWP_condT ?_ ?_); · rfl) | ((with_reducible refine AWP_condF ?_ ?_); · rfl) | ((with_reducible refine ite_intro (fun hs => ?_) (fun hs => ?_)) <;> (try simp only [Bool.not_eq_true, Bool.not_eq_false, Bool.not_eq_true', Bool.not_eq_false', Decidable.not_not, decide_eq_true_eq, decide_eq_false_iff_not] at hs) <;> (try simp (maxSteps := 10000000) only [push_cast, seval, ↓reduceIte, hs, q1, q2, q3, q4, q5, take_minL (K := 16) (k := 16) rfl sp.ws, undef, beq_self_eq_true])) | (refine AWP_cond rfl (fun h => ?_) (fun h => ?_) <;> try simp only [decide_eq_true_eq, decide_eq_false_iff_not, Bool.not_eq_true', Bool.not_eq_false', beq_iff_eq, bne_iff_ne, ne_eq, Bool.not_eq_true, Bool.or_eq_true, Bool.and_eq_true, Bool.or_eq_false_iff, Bool.and_eq_false_imp, beq_eq_false_iff_ne, bne_eq_false_iff_eq] at h)
    refine ret_plain ?_
    simp (maxSteps := 10000000) only [push_cast, seval, ↓reduceIte, show Try.f12.results = #[(.tmp 6)] from rfl]
    exact Lq
  have hg : genF xs ys q e = endF Sta.z ((genC ys.length q).run e) := by unfold genF; rw [if_pos hm, if_pos hr]
  have h7 := rState15_fn false false xs ys q e (by omega) (mayG_ok hm).2
  rw [← hg] at h7
  obtain ⟨⟨X, S, E⟩, hX⟩ : ∃ x, genF xs ys q e = x := ⟨_, rfl⟩
  rw [hX] at h3 h7 hsm
  simp only at h3 h7 hsm
  obtain ⟨hs1, hs2, hs3⟩ := hsm
  have z1 := rSame9_fn S S hs1 hs1
  have z2 := rSame_fn false false false false X.l X.g X.l X.g X.a X.a (by omega) (by omega)
  rw [show sameT S S = true from sameT_iff.2 rfl] at z1
  rw [decide_eq_true rfl] at z2
  simp only [staF, encDr, spF] at h3 h7 z1
  refine Fn.of (fn := Try.f12) (by kernel_rfl) rfl (by kernel_rfl) ⟨[.agg [.sl f 1 (strRow ns), .sl g 1 (u32Row us)], .agg [.v (.int .i64 sp.code), .v (.int .i64 sp.mem), .v (.int .i64 sp.stack), .v (.int .i64 sp.val), .sl false 1 (intRow sp.ws)], .agg [.sl fd 1 (intRow d.l), .v (.int .i64 d.a), .sl gd 1 (intRow d.g)], .v undef, .v undef, .v undef, .v undef, .v undef, .v undef, .v undef, .v undef, .v undef, .v undef, .v undef, .v undef, .v undef, .v undef, .v undef, .v undef, .v undef, .v undef, .v undef, .v undef, .v undef, .v undef, .v undef, .v undef, .v undef, .v undef, .v undef, .v undef, .v undef, .v undef, .v undef, .v undef, .v undef, .v undef, .v undef, .v undef, .v undef, .v undef, .v undef, .v undef, .v undef, .v undef, .v undef, .v undef, .v undef, .v undef, .v undef, .v undef, .v undef, .v undef, .v undef, .v undef, .v undef, .v undef, .v undef, .v undef, .v undef, .v undef, .v undef, .v undef, .v undef, .v undef, .v undef, .v undef, .v undef, .v undef, .v undef, .v undef, .v undef, .v undef, .v undef, .v undef, .v undef, .v undef, .v undef, .v undef, .v undef, .v undef, .v undef, .v undef], []⟩ rfl ?_
  repeat' first | (with_reducible first | refine AWP_seq' ?_ | refine k_normal ?_ | refine k_ret ?_ | refine k_exit ?_ | refine b_normal ?_ | refine b_ret ?_ | refine b_exit ?_ | refine b_pass rfl ?_ | refine AWP_ret ?_ | refine AWP_skip ?_ | refine AWP_exit ?_ | refine AWP_block ?_) | ((with_reducible first | refine AWP_reg fun KC J hJ hKC => ?_ | refine AWP_regD rfl fun KC J hJ hKC => ?_); simp (maxSteps := 10000000) only [push_cast, seval, ↓reduceIte, q1, q2, q3, q4, q5, take_minL (K := 16) (k := 16) rfl sp.ws, undef, beq_self_eq_true, bne_self_eq_false]) | ((with_reducible refine And.intro ?_ ?_); · exact Sq) | (refine hKC _ _ _ _ _ (callV0 (h1) rfl rfl rfl ?_ ?_); (· exact Lq); simp (maxSteps := 10000000) only [push_cast, seval, ↓reduceIte, q1, q2, q3, q4, q5, take_minL (K := 16) (k := 16) rfl sp.ws, undef, beq_self_eq_true, bne_self_eq_false]) | (refine hKC _ _ _ _ _ (callV0 (h2) rfl rfl rfl ?_ ?_); (· exact Lq); simp (maxSteps := 10000000) only [push_cast, seval, ↓reduceIte, q1, q2, q3, q4, q5, take_minL (K := 16) (k := 16) rfl sp.ws, undef, beq_self_eq_true, bne_self_eq_false]) | (refine hKC _ _ _ _ _ (callV0 (h3) rfl rfl rfl ?_ ?_); (· exact Lq); simp (maxSteps := 10000000) only [push_cast, seval, ↓reduceIte, q1, q2, q3, q4, q5, take_minL (K := 16) (k := 16) rfl sp.ws, undef, beq_self_eq_true, bne_self_eq_false]) | (refine hKC _ _ _ _ _ (callV0 (h4) rfl rfl rfl ?_ ?_); (· exact Lq); simp (maxSteps := 10000000) only [push_cast, seval, ↓reduceIte, q1, q2, q3, q4, q5, take_minL (K := 16) (k := 16) rfl sp.ws, undef, beq_self_eq_true, bne_self_eq_false]) | (refine hKC _ _ _ _ _ (callV0 (h5) rfl rfl rfl ?_ ?_); (· exact Lq); simp (maxSteps := 10000000) only [push_cast, seval, ↓reduceIte, q1, q2, q3, q4, q5, take_minL (K := 16) (k := 16) rfl sp.ws, undef, beq_self_eq_true, bne_self_eq_false]) | (refine hKC _ _ _ _ _ (callV0 (h6) rfl rfl rfl ?_ ?_); (· exact Lq); simp (maxSteps := 10000000) only [push_cast, seval, ↓reduceIte, q1, q2, q3, q4, q5, take_minL (K := 16) (k := 16) rfl sp.ws, undef, beq_self_eq_true, bne_self_eq_false]) | (refine hKC _ _ _ _ _ (callV0 (h7) rfl rfl rfl ?_ ?_); (· exact Lq); simp (maxSteps := 10000000) only [push_cast, seval, ↓reduceIte, q1, q2, q3, q4, q5, take_minL (K := 16) (k := 16) rfl sp.ws, undef, beq_self_eq_true, bne_self_eq_false]) | (refine hKC _ _ _ _ _ (callV0 (z1) rfl rfl rfl ?_ ?_); (· exact Lq); simp (maxSteps := 10000000) only [push_cast, seval, ↓reduceIte, q1, q2, q3, q4, q5, take_minL (K := 16) (k := 16) rfl sp.ws, undef, beq_self_eq_true, bne_self_eq_false]) | (refine hKC _ _ _ _ _ (callV0 (z2) rfl rfl rfl ?_ ?_); (· exact Lq); simp (maxSteps := 10000000) only [push_cast, seval, ↓reduceIte, q1, q2, q3, q4, q5, take_minL (K := 16) (k := 16) rfl sp.ws, undef, beq_self_eq_true, bne_self_eq_false]) | ((first | with_reducible refine hJ _ _ ?_ | (with_reducible refine hJ _ _ ?_ ?_; · kernel_rfl)); clear hJ hKC KC J) | ((with_reducible refine AWP_condT ?_ ?_); · rfl) | ((with_reducible refine AWP_condF ?_ ?_); · rfl) | ((with_reducible refine ite_intro (fun hs => ?_) (fun hs => ?_)) <;> (try simp only [Bool.not_eq_true, Bool.not_eq_false, Bool.not_eq_true', Bool.not_eq_false', Decidable.not_not, decide_eq_true_eq, decide_eq_false_iff_not] at hs) <;> (try simp (maxSteps := 10000000) only [push_cast, seval, ↓reduceIte, hs, q1, q2, q3, q4, q5, take_minL (K := 16) (k := 16) rfl sp.ws, undef, beq_self_eq_true, bne_self_eq_false])) | (refine AWP_cond rfl (fun h => ?_) (fun h => ?_) <;> try simp only [decide_eq_true_eq, decide_eq_false_iff_not, Bool.not_eq_true', Bool.not_eq_false', beq_iff_eq, bne_iff_ne, ne_eq, Bool.not_eq_true, Bool.or_eq_true, Bool.and_eq_true, Bool.or_eq_false_iff, Bool.and_eq_false_imp, beq_eq_false_iff_ne, bne_eq_false_iff_eq] at h)
  refine ret_plain ?_
  simp (maxSteps := 10000000) only [push_cast, seval, ↓reduceIte, show Try.f12.results = #[(.tmp 6)] from rfl]
  exact Lq
end Go.Proofs.Ytabliglgeiajlaa.AM
