/- GenHas. -/
import Derived.Test.YtabliglgeiajlaaL15
import Derived.Test.YtabliglgeiajlaaHJ
set_option linter.unusedSimpArgs false
set_option linter.unusedVariables false
namespace Go.Proofs.Ytabliglgeiajlaa.AM
open Go Go.RowKit Go.Proofs
set_option maxRecDepth 100000
set_option maxHeartbeats 4000000

theorem genHasLaw_fn (f g fc fm fs fo : Bool) (ns : List ByteArray) (us : List Nat) (sp : Sp) (s : Sta) (hu0 : U32 us) :
    Fn Try.prog 15 [.agg [.sl f 1 (strRow ns), .sl g 1 (u32Row us)], .agg (spF false sp), .agg (staF fc fm fs fo s)] [] (.v (.bool true)) [] := by
  have hs := szs_few ns
  have hu := u32_few hu0
  have h1 := few15_fn f g ns us
  have h2 := cut15_fn fc fm fs fo s
  obtain ⟨xs, hxs⟩ : ∃ xs, (ns.take 10).map cutS = xs := ⟨_, rfl⟩
  obtain ⟨ys, hys⟩ : ∃ xs, us.take 10 = xs := ⟨_, rfl⟩
  rw [hxs] at hs h1
  rw [hys] at hu h1
  obtain ⟨q, hq⟩ : ∃ q, spCut sp = q := ⟨_, rfl⟩
  have hqw : q.ws.length ≤ 1000 := by rw [← hq]; simp [spCut]; omega
  have q1 : sp.code = q.code := by rw [← hq]; rfl
  have q2 : sp.mem = q.mem := by rw [← hq]; rfl
  have q3 : sp.stack = q.stack := by rw [← hq]; rfl
  have q4 : sp.val = q.val := by rw [← hq]; rfl
  have q5 : sp.ws.take 16 = q.ws := by rw [← hq]; rfl
  have hsm := cutSta_15 s
  obtain ⟨S, hS⟩ : ∃ S, cutSta s = S := ⟨_, rfl⟩
  rw [hS] at h2 hsm
  have h3 := genHas_fn false false false xs ys q S hs hu hqw hsm.sml
  have h4 := rMay15_fn false false false xs ys q hs hu hqw
  have h5 := genRight_fn false q hqw
  have h6 := rRight15_fn false q hqw
  have h7 := alive15_fn
  have h8 := fun h : mayG xs ys q = 0 => rHas15_fn false false false xs ys q S (mayG_ok h).2 hsm.sml
  unfold hasF at h3
  obtain ⟨m, hm⟩ : ∃ m, mayG xs ys q = m := ⟨_, rfl⟩
  obtain ⟨r, hr⟩ : ∃ r, spB q = r := ⟨_, rfl⟩
  obtain ⟨b, hb⟩ : ∃ b, hasB ys.length q S = b := ⟨_, rfl⟩
  rw [hm] at h3 h4 h8
  rw [hr] at h5 h6
  rw [hb] at h3 h8
  have hrr : (r != r) = false := by cases r <;> rfl
  have hbb : (b == b) = true := by cases b <;> rfl
  by_cases h0 : m = 0
  · subst h0
    have h8 := h8 rfl
    rw [decide_eq_true rfl, Bool.true_and] at h3
    simp only [staF, spF] at h2 h3 h4 h5 h6 h8 ⊢
    refine Fn.of (fn := Try.f15) (by kernel_rfl) rfl (by kernel_rfl) ⟨[.agg [.sl f 1 (strRow ns), .sl g 1 (u32Row us)], .agg [.v (.int .i64 sp.code), .v (.int .i64 sp.mem), .v (.int .i64 sp.stack), .v (.int .i64 sp.val), .sl false 1 (intRow sp.ws)], .agg [.v (.int .i64 s.v), .v (.int .i64 s.l), .sl fc 3 (tRow s.code), .sl fm 2 (pRow s.mem), .sl fs 3 (sRow s.stack), .sl fo 2 (pRow s.out)], .v undef, .v undef, .v undef, .v undef, .v undef, .v undef, .v undef, .v undef, .v undef, .v undef, .v undef, .v undef, .v undef, .v undef, .v undef, .v undef, .v undef, .v undef, .v undef, .v undef, .v undef, .v undef, .v undef, .v undef, .v undef, .v undef, .v undef, .v undef, .v undef, .v undef, .v undef, .v undef, .v undef, .v undef, .v undef, .v undef, .v undef, .v undef, .v undef, .v undef, .v undef, .v undef, .v undef, .v undef, .v undef, .v undef, .v undef, .v undef, .v undef, .v undef, .v undef, .v undef, .v undef, .v undef, .v undef, .v undef, .v undef], []⟩ rfl ?_
    repeat' first | (with_reducible first | refine AWP_seq' ?_ | refine k_normal ?_ | refine k_ret ?_ | refine k_exit ?_ | refine b_normal ?_ | refine b_ret ?_ | refine b_exit ?_ | refine b_pass rfl ?_ | refine AWP_ret ?_ | refine AWP_skip ?_ | refine AWP_exit ?_ | refine AWP_block ?_) | ((with_reducible first | refine AWP_reg fun KC J hJ hKC => ?_ | refine AWP_regD rfl fun KC J hJ hKC => ?_); simp (maxSteps := 10000000) only [push_cast, seval, ↓reduceIte, q1, q2, q3, q4, q5, take_minL (K := 16) (k := 16) rfl sp.ws, hrr, hbb, undef, beq_self_eq_true, bne_self_eq_false]) | ((with_reducible refine And.intro ?_ ?_); · exact Sq) | (refine hKC _ _ _ _ _ (callV0 (h1) rfl rfl rfl ?_ ?_); (· exact Lq); simp (maxSteps := 10000000) only [push_cast, seval, ↓reduceIte, q1, q2, q3, q4, q5, take_minL (K := 16) (k := 16) rfl sp.ws, hrr, hbb, undef, beq_self_eq_true, bne_self_eq_false]) | (refine hKC _ _ _ _ _ (callV0 (h2) rfl rfl rfl ?_ ?_); (· exact Lq); simp (maxSteps := 10000000) only [push_cast, seval, ↓reduceIte, q1, q2, q3, q4, q5, take_minL (K := 16) (k := 16) rfl sp.ws, hrr, hbb, undef, beq_self_eq_true, bne_self_eq_false]) | (refine hKC _ _ _ _ _ (callV0 (h3) rfl rfl rfl ?_ ?_); (· exact Lq); simp (maxSteps := 10000000) only [push_cast, seval, ↓reduceIte, q1, q2, q3, q4, q5, take_minL (K := 16) (k := 16) rfl sp.ws, hrr, hbb, undef, beq_self_eq_true, bne_self_eq_false]) | (refine hKC _ _ _ _ _ (callV0 (h4) rfl rfl rfl ?_ ?_); (· exact Lq); simp (maxSteps := 10000000) only [push_cast, seval, ↓reduceIte, q1, q2, q3, q4, q5, take_minL (K := 16) (k := 16) rfl sp.ws, hrr, hbb, undef, beq_self_eq_true, bne_self_eq_false]) | (refine hKC _ _ _ _ _ (callV0 (h5) rfl rfl rfl ?_ ?_); (· exact Lq); simp (maxSteps := 10000000) only [push_cast, seval, ↓reduceIte, q1, q2, q3, q4, q5, take_minL (K := 16) (k := 16) rfl sp.ws, hrr, hbb, undef, beq_self_eq_true, bne_self_eq_false]) | (refine hKC _ _ _ _ _ (callV0 (h6) rfl rfl rfl ?_ ?_); (· exact Lq); simp (maxSteps := 10000000) only [push_cast, seval, ↓reduceIte, q1, q2, q3, q4, q5, take_minL (K := 16) (k := 16) rfl sp.ws, hrr, hbb, undef, beq_self_eq_true, bne_self_eq_false]) | (refine hKC _ _ _ _ _ (callV0 (h7) rfl rfl rfl ?_ ?_); (· exact Lq); simp (maxSteps := 10000000) only [push_cast, seval, ↓reduceIte, q1, q2, q3, q4, q5, take_minL (K := 16) (k := 16) rfl sp.ws, hrr, hbb, undef, beq_self_eq_true, bne_self_eq_false]) | (refine hKC _ _ _ _ _ (callV0 (h8) rfl rfl rfl ?_ ?_); (· exact Lq); simp (maxSteps := 10000000) only [push_cast, seval, ↓reduceIte, q1, q2, q3, q4, q5, take_minL (K := 16) (k := 16) rfl sp.ws, hrr, hbb, undef, beq_self_eq_true, bne_self_eq_false]) | ((first | with_reducible refine hJ _ _ ?_ | (with_reducible refine hJ _ _ ?_ ?_; · kernel_rfl)); clear hJ hKC KC J) | ((with_reducible refine AWP_condT ?_ ?_); · rfl) | ((with_reducible refine AWP_condF ?_ ?_); · rfl) | ((with_reducible refine ite_intro (fun hs => ?_) (fun hs => ?_)) <;> (try simp only [Bool.not_eq_true, Bool.not_eq_false, Bool.not_eq_true', Bool.not_eq_false', Decidable.not_not, decide_eq_true_eq, decide_eq_false_iff_not] at hs) <;> (try simp (maxSteps := 10000000) only [push_cast, seval, ↓reduceIte, hs, q1, q2, q3, q4, q5, take_minL (K := 16) (k := 16) rfl sp.ws, hrr, hbb, undef, beq_self_eq_true, bne_self_eq_false])) | (refine AWP_cond rfl (fun h => ?_) (fun h => ?_) <;> try simp only [decide_eq_true_eq, decide_eq_false_iff_not, Bool.not_eq_true', Bool.not_eq_false', beq_iff_eq, bne_iff_ne, ne_eq, Bool.not_eq_true, Bool.or_eq_true, Bool.and_eq_true, Bool.or_eq_false_iff, Bool.and_eq_false_imp, beq_eq_false_iff_ne, bne_eq_false_iff_eq] at h)
    refine ret_plain ?_
    simp (maxSteps := 10000000) only [push_cast, seval, ↓reduceIte, show Try.f15.results = #[(.tmp 6)] from rfl]
    exact Lq
  · have h0' : (m != 0) = true := by simpa using h0
    rw [decide_eq_false h0, Bool.false_and] at h3
    simp only [staF, spF] at h2 h3 h4 h5 h6 ⊢
    refine Fn.of (fn := Try.f15) (by kernel_rfl) rfl (by kernel_rfl) ⟨[.agg [.sl f 1 (strRow ns), .sl g 1 (u32Row us)], .agg [.v (.int .i64 sp.code), .v (.int .i64 sp.mem), .v (.int .i64 sp.stack), .v (.int .i64 sp.val), .sl false 1 (intRow sp.ws)], .agg [.v (.int .i64 s.v), .v (.int .i64 s.l), .sl fc 3 (tRow s.code), .sl fm 2 (pRow s.mem), .sl fs 3 (sRow s.stack), .sl fo 2 (pRow s.out)], .v undef, .v undef, .v undef, .v undef, .v undef, .v undef, .v undef, .v undef, .v undef, .v undef, .v undef, .v undef, .v undef, .v undef, .v undef, .v undef, .v undef, .v undef, .v undef, .v undef, .v undef, .v undef, .v undef, .v undef, .v undef, .v undef, .v undef, .v undef, .v undef, .v undef, .v undef, .v undef, .v undef, .v undef, .v undef, .v undef, .v undef, .v undef, .v undef, .v undef, .v undef, .v undef, .v undef, .v undef, .v undef, .v undef, .v undef, .v undef, .v undef, .v undef, .v undef, .v undef, .v undef, .v undef, .v undef, .v undef, .v undef], []⟩ rfl ?_
    repeat' first | (with_reducible first | refine AWP_seq' ?_ | refine k_normal ?_ | refine k_ret ?_ | refine k_exit ?_ | refine b_normal ?_ | refine b_ret ?_ | refine b_exit ?_ | refine b_pass rfl ?_ | refine AWP_ret ?_ | refine AWP_skip ?_ | refine AWP_exit ?_ | refine AWP_block ?_) | ((with_reducible first | refine AWP_reg fun KC J hJ hKC => ?_ | refine AWP_regD rfl fun KC J hJ hKC => ?_); simp (maxSteps := 10000000) only [push_cast, seval, ↓reduceIte, q1, q2, q3, q4, q5, take_minL (K := 16) (k := 16) rfl sp.ws, hrr, h0', undef, beq_self_eq_true, bne_self_eq_false]) | ((with_reducible refine And.intro ?_ ?_); · exact Sq) | (refine hKC _ _ _ _ _ (callV0 (h1) rfl rfl rfl ?_ ?_); (· exact Lq); simp (maxSteps := 10000000) only [push_cast, seval, ↓reduceIte, q1, q2, q3, q4, q5, take_minL (K := 16) (k := 16) rfl sp.ws, hrr, h0', undef, beq_self_eq_true, bne_self_eq_false]) | (refine hKC _ _ _ _ _ (callV0 (h2) rfl rfl rfl ?_ ?_); (· exact Lq); simp (maxSteps := 10000000) only [push_cast, seval, ↓reduceIte, q1, q2, q3, q4, q5, take_minL (K := 16) (k := 16) rfl sp.ws, hrr, h0', undef, beq_self_eq_true, bne_self_eq_false]) | (refine hKC _ _ _ _ _ (callV0 (h3) rfl rfl rfl ?_ ?_); (· exact Lq); simp (maxSteps := 10000000) only [push_cast, seval, ↓reduceIte, q1, q2, q3, q4, q5, take_minL (K := 16) (k := 16) rfl sp.ws, hrr, h0', undef, beq_self_eq_true, bne_self_eq_false]) | (refine hKC _ _ _ _ _ (callV0 (h4) rfl rfl rfl ?_ ?_); (· exact Lq); simp (maxSteps := 10000000) only [push_cast, seval, ↓reduceIte, q1, q2, q3, q4, q5, take_minL (K := 16) (k := 16) rfl sp.ws, hrr, h0', undef, beq_self_eq_true, bne_self_eq_false]) | (refine hKC _ _ _ _ _ (callV0 (h5) rfl rfl rfl ?_ ?_); (· exact Lq); simp (maxSteps := 10000000) only [push_cast, seval, ↓reduceIte, q1, q2, q3, q4, q5, take_minL (K := 16) (k := 16) rfl sp.ws, hrr, h0', undef, beq_self_eq_true, bne_self_eq_false]) | (refine hKC _ _ _ _ _ (callV0 (h6) rfl rfl rfl ?_ ?_); (· exact Lq); simp (maxSteps := 10000000) only [push_cast, seval, ↓reduceIte, q1, q2, q3, q4, q5, take_minL (K := 16) (k := 16) rfl sp.ws, hrr, h0', undef, beq_self_eq_true, bne_self_eq_false]) | (refine hKC _ _ _ _ _ (callV0 (h7) rfl rfl rfl ?_ ?_); (· exact Lq); simp (maxSteps := 10000000) only [push_cast, seval, ↓reduceIte, q1, q2, q3, q4, q5, take_minL (K := 16) (k := 16) rfl sp.ws, hrr, h0', undef, beq_self_eq_true, bne_self_eq_false]) | ((first | with_reducible refine hJ _ _ ?_ | (with_reducible refine hJ _ _ ?_ ?_; · kernel_rfl)); clear hJ hKC KC J) | ((with_reducible refine AWP_condT ?_ ?_); · rfl) | ((with_reducible refine AWP_condF ?_ ?_); · rfl) | ((with_reducible refine ite_intro (fun hs => ?_) (fun hs => ?_)) <;> (try simp only [Bool.not_eq_true, Bool.not_eq_false, Bool.not_eq_true', Bool.not_eq_false', Decidable.not_not, decide_eq_true_eq, decide_eq_false_iff_not] at hs) <;> (try simp (maxSteps := 10000000) only [push_cast, seval, ↓reduceIte, hs, q1, q2, q3, q4, q5, take_minL (K := 16) (k := 16) rfl sp.ws, hrr, h0', undef, beq_self_eq_true, bne_self_eq_false])) | (refine AWP_cond rfl (fun h => ?_) (fun h => ?_) <;> try simp only [decide_eq_true_eq, decide_eq_false_iff_not, Bool.not_eq_true', Bool.not_eq_false', beq_iff_eq, bne_iff_ne, ne_eq, Bool.not_eq_true, Bool.or_eq_true, Bool.and_eq_true, Bool.or_eq_false_iff, Bool.and_eq_false_imp, beq_eq_false_iff_ne, bne_eq_false_iff_eq] at h)
    refine ret_plain ?_
    simp (maxSteps := 10000000) only [push_cast, seval, ↓reduceIte, show Try.f15.results = #[(.tmp 6)] from rfl]
    exact Lq
end Go.Proofs.Ytabliglgeiajlaa.AM
