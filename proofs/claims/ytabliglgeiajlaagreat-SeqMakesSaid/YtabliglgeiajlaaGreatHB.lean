/- Whether rows hold something; states that may be. -/
import Derived.Test.YtabliglgeiajlaaGreatHA
import Derived.Test.YtabliglgeiajlaaGreatHU
import Derived.Test.YtabliglgeiajlaaGreatHM
import Derived.Test.YtabliglgeiajlaaGreatU0
set_option linter.unusedSimpArgs false
set_option linter.unusedVariables false
namespace Go.Proofs.YtabliglgeiajlaaGreat.AM
open Go Go.RowKit Go.Proofs
set_option maxRecDepth 100000
set_option maxHeartbeats 2000000

theorem indexFuncT_fn (f : Bool) (xs : List (Int × Int × Int)) (cf : Nat) (caps : List D) (p : Int × Int × Int → Bool) (hb : xs.length ≤ 1000) (hc : frz0All caps = true)
    (hp : ∀ x ∈ xs, Fn Tryz.prog cf (.agg [.v (.int .i64 x.1), .v (.int .i64 x.2.1), .v (.int .i64 x.2.2)] :: caps) [] (.v (.bool (p x))) []) : Fn Tryz.prog 196 [.sl f 3 (tRow xs), .fn cf caps] [] (.v (.int .i64 (idxF p xs))) [] := by
  refine Fn.of (fn := Tryz.f196) (by kernel_rfl) rfl (by kernel_rfl) ⟨[.sl f 3 (tRow xs), .fn cf caps, .v undef, .v undef, .v undef, .v undef, .v undef, .v undef, .v undef, .v undef, .v undef, .v undef, .v undef, .v undef, .v undef, .v undef, .v undef, .v undef, .v undef], []⟩ rfl ?_
  repeat' first | (with_reducible first | refine AWP_seq' ?_ | refine k_normal ?_ | refine AWP_block ?_) | ((with_reducible refine AWP_reg fun KC J hJ hKC => ?_); simp (maxSteps := 10000000) only [push_cast, seval, ↓reduceIte]) | ((with_reducible refine hJ _ _ ?_); clear hJ hKC KC J)
  refine AWP_loopF (γ := {i : Nat // i ≤ xs.length ∧ ∀ (j : Nat) (hj : j < xs.length), j < i → p xs[j] = false}) (fun i => ⟨[.sl f 3 (tRow xs), .fn cf caps, .any, .any, .any, .any, .any, .v (.int .i64 xs.length), .v (.int .i64 i.1), .any, .any, .any, .any, .any, .any, .any, .any, .any, .any], []⟩) (fun i => xs.length - i.1) ⟨0, by simp⟩ ⟨?_, Fq⟩ ?_
  · exact Lq
  · rintro ⟨i, hi, hn⟩
    by_cases hlt : (i : Int) < (xs.length : Int)
    · have hx : xs[i]? = some xs[i] := List.getElem?_eq_getElem (by omega)
      have hfn := hp xs[i] (List.getElem_mem (by omega))
      repeat' first | (with_reducible first | refine AWP_seq' ?_ | refine k_normal ?_ | refine k_ret ?_ | refine b_normal ?_ | refine b_ret ?_ | refine AWP_ret ?_ | refine AWP_skip ?_ | refine AWP_block ?_) | ((with_reducible refine AWP_reg fun KC J hJ hKC => ?_); simp (maxSteps := 10000000) only [push_cast, seval, ↓reduceIte, hlt, getE_t hx, wrapN (i := i) (n := xs.length) (by omega) (by omega)]) | ((with_reducible refine And.intro ?_ ?_); · exact Sq) | (refine hKC _ _ _ _ _ (callV0 (hfn) rfl rfl rfl ?_ ?_); (· exact Lq); simp (maxSteps := 10000000) only [push_cast, seval, ↓reduceIte, hlt, getE_t hx, wrapN (i := i) (n := xs.length) (by omega) (by omega)]) | ((with_reducible refine hJ _ _ ?_); clear hJ hKC KC J) | ((with_reducible refine AWP_condT ?_ ?_); · rfl) | (refine AWP_cond rfl (fun h => ?_) (fun h => ?_) <;> try simp only [decide_eq_true_eq, decide_eq_false_iff_not, Bool.not_eq_true', Bool.not_eq_false', beq_iff_eq, bne_iff_ne, ne_eq, Bool.not_eq_true, Bool.or_eq_true, Bool.and_eq_true, Bool.or_eq_false_iff, Bool.and_eq_false_imp, beq_eq_false_iff_ne, bne_eq_false_iff_eq] at h)
      · refine ret_plain ?_
        simp (maxSteps := 10000000) only [push_cast, seval, ↓reduceIte, show Tryz.f196.results = #[(.tmp 4)] from rfl]
        exact leD_v (by rw [idxF_at (by omega) h hn])
      · refine ⟨⟨i + 1, by omega, fun j hj hji => ?_⟩, by simp only; omega, ?_, Fq⟩
        · by_cases he : j = i
          · subst he; exact h
          · exact hn j hj (by omega)
        · exact Lq
    · skip
      repeat' first | (with_reducible first | refine AWP_seq' ?_ | refine k_normal ?_ | refine k_exit ?_ | refine b_exit ?_ | refine AWP_ret ?_ | refine AWP_exit ?_) | ((with_reducible refine AWP_reg fun KC J hJ hKC => ?_); simp (maxSteps := 10000000) only [push_cast, seval, ↓reduceIte, hlt]) | ((with_reducible refine hJ _ _ ?_); clear hJ hKC KC J) | ((with_reducible refine AWP_condF ?_ ?_); · rfl)
      refine ret_plain ?_
      simp (maxSteps := 10000000) only [push_cast, seval, ↓reduceIte, show Tryz.f196.results = #[(.tmp 4)] from rfl]
      exact leD_v (by rw [idxF_none (fun j hj => hn j hj (by omega))])
theorem containsFuncT_fn (f : Bool) (xs : List (Int × Int × Int)) (cf : Nat) (caps : List D) (p : Int × Int × Int → Bool) (hb : xs.length ≤ 1000) (hc : frz0All caps = true)
    (hp : ∀ x ∈ xs, Fn Tryz.prog cf (.agg [.v (.int .i64 x.1), .v (.int .i64 x.2.1), .v (.int .i64 x.2.2)] :: caps) [] (.v (.bool (p x))) []) : Fn Tryz.prog 97 [.sl f 3 (tRow xs), .fn cf caps] [] (.v (.bool (xs.any p))) [] := by
  have hfn := indexFuncT_fn f xs cf caps p hb hc hp
  refine Fn.of (fn := Tryz.f97) (by kernel_rfl) rfl (by kernel_rfl) ⟨[.sl f 3 (tRow xs), .fn cf caps, .v undef, .v undef, .v undef, .v undef, .v undef, .v undef, .v undef], []⟩ rfl ?_
  repeat' first | (with_reducible first | refine AWP_seq' ?_ | refine k_normal ?_ | refine AWP_ret ?_) | ((with_reducible refine AWP_reg fun KC J hJ hKC => ?_); simp (maxSteps := 10000000) only [push_cast, seval, ↓reduceIte, idxF_any]) | (refine hKC _ _ _ _ _ (callV0 (hfn) rfl rfl rfl ?_ ?_); (· exact Lq); simp (maxSteps := 10000000) only [push_cast, seval, ↓reduceIte, idxF_any]) | ((with_reducible refine hJ _ _ ?_); clear hJ hKC KC J)
  refine ret_plain ?_
  simp (maxSteps := 10000000) only [push_cast, seval, ↓reduceIte, show Tryz.f97.results = #[(.tmp 4)] from rfl]
  exact leD_refl _
theorem indexFuncA_fn (f : Bool) (xs : List (Int × Int)) (cf : Nat) (caps : List D) (p : Int × Int → Bool) (hb : xs.length ≤ 1000) (hc : frz0All caps = true)
    (hp : ∀ x ∈ xs, Fn Tryz.prog cf (.agg [.v (.int .i64 x.1), .v (.int .i64 x.2)] :: caps) [] (.v (.bool (p x))) []) : Fn Tryz.prog 197 [.sl f 2 (pRow xs), .fn cf caps] [] (.v (.int .i64 (idxF p xs))) [] := by
  refine Fn.of (fn := Tryz.f197) (by kernel_rfl) rfl (by kernel_rfl) ⟨[.sl f 2 (pRow xs), .fn cf caps, .v undef, .v undef, .v undef, .v undef, .v undef, .v undef, .v undef, .v undef, .v undef, .v undef, .v undef, .v undef, .v undef, .v undef, .v undef, .v undef, .v undef], []⟩ rfl ?_
  repeat' first | (with_reducible first | refine AWP_seq' ?_ | refine k_normal ?_ | refine AWP_block ?_) | ((with_reducible refine AWP_reg fun KC J hJ hKC => ?_); simp (maxSteps := 10000000) only [push_cast, seval, ↓reduceIte]) | ((with_reducible refine hJ _ _ ?_); clear hJ hKC KC J)
  refine AWP_loopF (γ := {i : Nat // i ≤ xs.length ∧ ∀ (j : Nat) (hj : j < xs.length), j < i → p xs[j] = false}) (fun i => ⟨[.sl f 2 (pRow xs), .fn cf caps, .any, .any, .any, .any, .any, .v (.int .i64 xs.length), .v (.int .i64 i.1), .any, .any, .any, .any, .any, .any, .any, .any, .any, .any], []⟩) (fun i => xs.length - i.1) ⟨0, by simp⟩ ⟨?_, Fq⟩ ?_
  · exact Lq
  · rintro ⟨i, hi, hn⟩
    by_cases hlt : (i : Int) < (xs.length : Int)
    · have hx : xs[i]? = some xs[i] := List.getElem?_eq_getElem (by omega)
      have hfn := hp xs[i] (List.getElem_mem (by omega))
      repeat' first | (with_reducible first | refine AWP_seq' ?_ | refine k_normal ?_ | refine k_ret ?_ | refine b_normal ?_ | refine b_ret ?_ | refine AWP_ret ?_ | refine AWP_skip ?_ | refine AWP_block ?_) | ((with_reducible refine AWP_reg fun KC J hJ hKC => ?_); simp (maxSteps := 10000000) only [push_cast, seval, ↓reduceIte, hlt, getE_p hx, wrapN (i := i) (n := xs.length) (by omega) (by omega)]) | ((with_reducible refine And.intro ?_ ?_); · exact Sq) | (refine hKC _ _ _ _ _ (callV0 (hfn) rfl rfl rfl ?_ ?_); (· exact Lq); simp (maxSteps := 10000000) only [push_cast, seval, ↓reduceIte, hlt, getE_p hx, wrapN (i := i) (n := xs.length) (by omega) (by omega)]) | ((with_reducible refine hJ _ _ ?_); clear hJ hKC KC J) | ((with_reducible refine AWP_condT ?_ ?_); · rfl) | (refine AWP_cond rfl (fun h => ?_) (fun h => ?_) <;> try simp only [decide_eq_true_eq, decide_eq_false_iff_not, Bool.not_eq_true', Bool.not_eq_false', beq_iff_eq, bne_iff_ne, ne_eq, Bool.not_eq_true, Bool.or_eq_true, Bool.and_eq_true, Bool.or_eq_false_iff, Bool.and_eq_false_imp, beq_eq_false_iff_ne, bne_eq_false_iff_eq] at h)
      · refine ret_plain ?_
        simp (maxSteps := 10000000) only [push_cast, seval, ↓reduceIte, show Tryz.f197.results = #[(.tmp 4)] from rfl]
        exact leD_v (by rw [idxF_at (by omega) h hn])
      · refine ⟨⟨i + 1, by omega, fun j hj hji => ?_⟩, by simp only; omega, ?_, Fq⟩
        · by_cases he : j = i
          · subst he; exact h
          · exact hn j hj (by omega)
        · exact Lq
    · skip
      repeat' first | (with_reducible first | refine AWP_seq' ?_ | refine k_normal ?_ | refine k_exit ?_ | refine b_exit ?_ | refine AWP_ret ?_ | refine AWP_exit ?_) | ((with_reducible refine AWP_reg fun KC J hJ hKC => ?_); simp (maxSteps := 10000000) only [push_cast, seval, ↓reduceIte, hlt]) | ((with_reducible refine hJ _ _ ?_); clear hJ hKC KC J) | ((with_reducible refine AWP_condF ?_ ?_); · rfl)
      refine ret_plain ?_
      simp (maxSteps := 10000000) only [push_cast, seval, ↓reduceIte, show Tryz.f197.results = #[(.tmp 4)] from rfl]
      exact leD_v (by rw [idxF_none (fun j hj => hn j hj (by omega))])
theorem containsFuncA_fn (f : Bool) (xs : List (Int × Int)) (cf : Nat) (caps : List D) (p : Int × Int → Bool) (hb : xs.length ≤ 1000) (hc : frz0All caps = true)
    (hp : ∀ x ∈ xs, Fn Tryz.prog cf (.agg [.v (.int .i64 x.1), .v (.int .i64 x.2)] :: caps) [] (.v (.bool (p x))) []) : Fn Tryz.prog 98 [.sl f 2 (pRow xs), .fn cf caps] [] (.v (.bool (xs.any p))) [] := by
  have hfn := indexFuncA_fn f xs cf caps p hb hc hp
  refine Fn.of (fn := Tryz.f98) (by kernel_rfl) rfl (by kernel_rfl) ⟨[.sl f 2 (pRow xs), .fn cf caps, .v undef, .v undef, .v undef, .v undef, .v undef, .v undef, .v undef], []⟩ rfl ?_
  repeat' first | (with_reducible first | refine AWP_seq' ?_ | refine k_normal ?_ | refine AWP_ret ?_) | ((with_reducible refine AWP_reg fun KC J hJ hKC => ?_); simp (maxSteps := 10000000) only [push_cast, seval, ↓reduceIte, idxF_any]) | (refine hKC _ _ _ _ _ (callV0 (hfn) rfl rfl rfl ?_ ?_); (· exact Lq); simp (maxSteps := 10000000) only [push_cast, seval, ↓reduceIte, idxF_any]) | ((with_reducible refine hJ _ _ ?_); clear hJ hKC KC J)
  refine ret_plain ?_
  simp (maxSteps := 10000000) only [push_cast, seval, ↓reduceIte, show Tryz.f98.results = #[(.tmp 4)] from rfl]
  exact leD_refl _
theorem indexFuncS_fn (f : Bool) (xs : List (Bool × Int × Int)) (cf : Nat) (caps : List D) (p : Bool × Int × Int → Bool) (hb : xs.length ≤ 1000) (hc : frz0All caps = true)
    (hp : ∀ x ∈ xs, Fn Tryz.prog cf (.agg [.v (.bool x.1), .v (.int .i64 x.2.1), .v (.int .i64 x.2.2)] :: caps) [] (.v (.bool (p x))) []) : Fn Tryz.prog 198 [.sl f 3 (sRow xs), .fn cf caps] [] (.v (.int .i64 (idxF p xs))) [] := by
  refine Fn.of (fn := Tryz.f198) (by kernel_rfl) rfl (by kernel_rfl) ⟨[.sl f 3 (sRow xs), .fn cf caps, .v undef, .v undef, .v undef, .v undef, .v undef, .v undef, .v undef, .v undef, .v undef, .v undef, .v undef, .v undef, .v undef, .v undef, .v undef, .v undef, .v undef], []⟩ rfl ?_
  repeat' first | (with_reducible first | refine AWP_seq' ?_ | refine k_normal ?_ | refine AWP_block ?_) | ((with_reducible refine AWP_reg fun KC J hJ hKC => ?_); simp (maxSteps := 10000000) only [push_cast, seval, ↓reduceIte]) | ((with_reducible refine hJ _ _ ?_); clear hJ hKC KC J)
  refine AWP_loopF (γ := {i : Nat // i ≤ xs.length ∧ ∀ (j : Nat) (hj : j < xs.length), j < i → p xs[j] = false}) (fun i => ⟨[.sl f 3 (sRow xs), .fn cf caps, .any, .any, .any, .any, .any, .v (.int .i64 xs.length), .v (.int .i64 i.1), .any, .any, .any, .any, .any, .any, .any, .any, .any, .any], []⟩) (fun i => xs.length - i.1) ⟨0, by simp⟩ ⟨?_, Fq⟩ ?_
  · exact Lq
  · rintro ⟨i, hi, hn⟩
    by_cases hlt : (i : Int) < (xs.length : Int)
    · have hx : xs[i]? = some xs[i] := List.getElem?_eq_getElem (by omega)
      have hfn := hp xs[i] (List.getElem_mem (by omega))
      repeat' first | (with_reducible first | refine AWP_seq' ?_ | refine k_normal ?_ | refine k_ret ?_ | refine b_normal ?_ | refine b_ret ?_ | refine AWP_ret ?_ | refine AWP_skip ?_ | refine AWP_block ?_) | ((with_reducible refine AWP_reg fun KC J hJ hKC => ?_); simp (maxSteps := 10000000) only [push_cast, seval, ↓reduceIte, hlt, getE_s hx, wrapN (i := i) (n := xs.length) (by omega) (by omega)]) | ((with_reducible refine And.intro ?_ ?_); · exact Sq) | (refine hKC _ _ _ _ _ (callV0 (hfn) rfl rfl rfl ?_ ?_); (· exact Lq); simp (maxSteps := 10000000) only [push_cast, seval, ↓reduceIte, hlt, getE_s hx, wrapN (i := i) (n := xs.length) (by omega) (by omega)]) | ((with_reducible refine hJ _ _ ?_); clear hJ hKC KC J) | ((with_reducible refine AWP_condT ?_ ?_); · rfl) | (refine AWP_cond rfl (fun h => ?_) (fun h => ?_) <;> try simp only [decide_eq_true_eq, decide_eq_false_iff_not, Bool.not_eq_true', Bool.not_eq_false', beq_iff_eq, bne_iff_ne, ne_eq, Bool.not_eq_true, Bool.or_eq_true, Bool.and_eq_true, Bool.or_eq_false_iff, Bool.and_eq_false_imp, beq_eq_false_iff_ne, bne_eq_false_iff_eq] at h)
      · refine ret_plain ?_
        simp (maxSteps := 10000000) only [push_cast, seval, ↓reduceIte, show Tryz.f198.results = #[(.tmp 4)] from rfl]
        exact leD_v (by rw [idxF_at (by omega) h hn])
      · refine ⟨⟨i + 1, by omega, fun j hj hji => ?_⟩, by simp only; omega, ?_, Fq⟩
        · by_cases he : j = i
          · subst he; exact h
          · exact hn j hj (by omega)
        · exact Lq
    · skip
      repeat' first | (with_reducible first | refine AWP_seq' ?_ | refine k_normal ?_ | refine k_exit ?_ | refine b_exit ?_ | refine AWP_ret ?_ | refine AWP_exit ?_) | ((with_reducible refine AWP_reg fun KC J hJ hKC => ?_); simp (maxSteps := 10000000) only [push_cast, seval, ↓reduceIte, hlt]) | ((with_reducible refine hJ _ _ ?_); clear hJ hKC KC J) | ((with_reducible refine AWP_condF ?_ ?_); · rfl)
      refine ret_plain ?_
      simp (maxSteps := 10000000) only [push_cast, seval, ↓reduceIte, show Tryz.f198.results = #[(.tmp 4)] from rfl]
      exact leD_v (by rw [idxF_none (fun j hj => hn j hj (by omega))])
theorem containsFuncS_fn (f : Bool) (xs : List (Bool × Int × Int)) (cf : Nat) (caps : List D) (p : Bool × Int × Int → Bool) (hb : xs.length ≤ 1000) (hc : frz0All caps = true)
    (hp : ∀ x ∈ xs, Fn Tryz.prog cf (.agg [.v (.bool x.1), .v (.int .i64 x.2.1), .v (.int .i64 x.2.2)] :: caps) [] (.v (.bool (p x))) []) : Fn Tryz.prog 100 [.sl f 3 (sRow xs), .fn cf caps] [] (.v (.bool (xs.any p))) [] := by
  have hfn := indexFuncS_fn f xs cf caps p hb hc hp
  refine Fn.of (fn := Tryz.f100) (by kernel_rfl) rfl (by kernel_rfl) ⟨[.sl f 3 (sRow xs), .fn cf caps, .v undef, .v undef, .v undef, .v undef, .v undef, .v undef, .v undef], []⟩ rfl ?_
  repeat' first | (with_reducible first | refine AWP_seq' ?_ | refine k_normal ?_ | refine AWP_ret ?_) | ((with_reducible refine AWP_reg fun KC J hJ hKC => ?_); simp (maxSteps := 10000000) only [push_cast, seval, ↓reduceIte, idxF_any]) | (refine hKC _ _ _ _ _ (callV0 (hfn) rfl rfl rfl ?_ ?_); (· exact Lq); simp (maxSteps := 10000000) only [push_cast, seval, ↓reduceIte, idxF_any]) | ((with_reducible refine hJ _ _ ?_); clear hJ hKC KC J)
  refine ret_plain ?_
  simp (maxSteps := 10000000) only [push_cast, seval, ↓reduceIte, show Tryz.f100.results = #[(.tmp 4)] from rfl]
  exact leD_refl _
theorem any_not {α : Type} (p : α → Bool) (l : List α) : (!l.any fun x => !p x) = l.all p := by rw [List.all_eq_not_any_not]
/-- A program that may be. -/
theorem codeRight1_fn (f g : Bool) (ns : List ByteArray) (us : List Nat) (x : Int × Int × Int) : Fn Tryz.prog 269 [.agg [.v (.int .i64 x.1), .v (.int .i64 x.2.1), .v (.int .i64 x.2.2)], .fad [.sl f 1 (strRow ns), .sl g 1 (u32Row us)]] [] (.v (.bool (!instrB us.length x))) [] := by
  have h1 := codeRight_fn us.length x
  refine Fn.of (fn := Tryz.f269) (by kernel_rfl) rfl (by kernel_rfl) ⟨[.agg [.v (.int .i64 x.1), .v (.int .i64 x.2.1), .v (.int .i64 x.2.2)], .fad [.sl f 1 (strRow ns), .sl g 1 (u32Row us)], .v undef, .v undef, .v undef, .v undef, .v undef, .v undef, .v undef, .v undef], []⟩ rfl ?_
  repeat' first | (with_reducible first | refine AWP_seq' ?_ | refine k_normal ?_ | refine AWP_ret ?_) | ((with_reducible refine AWP_reg fun KC J hJ hKC => ?_); simp (maxSteps := 10000000) only [push_cast, seval, ↓reduceIte]) | (refine hKC _ _ _ _ _ (callV0 (h1) rfl rfl rfl ?_ ?_); (· exact Lq); simp (maxSteps := 10000000) only [push_cast, seval, ↓reduceIte]) | ((with_reducible refine hJ _ _ ?_); clear hJ hKC KC J)
  refine ret_plain ?_
  simp (maxSteps := 10000000) only [push_cast, seval, ↓reduceIte, show Tryz.f269.results = #[(.tmp 3)] from rfl]
  exact Lq
theorem apiCode_fn (f g h : Bool) (ns : List ByteArray) (us : List Nat) (c : List (Int × Int × Int)) (hs : Szs ns) (hu : U32 us) (hc : checkF ns us = 0) (hl : c.length ≤ 1000) :
    Fn Tryz.prog 195 [.agg [.sl f 1 (strRow ns), .sl g 1 (u32Row us)], .sl h 3 (tRow c)] [] (.v (.bool (codeB us.length c))) [] := by
  have h1 := latCheck_fn f g ns us hs hu
  have h2 := containsFuncT_fn h c 269 [.fad [.sl f 1 (strRow ns), .sl g 1 (u32Row us)]] (fun x => !instrB us.length x) hl rfl (fun x _ => codeRight1_fn f g ns us x)
  rw [hc] at h1
  rw [codeB, Bool.and_comm, ← any_not]
  obtain ⟨a, ha⟩ : ∃ a, (c.any fun x => !instrB us.length x) = a := ⟨_, rfl⟩
  rw [ha] at h2 ⊢
  obtain ⟨b, hb⟩ : ∃ b, decide (c.length ≤ 12) = b := ⟨_, rfl⟩
  have hb' : decide ((c.length : Int) ≤ 12) = b := by rw [← hb]; exact decide_eq_decide.2 (by omega)
  rw [hb]
  refine Fn.of (fn := Tryz.f195) (by kernel_rfl) rfl (by kernel_rfl) ⟨[.agg [.sl f 1 (strRow ns), .sl g 1 (u32Row us)], .sl h 3 (tRow c), .v undef, .v undef, .v undef, .v undef, .v undef, .v undef, .v undef, .v undef, .v undef, .v undef, .v undef, .v undef, .v undef, .v undef, .v undef, .v undef, .v undef, .v undef, .v undef], []⟩ rfl ?_
  cases b
  all_goals
    repeat' first | (refine AWP_freezeR 1 0 rfl (by (simp (maxSteps := 10000000) only [push_cast, seval, ↓reduceIte]) <;> rfl) ?_; simp (maxSteps := 10000000) only [push_cast, seval, ↓reduceIte, frSt, frSlot, fr3, fr2, fr1, fr0, sameB, arrOf, hb', undef]) | (with_reducible first | refine AWP_seq' ?_ | refine k_normal ?_ | refine AWP_ret ?_) | ((with_reducible refine AWP_reg fun KC J hJ hKC => ?_); simp (maxSteps := 10000000) only [push_cast, seval, ↓reduceIte, hb', undef]) | (refine hKC _ _ _ _ _ (callV0 (h1) rfl rfl rfl ?_ ?_); (· exact Lq); simp (maxSteps := 10000000) only [push_cast, seval, ↓reduceIte, hb', undef]) | (refine hKC _ _ _ _ _ (callV0 (h2) rfl rfl rfl ?_ ?_); (· exact Lq); simp (maxSteps := 10000000) only [push_cast, seval, ↓reduceIte, hb', undef]) | ((with_reducible refine hJ _ _ ?_); clear hJ hKC KC J)
    refine ret_plain ?_
    simp (maxSteps := 10000000) only [push_cast, seval, ↓reduceIte, show Tryz.f195.results = #[(.tmp 4)] from rfl]
    exact Lq
theorem stLabel_fn (f g : Bool) (ns : List ByteArray) (us : List Nat) (a : Int) : Fn Tryz.prog 190 [.v (.int .i64 a), .fad [.sl f 1 (strRow ns), .sl g 1 (u32Row us)]] [] (.v (.bool (!oddL us.length a))) [] := by
  obtain ⟨x, hx⟩ : ∃ x, decide (0 ≤ a) = x := ⟨_, rfl⟩
  have ho : (!oddL us.length a) = (x && decide (a < (us.length : Int))) := by
    rw [← hx, Bool.eq_iff_iff]; simp [oddL]
  rw [ho]
  refine Fn.of (fn := Tryz.f190) (by kernel_rfl) rfl (by kernel_rfl) ⟨[.v (.int .i64 a), .fad [.sl f 1 (strRow ns), .sl g 1 (u32Row us)], .v undef, .v undef, .v undef, .v undef, .v undef, .v undef, .v undef, .v undef, .v undef, .v undef, .v undef], []⟩ rfl ?_
  cases x
  all_goals
    repeat' first | (with_reducible first | refine AWP_seq' ?_ | refine k_normal ?_ | refine AWP_ret ?_) | ((with_reducible refine AWP_reg fun KC J hJ hKC => ?_); simp (maxSteps := 10000000) only [push_cast, seval, ↓reduceIte, hx, undef]) | ((with_reducible refine hJ _ _ ?_); clear hJ hKC KC J)
    refine ret_plain ?_
    simp (maxSteps := 10000000) only [push_cast, seval, ↓reduceIte, show Tryz.f190.results = #[(.tmp 3)] from rfl]
    exact Lq
theorem stValue_fn (n : Int) : Fn Tryz.prog 192 [.v (.int .i64 n)] [] (.v (.bool (inB (-20) 20 n))) [] := by
  obtain ⟨x, hx⟩ : ∃ x, decide (-20 ≤ n) = x := ⟨_, rfl⟩
  rw [inB, hx]
  refine Fn.of (fn := Tryz.f192) (by kernel_rfl) rfl (by kernel_rfl) ⟨[.v (.int .i64 n), .v undef, .v undef, .v undef, .v undef, .v undef, .v undef, .v undef, .v undef], []⟩ rfl ?_
  cases x
  all_goals
    repeat' first | (with_reducible first | refine AWP_seq' ?_ | refine k_normal ?_ | refine AWP_ret ?_) | ((with_reducible refine AWP_reg fun KC J hJ hKC => ?_); simp (maxSteps := 10000000) only [push_cast, seval, ↓reduceIte, hx, undef]) | ((with_reducible refine hJ _ _ ?_); clear hJ hKC KC J)
    refine ret_plain ?_
    simp (maxSteps := 10000000) only [push_cast, seval, ↓reduceIte, show Tryz.f192.results = #[(.tmp 2)] from rfl]
    exact Lq
theorem stPlace_fn (n : Int) : Fn Tryz.prog 194 [.v (.int .i64 n)] [] (.v (.bool (inB (0) 12 n))) [] := by
  obtain ⟨x, hx⟩ : ∃ x, decide (0 ≤ n) = x := ⟨_, rfl⟩
  rw [inB, hx]
  refine Fn.of (fn := Tryz.f194) (by kernel_rfl) rfl (by kernel_rfl) ⟨[.v (.int .i64 n), .v undef, .v undef, .v undef, .v undef, .v undef, .v undef, .v undef, .v undef], []⟩ rfl ?_
  cases x
  all_goals
    repeat' first | (with_reducible first | refine AWP_seq' ?_ | refine k_normal ?_ | refine AWP_ret ?_) | ((with_reducible refine AWP_reg fun KC J hJ hKC => ?_); simp (maxSteps := 10000000) only [push_cast, seval, ↓reduceIte, hx, undef]) | ((with_reducible refine hJ _ _ ?_); clear hJ hKC KC J)
    refine ret_plain ?_
    simp (maxSteps := 10000000) only [push_cast, seval, ↓reduceIte, show Tryz.f194.results = #[(.tmp 2)] from rfl]
    exact Lq
theorem stAtom_fn (f g : Bool) (ns : List ByteArray) (us : List Nat) (x : Int × Int) : Fn Tryz.prog 191 [.agg [.v (.int .i64 x.1), .v (.int .i64 x.2)], .fad [.fn 190 [.fad [.sl f 1 (strRow ns), .sl g 1 (u32Row us)]]]] [] (.v (.bool (!atomB us.length x))) [] := by
  have h1 := stValue_fn x.1
  have h2 := stLabel_fn f g ns us x.2
  unfold atomB
  obtain ⟨a, ha⟩ : ∃ a, inB (-20) 20 x.1 = a := ⟨_, rfl⟩
  obtain ⟨b, hb⟩ : ∃ b, (!oddL us.length x.2) = b := ⟨_, rfl⟩
  rw [ha] at h1 ⊢
  rw [hb] at h2 ⊢
  refine Fn.of (fn := Tryz.f191) (by kernel_rfl) rfl (by kernel_rfl) ⟨[.agg [.v (.int .i64 x.1), .v (.int .i64 x.2)], .fad [.fn 190 [.fad [.sl f 1 (strRow ns), .sl g 1 (u32Row us)]]], .v undef, .v undef, .v undef, .v undef, .v undef, .v undef, .v undef, .v undef, .v undef, .v undef, .v undef, .v undef, .v undef], []⟩ rfl ?_
  cases a
  all_goals
    repeat' first | (with_reducible first | refine AWP_seq' ?_ | refine k_normal ?_ | refine AWP_ret ?_) | ((with_reducible refine AWP_reg fun KC J hJ hKC => ?_); simp (maxSteps := 10000000) only [push_cast, seval, ↓reduceIte, undef]) | (refine hKC _ _ _ _ _ (callV0 (h1) rfl rfl rfl ?_ ?_); (· exact Lq); simp (maxSteps := 10000000) only [push_cast, seval, ↓reduceIte, undef]) | (refine hKC _ _ _ _ _ (callV0 (h2) rfl rfl rfl ?_ ?_); (· exact Lq); simp (maxSteps := 10000000) only [push_cast, seval, ↓reduceIte, undef]) | ((with_reducible refine hJ _ _ ?_); clear hJ hKC KC J)
    refine ret_plain ?_
    simp (maxSteps := 10000000) only [push_cast, seval, ↓reduceIte, show Tryz.f191.results = #[(.tmp 3)] from rfl]
    exact Lq
theorem stSlot_fn (f g : Bool) (ns : List ByteArray) (us : List Nat) (x : Bool × Int × Int) : Fn Tryz.prog 193 [.agg [.v (.bool x.1), .v (.int .i64 x.2.1), .v (.int .i64 x.2.2)], .fad [.fn 190 [.fad [.sl f 1 (strRow ns), .sl g 1 (u32Row us)]]]] [] (.v (.bool (!slotB us.length x))) [] := by
  obtain ⟨r, v, l⟩ := x
  have h1 := stValue_fn v
  have h3 := stPlace_fn v
  have h2 := stLabel_fn f g ns us l
  simp only [slotB]
  obtain ⟨a, ha⟩ : ∃ a, inB (-20) 20 v = a := ⟨_, rfl⟩
  obtain ⟨c, hc⟩ : ∃ c, inB 0 12 v = c := ⟨_, rfl⟩
  obtain ⟨b, hb⟩ : ∃ b, (!oddL us.length l) = b := ⟨_, rfl⟩
  rw [ha] at h1 ⊢
  rw [hc] at h3 ⊢
  rw [hb] at h2 ⊢
  cases b
  case false =>
    refine Fn.of (fn := Tryz.f193) (by kernel_rfl) rfl (by kernel_rfl) ⟨[.agg [.v (.bool r), .v (.int .i64 v), .v (.int .i64 l)], .fad [.fn 190 [.fad [.sl f 1 (strRow ns), .sl g 1 (u32Row us)]]], .v undef, .v undef, .v undef, .v undef, .v undef, .v undef, .v undef, .v undef, .v undef, .v undef, .v undef, .v undef, .v undef, .v undef, .v undef, .v undef, .v undef, .v undef, .v undef, .v undef, .v undef, .v undef, .v undef, .v undef, .v undef, .v undef, .v undef, .v undef], []⟩ rfl ?_
    repeat' first | (with_reducible first | refine AWP_seq' ?_ | refine k_normal ?_ | refine AWP_ret ?_) | ((with_reducible refine AWP_reg fun KC J hJ hKC => ?_); simp (maxSteps := 10000000) only [push_cast, seval, ↓reduceIte, undef]) | (refine hKC _ _ _ _ _ (callV0 (h2) rfl rfl rfl ?_ ?_); (· exact Lq); simp (maxSteps := 10000000) only [push_cast, seval, ↓reduceIte, undef]) | ((with_reducible refine hJ _ _ ?_); clear hJ hKC KC J)
    refine ret_plain ?_
    simp (maxSteps := 10000000) only [push_cast, seval, ↓reduceIte, show Tryz.f193.results = #[(.tmp 3)] from rfl]
    exact Lq
  cases r
  case false =>
    cases a
    all_goals
      refine Fn.of (fn := Tryz.f193) (by kernel_rfl) rfl (by kernel_rfl) ⟨[.agg [.v (.bool false), .v (.int .i64 v), .v (.int .i64 l)], .fad [.fn 190 [.fad [.sl f 1 (strRow ns), .sl g 1 (u32Row us)]]], .v undef, .v undef, .v undef, .v undef, .v undef, .v undef, .v undef, .v undef, .v undef, .v undef, .v undef, .v undef, .v undef, .v undef, .v undef, .v undef, .v undef, .v undef, .v undef, .v undef, .v undef, .v undef, .v undef, .v undef, .v undef, .v undef, .v undef, .v undef], []⟩ rfl ?_
      repeat' first | (with_reducible first | refine AWP_seq' ?_ | refine k_normal ?_ | refine AWP_ret ?_) | ((with_reducible refine AWP_reg fun KC J hJ hKC => ?_); simp (maxSteps := 10000000) only [push_cast, seval, ↓reduceIte, undef]) | (refine hKC _ _ _ _ _ (callV0 (h1) rfl rfl rfl ?_ ?_); (· exact Lq); simp (maxSteps := 10000000) only [push_cast, seval, ↓reduceIte, undef]) | (refine hKC _ _ _ _ _ (callV0 (h2) rfl rfl rfl ?_ ?_); (· exact Lq); simp (maxSteps := 10000000) only [push_cast, seval, ↓reduceIte, undef]) | ((with_reducible refine hJ _ _ ?_); clear hJ hKC KC J)
      refine ret_plain ?_
      simp (maxSteps := 10000000) only [push_cast, seval, ↓reduceIte, show Tryz.f193.results = #[(.tmp 3)] from rfl]
      exact Lq
  cases c
  all_goals
    refine Fn.of (fn := Tryz.f193) (by kernel_rfl) rfl (by kernel_rfl) ⟨[.agg [.v (.bool true), .v (.int .i64 v), .v (.int .i64 l)], .fad [.fn 190 [.fad [.sl f 1 (strRow ns), .sl g 1 (u32Row us)]]], .v undef, .v undef, .v undef, .v undef, .v undef, .v undef, .v undef, .v undef, .v undef, .v undef, .v undef, .v undef, .v undef, .v undef, .v undef, .v undef, .v undef, .v undef, .v undef, .v undef, .v undef, .v undef, .v undef, .v undef, .v undef, .v undef, .v undef, .v undef], []⟩ rfl ?_
    repeat' first | (with_reducible first | refine AWP_seq' ?_ | refine k_normal ?_ | refine AWP_ret ?_) | ((with_reducible refine AWP_reg fun KC J hJ hKC => ?_); simp (maxSteps := 10000000) only [push_cast, seval, ↓reduceIte, undef]) | (refine hKC _ _ _ _ _ (callV0 (h2) rfl rfl rfl ?_ ?_); (· exact Lq); simp (maxSteps := 10000000) only [push_cast, seval, ↓reduceIte, undef]) | (refine hKC _ _ _ _ _ (callV0 (h3) rfl rfl rfl ?_ ?_); (· exact Lq); simp (maxSteps := 10000000) only [push_cast, seval, ↓reduceIte, undef]) | ((with_reducible refine hJ _ _ ?_); clear hJ hKC KC J)
    refine ret_plain ?_
    simp (maxSteps := 10000000) only [push_cast, seval, ↓reduceIte, show Tryz.f193.results = #[(.tmp 3)] from rfl]
    exact Lq
theorem staB_eq (n : Nat) (s : Sta) : staB n s = (codeB n s.code && (inB 0 12 s.v && (!oddL n s.l && ((decide (s.mem.length ≤ 6) && (decide (s.stack.length ≤ 12) && decide (s.out.length ≤ 8))) && (s.mem.all (atomB n) && (s.stack.all (slotB n) && s.out.all (atomB n))))))) := by
  unfold staB
  cases codeB n s.code <;> cases inB 0 12 s.v <;> cases oddL n s.l <;> cases s.mem.all (atomB n) <;> cases decide (s.mem.length ≤ 6) <;> cases s.stack.all (slotB n) <;> cases decide (s.stack.length ≤ 12) <;> cases s.out.all (atomB n) <;> cases decide (s.out.length ≤ 8) <;> rfl
set_option maxHeartbeats 8000000 in
theorem stRight_fn (f g : Bool) (ns : List ByteArray) (us : List Nat) (s : Sta) (hs : Szs ns) (hu : U32 us) (hc : checkF ns us = 0) (hl : Sml s) :
    Fn Tryz.prog 96 [.agg [.sl f 1 (strRow ns), .sl g 1 (u32Row us)], .agg (staF false false false false s)] [] (.v (.bool (staB us.length s))) [] := by
  obtain ⟨l1, l2, l3, l4⟩ := hl
  have h1 := apiCode_fn f g false ns us s.code hs hu hc l1
  have h2 := stPlace_fn s.v
  have h3 := stLabel_fn f g ns us s.l
  have h4 := containsFuncA_fn false s.mem 191 [.fad [.fn 190 [.fad [.sl f 1 (strRow ns), .sl g 1 (u32Row us)]]]] (fun x => !atomB us.length x) l2 rfl (fun x _ => stAtom_fn f g ns us x)
  have h5 := containsFuncS_fn false s.stack 193 [.fad [.fn 190 [.fad [.sl f 1 (strRow ns), .sl g 1 (u32Row us)]]]] (fun x => !slotB us.length x) l3 rfl (fun x _ => stSlot_fn f g ns us x)
  have h6 := containsFuncA_fn false s.out 191 [.fad [.fn 190 [.fad [.sl f 1 (strRow ns), .sl g 1 (u32Row us)]]]] (fun x => !atomB us.length x) l4 rfl (fun x _ => stAtom_fn f g ns us x)
  rw [staB_eq, ← any_not, ← any_not, ← any_not]
  obtain ⟨c1, hc1⟩ : ∃ x, codeB us.length s.code = x := ⟨_, rfl⟩
  obtain ⟨c2, hc2⟩ : ∃ x, inB 0 12 s.v = x := ⟨_, rfl⟩
  obtain ⟨c3, hc3⟩ : ∃ x, (!oddL us.length s.l) = x := ⟨_, rfl⟩
  obtain ⟨d1, hd1⟩ : ∃ x, decide (s.mem.length ≤ 6) = x := ⟨_, rfl⟩
  obtain ⟨d2, hd2⟩ : ∃ x, decide (s.stack.length ≤ 12) = x := ⟨_, rfl⟩
  obtain ⟨d3, hd3⟩ : ∃ x, decide (s.out.length ≤ 8) = x := ⟨_, rfl⟩
  obtain ⟨c5, hc5⟩ : ∃ x, (s.mem.any fun x => !atomB us.length x) = x := ⟨_, rfl⟩
  obtain ⟨c6, hc6⟩ : ∃ x, (s.stack.any fun x => !slotB us.length x) = x := ⟨_, rfl⟩
  obtain ⟨c7, hc7⟩ : ∃ x, (s.out.any fun x => !atomB us.length x) = x := ⟨_, rfl⟩
  have hd1' : decide ((s.mem.length : Int) ≤ 6) = d1 := by rw [← hd1]; exact decide_eq_decide.2 (by omega)
  have hd2' : decide ((s.stack.length : Int) ≤ 12) = d2 := by rw [← hd2]; exact decide_eq_decide.2 (by omega)
  have hd3' : decide ((s.out.length : Int) ≤ 8) = d3 := by rw [← hd3]; exact decide_eq_decide.2 (by omega)
  rw [hc1] at h1 ⊢
  rw [hc2] at h2 ⊢
  rw [hc3] at h3 ⊢
  rw [hc5] at h4 ⊢
  rw [hc6] at h5 ⊢
  rw [hc7] at h6 ⊢
  rw [hd1, hd2, hd3]
  simp only [staF]
  refine Fn.of (fn := Tryz.f96) (by kernel_rfl) rfl (by kernel_rfl) ⟨[.agg [.sl f 1 (strRow ns), .sl g 1 (u32Row us)], .agg [.v (.int .i64 s.v), .v (.int .i64 s.l), .sl false 3 (tRow s.code), .sl false 2 (pRow s.mem), .sl false 3 (sRow s.stack), .sl false 2 (pRow s.out)], .v undef, .v undef, .v undef, .v undef, .v undef, .v undef, .v undef, .v undef, .v undef, .v undef, .v undef, .v undef, .v undef, .v undef, .v undef, .v undef, .v undef, .v undef, .v undef, .v undef, .v undef, .v undef, .v undef, .v undef, .v undef, .v undef, .v undef, .v undef, .v undef, .v undef, .v undef, .v undef, .v undef, .v undef, .v undef, .v undef, .v undef, .v undef, .v undef, .v undef, .v undef, .v undef, .v undef, .v undef, .v undef, .v undef, .v undef, .v undef, .v undef, .v undef, .v undef, .v undef, .v undef, .v undef, .v undef, .v undef, .v undef, .v undef, .v undef, .v undef, .v undef, .v undef, .v undef, .v undef, .v undef, .v undef, .v undef], []⟩ rfl ?_
  cases c1
  case false =>
    cases d1 <;> cases d2
    all_goals
      repeat' first | (refine AWP_freezeR 1 0 rfl (by (simp (maxSteps := 10000000) only [push_cast, seval, ↓reduceIte]) <;> rfl) ?_; simp (maxSteps := 10000000) only [push_cast, seval, ↓reduceIte, frSt, frSlot, fr3, fr2, fr1, fr0, sameB, arrOf, hd1', hd2', hd3', undef]) | (refine AWP_freezeR 2 2 rfl (by (simp (maxSteps := 10000000) only [push_cast, seval, ↓reduceIte]) <;> rfl) ?_; simp (maxSteps := 10000000) only [push_cast, seval, ↓reduceIte, frSt, frSlot, fr3, fr2, fr1, fr0, sameB, arrOf, hd1', hd2', hd3', undef]) | (with_reducible first | refine AWP_seq' ?_ | refine k_normal ?_ | refine AWP_ret ?_) | ((with_reducible refine AWP_reg fun KC J hJ hKC => ?_); simp (maxSteps := 10000000) only [push_cast, seval, ↓reduceIte, hd1', hd2', hd3', undef]) | (refine hKC _ _ _ _ _ (callV0 (h1) rfl rfl rfl ?_ ?_); (· exact Lq); simp (maxSteps := 10000000) only [push_cast, seval, ↓reduceIte, hd1', hd2', hd3', undef]) | ((with_reducible refine hJ _ _ ?_); clear hJ hKC KC J)
      refine ret_plain ?_
      simp (maxSteps := 10000000) only [push_cast, seval, ↓reduceIte, show Tryz.f96.results = #[(.tmp 4)] from rfl]
      exact Lq
  cases c2
  case false =>
    cases d1 <;> cases d2
    all_goals
      repeat' first | (refine AWP_freezeR 1 0 rfl (by (simp (maxSteps := 10000000) only [push_cast, seval, ↓reduceIte]) <;> rfl) ?_; simp (maxSteps := 10000000) only [push_cast, seval, ↓reduceIte, frSt, frSlot, fr3, fr2, fr1, fr0, sameB, arrOf, hd1', hd2', hd3', undef]) | (refine AWP_freezeR 2 2 rfl (by (simp (maxSteps := 10000000) only [push_cast, seval, ↓reduceIte]) <;> rfl) ?_; simp (maxSteps := 10000000) only [push_cast, seval, ↓reduceIte, frSt, frSlot, fr3, fr2, fr1, fr0, sameB, arrOf, hd1', hd2', hd3', undef]) | (with_reducible first | refine AWP_seq' ?_ | refine k_normal ?_ | refine AWP_ret ?_) | ((with_reducible refine AWP_reg fun KC J hJ hKC => ?_); simp (maxSteps := 10000000) only [push_cast, seval, ↓reduceIte, hd1', hd2', hd3', undef]) | (refine hKC _ _ _ _ _ (callV0 (h1) rfl rfl rfl ?_ ?_); (· exact Lq); simp (maxSteps := 10000000) only [push_cast, seval, ↓reduceIte, hd1', hd2', hd3', undef]) | (refine hKC _ _ _ _ _ (callV0 (h2) rfl rfl rfl ?_ ?_); (· exact Lq); simp (maxSteps := 10000000) only [push_cast, seval, ↓reduceIte, hd1', hd2', hd3', undef]) | ((with_reducible refine hJ _ _ ?_); clear hJ hKC KC J)
      refine ret_plain ?_
      simp (maxSteps := 10000000) only [push_cast, seval, ↓reduceIte, show Tryz.f96.results = #[(.tmp 4)] from rfl]
      exact Lq
  cases c3
  case false =>
    cases d1 <;> cases d2
    all_goals
      repeat' first | (refine AWP_freezeR 1 0 rfl (by (simp (maxSteps := 10000000) only [push_cast, seval, ↓reduceIte]) <;> rfl) ?_; simp (maxSteps := 10000000) only [push_cast, seval, ↓reduceIte, frSt, frSlot, fr3, fr2, fr1, fr0, sameB, arrOf, hd1', hd2', hd3', undef]) | (refine AWP_freezeR 2 2 rfl (by (simp (maxSteps := 10000000) only [push_cast, seval, ↓reduceIte]) <;> rfl) ?_; simp (maxSteps := 10000000) only [push_cast, seval, ↓reduceIte, frSt, frSlot, fr3, fr2, fr1, fr0, sameB, arrOf, hd1', hd2', hd3', undef]) | (with_reducible first | refine AWP_seq' ?_ | refine k_normal ?_ | refine AWP_ret ?_) | ((with_reducible refine AWP_reg fun KC J hJ hKC => ?_); simp (maxSteps := 10000000) only [push_cast, seval, ↓reduceIte, hd1', hd2', hd3', undef]) | (refine hKC _ _ _ _ _ (callV0 (h1) rfl rfl rfl ?_ ?_); (· exact Lq); simp (maxSteps := 10000000) only [push_cast, seval, ↓reduceIte, hd1', hd2', hd3', undef]) | (refine hKC _ _ _ _ _ (callV0 (h2) rfl rfl rfl ?_ ?_); (· exact Lq); simp (maxSteps := 10000000) only [push_cast, seval, ↓reduceIte, hd1', hd2', hd3', undef]) | (refine hKC _ _ _ _ _ (callV0 (h3) rfl rfl rfl ?_ ?_); (· exact Lq); simp (maxSteps := 10000000) only [push_cast, seval, ↓reduceIte, hd1', hd2', hd3', undef]) | ((with_reducible refine hJ _ _ ?_); clear hJ hKC KC J)
      refine ret_plain ?_
      simp (maxSteps := 10000000) only [push_cast, seval, ↓reduceIte, show Tryz.f96.results = #[(.tmp 4)] from rfl]
      exact Lq
  cases d1
  case false =>
    repeat' first | (refine AWP_freezeR 1 0 rfl (by (simp (maxSteps := 10000000) only [push_cast, seval, ↓reduceIte]) <;> rfl) ?_; simp (maxSteps := 10000000) only [push_cast, seval, ↓reduceIte, frSt, frSlot, fr3, fr2, fr1, fr0, sameB, arrOf, hd1', hd2', hd3', undef]) | (refine AWP_freezeR 2 2 rfl (by (simp (maxSteps := 10000000) only [push_cast, seval, ↓reduceIte]) <;> rfl) ?_; simp (maxSteps := 10000000) only [push_cast, seval, ↓reduceIte, frSt, frSlot, fr3, fr2, fr1, fr0, sameB, arrOf, hd1', hd2', hd3', undef]) | (with_reducible first | refine AWP_seq' ?_ | refine k_normal ?_ | refine AWP_ret ?_) | ((with_reducible refine AWP_reg fun KC J hJ hKC => ?_); simp (maxSteps := 10000000) only [push_cast, seval, ↓reduceIte, hd1', hd2', hd3', undef]) | (refine hKC _ _ _ _ _ (callV0 (h1) rfl rfl rfl ?_ ?_); (· exact Lq); simp (maxSteps := 10000000) only [push_cast, seval, ↓reduceIte, hd1', hd2', hd3', undef]) | (refine hKC _ _ _ _ _ (callV0 (h2) rfl rfl rfl ?_ ?_); (· exact Lq); simp (maxSteps := 10000000) only [push_cast, seval, ↓reduceIte, hd1', hd2', hd3', undef]) | (refine hKC _ _ _ _ _ (callV0 (h3) rfl rfl rfl ?_ ?_); (· exact Lq); simp (maxSteps := 10000000) only [push_cast, seval, ↓reduceIte, hd1', hd2', hd3', undef]) | ((with_reducible refine hJ _ _ ?_); clear hJ hKC KC J)
    refine ret_plain ?_
    simp (maxSteps := 10000000) only [push_cast, seval, ↓reduceIte, show Tryz.f96.results = #[(.tmp 4)] from rfl]
    exact Lq
  cases d2
  case false =>
    repeat' first | (refine AWP_freezeR 1 0 rfl (by (simp (maxSteps := 10000000) only [push_cast, seval, ↓reduceIte]) <;> rfl) ?_; simp (maxSteps := 10000000) only [push_cast, seval, ↓reduceIte, frSt, frSlot, fr3, fr2, fr1, fr0, sameB, arrOf, hd1', hd2', hd3', undef]) | (refine AWP_freezeR 2 2 rfl (by (simp (maxSteps := 10000000) only [push_cast, seval, ↓reduceIte]) <;> rfl) ?_; simp (maxSteps := 10000000) only [push_cast, seval, ↓reduceIte, frSt, frSlot, fr3, fr2, fr1, fr0, sameB, arrOf, hd1', hd2', hd3', undef]) | (with_reducible first | refine AWP_seq' ?_ | refine k_normal ?_ | refine AWP_ret ?_) | ((with_reducible refine AWP_reg fun KC J hJ hKC => ?_); simp (maxSteps := 10000000) only [push_cast, seval, ↓reduceIte, hd1', hd2', hd3', undef]) | (refine hKC _ _ _ _ _ (callV0 (h1) rfl rfl rfl ?_ ?_); (· exact Lq); simp (maxSteps := 10000000) only [push_cast, seval, ↓reduceIte, hd1', hd2', hd3', undef]) | (refine hKC _ _ _ _ _ (callV0 (h2) rfl rfl rfl ?_ ?_); (· exact Lq); simp (maxSteps := 10000000) only [push_cast, seval, ↓reduceIte, hd1', hd2', hd3', undef]) | (refine hKC _ _ _ _ _ (callV0 (h3) rfl rfl rfl ?_ ?_); (· exact Lq); simp (maxSteps := 10000000) only [push_cast, seval, ↓reduceIte, hd1', hd2', hd3', undef]) | ((with_reducible refine hJ _ _ ?_); clear hJ hKC KC J)
    refine ret_plain ?_
    simp (maxSteps := 10000000) only [push_cast, seval, ↓reduceIte, show Tryz.f96.results = #[(.tmp 4)] from rfl]
    exact Lq
  cases d3
  case false =>
    repeat' first | (refine AWP_freezeR 1 0 rfl (by (simp (maxSteps := 10000000) only [push_cast, seval, ↓reduceIte]) <;> rfl) ?_; simp (maxSteps := 10000000) only [push_cast, seval, ↓reduceIte, frSt, frSlot, fr3, fr2, fr1, fr0, sameB, arrOf, hd1', hd2', hd3', undef]) | (refine AWP_freezeR 2 2 rfl (by (simp (maxSteps := 10000000) only [push_cast, seval, ↓reduceIte]) <;> rfl) ?_; simp (maxSteps := 10000000) only [push_cast, seval, ↓reduceIte, frSt, frSlot, fr3, fr2, fr1, fr0, sameB, arrOf, hd1', hd2', hd3', undef]) | (with_reducible first | refine AWP_seq' ?_ | refine k_normal ?_ | refine AWP_ret ?_) | ((with_reducible refine AWP_reg fun KC J hJ hKC => ?_); simp (maxSteps := 10000000) only [push_cast, seval, ↓reduceIte, hd1', hd2', hd3', undef]) | (refine hKC _ _ _ _ _ (callV0 (h1) rfl rfl rfl ?_ ?_); (· exact Lq); simp (maxSteps := 10000000) only [push_cast, seval, ↓reduceIte, hd1', hd2', hd3', undef]) | (refine hKC _ _ _ _ _ (callV0 (h2) rfl rfl rfl ?_ ?_); (· exact Lq); simp (maxSteps := 10000000) only [push_cast, seval, ↓reduceIte, hd1', hd2', hd3', undef]) | (refine hKC _ _ _ _ _ (callV0 (h3) rfl rfl rfl ?_ ?_); (· exact Lq); simp (maxSteps := 10000000) only [push_cast, seval, ↓reduceIte, hd1', hd2', hd3', undef]) | ((with_reducible refine hJ _ _ ?_); clear hJ hKC KC J)
    refine ret_plain ?_
    simp (maxSteps := 10000000) only [push_cast, seval, ↓reduceIte, show Tryz.f96.results = #[(.tmp 4)] from rfl]
    exact Lq
  cases c5
  case true =>
    repeat' first | (refine AWP_freezeR 1 0 rfl (by (simp (maxSteps := 10000000) only [push_cast, seval, ↓reduceIte]) <;> rfl) ?_; simp (maxSteps := 10000000) only [push_cast, seval, ↓reduceIte, frSt, frSlot, fr3, fr2, fr1, fr0, sameB, arrOf, hd1', hd2', hd3', undef]) | (refine AWP_freezeR 2 2 rfl (by (simp (maxSteps := 10000000) only [push_cast, seval, ↓reduceIte]) <;> rfl) ?_; simp (maxSteps := 10000000) only [push_cast, seval, ↓reduceIte, frSt, frSlot, fr3, fr2, fr1, fr0, sameB, arrOf, hd1', hd2', hd3', undef]) | (with_reducible first | refine AWP_seq' ?_ | refine k_normal ?_ | refine AWP_ret ?_) | ((with_reducible refine AWP_reg fun KC J hJ hKC => ?_); simp (maxSteps := 10000000) only [push_cast, seval, ↓reduceIte, hd1', hd2', hd3', undef]) | (refine hKC _ _ _ _ _ (callV0 (h1) rfl rfl rfl ?_ ?_); (· exact Lq); simp (maxSteps := 10000000) only [push_cast, seval, ↓reduceIte, hd1', hd2', hd3', undef]) | (refine hKC _ _ _ _ _ (callV0 (h2) rfl rfl rfl ?_ ?_); (· exact Lq); simp (maxSteps := 10000000) only [push_cast, seval, ↓reduceIte, hd1', hd2', hd3', undef]) | (refine hKC _ _ _ _ _ (callV0 (h3) rfl rfl rfl ?_ ?_); (· exact Lq); simp (maxSteps := 10000000) only [push_cast, seval, ↓reduceIte, hd1', hd2', hd3', undef]) | (refine hKC _ _ _ _ _ (callV0 (h4) rfl rfl rfl ?_ ?_); (· exact Lq); simp (maxSteps := 10000000) only [push_cast, seval, ↓reduceIte, hd1', hd2', hd3', undef]) | ((with_reducible refine hJ _ _ ?_); clear hJ hKC KC J)
    refine ret_plain ?_
    simp (maxSteps := 10000000) only [push_cast, seval, ↓reduceIte, show Tryz.f96.results = #[(.tmp 4)] from rfl]
    exact Lq
  cases c6
  case true =>
    repeat' first | (refine AWP_freezeR 1 0 rfl (by (simp (maxSteps := 10000000) only [push_cast, seval, ↓reduceIte]) <;> rfl) ?_; simp (maxSteps := 10000000) only [push_cast, seval, ↓reduceIte, frSt, frSlot, fr3, fr2, fr1, fr0, sameB, arrOf, hd1', hd2', hd3', undef]) | (refine AWP_freezeR 2 2 rfl (by (simp (maxSteps := 10000000) only [push_cast, seval, ↓reduceIte]) <;> rfl) ?_; simp (maxSteps := 10000000) only [push_cast, seval, ↓reduceIte, frSt, frSlot, fr3, fr2, fr1, fr0, sameB, arrOf, hd1', hd2', hd3', undef]) | (with_reducible first | refine AWP_seq' ?_ | refine k_normal ?_ | refine AWP_ret ?_) | ((with_reducible refine AWP_reg fun KC J hJ hKC => ?_); simp (maxSteps := 10000000) only [push_cast, seval, ↓reduceIte, hd1', hd2', hd3', undef]) | (refine hKC _ _ _ _ _ (callV0 (h1) rfl rfl rfl ?_ ?_); (· exact Lq); simp (maxSteps := 10000000) only [push_cast, seval, ↓reduceIte, hd1', hd2', hd3', undef]) | (refine hKC _ _ _ _ _ (callV0 (h2) rfl rfl rfl ?_ ?_); (· exact Lq); simp (maxSteps := 10000000) only [push_cast, seval, ↓reduceIte, hd1', hd2', hd3', undef]) | (refine hKC _ _ _ _ _ (callV0 (h3) rfl rfl rfl ?_ ?_); (· exact Lq); simp (maxSteps := 10000000) only [push_cast, seval, ↓reduceIte, hd1', hd2', hd3', undef]) | (refine hKC _ _ _ _ _ (callV0 (h4) rfl rfl rfl ?_ ?_); (· exact Lq); simp (maxSteps := 10000000) only [push_cast, seval, ↓reduceIte, hd1', hd2', hd3', undef]) | (refine hKC _ _ _ _ _ (callV0 (h5) rfl rfl rfl ?_ ?_); (· exact Lq); simp (maxSteps := 10000000) only [push_cast, seval, ↓reduceIte, hd1', hd2', hd3', undef]) | ((with_reducible refine hJ _ _ ?_); clear hJ hKC KC J)
    refine ret_plain ?_
    simp (maxSteps := 10000000) only [push_cast, seval, ↓reduceIte, show Tryz.f96.results = #[(.tmp 4)] from rfl]
    exact Lq
  repeat' first | (refine AWP_freezeR 1 0 rfl (by (simp (maxSteps := 10000000) only [push_cast, seval, ↓reduceIte]) <;> rfl) ?_; simp (maxSteps := 10000000) only [push_cast, seval, ↓reduceIte, frSt, frSlot, fr3, fr2, fr1, fr0, sameB, arrOf, hd1', hd2', hd3', undef]) | (refine AWP_freezeR 2 2 rfl (by (simp (maxSteps := 10000000) only [push_cast, seval, ↓reduceIte]) <;> rfl) ?_; simp (maxSteps := 10000000) only [push_cast, seval, ↓reduceIte, frSt, frSlot, fr3, fr2, fr1, fr0, sameB, arrOf, hd1', hd2', hd3', undef]) | (with_reducible first | refine AWP_seq' ?_ | refine k_normal ?_ | refine AWP_ret ?_) | ((with_reducible refine AWP_reg fun KC J hJ hKC => ?_); simp (maxSteps := 10000000) only [push_cast, seval, ↓reduceIte, hd1', hd2', hd3', undef]) | (refine hKC _ _ _ _ _ (callV0 (h1) rfl rfl rfl ?_ ?_); (· exact Lq); simp (maxSteps := 10000000) only [push_cast, seval, ↓reduceIte, hd1', hd2', hd3', undef]) | (refine hKC _ _ _ _ _ (callV0 (h2) rfl rfl rfl ?_ ?_); (· exact Lq); simp (maxSteps := 10000000) only [push_cast, seval, ↓reduceIte, hd1', hd2', hd3', undef]) | (refine hKC _ _ _ _ _ (callV0 (h3) rfl rfl rfl ?_ ?_); (· exact Lq); simp (maxSteps := 10000000) only [push_cast, seval, ↓reduceIte, hd1', hd2', hd3', undef]) | (refine hKC _ _ _ _ _ (callV0 (h4) rfl rfl rfl ?_ ?_); (· exact Lq); simp (maxSteps := 10000000) only [push_cast, seval, ↓reduceIte, hd1', hd2', hd3', undef]) | (refine hKC _ _ _ _ _ (callV0 (h5) rfl rfl rfl ?_ ?_); (· exact Lq); simp (maxSteps := 10000000) only [push_cast, seval, ↓reduceIte, hd1', hd2', hd3', undef]) | (refine hKC _ _ _ _ _ (callV0 (h6) rfl rfl rfl ?_ ?_); (· exact Lq); simp (maxSteps := 10000000) only [push_cast, seval, ↓reduceIte, hd1', hd2', hd3', undef]) | ((with_reducible refine hJ _ _ ?_); clear hJ hKC KC J)
  refine ret_plain ?_
  simp (maxSteps := 10000000) only [push_cast, seval, ↓reduceIte, show Tryz.f96.results = #[(.tmp 4)] from rfl]
  exact Lq
end Go.Proofs.YtabliglgeiajlaaGreat.AM
