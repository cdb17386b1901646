/- Lattices: the reference's order, joins, meets; the checks. -/
import Derived.Test.YtabliglgeiajlaaGreatV4
set_option linter.unusedSimpArgs false
set_option linter.unusedVariables false
namespace Go.Proofs.YtabliglgeiajlaaGreat.AM
open Go Go.RowKit Go.Proofs
set_option maxRecDepth 100000
set_option maxHeartbeats 1000000

theorem get_getD {us : List Nat} {c : Nat} (h : c < us.length) : us[c] = us.getD c 0 := by rw [List.getD_eq_getElem?_getD, List.getElem?_eq_getElem h]; rfl
def r3 (us : List Nat) (i j k : Nat) : Prop := fl us i j = true → fl us j k = true → fl us i k = true
def r2 (us : List Nat) (i j : Nat) : Prop := ¬ i = j → ¬ (fl us i j = true ∧ fl us j i = true)
def r0 (us : List Nat) (i : Nat) : Prop := fl us i i = true ∧ ∀ j, j < us.length → r2 us i j ∧ ∀ k, k < us.length → r3 us i j k
theorem ord_r0 {us : List Nat} : Ord us ↔ ∀ i, i < us.length → r0 us i := by
  constructor
  · rintro ⟨h1, h2, h3⟩ i hi
    exact ⟨h1 i hi, fun j hj => ⟨h2 i hi j hj, fun k hk => h3 i hi j hj k hk⟩⟩
  · intro h
    exact ⟨fun a ha => (h a ha).1, fun a ha b hb => ((h a ha).2 b hb).1, fun a ha b hb c hc => ((h a ha).2 b hb).2 c hc⟩
theorem rOrder_fn (f g : Bool) (ns : List ByteArray) (us : List Nat) (hu : U32 us) (hl : us.length ≤ 8) :
    Fn Tryz.prog 130 [.agg [.sl f 1 (strRow ns), .sl g 1 (u32Row us)]] [] (.v (.bool (decide (Ord us)))) [] := by
  refine Fn.of (fn := Tryz.f130) (by kernel_rfl) rfl (by kernel_rfl) ⟨[.agg [.sl f 1 (strRow ns), .sl g 1 (u32Row us)], .v undef, .v undef, .v undef, .v undef, .v undef, .v undef, .v undef, .v undef, .v undef, .v undef, .v undef, .v undef, .v undef, .v undef, .v undef, .v undef, .v undef, .v undef, .v undef, .v undef, .v undef, .v undef, .v undef, .v undef, .v undef, .v undef, .v undef, .v undef, .v undef, .v undef, .v undef, .v undef, .v undef, .v undef, .v undef, .v undef, .v undef, .v undef, .v undef, .v undef, .v undef, .v undef, .v undef, .v undef, .v undef, .v undef, .v undef, .v undef, .v undef, .v undef, .v undef, .v undef, .v undef, .v undef, .v undef, .v undef, .v undef, .v undef, .v undef, .v undef, .v undef, .v undef, .v undef], []⟩ rfl ?_
  repeat' first | (with_reducible first | refine AWP_seq' ?_ | refine k_normal ?_ | refine AWP_block ?_) | ((with_reducible refine AWP_reg fun KC J hJ hKC => ?_); simp (maxSteps := 10000000) only [push_cast, seval, ↓reduceIte]) | ((with_reducible refine hJ _ _ ?_); clear hJ hKC KC J)
  refine AWP_loopF (γ := {i : Nat // i ≤ us.length ∧ ∀ x, x < i → r0 us x}) (fun i => ⟨[.any, .ptr 0 0 0, .any, .any, .any, .any, .any, .any, .v (.int .i64 us.length), .v (.int .i64 i.1), .any, .any, .any, .any, .any, .any, .any, .any, .any, .any, .any, .any, .any, .any, .any, .any, .any, .any, .any, .any, .any, .any, .any, .any, .any, .any, .any, .any, .any, .any, .any, .any, .any, .any, .any, .any, .any, .any, .any, .any, .any, .any, .any, .any, .any, .any, .any, .any, .any, .any, .any, .any, .any, .any], [.ent ⟨0, none, 25, [.sl f 1 (strRow ns), .sl g 1 (u32Row us)], .cells⟩]⟩) (fun i => us.length - i.1) ⟨0, by simp⟩ ⟨?_, Fq⟩ ?_
  · exact Lq
  · rintro ⟨i, hi, hin⟩
    by_cases hlt : (i : Int) < (us.length : Int)
    · have hi' : i < us.length := by omega
      by_cases h1 : fl us i i = true
      · skip
        repeat' first | (with_reducible first | refine AWP_seq' ?_ | refine k_normal ?_ | refine AWP_skip ?_ | refine AWP_block ?_) | ((with_reducible refine AWP_reg fun KC J hJ hKC => ?_); simp (maxSteps := 10000000) only [push_cast, seval, ↓reduceIte, hlt, h1]) | (refine' hKC _ _ _ _ _ (callV0 (rFlows_fn _ _ _ _ _ _ ?_ ?_ ?_) rfl rfl rfl ?_ ?_); (rotate_left 9); (· exact Lq); (rotate_left 1); (iterate 3 (· exact Hq)); simp (maxSteps := 10000000) only [push_cast, seval, ↓reduceIte, hlt, h1]) | ((with_reducible refine hJ _ _ ?_); clear hJ hKC KC J) | ((with_reducible refine AWP_condT ?_ ?_); · rfl) | ((with_reducible refine AWP_condF ?_ ?_); · rfl)
        refine AWP_loopF (γ := {j : Nat // j ≤ us.length ∧ ∀ y, y < j → r2 us i y ∧ ∀ k, k < us.length → r3 us i y k}) (fun j => ⟨[.any, .ptr 0 0 0, .any, .v (.int .i64 i), .any, .any, .any, .any, .v (.int .i64 us.length), .v (.int .i64 i), .any, .any, .any, .any, .any, .any, .any, .any, .any, .v (.int .i64 us.length), .v (.int .i64 j.1), .any, .any, .any, .any, .any, .any, .any, .any, .any, .any, .any, .any, .any, .any, .any, .any, .any, .any, .any, .any, .any, .any, .any, .any, .any, .any, .any, .any, .any, .any, .any, .any, .any, .any, .any, .any, .any, .any, .any, .any, .any, .any, .any], [.ent ⟨0, none, 25, [.sl f 1 (strRow ns), .sl g 1 (u32Row us)], .cells⟩]⟩) (fun j => us.length - j.1) ⟨0, by simp⟩ ⟨?_, Fq⟩ ?_
        · exact Lq
        · rintro ⟨j, hj, hjn⟩
          by_cases hlj : (j : Int) < (us.length : Int)
          · have hj' : j < us.length := by omega
            by_cases hq : r2 us i j
            · skip
              repeat' first | (with_reducible refine hold 9 ?_) | (with_reducible first | refine AWP_seq' ?_ | refine k_normal ?_ | refine AWP_skip ?_ | refine AWP_block ?_) | ((with_reducible refine AWP_reg fun KC J hJ hKC => ?_); simp (maxSteps := 10000000) only [push_cast, seval, ↓reduceIte, hlj]) | ((with_reducible refine hJ _ _ ?_); clear hJ hKC KC J) | ((with_reducible refine AWP_condT ?_ ?_); · rfl)
              refine AWP_cut ⟨[.any, .ptr 0 0 0, .any, .v (.int .i64 i), .v (.int .i64 j), .any, .any, .any, .v (.int .i64 us.length), .v (.int .i64 i), .any, .any, .any, .any, .any, .any, .any, .any, .any, .v (.int .i64 us.length), .v (.int .i64 j), .any, .any, .any, .any, .any, .any, .any, .any, .any, .any, .any, .any, .any, .any, .any, .any, .any, .any, .any, .any, .any, .any, .any, .any, .any, .any, .any, .any, .any, .any, .any, .any, .any, .any, .any, .any, .any, .any, .any, .any, .any, .any, .any], [.ent ⟨0, none, 25, [.sl f 1 (strRow ns), .sl g 1 (u32Row us)], .cells⟩]⟩ ?_ ?_
              · have hne : ((i : Int) != (j : Int)) = decide (¬ i = j) := by rw [Bool.eq_iff_iff]; simp; omega
                by_cases hij : i = j
                · subst hij
                  repeat' first | (with_reducible first | refine AWP_seq' ?_ | refine k_normal ?_ | refine AWP_skip ?_) | ((with_reducible refine AWP_reg fun KC J hJ hKC => ?_); simp (maxSteps := 10000000) only [push_cast, seval, ↓reduceIte, undef]) | ((with_reducible refine hJ _ _ ?_); clear hJ hKC KC J) | ((with_reducible refine AWP_condF ?_ ?_); · rfl)
                  (refine to_of ?_ Fq; (· exact Lq))
                · cases hx : fl us i j
                  · skip
                    repeat' first | (with_reducible first | refine AWP_seq' ?_ | refine k_normal ?_ | refine AWP_skip ?_) | ((with_reducible refine AWP_reg fun KC J hJ hKC => ?_); simp (maxSteps := 10000000) only [push_cast, seval, ↓reduceIte, hne, hij, hx, undef]) | (refine' hKC _ _ _ _ _ (callV0 (rFlows_fn _ _ _ _ _ _ ?_ ?_ ?_) rfl rfl rfl ?_ ?_); (rotate_left 9); (· exact Lq); (rotate_left 1); (iterate 3 (· exact Hq)); simp (maxSteps := 10000000) only [push_cast, seval, ↓reduceIte, hne, hij, hx, undef]) | ((with_reducible refine hJ _ _ ?_); clear hJ hKC KC J) | ((with_reducible refine AWP_condF ?_ ?_); · rfl)
                    (refine to_of ?_ Fq; (· exact Lq))
                  · have hy : fl us j i = false := by
                      cases hy : fl us j i with
                      | false => rfl
                      | true => exact absurd ⟨hx, hy⟩ (hq hij)
                    repeat' first | (with_reducible first | refine AWP_seq' ?_ | refine k_normal ?_ | refine AWP_skip ?_) | ((with_reducible refine AWP_reg fun KC J hJ hKC => ?_); simp (maxSteps := 10000000) only [push_cast, seval, ↓reduceIte, hne, hij, hx, hy, undef]) | (refine' hKC _ _ _ _ _ (callV0 (rFlows_fn _ _ _ _ _ _ ?_ ?_ ?_) rfl rfl rfl ?_ ?_); (rotate_left 9); (· exact Lq); (rotate_left 1); (iterate 3 (· exact Hq)); simp (maxSteps := 10000000) only [push_cast, seval, ↓reduceIte, hne, hij, hx, hy, undef]) | ((with_reducible refine hJ _ _ ?_); clear hJ hKC KC J) | ((with_reducible refine AWP_condF ?_ ?_); · rfl)
                    (refine to_of ?_ Fq; (· exact Lq))
              · skip
                repeat' first | (with_reducible first | refine AWP_seq' ?_ | refine k_normal ?_ | refine AWP_block ?_) | ((with_reducible refine AWP_reg fun KC J hJ hKC => ?_); simp (maxSteps := 10000000) only [push_cast, seval, ↓reduceIte]) | ((with_reducible refine hJ _ _ ?_); clear hJ hKC KC J)
                refine AWP_loopF (γ := {k : Nat // k ≤ us.length ∧ r2 us i j ∧ ∀ y, y < k → r3 us i j y}) (fun k => ⟨[.any, .ptr 0 0 0, .any, .v (.int .i64 i), .v (.int .i64 j), .any, .any, .any, .v (.int .i64 us.length), .v (.int .i64 i), .any, .any, .any, .any, .any, .any, .any, .any, .any, .v (.int .i64 us.length), .v (.int .i64 j), .any, .any, .any, .any, .any, .any, .any, .any, .any, .any, .any, .any, .any, .any, .any, .any, .any, .any, .any, .v (.int .i64 us.length), .v (.int .i64 k.1), .any, .any, .any, .any, .any, .any, .any, .any, .any, .any, .any, .any, .any, .any, .any, .any, .any, .any, .any, .any, .any, .any], [.ent ⟨0, none, 25, [.sl f 1 (strRow ns), .sl g 1 (u32Row us)], .cells⟩]⟩) (fun k => us.length - k.1) ⟨0, by omega, hq, by intro y hy; omega⟩ ⟨?_, Fq⟩ ?_
                · exact Lq
                · rintro ⟨k, hk, hq, hkn⟩
                  by_cases hlk : (k : Int) < (us.length : Int)
                  · have hk' : k < us.length := by omega
                    cases hx : fl us i j with
                    | false =>
                      repeat' first | (with_reducible first | refine AWP_seq' ?_ | refine k_normal ?_ | refine b_normal ?_ | refine AWP_skip ?_ | refine AWP_block ?_) | ((with_reducible refine AWP_reg fun KC J hJ hKC => ?_); simp (maxSteps := 10000000) only [push_cast, seval, ↓reduceIte, hlk, hx, undef, wrapN (i := k) (n := us.length) (by omega) (by omega)]) | (refine' hKC _ _ _ _ _ (callV0 (rFlows_fn _ _ _ _ _ _ ?_ ?_ ?_) rfl rfl rfl ?_ ?_); (rotate_left 9); (· exact Lq); (rotate_left 1); (iterate 3 (· exact Hq)); simp (maxSteps := 10000000) only [push_cast, seval, ↓reduceIte, hlk, hx, undef, wrapN (i := k) (n := us.length) (by omega) (by omega)]) | ((with_reducible refine hJ _ _ ?_); clear hJ hKC KC J) | ((with_reducible refine AWP_condT ?_ ?_); · rfl) | ((with_reducible refine AWP_condF ?_ ?_); · rfl)
                      refine ⟨⟨k + 1, by omega, hq, fun y hy => ?_⟩, by simp only; omega, ?_, Fq⟩
                      · intro h; rw [hx] at h; cases h
                      · exact Lq
                    | true =>
                      cases hy : fl us j k with
                      | false =>
                        repeat' first | (with_reducible first | refine AWP_seq' ?_ | refine k_normal ?_ | refine b_normal ?_ | refine AWP_skip ?_ | refine AWP_block ?_) | ((with_reducible refine AWP_reg fun KC J hJ hKC => ?_); simp (maxSteps := 10000000) only [push_cast, seval, ↓reduceIte, hlk, hx, hy, undef, wrapN (i := k) (n := us.length) (by omega) (by omega)]) | (refine' hKC _ _ _ _ _ (callV0 (rFlows_fn _ _ _ _ _ _ ?_ ?_ ?_) rfl rfl rfl ?_ ?_); (rotate_left 9); (· exact Lq); (rotate_left 1); (iterate 3 (· exact Hq)); simp (maxSteps := 10000000) only [push_cast, seval, ↓reduceIte, hlk, hx, hy, undef, wrapN (i := k) (n := us.length) (by omega) (by omega)]) | ((with_reducible refine hJ _ _ ?_); clear hJ hKC KC J) | ((with_reducible refine AWP_condT ?_ ?_); · rfl) | ((with_reducible refine AWP_condF ?_ ?_); · rfl)
                        refine ⟨⟨k + 1, by omega, hq, fun y hyk => ?_⟩, by simp only; omega, ?_, Fq⟩
                        · by_cases he : y = k
                          · intro _ h; rw [he, hy] at h; cases h
                          · exact hkn y (by omega)
                        · exact Lq
                      | true =>
                        cases hz : fl us i k with
                        | true =>
                          repeat' first | (with_reducible first | refine AWP_seq' ?_ | refine k_normal ?_ | refine b_normal ?_ | refine AWP_skip ?_ | refine AWP_block ?_) | ((with_reducible refine AWP_reg fun KC J hJ hKC => ?_); simp (maxSteps := 10000000) only [push_cast, seval, ↓reduceIte, hlk, hx, hy, hz, undef, wrapN (i := k) (n := us.length) (by omega) (by omega)]) | (refine' hKC _ _ _ _ _ (callV0 (rFlows_fn _ _ _ _ _ _ ?_ ?_ ?_) rfl rfl rfl ?_ ?_); (rotate_left 9); (· exact Lq); (rotate_left 1); (iterate 3 (· exact Hq)); simp (maxSteps := 10000000) only [push_cast, seval, ↓reduceIte, hlk, hx, hy, hz, undef, wrapN (i := k) (n := us.length) (by omega) (by omega)]) | ((with_reducible refine hJ _ _ ?_); clear hJ hKC KC J) | ((with_reducible refine AWP_condT ?_ ?_); · rfl) | ((with_reducible refine AWP_condF ?_ ?_); · rfl)
                          refine ⟨⟨k + 1, by omega, hq, fun y hyk => ?_⟩, by simp only; omega, ?_, Fq⟩
                          · by_cases he : y = k
                            · intro _ _; rw [he, hz]
                            · exact hkn y (by omega)
                          · exact Lq
                        | false =>
                          repeat' first | (with_reducible first | refine AWP_seq' ?_ | refine k_normal ?_ | refine k_ret ?_ | refine b_ret ?_ | refine AWP_ret ?_ | refine AWP_skip ?_ | refine AWP_block ?_) | ((with_reducible refine AWP_reg fun KC J hJ hKC => ?_); simp (maxSteps := 10000000) only [push_cast, seval, ↓reduceIte, hlk, hx, hy, hz, undef]) | (refine' hKC _ _ _ _ _ (callV0 (rFlows_fn _ _ _ _ _ _ ?_ ?_ ?_) rfl rfl rfl ?_ ?_); (rotate_left 9); (· exact Lq); (rotate_left 1); (iterate 3 (· exact Hq)); simp (maxSteps := 10000000) only [push_cast, seval, ↓reduceIte, hlk, hx, hy, hz, undef]) | ((with_reducible refine hJ _ _ ?_); clear hJ hKC KC J) | ((with_reducible refine AWP_condT ?_ ?_); · rfl)
                          refine ret_plain ?_
                          simp (maxSteps := 10000000) only [push_cast, seval, ↓reduceIte, show Tryz.f130.results = #[(.tmp 2)] from rfl]
                          rw [decide_eq_false (fun h => by have := ((ord_r0.1 h i hi').2 j hj').2 k hk' hx hy; rw [hz] at this; cases this)]
                          exact leD_refl _
                  · skip
                    repeat' first | (with_reducible first | refine AWP_seq' ?_ | refine k_normal ?_ | refine k_exit ?_ | refine b_normal ?_ | refine b_exit ?_ | refine AWP_exit ?_) | ((with_reducible refine AWP_reg fun KC J hJ hKC => ?_); simp (maxSteps := 10000000) only [push_cast, seval, ↓reduceIte, hlk, wrapN (i := j) (n := us.length) (by omega) (by omega)]) | ((with_reducible refine hJ _ _ ?_); clear hJ hKC KC J) | ((with_reducible refine AWP_condF ?_ ?_); · rfl)
                    refine ⟨⟨j + 1, by omega, fun y hy => ?_⟩, by simp only; omega, ?_, Fq⟩
                    · by_cases he : y = j
                      · subst he; exact ⟨hq, fun z hz => hkn z (by omega)⟩
                      · exact hjn y (by omega)
                    · exact Lq
            · have hij : ¬ i = j := fun h => hq fun h' => absurd h h'
              have hxy : fl us i j = true ∧ fl us j i = true := by
                refine Decidable.byContradiction fun h => hq fun _ => h
              have hne : ((i : Int) != (j : Int)) = true := by simp; omega
              repeat' first | (with_reducible first | refine AWP_seq' ?_ | refine k_normal ?_ | refine k_ret ?_ | refine b_ret ?_ | refine AWP_ret ?_ | refine AWP_skip ?_ | refine AWP_block ?_) | ((with_reducible refine AWP_reg fun KC J hJ hKC => ?_); simp (maxSteps := 10000000) only [push_cast, seval, ↓reduceIte, hlj, hne, hxy.1, hxy.2]) | (refine' hKC _ _ _ _ _ (callV0 (rFlows_fn _ _ _ _ _ _ ?_ ?_ ?_) rfl rfl rfl ?_ ?_); (rotate_left 9); (· exact Lq); (rotate_left 1); (iterate 3 (· exact Hq)); simp (maxSteps := 10000000) only [push_cast, seval, ↓reduceIte, hlj, hne, hxy.1, hxy.2]) | ((with_reducible refine hJ _ _ ?_); clear hJ hKC KC J) | ((with_reducible refine AWP_condT ?_ ?_); · rfl)
              refine ret_plain ?_
              simp (maxSteps := 10000000) only [push_cast, seval, ↓reduceIte, show Tryz.f130.results = #[(.tmp 2)] from rfl]
              rw [decide_eq_false (fun h => hq ((ord_r0.1 h i hi').2 j hj').1)]
              exact leD_refl _
          · skip
            repeat' first | (with_reducible first | refine AWP_seq' ?_ | refine k_normal ?_ | refine k_exit ?_ | refine b_normal ?_ | refine b_exit ?_ | refine AWP_exit ?_) | ((with_reducible refine AWP_reg fun KC J hJ hKC => ?_); simp (maxSteps := 10000000) only [push_cast, seval, ↓reduceIte, hlj, wrapN (i := i) (n := us.length) (by omega) (by omega)]) | ((with_reducible refine hJ _ _ ?_); clear hJ hKC KC J) | ((with_reducible refine AWP_condF ?_ ?_); · rfl)
            refine ⟨⟨i + 1, by omega, fun x hx => ?_⟩, by simp only; omega, ?_, Fq⟩
            · by_cases he : x = i
              · subst he; exact ⟨h1, fun y hy => hjn y (by omega)⟩
              · exact hin x (by omega)
            · exact Lq
      · skip
        repeat' first | (with_reducible first | refine AWP_seq' ?_ | refine k_normal ?_ | refine k_ret ?_ | refine b_ret ?_ | refine AWP_ret ?_ | refine AWP_skip ?_ | refine AWP_block ?_) | ((with_reducible refine AWP_reg fun KC J hJ hKC => ?_); simp (maxSteps := 10000000) only [push_cast, seval, ↓reduceIte, hlt, h1, undef]) | (refine' hKC _ _ _ _ _ (callV0 (rFlows_fn _ _ _ _ _ _ ?_ ?_ ?_) rfl rfl rfl ?_ ?_); (rotate_left 9); (· exact Lq); (rotate_left 1); (iterate 3 (· exact Hq)); simp (maxSteps := 10000000) only [push_cast, seval, ↓reduceIte, hlt, h1, undef]) | ((with_reducible refine hJ _ _ ?_); clear hJ hKC KC J) | ((with_reducible refine AWP_condT ?_ ?_); · rfl)
        refine ret_plain ?_
        simp (maxSteps := 10000000) only [push_cast, seval, ↓reduceIte, show Tryz.f130.results = #[(.tmp 2)] from rfl]
        rw [decide_eq_false (fun h => h1 (ord_r0.1 h i hi').1)]
        exact leD_refl _
    · skip
      repeat' first | (with_reducible first | refine AWP_seq' ?_ | refine k_normal ?_ | refine k_exit ?_ | refine b_exit ?_ | refine AWP_ret ?_ | refine AWP_exit ?_) | ((with_reducible refine AWP_reg fun KC J hJ hKC => ?_); simp (maxSteps := 10000000) only [push_cast, seval, ↓reduceIte, hlt]) | ((with_reducible refine hJ _ _ ?_); clear hJ hKC KC J) | ((with_reducible refine AWP_condF ?_ ?_); · rfl)
      refine ret_plain ?_
      simp (maxSteps := 10000000) only [push_cast, seval, ↓reduceIte, show Tryz.f130.results = #[(.tmp 2)] from rfl]
      rw [decide_eq_true (ord_r0.2 fun x hx => hin x (by omega))]
      exact leD_refl _
def isJn (us : List Nat) (a b c n : Nat) : Prop := (fl us a c = true ∧ fl us b c = true) ∧ ∀ d, d < n → fl us a d = true → fl us b d = true → fl us c d = true
instance (us : List Nat) (a b c n : Nat) : Decidable (isJn us a b c n) := by unfold isJn; infer_instance
theorem rJoin_fn (f g : Bool) (ns : List ByteArray) (us : List Nat) (a b : Nat) (hu : U32 us) (hlw : Low us) (ho : Ord us) (hl : us.length ≤ 8) (ha : a < us.length) (hb : b < us.length) :
    Fn Tryz.prog 131 [.agg [.sl f 1 (strRow ns), .sl g 1 (u32Row us)], .v (.int .i64 (a : Int)), .v (.int .i64 (b : Int))] [] (.v (.int .i64 (joinI us a b))) [] := by
  refine Fn.of (fn := Tryz.f131) (by kernel_rfl) rfl (by kernel_rfl) ⟨[.agg [.sl f 1 (strRow ns), .sl g 1 (u32Row us)], .v (.int .i64 (a : Int)), .v (.int .i64 (b : Int)), .v undef, .v undef, .v undef, .v undef, .v undef, .v undef, .v undef, .v undef, .v undef, .v undef, .v undef, .v undef, .v undef, .v undef, .v undef, .v undef, .v undef, .v undef, .v undef, .v undef, .v undef, .v undef, .v undef, .v undef, .v undef, .v undef, .v undef, .v undef, .v undef, .v undef, .v undef, .v undef, .v undef, .v undef, .v undef, .v undef, .v undef, .v undef, .v undef, .v undef, .v undef, .v undef, .v undef, .v undef, .v undef, .v undef, .v undef, .v undef, .v undef, .v undef], []⟩ rfl ?_
  repeat' first | (with_reducible first | refine AWP_seq' ?_ | refine k_normal ?_ | refine AWP_block ?_) | ((with_reducible refine AWP_reg fun KC J hJ hKC => ?_); simp (maxSteps := 10000000) only [push_cast, seval, ↓reduceIte]) | ((with_reducible refine hJ _ _ ?_); clear hJ hKC KC J)
  refine AWP_loopF (γ := {c : Nat // c ≤ us.length ∧ ∀ x, x < c → ¬ isJ us a b x}) (fun c => ⟨[.any, .v (.int .i64 a), .v (.int .i64 b), .ptr 0 0 0, .any, .any, .any, .any, .any, .any, .any, .any, .v (.int .i64 us.length), .v (.int .i64 c.1), .any, .any, .any, .any, .any, .any, .any, .any, .any, .any, .any, .any, .any, .any, .any, .any, .any, .any, .any, .any, .any, .any, .any, .any, .any, .any, .any, .any, .any, .any, .any, .any, .any, .any, .any, .any, .any, .any, .any], [.ent ⟨0, none, 25, [.sl f 1 (strRow ns), .sl g 1 (u32Row us)], .cells⟩]⟩) (fun c => us.length - c.1) ⟨0, by simp⟩ ⟨?_, Fq⟩ ?_
  · exact Lq
  · rintro ⟨c, hc, hcn⟩
    by_cases hlt : (c : Int) < (us.length : Int)
    · have hc' : c < us.length := by omega
      repeat' first | (with_reducible refine hold1 4 ?_) | (with_reducible first | refine AWP_seq' ?_ | refine k_normal ?_ | refine AWP_skip ?_ | refine AWP_block ?_) | ((with_reducible refine AWP_reg fun KC J hJ hKC => ?_); simp (maxSteps := 10000000) only [push_cast, seval, ↓reduceIte, hlt]) | ((with_reducible refine hJ _ _ ?_); clear hJ hKC KC J) | ((with_reducible refine AWP_condT ?_ ?_); · rfl)
      refine AWP_cut ⟨[.any, .v (.int .i64 a), .v (.int .i64 b), .ptr 0 0 0, .any, .any, .any, .v (.int .i64 c), .v (.bool (decide (isJn us a b c 0))), .any, .any, .any, .v (.int .i64 us.length), .v (.int .i64 c), .any, .any, .any, .any, .any, .any, .any, .any, .any, .any, .any, .any, .any, .any, .any, .any, .any, .any, .any, .any, .any, .any, .any, .any, .any, .any, .any, .any, .any, .any, .any, .any, .any, .any, .any, .any, .any, .any, .any], [.ent ⟨0, none, 25, [.sl f 1 (strRow ns), .sl g 1 (u32Row us)], .cells⟩]⟩ ?_ ?_
      · cases hx : fl us a c
        · have e : decide (isJn us a b c 0) = false := decide_eq_false fun h => by have := h.1.1; rw [hx] at this; cases this
          rw [e]
          repeat' first | ((with_reducible refine AWP_reg fun KC J hJ hKC => ?_); simp (maxSteps := 10000000) only [push_cast, seval, ↓reduceIte, hx, undef]) | (refine' hKC _ _ _ _ _ (callV0 (rFlows_fn _ _ _ _ _ _ ?_ ?_ ?_) rfl rfl rfl ?_ ?_); (rotate_left 9); (· exact Lq); (rotate_left 1); (iterate 3 (· exact Hq)); simp (maxSteps := 10000000) only [push_cast, seval, ↓reduceIte, hx, undef]) | ((with_reducible refine hJ _ _ ?_); clear hJ hKC KC J)
          (refine to_of ?_ Fq; (· exact Lq))
        · cases hy : fl us b c
          · have e : decide (isJn us a b c 0) = false := decide_eq_false fun h => by have := h.1.2; rw [hy] at this; cases this
            rw [e]
            repeat' first | ((with_reducible refine AWP_reg fun KC J hJ hKC => ?_); simp (maxSteps := 10000000) only [push_cast, seval, ↓reduceIte, hx, hy, undef]) | (refine' hKC _ _ _ _ _ (callV0 (rFlows_fn _ _ _ _ _ _ ?_ ?_ ?_) rfl rfl rfl ?_ ?_); (rotate_left 9); (· exact Lq); (rotate_left 1); (iterate 3 (· exact Hq)); simp (maxSteps := 10000000) only [push_cast, seval, ↓reduceIte, hx, hy, undef]) | ((with_reducible refine hJ _ _ ?_); clear hJ hKC KC J)
            (refine to_of ?_ Fq; (· exact Lq))
          · have e : decide (isJn us a b c 0) = true := decide_eq_true ⟨⟨hx, hy⟩, fun d hd => by omega⟩
            rw [e]
            repeat' first | ((with_reducible refine AWP_reg fun KC J hJ hKC => ?_); simp (maxSteps := 10000000) only [push_cast, seval, ↓reduceIte, hx, hy, undef]) | (refine' hKC _ _ _ _ _ (callV0 (rFlows_fn _ _ _ _ _ _ ?_ ?_ ?_) rfl rfl rfl ?_ ?_); (rotate_left 9); (· exact Lq); (rotate_left 1); (iterate 3 (· exact Hq)); simp (maxSteps := 10000000) only [push_cast, seval, ↓reduceIte, hx, hy, undef]) | ((with_reducible refine hJ _ _ ?_); clear hJ hKC KC J)
            (refine to_of ?_ Fq; (· exact Lq))
      · skip
        repeat' first | (with_reducible first | refine AWP_seq' ?_ | refine k_normal ?_ | refine AWP_block ?_) | ((with_reducible refine AWP_reg fun KC J hJ hKC => ?_); simp (maxSteps := 10000000) only [push_cast, seval, ↓reduceIte]) | ((with_reducible refine hJ _ _ ?_); clear hJ hKC KC J)
        refine AWP_loopF (γ := {d : Nat // d ≤ us.length}) (fun d => ⟨[.any, .v (.int .i64 a), .v (.int .i64 b), .ptr 0 0 0, .any, .any, .any, .v (.int .i64 c), .v (.bool (decide (isJn us a b c d.1))), .any, .any, .any, .v (.int .i64 us.length), .v (.int .i64 c), .any, .any, .any, .any, .any, .any, .any, .any, .any, .any, .any, .any, .any, .any, .v (.int .i64 us.length), .v (.int .i64 d.1), .any, .any, .any, .any, .any, .any, .any, .any, .any, .any, .any, .any, .any, .any, .any, .any, .any, .any, .any, .any, .any, .any, .any], [.ent ⟨0, none, 25, [.sl f 1 (strRow ns), .sl g 1 (u32Row us)], .cells⟩]⟩) (fun d => us.length - d.1) ⟨0, by simp⟩ ⟨?_, Fq⟩ ?_
        · exact Lq
        · rintro ⟨d, hd⟩
          by_cases hld : (d : Int) < (us.length : Int)
          · have hd' : d < us.length := by omega
            have hst : (fl us a d = true → fl us b d = true → fl us c d = true) → decide (isJn us a b c (d + 1)) = decide (isJn us a b c d) := fun h => decide_eq_decide.2 ⟨fun h2 => ⟨h2.1, fun e he => h2.2 e (by omega)⟩, fun h2 => ⟨h2.1, fun e he => by
              by_cases hed : e = d
              · subst hed; exact h
              · exact h2.2 e (by omega)⟩⟩
            by_cases hbad : fl us a d = true ∧ fl us b d = true ∧ fl us c d = false
            · have e : decide (isJn us a b c (d + 1)) = false := decide_eq_false fun h => by have := h.2 d (by omega) hbad.1 hbad.2.1; rw [hbad.2.2] at this; cases this
              repeat' first | (with_reducible first | refine AWP_seq' ?_ | refine k_normal ?_ | refine b_normal ?_ | refine AWP_skip ?_ | refine AWP_block ?_) | ((with_reducible refine AWP_reg fun KC J hJ hKC => ?_); simp (maxSteps := 10000000) only [push_cast, seval, ↓reduceIte, hld, hbad.1, hbad.2.1, hbad.2.2, undef, wrapN (i := d) (n := us.length) (by omega) (by omega)]) | (refine' hKC _ _ _ _ _ (callV0 (rFlows_fn _ _ _ _ _ _ ?_ ?_ ?_) rfl rfl rfl ?_ ?_); (rotate_left 9); (· exact Lq); (rotate_left 1); (iterate 3 (· exact Hq)); simp (maxSteps := 10000000) only [push_cast, seval, ↓reduceIte, hld, hbad.1, hbad.2.1, hbad.2.2, undef, wrapN (i := d) (n := us.length) (by omega) (by omega)]) | ((with_reducible refine hJ _ _ ?_); clear hJ hKC KC J) | ((with_reducible refine AWP_condT ?_ ?_); · rfl)
              refine ⟨⟨d + 1, by omega⟩, by simp only; omega, ?_, Fq⟩
              simp only [e]
              exact Lq
            · have e := hst fun h1 h2 => by
                cases h3 : fl us c d with
                | true => rfl
                | false => exact absurd ⟨h1, h2, h3⟩ hbad
              obtain ⟨v, hv⟩ : ∃ v, decide (isJn us a b c d) = v := ⟨_, rfl⟩
              rw [hv] at e ⊢
              cases hx : fl us a d
              · skip
                repeat' first | (with_reducible first | refine AWP_seq' ?_ | refine k_normal ?_ | refine b_normal ?_ | refine AWP_skip ?_ | refine AWP_block ?_) | ((with_reducible refine AWP_reg fun KC J hJ hKC => ?_); simp (maxSteps := 10000000) only [push_cast, seval, ↓reduceIte, hld, hx, undef, wrapN (i := d) (n := us.length) (by omega) (by omega)]) | (refine' hKC _ _ _ _ _ (callV0 (rFlows_fn _ _ _ _ _ _ ?_ ?_ ?_) rfl rfl rfl ?_ ?_); (rotate_left 9); (· exact Lq); (rotate_left 1); (iterate 3 (· exact Hq)); simp (maxSteps := 10000000) only [push_cast, seval, ↓reduceIte, hld, hx, undef, wrapN (i := d) (n := us.length) (by omega) (by omega)]) | ((with_reducible refine hJ _ _ ?_); clear hJ hKC KC J) | ((with_reducible refine AWP_condT ?_ ?_); · rfl) | ((with_reducible refine AWP_condF ?_ ?_); · rfl)
                refine ⟨⟨d + 1, by omega⟩, by simp only; omega, ?_, Fq⟩
                simp only [e]
                exact Lq
              · cases hy : fl us b d
                · skip
                  repeat' first | (with_reducible first | refine AWP_seq' ?_ | refine k_normal ?_ | refine b_normal ?_ | refine AWP_skip ?_ | refine AWP_block ?_) | ((with_reducible refine AWP_reg fun KC J hJ hKC => ?_); simp (maxSteps := 10000000) only [push_cast, seval, ↓reduceIte, hld, hx, hy, undef, wrapN (i := d) (n := us.length) (by omega) (by omega)]) | (refine' hKC _ _ _ _ _ (callV0 (rFlows_fn _ _ _ _ _ _ ?_ ?_ ?_) rfl rfl rfl ?_ ?_); (rotate_left 9); (· exact Lq); (rotate_left 1); (iterate 3 (· exact Hq)); simp (maxSteps := 10000000) only [push_cast, seval, ↓reduceIte, hld, hx, hy, undef, wrapN (i := d) (n := us.length) (by omega) (by omega)]) | ((with_reducible refine hJ _ _ ?_); clear hJ hKC KC J) | ((with_reducible refine AWP_condT ?_ ?_); · rfl) | ((with_reducible refine AWP_condF ?_ ?_); · rfl)
                  refine ⟨⟨d + 1, by omega⟩, by simp only; omega, ?_, Fq⟩
                  simp only [e]
                  exact Lq
                · have hz : fl us c d = true := by
                    cases h3 : fl us c d with
                    | true => rfl
                    | false => exact absurd ⟨hx, hy, h3⟩ hbad
                  repeat' first | (with_reducible first | refine AWP_seq' ?_ | refine k_normal ?_ | refine b_normal ?_ | refine AWP_skip ?_ | refine AWP_block ?_) | ((with_reducible refine AWP_reg fun KC J hJ hKC => ?_); simp (maxSteps := 10000000) only [push_cast, seval, ↓reduceIte, hld, hx, hy, hz, undef, wrapN (i := d) (n := us.length) (by omega) (by omega)]) | (refine' hKC _ _ _ _ _ (callV0 (rFlows_fn _ _ _ _ _ _ ?_ ?_ ?_) rfl rfl rfl ?_ ?_); (rotate_left 9); (· exact Lq); (rotate_left 1); (iterate 3 (· exact Hq)); simp (maxSteps := 10000000) only [push_cast, seval, ↓reduceIte, hld, hx, hy, hz, undef, wrapN (i := d) (n := us.length) (by omega) (by omega)]) | ((with_reducible refine hJ _ _ ?_); clear hJ hKC KC J) | ((with_reducible refine AWP_condT ?_ ?_); · rfl) | ((with_reducible refine AWP_condF ?_ ?_); · rfl)
                  refine ⟨⟨d + 1, by omega⟩, by simp only; omega, ?_, Fq⟩
                  simp only [e]
                  exact Lq
          · have hdn : d = us.length := by omega
            subst hdn
            by_cases hj : isJn us a b c us.length
            · have e : decide (isJn us a b c us.length) = true := decide_eq_true hj
              rw [e]
              repeat' first | (with_reducible first | refine AWP_seq' ?_ | refine k_normal ?_ | refine k_ret ?_ | refine k_exit ?_ | refine b_ret ?_ | refine b_exit ?_ | refine AWP_ret ?_ | refine AWP_exit ?_) | ((with_reducible refine AWP_reg fun KC J hJ hKC => ?_); simp (maxSteps := 10000000) only [push_cast, seval, ↓reduceIte, hld]) | ((with_reducible refine hJ _ _ ?_); clear hJ hKC KC J) | ((with_reducible refine AWP_condT ?_ ?_); · rfl) | ((with_reducible refine AWP_condF ?_ ?_); · rfl)
              refine ret_plain ?_
              simp (maxSteps := 10000000) only [push_cast, seval, ↓reduceIte, show Tryz.f131.results = #[(.tmp 6)] from rfl]
              refine leD_v (congrArg (Value.int .i64) ?_)
              exact (idxF_at (xs := us) (i := c) (by omega) (by rw [get_getD hc']; exact decide_eq_true ((isJ_iff hlw ho ha hb hc').1 hj)) (fun j hj' hjc => by rw [get_getD hj']; exact decide_eq_false fun h => hcn j hjc ((isJ_iff hlw ho ha hb hj').2 h))).symm
            · have e : decide (isJn us a b c us.length) = false := decide_eq_false hj
              rw [e]
              repeat' first | (with_reducible first | refine AWP_seq' ?_ | refine k_normal ?_ | refine k_exit ?_ | refine b_normal ?_ | refine b_exit ?_ | refine AWP_skip ?_ | refine AWP_exit ?_) | ((with_reducible refine AWP_reg fun KC J hJ hKC => ?_); simp (maxSteps := 10000000) only [push_cast, seval, ↓reduceIte, hld, wrapN (i := c) (n := us.length) (by omega) (by omega)]) | ((with_reducible refine hJ _ _ ?_); clear hJ hKC KC J) | ((with_reducible refine AWP_condF ?_ ?_); · rfl)
              refine ⟨⟨c + 1, by omega, fun x hx => ?_⟩, by simp only; omega, ?_, Fq⟩
              · by_cases he : x = c
                · subst he; exact hj
                · exact hcn x (by omega)
              · exact Lq
    · skip
      repeat' first | (with_reducible first | refine AWP_seq' ?_ | refine k_normal ?_ | refine k_exit ?_ | refine b_exit ?_ | refine AWP_ret ?_ | refine AWP_exit ?_) | ((with_reducible refine AWP_reg fun KC J hJ hKC => ?_); simp (maxSteps := 10000000) only [push_cast, seval, ↓reduceIte, hlt]) | ((with_reducible refine hJ _ _ ?_); clear hJ hKC KC J) | ((with_reducible refine AWP_condF ?_ ?_); · rfl)
      refine ret_plain ?_
      simp (maxSteps := 10000000) only [push_cast, seval, ↓reduceIte, show Tryz.f131.results = #[(.tmp 6)] from rfl]
      refine leD_v (congrArg (Value.int .i64) ?_)
      exact (idxF_none (xs := us) (fun j hj' => by rw [get_getD hj']; exact decide_eq_false fun h => hcn j (by omega) ((isJ_iff hlw ho ha hb hj').2 h))).symm
def isMn (us : List Nat) (a b c n : Nat) : Prop := (fl us c a = true ∧ fl us c b = true) ∧ ∀ d, d < n → fl us d a = true → fl us d b = true → fl us d c = true
instance (us : List Nat) (a b c n : Nat) : Decidable (isMn us a b c n) := by unfold isMn; infer_instance
theorem rMeet_fn (f g : Bool) (ns : List ByteArray) (us : List Nat) (a b : Nat) (hu : U32 us) (hlw : Low us) (ho : Ord us) (hl : us.length ≤ 8) (ha : a < us.length) (hb : b < us.length) :
    Fn Tryz.prog 132 [.agg [.sl f 1 (strRow ns), .sl g 1 (u32Row us)], .v (.int .i64 (a : Int)), .v (.int .i64 (b : Int))] [] (.v (.int .i64 (meetI us a b))) [] := by
  refine Fn.of (fn := Tryz.f132) (by kernel_rfl) rfl (by kernel_rfl) ⟨[.agg [.sl f 1 (strRow ns), .sl g 1 (u32Row us)], .v (.int .i64 (a : Int)), .v (.int .i64 (b : Int)), .v undef, .v undef, .v undef, .v undef, .v undef, .v undef, .v undef, .v undef, .v undef, .v undef, .v undef, .v undef, .v undef, .v undef, .v undef, .v undef, .v undef, .v undef, .v undef, .v undef, .v undef, .v undef, .v undef, .v undef, .v undef, .v undef, .v undef, .v undef, .v undef, .v undef, .v undef, .v undef, .v undef, .v undef, .v undef, .v undef, .v undef, .v undef, .v undef, .v undef, .v undef, .v undef, .v undef, .v undef, .v undef, .v undef, .v undef, .v undef, .v undef, .v undef], []⟩ rfl ?_
  repeat' first | (with_reducible first | refine AWP_seq' ?_ | refine k_normal ?_ | refine AWP_block ?_) | ((with_reducible refine AWP_reg fun KC J hJ hKC => ?_); simp (maxSteps := 10000000) only [push_cast, seval, ↓reduceIte]) | ((with_reducible refine hJ _ _ ?_); clear hJ hKC KC J)
  refine AWP_loopF (γ := {c : Nat // c ≤ us.length ∧ ∀ x, x < c → ¬ isM us a b x}) (fun c => ⟨[.any, .v (.int .i64 a), .v (.int .i64 b), .ptr 0 0 0, .any, .any, .any, .any, .any, .any, .any, .any, .v (.int .i64 us.length), .v (.int .i64 c.1), .any, .any, .any, .any, .any, .any, .any, .any, .any, .any, .any, .any, .any, .any, .any, .any, .any, .any, .any, .any, .any, .any, .any, .any, .any, .any, .any, .any, .any, .any, .any, .any, .any, .any, .any, .any, .any, .any, .any], [.ent ⟨0, none, 25, [.sl f 1 (strRow ns), .sl g 1 (u32Row us)], .cells⟩]⟩) (fun c => us.length - c.1) ⟨0, by simp⟩ ⟨?_, Fq⟩ ?_
  · exact Lq
  · rintro ⟨c, hc, hcn⟩
    by_cases hlt : (c : Int) < (us.length : Int)
    · have hc' : c < us.length := by omega
      repeat' first | (with_reducible refine hold1 4 ?_) | (with_reducible first | refine AWP_seq' ?_ | refine k_normal ?_ | refine AWP_skip ?_ | refine AWP_block ?_) | ((with_reducible refine AWP_reg fun KC J hJ hKC => ?_); simp (maxSteps := 10000000) only [push_cast, seval, ↓reduceIte, hlt]) | ((with_reducible refine hJ _ _ ?_); clear hJ hKC KC J) | ((with_reducible refine AWP_condT ?_ ?_); · rfl)
      refine AWP_cut ⟨[.any, .v (.int .i64 a), .v (.int .i64 b), .ptr 0 0 0, .any, .any, .any, .v (.int .i64 c), .v (.bool (decide (isMn us a b c 0))), .any, .any, .any, .v (.int .i64 us.length), .v (.int .i64 c), .any, .any, .any, .any, .any, .any, .any, .any, .any, .any, .any, .any, .any, .any, .any, .any, .any, .any, .any, .any, .any, .any, .any, .any, .any, .any, .any, .any, .any, .any, .any, .any, .any, .any, .any, .any, .any, .any, .any], [.ent ⟨0, none, 25, [.sl f 1 (strRow ns), .sl g 1 (u32Row us)], .cells⟩]⟩ ?_ ?_
      · cases hx : fl us c a
        · have e : decide (isMn us a b c 0) = false := decide_eq_false fun h => by have := h.1.1; rw [hx] at this; cases this
          rw [e]
          repeat' first | ((with_reducible refine AWP_reg fun KC J hJ hKC => ?_); simp (maxSteps := 10000000) only [push_cast, seval, ↓reduceIte, hx, undef]) | (refine' hKC _ _ _ _ _ (callV0 (rFlows_fn _ _ _ _ _ _ ?_ ?_ ?_) rfl rfl rfl ?_ ?_); (rotate_left 9); (· exact Lq); (rotate_left 1); (iterate 3 (· exact Hq)); simp (maxSteps := 10000000) only [push_cast, seval, ↓reduceIte, hx, undef]) | ((with_reducible refine hJ _ _ ?_); clear hJ hKC KC J)
          (refine to_of ?_ Fq; (· exact Lq))
        · cases hy : fl us c b
          · have e : decide (isMn us a b c 0) = false := decide_eq_false fun h => by have := h.1.2; rw [hy] at this; cases this
            rw [e]
            repeat' first | ((with_reducible refine AWP_reg fun KC J hJ hKC => ?_); simp (maxSteps := 10000000) only [push_cast, seval, ↓reduceIte, hx, hy, undef]) | (refine' hKC _ _ _ _ _ (callV0 (rFlows_fn _ _ _ _ _ _ ?_ ?_ ?_) rfl rfl rfl ?_ ?_); (rotate_left 9); (· exact Lq); (rotate_left 1); (iterate 3 (· exact Hq)); simp (maxSteps := 10000000) only [push_cast, seval, ↓reduceIte, hx, hy, undef]) | ((with_reducible refine hJ _ _ ?_); clear hJ hKC KC J)
            (refine to_of ?_ Fq; (· exact Lq))
          · have e : decide (isMn us a b c 0) = true := decide_eq_true ⟨⟨hx, hy⟩, fun d hd => by omega⟩
            rw [e]
            repeat' first | ((with_reducible refine AWP_reg fun KC J hJ hKC => ?_); simp (maxSteps := 10000000) only [push_cast, seval, ↓reduceIte, hx, hy, undef]) | (refine' hKC _ _ _ _ _ (callV0 (rFlows_fn _ _ _ _ _ _ ?_ ?_ ?_) rfl rfl rfl ?_ ?_); (rotate_left 9); (· exact Lq); (rotate_left 1); (iterate 3 (· exact Hq)); simp (maxSteps := 10000000) only [push_cast, seval, ↓reduceIte, hx, hy, undef]) | ((with_reducible refine hJ _ _ ?_); clear hJ hKC KC J)
            (refine to_of ?_ Fq; (· exact Lq))
      · skip
        repeat' first | (with_reducible first | refine AWP_seq' ?_ | refine k_normal ?_ | refine AWP_block ?_) | ((with_reducible refine AWP_reg fun KC J hJ hKC => ?_); simp (maxSteps := 10000000) only [push_cast, seval, ↓reduceIte]) | ((with_reducible refine hJ _ _ ?_); clear hJ hKC KC J)
        refine AWP_loopF (γ := {d : Nat // d ≤ us.length}) (fun d => ⟨[.any, .v (.int .i64 a), .v (.int .i64 b), .ptr 0 0 0, .any, .any, .any, .v (.int .i64 c), .v (.bool (decide (isMn us a b c d.1))), .any, .any, .any, .v (.int .i64 us.length), .v (.int .i64 c), .any, .any, .any, .any, .any, .any, .any, .any, .any, .any, .any, .any, .any, .any, .v (.int .i64 us.length), .v (.int .i64 d.1), .any, .any, .any, .any, .any, .any, .any, .any, .any, .any, .any, .any, .any, .any, .any, .any, .any, .any, .any, .any, .any, .any, .any], [.ent ⟨0, none, 25, [.sl f 1 (strRow ns), .sl g 1 (u32Row us)], .cells⟩]⟩) (fun d => us.length - d.1) ⟨0, by simp⟩ ⟨?_, Fq⟩ ?_
        · exact Lq
        · rintro ⟨d, hd⟩
          by_cases hld : (d : Int) < (us.length : Int)
          · have hd' : d < us.length := by omega
            have hst : (fl us d a = true → fl us d b = true → fl us d c = true) → decide (isMn us a b c (d + 1)) = decide (isMn us a b c d) := fun h => decide_eq_decide.2 ⟨fun h2 => ⟨h2.1, fun e he => h2.2 e (by omega)⟩, fun h2 => ⟨h2.1, fun e he => by
              by_cases hed : e = d
              · subst hed; exact h
              · exact h2.2 e (by omega)⟩⟩
            by_cases hbad : fl us d a = true ∧ fl us d b = true ∧ fl us d c = false
            · have e : decide (isMn us a b c (d + 1)) = false := decide_eq_false fun h => by have := h.2 d (by omega) hbad.1 hbad.2.1; rw [hbad.2.2] at this; cases this
              repeat' first | (with_reducible first | refine AWP_seq' ?_ | refine k_normal ?_ | refine b_normal ?_ | refine AWP_skip ?_ | refine AWP_block ?_) | ((with_reducible refine AWP_reg fun KC J hJ hKC => ?_); simp (maxSteps := 10000000) only [push_cast, seval, ↓reduceIte, hld, hbad.1, hbad.2.1, hbad.2.2, undef, wrapN (i := d) (n := us.length) (by omega) (by omega)]) | (refine' hKC _ _ _ _ _ (callV0 (rFlows_fn _ _ _ _ _ _ ?_ ?_ ?_) rfl rfl rfl ?_ ?_); (rotate_left 9); (· exact Lq); (rotate_left 1); (iterate 3 (· exact Hq)); simp (maxSteps := 10000000) only [push_cast, seval, ↓reduceIte, hld, hbad.1, hbad.2.1, hbad.2.2, undef, wrapN (i := d) (n := us.length) (by omega) (by omega)]) | ((with_reducible refine hJ _ _ ?_); clear hJ hKC KC J) | ((with_reducible refine AWP_condT ?_ ?_); · rfl)
              refine ⟨⟨d + 1, by omega⟩, by simp only; omega, ?_, Fq⟩
              simp only [e]
              exact Lq
            · have e := hst fun h1 h2 => by
                cases h3 : fl us d c with
                | true => rfl
                | false => exact absurd ⟨h1, h2, h3⟩ hbad
              obtain ⟨v, hv⟩ : ∃ v, decide (isMn us a b c d) = v := ⟨_, rfl⟩
              rw [hv] at e ⊢
              cases hx : fl us d a
              · skip
                repeat' first | (with_reducible first | refine AWP_seq' ?_ | refine k_normal ?_ | refine b_normal ?_ | refine AWP_skip ?_ | refine AWP_block ?_) | ((with_reducible refine AWP_reg fun KC J hJ hKC => ?_); simp (maxSteps := 10000000) only [push_cast, seval, ↓reduceIte, hld, hx, undef, wrapN (i := d) (n := us.length) (by omega) (by omega)]) | (refine' hKC _ _ _ _ _ (callV0 (rFlows_fn _ _ _ _ _ _ ?_ ?_ ?_) rfl rfl rfl ?_ ?_); (rotate_left 9); (· exact Lq); (rotate_left 1); (iterate 3 (· exact Hq)); simp (maxSteps := 10000000) only [push_cast, seval, ↓reduceIte, hld, hx, undef, wrapN (i := d) (n := us.length) (by omega) (by omega)]) | ((with_reducible refine hJ _ _ ?_); clear hJ hKC KC J) | ((with_reducible refine AWP_condT ?_ ?_); · rfl) | ((with_reducible refine AWP_condF ?_ ?_); · rfl)
                refine ⟨⟨d + 1, by omega⟩, by simp only; omega, ?_, Fq⟩
                simp only [e]
                exact Lq
              · cases hy : fl us d b
                · skip
                  repeat' first | (with_reducible first | refine AWP_seq' ?_ | refine k_normal ?_ | refine b_normal ?_ | refine AWP_skip ?_ | refine AWP_block ?_) | ((with_reducible refine AWP_reg fun KC J hJ hKC => ?_); simp (maxSteps := 10000000) only [push_cast, seval, ↓reduceIte, hld, hx, hy, undef, wrapN (i := d) (n := us.length) (by omega) (by omega)]) | (refine' hKC _ _ _ _ _ (callV0 (rFlows_fn _ _ _ _ _ _ ?_ ?_ ?_) rfl rfl rfl ?_ ?_); (rotate_left 9); (· exact Lq); (rotate_left 1); (iterate 3 (· exact Hq)); simp (maxSteps := 10000000) only [push_cast, seval, ↓reduceIte, hld, hx, hy, undef, wrapN (i := d) (n := us.length) (by omega) (by omega)]) | ((with_reducible refine hJ _ _ ?_); clear hJ hKC KC J) | ((with_reducible refine AWP_condT ?_ ?_); · rfl) | ((with_reducible refine AWP_condF ?_ ?_); · rfl)
                  refine ⟨⟨d + 1, by omega⟩, by simp only; omega, ?_, Fq⟩
                  simp only [e]
                  exact Lq
                · have hz : fl us d c = true := by
                    cases h3 : fl us d c with
                    | true => rfl
                    | false => exact absurd ⟨hx, hy, h3⟩ hbad
                  repeat' first | (with_reducible first | refine AWP_seq' ?_ | refine k_normal ?_ | refine b_normal ?_ | refine AWP_skip ?_ | refine AWP_block ?_) | ((with_reducible refine AWP_reg fun KC J hJ hKC => ?_); simp (maxSteps := 10000000) only [push_cast, seval, ↓reduceIte, hld, hx, hy, hz, undef, wrapN (i := d) (n := us.length) (by omega) (by omega)]) | (refine' hKC _ _ _ _ _ (callV0 (rFlows_fn _ _ _ _ _ _ ?_ ?_ ?_) rfl rfl rfl ?_ ?_); (rotate_left 9); (· exact Lq); (rotate_left 1); (iterate 3 (· exact Hq)); simp (maxSteps := 10000000) only [push_cast, seval, ↓reduceIte, hld, hx, hy, hz, undef, wrapN (i := d) (n := us.length) (by omega) (by omega)]) | ((with_reducible refine hJ _ _ ?_); clear hJ hKC KC J) | ((with_reducible refine AWP_condT ?_ ?_); · rfl) | ((with_reducible refine AWP_condF ?_ ?_); · rfl)
                  refine ⟨⟨d + 1, by omega⟩, by simp only; omega, ?_, Fq⟩
                  simp only [e]
                  exact Lq
          · have hdn : d = us.length := by omega
            subst hdn
            by_cases hj : isMn us a b c us.length
            · have e : decide (isMn us a b c us.length) = true := decide_eq_true hj
              rw [e]
              repeat' first | (with_reducible first | refine AWP_seq' ?_ | refine k_normal ?_ | refine k_ret ?_ | refine k_exit ?_ | refine b_ret ?_ | refine b_exit ?_ | refine AWP_ret ?_ | refine AWP_exit ?_) | ((with_reducible refine AWP_reg fun KC J hJ hKC => ?_); simp (maxSteps := 10000000) only [push_cast, seval, ↓reduceIte, hld]) | ((with_reducible refine hJ _ _ ?_); clear hJ hKC KC J) | ((with_reducible refine AWP_condT ?_ ?_); · rfl) | ((with_reducible refine AWP_condF ?_ ?_); · rfl)
              refine ret_plain ?_
              simp (maxSteps := 10000000) only [push_cast, seval, ↓reduceIte, show Tryz.f132.results = #[(.tmp 6)] from rfl]
              refine leD_v (congrArg (Value.int .i64) ?_)
              exact (idxF_at (xs := List.range us.length) (i := c) (by simp; omega) (by simpa using (isM_iff ho ha hb hc').1 hj) (fun j hj' hjc => by simpa using fun h => hcn j hjc ((isM_iff ho ha hb (by omega)).2 h))).symm
            · have e : decide (isMn us a b c us.length) = false := decide_eq_false hj
              rw [e]
              repeat' first | (with_reducible first | refine AWP_seq' ?_ | refine k_normal ?_ | refine k_exit ?_ | refine b_normal ?_ | refine b_exit ?_ | refine AWP_skip ?_ | refine AWP_exit ?_) | ((with_reducible refine AWP_reg fun KC J hJ hKC => ?_); simp (maxSteps := 10000000) only [push_cast, seval, ↓reduceIte, hld, wrapN (i := c) (n := us.length) (by omega) (by omega)]) | ((with_reducible refine hJ _ _ ?_); clear hJ hKC KC J) | ((with_reducible refine AWP_condF ?_ ?_); · rfl)
              refine ⟨⟨c + 1, by omega, fun x hx => ?_⟩, by simp only; omega, ?_, Fq⟩
              · by_cases he : x = c
                · subst he; exact hj
                · exact hcn x (by omega)
              · exact Lq
    · skip
      repeat' first | (with_reducible first | refine AWP_seq' ?_ | refine k_normal ?_ | refine k_exit ?_ | refine b_exit ?_ | refine AWP_ret ?_ | refine AWP_exit ?_) | ((with_reducible refine AWP_reg fun KC J hJ hKC => ?_); simp (maxSteps := 10000000) only [push_cast, seval, ↓reduceIte, hlt]) | ((with_reducible refine hJ _ _ ?_); clear hJ hKC KC J) | ((with_reducible refine AWP_condF ?_ ?_); · rfl)
      refine ret_plain ?_
      simp (maxSteps := 10000000) only [push_cast, seval, ↓reduceIte, show Tryz.f132.results = #[(.tmp 6)] from rfl]
      refine leD_v (congrArg (Value.int .i64) ?_)
      exact (idxF_none (xs := List.range us.length) (fun j hj' => by have hj2 : j < us.length := (by simpa using hj'); simpa using fun h => hcn j (by omega) ((isM_iff ho ha hb hj2).2 h))).symm
end Go.Proofs.YtabliglgeiajlaaGreat.AM
