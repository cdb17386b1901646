/- Lattices: the checks. -/
import Derived.Test.YtabliglgeiajlaaGreatV5
set_option linter.unusedSimpArgs false
set_option linter.unusedVariables false
namespace Go.Proofs.YtabliglgeiajlaaGreat.AM
open Go Go.RowKit Go.Proofs
set_option maxRecDepth 100000
set_option maxHeartbeats 1000000

def jmB (us : List Nat) (a b : Nat) : Bool := decide (0 ≤ joinI us a b ∧ 0 ≤ meetI us a b)
theorem latCheck_fn (f g : Bool) (ns : List ByteArray) (us : List Nat) (hs : Szs ns) (hu : U32 us) :
    Fn Tryz.prog 139 [.agg [.sl f 1 (strRow ns), .sl g 1 (u32Row us)]] [] (.v (.int .i64 (checkF ns us))) [] := by
  refine Fn.of (fn := Tryz.f139) (by kernel_rfl) rfl (by kernel_rfl) ⟨[.agg [.sl f 1 (strRow ns), .sl g 1 (u32Row us)], .v undef, .v undef, .v undef, .v undef, .v undef, .v undef, .v undef, .v undef, .v undef, .v undef, .v undef, .v undef, .v undef, .v undef, .v undef, .v undef, .v undef, .v undef, .v undef, .v undef, .v undef, .v undef, .v undef, .v undef, .v undef, .v undef, .v undef, .v undef, .v undef, .v undef], []⟩ rfl ?_
  by_cases hm : mayB ns us = true
  · have hl8 : us.length ≤ 8 := (mayB_get hm).1.2.1
    have hlw := low_of_may hm
    by_cases ho : Ord us
    · have ho' : decide (Ord us) = true := decide_eq_true ho
      have hc : checkF ns us = if Lat us then 0 else 3 := by rw [checkF, if_pos hm, if_pos ho]
      rw [hc]
      repeat' first | (with_reducible first | refine AWP_seq' ?_ | refine k_normal ?_ | refine b_normal ?_ | refine AWP_skip ?_ | refine AWP_block ?_) | ((with_reducible refine AWP_reg fun KC J hJ hKC => ?_); simp (maxSteps := 10000000) only [push_cast, seval, ↓reduceIte, hm, ho']) | (refine' hKC _ _ _ _ _ (callV0 (latMay_fn _ _ _ _ ?_ ?_) rfl rfl rfl ?_ ?_); (rotate_left 6); (· exact Lq); (rotate_left 1); (iterate 2 (· exact Hq)); simp (maxSteps := 10000000) only [push_cast, seval, ↓reduceIte, hm, ho']) | (refine' hKC _ _ _ _ _ (callV0 (order_fn _ _ _ _ ?_ ?_ ?_) rfl rfl rfl ?_ ?_); (rotate_left 7); (· exact Lq); (rotate_left 1); (iterate 3 (· exact Hq)); simp (maxSteps := 10000000) only [push_cast, seval, ↓reduceIte, hm, ho']) | (refine' hKC _ _ _ _ _ (callV0 (pairs_fn _) rfl rfl rfl ?_ ?_); (rotate_left 1); (· exact Lq); simp (maxSteps := 10000000) only [push_cast, seval, ↓reduceIte, hm, ho']) | ((with_reducible refine hJ _ _ ?_); clear hJ hKC KC J) | ((with_reducible refine AWP_condF ?_ ?_); · rfl)
      refine AWP_to ⟨[.any, .ptr 0 0 0, .ptr 1 0 0, .any, .any, .any, .any, .any, .any, .any, .any, .any, .any, .any, .any, .any, .fn 283 [.fad [.v (.int .i64 (us.length : Int))]], .any, .any, .any, .any, .any, .any, .any, .any, .any, .any, .any, .any, .any, .any], [.ent ⟨0, none, 25, [.sl f 1 (strRow ns), .sl g 1 (u32Row us)], .cells⟩, .ent ⟨0, none, 40, [.v (.int .i64 0)], .cells⟩]⟩ (by exact Lq) Fq ?_
      refine AWP_range2 (f := 283) rfl rfl (pairs_it us.length (by omega)) (fun i hi => rfl) 2 rfl rfl
        (fun i => [.ent ⟨0, none, 25, [.sl f 1 (strRow ns), .sl g 1 (u32Row us)], .cells⟩, .ent ⟨0, none, 40, [.v (.int .i64 0)], .cells⟩])
        (fun i => [.ent ⟨0, none, 25, [.sl f 1 (strRow ns), .sl g 1 (u32Row us)], .cells⟩, .ent ⟨0, none, 40, [.v (.int .i64 3)], .cells⟩])
        rfl (fun i => ⟨rfl, rfl⟩) (fun i => ⟨rfl, rfl⟩) (fun i => ⟨rfl, rfl⟩) (fun k => jmB us (pA us.length k) (pB us.length k)) .ret .ret rfl
        (fun i => [.any, .ptr 0 0 0, .ptr 1 0 0, .v (.int .i64 (pA us.length i : Nat)), .v (.int .i64 (pB us.length i : Nat)), .any, .any, .any, .any, .any, .any, .any, .any, .any, .any, .any, .fn 283 [.fad [.v (.int .i64 (us.length : Int))]], .v (.int .i64 (pA us.length i : Nat)), .v (.int .i64 (pB us.length i : Nat)), .any, .any, .any, .any, .any, .any, .any, .any, .any, .any, .any, .any])
        (fun l' i r σ hi => ?_) (fun i => rfl) (fun l' i hi hb' => ?_) (fun hall => ?_) (fun k hk hkf hkb => ?_)
      · skip
        repeat' first | (with_reducible first | refine AWP_seq' ?_ | refine k_normal ?_) | ((with_reducible refine AWP_reg fun KC J hJ hKC => ?_); simp (maxSteps := 10000000) only [push_cast, seval, ↓reduceIte]) | ((with_reducible refine And.intro ?_ ?_); · exact Sq) | ((with_reducible refine hJ _ _ ?_); clear hJ hKC KC J)
        exact rfl
      · have hpa := pA_lt hi
        have hpb := pB_lt hi
        obtain ⟨a, ha⟩ : ∃ a, pA us.length i = a := ⟨_, rfl⟩
        obtain ⟨b, hb⟩ : ∃ b, pB us.length i = b := ⟨_, rfl⟩
        simp only [ha, hb] at hpa hpb ⊢
        by_cases h1 : joinI us a b < 0
        · skip
          repeat' first | (with_reducible first | refine AWP_seq' ?_ | refine k_normal ?_ | refine b_ret ?_ | refine AWP_ret ?_ | refine AWP_block ?_) | ((with_reducible refine AWP_reg fun KC J hJ hKC => ?_); simp (maxSteps := 10000000) only [push_cast, seval, ↓reduceIte, h1, undef]) | (refine' hKC _ _ _ _ _ (callV0 (join_fn _ _ _ _ _ _ ?_ ?_ ?_ ?_) rfl rfl rfl ?_ ?_); (rotate_left 10); (· exact Lq); (rotate_left 1); (iterate 4 (· exact Hq)); simp (maxSteps := 10000000) only [push_cast, seval, ↓reduceIte, h1, undef]) | ((with_reducible refine hJ _ _ ?_); clear hJ hKC KC J) | ((with_reducible refine AWP_condT ?_ ?_); · rfl)
          exact .inr ⟨decide_eq_false fun h => by omega, rfl, (by first | exact weakS_free (k := 0) rfl rfl rfl | exact weakS_free (k := 1) rfl rfl rfl | exact weakS_free (k := 2) rfl rfl rfl | exact weakS_free (k := 3) rfl rfl rfl | exact weakS_free (k := 4) rfl rfl rfl | exact weakS_free (k := 5) rfl rfl rfl | exact weakS_free (k := 6) rfl rfl rfl | exact weakS_free (k := 7) rfl rfl rfl | exact weakS_free (k := 8) rfl rfl rfl)⟩
        · by_cases h2 : meetI us a b < 0
          · skip
            repeat' first | (with_reducible first | refine AWP_seq' ?_ | refine k_normal ?_ | refine b_ret ?_ | refine AWP_ret ?_ | refine AWP_block ?_) | ((with_reducible refine AWP_reg fun KC J hJ hKC => ?_); simp (maxSteps := 10000000) only [push_cast, seval, ↓reduceIte, h1, h2]) | (refine' hKC _ _ _ _ _ (callV0 (join_fn _ _ _ _ _ _ ?_ ?_ ?_ ?_) rfl rfl rfl ?_ ?_); (rotate_left 10); (· exact Lq); (rotate_left 1); (iterate 4 (· exact Hq)); simp (maxSteps := 10000000) only [push_cast, seval, ↓reduceIte, h1, h2]) | (refine' hKC _ _ _ _ _ (callV0 (meet_fn _ _ _ _ _ _ ?_ ?_ ?_ ?_) rfl rfl rfl ?_ ?_); (rotate_left 10); (· exact Lq); (rotate_left 1); (iterate 4 (· exact Hq)); simp (maxSteps := 10000000) only [push_cast, seval, ↓reduceIte, h1, h2]) | ((with_reducible refine hJ _ _ ?_); clear hJ hKC KC J) | ((with_reducible refine AWP_condT ?_ ?_); · rfl)
            exact .inr ⟨decide_eq_false fun h => by omega, rfl, (by first | exact weakS_free (k := 0) rfl rfl rfl | exact weakS_free (k := 1) rfl rfl rfl | exact weakS_free (k := 2) rfl rfl rfl | exact weakS_free (k := 3) rfl rfl rfl | exact weakS_free (k := 4) rfl rfl rfl | exact weakS_free (k := 5) rfl rfl rfl | exact weakS_free (k := 6) rfl rfl rfl | exact weakS_free (k := 7) rfl rfl rfl | exact weakS_free (k := 8) rfl rfl rfl)⟩
          · skip
            repeat' first | (with_reducible first | refine AWP_seq' ?_ | refine k_normal ?_ | refine b_normal ?_ | refine AWP_skip ?_ | refine AWP_block ?_) | ((with_reducible refine AWP_reg fun KC J hJ hKC => ?_); simp (maxSteps := 10000000) only [push_cast, seval, ↓reduceIte, h1, h2]) | (refine' hKC _ _ _ _ _ (callV0 (join_fn _ _ _ _ _ _ ?_ ?_ ?_ ?_) rfl rfl rfl ?_ ?_); (rotate_left 10); (· exact Lq); (rotate_left 1); (iterate 4 (· exact Hq)); simp (maxSteps := 10000000) only [push_cast, seval, ↓reduceIte, h1, h2]) | (refine' hKC _ _ _ _ _ (callV0 (meet_fn _ _ _ _ _ _ ?_ ?_ ?_ ?_) rfl rfl rfl ?_ ?_); (rotate_left 10); (· exact Lq); (rotate_left 1); (iterate 4 (· exact Hq)); simp (maxSteps := 10000000) only [push_cast, seval, ↓reduceIte, h1, h2]) | ((with_reducible refine hJ _ _ ?_); clear hJ hKC KC J) | ((with_reducible refine AWP_condF ?_ ?_); · rfl)
            exact .inl ⟨decide_eq_true ⟨by omega, by omega⟩, rfl, (by first | exact weakS_free (k := 0) rfl rfl rfl | exact weakS_free (k := 1) rfl rfl rfl | exact weakS_free (k := 2) rfl rfl rfl | exact weakS_free (k := 3) rfl rfl rfl | exact weakS_free (k := 4) rfl rfl rfl | exact weakS_free (k := 5) rfl rfl rfl | exact weakS_free (k := 6) rfl rfl rfl | exact weakS_free (k := 7) rfl rfl rfl | exact weakS_free (k := 8) rfl rfl rfl)⟩
      · rw [if_pos (show Lat us from fun a ha b hb => of_decide_eq_true ((pairs_all (p := fun a b => jmB us a b = true)).1 hall a ha b hb))]
        repeat' first | (with_reducible first | refine AWP_seq' ?_ | refine k_normal ?_ | refine b_normal ?_ | refine AWP_ret ?_) | ((with_reducible refine AWP_reg fun KC J hJ hKC => ?_); simp (maxSteps := 10000000) only [push_cast, seval, ↓reduceIte]) | ((with_reducible refine hJ _ _ ?_); clear hJ hKC KC J)
        refine ret_plain ?_
        simp (maxSteps := 10000000) only [push_cast, seval, ↓reduceIte, show Tryz.f139.results = #[(.cell 2 40)] from rfl]
        exact Lq
      · rw [if_neg (fun h : Lat us => by have := (pairs_all (p := fun a b => jmB us a b = true)).2 (fun a ha b hb => decide_eq_true (h a ha b hb)) k hk; rw [hkf] at this; cases this)]
        refine ret_plain ?_
        simp (maxSteps := 10000000) only [push_cast, seval, ↓reduceIte, show Tryz.f139.results = #[(.cell 2 40)] from rfl]
        exact Lq
    · have ho' : decide (Ord us) = false := decide_eq_false ho
      rw [show checkF ns us = 2 by rw [checkF, if_pos hm, if_neg ho]]
      repeat' first | (with_reducible first | refine AWP_seq' ?_ | refine k_normal ?_ | refine k_ret ?_ | refine b_ret ?_ | refine AWP_ret ?_ | refine AWP_block ?_) | ((with_reducible refine AWP_reg fun KC J hJ hKC => ?_); simp (maxSteps := 10000000) only [push_cast, seval, ↓reduceIte, hm, ho']) | (refine' hKC _ _ _ _ _ (callV0 (latMay_fn _ _ _ _ ?_ ?_) rfl rfl rfl ?_ ?_); (rotate_left 6); (· exact Lq); (rotate_left 1); (iterate 2 (· exact Hq)); simp (maxSteps := 10000000) only [push_cast, seval, ↓reduceIte, hm, ho']) | (refine' hKC _ _ _ _ _ (callV0 (order_fn _ _ _ _ ?_ ?_ ?_) rfl rfl rfl ?_ ?_); (rotate_left 7); (· exact Lq); (rotate_left 1); (iterate 3 (· exact Hq)); simp (maxSteps := 10000000) only [push_cast, seval, ↓reduceIte, hm, ho']) | ((with_reducible refine hJ _ _ ?_); clear hJ hKC KC J) | ((with_reducible refine AWP_condT ?_ ?_); · rfl) | ((with_reducible refine AWP_condF ?_ ?_); · rfl)
      refine ret_plain ?_
      simp (maxSteps := 10000000) only [push_cast, seval, ↓reduceIte, show Tryz.f139.results = #[(.cell 2 40)] from rfl]
      exact leD_refl _
  · rw [show checkF ns us = 1 from if_neg hm]
    repeat' first | (with_reducible first | refine AWP_seq' ?_ | refine k_normal ?_ | refine k_ret ?_ | refine b_ret ?_ | refine AWP_ret ?_ | refine AWP_block ?_) | ((with_reducible refine AWP_reg fun KC J hJ hKC => ?_); simp (maxSteps := 10000000) only [push_cast, seval, ↓reduceIte, hm]) | (refine' hKC _ _ _ _ _ (callV0 (latMay_fn _ _ _ _ ?_ ?_) rfl rfl rfl ?_ ?_); (rotate_left 6); (· exact Lq); (rotate_left 1); (iterate 2 (· exact Hq)); simp (maxSteps := 10000000) only [push_cast, seval, ↓reduceIte, hm]) | ((with_reducible refine hJ _ _ ?_); clear hJ hKC KC J) | ((with_reducible refine AWP_condT ?_ ?_); · rfl)
    refine ret_plain ?_
    simp (maxSteps := 10000000) only [push_cast, seval, ↓reduceIte, show Tryz.f139.results = #[(.cell 2 40)] from rfl]
    exact leD_refl _
theorem rCheck_fn (f g : Bool) (ns : List ByteArray) (us : List Nat) (hs : Szs ns) (hu : U32 us) :
    Fn Tryz.prog 56 [.agg [.sl f 1 (strRow ns), .sl g 1 (u32Row us)]] [] (.v (.int .i64 (checkF ns us))) [] := by
  refine Fn.of (fn := Tryz.f56) (by kernel_rfl) rfl (by kernel_rfl) ⟨[.agg [.sl f 1 (strRow ns), .sl g 1 (u32Row us)], .v undef, .v undef, .v undef, .v undef, .v undef, .v undef, .v undef, .v undef, .v undef, .v undef, .v undef, .v undef, .v undef, .v undef, .v undef, .v undef, .v undef, .v undef, .v undef, .v undef, .v undef, .v undef, .v undef, .v undef, .v undef, .v undef, .v undef, .v undef, .v undef, .v undef, .v undef, .v undef, .v undef, .v undef, .v undef, .v undef], []⟩ rfl ?_
  by_cases hm : mayB ns us = true
  · have hl8 : us.length ≤ 8 := (mayB_get hm).1.2.1
    have hlw := low_of_may hm
    by_cases ho : Ord us
    · have ho' : decide (Ord us) = true := decide_eq_true ho
      have hc : checkF ns us = if Lat us then 0 else 3 := by rw [checkF, if_pos hm, if_pos ho]
      rw [hc]
      repeat' first | (with_reducible first | refine AWP_seq' ?_ | refine k_normal ?_ | refine AWP_skip ?_ | refine AWP_block ?_) | ((with_reducible refine AWP_reg fun KC J hJ hKC => ?_); simp (maxSteps := 10000000) only [push_cast, seval, ↓reduceIte, hm, ho']) | (refine' hKC _ _ _ _ _ (callV0 (rMay_fn _ _ _ _ ?_ ?_) rfl rfl rfl ?_ ?_); (rotate_left 6); (· exact Lq); (rotate_left 1); (iterate 2 (· exact Hq)); simp (maxSteps := 10000000) only [push_cast, seval, ↓reduceIte, hm, ho']) | (refine' hKC _ _ _ _ _ (callV0 (rOrder_fn _ _ _ _ ?_ ?_) rfl rfl rfl ?_ ?_); (rotate_left 6); (· exact Lq); (rotate_left 1); (iterate 2 (· exact Hq)); simp (maxSteps := 10000000) only [push_cast, seval, ↓reduceIte, hm, ho']) | ((with_reducible refine hJ _ _ ?_); clear hJ hKC KC J) | ((with_reducible refine AWP_condF ?_ ?_); · rfl)
      refine AWP_loopF (γ := {a : Nat // a ≤ us.length ∧ ∀ x, x < a → ∀ y, y < us.length → 0 ≤ joinI us x y ∧ 0 ≤ meetI us x y}) (fun a => ⟨[.any, .ptr 0 0 0, .any, .any, .any, .any, .any, .any, .any, .any, .any, .any, .any, .v (.int .i64 us.length), .v (.int .i64 a.1), .any, .any, .any, .any, .any, .any, .any, .any, .any, .any, .any, .any, .any, .any, .any, .any, .any, .any, .any, .any, .any, .any], [.ent ⟨0, none, 25, [.sl f 1 (strRow ns), .sl g 1 (u32Row us)], .cells⟩]⟩) (fun a => us.length - a.1) ⟨0, by simp⟩ ⟨?_, Fq⟩ ?_
      · exact Lq
      · rintro ⟨a, ha, han⟩
        by_cases hlt : (a : Int) < (us.length : Int)
        · skip
          repeat' first | (with_reducible first | refine AWP_seq' ?_ | refine k_normal ?_ | refine AWP_skip ?_ | refine AWP_block ?_) | ((with_reducible refine AWP_reg fun KC J hJ hKC => ?_); simp (maxSteps := 10000000) only [push_cast, seval, ↓reduceIte, hlt]) | ((with_reducible refine hJ _ _ ?_); clear hJ hKC KC J) | ((with_reducible refine AWP_condT ?_ ?_); · rfl)
          refine AWP_loopF (γ := {b : Nat // b ≤ us.length ∧ ∀ y, y < b → 0 ≤ joinI us a y ∧ 0 ≤ meetI us a y}) (fun b => ⟨[.any, .ptr 0 0 0, .any, .v (.int .i64 a), .any, .any, .any, .any, .any, .any, .any, .any, .any, .v (.int .i64 us.length), .v (.int .i64 a), .any, .any, .any, .any, .v (.int .i64 us.length), .v (.int .i64 b.1), .any, .any, .any, .any, .any, .any, .any, .any, .any, .any, .any, .any, .any, .any, .any, .any], [.ent ⟨0, none, 25, [.sl f 1 (strRow ns), .sl g 1 (u32Row us)], .cells⟩]⟩) (fun b => us.length - b.1) ⟨0, by simp⟩ ⟨?_, Fq⟩ ?_
          · exact Lq
          · rintro ⟨b, hb, hbn⟩
            by_cases hlb : (b : Int) < (us.length : Int)
            · by_cases h1 : joinI us a b < 0
              · skip
                repeat' first | (with_reducible first | refine AWP_seq' ?_ | refine k_normal ?_ | refine k_ret ?_ | refine b_ret ?_ | refine AWP_ret ?_ | refine AWP_skip ?_ | refine AWP_block ?_) | ((with_reducible refine AWP_reg fun KC J hJ hKC => ?_); simp (maxSteps := 10000000) only [push_cast, seval, ↓reduceIte, hlb, h1, undef]) | (refine' hKC _ _ _ _ _ (callV0 (rJoin_fn _ _ _ _ _ _ ?_ ?_ ?_ ?_ ?_ ?_) rfl rfl rfl ?_ ?_); (rotate_left 12); (· exact Lq); (rotate_left 1); (iterate 6 (· exact Hq)); simp (maxSteps := 10000000) only [push_cast, seval, ↓reduceIte, hlb, h1, undef]) | ((with_reducible refine hJ _ _ ?_); clear hJ hKC KC J) | ((with_reducible refine AWP_condT ?_ ?_); · rfl)
                refine ret_plain ?_
                simp (maxSteps := 10000000) only [push_cast, seval, ↓reduceIte, show Tryz.f56.results = #[(.tmp 2)] from rfl]
                rw [if_neg (fun h : Lat us => by have := h a (by omega) b (by omega); omega)]
                exact leD_refl _
              · by_cases h2 : meetI us a b < 0
                · skip
                  repeat' first | (with_reducible first | refine AWP_seq' ?_ | refine k_normal ?_ | refine k_ret ?_ | refine b_ret ?_ | refine AWP_ret ?_ | refine AWP_skip ?_ | refine AWP_block ?_) | ((with_reducible refine AWP_reg fun KC J hJ hKC => ?_); simp (maxSteps := 10000000) only [push_cast, seval, ↓reduceIte, hlb, h1, h2]) | (refine' hKC _ _ _ _ _ (callV0 (rJoin_fn _ _ _ _ _ _ ?_ ?_ ?_ ?_ ?_ ?_) rfl rfl rfl ?_ ?_); (rotate_left 12); (· exact Lq); (rotate_left 1); (iterate 6 (· exact Hq)); simp (maxSteps := 10000000) only [push_cast, seval, ↓reduceIte, hlb, h1, h2]) | (refine' hKC _ _ _ _ _ (callV0 (rMeet_fn _ _ _ _ _ _ ?_ ?_ ?_ ?_ ?_ ?_) rfl rfl rfl ?_ ?_); (rotate_left 12); (· exact Lq); (rotate_left 1); (iterate 6 (· exact Hq)); simp (maxSteps := 10000000) only [push_cast, seval, ↓reduceIte, hlb, h1, h2]) | ((with_reducible refine hJ _ _ ?_); clear hJ hKC KC J) | ((with_reducible refine AWP_condT ?_ ?_); · rfl)
                  refine ret_plain ?_
                  simp (maxSteps := 10000000) only [push_cast, seval, ↓reduceIte, show Tryz.f56.results = #[(.tmp 2)] from rfl]
                  rw [if_neg (fun h : Lat us => by have := h a (by omega) b (by omega); omega)]
                  exact leD_refl _
                · skip
                  repeat' first | (with_reducible first | refine AWP_seq' ?_ | refine k_normal ?_ | refine b_normal ?_ | refine AWP_skip ?_ | refine AWP_block ?_) | ((with_reducible refine AWP_reg fun KC J hJ hKC => ?_); simp (maxSteps := 10000000) only [push_cast, seval, ↓reduceIte, hlb, h1, h2, wrapN (i := b) (n := us.length) (by omega) (by omega)]) | (refine' hKC _ _ _ _ _ (callV0 (rJoin_fn _ _ _ _ _ _ ?_ ?_ ?_ ?_ ?_ ?_) rfl rfl rfl ?_ ?_); (rotate_left 12); (· exact Lq); (rotate_left 1); (iterate 6 (· exact Hq)); simp (maxSteps := 10000000) only [push_cast, seval, ↓reduceIte, hlb, h1, h2, wrapN (i := b) (n := us.length) (by omega) (by omega)]) | (refine' hKC _ _ _ _ _ (callV0 (rMeet_fn _ _ _ _ _ _ ?_ ?_ ?_ ?_ ?_ ?_) rfl rfl rfl ?_ ?_); (rotate_left 12); (· exact Lq); (rotate_left 1); (iterate 6 (· exact Hq)); simp (maxSteps := 10000000) only [push_cast, seval, ↓reduceIte, hlb, h1, h2, wrapN (i := b) (n := us.length) (by omega) (by omega)]) | ((with_reducible refine hJ _ _ ?_); clear hJ hKC KC J) | ((with_reducible refine AWP_condT ?_ ?_); · rfl) | ((with_reducible refine AWP_condF ?_ ?_); · rfl)
                  refine ⟨⟨b + 1, by omega, fun y hy => ?_⟩, by simp only; omega, ?_, Fq⟩
                  · by_cases he : y = b
                    · subst he; exact ⟨by omega, by omega⟩
                    · exact hbn y (by omega)
                  · exact Lq
            · skip
              repeat' first | (with_reducible first | refine AWP_seq' ?_ | refine k_normal ?_ | refine k_exit ?_ | refine b_normal ?_ | refine b_exit ?_ | refine AWP_exit ?_) | ((with_reducible refine AWP_reg fun KC J hJ hKC => ?_); simp (maxSteps := 10000000) only [push_cast, seval, ↓reduceIte, hlb, wrapN (i := a) (n := us.length) (by omega) (by omega)]) | ((with_reducible refine hJ _ _ ?_); clear hJ hKC KC J) | ((with_reducible refine AWP_condF ?_ ?_); · rfl)
              refine ⟨⟨a + 1, by omega, fun x hx y hy => ?_⟩, by simp only; omega, ?_, Fq⟩
              · by_cases he : x = a
                · subst he; exact hbn y (by omega)
                · exact han x (by omega) y hy
              · exact Lq
        · skip
          repeat' first | (with_reducible first | refine AWP_seq' ?_ | refine k_normal ?_ | refine k_exit ?_ | refine b_exit ?_ | refine AWP_ret ?_ | refine AWP_exit ?_) | ((with_reducible refine AWP_reg fun KC J hJ hKC => ?_); simp (maxSteps := 10000000) only [push_cast, seval, ↓reduceIte, hlt]) | ((with_reducible refine hJ _ _ ?_); clear hJ hKC KC J) | ((with_reducible refine AWP_condF ?_ ?_); · rfl)
          refine ret_plain ?_
          simp (maxSteps := 10000000) only [push_cast, seval, ↓reduceIte, show Tryz.f56.results = #[(.tmp 2)] from rfl]
          rw [if_pos (show Lat us from fun x hx y hy => han x (by omega) y hy)]
          exact leD_refl _
    · have ho' : decide (Ord us) = false := decide_eq_false ho
      rw [show checkF ns us = 2 by rw [checkF, if_pos hm, if_neg ho]]
      repeat' first | (with_reducible first | refine AWP_seq' ?_ | refine k_normal ?_ | refine k_ret ?_ | refine AWP_ret ?_ | refine AWP_skip ?_) | ((with_reducible refine AWP_reg fun KC J hJ hKC => ?_); simp (maxSteps := 10000000) only [push_cast, seval, ↓reduceIte, hm, ho']) | (refine' hKC _ _ _ _ _ (callV0 (rMay_fn _ _ _ _ ?_ ?_) rfl rfl rfl ?_ ?_); (rotate_left 6); (· exact Lq); (rotate_left 1); (iterate 2 (· exact Hq)); simp (maxSteps := 10000000) only [push_cast, seval, ↓reduceIte, hm, ho']) | (refine' hKC _ _ _ _ _ (callV0 (rOrder_fn _ _ _ _ ?_ ?_) rfl rfl rfl ?_ ?_); (rotate_left 6); (· exact Lq); (rotate_left 1); (iterate 2 (· exact Hq)); simp (maxSteps := 10000000) only [push_cast, seval, ↓reduceIte, hm, ho']) | ((with_reducible refine hJ _ _ ?_); clear hJ hKC KC J) | ((with_reducible refine AWP_condT ?_ ?_); · rfl) | ((with_reducible refine AWP_condF ?_ ?_); · rfl)
      refine ret_plain ?_
      simp (maxSteps := 10000000) only [push_cast, seval, ↓reduceIte, show Tryz.f56.results = #[(.tmp 2)] from rfl]
      exact leD_refl _
  · rw [show checkF ns us = 1 from if_neg hm]
    repeat' first | (with_reducible first | refine AWP_seq' ?_ | refine k_normal ?_ | refine k_ret ?_ | refine AWP_ret ?_) | ((with_reducible refine AWP_reg fun KC J hJ hKC => ?_); simp (maxSteps := 10000000) only [push_cast, seval, ↓reduceIte, hm]) | (refine' hKC _ _ _ _ _ (callV0 (rMay_fn _ _ _ _ ?_ ?_) rfl rfl rfl ?_ ?_); (rotate_left 6); (· exact Lq); (rotate_left 1); (iterate 2 (· exact Hq)); simp (maxSteps := 10000000) only [push_cast, seval, ↓reduceIte, hm]) | ((with_reducible refine hJ _ _ ?_); clear hJ hKC KC J) | ((with_reducible refine AWP_condT ?_ ?_); · rfl)
    refine ret_plain ?_
    simp (maxSteps := 10000000) only [push_cast, seval, ↓reduceIte, show Tryz.f56.results = #[(.tmp 2)] from rfl]
    exact leD_refl _
end Go.Proofs.YtabliglgeiajlaaGreat.AM
