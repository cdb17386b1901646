/- Draws: what is alive. -/
import Derived.Test.YtabliglgeiajlaaT2
set_option linter.unusedSimpArgs false
set_option linter.unusedVariables false
namespace Go.Proofs.Ytabliglgeiajlaa.AM
open Go Go.RowKit Go.Proofs
set_option maxRecDepth 100000
set_option maxHeartbeats 400000
theorem drawNew_fn (f : Bool) (xs : List (List D)) : Fn Try.prog 39 [.sl f 1 xs] [] (.agg [.sl f 1 xs, .v (.int .i64 0), .v (.slice none 0 0)]) [] := by
  refine Fn.of (fn := Try.f39) (by kernel_rfl) rfl (by kernel_rfl) ⟨[.sl f 1 xs, .v undef, .v undef, .v undef, .v undef], []⟩ rfl ?_
  repeat first
    | with_reducible first | refine AWP_seq' ?_ | refine k_normal ?_ | refine k_ret ?_ | refine k_exit ?_ | refine b_normal ?_ | refine b_ret ?_ | refine b_exit ?_ | refine b_pass rfl ?_ | refine AWP_ret ?_ | refine AWP_skip ?_ | refine AWP_exit ?_ | refine AWP_block ?_
    | (with_reducible first | refine AWP_reg fun KC J hJ hKC => ?_ | refine AWP_regD rfl fun KC J hJ hKC => ?_
       simp (maxSteps := 10000000) only [push_cast, ↓reduceIte, Nat.reduceAdd, Nat.reduceMul, Nat.reduceSub, Nat.reduceBEq, Int.reduceAdd, Int.reduceSub, Int.reduceMul, Int.reduceNeg, Int.reduceLT, Int.reduceLE, Int.reduceBNe, Int.reduceBEq, Int.reduceMod, Int.reduceToNat, decide_true, decide_false, Int.reduceTMod, Int.natCast_zero, Int.cast_ofNat_Int]
       repeat (with_reducible refine And.intro ?_ ?_; · first | trivial | omega | (simp; done))
       first | with_reducible refine hJ _ _ ?_ | (with_reducible refine hJ _ _ ?_ ?_; · kernel_rfl)
       clear hJ hKC KC J)
    | ((with_reducible refine AWP_condT ?_ ?_); · rfl)
    | ((with_reducible refine AWP_condF ?_ ?_); · rfl)
  refine ret_plain ?_
  simp only [push_cast, show Try.f39.results = #[ResultVar.cell 2 40] from rfl]
  simp
theorem clipNil_fn : Fn Try.prog 200 [.v (.slice none 0 0)] [] (.v (.slice none 0 0)) [] := by
  refine Fn.of (fn := Try.f200) (by kernel_rfl) rfl (by kernel_rfl) ⟨[.v (.slice none 0 0), .v undef, .v undef, .v undef, .v undef, .v undef, .v undef, .v undef, .v undef], []⟩ rfl ?_
  repeat first
    | with_reducible first | refine AWP_seq' ?_ | refine k_normal ?_ | refine k_ret ?_ | refine k_exit ?_ | refine b_normal ?_ | refine b_ret ?_ | refine b_exit ?_ | refine b_pass rfl ?_ | refine AWP_ret ?_ | refine AWP_skip ?_ | refine AWP_exit ?_ | refine AWP_block ?_
    | (with_reducible first | refine AWP_reg fun KC J hJ hKC => ?_ | refine AWP_regD rfl fun KC J hJ hKC => ?_
       simp (maxSteps := 10000000) only [push_cast, ↓reduceIte, Nat.reduceAdd, Nat.reduceMul, Nat.reduceSub, Nat.reduceBEq, Int.reduceAdd, Int.reduceSub, Int.reduceMul, Int.reduceNeg, Int.reduceLT, Int.reduceLE, Int.reduceBNe, Int.reduceBEq, Int.reduceMod, Int.reduceToNat, decide_true, decide_false, Int.reduceTMod, Int.natCast_zero, Int.cast_ofNat_Int]
       repeat (with_reducible refine And.intro ?_ ?_; · first | trivial | omega | (simp; done))
       first | with_reducible refine hJ _ _ ?_ | (with_reducible refine hJ _ _ ?_ ?_; · kernel_rfl)
       clear hJ hKC KC J)
    | ((with_reducible refine AWP_condT ?_ ?_); · rfl)
    | ((with_reducible refine AWP_condF ?_ ?_); · rfl)
  refine ret_plain ?_
  simp only [push_cast, show Try.f200.results = #[ResultVar.tmp 2] from rfl]
theorem rightAlive_fn : Fn Try.prog 141 [.agg [.sl true 1 [[.v (.int .i64 (-1))]], .v (.int .i64 0), .v (.slice none 0 0)]] [] (.v (.bool true)) [] := by
  refine Fn.of (fn := Try.f141) (by kernel_rfl) rfl (by kernel_rfl) ⟨[.agg [.sl true 1 [[.v (.int .i64 (-1))]], .v (.int .i64 0), .v (.slice none 0 0)], .v undef, .v undef, .v undef, .v undef, .v undef, .v undef, .v undef, .v undef, .v undef, .v undef, .v undef, .v undef, .v undef, .v undef, .v undef, .v undef, .v undef], []⟩ rfl ?_
  repeat first
    | with_reducible first | refine AWP_seq' ?_ | refine k_normal ?_ | refine k_ret ?_ | refine k_exit ?_ | refine b_normal ?_ | refine b_ret ?_ | refine b_exit ?_ | refine b_pass rfl ?_ | refine AWP_ret ?_ | refine AWP_skip ?_ | refine AWP_exit ?_ | refine AWP_block ?_
    | (with_reducible first | refine AWP_reg fun KC J hJ hKC => ?_ | refine AWP_regD rfl fun KC J hJ hKC => ?_
       simp (maxSteps := 10000000) only [push_cast, ↓reduceIte, Nat.reduceAdd, Nat.reduceMul, Nat.reduceSub, Nat.reduceBEq, Int.reduceAdd, Int.reduceSub, Int.reduceMul, Int.reduceNeg, Int.reduceLT, Int.reduceLE, Int.reduceBNe, Int.reduceBEq, Int.reduceMod, Int.reduceToNat, decide_true, decide_false, Int.reduceTMod, Int.natCast_zero, Int.cast_ofNat_Int]
       repeat (with_reducible refine And.intro ?_ ?_; · first | trivial | omega | (simp; done))
       first | with_reducible refine hJ _ _ ?_ | (with_reducible refine hJ _ _ ?_ ?_; · kernel_rfl)
       clear hJ hKC KC J)
    | ((with_reducible refine AWP_condT ?_ ?_); · rfl)
    | ((with_reducible refine AWP_condF ?_ ?_); · rfl)
  refine ret_plain ?_
  simp only [push_cast, show Try.f141.results = #[ResultVar.tmp 2] from rfl]
theorem choiceAlive_fn : Fn Try.prog 199 [.agg [.sl true 1 [[.v (.int .i64 (-1))]], .v (.int .i64 0), .v (.slice none 0 0)], .v (.int .i64 3)] [] (.v (.int .i64 2)) [] := by
  refine Fn.of (fn := Try.f199) (by kernel_rfl) rfl (by kernel_rfl) ⟨[.agg [.sl true 1 [[.v (.int .i64 (-1))]], .v (.int .i64 0), .v (.slice none 0 0)], .v (.int .i64 3), .v undef, .v undef, .v undef, .v undef, .v undef, .v undef, .v undef, .v undef, .v undef, .v undef, .v undef, .v undef, .v undef, .v undef, .v undef, .v undef, .v undef, .v undef, .v undef, .v undef, .v undef, .v undef, .v undef, .v undef], []⟩ rfl ?_
  repeat first
    | with_reducible first | refine AWP_seq' ?_ | refine k_normal ?_ | refine k_ret ?_ | refine k_exit ?_ | refine b_normal ?_ | refine b_ret ?_ | refine b_exit ?_ | refine b_pass rfl ?_ | refine AWP_ret ?_ | refine AWP_skip ?_ | refine AWP_exit ?_ | refine AWP_block ?_
    | (with_reducible first | refine AWP_reg fun KC J hJ hKC => ?_ | refine AWP_regD rfl fun KC J hJ hKC => ?_
       simp (maxSteps := 10000000) only [push_cast, ↓reduceIte, Nat.reduceAdd, Nat.reduceMul, Nat.reduceSub, Nat.reduceBEq, Int.reduceAdd, Int.reduceSub, Int.reduceMul, Int.reduceNeg, Int.reduceLT, Int.reduceLE, Int.reduceBNe, Int.reduceBEq, Int.reduceMod, Int.reduceToNat, decide_true, decide_false, Int.reduceTMod, Int.natCast_zero, Int.cast_ofNat_Int, getE, Option.getD_some, IntKind.wrap_i64]
       repeat (with_reducible refine And.intro ?_ ?_; · first | trivial | omega | (simp; done))
       first | with_reducible refine hJ _ _ ?_ | (with_reducible refine hJ _ _ ?_ ?_; · kernel_rfl)
       clear hJ hKC KC J)
    | ((with_reducible refine AWP_condT ?_ ?_); · rfl)
    | ((with_reducible refine AWP_condF ?_ ?_); · rfl)
  refine ret_plain ?_
  simp only [push_cast, show Try.f199.results = #[ResultVar.tmp 4] from rfl]
theorem takeAlive_fn : Fn Try.prog 102 [.agg [.sl true 1 [[.v (.int .i64 (-1))]], .v (.int .i64 0), .v (.slice none 0 0)], .v (.int .i64 3)] [] (.tup [.agg [.sl true 1 [[.v (.int .i64 (-1))]], .v (.int .i64 1), .sl false 1 [[.v (.int .i64 2)]]], .v (.int .i64 2), .v (.int .i64 0)]) [] := by
  refine Fn.of (fn := Try.f102) (by kernel_rfl) rfl (by kernel_rfl) ⟨[.agg [.sl true 1 [[.v (.int .i64 (-1))]], .v (.int .i64 0), .v (.slice none 0 0)], .v (.int .i64 3), .v undef, .v undef, .v undef, .v undef, .v undef, .v undef, .v undef, .v undef, .v undef, .v undef, .v undef, .v undef, .v undef, .v undef, .v undef, .v undef, .v undef, .v undef, .v undef, .v undef, .v undef, .v undef, .v undef, .v undef, .v undef, .v undef, .v undef, .v undef, .v undef, .v undef, .v undef, .v undef, .v undef, .v undef, .v undef, .v undef, .v undef, .v undef, .v undef, .v undef, .v undef, .v undef, .v undef], []⟩ rfl ?_
  repeat first
    | with_reducible first | refine AWP_seq' ?_ | refine k_normal ?_ | refine k_ret ?_ | refine k_exit ?_ | refine b_normal ?_ | refine b_ret ?_ | refine b_exit ?_ | refine b_pass rfl ?_ | refine AWP_skip ?_ | refine AWP_exit ?_ | refine AWP_block ?_
    | (with_reducible first | refine AWP_reg fun KC J hJ hKC => ?_ | refine AWP_regD rfl fun KC J hJ hKC => ?_
       simp (maxSteps := 10000000) only [push_cast, ↓reduceIte, Nat.reduceAdd, Nat.reduceMul, Nat.reduceSub, Nat.reduceBEq, Int.reduceAdd, Int.reduceSub, Int.reduceMul, Int.reduceNeg, Int.reduceLT, Int.reduceLE, Int.reduceBNe, Int.reduceBEq, Int.reduceMod, Int.reduceToNat, decide_true, decide_false, Int.reduceTMod, Int.natCast_zero, Int.cast_ofNat_Int]
       repeat (with_reducible refine And.intro ?_ ?_; · first | trivial | omega | (simp; done))
       first | with_reducible refine hJ _ _ ?_ | (with_reducible refine hJ _ _ ?_ ?_; · kernel_rfl)
       clear hJ hKC KC J)
    | ((with_reducible refine AWP_condT ?_ ?_); · rfl)
    | ((with_reducible refine AWP_condF ?_ ?_); · rfl)
  with_reducible first | refine AWP_reg fun KC J hJ hKC => ?_ | refine AWP_regD rfl fun KC J hJ hKC => ?_
  simp (maxSteps := 10000000) only [push_cast, ↓reduceIte, Nat.reduceAdd, Nat.reduceMul, Nat.reduceSub, Nat.reduceBEq, Int.reduceAdd, Int.reduceSub, Int.reduceMul, Int.reduceNeg, Int.reduceLT, Int.reduceLE, Int.reduceBNe, Int.reduceBEq, Int.reduceMod, Int.reduceToNat, decide_true, decide_false, Int.reduceTMod, Int.natCast_zero, Int.cast_ofNat_Int]
  repeat (with_reducible refine And.intro ?_ ?_; · first | trivial | omega | (simp; done))
  refine hKC _ _ _ _ _ (callV0 (rightAlive_fn) rfl rfl rfl rfl ?_)
  simp (maxSteps := 10000000) only [push_cast, ↓reduceIte, Nat.reduceAdd, Nat.reduceMul, Nat.reduceSub, Nat.reduceBEq, Int.reduceAdd, Int.reduceSub, Int.reduceMul, Int.reduceNeg, Int.reduceLT, Int.reduceLE, Int.reduceBNe, Int.reduceBEq, Int.reduceMod, Int.reduceToNat, decide_true, decide_false, Int.reduceTMod, Int.natCast_zero, Int.cast_ofNat_Int]
  repeat (with_reducible refine And.intro ?_ ?_; · first | trivial | omega | (simp; done))
  first | with_reducible refine hJ _ _ ?_ | (with_reducible refine hJ _ _ ?_ ?_; · kernel_rfl)
  clear hJ hKC KC J
  repeat first
    | with_reducible first | refine AWP_seq' ?_ | refine k_normal ?_ | refine k_ret ?_ | refine k_exit ?_ | refine b_normal ?_ | refine b_ret ?_ | refine b_exit ?_ | refine b_pass rfl ?_ | refine AWP_skip ?_ | refine AWP_exit ?_ | refine AWP_block ?_
    | (with_reducible first | refine AWP_reg fun KC J hJ hKC => ?_ | refine AWP_regD rfl fun KC J hJ hKC => ?_
       simp (maxSteps := 10000000) only [push_cast, ↓reduceIte, Nat.reduceAdd, Nat.reduceMul, Nat.reduceSub, Nat.reduceBEq, Int.reduceAdd, Int.reduceSub, Int.reduceMul, Int.reduceNeg, Int.reduceLT, Int.reduceLE, Int.reduceBNe, Int.reduceBEq, Int.reduceMod, Int.reduceToNat, decide_true, decide_false, Int.reduceTMod, Int.natCast_zero, Int.cast_ofNat_Int]
       repeat (with_reducible refine And.intro ?_ ?_; · first | trivial | omega | (simp; done))
       first | with_reducible refine hJ _ _ ?_ | (with_reducible refine hJ _ _ ?_ ?_; · kernel_rfl)
       clear hJ hKC KC J)
    | ((with_reducible refine AWP_condT ?_ ?_); · rfl)
    | ((with_reducible refine AWP_condF ?_ ?_); · rfl)
  with_reducible first | refine AWP_reg fun KC J hJ hKC => ?_ | refine AWP_regD rfl fun KC J hJ hKC => ?_
  simp (maxSteps := 10000000) only [push_cast, ↓reduceIte, Nat.reduceAdd, Nat.reduceMul, Nat.reduceSub, Nat.reduceBEq, Int.reduceAdd, Int.reduceSub, Int.reduceMul, Int.reduceNeg, Int.reduceLT, Int.reduceLE, Int.reduceBNe, Int.reduceBEq, Int.reduceMod, Int.reduceToNat, decide_true, decide_false, Int.reduceTMod, Int.natCast_zero, Int.cast_ofNat_Int]
  repeat (with_reducible refine And.intro ?_ ?_; · first | trivial | omega | (simp; done))
  refine hKC _ _ _ _ _ (callV0 (choiceAlive_fn) rfl rfl rfl rfl ?_)
  simp (maxSteps := 10000000) only [push_cast, ↓reduceIte, Nat.reduceAdd, Nat.reduceMul, Nat.reduceSub, Nat.reduceBEq, Int.reduceAdd, Int.reduceSub, Int.reduceMul, Int.reduceNeg, Int.reduceLT, Int.reduceLE, Int.reduceBNe, Int.reduceBEq, Int.reduceMod, Int.reduceToNat, decide_true, decide_false, Int.reduceTMod, Int.natCast_zero, Int.cast_ofNat_Int]
  repeat (with_reducible refine And.intro ?_ ?_; · first | trivial | omega | (simp; done))
  first | with_reducible refine hJ _ _ ?_ | (with_reducible refine hJ _ _ ?_ ?_; · kernel_rfl)
  clear hJ hKC KC J
  repeat first
    | with_reducible first | refine AWP_seq' ?_ | refine k_normal ?_ | refine k_ret ?_ | refine k_exit ?_ | refine b_normal ?_ | refine b_ret ?_ | refine b_exit ?_ | refine b_pass rfl ?_ | refine AWP_skip ?_ | refine AWP_exit ?_ | refine AWP_block ?_
    | (with_reducible first | refine AWP_reg fun KC J hJ hKC => ?_ | refine AWP_regD rfl fun KC J hJ hKC => ?_
       simp (maxSteps := 10000000) only [push_cast, ↓reduceIte, Nat.reduceAdd, Nat.reduceMul, Nat.reduceSub, Nat.reduceBEq, Int.reduceAdd, Int.reduceSub, Int.reduceMul, Int.reduceNeg, Int.reduceLT, Int.reduceLE, Int.reduceBNe, Int.reduceBEq, Int.reduceMod, Int.reduceToNat, decide_true, decide_false, Int.reduceTMod, Int.natCast_zero, Int.cast_ofNat_Int, IntKind.wrap_i64]
       repeat (with_reducible refine And.intro ?_ ?_; · first | trivial | omega | (simp; done))
       first | with_reducible refine hJ _ _ ?_ | (with_reducible refine hJ _ _ ?_ ?_; · kernel_rfl)
       clear hJ hKC KC J)
    | ((with_reducible refine AWP_condT ?_ ?_); · rfl)
    | ((with_reducible refine AWP_condF ?_ ?_); · rfl)
  with_reducible first | refine AWP_reg fun KC J hJ hKC => ?_ | refine AWP_regD rfl fun KC J hJ hKC => ?_
  simp (maxSteps := 10000000) only [push_cast, ↓reduceIte, Nat.reduceAdd, Nat.reduceMul, Nat.reduceSub, Nat.reduceBEq, Int.reduceAdd, Int.reduceSub, Int.reduceMul, Int.reduceNeg, Int.reduceLT, Int.reduceLE, Int.reduceBNe, Int.reduceBEq, Int.reduceMod, Int.reduceToNat, decide_true, decide_false, Int.reduceTMod, Int.natCast_zero, Int.cast_ofNat_Int]
  repeat (with_reducible refine And.intro ?_ ?_; · first | trivial | omega | (simp; done))
  refine hKC _ _ _ _ _ (callV0 (clipNil_fn) rfl rfl rfl rfl ?_)
  simp (maxSteps := 10000000) only [push_cast, ↓reduceIte, Nat.reduceAdd, Nat.reduceMul, Nat.reduceSub, Nat.reduceBEq, Int.reduceAdd, Int.reduceSub, Int.reduceMul, Int.reduceNeg, Int.reduceLT, Int.reduceLE, Int.reduceBNe, Int.reduceBEq, Int.reduceMod, Int.reduceToNat, decide_true, decide_false, Int.reduceTMod, Int.natCast_zero, Int.cast_ofNat_Int]
  repeat (with_reducible refine And.intro ?_ ?_; · first | trivial | omega | (simp; done))
  first | with_reducible refine hJ _ _ ?_ | (with_reducible refine hJ _ _ ?_ ?_; · kernel_rfl)
  clear hJ hKC KC J
  repeat first
    | with_reducible first | refine AWP_seq' ?_ | refine k_normal ?_ | refine k_ret ?_ | refine k_exit ?_ | refine b_normal ?_ | refine b_ret ?_ | refine b_exit ?_ | refine b_pass rfl ?_ | refine AWP_skip ?_ | refine AWP_exit ?_ | refine AWP_block ?_
    | (with_reducible first | refine AWP_reg fun KC J hJ hKC => ?_ | refine AWP_regD rfl fun KC J hJ hKC => ?_
       simp (maxSteps := 10000000) only [push_cast, ↓reduceIte, Nat.reduceAdd, Nat.reduceMul, Nat.reduceSub, Nat.reduceBEq, Int.reduceAdd, Int.reduceSub, Int.reduceMul, Int.reduceNeg, Int.reduceLT, Int.reduceLE, Int.reduceBNe, Int.reduceBEq, Int.reduceMod, Int.reduceToNat, decide_true, decide_false, Int.reduceTMod, Int.natCast_zero, Int.cast_ofNat_Int]
       repeat (with_reducible refine And.intro ?_ ?_; · first | trivial | omega | (simp; done))
       first | with_reducible refine hJ _ _ ?_ | (with_reducible refine hJ _ _ ?_ ?_; · kernel_rfl)
       clear hJ hKC KC J)
    | ((with_reducible refine AWP_condT ?_ ?_); · rfl)
    | ((with_reducible refine AWP_condF ?_ ?_); · rfl)
  refine AWP_freeze 6 rfl rfl ?_
  simp (maxSteps := 10000000) only [push_cast, ↓reduceIte, Nat.reduceAdd, Nat.reduceMul, Nat.reduceSub, Nat.reduceBEq, Int.reduceAdd, Int.reduceSub, Int.reduceMul, Int.reduceNeg, Int.reduceLT, Int.reduceLE, Int.reduceBNe, Int.reduceBEq, Int.reduceMod, Int.reduceToNat, decide_true, decide_false, Int.reduceTMod, Int.natCast_zero, Int.cast_ofNat_Int, frSt, frSlot, fr3, fr2, fr1, fr0, sameB, arrOf, chunk, Nat.reduceLeDiff]
  refine AWP_ret ?_
  refine ret_plain ?_
  simp only [push_cast, show Try.f102.results = #[ResultVar.cell 4 40, ResultVar.tmp 5, ResultVar.tmp 6] from rfl]
  omega
theorem alive13_fn : Fn Try.prog 26 [] [] (.v (.bool true)) [] := by
  refine Fn.of (fn := Try.f26) (by kernel_rfl) rfl (by kernel_rfl) ⟨[.v undef, .v undef, .v undef, .v undef, .v undef, .v undef, .v undef, .v undef, .v undef, .v undef, .v undef, .v undef, .v undef, .v undef, .v undef, .v undef, .v undef, .v undef, .v undef, .v undef, .v undef, .v undef, .v undef, .v undef, .v undef, .v undef, .v undef, .v undef], []⟩ rfl ?_
  repeat first
    | with_reducible first | refine AWP_seq' ?_ | refine k_normal ?_ | refine k_ret ?_ | refine k_exit ?_ | refine b_normal ?_ | refine b_ret ?_ | refine b_exit ?_ | refine b_pass rfl ?_ | refine AWP_ret ?_ | refine AWP_skip ?_ | refine AWP_exit ?_ | refine AWP_block ?_
    | (with_reducible first | refine AWP_reg fun KC J hJ hKC => ?_ | refine AWP_regD rfl fun KC J hJ hKC => ?_
       simp (maxSteps := 10000000) only [push_cast, ↓reduceIte, Nat.reduceAdd, Nat.reduceMul, Nat.reduceSub, Nat.reduceBEq, Int.reduceAdd, Int.reduceSub, Int.reduceMul, Int.reduceNeg, Int.reduceLT, Int.reduceLE, Int.reduceBNe, Int.reduceBEq, Int.reduceMod, Int.reduceToNat, decide_true, decide_false, Int.reduceTMod, Int.natCast_zero, Int.cast_ofNat_Int]
       repeat (with_reducible refine And.intro ?_ ?_; · first | trivial | omega | (simp; done))
       first | with_reducible refine hJ _ _ ?_ | (with_reducible refine hJ _ _ ?_ ?_; · kernel_rfl)
       clear hJ hKC KC J)
    | ((with_reducible refine AWP_condT ?_ ?_); · rfl)
    | ((with_reducible refine AWP_condF ?_ ?_); · rfl)
  with_reducible first | refine AWP_reg fun KC J hJ hKC => ?_ | refine AWP_regD rfl fun KC J hJ hKC => ?_
  simp (maxSteps := 10000000) only [push_cast, ↓reduceIte, Nat.reduceAdd, Nat.reduceMul, Nat.reduceSub, Nat.reduceBEq, Int.reduceAdd, Int.reduceSub, Int.reduceMul, Int.reduceNeg, Int.reduceLT, Int.reduceLE, Int.reduceBNe, Int.reduceBEq, Int.reduceMod, Int.reduceToNat, decide_true, decide_false, Int.reduceTMod, Int.natCast_zero, Int.cast_ofNat_Int]
  repeat (with_reducible refine And.intro ?_ ?_; · first | trivial | omega | (simp; done))
  refine hKC _ _ _ _ _ (callV0 (drawNew_fn _ _) rfl rfl rfl rfl ?_)
  simp (maxSteps := 10000000) only [push_cast, ↓reduceIte, Nat.reduceAdd, Nat.reduceMul, Nat.reduceSub, Nat.reduceBEq, Int.reduceAdd, Int.reduceSub, Int.reduceMul, Int.reduceNeg, Int.reduceLT, Int.reduceLE, Int.reduceBNe, Int.reduceBEq, Int.reduceMod, Int.reduceToNat, decide_true, decide_false, Int.reduceTMod, Int.natCast_zero, Int.cast_ofNat_Int]
  repeat (with_reducible refine And.intro ?_ ?_; · first | trivial | omega | (simp; done))
  refine hKC _ _ _ _ _ (callV0 (takeAlive_fn) rfl rfl rfl rfl ?_)
  simp (maxSteps := 10000000) only [push_cast, ↓reduceIte, Nat.reduceAdd, Nat.reduceMul, Nat.reduceSub, Nat.reduceBEq, Int.reduceAdd, Int.reduceSub, Int.reduceMul, Int.reduceNeg, Int.reduceLT, Int.reduceLE, Int.reduceBNe, Int.reduceBEq, Int.reduceMod, Int.reduceToNat, decide_true, decide_false, Int.reduceTMod, Int.natCast_zero, Int.cast_ofNat_Int]
  repeat (with_reducible refine And.intro ?_ ?_; · first | trivial | omega | (simp; done))
  first | with_reducible refine hJ _ _ ?_ | (with_reducible refine hJ _ _ ?_ ?_; · kernel_rfl)
  clear hJ hKC KC J
  repeat first
    | with_reducible first | refine AWP_seq' ?_ | refine k_normal ?_ | refine k_ret ?_ | refine k_exit ?_ | refine b_normal ?_ | refine b_ret ?_ | refine b_exit ?_ | refine b_pass rfl ?_ | refine AWP_ret ?_ | refine AWP_skip ?_ | refine AWP_exit ?_ | refine AWP_block ?_
    | (with_reducible first | refine AWP_reg fun KC J hJ hKC => ?_ | refine AWP_regD rfl fun KC J hJ hKC => ?_
       simp (maxSteps := 10000000) only [push_cast, ↓reduceIte, Nat.reduceAdd, Nat.reduceMul, Nat.reduceSub, Nat.reduceBEq, Int.reduceAdd, Int.reduceSub, Int.reduceMul, Int.reduceNeg, Int.reduceLT, Int.reduceLE, Int.reduceBNe, Int.reduceBEq, Int.reduceMod, Int.reduceToNat, decide_true, decide_false, Int.reduceTMod, Int.natCast_zero, Int.cast_ofNat_Int]
       repeat (with_reducible refine And.intro ?_ ?_; · first | trivial | omega | (simp; done))
       first | with_reducible refine hJ _ _ ?_ | (with_reducible refine hJ _ _ ?_ ?_; · kernel_rfl)
       clear hJ hKC KC J)
    | ((with_reducible refine AWP_condT ?_ ?_); · rfl)
    | ((with_reducible refine AWP_condF ?_ ?_); · rfl)
  refine ret_plain ?_
  simp only [push_cast, show Try.f26.results = #[ResultVar.tmp 0] from rfl]
theorem cmpI_swap (x y : Int) : cmpI y x = - cmpI x y := by
  unfold cmpI
  split <;> split <;> first | rfl | omega
theorem cmpI_self (x : Int) : cmpI x x = 0 := by simp [cmpI]
theorem cmpL_swap : ∀ xs ys : List Int, cmpL ys xs = - cmpL xs ys
  | [], [] => rfl
  | [], _ :: _ => rfl
  | _ :: _, [] => rfl
  | x :: xs, y :: ys => by
    simp only [cmpL, cmpI_swap x y, cmpL_swap xs ys]
    by_cases h : cmpI x y = 0 <;> simp [h]
theorem cmpR_swap (xs ys : List Int) : cmpR ys xs = - cmpR xs ys := by
  unfold cmpR
  rw [cmpI_swap (xs.length) (ys.length), cmpL_swap xs ys]
  by_cases h : cmpI xs.length ys.length = 0 <;> simp [h]
theorem cmpL_self : ∀ xs : List Int, cmpL xs xs = 0
  | [] => rfl
  | x :: xs => by simp [cmpL, cmpI_self, cmpL_self xs]
theorem cmpR_self (xs : List Int) : cmpR xs xs = 0 := by simp [cmpR, cmpI_self, cmpL_self]
theorem cmpI_range (x y : Int) : -1 ≤ cmpI x y ∧ cmpI x y ≤ 1 := by
  unfold cmpI
  split
  · omega
  · split <;> omega
theorem cmpL_range : ∀ xs ys : List Int, -1 ≤ cmpL xs ys ∧ cmpL xs ys ≤ 1
  | [], [] => by simp [cmpL]
  | [], _ :: _ => by simp [cmpL]
  | _ :: _, [] => by simp [cmpL]
  | x :: xs, y :: ys => by
    simp only [cmpL]
    split
    · exact cmpI_range x y
    · exact cmpL_range xs ys
theorem cmpR_range (xs ys : List Int) : -1 ≤ cmpR xs ys ∧ cmpR xs ys ≤ 1 := by
  unfold cmpR
  split
  · exact cmpI_range _ _
  · exact cmpL_range xs ys
theorem drawOrders_fn (f g : Bool) (xs ys : List Int) : Fn Try.prog 4 [.sl f 1 (intRow xs), .sl g 1 (intRow ys)] [] (.v (.bool true)) [] := by
  have hl : ∀ l : List Int, (intRow l).length = l.length := fun l => by simp [intRow]
  have hs : ∀ (l : List Int) (a b : Nat), sub (intRow l) a b = intRow ((l.take b).drop a) := fun l a b => by simp [intRow, sub_map]
  refine Fn.of (fn := Try.f4) (by kernel_rfl) rfl (by kernel_rfl) ⟨[.sl f 1 (intRow xs), .sl g 1 (intRow ys), .v undef, .v undef, .v undef, .v undef, .v undef, .v undef, .v undef, .v undef, .v undef, .v undef, .v undef, .v undef, .v undef, .v undef, .v undef, .v undef, .v undef, .v undef, .v undef, .v undef, .v undef, .v undef, .v undef, .v undef, .v undef, .v undef, .v undef, .v undef, .v undef, .v undef, .v undef, .v undef, .v undef, .v undef, .v undef, .v undef, .v undef, .v undef, .v undef], []⟩ rfl ?_
  repeat first
    | with_reducible first | refine AWP_seq' ?_ | refine k_normal ?_ | refine k_ret ?_ | refine k_exit ?_ | refine b_normal ?_ | refine b_ret ?_ | refine b_exit ?_ | refine b_pass rfl ?_ | refine AWP_ret ?_ | refine AWP_skip ?_ | refine AWP_exit ?_ | refine AWP_block ?_
    | (with_reducible first | refine AWP_reg fun KC J hJ hKC => ?_ | refine AWP_regD rfl fun KC J hJ hKC => ?_
       simp (maxSteps := 10000000) only [push_cast, ↓reduceIte, Nat.reduceAdd, Nat.reduceMul, Nat.reduceSub, Nat.reduceBEq, Int.reduceAdd, Int.reduceSub, Int.reduceMul, Int.reduceNeg, Int.reduceLT, Int.reduceLE, Int.reduceBNe, Int.reduceBEq, Int.reduceMod, Int.reduceToNat, decide_true, decide_false, Int.reduceTMod, Int.natCast_zero, Int.cast_ofNat_Int, hl, hs]
       repeat (with_reducible refine And.intro ?_ ?_; · first | trivial | omega | (simp; done))
       first | with_reducible refine hJ _ _ ?_ | (with_reducible refine hJ _ _ ?_ ?_; · kernel_rfl)
       clear hJ hKC KC J)
    | ((with_reducible refine AWP_condT ?_ ?_); · rfl)
    | ((with_reducible refine AWP_condF ?_ ?_); · rfl)
  generalize hX : List.take (if (600 : Int) < (xs.length : Int) then (600 : Int) else (xs.length : Int)).toNat xs = X
  generalize hY : List.take (if (600 : Int) < (ys.length : Int) then (600 : Int) else (ys.length : Int)).toNat ys = Y
  have bX : X.length ≤ 9223372036854775807 := by rw [← hX, List.length_take]; split <;> omega
  have bY : Y.length ≤ 9223372036854775807 := by rw [← hY, List.length_take]; split <;> omega
  with_reducible first | refine AWP_reg fun KC J hJ hKC => ?_ | refine AWP_regD rfl fun KC J hJ hKC => ?_
  simp (maxSteps := 10000000) only [push_cast, ↓reduceIte, Nat.reduceAdd, Nat.reduceMul, Nat.reduceSub, Nat.reduceBEq, Int.reduceAdd, Int.reduceSub, Int.reduceMul, Int.reduceNeg, Int.reduceLT, Int.reduceLE, Int.reduceBNe, Int.reduceBEq, Int.reduceMod, Int.reduceToNat, decide_true, decide_false, Int.reduceTMod, Int.natCast_zero, Int.cast_ofNat_Int]
  repeat (with_reducible refine And.intro ?_ ?_; · first | trivial | omega | (simp; done))
  refine hKC _ _ _ _ _ (callV0 (drawCmp_fn false false X Y bX) rfl rfl rfl rfl ?_)
  simp (maxSteps := 10000000) only [push_cast, ↓reduceIte, Nat.reduceAdd, Nat.reduceMul, Nat.reduceSub, Nat.reduceBEq, Int.reduceAdd, Int.reduceSub, Int.reduceMul, Int.reduceNeg, Int.reduceLT, Int.reduceLE, Int.reduceBNe, Int.reduceBEq, Int.reduceMod, Int.reduceToNat, decide_true, decide_false, Int.reduceTMod, Int.natCast_zero, Int.cast_ofNat_Int]
  repeat (with_reducible refine And.intro ?_ ?_; · first | trivial | omega | (simp; done))
  first | with_reducible refine hJ _ _ ?_ | (with_reducible refine hJ _ _ ?_ ?_; · kernel_rfl)
  clear hJ hKC KC J
  repeat first
    | with_reducible first | refine AWP_seq' ?_ | refine k_normal ?_ | refine k_ret ?_ | refine k_exit ?_ | refine b_normal ?_ | refine b_ret ?_ | refine b_exit ?_ | refine b_pass rfl ?_ | refine AWP_ret ?_ | refine AWP_skip ?_ | refine AWP_exit ?_ | refine AWP_block ?_
    | (with_reducible first | refine AWP_reg fun KC J hJ hKC => ?_ | refine AWP_regD rfl fun KC J hJ hKC => ?_
       simp (maxSteps := 10000000) only [push_cast, ↓reduceIte, Nat.reduceAdd, Nat.reduceMul, Nat.reduceSub, Nat.reduceBEq, Int.reduceAdd, Int.reduceSub, Int.reduceMul, Int.reduceNeg, Int.reduceLT, Int.reduceLE, Int.reduceBNe, Int.reduceBEq, Int.reduceMod, Int.reduceToNat, decide_true, decide_false, Int.reduceTMod, Int.natCast_zero, Int.cast_ofNat_Int]
       repeat (with_reducible refine And.intro ?_ ?_; · first | trivial | omega | (simp; done))
       first | with_reducible refine hJ _ _ ?_ | (with_reducible refine hJ _ _ ?_ ?_; · kernel_rfl)
       clear hJ hKC KC J)
    | ((with_reducible refine AWP_condT ?_ ?_); · rfl)
    | ((with_reducible refine AWP_condF ?_ ?_); · rfl)
  have r := cmpR_range X Y
  have hneg : IntKind.i64.wrap (0 - cmpR X Y) = cmpR Y X := by rw [wrapI (by omega) (by omega), cmpR_swap X Y]; omega
  with_reducible first | refine AWP_reg fun KC J hJ hKC => ?_ | refine AWP_regD rfl fun KC J hJ hKC => ?_
  simp (maxSteps := 10000000) only [push_cast, ↓reduceIte, Nat.reduceAdd, Nat.reduceMul, Nat.reduceSub, Nat.reduceBEq, Int.reduceAdd, Int.reduceSub, Int.reduceMul, Int.reduceNeg, Int.reduceLT, Int.reduceLE, Int.reduceBNe, Int.reduceBEq, Int.reduceMod, Int.reduceToNat, decide_true, decide_false, Int.reduceTMod, Int.natCast_zero, Int.cast_ofNat_Int, hneg, beq_self_eq_true, cmpR_self]
  repeat (with_reducible refine And.intro ?_ ?_; · first | trivial | omega | (simp; done))
  refine hKC _ _ _ _ _ (callV0 (alive13_fn) rfl rfl rfl rfl ?_)
  simp (maxSteps := 10000000) only [push_cast, ↓reduceIte, Nat.reduceAdd, Nat.reduceMul, Nat.reduceSub, Nat.reduceBEq, Int.reduceAdd, Int.reduceSub, Int.reduceMul, Int.reduceNeg, Int.reduceLT, Int.reduceLE, Int.reduceBNe, Int.reduceBEq, Int.reduceMod, Int.reduceToNat, decide_true, decide_false, Int.reduceTMod, Int.natCast_zero, Int.cast_ofNat_Int, hneg, beq_self_eq_true, cmpR_self]
  repeat (with_reducible refine And.intro ?_ ?_; · first | trivial | omega | (simp; done))
  refine hKC _ _ _ _ _ (callV0 (refCmp_fn false false X Y bX) rfl rfl rfl rfl ?_)
  simp (maxSteps := 10000000) only [push_cast, ↓reduceIte, Nat.reduceAdd, Nat.reduceMul, Nat.reduceSub, Nat.reduceBEq, Int.reduceAdd, Int.reduceSub, Int.reduceMul, Int.reduceNeg, Int.reduceLT, Int.reduceLE, Int.reduceBNe, Int.reduceBEq, Int.reduceMod, Int.reduceToNat, decide_true, decide_false, Int.reduceTMod, Int.natCast_zero, Int.cast_ofNat_Int, hneg, beq_self_eq_true, cmpR_self]
  repeat (with_reducible refine And.intro ?_ ?_; · first | trivial | omega | (simp; done))
  refine hKC _ _ _ _ _ (callV0 (drawCmp_fn false false Y X bY) rfl rfl rfl rfl ?_)
  simp (maxSteps := 10000000) only [push_cast, ↓reduceIte, Nat.reduceAdd, Nat.reduceMul, Nat.reduceSub, Nat.reduceBEq, Int.reduceAdd, Int.reduceSub, Int.reduceMul, Int.reduceNeg, Int.reduceLT, Int.reduceLE, Int.reduceBNe, Int.reduceBEq, Int.reduceMod, Int.reduceToNat, decide_true, decide_false, Int.reduceTMod, Int.natCast_zero, Int.cast_ofNat_Int, hneg, beq_self_eq_true, cmpR_self]
  repeat (with_reducible refine And.intro ?_ ?_; · first | trivial | omega | (simp; done))
  refine hKC _ _ _ _ _ (callV0 (drawCmp_fn false false X X bX) rfl rfl rfl rfl ?_)
  simp (maxSteps := 10000000) only [push_cast, ↓reduceIte, Nat.reduceAdd, Nat.reduceMul, Nat.reduceSub, Nat.reduceBEq, Int.reduceAdd, Int.reduceSub, Int.reduceMul, Int.reduceNeg, Int.reduceLT, Int.reduceLE, Int.reduceBNe, Int.reduceBEq, Int.reduceMod, Int.reduceToNat, decide_true, decide_false, Int.reduceTMod, Int.natCast_zero, Int.cast_ofNat_Int, hneg, beq_self_eq_true, cmpR_self]
  repeat (with_reducible refine And.intro ?_ ?_; · first | trivial | omega | (simp; done))
  first | with_reducible refine hJ _ _ ?_ | (with_reducible refine hJ _ _ ?_ ?_; · kernel_rfl)
  clear hJ hKC KC J
  repeat first
    | with_reducible first | refine AWP_seq' ?_ | refine k_normal ?_ | refine k_ret ?_ | refine k_exit ?_ | refine b_normal ?_ | refine b_ret ?_ | refine b_exit ?_ | refine b_pass rfl ?_ | refine AWP_ret ?_ | refine AWP_skip ?_ | refine AWP_exit ?_ | refine AWP_block ?_
    | (with_reducible first | refine AWP_reg fun KC J hJ hKC => ?_ | refine AWP_regD rfl fun KC J hJ hKC => ?_
       simp (maxSteps := 10000000) only [push_cast, ↓reduceIte, Nat.reduceAdd, Nat.reduceMul, Nat.reduceSub, Nat.reduceBEq, Int.reduceAdd, Int.reduceSub, Int.reduceMul, Int.reduceNeg, Int.reduceLT, Int.reduceLE, Int.reduceBNe, Int.reduceBEq, Int.reduceMod, Int.reduceToNat, decide_true, decide_false, Int.reduceTMod, Int.natCast_zero, Int.cast_ofNat_Int]
       repeat (with_reducible refine And.intro ?_ ?_; · first | trivial | omega | (simp; done))
       first | with_reducible refine hJ _ _ ?_ | (with_reducible refine hJ _ _ ?_ ?_; · kernel_rfl)
       clear hJ hKC KC J)
    | ((with_reducible refine AWP_condT ?_ ?_); · rfl)
    | ((with_reducible refine AWP_condF ?_ ?_); · rfl)
  refine ret_plain ?_
  simp only [push_cast, show Try.f4.results = #[ResultVar.tmp 4] from rfl]
end Go.Proofs.Ytabliglgeiajlaa.AM
