/- Rows of numbers compared. -/
import Derived.Test.YtabliglgeiajlaaTy
import Derived.Test.YtabliglgeiajlaaAm23
set_option linter.unusedSimpArgs false
set_option linter.unusedVariables false
namespace Go.Proofs.Ytabliglgeiajlaa.AM
open Go Go.RowKit Go.Proofs
set_option maxRecDepth 100000
set_option maxHeartbeats 4000000

def cmpI (x y : Int) : Int := if x < y then -1 else if y < x then 1 else 0
theorem isNaN_fn (x : Int) : Fn Try.prog 276 [.v (.int .i64 x)] [] (.v (.bool false)) [] := by
  refine Fn.of (fn := Try.f276) (by kernel_rfl) rfl (by kernel_rfl) ⟨[.v (.int .i64 x), .v undef, .v undef, .v undef, .v undef, .v undef], []⟩ rfl ?_
  repeat first
    | with_reducible first | refine AWP_seq' ?_ | refine k_normal ?_ | refine k_ret ?_ | refine k_exit ?_ | refine b_normal ?_ | refine b_ret ?_ | refine b_exit ?_ | refine b_pass rfl ?_ | refine AWP_ret ?_ | refine AWP_skip ?_ | refine AWP_exit ?_ | refine AWP_block ?_
    | (with_reducible first | refine AWP_reg fun KC J hJ hKC => ?_ | refine AWP_regD rfl fun KC J hJ hKC => ?_
       simp (maxSteps := 10000000) only [push_cast, ↓reduceIte, Nat.reduceAdd, Nat.reduceMul, Nat.reduceSub, Nat.reduceBEq, Int.reduceAdd, Int.reduceSub, Int.reduceMul, Int.reduceNeg, Int.reduceLT, Int.reduceLE, Int.reduceBNe, Int.reduceBEq, Int.reduceMod, Int.reduceToNat, decide_true, decide_false, Int.reduceTMod, Int.natCast_zero, Int.cast_ofNat_Int]
       repeat (with_reducible refine And.intro ?_ ?_; · first | trivial | omega | (simp; done))
       first | with_reducible refine hJ _ _ ?_ | (with_reducible refine hJ _ _ ?_ ?_; · kernel_rfl)
       clear hJ hKC KC J)
    | ((with_reducible refine AWP_condT ?_ ?_); · rfl)
    | ((with_reducible refine AWP_condF ?_ ?_); · rfl)
  refine ret_plain ?_
  simp only [push_cast, show Try.f276.results = #[ResultVar.tmp 2] from rfl]
  simp
theorem compare_fn (x y : Int) : Fn Try.prog 191 [.v (.int .i64 x), .v (.int .i64 y)] [] (.v (.int .i64 (cmpI x y))) [] := by
  refine Fn.of (fn := Try.f191) (by kernel_rfl) rfl (by kernel_rfl) ⟨[.v (.int .i64 x), .v (.int .i64 y), .v undef, .v undef, .v undef, .v undef, .v undef, .v undef, .v undef, .v undef, .v undef, .v undef, .v undef, .v undef, .v undef, .v undef, .v undef, .v undef, .v undef, .v undef], []⟩ rfl ?_
  repeat first
    | with_reducible first | refine AWP_seq' ?_ | refine k_normal ?_ | refine k_ret ?_ | refine k_exit ?_ | refine b_normal ?_ | refine b_ret ?_ | refine b_exit ?_ | refine b_pass rfl ?_ | refine AWP_ret ?_ | refine AWP_skip ?_ | refine AWP_exit ?_ | refine AWP_block ?_
    | (with_reducible first | refine AWP_reg fun KC J hJ hKC => ?_ | refine AWP_regD rfl fun KC J hJ hKC => ?_
       simp (maxSteps := 10000000) only [push_cast, ↓reduceIte, Nat.reduceAdd, Nat.reduceMul, Nat.reduceSub, Nat.reduceBEq, Int.reduceAdd, Int.reduceSub, Int.reduceMul, Int.reduceNeg, Int.reduceLT, Int.reduceLE, Int.reduceBNe, Int.reduceBEq, Int.reduceMod, Int.reduceToNat, decide_true, decide_false, Int.reduceTMod, Int.natCast_zero, Int.cast_ofNat_Int]
       repeat (with_reducible refine And.intro ?_ ?_; · first | trivial | omega | (simp; done))
       first | with_reducible refine hJ _ _ ?_ | (with_reducible refine hJ _ _ ?_ ?_; · kernel_rfl)
       clear hJ hKC KC J)
    | ((with_reducible refine AWP_condT ?_ ?_); · rfl)
    | ((with_reducible refine AWP_condF ?_ ?_); · rfl)
  with_reducible first | refine AWP_reg fun KC J hJ hKC => ?_ | refine AWP_regD rfl fun KC J hJ hKC => ?_
  simp (maxSteps := 10000000) only [push_cast, ↓reduceIte, Nat.reduceAdd, Nat.reduceMul, Nat.reduceSub, Nat.reduceBEq, Int.reduceAdd, Int.reduceSub, Int.reduceMul, Int.reduceNeg, Int.reduceLT, Int.reduceLE, Int.reduceBNe, Int.reduceBEq, Int.reduceMod, Int.reduceToNat, decide_true, decide_false, Int.reduceTMod, Int.natCast_zero, Int.cast_ofNat_Int]
  repeat (with_reducible refine And.intro ?_ ?_; · first | trivial | omega | (simp; done))
  refine hKC _ _ _ _ _ (callV0 (isNaN_fn _) rfl rfl rfl rfl ?_)
  simp (maxSteps := 10000000) only [push_cast, ↓reduceIte, Nat.reduceAdd, Nat.reduceMul, Nat.reduceSub, Nat.reduceBEq, Int.reduceAdd, Int.reduceSub, Int.reduceMul, Int.reduceNeg, Int.reduceLT, Int.reduceLE, Int.reduceBNe, Int.reduceBEq, Int.reduceMod, Int.reduceToNat, decide_true, decide_false, Int.reduceTMod, Int.natCast_zero, Int.cast_ofNat_Int]
  repeat (with_reducible refine And.intro ?_ ?_; · first | trivial | omega | (simp; done))
  first | with_reducible refine hJ _ _ ?_ | (with_reducible refine hJ _ _ ?_ ?_; · kernel_rfl)
  clear hJ hKC KC J
  repeat first
    | with_reducible first | refine AWP_seq' ?_ | refine k_normal ?_ | refine k_ret ?_ | refine k_exit ?_ | refine b_normal ?_ | refine b_ret ?_ | refine b_exit ?_ | refine b_pass rfl ?_ | refine AWP_ret ?_ | refine AWP_skip ?_ | refine AWP_exit ?_ | refine AWP_block ?_
    | (with_reducible first | refine AWP_reg fun KC J hJ hKC => ?_ | refine AWP_regD rfl fun KC J hJ hKC => ?_
       simp (maxSteps := 10000000) only [push_cast, ↓reduceIte, Nat.reduceAdd, Nat.reduceMul, Nat.reduceSub, Nat.reduceBEq, Int.reduceAdd, Int.reduceSub, Int.reduceMul, Int.reduceNeg, Int.reduceLT, Int.reduceLE, Int.reduceBNe, Int.reduceBEq, Int.reduceMod, Int.reduceToNat, decide_true, decide_false, Int.reduceTMod, Int.natCast_zero, Int.cast_ofNat_Int]
       repeat (with_reducible refine And.intro ?_ ?_; · first | trivial | omega | (simp; done))
       first | with_reducible refine hJ _ _ ?_ | (with_reducible refine hJ _ _ ?_ ?_; · kernel_rfl)
       clear hJ hKC KC J)
    | ((with_reducible refine AWP_condT ?_ ?_); · rfl)
    | ((with_reducible refine AWP_condF ?_ ?_); · rfl)
  with_reducible first | refine AWP_reg fun KC J hJ hKC => ?_ | refine AWP_regD rfl fun KC J hJ hKC => ?_
  simp (maxSteps := 10000000) only [push_cast, ↓reduceIte, Nat.reduceAdd, Nat.reduceMul, Nat.reduceSub, Nat.reduceBEq, Int.reduceAdd, Int.reduceSub, Int.reduceMul, Int.reduceNeg, Int.reduceLT, Int.reduceLE, Int.reduceBNe, Int.reduceBEq, Int.reduceMod, Int.reduceToNat, decide_true, decide_false, Int.reduceTMod, Int.natCast_zero, Int.cast_ofNat_Int]
  repeat (with_reducible refine And.intro ?_ ?_; · first | trivial | omega | (simp; done))
  refine hKC _ _ _ _ _ (callV0 (isNaN_fn _) rfl rfl rfl rfl ?_)
  simp (maxSteps := 10000000) only [push_cast, ↓reduceIte, Nat.reduceAdd, Nat.reduceMul, Nat.reduceSub, Nat.reduceBEq, Int.reduceAdd, Int.reduceSub, Int.reduceMul, Int.reduceNeg, Int.reduceLT, Int.reduceLE, Int.reduceBNe, Int.reduceBEq, Int.reduceMod, Int.reduceToNat, decide_true, decide_false, Int.reduceTMod, Int.natCast_zero, Int.cast_ofNat_Int]
  repeat (with_reducible refine And.intro ?_ ?_; · first | trivial | omega | (simp; done))
  first | with_reducible refine hJ _ _ ?_ | (with_reducible refine hJ _ _ ?_ ?_; · kernel_rfl)
  clear hJ hKC KC J
  repeat first
    | with_reducible first | refine AWP_seq' ?_ | refine k_normal ?_ | refine k_ret ?_ | refine k_exit ?_ | refine b_normal ?_ | refine b_ret ?_ | refine b_exit ?_ | refine b_pass rfl ?_ | refine AWP_ret ?_ | refine AWP_skip ?_ | refine AWP_exit ?_ | refine AWP_block ?_
    | (with_reducible first | refine AWP_reg fun KC J hJ hKC => ?_ | refine AWP_regD rfl fun KC J hJ hKC => ?_
       simp (maxSteps := 10000000) only [push_cast, ↓reduceIte, Nat.reduceAdd, Nat.reduceMul, Nat.reduceSub, Nat.reduceBEq, Int.reduceAdd, Int.reduceSub, Int.reduceMul, Int.reduceNeg, Int.reduceLT, Int.reduceLE, Int.reduceBNe, Int.reduceBEq, Int.reduceMod, Int.reduceToNat, decide_true, decide_false, Int.reduceTMod, Int.natCast_zero, Int.cast_ofNat_Int]
       repeat (with_reducible refine And.intro ?_ ?_; · first | trivial | omega | (simp; done))
       first | with_reducible refine hJ _ _ ?_ | (with_reducible refine hJ _ _ ?_ ?_; · kernel_rfl)
       clear hJ hKC KC J)
    | ((with_reducible refine AWP_condT ?_ ?_); · rfl)
    | ((with_reducible refine AWP_condF ?_ ?_); · rfl)
  refine AWP_cond rfl (fun h => ?_) (fun h => ?_)
  · skip
    repeat first
      | with_reducible first | refine AWP_seq' ?_ | refine k_normal ?_ | refine k_ret ?_ | refine k_exit ?_ | refine b_normal ?_ | refine b_ret ?_ | refine b_exit ?_ | refine b_pass rfl ?_ | refine AWP_ret ?_ | refine AWP_skip ?_ | refine AWP_exit ?_ | refine AWP_block ?_
      | (with_reducible first | refine AWP_reg fun KC J hJ hKC => ?_ | refine AWP_regD rfl fun KC J hJ hKC => ?_
         simp (maxSteps := 10000000) only [push_cast, ↓reduceIte, Nat.reduceAdd, Nat.reduceMul, Nat.reduceSub, Nat.reduceBEq, Int.reduceAdd, Int.reduceSub, Int.reduceMul, Int.reduceNeg, Int.reduceLT, Int.reduceLE, Int.reduceBNe, Int.reduceBEq, Int.reduceMod, Int.reduceToNat, decide_true, decide_false, Int.reduceTMod, Int.natCast_zero, Int.cast_ofNat_Int]
         repeat (with_reducible refine And.intro ?_ ?_; · first | trivial | omega | (simp; done))
         first | with_reducible refine hJ _ _ ?_ | (with_reducible refine hJ _ _ ?_ ?_; · kernel_rfl)
         clear hJ hKC KC J)
      | ((with_reducible refine AWP_condT ?_ ?_); · rfl)
      | ((with_reducible refine AWP_condF ?_ ?_); · rfl)
    refine ret_plain ?_
    simp only [push_cast, show Try.f191.results = #[ResultVar.tmp 4] from rfl]
    simp [cmpI, of_decide_eq_true h]
  · skip
    repeat first
      | with_reducible first | refine AWP_seq' ?_ | refine k_normal ?_ | refine k_ret ?_ | refine k_exit ?_ | refine b_normal ?_ | refine b_ret ?_ | refine b_exit ?_ | refine b_pass rfl ?_ | refine AWP_ret ?_ | refine AWP_skip ?_ | refine AWP_exit ?_ | refine AWP_block ?_
      | (with_reducible first | refine AWP_reg fun KC J hJ hKC => ?_ | refine AWP_regD rfl fun KC J hJ hKC => ?_
         simp (maxSteps := 10000000) only [push_cast, ↓reduceIte, Nat.reduceAdd, Nat.reduceMul, Nat.reduceSub, Nat.reduceBEq, Int.reduceAdd, Int.reduceSub, Int.reduceMul, Int.reduceNeg, Int.reduceLT, Int.reduceLE, Int.reduceBNe, Int.reduceBEq, Int.reduceMod, Int.reduceToNat, decide_true, decide_false, Int.reduceTMod, Int.natCast_zero, Int.cast_ofNat_Int]
         repeat (with_reducible refine And.intro ?_ ?_; · first | trivial | omega | (simp; done))
         first | with_reducible refine hJ _ _ ?_ | (with_reducible refine hJ _ _ ?_ ?_; · kernel_rfl)
         clear hJ hKC KC J)
      | ((with_reducible refine AWP_condT ?_ ?_); · rfl)
      | ((with_reducible refine AWP_condF ?_ ?_); · rfl)
    refine AWP_cond rfl (fun h2 => ?_) (fun h2 => ?_)
    · skip
      repeat first
        | with_reducible first | refine AWP_seq' ?_ | refine k_normal ?_ | refine k_ret ?_ | refine k_exit ?_ | refine b_normal ?_ | refine b_ret ?_ | refine b_exit ?_ | refine b_pass rfl ?_ | refine AWP_ret ?_ | refine AWP_skip ?_ | refine AWP_exit ?_ | refine AWP_block ?_
        | (with_reducible first | refine AWP_reg fun KC J hJ hKC => ?_ | refine AWP_regD rfl fun KC J hJ hKC => ?_
           simp (maxSteps := 10000000) only [push_cast, ↓reduceIte, Nat.reduceAdd, Nat.reduceMul, Nat.reduceSub, Nat.reduceBEq, Int.reduceAdd, Int.reduceSub, Int.reduceMul, Int.reduceNeg, Int.reduceLT, Int.reduceLE, Int.reduceBNe, Int.reduceBEq, Int.reduceMod, Int.reduceToNat, decide_true, decide_false, Int.reduceTMod, Int.natCast_zero, Int.cast_ofNat_Int]
           repeat (with_reducible refine And.intro ?_ ?_; · first | trivial | omega | (simp; done))
           first | with_reducible refine hJ _ _ ?_ | (with_reducible refine hJ _ _ ?_ ?_; · kernel_rfl)
           clear hJ hKC KC J)
        | ((with_reducible refine AWP_condT ?_ ?_); · rfl)
        | ((with_reducible refine AWP_condF ?_ ?_); · rfl)
      refine ret_plain ?_
      simp only [push_cast, show Try.f191.results = #[ResultVar.tmp 4] from rfl]
      simp [cmpI, of_decide_eq_true h2, of_decide_eq_false h]
    · skip
      repeat first
        | with_reducible first | refine AWP_seq' ?_ | refine k_normal ?_ | refine k_ret ?_ | refine k_exit ?_ | refine b_normal ?_ | refine b_ret ?_ | refine b_exit ?_ | refine b_pass rfl ?_ | refine AWP_ret ?_ | refine AWP_skip ?_ | refine AWP_exit ?_ | refine AWP_block ?_
        | (with_reducible first | refine AWP_reg fun KC J hJ hKC => ?_ | refine AWP_regD rfl fun KC J hJ hKC => ?_
           simp (maxSteps := 10000000) only [push_cast, ↓reduceIte, Nat.reduceAdd, Nat.reduceMul, Nat.reduceSub, Nat.reduceBEq, Int.reduceAdd, Int.reduceSub, Int.reduceMul, Int.reduceNeg, Int.reduceLT, Int.reduceLE, Int.reduceBNe, Int.reduceBEq, Int.reduceMod, Int.reduceToNat, decide_true, decide_false, Int.reduceTMod, Int.natCast_zero, Int.cast_ofNat_Int]
           repeat (with_reducible refine And.intro ?_ ?_; · first | trivial | omega | (simp; done))
           first | with_reducible refine hJ _ _ ?_ | (with_reducible refine hJ _ _ ?_ ?_; · kernel_rfl)
           clear hJ hKC KC J)
        | ((with_reducible refine AWP_condT ?_ ?_); · rfl)
        | ((with_reducible refine AWP_condF ?_ ?_); · rfl)
      refine ret_plain ?_
      simp only [push_cast, show Try.f191.results = #[ResultVar.tmp 4] from rfl]
      simp [cmpI, of_decide_eq_false h2, of_decide_eq_false h]

def cmpL : List Int → List Int → Int
  | [], [] => 0
  | [], _ :: _ => -1
  | _ :: _, [] => 1
  | x :: xs, y :: ys => if cmpI x y ≠ 0 then cmpI x y else cmpL xs ys
def intRow (xs : List Int) : List (List D) := xs.map fun x => [.v (.int .i64 x)]
theorem slicesCompare_fn (f g : Bool) (xs ys : List Int) (hb : xs.length ≤ 9223372036854775807) : Fn Try.prog 198 [.sl f 1 (intRow xs), .sl g 1 (intRow ys)] [] (.v (.int .i64 (cmpL xs ys))) [] := by
  unfold intRow
  refine Fn.of (fn := Try.f198) (by kernel_rfl) rfl (by kernel_rfl) ⟨[.sl f 1 (xs.map fun x => [.v (.int .i64 x)]), .sl g 1 (ys.map fun x => [.v (.int .i64 x)]), .v undef, .v undef, .v undef, .v undef, .v undef, .v undef, .v undef, .v undef, .v undef, .v undef, .v undef, .v undef, .v undef, .v undef, .v undef, .v undef, .v undef, .v undef, .v undef, .v undef, .v undef, .v undef, .v undef, .v undef, .v undef, .v undef, .v undef, .v undef, .v undef, .v undef, .v undef, .v undef, .v undef, .v undef], []⟩ rfl ?_
  repeat first
    | with_reducible first | refine AWP_seq' ?_ | refine k_normal ?_ | refine k_ret ?_ | refine k_exit ?_ | refine b_normal ?_ | refine b_ret ?_ | refine b_exit ?_ | refine b_pass rfl ?_ | refine AWP_ret ?_ | refine AWP_skip ?_ | refine AWP_exit ?_ | refine AWP_block ?_
    | (with_reducible first | refine AWP_reg fun KC J hJ hKC => ?_ | refine AWP_regD rfl fun KC J hJ hKC => ?_
       simp (maxSteps := 10000000) only [push_cast, ↓reduceIte, Nat.reduceAdd, Nat.reduceMul, Nat.reduceSub, Nat.reduceBEq, Int.reduceAdd, Int.reduceSub, Int.reduceMul, Int.reduceNeg, Int.reduceLT, Int.reduceLE, Int.reduceBNe, Int.reduceBEq, Int.reduceMod, Int.reduceToNat, decide_true, decide_false, Int.reduceTMod, Int.natCast_zero, Int.cast_ofNat_Int]
       repeat (with_reducible refine And.intro ?_ ?_; · first | trivial | omega | (simp; done))
       first | with_reducible refine hJ _ _ ?_ | (with_reducible refine hJ _ _ ?_ ?_; · kernel_rfl)
       clear hJ hKC KC J)
    | ((with_reducible refine AWP_condT ?_ ?_); · rfl)
    | ((with_reducible refine AWP_condF ?_ ?_); · rfl)
  refine AWP_loopW (γ := {i : Nat // i ≤ xs.length ∧ i ≤ ys.length ∧ cmpL xs ys = cmpL (xs.drop i) (ys.drop i)}) (fun i => ⟨[.sl f 1 (xs.map fun x => [.v (.int .i64 x)]), .sl g 1 (ys.map fun x => [.v (.int .i64 x)]), .any, .any, .any, .any, .any, .any, .any, .sl f 1 (xs.map fun x => [.v (.int .i64 x)]), .v (.int .i64 xs.length), .v (.int .i64 i.1), .any, .any, .any, .any, .any, .any, .any, .any, .any, .any, .any, .any, .any, .any, .any, .any, .any, .any, .any, .any, .any, .any, .any, .any], []⟩) (fun i => xs.length - i.1) ⟨0, by simp⟩ (weak_plain ?_ rfl) ?_
  · simp only [ren, ren2, ren1, ren0, List.map_cons, List.map_nil, leF, leD_any, leD_self, leD_v, leD_agg, leD_fad, leD_fn, leD_tup, leD_ref, leD_ptr, and_true, true_and, and_self]
    simp
  · rintro ⟨i, hi, hi2, he⟩
    repeat first
      | with_reducible first | refine AWP_seq' ?_ | refine k_normal ?_ | refine k_ret ?_ | refine k_exit ?_ | refine b_normal ?_ | refine b_ret ?_ | refine b_exit ?_ | refine b_pass rfl ?_ | refine AWP_ret ?_ | refine AWP_skip ?_ | refine AWP_exit ?_ | refine AWP_block ?_
      | (with_reducible first | refine AWP_reg fun KC J hJ hKC => ?_ | refine AWP_regD rfl fun KC J hJ hKC => ?_
         simp (maxSteps := 10000000) only [push_cast, ↓reduceIte, Nat.reduceAdd, Nat.reduceMul, Nat.reduceSub, Nat.reduceBEq, Int.reduceAdd, Int.reduceSub, Int.reduceMul, Int.reduceNeg, Int.reduceLT, Int.reduceLE, Int.reduceBNe, Int.reduceBEq, Int.reduceMod, Int.reduceToNat, decide_true, decide_false, Int.reduceTMod, Int.natCast_zero, Int.cast_ofNat_Int]
         repeat (with_reducible refine And.intro ?_ ?_; · first | trivial | omega | (simp; done))
         first | with_reducible refine hJ _ _ ?_ | (with_reducible refine hJ _ _ ?_ ?_; · kernel_rfl)
         clear hJ hKC KC J)
      | ((with_reducible refine AWP_condT ?_ ?_); · rfl)
      | ((with_reducible refine AWP_condF ?_ ?_); · rfl)
    refine AWP_cond rfl (fun h => ?_) (fun h => ?_)
    · simp only [decide_eq_true_eq] at h
      have hx : xs[i]? = some xs[i] := List.getElem?_eq_getElem (by omega)
      repeat first
        | with_reducible first | refine AWP_seq' ?_ | refine k_normal ?_ | refine k_ret ?_ | refine k_exit ?_ | refine b_normal ?_ | refine b_ret ?_ | refine b_exit ?_ | refine b_pass rfl ?_ | refine AWP_ret ?_ | refine AWP_skip ?_ | refine AWP_exit ?_ | refine AWP_block ?_
        | (with_reducible first | refine AWP_reg fun KC J hJ hKC => ?_ | refine AWP_regD rfl fun KC J hJ hKC => ?_
           simp (maxSteps := 10000000) only [push_cast, ↓reduceIte, Nat.reduceAdd, Nat.reduceMul, Nat.reduceSub, Nat.reduceBEq, Int.reduceAdd, Int.reduceSub, Int.reduceMul, Int.reduceNeg, Int.reduceLT, Int.reduceLE, Int.reduceBNe, Int.reduceBEq, Int.reduceMod, Int.reduceToNat, decide_true, decide_false, Int.reduceTMod, Int.natCast_zero, Int.cast_ofNat_Int, getE_map _ _ _ _ hx]
           repeat (with_reducible refine And.intro ?_ ?_; · first | trivial | omega | (simp; done))
           first | with_reducible refine hJ _ _ ?_ | (with_reducible refine hJ _ _ ?_ ?_; · kernel_rfl)
           clear hJ hKC KC J)
        | ((with_reducible refine AWP_condT ?_ ?_); · rfl)
        | ((with_reducible refine AWP_condF ?_ ?_); · rfl)
      refine AWP_cond rfl (fun h2 => ?_) (fun h2 => ?_)
      · simp only [decide_eq_true_eq] at h2
        repeat first
          | with_reducible first | refine AWP_seq' ?_ | refine k_normal ?_ | refine k_ret ?_ | refine k_exit ?_ | refine b_normal ?_ | refine b_ret ?_ | refine b_exit ?_ | refine b_pass rfl ?_ | refine AWP_ret ?_ | refine AWP_skip ?_ | refine AWP_exit ?_ | refine AWP_block ?_
          | (with_reducible first | refine AWP_reg fun KC J hJ hKC => ?_ | refine AWP_regD rfl fun KC J hJ hKC => ?_
             simp (maxSteps := 10000000) only [push_cast, ↓reduceIte, Nat.reduceAdd, Nat.reduceMul, Nat.reduceSub, Nat.reduceBEq, Int.reduceAdd, Int.reduceSub, Int.reduceMul, Int.reduceNeg, Int.reduceLT, Int.reduceLE, Int.reduceBNe, Int.reduceBEq, Int.reduceMod, Int.reduceToNat, decide_true, decide_false, Int.reduceTMod, Int.natCast_zero, Int.cast_ofNat_Int]
             repeat (with_reducible refine And.intro ?_ ?_; · first | trivial | omega | (simp; done))
             first | with_reducible refine hJ _ _ ?_ | (with_reducible refine hJ _ _ ?_ ?_; · kernel_rfl)
             clear hJ hKC KC J)
          | ((with_reducible refine AWP_condT ?_ ?_); · rfl)
          | ((with_reducible refine AWP_condF ?_ ?_); · rfl)
        refine ret_plain ?_
        simp only [push_cast, show Try.f198.results = #[ResultVar.tmp 4] from rfl]
        have e2 : ys.drop i = [] := List.drop_eq_nil_of_le (by omega)
        rw [he, List.drop_eq_getElem_cons (by omega : i < xs.length), e2]
        simp [cmpL]
      · simp only [decide_eq_false_iff_not] at h2
        have hy : ys[i]? = some ys[i] := List.getElem?_eq_getElem (by omega)
        have hd : cmpL xs ys = if cmpI xs[i] ys[i] ≠ 0 then cmpI xs[i] ys[i] else cmpL (xs.drop (i + 1)) (ys.drop (i + 1)) := by
          rw [he, List.drop_eq_getElem_cons (by omega : i < xs.length), List.drop_eq_getElem_cons (by omega : i < ys.length)]
          rfl
        repeat first
          | with_reducible first | refine AWP_seq' ?_ | refine k_normal ?_ | refine k_ret ?_ | refine k_exit ?_ | refine b_normal ?_ | refine b_ret ?_ | refine b_exit ?_ | refine b_pass rfl ?_ | refine AWP_ret ?_ | refine AWP_skip ?_ | refine AWP_exit ?_ | refine AWP_block ?_
          | (with_reducible first | refine AWP_reg fun KC J hJ hKC => ?_ | refine AWP_regD rfl fun KC J hJ hKC => ?_
             simp (maxSteps := 10000000) only [push_cast, ↓reduceIte, Nat.reduceAdd, Nat.reduceMul, Nat.reduceSub, Nat.reduceBEq, Int.reduceAdd, Int.reduceSub, Int.reduceMul, Int.reduceNeg, Int.reduceLT, Int.reduceLE, Int.reduceBNe, Int.reduceBEq, Int.reduceMod, Int.reduceToNat, decide_true, decide_false, Int.reduceTMod, Int.natCast_zero, Int.cast_ofNat_Int, getE_map _ _ _ _ hy]
             repeat (with_reducible refine And.intro ?_ ?_; · first | trivial | omega | (simp; done))
             first | with_reducible refine hJ _ _ ?_ | (with_reducible refine hJ _ _ ?_ ?_; · kernel_rfl)
             clear hJ hKC KC J)
          | ((with_reducible refine AWP_condT ?_ ?_); · rfl)
          | ((with_reducible refine AWP_condF ?_ ?_); · rfl)
        with_reducible first | refine AWP_reg fun KC J hJ hKC => ?_ | refine AWP_regD rfl fun KC J hJ hKC => ?_
        simp (maxSteps := 10000000) only [push_cast, ↓reduceIte, Nat.reduceAdd, Nat.reduceMul, Nat.reduceSub, Nat.reduceBEq, Int.reduceAdd, Int.reduceSub, Int.reduceMul, Int.reduceNeg, Int.reduceLT, Int.reduceLE, Int.reduceBNe, Int.reduceBEq, Int.reduceMod, Int.reduceToNat, decide_true, decide_false, Int.reduceTMod, Int.natCast_zero, Int.cast_ofNat_Int]
        repeat (with_reducible refine And.intro ?_ ?_; · first | trivial | omega | (simp; done))
        refine hKC _ _ _ _ _ (callV0 (compare_fn _ _) rfl rfl rfl rfl ?_)
        simp (maxSteps := 10000000) only [push_cast, ↓reduceIte, Nat.reduceAdd, Nat.reduceMul, Nat.reduceSub, Nat.reduceBEq, Int.reduceAdd, Int.reduceSub, Int.reduceMul, Int.reduceNeg, Int.reduceLT, Int.reduceLE, Int.reduceBNe, Int.reduceBEq, Int.reduceMod, Int.reduceToNat, decide_true, decide_false, Int.reduceTMod, Int.natCast_zero, Int.cast_ofNat_Int]
        repeat (with_reducible refine And.intro ?_ ?_; · first | trivial | omega | (simp; done))
        first | with_reducible refine hJ _ _ ?_ | (with_reducible refine hJ _ _ ?_ ?_; · kernel_rfl)
        clear hJ hKC KC J
        repeat first
          | with_reducible first | refine AWP_seq' ?_ | refine k_normal ?_ | refine k_ret ?_ | refine k_exit ?_ | refine b_normal ?_ | refine b_ret ?_ | refine b_exit ?_ | refine b_pass rfl ?_ | refine AWP_ret ?_ | refine AWP_skip ?_ | refine AWP_exit ?_ | refine AWP_block ?_
          | (with_reducible first | refine AWP_reg fun KC J hJ hKC => ?_ | refine AWP_regD rfl fun KC J hJ hKC => ?_
             simp (maxSteps := 10000000) only [push_cast, ↓reduceIte, Nat.reduceAdd, Nat.reduceMul, Nat.reduceSub, Nat.reduceBEq, Int.reduceAdd, Int.reduceSub, Int.reduceMul, Int.reduceNeg, Int.reduceLT, Int.reduceLE, Int.reduceBNe, Int.reduceBEq, Int.reduceMod, Int.reduceToNat, decide_true, decide_false, Int.reduceTMod, Int.natCast_zero, Int.cast_ofNat_Int]
             repeat (with_reducible refine And.intro ?_ ?_; · first | trivial | omega | (simp; done))
             first | with_reducible refine hJ _ _ ?_ | (with_reducible refine hJ _ _ ?_ ?_; · kernel_rfl)
             clear hJ hKC KC J)
          | ((with_reducible refine AWP_condT ?_ ?_); · rfl)
          | ((with_reducible refine AWP_condF ?_ ?_); · rfl)
        refine AWP_cond rfl (fun h3 => ?_) (fun h3 => ?_)
        · skip
          repeat first
            | with_reducible first | refine AWP_seq' ?_ | refine k_normal ?_ | refine k_ret ?_ | refine k_exit ?_ | refine b_normal ?_ | refine b_ret ?_ | refine b_exit ?_ | refine b_pass rfl ?_ | refine AWP_ret ?_ | refine AWP_skip ?_ | refine AWP_exit ?_ | refine AWP_block ?_
            | (with_reducible first | refine AWP_reg fun KC J hJ hKC => ?_ | refine AWP_regD rfl fun KC J hJ hKC => ?_
               simp (maxSteps := 10000000) only [push_cast, ↓reduceIte, Nat.reduceAdd, Nat.reduceMul, Nat.reduceSub, Nat.reduceBEq, Int.reduceAdd, Int.reduceSub, Int.reduceMul, Int.reduceNeg, Int.reduceLT, Int.reduceLE, Int.reduceBNe, Int.reduceBEq, Int.reduceMod, Int.reduceToNat, decide_true, decide_false, Int.reduceTMod, Int.natCast_zero, Int.cast_ofNat_Int]
               repeat (with_reducible refine And.intro ?_ ?_; · first | trivial | omega | (simp; done))
               first | with_reducible refine hJ _ _ ?_ | (with_reducible refine hJ _ _ ?_ ?_; · kernel_rfl)
               clear hJ hKC KC J)
            | ((with_reducible refine AWP_condT ?_ ?_); · rfl)
            | ((with_reducible refine AWP_condF ?_ ?_); · rfl)
          refine ret_plain ?_
          simp only [push_cast, show Try.f198.results = #[ResultVar.tmp 4] from rfl]
          simp only [bne_iff_ne, ne_eq] at h3
          simp [hd, h3]
        · skip
          repeat first
            | with_reducible first | refine AWP_seq' ?_ | refine k_normal ?_ | refine k_ret ?_ | refine k_exit ?_ | refine b_normal ?_ | refine b_ret ?_ | refine b_exit ?_ | refine b_pass rfl ?_ | refine AWP_ret ?_ | refine AWP_skip ?_ | refine AWP_exit ?_ | refine AWP_block ?_
            | (with_reducible first | refine AWP_reg fun KC J hJ hKC => ?_ | refine AWP_regD rfl fun KC J hJ hKC => ?_
               simp (maxSteps := 10000000) only [push_cast, ↓reduceIte, Nat.reduceAdd, Nat.reduceMul, Nat.reduceSub, Nat.reduceBEq, Int.reduceAdd, Int.reduceSub, Int.reduceMul, Int.reduceNeg, Int.reduceLT, Int.reduceLE, Int.reduceBNe, Int.reduceBEq, Int.reduceMod, Int.reduceToNat, decide_true, decide_false, Int.reduceTMod, Int.natCast_zero, Int.cast_ofNat_Int]
               repeat (with_reducible refine And.intro ?_ ?_; · first | trivial | omega | (simp; done))
               first | with_reducible refine hJ _ _ ?_ | (with_reducible refine hJ _ _ ?_ ?_; · kernel_rfl)
               clear hJ hKC KC J)
            | ((with_reducible refine AWP_condT ?_ ?_); · rfl)
            | ((with_reducible refine AWP_condF ?_ ?_); · rfl)
          refine ⟨⟨i + 1, by omega, by omega, ?_⟩, by simp only; omega, weak_plain ?_ rfl⟩
          · have h4 : cmpI xs[i] ys[i] = 0 := by simpa using h3
            rw [hd]; simp [h4]
          · simp only [ren, ren2, ren1, ren0, List.map_cons, List.map_nil, leF, leD_any, leD_self, leD_v, leD_agg, leD_fad, leD_fn, leD_tup, leD_ref, leD_ptr, and_true, true_and, and_self]
            rw [wrapN (i := i) (n := xs.length) (by omega) hb]
    · simp only [decide_eq_false_iff_not] at h
      have e1 : xs.drop i = [] := List.drop_eq_nil_of_le (by omega)
      repeat first
        | with_reducible first | refine AWP_seq' ?_ | refine k_normal ?_ | refine k_ret ?_ | refine k_exit ?_ | refine b_normal ?_ | refine b_ret ?_ | refine b_exit ?_ | refine b_pass rfl ?_ | refine AWP_ret ?_ | refine AWP_skip ?_ | refine AWP_exit ?_ | refine AWP_block ?_
        | (with_reducible first | refine AWP_reg fun KC J hJ hKC => ?_ | refine AWP_regD rfl fun KC J hJ hKC => ?_
           simp (maxSteps := 10000000) only [push_cast, ↓reduceIte, Nat.reduceAdd, Nat.reduceMul, Nat.reduceSub, Nat.reduceBEq, Int.reduceAdd, Int.reduceSub, Int.reduceMul, Int.reduceNeg, Int.reduceLT, Int.reduceLE, Int.reduceBNe, Int.reduceBEq, Int.reduceMod, Int.reduceToNat, decide_true, decide_false, Int.reduceTMod, Int.natCast_zero, Int.cast_ofNat_Int]
           repeat (with_reducible refine And.intro ?_ ?_; · first | trivial | omega | (simp; done))
           first | with_reducible refine hJ _ _ ?_ | (with_reducible refine hJ _ _ ?_ ?_; · kernel_rfl)
           clear hJ hKC KC J)
        | ((with_reducible refine AWP_condT ?_ ?_); · rfl)
        | ((with_reducible refine AWP_condF ?_ ?_); · rfl)
      refine AWP_cond rfl (fun h2 => ?_) (fun h2 => ?_)
      · simp only [decide_eq_true_eq] at h2
        repeat first
          | with_reducible first | refine AWP_seq' ?_ | refine k_normal ?_ | refine k_ret ?_ | refine k_exit ?_ | refine b_normal ?_ | refine b_ret ?_ | refine b_exit ?_ | refine b_pass rfl ?_ | refine AWP_ret ?_ | refine AWP_skip ?_ | refine AWP_exit ?_ | refine AWP_block ?_
          | (with_reducible first | refine AWP_reg fun KC J hJ hKC => ?_ | refine AWP_regD rfl fun KC J hJ hKC => ?_
             simp (maxSteps := 10000000) only [push_cast, ↓reduceIte, Nat.reduceAdd, Nat.reduceMul, Nat.reduceSub, Nat.reduceBEq, Int.reduceAdd, Int.reduceSub, Int.reduceMul, Int.reduceNeg, Int.reduceLT, Int.reduceLE, Int.reduceBNe, Int.reduceBEq, Int.reduceMod, Int.reduceToNat, decide_true, decide_false, Int.reduceTMod, Int.natCast_zero, Int.cast_ofNat_Int]
             repeat (with_reducible refine And.intro ?_ ?_; · first | trivial | omega | (simp; done))
             first | with_reducible refine hJ _ _ ?_ | (with_reducible refine hJ _ _ ?_ ?_; · kernel_rfl)
             clear hJ hKC KC J)
          | ((with_reducible refine AWP_condT ?_ ?_); · rfl)
          | ((with_reducible refine AWP_condF ?_ ?_); · rfl)
        refine ret_plain ?_
        simp only [push_cast, show Try.f198.results = #[ResultVar.tmp 4] from rfl]
        rw [he, e1, List.drop_eq_getElem_cons (by omega : i < ys.length)]
        simp [cmpL]
      · simp only [decide_eq_false_iff_not] at h2
        repeat first
          | with_reducible first | refine AWP_seq' ?_ | refine k_normal ?_ | refine k_ret ?_ | refine k_exit ?_ | refine b_normal ?_ | refine b_ret ?_ | refine b_exit ?_ | refine b_pass rfl ?_ | refine AWP_ret ?_ | refine AWP_skip ?_ | refine AWP_exit ?_ | refine AWP_block ?_
          | (with_reducible first | refine AWP_reg fun KC J hJ hKC => ?_ | refine AWP_regD rfl fun KC J hJ hKC => ?_
             simp (maxSteps := 10000000) only [push_cast, ↓reduceIte, Nat.reduceAdd, Nat.reduceMul, Nat.reduceSub, Nat.reduceBEq, Int.reduceAdd, Int.reduceSub, Int.reduceMul, Int.reduceNeg, Int.reduceLT, Int.reduceLE, Int.reduceBNe, Int.reduceBEq, Int.reduceMod, Int.reduceToNat, decide_true, decide_false, Int.reduceTMod, Int.natCast_zero, Int.cast_ofNat_Int]
             repeat (with_reducible refine And.intro ?_ ?_; · first | trivial | omega | (simp; done))
             first | with_reducible refine hJ _ _ ?_ | (with_reducible refine hJ _ _ ?_ ?_; · kernel_rfl)
             clear hJ hKC KC J)
          | ((with_reducible refine AWP_condT ?_ ?_); · rfl)
          | ((with_reducible refine AWP_condF ?_ ?_); · rfl)
        refine ret_plain ?_
        simp only [push_cast, show Try.f198.results = #[ResultVar.tmp 4] from rfl]
        have e2 : ys.drop i = [] := List.drop_eq_nil_of_le (by omega)
        rw [he, e1, e2]
        simp [cmpL]

def cmpR (xs ys : List Int) : Int := if cmpI xs.length ys.length ≠ 0 then cmpI xs.length ys.length else cmpL xs ys
theorem rows_fn (f g : Bool) (xs ys : List Int) (hb : xs.length ≤ 9223372036854775807) : Fn Try.prog 101 [.sl f 1 (intRow xs), .sl g 1 (intRow ys)] [] (.v (.int .i64 (cmpR xs ys))) [] := by
  have hl : ∀ l : List Int, (intRow l).length = l.length := fun l => by simp [intRow]
  refine Fn.of (fn := Try.f101) (by kernel_rfl) rfl (by kernel_rfl) ⟨[.sl f 1 (intRow xs), .sl g 1 (intRow ys), .v undef, .v undef, .v undef, .v undef, .v undef, .v undef, .v undef, .v undef, .v undef, .v undef, .v undef, .v undef, .v undef, .v undef, .v undef], []⟩ rfl ?_
  repeat first
    | with_reducible first | refine AWP_seq' ?_ | refine k_normal ?_ | refine k_ret ?_ | refine k_exit ?_ | refine b_normal ?_ | refine b_ret ?_ | refine b_exit ?_ | refine b_pass rfl ?_ | refine AWP_ret ?_ | refine AWP_skip ?_ | refine AWP_exit ?_ | refine AWP_block ?_
    | (with_reducible first | refine AWP_reg fun KC J hJ hKC => ?_ | refine AWP_regD rfl fun KC J hJ hKC => ?_
       simp (maxSteps := 10000000) only [push_cast, ↓reduceIte, Nat.reduceAdd, Nat.reduceMul, Nat.reduceSub, Nat.reduceBEq, Int.reduceAdd, Int.reduceSub, Int.reduceMul, Int.reduceNeg, Int.reduceLT, Int.reduceLE, Int.reduceBNe, Int.reduceBEq, Int.reduceMod, Int.reduceToNat, decide_true, decide_false, Int.reduceTMod, Int.natCast_zero, Int.cast_ofNat_Int]
       repeat (with_reducible refine And.intro ?_ ?_; · first | trivial | omega | (simp; done))
       first | with_reducible refine hJ _ _ ?_ | (with_reducible refine hJ _ _ ?_ ?_; · kernel_rfl)
       clear hJ hKC KC J)
    | ((with_reducible refine AWP_condT ?_ ?_); · rfl)
    | ((with_reducible refine AWP_condF ?_ ?_); · rfl)
  with_reducible first | refine AWP_reg fun KC J hJ hKC => ?_ | refine AWP_regD rfl fun KC J hJ hKC => ?_
  simp (maxSteps := 10000000) only [push_cast, ↓reduceIte, Nat.reduceAdd, Nat.reduceMul, Nat.reduceSub, Nat.reduceBEq, Int.reduceAdd, Int.reduceSub, Int.reduceMul, Int.reduceNeg, Int.reduceLT, Int.reduceLE, Int.reduceBNe, Int.reduceBEq, Int.reduceMod, Int.reduceToNat, decide_true, decide_false, Int.reduceTMod, Int.natCast_zero, Int.cast_ofNat_Int, hl]
  repeat (with_reducible refine And.intro ?_ ?_; · first | trivial | omega | (simp; done))
  refine hKC _ _ _ _ _ (callV0 (compare_fn _ _) rfl rfl rfl rfl ?_)
  simp (maxSteps := 10000000) only [push_cast, ↓reduceIte, Nat.reduceAdd, Nat.reduceMul, Nat.reduceSub, Nat.reduceBEq, Int.reduceAdd, Int.reduceSub, Int.reduceMul, Int.reduceNeg, Int.reduceLT, Int.reduceLE, Int.reduceBNe, Int.reduceBEq, Int.reduceMod, Int.reduceToNat, decide_true, decide_false, Int.reduceTMod, Int.natCast_zero, Int.cast_ofNat_Int, hl]
  repeat (with_reducible refine And.intro ?_ ?_; · first | trivial | omega | (simp; done))
  first | with_reducible refine hJ _ _ ?_ | (with_reducible refine hJ _ _ ?_ ?_; · kernel_rfl)
  clear hJ hKC KC J
  repeat first
    | with_reducible first | refine AWP_seq' ?_ | refine k_normal ?_ | refine k_ret ?_ | refine k_exit ?_ | refine b_normal ?_ | refine b_ret ?_ | refine b_exit ?_ | refine b_pass rfl ?_ | refine AWP_ret ?_ | refine AWP_skip ?_ | refine AWP_exit ?_ | refine AWP_block ?_
    | (with_reducible first | refine AWP_reg fun KC J hJ hKC => ?_ | refine AWP_regD rfl fun KC J hJ hKC => ?_
       simp (maxSteps := 10000000) only [push_cast, ↓reduceIte, Nat.reduceAdd, Nat.reduceMul, Nat.reduceSub, Nat.reduceBEq, Int.reduceAdd, Int.reduceSub, Int.reduceMul, Int.reduceNeg, Int.reduceLT, Int.reduceLE, Int.reduceBNe, Int.reduceBEq, Int.reduceMod, Int.reduceToNat, decide_true, decide_false, Int.reduceTMod, Int.natCast_zero, Int.cast_ofNat_Int]
       repeat (with_reducible refine And.intro ?_ ?_; · first | trivial | omega | (simp; done))
       first | with_reducible refine hJ _ _ ?_ | (with_reducible refine hJ _ _ ?_ ?_; · kernel_rfl)
       clear hJ hKC KC J)
    | ((with_reducible refine AWP_condT ?_ ?_); · rfl)
    | ((with_reducible refine AWP_condF ?_ ?_); · rfl)
  refine AWP_cond rfl (fun h => ?_) (fun h => ?_)
  · skip
    repeat first
      | with_reducible first | refine AWP_seq' ?_ | refine k_normal ?_ | refine k_ret ?_ | refine k_exit ?_ | refine b_normal ?_ | refine b_ret ?_ | refine b_exit ?_ | refine b_pass rfl ?_ | refine AWP_ret ?_ | refine AWP_skip ?_ | refine AWP_exit ?_ | refine AWP_block ?_
      | (with_reducible first | refine AWP_reg fun KC J hJ hKC => ?_ | refine AWP_regD rfl fun KC J hJ hKC => ?_
         simp (maxSteps := 10000000) only [push_cast, ↓reduceIte, Nat.reduceAdd, Nat.reduceMul, Nat.reduceSub, Nat.reduceBEq, Int.reduceAdd, Int.reduceSub, Int.reduceMul, Int.reduceNeg, Int.reduceLT, Int.reduceLE, Int.reduceBNe, Int.reduceBEq, Int.reduceMod, Int.reduceToNat, decide_true, decide_false, Int.reduceTMod, Int.natCast_zero, Int.cast_ofNat_Int]
         repeat (with_reducible refine And.intro ?_ ?_; · first | trivial | omega | (simp; done))
         first | with_reducible refine hJ _ _ ?_ | (with_reducible refine hJ _ _ ?_ ?_; · kernel_rfl)
         clear hJ hKC KC J)
      | ((with_reducible refine AWP_condT ?_ ?_); · rfl)
      | ((with_reducible refine AWP_condF ?_ ?_); · rfl)
    refine ret_plain ?_
    simp only [push_cast, show Try.f101.results = #[ResultVar.tmp 4] from rfl]
    simp only [bne_iff_ne, ne_eq] at h
    simp [cmpR, h]
  · skip
    repeat first
      | with_reducible first | refine AWP_seq' ?_ | refine k_normal ?_ | refine k_ret ?_ | refine k_exit ?_ | refine b_normal ?_ | refine b_ret ?_ | refine b_exit ?_ | refine b_pass rfl ?_ | refine AWP_ret ?_ | refine AWP_skip ?_ | refine AWP_exit ?_ | refine AWP_block ?_
      | (with_reducible first | refine AWP_reg fun KC J hJ hKC => ?_ | refine AWP_regD rfl fun KC J hJ hKC => ?_
         simp (maxSteps := 10000000) only [push_cast, ↓reduceIte, Nat.reduceAdd, Nat.reduceMul, Nat.reduceSub, Nat.reduceBEq, Int.reduceAdd, Int.reduceSub, Int.reduceMul, Int.reduceNeg, Int.reduceLT, Int.reduceLE, Int.reduceBNe, Int.reduceBEq, Int.reduceMod, Int.reduceToNat, decide_true, decide_false, Int.reduceTMod, Int.natCast_zero, Int.cast_ofNat_Int]
         repeat (with_reducible refine And.intro ?_ ?_; · first | trivial | omega | (simp; done))
         first | with_reducible refine hJ _ _ ?_ | (with_reducible refine hJ _ _ ?_ ?_; · kernel_rfl)
         clear hJ hKC KC J)
      | ((with_reducible refine AWP_condT ?_ ?_); · rfl)
      | ((with_reducible refine AWP_condF ?_ ?_); · rfl)
    with_reducible first | refine AWP_reg fun KC J hJ hKC => ?_ | refine AWP_regD rfl fun KC J hJ hKC => ?_
    simp (maxSteps := 10000000) only [push_cast, ↓reduceIte, Nat.reduceAdd, Nat.reduceMul, Nat.reduceSub, Nat.reduceBEq, Int.reduceAdd, Int.reduceSub, Int.reduceMul, Int.reduceNeg, Int.reduceLT, Int.reduceLE, Int.reduceBNe, Int.reduceBEq, Int.reduceMod, Int.reduceToNat, decide_true, decide_false, Int.reduceTMod, Int.natCast_zero, Int.cast_ofNat_Int]
    repeat (with_reducible refine And.intro ?_ ?_; · first | trivial | omega | (simp; done))
    refine hKC _ _ _ _ _ (callV0 (slicesCompare_fn f g xs ys hb) rfl rfl rfl rfl ?_)
    simp (maxSteps := 10000000) only [push_cast, ↓reduceIte, Nat.reduceAdd, Nat.reduceMul, Nat.reduceSub, Nat.reduceBEq, Int.reduceAdd, Int.reduceSub, Int.reduceMul, Int.reduceNeg, Int.reduceLT, Int.reduceLE, Int.reduceBNe, Int.reduceBEq, Int.reduceMod, Int.reduceToNat, decide_true, decide_false, Int.reduceTMod, Int.natCast_zero, Int.cast_ofNat_Int]
    repeat (with_reducible refine And.intro ?_ ?_; · first | trivial | omega | (simp; done))
    first | with_reducible refine hJ _ _ ?_ | (with_reducible refine hJ _ _ ?_ ?_; · kernel_rfl)
    clear hJ hKC KC J
    repeat first
      | with_reducible first | refine AWP_seq' ?_ | refine k_normal ?_ | refine k_ret ?_ | refine k_exit ?_ | refine b_normal ?_ | refine b_ret ?_ | refine b_exit ?_ | refine b_pass rfl ?_ | refine AWP_ret ?_ | refine AWP_skip ?_ | refine AWP_exit ?_ | refine AWP_block ?_
      | (with_reducible first | refine AWP_reg fun KC J hJ hKC => ?_ | refine AWP_regD rfl fun KC J hJ hKC => ?_
         simp (maxSteps := 10000000) only [push_cast, ↓reduceIte, Nat.reduceAdd, Nat.reduceMul, Nat.reduceSub, Nat.reduceBEq, Int.reduceAdd, Int.reduceSub, Int.reduceMul, Int.reduceNeg, Int.reduceLT, Int.reduceLE, Int.reduceBNe, Int.reduceBEq, Int.reduceMod, Int.reduceToNat, decide_true, decide_false, Int.reduceTMod, Int.natCast_zero, Int.cast_ofNat_Int]
         repeat (with_reducible refine And.intro ?_ ?_; · first | trivial | omega | (simp; done))
         first | with_reducible refine hJ _ _ ?_ | (with_reducible refine hJ _ _ ?_ ?_; · kernel_rfl)
         clear hJ hKC KC J)
      | ((with_reducible refine AWP_condT ?_ ?_); · rfl)
      | ((with_reducible refine AWP_condF ?_ ?_); · rfl)
    refine ret_plain ?_
    simp only [push_cast, show Try.f101.results = #[ResultVar.tmp 4] from rfl]
    have h4 : cmpI xs.length ys.length = 0 := by simpa using h
    simp [cmpR, h4]
theorem drawCmp_fn (f g : Bool) (xs ys : List Int) (hb : xs.length ≤ 9223372036854775807) : Fn Try.prog 25 [.sl f 1 (intRow xs), .sl g 1 (intRow ys)] [] (.v (.int .i64 (cmpR xs ys))) [] := by
  refine Fn.of (fn := Try.f25) (by kernel_rfl) rfl (by kernel_rfl) ⟨[.sl f 1 (intRow xs), .sl g 1 (intRow ys), .v undef, .v undef, .v undef, .v undef, .v undef, .v undef], []⟩ rfl ?_
  repeat first
    | with_reducible first | refine AWP_seq' ?_ | refine k_normal ?_ | refine k_ret ?_ | refine k_exit ?_ | refine b_normal ?_ | refine b_ret ?_ | refine b_exit ?_ | refine b_pass rfl ?_ | refine AWP_ret ?_ | refine AWP_skip ?_ | refine AWP_exit ?_ | refine AWP_block ?_
    | (with_reducible first | refine AWP_reg fun KC J hJ hKC => ?_ | refine AWP_regD rfl fun KC J hJ hKC => ?_
       simp (maxSteps := 10000000) only [push_cast, ↓reduceIte, Nat.reduceAdd, Nat.reduceMul, Nat.reduceSub, Nat.reduceBEq, Int.reduceAdd, Int.reduceSub, Int.reduceMul, Int.reduceNeg, Int.reduceLT, Int.reduceLE, Int.reduceBNe, Int.reduceBEq, Int.reduceMod, Int.reduceToNat, decide_true, decide_false, Int.reduceTMod, Int.natCast_zero, Int.cast_ofNat_Int]
       repeat (with_reducible refine And.intro ?_ ?_; · first | trivial | omega | (simp; done))
       first | with_reducible refine hJ _ _ ?_ | (with_reducible refine hJ _ _ ?_ ?_; · kernel_rfl)
       clear hJ hKC KC J)
    | ((with_reducible refine AWP_condT ?_ ?_); · rfl)
    | ((with_reducible refine AWP_condF ?_ ?_); · rfl)
  with_reducible first | refine AWP_reg fun KC J hJ hKC => ?_ | refine AWP_regD rfl fun KC J hJ hKC => ?_
  simp (maxSteps := 10000000) only [push_cast, ↓reduceIte, Nat.reduceAdd, Nat.reduceMul, Nat.reduceSub, Nat.reduceBEq, Int.reduceAdd, Int.reduceSub, Int.reduceMul, Int.reduceNeg, Int.reduceLT, Int.reduceLE, Int.reduceBNe, Int.reduceBEq, Int.reduceMod, Int.reduceToNat, decide_true, decide_false, Int.reduceTMod, Int.natCast_zero, Int.cast_ofNat_Int]
  repeat (with_reducible refine And.intro ?_ ?_; · first | trivial | omega | (simp; done))
  refine hKC _ _ _ _ _ (callV0 (rows_fn f g xs ys hb) rfl rfl rfl rfl ?_)
  simp (maxSteps := 10000000) only [push_cast, ↓reduceIte, Nat.reduceAdd, Nat.reduceMul, Nat.reduceSub, Nat.reduceBEq, Int.reduceAdd, Int.reduceSub, Int.reduceMul, Int.reduceNeg, Int.reduceLT, Int.reduceLE, Int.reduceBNe, Int.reduceBEq, Int.reduceMod, Int.reduceToNat, decide_true, decide_false, Int.reduceTMod, Int.natCast_zero, Int.cast_ofNat_Int]
  repeat (with_reducible refine And.intro ?_ ?_; · first | trivial | omega | (simp; done))
  first | with_reducible refine hJ _ _ ?_ | (with_reducible refine hJ _ _ ?_ ?_; · kernel_rfl)
  clear hJ hKC KC J
  repeat first
    | with_reducible first | refine AWP_seq' ?_ | refine k_normal ?_ | refine k_ret ?_ | refine k_exit ?_ | refine b_normal ?_ | refine b_ret ?_ | refine b_exit ?_ | refine b_pass rfl ?_ | refine AWP_ret ?_ | refine AWP_skip ?_ | refine AWP_exit ?_ | refine AWP_block ?_
    | (with_reducible first | refine AWP_reg fun KC J hJ hKC => ?_ | refine AWP_regD rfl fun KC J hJ hKC => ?_
       simp (maxSteps := 10000000) only [push_cast, ↓reduceIte, Nat.reduceAdd, Nat.reduceMul, Nat.reduceSub, Nat.reduceBEq, Int.reduceAdd, Int.reduceSub, Int.reduceMul, Int.reduceNeg, Int.reduceLT, Int.reduceLE, Int.reduceBNe, Int.reduceBEq, Int.reduceMod, Int.reduceToNat, decide_true, decide_false, Int.reduceTMod, Int.natCast_zero, Int.cast_ofNat_Int]
       repeat (with_reducible refine And.intro ?_ ?_; · first | trivial | omega | (simp; done))
       first | with_reducible refine hJ _ _ ?_ | (with_reducible refine hJ _ _ ?_ ?_; · kernel_rfl)
       clear hJ hKC KC J)
    | ((with_reducible refine AWP_condT ?_ ?_); · rfl)
    | ((with_reducible refine AWP_condF ?_ ?_); · rfl)
  refine ret_plain ?_
  simp only [push_cast, show Try.f25.results = #[ResultVar.tmp 4] from rfl]
theorem refCmp_fn (f g : Bool) (xs ys : List Int) (hb : xs.length ≤ 9223372036854775807) : Fn Try.prog 27 [.sl f 1 (intRow xs), .sl g 1 (intRow ys)] [] (.v (.int .i64 (cmpR xs ys))) [] := by
  unfold intRow
  refine Fn.of (fn := Try.f27) (by kernel_rfl) rfl (by kernel_rfl) ⟨[.sl f 1 (xs.map fun x => [.v (.int .i64 x)]), .sl g 1 (ys.map fun x => [.v (.int .i64 x)]), .v undef, .v undef, .v undef, .v undef, .v undef, .v undef, .v undef, .v undef, .v undef, .v undef, .v undef, .v undef, .v undef, .v undef, .v undef, .v undef, .v undef, .v undef, .v undef, .v undef, .v undef, .v undef, .v undef, .v undef, .v undef, .v undef, .v undef, .v undef, .v undef, .v undef, .v undef, .v undef, .v undef, .v undef, .v undef, .v undef, .v undef, .v undef], []⟩ rfl ?_
  repeat first
    | with_reducible first | refine AWP_seq' ?_ | refine k_normal ?_ | refine k_ret ?_ | refine k_exit ?_ | refine b_normal ?_ | refine b_ret ?_ | refine b_exit ?_ | refine b_pass rfl ?_ | refine AWP_ret ?_ | refine AWP_skip ?_ | refine AWP_exit ?_ | refine AWP_block ?_
    | (with_reducible first | refine AWP_reg fun KC J hJ hKC => ?_ | refine AWP_regD rfl fun KC J hJ hKC => ?_
       simp (maxSteps := 10000000) only [push_cast, ↓reduceIte, Nat.reduceAdd, Nat.reduceMul, Nat.reduceSub, Nat.reduceBEq, Int.reduceAdd, Int.reduceSub, Int.reduceMul, Int.reduceNeg, Int.reduceLT, Int.reduceLE, Int.reduceBNe, Int.reduceBEq, Int.reduceMod, Int.reduceToNat, decide_true, decide_false, Int.reduceTMod, Int.natCast_zero, Int.cast_ofNat_Int]
       repeat (with_reducible refine And.intro ?_ ?_; · first | trivial | omega | (simp; done))
       first | with_reducible refine hJ _ _ ?_ | (with_reducible refine hJ _ _ ?_ ?_; · kernel_rfl)
       clear hJ hKC KC J)
    | ((with_reducible refine AWP_condT ?_ ?_); · rfl)
    | ((with_reducible refine AWP_condF ?_ ?_); · rfl)
  refine AWP_cond rfl (fun h => ?_) (fun h => ?_)
  · simp only [decide_eq_true_eq] at h
    repeat first
      | with_reducible first | refine AWP_seq' ?_ | refine k_normal ?_ | refine k_ret ?_ | refine k_exit ?_ | refine b_normal ?_ | refine b_ret ?_ | refine b_exit ?_ | refine b_pass rfl ?_ | refine AWP_ret ?_ | refine AWP_skip ?_ | refine AWP_exit ?_ | refine AWP_block ?_
      | (with_reducible first | refine AWP_reg fun KC J hJ hKC => ?_ | refine AWP_regD rfl fun KC J hJ hKC => ?_
         simp (maxSteps := 10000000) only [push_cast, ↓reduceIte, Nat.reduceAdd, Nat.reduceMul, Nat.reduceSub, Nat.reduceBEq, Int.reduceAdd, Int.reduceSub, Int.reduceMul, Int.reduceNeg, Int.reduceLT, Int.reduceLE, Int.reduceBNe, Int.reduceBEq, Int.reduceMod, Int.reduceToNat, decide_true, decide_false, Int.reduceTMod, Int.natCast_zero, Int.cast_ofNat_Int]
         repeat (with_reducible refine And.intro ?_ ?_; · first | trivial | omega | (simp; done))
         first | with_reducible refine hJ _ _ ?_ | (with_reducible refine hJ _ _ ?_ ?_; · kernel_rfl)
         clear hJ hKC KC J)
      | ((with_reducible refine AWP_condT ?_ ?_); · rfl)
      | ((with_reducible refine AWP_condF ?_ ?_); · rfl)
    refine ret_plain ?_
    simp only [push_cast, show Try.f27.results = #[ResultVar.tmp 4] from rfl]
    simp [cmpR, cmpI, h]
  · simp only [decide_eq_false_iff_not] at h
    repeat first
      | with_reducible first | refine AWP_seq' ?_ | refine k_normal ?_ | refine k_ret ?_ | refine k_exit ?_ | refine b_normal ?_ | refine b_ret ?_ | refine b_exit ?_ | refine b_pass rfl ?_ | refine AWP_ret ?_ | refine AWP_skip ?_ | refine AWP_exit ?_ | refine AWP_block ?_
      | (with_reducible first | refine AWP_reg fun KC J hJ hKC => ?_ | refine AWP_regD rfl fun KC J hJ hKC => ?_
         simp (maxSteps := 10000000) only [push_cast, ↓reduceIte, Nat.reduceAdd, Nat.reduceMul, Nat.reduceSub, Nat.reduceBEq, Int.reduceAdd, Int.reduceSub, Int.reduceMul, Int.reduceNeg, Int.reduceLT, Int.reduceLE, Int.reduceBNe, Int.reduceBEq, Int.reduceMod, Int.reduceToNat, decide_true, decide_false, Int.reduceTMod, Int.natCast_zero, Int.cast_ofNat_Int]
         repeat (with_reducible refine And.intro ?_ ?_; · first | trivial | omega | (simp; done))
         first | with_reducible refine hJ _ _ ?_ | (with_reducible refine hJ _ _ ?_ ?_; · kernel_rfl)
         clear hJ hKC KC J)
      | ((with_reducible refine AWP_condT ?_ ?_); · rfl)
      | ((with_reducible refine AWP_condF ?_ ?_); · rfl)
    refine AWP_cond rfl (fun h0 => ?_) (fun h0 => ?_)
    · simp only [decide_eq_true_eq] at h0
      repeat first
        | with_reducible first | refine AWP_seq' ?_ | refine k_normal ?_ | refine k_ret ?_ | refine k_exit ?_ | refine b_normal ?_ | refine b_ret ?_ | refine b_exit ?_ | refine b_pass rfl ?_ | refine AWP_ret ?_ | refine AWP_skip ?_ | refine AWP_exit ?_ | refine AWP_block ?_
        | (with_reducible first | refine AWP_reg fun KC J hJ hKC => ?_ | refine AWP_regD rfl fun KC J hJ hKC => ?_
           simp (maxSteps := 10000000) only [push_cast, ↓reduceIte, Nat.reduceAdd, Nat.reduceMul, Nat.reduceSub, Nat.reduceBEq, Int.reduceAdd, Int.reduceSub, Int.reduceMul, Int.reduceNeg, Int.reduceLT, Int.reduceLE, Int.reduceBNe, Int.reduceBEq, Int.reduceMod, Int.reduceToNat, decide_true, decide_false, Int.reduceTMod, Int.natCast_zero, Int.cast_ofNat_Int]
           repeat (with_reducible refine And.intro ?_ ?_; · first | trivial | omega | (simp; done))
           first | with_reducible refine hJ _ _ ?_ | (with_reducible refine hJ _ _ ?_ ?_; · kernel_rfl)
           clear hJ hKC KC J)
        | ((with_reducible refine AWP_condT ?_ ?_); · rfl)
        | ((with_reducible refine AWP_condF ?_ ?_); · rfl)
      refine ret_plain ?_
      simp only [push_cast, show Try.f27.results = #[ResultVar.tmp 4] from rfl]
      have e1 : ¬ xs.length < ys.length := by omega
      have e2 : ys.length < xs.length := by omega
      simp [cmpR, cmpI, e1, e2]
    · simp only [decide_eq_false_iff_not] at h0
      have hl : xs.length = ys.length := by omega
      repeat first
        | with_reducible first | refine AWP_seq' ?_ | refine k_normal ?_ | refine k_ret ?_ | refine k_exit ?_ | refine b_normal ?_ | refine b_ret ?_ | refine b_exit ?_ | refine b_pass rfl ?_ | refine AWP_ret ?_ | refine AWP_skip ?_ | refine AWP_exit ?_ | refine AWP_block ?_
        | (with_reducible first | refine AWP_reg fun KC J hJ hKC => ?_ | refine AWP_regD rfl fun KC J hJ hKC => ?_
           simp (maxSteps := 10000000) only [push_cast, ↓reduceIte, Nat.reduceAdd, Nat.reduceMul, Nat.reduceSub, Nat.reduceBEq, Int.reduceAdd, Int.reduceSub, Int.reduceMul, Int.reduceNeg, Int.reduceLT, Int.reduceLE, Int.reduceBNe, Int.reduceBEq, Int.reduceMod, Int.reduceToNat, decide_true, decide_false, Int.reduceTMod, Int.natCast_zero, Int.cast_ofNat_Int]
           repeat (with_reducible refine And.intro ?_ ?_; · first | trivial | omega | (simp; done))
           first | with_reducible refine hJ _ _ ?_ | (with_reducible refine hJ _ _ ?_ ?_; · kernel_rfl)
           clear hJ hKC KC J)
        | ((with_reducible refine AWP_condT ?_ ?_); · rfl)
        | ((with_reducible refine AWP_condF ?_ ?_); · rfl)
      refine AWP_loopW (γ := {i : Nat // i ≤ xs.length ∧ cmpL xs ys = cmpL (xs.drop i) (ys.drop i)}) (fun i => ⟨[.sl f 1 (xs.map fun x => [.v (.int .i64 x)]), .sl g 1 (ys.map fun x => [.v (.int .i64 x)]), .any, .any, .any, .any, .any, .any, .any, .any, .any, .any, .any, .any, .any, .any, .any, .v (.int .i64 xs.length), .v (.int .i64 i.1), .any, .any, .any, .any, .any, .any, .any, .any, .any, .any, .any, .any, .any, .any, .any, .any, .any, .any, .any, .any, .any], []⟩) (fun i => xs.length - i.1) ⟨0, by simp⟩ (weak_plain ?_ rfl) ?_
      · simp only [ren, ren2, ren1, ren0, List.map_cons, List.map_nil, leF, leD_any, leD_self, leD_v, leD_agg, leD_fad, leD_fn, leD_tup, leD_ref, leD_ptr, and_true, true_and, and_self]
        simp
      · rintro ⟨i, hi, he⟩
        have hR : cmpR xs ys = cmpL xs ys := by simp [cmpR, cmpI, hl]
        repeat first
          | with_reducible first | refine AWP_seq' ?_ | refine k_normal ?_ | refine k_ret ?_ | refine k_exit ?_ | refine b_normal ?_ | refine b_ret ?_ | refine b_exit ?_ | refine b_pass rfl ?_ | refine AWP_ret ?_ | refine AWP_skip ?_ | refine AWP_exit ?_ | refine AWP_block ?_
          | (with_reducible first | refine AWP_reg fun KC J hJ hKC => ?_ | refine AWP_regD rfl fun KC J hJ hKC => ?_
             simp (maxSteps := 10000000) only [push_cast, ↓reduceIte, Nat.reduceAdd, Nat.reduceMul, Nat.reduceSub, Nat.reduceBEq, Int.reduceAdd, Int.reduceSub, Int.reduceMul, Int.reduceNeg, Int.reduceLT, Int.reduceLE, Int.reduceBNe, Int.reduceBEq, Int.reduceMod, Int.reduceToNat, decide_true, decide_false, Int.reduceTMod, Int.natCast_zero, Int.cast_ofNat_Int]
             repeat (with_reducible refine And.intro ?_ ?_; · first | trivial | omega | (simp; done))
             first | with_reducible refine hJ _ _ ?_ | (with_reducible refine hJ _ _ ?_ ?_; · kernel_rfl)
             clear hJ hKC KC J)
          | ((with_reducible refine AWP_condT ?_ ?_); · rfl)
          | ((with_reducible refine AWP_condF ?_ ?_); · rfl)
        refine AWP_cond rfl (fun h => ?_) (fun h => ?_)
        · simp only [decide_eq_true_eq] at h
          have hx : xs[i]? = some xs[i] := List.getElem?_eq_getElem (by omega)
          have hy : ys[i]? = some ys[i] := List.getElem?_eq_getElem (by omega)
          have hd : cmpL xs ys = if cmpI xs[i] ys[i] ≠ 0 then cmpI xs[i] ys[i] else cmpL (xs.drop (i + 1)) (ys.drop (i + 1)) := by
            rw [he, List.drop_eq_getElem_cons (by omega : i < xs.length), List.drop_eq_getElem_cons (by omega : i < ys.length)]
            rfl
          repeat first
            | with_reducible first | refine AWP_seq' ?_ | refine k_normal ?_ | refine k_ret ?_ | refine k_exit ?_ | refine b_normal ?_ | refine b_ret ?_ | refine b_exit ?_ | refine b_pass rfl ?_ | refine AWP_ret ?_ | refine AWP_skip ?_ | refine AWP_exit ?_ | refine AWP_block ?_
            | (with_reducible first | refine AWP_reg fun KC J hJ hKC => ?_ | refine AWP_regD rfl fun KC J hJ hKC => ?_
               simp (maxSteps := 10000000) only [push_cast, ↓reduceIte, Nat.reduceAdd, Nat.reduceMul, Nat.reduceSub, Nat.reduceBEq, Int.reduceAdd, Int.reduceSub, Int.reduceMul, Int.reduceNeg, Int.reduceLT, Int.reduceLE, Int.reduceBNe, Int.reduceBEq, Int.reduceMod, Int.reduceToNat, decide_true, decide_false, Int.reduceTMod, Int.natCast_zero, Int.cast_ofNat_Int, getE_map _ _ _ _ hx, getE_map _ _ _ _ hy]
               repeat (with_reducible refine And.intro ?_ ?_; · first | trivial | omega | (simp; done))
               first | with_reducible refine hJ _ _ ?_ | (with_reducible refine hJ _ _ ?_ ?_; · kernel_rfl)
               clear hJ hKC KC J)
            | ((with_reducible refine AWP_condT ?_ ?_); · rfl)
            | ((with_reducible refine AWP_condF ?_ ?_); · rfl)
          refine AWP_cond rfl (fun h3 => ?_) (fun h3 => ?_)
          · simp only [decide_eq_true_eq] at h3
            repeat first
              | with_reducible first | refine AWP_seq' ?_ | refine k_normal ?_ | refine k_ret ?_ | refine k_exit ?_ | refine b_normal ?_ | refine b_ret ?_ | refine b_exit ?_ | refine b_pass rfl ?_ | refine AWP_ret ?_ | refine AWP_skip ?_ | refine AWP_exit ?_ | refine AWP_block ?_
              | (with_reducible first | refine AWP_reg fun KC J hJ hKC => ?_ | refine AWP_regD rfl fun KC J hJ hKC => ?_
                 simp (maxSteps := 10000000) only [push_cast, ↓reduceIte, Nat.reduceAdd, Nat.reduceMul, Nat.reduceSub, Nat.reduceBEq, Int.reduceAdd, Int.reduceSub, Int.reduceMul, Int.reduceNeg, Int.reduceLT, Int.reduceLE, Int.reduceBNe, Int.reduceBEq, Int.reduceMod, Int.reduceToNat, decide_true, decide_false, Int.reduceTMod, Int.natCast_zero, Int.cast_ofNat_Int]
                 repeat (with_reducible refine And.intro ?_ ?_; · first | trivial | omega | (simp; done))
                 first | with_reducible refine hJ _ _ ?_ | (with_reducible refine hJ _ _ ?_ ?_; · kernel_rfl)
                 clear hJ hKC KC J)
              | ((with_reducible refine AWP_condT ?_ ?_); · rfl)
              | ((with_reducible refine AWP_condF ?_ ?_); · rfl)
            refine ret_plain ?_
            simp only [push_cast, show Try.f27.results = #[ResultVar.tmp 4] from rfl]
            rw [hR, hd]
            simp [cmpI, h3]
          · simp only [decide_eq_false_iff_not] at h3
            repeat first
              | with_reducible first | refine AWP_seq' ?_ | refine k_normal ?_ | refine k_ret ?_ | refine k_exit ?_ | refine b_normal ?_ | refine b_ret ?_ | refine b_exit ?_ | refine b_pass rfl ?_ | refine AWP_ret ?_ | refine AWP_skip ?_ | refine AWP_exit ?_ | refine AWP_block ?_
              | (with_reducible first | refine AWP_reg fun KC J hJ hKC => ?_ | refine AWP_regD rfl fun KC J hJ hKC => ?_
                 simp (maxSteps := 10000000) only [push_cast, ↓reduceIte, Nat.reduceAdd, Nat.reduceMul, Nat.reduceSub, Nat.reduceBEq, Int.reduceAdd, Int.reduceSub, Int.reduceMul, Int.reduceNeg, Int.reduceLT, Int.reduceLE, Int.reduceBNe, Int.reduceBEq, Int.reduceMod, Int.reduceToNat, decide_true, decide_false, Int.reduceTMod, Int.natCast_zero, Int.cast_ofNat_Int, getE_map _ _ _ _ hx, getE_map _ _ _ _ hy]
                 repeat (with_reducible refine And.intro ?_ ?_; · first | trivial | omega | (simp; done))
                 first | with_reducible refine hJ _ _ ?_ | (with_reducible refine hJ _ _ ?_ ?_; · kernel_rfl)
                 clear hJ hKC KC J)
              | ((with_reducible refine AWP_condT ?_ ?_); · rfl)
              | ((with_reducible refine AWP_condF ?_ ?_); · rfl)
            refine AWP_cond rfl (fun h4 => ?_) (fun h4 => ?_)
            · simp only [decide_eq_true_eq] at h4
              repeat first
                | with_reducible first | refine AWP_seq' ?_ | refine k_normal ?_ | refine k_ret ?_ | refine k_exit ?_ | refine b_normal ?_ | refine b_ret ?_ | refine b_exit ?_ | refine b_pass rfl ?_ | refine AWP_ret ?_ | refine AWP_skip ?_ | refine AWP_exit ?_ | refine AWP_block ?_
                | (with_reducible first | refine AWP_reg fun KC J hJ hKC => ?_ | refine AWP_regD rfl fun KC J hJ hKC => ?_
                   simp (maxSteps := 10000000) only [push_cast, ↓reduceIte, Nat.reduceAdd, Nat.reduceMul, Nat.reduceSub, Nat.reduceBEq, Int.reduceAdd, Int.reduceSub, Int.reduceMul, Int.reduceNeg, Int.reduceLT, Int.reduceLE, Int.reduceBNe, Int.reduceBEq, Int.reduceMod, Int.reduceToNat, decide_true, decide_false, Int.reduceTMod, Int.natCast_zero, Int.cast_ofNat_Int]
                   repeat (with_reducible refine And.intro ?_ ?_; · first | trivial | omega | (simp; done))
                   first | with_reducible refine hJ _ _ ?_ | (with_reducible refine hJ _ _ ?_ ?_; · kernel_rfl)
                   clear hJ hKC KC J)
                | ((with_reducible refine AWP_condT ?_ ?_); · rfl)
                | ((with_reducible refine AWP_condF ?_ ?_); · rfl)
              refine ret_plain ?_
              simp only [push_cast, show Try.f27.results = #[ResultVar.tmp 4] from rfl]
              rw [hR, hd]
              simp [cmpI, h3, h4]
            · simp only [decide_eq_false_iff_not] at h4
              repeat first
                | with_reducible first | refine AWP_seq' ?_ | refine k_normal ?_ | refine k_ret ?_ | refine k_exit ?_ | refine b_normal ?_ | refine b_ret ?_ | refine b_exit ?_ | refine b_pass rfl ?_ | refine AWP_ret ?_ | refine AWP_skip ?_ | refine AWP_exit ?_ | refine AWP_block ?_
                | (with_reducible first | refine AWP_reg fun KC J hJ hKC => ?_ | refine AWP_regD rfl fun KC J hJ hKC => ?_
                   simp (maxSteps := 10000000) only [push_cast, ↓reduceIte, Nat.reduceAdd, Nat.reduceMul, Nat.reduceSub, Nat.reduceBEq, Int.reduceAdd, Int.reduceSub, Int.reduceMul, Int.reduceNeg, Int.reduceLT, Int.reduceLE, Int.reduceBNe, Int.reduceBEq, Int.reduceMod, Int.reduceToNat, decide_true, decide_false, Int.reduceTMod, Int.natCast_zero, Int.cast_ofNat_Int]
                   repeat (with_reducible refine And.intro ?_ ?_; · first | trivial | omega | (simp; done))
                   first | with_reducible refine hJ _ _ ?_ | (with_reducible refine hJ _ _ ?_ ?_; · kernel_rfl)
                   clear hJ hKC KC J)
                | ((with_reducible refine AWP_condT ?_ ?_); · rfl)
                | ((with_reducible refine AWP_condF ?_ ?_); · rfl)
              refine ⟨⟨i + 1, by omega, ?_⟩, by simp only; omega, weak_plain ?_ rfl⟩
              · rw [hd]; simp [cmpI, h3, h4]
              · simp only [ren, ren2, ren1, ren0, List.map_cons, List.map_nil, leF, leD_any, leD_self, leD_v, leD_agg, leD_fad, leD_fn, leD_tup, leD_ref, leD_ptr, and_true, true_and, and_self]
                rw [wrapN (i := i) (n := xs.length) (by omega) hb]
        · simp only [decide_eq_false_iff_not] at h
          repeat first
            | with_reducible first | refine AWP_seq' ?_ | refine k_normal ?_ | refine k_ret ?_ | refine k_exit ?_ | refine b_normal ?_ | refine b_ret ?_ | refine b_exit ?_ | refine b_pass rfl ?_ | refine AWP_ret ?_ | refine AWP_skip ?_ | refine AWP_exit ?_ | refine AWP_block ?_
            | (with_reducible first | refine AWP_reg fun KC J hJ hKC => ?_ | refine AWP_regD rfl fun KC J hJ hKC => ?_
               simp (maxSteps := 10000000) only [push_cast, ↓reduceIte, Nat.reduceAdd, Nat.reduceMul, Nat.reduceSub, Nat.reduceBEq, Int.reduceAdd, Int.reduceSub, Int.reduceMul, Int.reduceNeg, Int.reduceLT, Int.reduceLE, Int.reduceBNe, Int.reduceBEq, Int.reduceMod, Int.reduceToNat, decide_true, decide_false, Int.reduceTMod, Int.natCast_zero, Int.cast_ofNat_Int]
               repeat (with_reducible refine And.intro ?_ ?_; · first | trivial | omega | (simp; done))
               first | with_reducible refine hJ _ _ ?_ | (with_reducible refine hJ _ _ ?_ ?_; · kernel_rfl)
               clear hJ hKC KC J)
            | ((with_reducible refine AWP_condT ?_ ?_); · rfl)
            | ((with_reducible refine AWP_condF ?_ ?_); · rfl)
          refine ret_plain ?_
          simp only [push_cast, show Try.f27.results = #[ResultVar.tmp 4] from rfl]
          have e1 : xs.drop i = [] := List.drop_eq_nil_of_le (by omega)
          have e2 : ys.drop i = [] := List.drop_eq_nil_of_le (by omega)
          rw [hR, he, e1, e2]
          simp [cmpL]
end Go.Proofs.Ytabliglgeiajlaa.AM
