/- Alive; states of one part. -/
import Derived.Test.YtabliglgeiajlaaN3
set_option linter.unusedSimpArgs false
set_option linter.unusedVariables false
namespace Go.Proofs.Ytabliglgeiajlaa.AM
open Go Go.RowKit Go.Proofs
set_option maxRecDepth 100000
set_option maxHeartbeats 1000000

def ns2 : List ByteArray := [{ data := #[97] }, { data := #[98] }]
theorem alive12_fn : Fn Try.prog 62 [] [] (.v (.bool true)) [] := by
  have hs : Szs ns2 := by
    intro s hs
    simp only [ns2, List.mem_cons, List.not_mem_nil, or_false] at hs
    rcases hs with rfl | rfl <;> (show 1 ≤ _; omega)
  have hu : U32 [3, 2] := by
    intro u hu
    simp at hu
    rcases hu with rfl | rfl <;> decide
  have h1 := apiA_fn true true true true ns2 [3, 2] 0 [(1, 1)] [(2, 1)] hs hu (by simp) (by simp)
  have h2 := apiA_fn true true true true ns2 [3, 2] 1 [(1, 1)] [(2, 1)] hs hu (by simp) (by simp)
  rw [show may2A ns2 [3, 2] 0 [(1, 1)] [(2, 1)] = 0 by decide +kernel, show rowsBA (alA [3, 2] (0 : Int).toNat) [(1, 1)] [(2, 1)] = true by decide +kernel] at h1
  rw [show may2A ns2 [3, 2] 1 [(1, 1)] [(2, 1)] = 0 by decide +kernel, show rowsBA (alA [3, 2] (1 : Int).toNat) [(1, 1)] [(2, 1)] = false by decide +kernel] at h2
  refine Fn.of (fn := Try.f62) (by kernel_rfl) rfl (by kernel_rfl) ⟨[.v undef, .v undef, .v undef, .v undef, .v undef, .v undef, .v undef, .v undef, .v undef, .v undef, .v undef, .v undef, .v undef, .v undef, .v undef, .v undef, .v undef, .v undef, .v undef, .v undef, .v undef, .v undef, .v undef, .v undef, .v undef, .v undef, .v undef, .v undef, .v undef, .v undef, .v undef, .v undef, .v undef, .v undef, .v undef, .v undef, .v undef, .v undef, .v undef, .v undef], []⟩ rfl ?_
  repeat' first | (with_reducible first | refine AWP_seq' ?_ | refine k_normal ?_ | refine AWP_ret ?_) | ((with_reducible refine AWP_reg fun KC J hJ hKC => ?_); simp (maxSteps := 10000000) only [push_cast, seval, ↓reduceIte]) | (refine hKC _ _ _ _ _ (callV0 (h1) rfl rfl rfl ?_ ?_); (· exact Lq); simp (maxSteps := 10000000) only [push_cast, seval, ↓reduceIte]) | (refine hKC _ _ _ _ _ (callV0 (h2) rfl rfl rfl ?_ ?_); (· exact Lq); simp (maxSteps := 10000000) only [push_cast, seval, ↓reduceIte]) | ((with_reducible refine hJ _ _ ?_); clear hJ hKC KC J)
  refine ret_plain ?_
  simp (maxSteps := 10000000) only [push_cast, seval, ↓reduceIte, show Try.f62.results = #[(.tmp 0)] from rfl]
  exact leD_refl _
def onlyC (x : List (Int × Int × Int)) : Sta := ⟨0, 0, x, [], [], []⟩
def onlyM (x : List (Int × Int)) : Sta := ⟨0, 0, [], x, [], []⟩
def onlyS (x : List (Bool × Int × Int)) : Sta := ⟨0, 0, [], [], x, []⟩
def onlyO (x : List (Int × Int)) : Sta := ⟨0, 0, [], [], [], x⟩
theorem okL_any (n : Nat) (l : List Int) : okL n l = !l.any (oddL n) := by
  rw [okL, List.all_eq_not_any_not]; simp
theorem odd0 {ns : List ByteArray} {us : List Nat} (hc : checkF ns us = 0) : oddL us.length 0 = false := by
  have := (mayB_get (show mayB ns us = true by
    unfold checkF at hc
    split at hc
    · assumption
    · cases hc)).1.1
  have e2 : decide ((us.length : Int) ≤ 0) = false := decide_eq_false (by omega)
  rw [oddL, e2]; rfl
theorem may2A_onlyM (ns : List ByteArray) (us : List Nat) (o : Int) (xs ys : List (Int × Int)) : may12F ns us o (onlyM xs) (onlyM ys) = may2A ns us o xs ys := by
  unfold may12F may2A mayF
  by_cases hc : checkF ns us = 0
  · rw [if_pos hc, if_pos hc]
    simp only [labF, onlyM, labs2A, okL_any, List.map_nil, List.any_nil, odd0 hc, List.any_append, List.any_cons, Bool.not_false, Bool.true_and, Bool.and_true, Bool.or_false]
    cases (xs.map _).any (oddL us.length) <;> cases (ys.map _).any (oddL us.length) <;> cases oddL us.length o <;> rfl
  · rw [if_neg hc, if_neg hc]
theorem may2I_onlyC (ns : List ByteArray) (us : List Nat) (o : Int) (xs ys : List (Int × Int × Int)) : may12F ns us o (onlyC xs) (onlyC ys) = may2I ns us o xs ys := by
  unfold may12F may2I mayF
  by_cases hc : checkF ns us = 0
  · rw [if_pos hc, if_pos hc]
    simp only [labF, onlyC, labs2I, okL_any, List.map_nil, List.any_nil, odd0 hc, List.any_append, List.any_cons, Bool.not_false, Bool.true_and, Bool.and_true, Bool.or_false]
    cases (xs.map _).any (oddL us.length) <;> cases (ys.map _).any (oddL us.length) <;> cases oddL us.length o <;> rfl
  · rw [if_neg hc, if_neg hc]
theorem may2S_onlyS (ns : List ByteArray) (us : List Nat) (o : Int) (xs ys : List (Bool × Int × Int)) : may12F ns us o (onlyS xs) (onlyS ys) = may2S ns us o xs ys := by
  unfold may12F may2S mayF
  by_cases hc : checkF ns us = 0
  · rw [if_pos hc, if_pos hc]
    simp only [labF, onlyS, labs2S, okL_any, List.map_nil, List.any_nil, odd0 hc, List.any_append, List.any_cons, Bool.not_false, Bool.true_and, Bool.and_true, Bool.or_false]
    cases (xs.map _).any (oddL us.length) <;> cases (ys.map _).any (oddL us.length) <;> cases oddL us.length o <;> rfl
  · rw [if_neg hc, if_neg hc]
theorem may2A_onlyO (ns : List ByteArray) (us : List Nat) (o : Int) (xs ys : List (Int × Int)) : may12F ns us o (onlyO xs) (onlyO ys) = may2A ns us o xs ys := by
  unfold may12F may2A mayF
  by_cases hc : checkF ns us = 0
  · rw [if_pos hc, if_pos hc]
    simp only [labF, onlyO, labs2A, okL_any, List.map_nil, List.any_nil, odd0 hc, List.any_append, List.any_cons, Bool.not_false, Bool.true_and, Bool.and_true, Bool.or_false]
    cases (xs.map _).any (oddL us.length) <;> cases (ys.map _).any (oddL us.length) <;> cases oddL us.length o <;> rfl
  · rw [if_neg hc, if_neg hc]
end Go.Proofs.Ytabliglgeiajlaa.AM
