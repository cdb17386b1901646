/- Rows of numbers compared; draws. -/
import Derived.Test.YtabliglgeiajlaaGreatMc
set_option linter.unusedSimpArgs false
set_option linter.unusedVariables false
namespace Go.Proofs.YtabliglgeiajlaaGreat.AM
open Go Go.RowKit Go.Proofs
set_option maxRecDepth 100000
set_option maxHeartbeats 400000

/-! ### Rows of numbers -/
def intRow (xs : List Int) : List (List D) := xs.map fun x => [.v (.int .i64 x)]
@[push_cast] theorem intRow_length (l : List Int) : (intRow l).length = l.length := by simp [intRow]
@[push_cast] theorem sub_intRow (l : List Int) (a b : Nat) : sub (intRow l) a b = intRow ((l.take b).drop a) := by simp [intRow, sub_map]
theorem getE_intRow {l : List Int} {n : Nat} {x : Int} (h : l[n]? = some x) : getE (intRow l) n = [.v (.int .i64 x)] := by unfold intRow; exact getE_map _ _ _ _ h
theorem intRow_append (a b : List Int) : intRow (a ++ b) = intRow a ++ intRow b := by simp [intRow]
theorem intRow_flatten (l : List Int) : (intRow l).flatten = l.map fun x => .v (.int .i64 x) := by
  induction l with
  | nil => rfl
  | cons a l ih => simp only [intRow, List.map_cons, List.flatten_cons] at ih ⊢; rw [ih]; rfl
@[push_cast] theorem intRow_flatten_length (l : List Int) : (intRow l).flatten.length = l.length := by rw [intRow_flatten]; simp
@[push_cast] theorem chunk_snoc (l : List Int) (x : Int) : chunk 1 (l.length + 1) ((intRow l).flatten ++ [.v (.int .i64 x)]) = intRow (l ++ [x]) := by
  rw [intRow_flatten, show ([.v (.int .i64 x)] : List D) = [x].map (fun x => .v (.int .i64 x)) from rfl, ← List.map_append, show l.length + 1 = (l ++ [x]).length by simp]
  exact chunk_one _ _
@[push_cast] theorem frzAll_append (a b : List D) : frzAll (a ++ b) = (frzAll a && frzAll b) := by
  induction a with
  | nil => simp [frzAll]
  | cons x a ih => simp only [List.cons_append, frzAll, ih, Bool.and_assoc]
@[push_cast] theorem frzAll_ints (l : List Int) : frzAll (l.map fun x => .v (.int .i64 x)) = true := by
  induction l with
  | nil => rfl
  | cons x l ih => simp only [List.map_cons, frzAll, ih]; rfl
@[push_cast] theorem frzAll_intRow (l : List Int) : frzAll (intRow l).flatten = true := by rw [intRow_flatten]; exact frzAll_ints l
@[push_cast] theorem isNil_intRow (x : Int) (l : List Int) : isNilL (intRow (x :: l)) = false := rfl
@[push_cast] theorem isNil_intRow0 : isNilL (intRow []) = true := rfl
theorem ble_self (n : Nat) : Nat.ble n n = true := Nat.ble_self_eq_true n
theorem take_intRow (l : List Int) (n : Nat) (h : l.length = n) : List.take n (intRow l).flatten = (intRow l).flatten := List.take_of_length_le (by rw [intRow_flatten_length]; omega)
attribute [push_cast] Nat.zero_add ble_self Nat.mul_one List.length_append
theorem chunk_intRow (l : List Int) : chunk 1 l.length (l.map fun x => .v (.int .i64 x)) = intRow l := chunk_one _ l

def cmpI (x y : Int) : Int := if x < y then -1 else if y < x then 1 else 0
theorem isNaN_fn (x : Int) : Fn Tryz.prog 169 [.v (.int .i64 x)] [] (.v (.bool false)) [] := by
  refine Fn.of (fn := Tryz.f169) (by kernel_rfl) rfl (by kernel_rfl) ⟨[.v (.int .i64 x), .v undef, .v undef, .v undef, .v undef, .v undef], []⟩ rfl ?_
  repeat' first | (with_reducible first | refine AWP_seq' ?_ | refine k_normal ?_ | refine AWP_ret ?_) | ((with_reducible refine AWP_reg fun KC J hJ hKC => ?_); simp (maxSteps := 10000000) only [push_cast, seval, ↓reduceIte]) | ((with_reducible refine hJ _ _ ?_); clear hJ hKC KC J)
  refine ret_plain ?_
  simp (maxSteps := 10000000) only [push_cast, seval, ↓reduceIte, show Tryz.f169.results = #[(.tmp 2)] from rfl]
  exact leD_v (by simp)
theorem compare_fn (x y : Int) : Fn Tryz.prog 75 [.v (.int .i64 x), .v (.int .i64 y)] [] (.v (.int .i64 (cmpI x y))) [] := by
  refine Fn.of (fn := Tryz.f75) (by kernel_rfl) rfl (by kernel_rfl) ⟨[.v (.int .i64 x), .v (.int .i64 y), .v undef, .v undef, .v undef, .v undef, .v undef, .v undef, .v undef, .v undef, .v undef, .v undef, .v undef, .v undef, .v undef, .v undef, .v undef, .v undef, .v undef, .v undef], []⟩ rfl ?_
  repeat' first | (with_reducible first | refine AWP_seq' ?_ | refine k_normal ?_ | refine k_ret ?_ | refine AWP_ret ?_ | refine AWP_skip ?_) | ((with_reducible refine AWP_reg fun KC J hJ hKC => ?_); simp (maxSteps := 10000000) only [push_cast, seval, ↓reduceIte]) | (refine' hKC _ _ _ _ _ (callV0 (isNaN_fn _) rfl rfl rfl ?_ ?_); (rotate_left 1); (· exact Lq); simp (maxSteps := 10000000) only [push_cast, seval, ↓reduceIte]) | ((with_reducible refine hJ _ _ ?_); clear hJ hKC KC J) | ((with_reducible refine AWP_condF ?_ ?_); · rfl) | (refine AWP_cond rfl (fun h => ?_) (fun h => ?_) <;> try simp only [decide_eq_true_eq, decide_eq_false_iff_not, Bool.not_eq_true', Bool.not_eq_false', beq_iff_eq, bne_iff_ne, ne_eq, Bool.not_eq_true, Bool.or_eq_true, Bool.and_eq_true, Bool.or_eq_false_iff, Bool.and_eq_false_imp, beq_eq_false_iff_ne, bne_eq_false_iff_eq] at h)
  all_goals
    refine ret_plain ?_
    simp (maxSteps := 10000000) only [push_cast, seval, ↓reduceIte, show Tryz.f75.results = #[(.tmp 4)] from rfl]
    exact leD_v (by simp [cmpI, *])

/-! ### Draws -/
def rightB (l lg : List Int) (a : Int) : Bool := decide (l.length ≤ 500) && decide (lg.length ≤ 2000) && decide (0 ≤ a)
theorem drRight_fn (f g : Bool) (l lg : List Int) (a : Int) : Fn Tryz.prog 52 [.agg [.sl f 1 (intRow l), .v (.int .i64 a), .sl g 1 (intRow lg)]] [] (.v (.bool (rightB l lg a))) [] := by
  refine Fn.of (fn := Tryz.f52) (by kernel_rfl) rfl (by kernel_rfl) ⟨[.agg [.sl f 1 (intRow l), .v (.int .i64 a), .sl g 1 (intRow lg)], .v undef, .v undef, .v undef, .v undef, .v undef, .v undef, .v undef, .v undef, .v undef, .v undef, .v undef, .v undef, .v undef, .v undef, .v undef, .v undef, .v undef], []⟩ rfl ?_
  repeat' first | (with_reducible first | refine AWP_seq' ?_ | refine k_normal ?_ | refine AWP_ret ?_) | ((with_reducible refine AWP_reg fun KC J hJ hKC => ?_); simp (maxSteps := 10000000) only [push_cast, seval, ↓reduceIte]) | ((with_reducible refine hJ _ _ ?_); clear hJ hKC KC J) | ((with_reducible refine ite_intro (fun hs => ?_) (fun hs => ?_)) <;> (try simp only [Bool.not_eq_true, Bool.not_eq_false, Bool.not_eq_true', Bool.not_eq_false', Decidable.not_not, decide_eq_true_eq, decide_eq_false_iff_not] at hs) <;> (try simp (maxSteps := 10000000) only [push_cast, seval, ↓reduceIte, hs]))
  all_goals
    refine ret_plain ?_
    simp (maxSteps := 10000000) only [push_cast, seval, ↓reduceIte, show Tryz.f52.results = #[(.tmp 2)] from rfl]
    refine leD_v (congrArg Value.bool (Bool.eq_iff_iff.2 ?_))
    simp [rightB]
    omega
theorem rRight_fn (f g : Bool) (l lg : List Int) (a : Int) : Fn Tryz.prog 17 [.agg [.sl f 1 (intRow l), .v (.int .i64 a), .sl g 1 (intRow lg)]] [] (.v (.bool (rightB l lg a))) [] := by
  refine Fn.of (fn := Tryz.f17) (by kernel_rfl) rfl (by kernel_rfl) ⟨[.agg [.sl f 1 (intRow l), .v (.int .i64 a), .sl g 1 (intRow lg)], .v undef, .v undef, .v undef, .v undef, .v undef, .v undef, .v undef, .v undef, .v undef, .v undef, .v undef, .v undef, .v undef, .v undef, .v undef, .v undef, .v undef], []⟩ rfl ?_
  repeat' first | (with_reducible first | refine AWP_seq' ?_ | refine k_normal ?_ | refine AWP_ret ?_) | ((with_reducible refine AWP_reg fun KC J hJ hKC => ?_); simp (maxSteps := 10000000) only [push_cast, seval, ↓reduceIte]) | ((with_reducible refine hJ _ _ ?_); clear hJ hKC KC J) | ((with_reducible refine ite_intro (fun hs => ?_) (fun hs => ?_)) <;> (try simp only [Bool.not_eq_true, Bool.not_eq_false, Bool.not_eq_true', Bool.not_eq_false', Decidable.not_not, decide_eq_true_eq, decide_eq_false_iff_not] at hs) <;> (try simp (maxSteps := 10000000) only [push_cast, seval, ↓reduceIte, hs]))
  all_goals
    refine ret_plain ?_
    simp (maxSteps := 10000000) only [push_cast, seval, ↓reduceIte, show Tryz.f17.results = #[(.tmp 2)] from rfl]
    refine leD_v (congrArg Value.bool (Bool.eq_iff_iff.2 ?_))
    simp [rightB]
    omega
theorem drNew_fn (f : Bool) (l : List Int) : Fn Tryz.prog 46 [.sl f 1 (intRow l)] [] (.agg [.sl f 1 (intRow l), .v (.int .i64 0), .sl false 1 (intRow [])]) [] := by
  refine Fn.of (fn := Tryz.f46) (by kernel_rfl) rfl (by kernel_rfl) ⟨[.sl f 1 (intRow l), .v undef, .v undef, .v undef, .v undef], []⟩ rfl ?_
  repeat' first | (with_reducible first | refine AWP_seq' ?_ | refine k_normal ?_ | refine AWP_ret ?_) | ((with_reducible refine AWP_reg fun KC J hJ hKC => ?_); simp (maxSteps := 10000000) only [push_cast, seval, ↓reduceIte]) | ((with_reducible refine hJ _ _ ?_); clear hJ hKC KC J)
  refine ret_plain ?_
  simp (maxSteps := 10000000) only [push_cast, seval, ↓reduceIte, show Tryz.f46.results = #[(.cell 2 30)] from rfl]
  exact Lq
  
/-- The next choice, below a bound. -/
def choiceI (l : List Int) (a b : Int) : Int := if a < l.length then l.getD a.toNat 0 % b else 0
theorem tmod_fix {x b : Int} (hb : 1 ≤ b) (hB : b ≤ 9223372036854775807) : (if Int.tmod x b < 0 then IntKind.i64.wrap (Int.tmod x b + b) else Int.tmod x b) = x % b := by
  have h1 := Int.tmod_eq_emod_of_nonneg (a := x) (b := b)
  rcases Int.lt_or_le x 0 with hx | hx
  · have h2 : Int.tmod x b = - ((-x) % b) := by
      have := Int.neg_tmod (-x) b
      rw [Int.neg_neg] at this
      rw [this, Int.tmod_eq_emod_of_nonneg (by omega)]
    have h3 := Int.emod_nonneg (-x) (b := b) (by omega)
    have h4 := Int.emod_lt_of_pos (-x) (b := b) (by omega)
    have h5 := Int.emod_add_mul_ediv x b
    have h6 := Int.emod_add_mul_ediv (-x) b
    have h7 := Int.emod_nonneg x (b := b) (by omega)
    have h8 := Int.emod_lt_of_pos x (b := b) (by omega)
    rw [h2]
    by_cases h0 : (-x) % b = 0
    · have : x % b = 0 := by
        have hd : b ∣ -x := Int.dvd_of_emod_eq_zero h0
        exact Int.emod_eq_zero_of_dvd (Int.dvd_neg.1 hd)
      simp [h0, this]
    · rw [if_pos (by omega), wrapI (by omega) (by omega)]
      have : x % b = b - (-x) % b := by
        have h9 := @Int.neg_emod (-x) b
        rw [Int.neg_neg, if_neg (fun hd => h0 (Int.emod_eq_zero_of_dvd hd))] at h9
        omega
      omega
  · rw [Int.tmod_eq_emod_of_nonneg hx, if_neg (by have := Int.emod_nonneg x (b := b) (by omega); omega)]
theorem choice_fn (f g : Bool) (l lg : List Int) (a b : Int) (h0 : 0 ≤ a) (hb : 1 ≤ b) (hB : b ≤ 9223372036854775807) : Fn Tryz.prog 275 [.agg [.sl f 1 (intRow l), .v (.int .i64 a), .sl g 1 (intRow lg)], .v (.int .i64 b)] [] (.v (.int .i64 (choiceI l a b))) [] := by
  refine Fn.of (fn := Tryz.f275) (by kernel_rfl) rfl (by kernel_rfl) ⟨[.agg [.sl f 1 (intRow l), .v (.int .i64 a), .sl g 1 (intRow lg)], .v (.int .i64 b), .v undef, .v undef, .v undef, .v undef, .v undef, .v undef, .v undef, .v undef, .v undef, .v undef, .v undef, .v undef, .v undef, .v undef, .v undef, .v undef, .v undef, .v undef, .v undef, .v undef, .v undef, .v undef, .v undef, .v undef], []⟩ rfl ?_
  by_cases hlt : a < l.length
  · have hx : l[a.toNat]? = some (l.getD a.toNat 0) := by rw [List.getD_eq_getElem?_getD, List.getElem?_eq_getElem (by omega)]; rfl
    have hfix := tmod_fix (x := l.getD a.toNat 0) hb hB
    repeat' first | (with_reducible first | refine AWP_seq' ?_ | refine k_normal ?_ | refine k_ret ?_ | refine AWP_ret ?_ | refine AWP_skip ?_) | ((with_reducible refine AWP_reg fun KC J hJ hKC => ?_); simp (maxSteps := 10000000) only [push_cast, seval, ↓reduceIte, getE_intRow hx]) | ((with_reducible refine And.intro ?_ ?_); · exact Sq) | ((with_reducible refine hJ _ _ ?_); clear hJ hKC KC J) | (refine AWP_cond rfl (fun h => ?_) (fun h => ?_) <;> try simp only [decide_eq_true_eq, decide_eq_false_iff_not, Bool.not_eq_true', Bool.not_eq_false', beq_iff_eq, bne_iff_ne, ne_eq, Bool.not_eq_true, Bool.or_eq_true, Bool.and_eq_true, Bool.or_eq_false_iff, Bool.and_eq_false_imp, beq_eq_false_iff_ne, bne_eq_false_iff_eq] at h)
    · omega
    · rw [if_pos h] at hfix
      refine ret_plain ?_
      simp (maxSteps := 10000000) only [push_cast, seval, ↓reduceIte, show Tryz.f275.results = #[(.tmp 4)] from rfl]
      exact leD_v (by rw [hfix]; simp [choiceI, hlt])
    · rw [if_neg (by omega)] at hfix
      refine ret_plain ?_
      simp (maxSteps := 10000000) only [push_cast, seval, ↓reduceIte, show Tryz.f275.results = #[(.tmp 4)] from rfl]
      exact leD_v (by rw [hfix]; simp [choiceI, hlt])
  · skip
    repeat' first | (with_reducible first | refine AWP_seq' ?_ | refine k_normal ?_ | refine k_ret ?_ | refine AWP_ret ?_ | refine AWP_skip ?_) | ((with_reducible refine AWP_reg fun KC J hJ hKC => ?_); simp (maxSteps := 10000000) only [push_cast, seval, ↓reduceIte]) | ((with_reducible refine And.intro ?_ ?_); · exact Sq) | ((with_reducible refine hJ _ _ ?_); clear hJ hKC KC J) | (refine AWP_cond rfl (fun h => ?_) (fun h => ?_) <;> try simp only [decide_eq_true_eq, decide_eq_false_iff_not, Bool.not_eq_true', Bool.not_eq_false', beq_iff_eq, bne_iff_ne, ne_eq, Bool.not_eq_true, Bool.or_eq_true, Bool.and_eq_true, Bool.or_eq_false_iff, Bool.and_eq_false_imp, beq_eq_false_iff_ne, bne_eq_false_iff_eq] at h)
    · refine ret_plain ?_
      simp (maxSteps := 10000000) only [push_cast, seval, ↓reduceIte, show Tryz.f275.results = #[(.tmp 4)] from rfl]
      exact leD_v (by simp [choiceI, hlt])
    · omega
end Go.Proofs.YtabliglgeiajlaaGreat.AM
