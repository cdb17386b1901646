/- Orders made. -/
import Derived.Test.YtabliglgeiajlaaV6
set_option linter.unusedSimpArgs false
set_option linter.unusedVariables false
namespace Go.Proofs.Ytabliglgeiajlaa.AM
open Go Go.RowKit Go.Proofs
set_option maxRecDepth 100000
set_option maxHeartbeats 1000000

def sChain : ByteArray := { data := #[99, 104, 97, 105, 110] }
def sPower : ByteArray := { data := #[112, 111, 119, 101, 114] }
def sDiamond : ByteArray := { data := #[100, 105, 97, 109, 111, 110, 100] }
def kindsE : Ent := ⟨0, none, 141, [.agg [.v (.int .i64 1), .v (.int .i64 8), .fn 192 [], .fn 193 []], .agg [.v (.int .i64 0), .v (.int .i64 3), .fn 194 [], .fn 195 []], .agg [.v (.int .i64 1), .v (.int .i64 6), .fn 196 [], .fn 197 []]], .map [.string sChain, .string sPower, .string sDiamond]⟩
theorem s_pc : (sPower == sChain) = false := by decide
theorem s_dc : (sDiamond == sChain) = false := by decide
theorem s_dp : (sDiamond == sPower) = false := by decide
theorem s_cc : (sChain == sChain) = true := by decide
theorem s_pp : (sPower == sPower) = true := by decide
theorem s_dd : (sDiamond == sDiamond) = true := by decide
theorem f_chain : ({ data := #[99, 104, 97, 105, 110] } : ByteArray) = sChain := rfl
theorem f_power : ({ data := #[112, 111, 119, 101, 114] } : ByteArray) = sPower := rfl
theorem f_diamond : ({ data := #[100, 105, 97, 109, 111, 110, 100] } : ByteArray) = sDiamond := rfl
attribute [push_cast] s_pc s_dc s_dp s_cc s_pp s_dd f_chain f_power f_diamond
theorem kinds_fn : Fn Try.prog 95 [] [] (.kref true 0 0) [.ent kindsE] := by
  refine Fn.of (fn := Try.f95) (by kernel_rfl) rfl (by kernel_rfl) ⟨[.v undef, .v undef, .v undef, .v undef, .v undef, .v undef], []⟩ rfl ?_
  repeat' first
    | with_reducible first | refine AWP_seq' ?_ | refine k_normal ?_ | refine k_ret ?_ | refine k_exit ?_ | refine b_normal ?_ | refine b_ret ?_ | refine b_exit ?_ | refine b_pass rfl ?_ | refine AWP_skip ?_ | refine AWP_exit ?_ | refine AWP_block ?_
    | ((with_reducible first | refine AWP_reg fun KC J hJ hKC => ?_ | refine AWP_regD rfl fun KC J hJ hKC => ?_); simp (maxSteps := 10000000) only [push_cast, seval, ↓reduceIte])
    | ((with_reducible refine And.intro ?_ ?_); · first | trivial | omega | assumption | (simp; done) | (simp; omega))
    | ((first | with_reducible refine hJ _ _ ?_ | (with_reducible refine hJ _ _ ?_ ?_; · kernel_rfl)); clear hJ hKC KC J)
    | ((with_reducible refine AWP_condT ?_ ?_); · rfl)
    | ((with_reducible refine AWP_condF ?_ ?_); · rfl)
    | ((with_reducible refine ite_intro (fun hs => ?_) (fun hs => ?_)) <;> (try simp only [Bool.not_eq_true, Bool.not_eq_false, Bool.not_eq_true', Bool.not_eq_false', Decidable.not_not, decide_eq_true_eq, decide_eq_false_iff_not] at hs) <;> (try simp (maxSteps := 10000000) only [push_cast, seval, ↓reduceIte, hs]))
    | (refine AWP_cond rfl (fun h => ?_) (fun h => ?_) <;> try simp only [decide_eq_true_eq, decide_eq_false_iff_not, Bool.not_eq_true', Bool.not_eq_false', beq_iff_eq, bne_iff_ne, ne_eq, Bool.not_eq_true, Bool.or_eq_true, Bool.and_eq_true, Bool.or_eq_false_iff, Bool.and_eq_false_imp, beq_eq_false_iff_ne, bne_eq_false_iff_eq] at h)
  refine AWP_ret ?_
  refine ret_new [0] ?_ (by simp) ?_
  · simp (maxSteps := 10000000) only [push_cast, seval, ↓reduceIte, show Try.f95.results = #[.tmp 0] from rfl, pick, mOf, idx]
    exact ⟨rfl, leD_refl _⟩
  · intro k hk
    exact absurd hk (by simp)
def powB (i j : Nat) : Bool := decide (i &&& j = i)
theorem pow_an : ∀ i : Nat, i < 8 → ∀ j : Nat, j < 8 → (ibits .andNot .i64 (i : Int) (j : Int) == 0) = powB i j := by decide
/-- What a kind asks for: the least and the greatest number, the labels, what flows. -/
structure Kind where
  lo : Nat
  hi : Nat
  fs : Nat
  ff : Nat
  m : Nat → Nat
  p : Nat → Nat → Nat → Bool
def kChain : Kind := ⟨1, 8, 192, 193, fun n => n, fun _ i j => decide (i ≤ j)⟩
def kPower : Kind := ⟨0, 3, 194, 195, fun n => 2 ^ n, fun _ i j => powB i j⟩
def kDiamond : Kind := ⟨1, 6, 196, 197, fun n => n + 2, fun n i j => decide (i = j ∨ i = 0 ∨ j = n + 1)⟩
structure KindOk (k : Kind) : Prop where
  le : ∀ n, k.lo ≤ n → n ≤ k.hi → 1 ≤ k.m n ∧ k.m n ≤ 8
  fs : ∀ n : Nat, k.lo ≤ n → n ≤ k.hi → Fn Try.prog k.fs [.v (.int .i64 (n : Int))] [] (.v (.int .i64 (k.m n : Nat))) []
  ff : ∀ n i j : Nat, k.lo ≤ n → n ≤ k.hi → i < k.m n → j < k.m n → Fn Try.prog k.ff [.v (.int .i64 (n : Int)), .v (.int .i64 (i : Int)), .v (.int .i64 (j : Int))] [] (.v (.bool (k.p n i j))) []
theorem chain1_fn (n : Nat) : Fn Try.prog 192 [.v (.int .i64 (n : Int))] [] (.v (.int .i64 (n : Int))) [] := by
  refine Fn.of (fn := Try.f192) (by kernel_rfl) rfl (by kernel_rfl) ⟨[.v (.int .i64 (n : Int)), .v undef, .v undef, .v undef], []⟩ rfl ?_
  repeat' first
    | with_reducible first | refine AWP_seq' ?_ | refine k_normal ?_ | refine k_ret ?_ | refine k_exit ?_ | refine b_normal ?_ | refine b_ret ?_ | refine b_exit ?_ | refine b_pass rfl ?_ | refine AWP_ret ?_ | refine AWP_skip ?_ | refine AWP_exit ?_ | refine AWP_block ?_
    | ((with_reducible first | refine AWP_reg fun KC J hJ hKC => ?_ | refine AWP_regD rfl fun KC J hJ hKC => ?_); simp (maxSteps := 10000000) only [push_cast, seval, ↓reduceIte])
    | ((with_reducible refine And.intro ?_ ?_); · first | trivial | omega | assumption | (simp; done) | (simp; omega))
    | ((first | with_reducible refine hJ _ _ ?_ | (with_reducible refine hJ _ _ ?_ ?_; · kernel_rfl)); clear hJ hKC KC J)
    | ((with_reducible refine AWP_condT ?_ ?_); · rfl)
    | ((with_reducible refine AWP_condF ?_ ?_); · rfl)
    | ((with_reducible refine ite_intro (fun hs => ?_) (fun hs => ?_)) <;> (try simp only [Bool.not_eq_true, Bool.not_eq_false, Bool.not_eq_true', Bool.not_eq_false', Decidable.not_not, decide_eq_true_eq, decide_eq_false_iff_not] at hs) <;> (try simp (maxSteps := 10000000) only [push_cast, seval, ↓reduceIte, hs]))
    | (refine AWP_cond rfl (fun h => ?_) (fun h => ?_) <;> try simp only [decide_eq_true_eq, decide_eq_false_iff_not, Bool.not_eq_true', Bool.not_eq_false', beq_iff_eq, bne_iff_ne, ne_eq, Bool.not_eq_true, Bool.or_eq_true, Bool.and_eq_true, Bool.or_eq_false_iff, Bool.and_eq_false_imp, beq_eq_false_iff_ne, bne_eq_false_iff_eq] at h)
  refine ret_plain ?_
  simp (maxSteps := 10000000) only [push_cast, seval, ↓reduceIte, show Try.f192.results = #[(.tmp 2)] from rfl]
  exact leD_refl _
theorem chain2_fn (n i j : Nat) : Fn Try.prog 193 [.v (.int .i64 (n : Int)), .v (.int .i64 (i : Int)), .v (.int .i64 (j : Int))] [] (.v (.bool (decide (i ≤ j)))) [] := by
  refine Fn.of (fn := Try.f193) (by kernel_rfl) rfl (by kernel_rfl) ⟨[.v (.int .i64 (n : Int)), .v (.int .i64 (i : Int)), .v (.int .i64 (j : Int)), .v undef, .v undef, .v undef, .v undef, .v undef, .v undef, .v undef], []⟩ rfl ?_
  repeat' first
    | with_reducible first | refine AWP_seq' ?_ | refine k_normal ?_ | refine k_ret ?_ | refine k_exit ?_ | refine b_normal ?_ | refine b_ret ?_ | refine b_exit ?_ | refine b_pass rfl ?_ | refine AWP_ret ?_ | refine AWP_skip ?_ | refine AWP_exit ?_ | refine AWP_block ?_
    | ((with_reducible first | refine AWP_reg fun KC J hJ hKC => ?_ | refine AWP_regD rfl fun KC J hJ hKC => ?_); simp (maxSteps := 10000000) only [push_cast, seval, ↓reduceIte])
    | ((with_reducible refine And.intro ?_ ?_); · first | trivial | omega | assumption | (simp; done) | (simp; omega))
    | ((first | with_reducible refine hJ _ _ ?_ | (with_reducible refine hJ _ _ ?_ ?_; · kernel_rfl)); clear hJ hKC KC J)
    | ((with_reducible refine AWP_condT ?_ ?_); · rfl)
    | ((with_reducible refine AWP_condF ?_ ?_); · rfl)
    | ((with_reducible refine ite_intro (fun hs => ?_) (fun hs => ?_)) <;> (try simp only [Bool.not_eq_true, Bool.not_eq_false, Bool.not_eq_true', Bool.not_eq_false', Decidable.not_not, decide_eq_true_eq, decide_eq_false_iff_not] at hs) <;> (try simp (maxSteps := 10000000) only [push_cast, seval, ↓reduceIte, hs]))
    | (refine AWP_cond rfl (fun h => ?_) (fun h => ?_) <;> try simp only [decide_eq_true_eq, decide_eq_false_iff_not, Bool.not_eq_true', Bool.not_eq_false', beq_iff_eq, bne_iff_ne, ne_eq, Bool.not_eq_true, Bool.or_eq_true, Bool.and_eq_true, Bool.or_eq_false_iff, Bool.and_eq_false_imp, beq_eq_false_iff_ne, bne_eq_false_iff_eq] at h)
  refine ret_plain ?_
  simp (maxSteps := 10000000) only [push_cast, seval, ↓reduceIte, show Try.f193.results = #[(.tmp 6)] from rfl]
  exact leD_v (congrArg Value.bool (decide_eq_decide.2 (by omega)))
theorem power1_fn (n : Nat) (hn : n ≤ 3) : Fn Try.prog 194 [.v (.int .i64 (n : Int))] [] (.v (.int .i64 (2 ^ n : Nat))) [] := by
  have e : ∀ n : Nat, n ≤ 3 → ishl .i64 1 (n : Int) = ((2 ^ n : Nat) : Int) := by decide
  obtain ⟨z, hz⟩ : ∃ z, 2 ^ n = z := ⟨_, rfl⟩
  have e2 := e n hn
  rw [hz] at e2 ⊢
  refine Fn.of (fn := Try.f194) (by kernel_rfl) rfl (by kernel_rfl) ⟨[.v (.int .i64 (n : Int)), .v undef, .v undef, .v undef, .v undef], []⟩ rfl ?_
  repeat' first
    | with_reducible first | refine AWP_seq' ?_ | refine k_normal ?_ | refine k_ret ?_ | refine k_exit ?_ | refine b_normal ?_ | refine b_ret ?_ | refine b_exit ?_ | refine b_pass rfl ?_ | refine AWP_ret ?_ | refine AWP_skip ?_ | refine AWP_exit ?_ | refine AWP_block ?_
    | ((with_reducible first | refine AWP_reg fun KC J hJ hKC => ?_ | refine AWP_regD rfl fun KC J hJ hKC => ?_); simp (maxSteps := 10000000) only [push_cast, seval, ↓reduceIte, e2])
    | ((with_reducible refine And.intro ?_ ?_); · first | trivial | omega | assumption | (simp; done) | (simp; omega))
    | ((first | with_reducible refine hJ _ _ ?_ | (with_reducible refine hJ _ _ ?_ ?_; · kernel_rfl)); clear hJ hKC KC J)
    | ((with_reducible refine AWP_condT ?_ ?_); · rfl)
    | ((with_reducible refine AWP_condF ?_ ?_); · rfl)
    | ((with_reducible refine ite_intro (fun hs => ?_) (fun hs => ?_)) <;> (try simp only [Bool.not_eq_true, Bool.not_eq_false, Bool.not_eq_true', Bool.not_eq_false', Decidable.not_not, decide_eq_true_eq, decide_eq_false_iff_not] at hs) <;> (try simp (maxSteps := 10000000) only [push_cast, seval, ↓reduceIte, hs, e2]))
    | (refine AWP_cond rfl (fun h => ?_) (fun h => ?_) <;> try simp only [decide_eq_true_eq, decide_eq_false_iff_not, Bool.not_eq_true', Bool.not_eq_false', beq_iff_eq, bne_iff_ne, ne_eq, Bool.not_eq_true, Bool.or_eq_true, Bool.and_eq_true, Bool.or_eq_false_iff, Bool.and_eq_false_imp, beq_eq_false_iff_ne, bne_eq_false_iff_eq] at h)
  refine ret_plain ?_
  simp (maxSteps := 10000000) only [push_cast, seval, ↓reduceIte, show Try.f194.results = #[(.tmp 2)] from rfl]
  exact leD_refl _
theorem power2_fn (n i j : Nat) (hi : i < 8) (hj : j < 8) : Fn Try.prog 195 [.v (.int .i64 (n : Int)), .v (.int .i64 (i : Int)), .v (.int .i64 (j : Int))] [] (.v (.bool (powB i j))) [] := by
  refine Fn.of (fn := Try.f195) (by kernel_rfl) rfl (by kernel_rfl) ⟨[.v (.int .i64 (n : Int)), .v (.int .i64 (i : Int)), .v (.int .i64 (j : Int)), .v undef, .v undef, .v undef, .v undef, .v undef, .v undef, .v undef, .v undef], []⟩ rfl ?_
  repeat' first
    | with_reducible first | refine AWP_seq' ?_ | refine k_normal ?_ | refine k_ret ?_ | refine k_exit ?_ | refine b_normal ?_ | refine b_ret ?_ | refine b_exit ?_ | refine b_pass rfl ?_ | refine AWP_ret ?_ | refine AWP_skip ?_ | refine AWP_exit ?_ | refine AWP_block ?_
    | ((with_reducible first | refine AWP_reg fun KC J hJ hKC => ?_ | refine AWP_regD rfl fun KC J hJ hKC => ?_); simp (maxSteps := 10000000) only [push_cast, seval, ↓reduceIte, pow_an i hi j hj])
    | ((with_reducible refine And.intro ?_ ?_); · first | trivial | omega | assumption | (simp; done) | (simp; omega))
    | ((first | with_reducible refine hJ _ _ ?_ | (with_reducible refine hJ _ _ ?_ ?_; · kernel_rfl)); clear hJ hKC KC J)
    | ((with_reducible refine AWP_condT ?_ ?_); · rfl)
    | ((with_reducible refine AWP_condF ?_ ?_); · rfl)
    | ((with_reducible refine ite_intro (fun hs => ?_) (fun hs => ?_)) <;> (try simp only [Bool.not_eq_true, Bool.not_eq_false, Bool.not_eq_true', Bool.not_eq_false', Decidable.not_not, decide_eq_true_eq, decide_eq_false_iff_not] at hs) <;> (try simp (maxSteps := 10000000) only [push_cast, seval, ↓reduceIte, hs, pow_an i hi j hj]))
    | (refine AWP_cond rfl (fun h => ?_) (fun h => ?_) <;> try simp only [decide_eq_true_eq, decide_eq_false_iff_not, Bool.not_eq_true', Bool.not_eq_false', beq_iff_eq, bne_iff_ne, ne_eq, Bool.not_eq_true, Bool.or_eq_true, Bool.and_eq_true, Bool.or_eq_false_iff, Bool.and_eq_false_imp, beq_eq_false_iff_ne, bne_eq_false_iff_eq] at h)
  refine ret_plain ?_
  simp (maxSteps := 10000000) only [push_cast, seval, ↓reduceIte, show Try.f195.results = #[(.tmp 6)] from rfl]
  exact leD_refl _
theorem diamond1_fn (n : Nat) (hn : n ≤ 6) : Fn Try.prog 196 [.v (.int .i64 (n : Int))] [] (.v (.int .i64 (n + 2 : Nat))) [] := by
  have e : IntKind.i64.wrap ((n : Int) + 2) = ((n + 2 : Nat) : Int) := by rw [wrapI (by omega) (by omega)]; omega
  obtain ⟨z, hz⟩ : ∃ z, n + 2 = z := ⟨_, rfl⟩
  rw [hz] at e ⊢
  refine Fn.of (fn := Try.f196) (by kernel_rfl) rfl (by kernel_rfl) ⟨[.v (.int .i64 (n : Int)), .v undef, .v undef, .v undef, .v undef], []⟩ rfl ?_
  repeat' first
    | with_reducible first | refine AWP_seq' ?_ | refine k_normal ?_ | refine k_ret ?_ | refine k_exit ?_ | refine b_normal ?_ | refine b_ret ?_ | refine b_exit ?_ | refine b_pass rfl ?_ | refine AWP_ret ?_ | refine AWP_skip ?_ | refine AWP_exit ?_ | refine AWP_block ?_
    | ((with_reducible first | refine AWP_reg fun KC J hJ hKC => ?_ | refine AWP_regD rfl fun KC J hJ hKC => ?_); simp (maxSteps := 10000000) only [push_cast, seval, ↓reduceIte, e])
    | ((with_reducible refine And.intro ?_ ?_); · first | trivial | omega | assumption | (simp; done) | (simp; omega))
    | ((first | with_reducible refine hJ _ _ ?_ | (with_reducible refine hJ _ _ ?_ ?_; · kernel_rfl)); clear hJ hKC KC J)
    | ((with_reducible refine AWP_condT ?_ ?_); · rfl)
    | ((with_reducible refine AWP_condF ?_ ?_); · rfl)
    | ((with_reducible refine ite_intro (fun hs => ?_) (fun hs => ?_)) <;> (try simp only [Bool.not_eq_true, Bool.not_eq_false, Bool.not_eq_true', Bool.not_eq_false', Decidable.not_not, decide_eq_true_eq, decide_eq_false_iff_not] at hs) <;> (try simp (maxSteps := 10000000) only [push_cast, seval, ↓reduceIte, hs, e]))
    | (refine AWP_cond rfl (fun h => ?_) (fun h => ?_) <;> try simp only [decide_eq_true_eq, decide_eq_false_iff_not, Bool.not_eq_true', Bool.not_eq_false', beq_iff_eq, bne_iff_ne, ne_eq, Bool.not_eq_true, Bool.or_eq_true, Bool.and_eq_true, Bool.or_eq_false_iff, Bool.and_eq_false_imp, beq_eq_false_iff_ne, bne_eq_false_iff_eq] at h)
  refine ret_plain ?_
  simp (maxSteps := 10000000) only [push_cast, seval, ↓reduceIte, show Try.f196.results = #[(.tmp 2)] from rfl]
  exact leD_refl _
theorem diamond2_fn (n i j : Nat) (hn : n ≤ 6) : Fn Try.prog 197 [.v (.int .i64 (n : Int)), .v (.int .i64 (i : Int)), .v (.int .i64 (j : Int))] [] (.v (.bool (decide (i = j ∨ i = 0 ∨ j = n + 1)))) [] := by
  have e : IntKind.i64.wrap ((n : Int) + 1) = (n : Int) + 1 := wrapI (by omega) (by omega)
  refine Fn.of (fn := Try.f197) (by kernel_rfl) rfl (by kernel_rfl) ⟨[.v (.int .i64 (n : Int)), .v (.int .i64 (i : Int)), .v (.int .i64 (j : Int)), .v undef, .v undef, .v undef, .v undef, .v undef, .v undef, .v undef, .v undef, .v undef, .v undef, .v undef, .v undef, .v undef, .v undef, .v undef, .v undef, .v undef], []⟩ rfl ?_
  by_cases h1 : (i : Int) = (j : Int)
  · have h1' : ((i : Int) == (j : Int)) = true := by simpa using h1
    repeat' first
      | with_reducible first | refine AWP_seq' ?_ | refine k_normal ?_ | refine k_ret ?_ | refine k_exit ?_ | refine b_normal ?_ | refine b_ret ?_ | refine b_exit ?_ | refine b_pass rfl ?_ | refine AWP_ret ?_ | refine AWP_skip ?_ | refine AWP_exit ?_ | refine AWP_block ?_
      | ((with_reducible first | refine AWP_reg fun KC J hJ hKC => ?_ | refine AWP_regD rfl fun KC J hJ hKC => ?_); simp (maxSteps := 10000000) only [push_cast, seval, ↓reduceIte, h1, h1', e, undef])
      | ((with_reducible refine And.intro ?_ ?_); · first | trivial | omega | assumption | (simp; done) | (simp; omega))
      | ((first | with_reducible refine hJ _ _ ?_ | (with_reducible refine hJ _ _ ?_ ?_; · kernel_rfl)); clear hJ hKC KC J)
      | ((with_reducible refine AWP_condT ?_ ?_); · rfl)
      | ((with_reducible refine AWP_condF ?_ ?_); · rfl)
      | ((with_reducible refine ite_intro (fun hs => ?_) (fun hs => ?_)) <;> (try simp only [Bool.not_eq_true, Bool.not_eq_false, Bool.not_eq_true', Bool.not_eq_false', Decidable.not_not, decide_eq_true_eq, decide_eq_false_iff_not] at hs) <;> (try simp (maxSteps := 10000000) only [push_cast, seval, ↓reduceIte, hs, h1, h1', e, undef]))
      | (refine AWP_cond rfl (fun h => ?_) (fun h => ?_) <;> try simp only [decide_eq_true_eq, decide_eq_false_iff_not, Bool.not_eq_true', Bool.not_eq_false', beq_iff_eq, bne_iff_ne, ne_eq, Bool.not_eq_true, Bool.or_eq_true, Bool.and_eq_true, Bool.or_eq_false_iff, Bool.and_eq_false_imp, beq_eq_false_iff_ne, bne_eq_false_iff_eq] at h)
    refine ret_plain ?_
    simp (maxSteps := 10000000) only [push_cast, seval, ↓reduceIte, show Try.f197.results = #[(.tmp 6)] from rfl]
    exact leD_v (congrArg Value.bool (by rw [decide_eq_true (show i = j ∨ i = 0 ∨ j = n + 1 by omega)]))
  · have h1' : ((i : Int) == (j : Int)) = false := by simpa using h1
    by_cases h2 : (i : Int) = 0
    · have h2' : ((i : Int) == 0) = true := by simpa using h2
      repeat' first
        | with_reducible first | refine AWP_seq' ?_ | refine k_normal ?_ | refine k_ret ?_ | refine k_exit ?_ | refine b_normal ?_ | refine b_ret ?_ | refine b_exit ?_ | refine b_pass rfl ?_ | refine AWP_ret ?_ | refine AWP_skip ?_ | refine AWP_exit ?_ | refine AWP_block ?_
        | ((with_reducible first | refine AWP_reg fun KC J hJ hKC => ?_ | refine AWP_regD rfl fun KC J hJ hKC => ?_); simp (maxSteps := 10000000) only [push_cast, seval, ↓reduceIte, h1', h2', e, undef])
        | ((with_reducible refine And.intro ?_ ?_); · first | trivial | omega | assumption | (simp; done) | (simp; omega))
        | ((first | with_reducible refine hJ _ _ ?_ | (with_reducible refine hJ _ _ ?_ ?_; · kernel_rfl)); clear hJ hKC KC J)
        | ((with_reducible refine AWP_condT ?_ ?_); · rfl)
        | ((with_reducible refine AWP_condF ?_ ?_); · rfl)
        | ((with_reducible refine ite_intro (fun hs => ?_) (fun hs => ?_)) <;> (try simp only [Bool.not_eq_true, Bool.not_eq_false, Bool.not_eq_true', Bool.not_eq_false', Decidable.not_not, decide_eq_true_eq, decide_eq_false_iff_not] at hs) <;> (try simp (maxSteps := 10000000) only [push_cast, seval, ↓reduceIte, hs, h1', h2', e, undef]))
        | (refine AWP_cond rfl (fun h => ?_) (fun h => ?_) <;> try simp only [decide_eq_true_eq, decide_eq_false_iff_not, Bool.not_eq_true', Bool.not_eq_false', beq_iff_eq, bne_iff_ne, ne_eq, Bool.not_eq_true, Bool.or_eq_true, Bool.and_eq_true, Bool.or_eq_false_iff, Bool.and_eq_false_imp, beq_eq_false_iff_ne, bne_eq_false_iff_eq] at h)
      refine ret_plain ?_
      simp (maxSteps := 10000000) only [push_cast, seval, ↓reduceIte, show Try.f197.results = #[(.tmp 6)] from rfl]
      exact leD_v (congrArg Value.bool (by rw [decide_eq_true (show i = j ∨ i = 0 ∨ j = n + 1 by omega)]))
    · have h2' : ((i : Int) == 0) = false := by simpa using h2
      by_cases h3 : (j : Int) = n + 1
      · have h3' : ((j : Int) == (n : Int) + 1) = true := by simpa using h3
        repeat' first
          | with_reducible first | refine AWP_seq' ?_ | refine k_normal ?_ | refine k_ret ?_ | refine k_exit ?_ | refine b_normal ?_ | refine b_ret ?_ | refine b_exit ?_ | refine b_pass rfl ?_ | refine AWP_ret ?_ | refine AWP_skip ?_ | refine AWP_exit ?_ | refine AWP_block ?_
          | ((with_reducible first | refine AWP_reg fun KC J hJ hKC => ?_ | refine AWP_regD rfl fun KC J hJ hKC => ?_); simp (maxSteps := 10000000) only [push_cast, seval, ↓reduceIte, h1', h2', h3', e, undef])
          | ((with_reducible refine And.intro ?_ ?_); · first | trivial | omega | assumption | (simp; done) | (simp; omega))
          | ((first | with_reducible refine hJ _ _ ?_ | (with_reducible refine hJ _ _ ?_ ?_; · kernel_rfl)); clear hJ hKC KC J)
          | ((with_reducible refine AWP_condT ?_ ?_); · rfl)
          | ((with_reducible refine AWP_condF ?_ ?_); · rfl)
          | ((with_reducible refine ite_intro (fun hs => ?_) (fun hs => ?_)) <;> (try simp only [Bool.not_eq_true, Bool.not_eq_false, Bool.not_eq_true', Bool.not_eq_false', Decidable.not_not, decide_eq_true_eq, decide_eq_false_iff_not] at hs) <;> (try simp (maxSteps := 10000000) only [push_cast, seval, ↓reduceIte, hs, h1', h2', h3', e, undef]))
          | (refine AWP_cond rfl (fun h => ?_) (fun h => ?_) <;> try simp only [decide_eq_true_eq, decide_eq_false_iff_not, Bool.not_eq_true', Bool.not_eq_false', beq_iff_eq, bne_iff_ne, ne_eq, Bool.not_eq_true, Bool.or_eq_true, Bool.and_eq_true, Bool.or_eq_false_iff, Bool.and_eq_false_imp, beq_eq_false_iff_ne, bne_eq_false_iff_eq] at h)
        refine ret_plain ?_
        simp (maxSteps := 10000000) only [push_cast, seval, ↓reduceIte, show Try.f197.results = #[(.tmp 6)] from rfl]
        exact leD_v (congrArg Value.bool (by rw [decide_eq_true (show i = j ∨ i = 0 ∨ j = n + 1 by omega)]))
      · have h3' : ((j : Int) == (n : Int) + 1) = false := by simpa using h3
        repeat' first
          | with_reducible first | refine AWP_seq' ?_ | refine k_normal ?_ | refine k_ret ?_ | refine k_exit ?_ | refine b_normal ?_ | refine b_ret ?_ | refine b_exit ?_ | refine b_pass rfl ?_ | refine AWP_ret ?_ | refine AWP_skip ?_ | refine AWP_exit ?_ | refine AWP_block ?_
          | ((with_reducible first | refine AWP_reg fun KC J hJ hKC => ?_ | refine AWP_regD rfl fun KC J hJ hKC => ?_); simp (maxSteps := 10000000) only [push_cast, seval, ↓reduceIte, h1', h2', h3', e, undef])
          | ((with_reducible refine And.intro ?_ ?_); · first | trivial | omega | assumption | (simp; done) | (simp; omega))
          | ((first | with_reducible refine hJ _ _ ?_ | (with_reducible refine hJ _ _ ?_ ?_; · kernel_rfl)); clear hJ hKC KC J)
          | ((with_reducible refine AWP_condT ?_ ?_); · rfl)
          | ((with_reducible refine AWP_condF ?_ ?_); · rfl)
          | ((with_reducible refine ite_intro (fun hs => ?_) (fun hs => ?_)) <;> (try simp only [Bool.not_eq_true, Bool.not_eq_false, Bool.not_eq_true', Bool.not_eq_false', Decidable.not_not, decide_eq_true_eq, decide_eq_false_iff_not] at hs) <;> (try simp (maxSteps := 10000000) only [push_cast, seval, ↓reduceIte, hs, h1', h2', h3', e, undef]))
          | (refine AWP_cond rfl (fun h => ?_) (fun h => ?_) <;> try simp only [decide_eq_true_eq, decide_eq_false_iff_not, Bool.not_eq_true', Bool.not_eq_false', beq_iff_eq, bne_iff_ne, ne_eq, Bool.not_eq_true, Bool.or_eq_true, Bool.and_eq_true, Bool.or_eq_false_iff, Bool.and_eq_false_imp, beq_eq_false_iff_ne, bne_eq_false_iff_eq] at h)
        refine ret_plain ?_
        simp (maxSteps := 10000000) only [push_cast, seval, ↓reduceIte, show Try.f197.results = #[(.tmp 6)] from rfl]
        exact leD_v (congrArg Value.bool (by rw [decide_eq_false (show ¬ (i = j ∨ i = 0 ∨ j = n + 1) by omega)]))
theorem kChain_ok : KindOk kChain := ⟨fun n h1 h2 => ⟨h1, h2⟩, fun n _ _ => chain1_fn n, fun n i j _ _ _ _ => chain2_fn n i j⟩
theorem pow_le : ∀ n : Nat, n ≤ 3 → 1 ≤ 2 ^ n ∧ 2 ^ n ≤ 8 := by decide
theorem kPower_ok : KindOk kPower := ⟨fun n _ h2 => pow_le n h2, fun n _ h => power1_fn n h, fun n i j _ h hi hj => power2_fn n i j (Nat.lt_of_lt_of_le hi (pow_le n h).2) (Nat.lt_of_lt_of_le hj (pow_le n h).2)⟩
theorem kDiamond_ok : KindOk kDiamond := ⟨fun n h1 h2 => by simp only [kDiamond] at *; omega, fun n _ h => diamond1_fn n h, fun n i j _ h _ _ => diamond2_fn n i j h⟩
end Go.Proofs.Ytabliglgeiajlaa.AM
