/- Rows of edges: clone, delete. -/
import Derived.Test.YtabliglgeiajlaaX1
set_option linter.unusedSimpArgs false
set_option linter.unusedVariables false
namespace Go.Proofs.Ytabliglgeiajlaa.AM
open Go Go.RowKit Go.Proofs
set_option maxRecDepth 100000
set_option maxHeartbeats 1000000

theorem ren_pCells (m : Nat → Option Nat) (l : List (Int × Int)) : (pCells l).map (ren m) = pCells l := by
  induction l with
  | nil => rfl
  | cons a l ih => simpa [pCells, pRow, ren, ren2, ren1, ren0] using ih
theorem isNilL_pRow {l : List (Int × Int)} (h : 0 < l.length) : isNilL (pRow l) = false := by cases l with | nil => simp at h | cons _ _ => rfl
theorem pCells_take (l : List (Int × Int)) (n : Nat) : (pCells l).take (n * 2) = pCells (l.take n) := by
  induction l generalizing n with
  | nil => simp [pCells, pRow]
  | cons a l ih => cases n with
    | zero => simp [pCells, pRow]
    | succ n =>
      have : (n + 1) * 2 = n * 2 + 1 + 1 := by omega
      rw [this]
      have h2 := ih n
      simp [pCells, pRow] at *
      exact h2
theorem pCells_drop (l : List (Int × Int)) (n : Nat) : (pCells l).drop (n * 2) = pCells (l.drop n) := by
  induction l generalizing n with
  | nil => simp [pCells, pRow]
  | cons a l ih => cases n with
    | zero => simp [pCells, pRow]
    | succ n =>
      have : (n + 1) * 2 = n * 2 + 1 + 1 := by omega
      rw [this]
      have h2 := ih n
      simp [pCells, pRow] at *
      exact h2
theorem cloneE_fn (f : Bool) (l : List (Int × Int)) (h0 : 0 < l.length) (hb : l.length ≤ 1000000) : Fn Try.prog 50 [.sl f 2 (pRow l)] [] (.ref 0 0 l.length) [.ent ⟨0, some 2, 75, pCells l, .cells⟩] := by
  have hnl := isNilL_pRow h0
  have hfl : (pRow l).flatten = pCells l := rfl
  refine Fn.of (fn := Try.f50) (by kernel_rfl) rfl (by kernel_rfl) ⟨[.sl f 2 (pRow l), .v undef, .v undef, .v undef, .v undef, .v undef, .v undef, .v undef], []⟩ rfl ?_
  repeat' first
    | with_reducible first | refine AWP_seq' ?_ | refine k_normal ?_ | refine k_ret ?_ | refine k_exit ?_ | refine b_normal ?_ | refine b_ret ?_ | refine b_exit ?_ | refine b_pass rfl ?_ | refine AWP_skip ?_ | refine AWP_exit ?_ | refine AWP_block ?_
    | ((with_reducible first | refine AWP_reg fun KC J hJ hKC => ?_ | refine AWP_regD rfl fun KC J hJ hKC => ?_); simp (maxSteps := 10000000) only [push_cast, seval, ↓reduceIte, hnl, hfl, Nat.zero_add])
    | ((with_reducible refine And.intro ?_ ?_); · first | trivial | omega | assumption | (simp; done) | (simp; omega))
    | ((first | with_reducible refine hJ _ _ ?_ | (with_reducible refine hJ _ _ ?_ ?_; · kernel_rfl)); clear hJ hKC KC J)
    | ((with_reducible refine AWP_condT ?_ ?_); · rfl)
    | ((with_reducible refine AWP_condF ?_ ?_); · rfl)
    | ((with_reducible refine ite_intro (fun hs => ?_) (fun hs => ?_)) <;> (try simp only [Bool.not_eq_true, Bool.not_eq_false, Bool.not_eq_true', Bool.not_eq_false', Decidable.not_not, decide_eq_true_eq, decide_eq_false_iff_not] at hs) <;> (try simp (maxSteps := 10000000) only [push_cast, seval, ↓reduceIte, hs, hnl, hfl, Nat.zero_add]))
    | (refine AWP_cond rfl (fun h => ?_) (fun h => ?_) <;> try simp only [decide_eq_true_eq, decide_eq_false_iff_not, Bool.not_eq_true', Bool.not_eq_false', beq_iff_eq, bne_iff_ne, ne_eq, Bool.not_eq_true, Bool.or_eq_true, Bool.and_eq_true, Bool.or_eq_false_iff, Bool.and_eq_false_imp, beq_eq_false_iff_ne, bne_eq_false_iff_eq] at h)
  refine AWP_ret ?_
  refine ret_new [1] ?_ (by simp) ?_
  · simp (maxSteps := 10000000) only [push_cast, seval, ↓reduceIte, show Try.f50.results = #[.tmp 2] from rfl, pick, mOf, idx, renSlot, ren_pCells]
    exact leD_refl _
  · intro k hk
    exact absurd hk (by simp)
theorem deleteE_fn (l : List (Int × Int)) (n i j : Nat) (hn : l.length = n) (hi : i < n) (hj : j = i + 1) (hb : n ≤ 1000000) :
    Fn Try.prog 49 [.ref 0 0 n, .v (.int .i64 (i : Int)), .v (.int .i64 (j : Int))] [.ent ⟨0, some 2, 75, pCells l, .cells⟩] (.sl false 2 (pRow (l.take i ++ l.drop j))) [.dead] := by
  have hne : ((i : Int) == (j : Int)) = false := by simp; omega
  have hlC : (pCells l).length = n * 2 := by rw [pCells_length, hn]
  refine Fn.of (fn := Try.f49) (by kernel_rfl) rfl (by kernel_rfl) ⟨[.ref 0 0 n, .v (.int .i64 (i : Int)), .v (.int .i64 (j : Int)), .v undef, .v undef, .v undef, .v undef, .v undef, .v undef, .v undef, .v undef, .v undef, .v undef, .v undef, .v undef, .v undef, .v undef, .v undef, .v undef, .v undef, .v undef, .v undef, .v undef, .v undef, .v undef, .v undef, .v undef, .v undef, .v undef, .v undef, .v undef, .v undef, .v undef], [.ent ⟨0, some 2, 75, pCells l, .cells⟩]⟩ rfl ?_
  obtain ⟨k, hk⟩ : ∃ k, i + (n - j) = k := ⟨_, rfl⟩
  obtain ⟨m, hm⟩ : ∃ m, n - j = m := ⟨_, rfl⟩
  rw [hm] at hk
  have hs1 : (((pCells l).drop (j * 2)).take (m * 2)) = pCells (l.drop j) := by
    rw [pCells_drop, pCells_take, List.take_of_length_le (by simp; omega)]
  have hs1l : (pCells (l.drop j)).length = m * 2 := by rw [pCells_length, List.length_drop, hn, hm]
  have hs2 : (pCells l).take (i * 2) = pCells (l.take i) := pCells_take l i
  have hbm : Nat.beq 0 0 = true := rfl
  have hs3 : (pCells (l.take i)).length = i * 2 := by rw [pCells_length, List.length_take, hn]; omega
  have hs4 : ((pCells l).drop (i * 2 + m * 2)).length = n * 2 - (i * 2 + m * 2) := by rw [List.length_drop, hlC]
  have hs5 : (pCells (l.take i) ++ pCells (l.drop j) ++ (pCells l).drop (i * 2 + m * 2)).take (k * 2) = pCells (l.take i ++ l.drop j) := by
    rw [pCells_app]
    exact List.take_left' (by rw [List.length_append, hs3, hs1l]; omega)
  have hLl : (l.take i ++ l.drop j).length = k := by simp; omega
  obtain ⟨L, hL⟩ : ∃ L, l.take i ++ l.drop j = L := ⟨_, rfl⟩
  rw [hL] at hs5 hLl
  have hLC : (pCells L).length = k * 2 := by rw [pCells_length, hLl]
  have hLr : chunk 2 k (pCells L) = pRow L := by rw [← hLl]; exact chunk_p L
  rw [hL]
  repeat' first
    | with_reducible first | refine AWP_seq' ?_ | refine k_normal ?_ | refine k_ret ?_ | refine k_exit ?_ | refine b_normal ?_ | refine b_ret ?_ | refine b_exit ?_ | refine b_pass rfl ?_ | refine AWP_skip ?_ | refine AWP_exit ?_ | refine AWP_block ?_
    | ((with_reducible first | refine AWP_reg fun KC J hJ hKC => ?_ | refine AWP_regD rfl fun KC J hJ hKC => ?_); simp (maxSteps := 10000000) only [push_cast, seval, ↓reduceIte, hne, hlC, hs1, hs1l, hs2, hm, hk, hs3, hs4, hs5])
    | ((with_reducible refine And.intro ?_ ?_); · first | trivial | omega | assumption | (simp; done) | (simp; omega))
    | ((first | with_reducible refine hJ _ _ ?_ | (with_reducible refine hJ _ _ ?_ ?_; · kernel_rfl)); clear hJ hKC KC J)
    | ((with_reducible refine AWP_condT ?_ ?_); · rfl)
    | ((with_reducible refine AWP_condF ?_ ?_); · rfl)
    | ((with_reducible refine ite_intro (fun hs => ?_) (fun hs => ?_)) <;> (try simp only [Bool.not_eq_true, Bool.not_eq_false, Bool.not_eq_true', Bool.not_eq_false', Decidable.not_not, decide_eq_true_eq, decide_eq_false_iff_not] at hs) <;> (try simp (maxSteps := 10000000) only [push_cast, seval, ↓reduceIte, hs, hne, hlC, hs1, hs1l, hs2, hm, hk, hs3, hs4, hs5]))
    | (refine AWP_cond rfl (fun h => ?_) (fun h => ?_) <;> try simp only [decide_eq_true_eq, decide_eq_false_iff_not, Bool.not_eq_true', Bool.not_eq_false', beq_iff_eq, bne_iff_ne, ne_eq, Bool.not_eq_true, Bool.or_eq_true, Bool.and_eq_true, Bool.or_eq_false_iff, Bool.and_eq_false_imp, beq_eq_false_iff_ne, bne_eq_false_iff_eq] at h)
  refine AWP_freeze 0 rfl (by simp (maxSteps := 10000000) only [push_cast, seval, ↓reduceIte]) ?_
  simp (maxSteps := 10000000) only [push_cast, seval, ↓reduceIte, frSt, frSlot, fr3, fr2, fr1, fr0, sameB, arrOf, hbm, hLC, hLr]
  refine AWP_ret ?_
  refine ret_keys ?_
  simp (maxSteps := 10000000) only [push_cast, seval, ↓reduceIte, show Try.f49.results = #[(.tmp 6)] from rfl]
  exact ⟨rfl, leD_refl _⟩
end Go.Proofs.Ytabliglgeiajlaa.AM
