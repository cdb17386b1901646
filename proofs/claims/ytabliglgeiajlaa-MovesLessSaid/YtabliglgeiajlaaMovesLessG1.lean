/- Walks and plain laws, put together: part 1. -/
import Derived.Test.YtabliglgeiajlaaMovesLessG0
import Derived.Test.YtabliglgeiajlaaMc
set_option linter.unusedSimpArgs false
set_option linter.unusedVariables false
/- Rows of atoms, put together. -/
namespace Go.Proofs.Ytabliglgeiajlaa.AM
open Go Go.RowKit Go.Proofs
set_option maxRecDepth 100000
set_option maxHeartbeats 4000000

theorem pRow_nil : pRow [] = [] := rfl
theorem isNilL_pRowC (a : Int × Int) (l : List (Int × Int)) : isNilL (pRow (a :: l)) = false := rfl
theorem pRow_flat (l : List (Int × Int)) : (pRow l).flatten = pCells l := rfl
theorem growA_fn (n : Nat) (h0 : 0 < n) (hn : n ≤ 10000) : Fn Try.prog 297 [.v (.slice none 0 0), .v (.int .i64 (n : Int))] [] (.ref 0 0 0) [.ent ⟨0, some 2, 79, [], .cells⟩] := by
  have h1 : decide ((n : Int) < 0) = false := decide_eq_false (by omega)
  have h2 : IntKind.i64.wrap ((n : Int) - 0) = n := by rw [IntKind.wrap_i64]; omega
  have h3 : decide ((0 : Int) < n) = true := decide_eq_true (by omega)
  refine Fn.of (fn := Try.f297) (by kernel_rfl) rfl (by kernel_rfl) ⟨[.v (.slice none 0 0), .v (.int .i64 (n : Int)), .v undef, .v undef, .v undef, .v undef, .v undef, .v undef, .v undef, .v undef, .v undef, .v undef, .v undef, .v undef, .v undef, .v undef, .v undef, .v undef, .v undef, .v undef, .v undef, .v undef, .v undef, .v undef, .v undef, .v undef, .v undef], []⟩ rfl ?_
  have h4 : IntKind.i64.wrap 0 = 0 := by rw [IntKind.wrap_i64]; rfl
  repeat' first | (with_reducible first | refine AWP_seq' ?_ | refine k_normal ?_ | refine k_ret ?_ | refine k_exit ?_ | refine b_normal ?_ | refine b_ret ?_ | refine b_exit ?_ | refine b_pass rfl ?_ | refine AWP_skip ?_ | refine AWP_exit ?_ | refine AWP_block ?_) | ((with_reducible refine And.intro ?_ ?_); · exact Sq) | ((first | with_reducible refine AWP_reg fun KC J hJ hKC => ?_ | with_reducible refine AWP_regD rfl fun KC J hJ hKC => ?_); simp (maxSteps := 10000000) only [push_cast, seval, ↓reduceIte, h1, h2, h3, h4]) | ((first | with_reducible refine hJ _ _ ?_ | (with_reducible refine hJ _ _ ?_ ?_; · kernel_rfl)); clear hJ hKC KC J) | ((with_reducible refine AWP_condT ?_ ?_); · rfl) | ((with_reducible refine AWP_condF ?_ ?_); · rfl) | ((with_reducible refine ite_intro (fun hs => ?_) (fun hs => ?_)) <;> (try simp only [Bool.not_eq_true, Bool.not_eq_false, Bool.not_eq_true', Bool.not_eq_false', Decidable.not_not, decide_eq_true_eq, decide_eq_false_iff_not] at hs) <;> (try simp (maxSteps := 10000000) only [push_cast, seval, ↓reduceIte, hs, h1, h2, h3, h4])) | (refine AWP_cond rfl (fun h => ?_) (fun h => ?_) <;> try simp only [decide_eq_true_eq, decide_eq_false_iff_not, Bool.not_eq_true', Bool.not_eq_false', beq_iff_eq, bne_iff_ne, ne_eq, Bool.not_eq_true, Bool.or_eq_true, Bool.and_eq_true, Bool.or_eq_false_iff, Bool.and_eq_false_imp, beq_eq_false_iff_ne, bne_eq_false_iff_eq] at h)
  refine AWP_ret ?_
  refine ret_new [0] ?_ (by simp) ?_
  · simp (maxSteps := 10000000) only [push_cast, seval, ↓reduceIte, show Try.f297.results = #[.tmp 4] from rfl, pick, mOf, idx, renSlot]
    exact leD_refl _
  · intro k hk
    exact absurd hk (by simp)
/-- Rows of rows of numbers. -/
def rowsC (l : List (Bool × List (Int × Int))) : List (List D) := l.map fun r => [.sl r.1 2 (pRow r.2)]
def flatC (l : List (Bool × List (Int × Int))) : List (Int × Int) := l.flatMap (·.2)
@[push_cast] theorem rowsC_length (l : List (Bool × List (Int × Int))) : (rowsC l).length = l.length := by simp [rowsC]
theorem getE_rowsC {l : List (Bool × List (Int × Int))} {n : Nat} {x : Bool × List (Int × Int)} (h : l[n]? = some x) : getE (rowsC l) n = [.sl x.1 2 (pRow x.2)] := by unfold rowsC; exact getE_map _ _ _ _ h
theorem flatC_take {l : List (Bool × List (Int × Int))} {i : Nat} {x : Bool × List (Int × Int)} (h : l[i]? = some x) : flatC (l.take (i + 1)) = flatC (l.take i) ++ x.2 := by
  obtain ⟨hi, rfl⟩ := List.getElem?_eq_some_iff.1 h
  unfold flatC
  rw [List.take_succ_eq_append_getElem hi, List.flatMap_append]
  simp only [List.flatMap_cons, List.flatMap_nil, List.append_nil]
theorem flatC_le (l : List (Bool × List (Int × Int))) (i : Nat) : (flatC (l.take i)).length ≤ (flatC l).length := by
  have : flatC l = flatC (l.take i) ++ flatC (l.drop i) := by
    rw [flatC, flatC, flatC, ← List.flatMap_append, List.take_append_drop]
  rw [this]; simp
set_option maxHeartbeats 4000000 in
theorem concatA_fn (f : Bool) (rows : List (Bool × List (Int × Int))) (h0 : 0 < (flatC rows).length) (hb : (flatC rows).length ≤ 1000) (hr : rows.length ≤ 1000) :
    Fn Try.prog 293 [.sl f 1 (rowsC rows)] [] (.sl false 2 (pRow (flatC rows))) [] := by
  refine Fn.of (fn := Try.f293) (by kernel_rfl) rfl (by kernel_rfl) ⟨[.sl f 1 (rowsC rows), .v undef, .v undef, .v undef, .v undef, .v undef, .v undef, .v undef, .v undef, .v undef, .v undef, .v undef, .v undef, .v undef, .v undef, .v undef, .v undef, .v undef, .v undef, .v undef, .v undef, .v undef, .v undef, .v undef, .v undef, .v undef, .v undef, .v undef, .v undef, .v undef, .v undef, .v undef, .v undef, .v undef, .v undef, .v undef], []⟩ rfl ?_
  repeat' first | (with_reducible first | refine AWP_seq' ?_ | refine k_normal ?_ | refine k_ret ?_ | refine k_exit ?_ | refine b_normal ?_ | refine b_ret ?_ | refine b_exit ?_ | refine b_pass rfl ?_ | refine AWP_ret ?_ | refine AWP_skip ?_ | refine AWP_exit ?_ | refine AWP_block ?_) | ((with_reducible refine And.intro ?_ ?_); · exact Sq) | ((first | with_reducible refine AWP_reg fun KC J hJ hKC => ?_ | with_reducible refine AWP_regD rfl fun KC J hJ hKC => ?_ | (refine' hKC _ _ _ _ _ (callV0 (growA_fn _ ?_ ?_) rfl rfl rfl ?_ ?_); (rotate_left 3); (· exact Lq); (rotate_left 1); (iterate 2 (· exact Hq))) | (refine' hKC _ _ _ _ _ (callV0 (growA0_fn) rfl rfl rfl ?_ ?_); (· exact Lq))); simp (maxSteps := 10000000) only [push_cast, seval, ↓reduceIte]) | ((first | with_reducible refine hJ _ _ ?_ | (with_reducible refine hJ _ _ ?_ ?_; · kernel_rfl)); clear hJ hKC KC J) | ((with_reducible refine AWP_condT ?_ ?_); · rfl) | ((with_reducible refine AWP_condF ?_ ?_); · rfl) | ((with_reducible refine ite_intro (fun hs => ?_) (fun hs => ?_)) <;> (try simp only [Bool.not_eq_true, Bool.not_eq_false, Bool.not_eq_true', Bool.not_eq_false', Decidable.not_not, decide_eq_true_eq, decide_eq_false_iff_not] at hs) <;> (try simp (maxSteps := 10000000) only [push_cast, seval, ↓reduceIte, hs])) | (refine AWP_cond rfl (fun h => ?_) (fun h => ?_) <;> try simp only [decide_eq_true_eq, decide_eq_false_iff_not, Bool.not_eq_true', Bool.not_eq_false', beq_iff_eq, bne_iff_ne, ne_eq, Bool.not_eq_true, Bool.or_eq_true, Bool.and_eq_true, Bool.or_eq_false_iff, Bool.and_eq_false_imp, beq_eq_false_iff_ne, bne_eq_false_iff_eq] at h)
  refine AWP_loopD 0 (γ := {i : Nat // i ≤ rows.length}) (fun i => ⟨[.sl f 1 (rowsC rows), .any, .v (.slice none 0 0), .v (.int .i64 (flatC (rows.take i.1)).length), .any, .any, .any, .any, .any, .sl f 1 (rowsC rows), .v (.int .i64 rows.length), .v (.int .i64 i.1), .any, .any, .any, .any, .any, .any, .any, .any, .any, .any, .any, .any, .any, .any, .any, .any, .any, .any, .any, .any, .any, .any, .any, .any], []⟩) (fun i => rows.length - i.1) ⟨0, by omega⟩ (fun i => rfl) (fun i => rfl) (fun i => rfl) ⟨?_, Fq⟩ ?_
  · simp only [List.take_zero, flatC, List.flatMap_nil, List.length_nil]
    exact Lq
  rintro ⟨i, hi⟩
  by_cases hlt : (i : Int) < (rows.length : Int)
  · have hx : rows[i]? = some rows[i] := List.getElem?_eq_getElem (by omega)
    obtain ⟨r, hr0⟩ : ∃ r, rows[i] = r := ⟨_, rfl⟩
    rw [hr0] at hx
    have hst := flatC_take hx
    have hbd := flatC_le rows (i + 1)
    rw [hst, List.length_append] at hbd
    obtain ⟨n, hn⟩ : ∃ n, (flatC (rows.take i)).length = n := ⟨_, rfl⟩
    rw [hn] at hbd
    have hw : IntKind.i64.wrap ((n : Int) + (r.2.length : Int)) = ((n + r.2.length : Nat) : Int) := by rw [IntKind.wrap_i64]; omega
    have hn0 : decide (((n + r.2.length : Nat) : Int) < 0) = false := decide_eq_false (by omega)
    simp only [hn]
    repeat' first | (with_reducible first | refine AWP_seq' ?_ | refine k_normal ?_ | refine k_ret ?_ | refine k_exit ?_ | refine b_normal ?_ | refine b_ret ?_ | refine b_exit ?_ | refine b_pass rfl ?_ | refine AWP_ret ?_ | refine AWP_skip ?_ | refine AWP_exit ?_ | refine AWP_block ?_) | ((with_reducible refine And.intro ?_ ?_); · exact Sq) | ((first | with_reducible refine AWP_reg fun KC J hJ hKC => ?_ | with_reducible refine AWP_regD rfl fun KC J hJ hKC => ?_ | (refine' hKC _ _ _ _ _ (callV0 (growA_fn _ ?_ ?_) rfl rfl rfl ?_ ?_); (rotate_left 3); (· exact Lq); (rotate_left 1); (iterate 2 (· exact Hq))) | (refine' hKC _ _ _ _ _ (callV0 (growA0_fn) rfl rfl rfl ?_ ?_); (· exact Lq))); simp (maxSteps := 10000000) only [push_cast, seval, ↓reduceIte, hlt, getE_rowsC hx, hw, hn0, wrapN (i := i) (n := rows.length) (by omega) (by omega)]) | ((first | with_reducible refine hJ _ _ ?_ | (with_reducible refine hJ _ _ ?_ ?_; · kernel_rfl)); clear hJ hKC KC J) | ((with_reducible refine AWP_condT ?_ ?_); · rfl) | ((with_reducible refine AWP_condF ?_ ?_); · rfl) | ((with_reducible refine ite_intro (fun hs => ?_) (fun hs => ?_)) <;> (try simp only [Bool.not_eq_true, Bool.not_eq_false, Bool.not_eq_true', Bool.not_eq_false', Decidable.not_not, decide_eq_true_eq, decide_eq_false_iff_not] at hs) <;> (try simp (maxSteps := 10000000) only [push_cast, seval, ↓reduceIte, hs, hlt, getE_rowsC hx, hw, hn0, wrapN (i := i) (n := rows.length) (by omega) (by omega)])) | (refine AWP_cond rfl (fun h => ?_) (fun h => ?_) <;> try simp only [decide_eq_true_eq, decide_eq_false_iff_not, Bool.not_eq_true', Bool.not_eq_false', beq_iff_eq, bne_iff_ne, ne_eq, Bool.not_eq_true, Bool.or_eq_true, Bool.and_eq_true, Bool.or_eq_false_iff, Bool.and_eq_false_imp, beq_eq_false_iff_ne, bne_eq_false_iff_eq] at h)
    refine ⟨⟨i + 1, by omega⟩, by simp only; omega, ?_, ⟨_, rfl⟩⟩
    simp only [hst, List.length_append, hn]
    exact Lq
  · have hin : i = rows.length := by omega
    subst hin
    rw [List.take_length]
    have hg := growA_fn (flatC rows).length h0 (by omega)
    repeat' first | (with_reducible first | refine AWP_seq' ?_ | refine k_normal ?_ | refine k_ret ?_ | refine k_exit ?_ | refine b_normal ?_ | refine b_ret ?_ | refine b_exit ?_ | refine b_pass rfl ?_ | refine AWP_ret ?_ | refine AWP_skip ?_ | refine AWP_exit ?_ | refine AWP_block ?_) | ((with_reducible refine And.intro ?_ ?_); · exact Sq) | ((first | with_reducible refine AWP_reg fun KC J hJ hKC => ?_ | with_reducible refine AWP_regD rfl fun KC J hJ hKC => ?_ | (refine' hKC _ _ _ _ _ (callV0 (growA_fn _ ?_ ?_) rfl rfl rfl ?_ ?_); (rotate_left 3); (· exact Lq); (rotate_left 1); (iterate 2 (· exact Hq))) | (refine' hKC _ _ _ _ _ (callV0 (growA0_fn) rfl rfl rfl ?_ ?_); (· exact Lq)) | (refine hKC _ _ _ _ _ (callN [] hg rfl rfl rfl (by simp) (fun _ h => by cases h) rfl rfl rfl (leF_cons (leD_refl _) (leF_cons (leD_refl _) leF_nil)) ?_))); simp (maxSteps := 10000000) only [push_cast, seval, ↓reduceIte, hlt, backOf, callSets, renSlot, pick, mOf, idx]) | ((first | with_reducible refine hJ _ _ ?_ | (with_reducible refine hJ _ _ ?_ ?_; · kernel_rfl)); clear hJ hKC KC J) | ((with_reducible refine AWP_condT ?_ ?_); · rfl) | ((with_reducible refine AWP_condF ?_ ?_); · rfl) | ((with_reducible refine ite_intro (fun hs => ?_) (fun hs => ?_)) <;> (try simp only [Bool.not_eq_true, Bool.not_eq_false, Bool.not_eq_true', Bool.not_eq_false', Decidable.not_not, decide_eq_true_eq, decide_eq_false_iff_not] at hs) <;> (try simp (maxSteps := 10000000) only [push_cast, seval, ↓reduceIte, hs, hlt, backOf, callSets, renSlot, pick, mOf, idx])) | (refine AWP_cond rfl (fun h => ?_) (fun h => ?_) <;> try simp only [decide_eq_true_eq, decide_eq_false_iff_not, Bool.not_eq_true', Bool.not_eq_false', beq_iff_eq, bne_iff_ne, ne_eq, Bool.not_eq_true, Bool.or_eq_true, Bool.and_eq_true, Bool.or_eq_false_iff, Bool.and_eq_false_imp, beq_eq_false_iff_ne, bne_eq_false_iff_eq] at h)
    refine AWP_loopD 1 (γ := {p : Nat × Nat // p.1 ≤ rows.length}) (fun p => ⟨[.sl f 1 (rowsC rows), .any, .v (.slice none 0 0), .v (.int .i64 (flatC rows).length), .any, .any, .ref 0 p.1.2 (flatC (rows.take p.1.1)).length, .any, .any, .any, .any, .any, .any, .any, .any, .any, .any, .any, .any, .any, .any, .any, .any, .any, .any, .sl f 1 (rowsC rows), .v (.int .i64 rows.length), .v (.int .i64 p.1.1), .any, .any, .any, .any, .any, .any, .any, .any], [.ent ⟨p.1.2, some 2, 79, pCells (flatC (rows.take p.1.1)), .cells⟩]⟩) (fun p => rows.length - p.1.1) ⟨(0, 0), by omega⟩ (fun p => rfl) (fun p => clsd_all (by simp only [List.map_cons, List.map_nil, renSlot, ren_pCells])) (fun p => rfl) ⟨?_, ?_⟩ ?_
    · simp only [List.take_zero, flatC, List.flatMap_nil, List.length_nil]
      exact Lq
    · simp only [List.take_zero, flatC, List.flatMap_nil, pCells, List.map_nil]
      exact Fq
    rintro ⟨⟨i, g⟩, hi⟩
    simp only at hi ⊢
    by_cases hlt : (i : Int) < (rows.length : Int)
    · have hx : rows[i]? = some rows[i] := List.getElem?_eq_getElem (by omega)
      obtain ⟨r, hr0⟩ : ∃ r, rows[i] = r := ⟨_, rfl⟩
      rw [hr0] at hx
      have hst := flatC_take hx
      have hbd := flatC_le rows (i + 1)
      rw [hst, List.length_append] at hbd
      obtain ⟨L, hL⟩ : ∃ L, flatC (rows.take i) = L := ⟨_, rfl⟩
      rw [hL] at hbd hst ⊢
      have hlC := pCells_length L
      have htC : (pCells L).take (L.length * 2) = pCells L := List.take_of_length_le (by omega)
      have hbm : Nat.beq g g = true := Nat.beq_refl g
      obtain ⟨fr, xr⟩ := r
      cases xr with
      | nil =>
        simp only [List.append_nil] at hst
        repeat' first | (with_reducible first | refine AWP_seq' ?_ | refine k_normal ?_ | refine k_ret ?_ | refine k_exit ?_ | refine b_normal ?_ | refine b_ret ?_ | refine b_exit ?_ | refine b_pass rfl ?_ | refine AWP_ret ?_ | refine AWP_skip ?_ | refine AWP_exit ?_ | refine AWP_block ?_) | ((with_reducible refine And.intro ?_ ?_); · exact Sq) | ((first | with_reducible refine AWP_reg fun KC J hJ hKC => ?_ | with_reducible refine AWP_regD rfl fun KC J hJ hKC => ?_ | (refine' hKC _ _ _ _ _ (callV0 (growA_fn _ ?_ ?_) rfl rfl rfl ?_ ?_); (rotate_left 3); (· exact Lq); (rotate_left 1); (iterate 2 (· exact Hq))) | (refine' hKC _ _ _ _ _ (callV0 (growA0_fn) rfl rfl rfl ?_ ?_); (· exact Lq))); simp (maxSteps := 10000000) only [push_cast, seval, ↓reduceIte, hlt, getE_rowsC hx, pRow_nil, hbm, hlC, htC, wrapN (i := i) (n := rows.length) (by omega) (by omega)]) | ((first | with_reducible refine hJ _ _ ?_ | (with_reducible refine hJ _ _ ?_ ?_; · kernel_rfl)); clear hJ hKC KC J) | ((with_reducible refine AWP_condT ?_ ?_); · rfl) | ((with_reducible refine AWP_condF ?_ ?_); · rfl) | ((with_reducible refine ite_intro (fun hs => ?_) (fun hs => ?_)) <;> (try simp only [Bool.not_eq_true, Bool.not_eq_false, Bool.not_eq_true', Bool.not_eq_false', Decidable.not_not, decide_eq_true_eq, decide_eq_false_iff_not] at hs) <;> (try simp (maxSteps := 10000000) only [push_cast, seval, ↓reduceIte, hs, hlt, getE_rowsC hx, pRow_nil, hbm, hlC, htC, wrapN (i := i) (n := rows.length) (by omega) (by omega)])) | (refine AWP_cond rfl (fun h => ?_) (fun h => ?_) <;> try simp only [decide_eq_true_eq, decide_eq_false_iff_not, Bool.not_eq_true', Bool.not_eq_false', beq_iff_eq, bne_iff_ne, ne_eq, Bool.not_eq_true, Bool.or_eq_true, Bool.and_eq_true, Bool.or_eq_false_iff, Bool.and_eq_false_imp, beq_eq_false_iff_ne, bne_eq_false_iff_eq] at h)
        refine ⟨⟨(i + 1, g), by omega⟩, by simp only; omega, ?_, ?_⟩
        · simp only [hst]
          exact Lq
        · simp only [hst]
          exact ⟨_, rfl⟩
      | cons a xr =>
        have hA := pCells_app L (a :: xr)
        rw [← pRow_flat (a :: xr)] at hA
        simp only [List.length_cons] at hbd
        repeat' first | (with_reducible first | refine AWP_seq' ?_ | refine k_normal ?_ | refine k_ret ?_ | refine k_exit ?_ | refine b_normal ?_ | refine b_ret ?_ | refine b_exit ?_ | refine b_pass rfl ?_ | refine AWP_ret ?_ | refine AWP_skip ?_ | refine AWP_exit ?_ | refine AWP_block ?_) | ((with_reducible refine And.intro ?_ ?_); · exact Sq) | ((first | with_reducible refine AWP_reg fun KC J hJ hKC => ?_ | with_reducible refine AWP_regD rfl fun KC J hJ hKC => ?_ | (refine' hKC _ _ _ _ _ (callV0 (growA_fn _ ?_ ?_) rfl rfl rfl ?_ ?_); (rotate_left 3); (· exact Lq); (rotate_left 1); (iterate 2 (· exact Hq))) | (refine' hKC _ _ _ _ _ (callV0 (growA0_fn) rfl rfl rfl ?_ ?_); (· exact Lq))); simp (maxSteps := 10000000) only [push_cast, seval, ↓reduceIte, hlt, getE_rowsC hx, isNilL_pRowC, hbm, hlC, htC, wrapN (i := i) (n := rows.length) (by omega) (by omega)]) | ((first | with_reducible refine hJ _ _ ?_ | (with_reducible refine hJ _ _ ?_ ?_; · kernel_rfl)); clear hJ hKC KC J) | ((with_reducible refine AWP_condT ?_ ?_); · rfl) | ((with_reducible refine AWP_condF ?_ ?_); · rfl) | ((with_reducible refine ite_intro (fun hs => ?_) (fun hs => ?_)) <;> (try simp only [Bool.not_eq_true, Bool.not_eq_false, Bool.not_eq_true', Bool.not_eq_false', Decidable.not_not, decide_eq_true_eq, decide_eq_false_iff_not] at hs) <;> (try simp (maxSteps := 10000000) only [push_cast, seval, ↓reduceIte, hs, hlt, getE_rowsC hx, isNilL_pRowC, hbm, hlC, htC, wrapN (i := i) (n := rows.length) (by omega) (by omega)])) | (refine AWP_cond rfl (fun h => ?_) (fun h => ?_) <;> try simp only [decide_eq_true_eq, decide_eq_false_iff_not, Bool.not_eq_true', Bool.not_eq_false', beq_iff_eq, bne_iff_ne, ne_eq, Bool.not_eq_true, Bool.or_eq_true, Bool.and_eq_true, Bool.or_eq_false_iff, Bool.and_eq_false_imp, beq_eq_false_iff_ne, bne_eq_false_iff_eq] at h)
        refine ⟨⟨(i + 1, g + 1), by omega⟩, by simp only; omega, ?_, ?_⟩
        · simp only [hst, List.length_append, List.length_cons]
          exact Lq
        · simp only [hst, hA]
          exact ⟨_, rfl⟩
    · have hin : i = rows.length := by omega
      subst hin
      rw [List.take_length]
      obtain ⟨L, hL⟩ : ∃ L, flatC rows = L := ⟨_, rfl⟩
      rw [hL] at hb ⊢
      have hlC := pCells_length L
      have hcI := chunk_p L
      have hbm : Nat.beq g g = true := Nat.beq_refl g
      repeat' first | (with_reducible first | refine AWP_seq' ?_ | refine k_normal ?_ | refine k_ret ?_ | refine k_exit ?_ | refine b_normal ?_ | refine b_ret ?_ | refine b_exit ?_ | refine b_pass rfl ?_ | refine AWP_skip ?_ | refine AWP_exit ?_ | refine AWP_block ?_) | ((with_reducible refine And.intro ?_ ?_); · exact Sq) | ((first | with_reducible refine AWP_reg fun KC J hJ hKC => ?_ | with_reducible refine AWP_regD rfl fun KC J hJ hKC => ?_ | (refine' hKC _ _ _ _ _ (callV0 (growA_fn _ ?_ ?_) rfl rfl rfl ?_ ?_); (rotate_left 3); (· exact Lq); (rotate_left 1); (iterate 2 (· exact Hq))) | (refine' hKC _ _ _ _ _ (callV0 (growA0_fn) rfl rfl rfl ?_ ?_); (· exact Lq))); simp (maxSteps := 10000000) only [push_cast, seval, ↓reduceIte, hlt]) | ((first | with_reducible refine hJ _ _ ?_ | (with_reducible refine hJ _ _ ?_ ?_; · kernel_rfl)); clear hJ hKC KC J) | ((with_reducible refine AWP_condT ?_ ?_); · rfl) | ((with_reducible refine AWP_condF ?_ ?_); · rfl) | ((with_reducible refine ite_intro (fun hs => ?_) (fun hs => ?_)) <;> (try simp only [Bool.not_eq_true, Bool.not_eq_false, Bool.not_eq_true', Bool.not_eq_false', Decidable.not_not, decide_eq_true_eq, decide_eq_false_iff_not] at hs) <;> (try simp (maxSteps := 10000000) only [push_cast, seval, ↓reduceIte, hs, hlt])) | (refine AWP_cond rfl (fun h => ?_) (fun h => ?_) <;> try simp only [decide_eq_true_eq, decide_eq_false_iff_not, Bool.not_eq_true', Bool.not_eq_false', beq_iff_eq, bne_iff_ne, ne_eq, Bool.not_eq_true, Bool.or_eq_true, Bool.and_eq_true, Bool.or_eq_false_iff, Bool.and_eq_false_imp, beq_eq_false_iff_ne, bne_eq_false_iff_eq] at h)
      refine AWP_freeze 0 rfl (by simp (maxSteps := 10000000) only [push_cast, seval, ↓reduceIte]) ?_
      simp (maxSteps := 10000000) only [push_cast, seval, ↓reduceIte, frSt, frSlot, fr3, fr2, fr1, fr0, sameB, arrOf, hbm, hlC, hcI]
      refine AWP_ret ?_
      refine ret_plain ?_
      simp (maxSteps := 10000000) only [push_cast, seval, ↓reduceIte, show Try.f293.results = #[(.tmp 2)] from rfl]
      exact leD_refl _
theorem growA0_fn : Fn Try.prog 297 [.v (.slice none 0 0), .v (.int .i64 0)] [] (.v (.slice none 0 0)) [] := by
  refine Fn.of (fn := Try.f297) (by kernel_rfl) rfl (by kernel_rfl) ⟨[.v (.slice none 0 0), .v (.int .i64 0), .v undef, .v undef, .v undef, .v undef, .v undef, .v undef, .v undef, .v undef, .v undef, .v undef, .v undef, .v undef, .v undef, .v undef, .v undef, .v undef, .v undef, .v undef, .v undef, .v undef, .v undef, .v undef, .v undef, .v undef, .v undef], []⟩ rfl ?_
  have h4 : IntKind.i64.wrap 0 = 0 := by rw [IntKind.wrap_i64]; rfl
  repeat' first | (with_reducible first | refine AWP_seq' ?_ | refine k_normal ?_ | refine k_ret ?_ | refine k_exit ?_ | refine b_normal ?_ | refine b_ret ?_ | refine b_exit ?_ | refine b_pass rfl ?_ | refine AWP_ret ?_ | refine AWP_skip ?_ | refine AWP_exit ?_ | refine AWP_block ?_) | ((with_reducible refine And.intro ?_ ?_); · exact Sq) | ((first | with_reducible refine AWP_reg fun KC J hJ hKC => ?_ | with_reducible refine AWP_regD rfl fun KC J hJ hKC => ?_); simp (maxSteps := 10000000) only [push_cast, seval, ↓reduceIte, h4, Int.sub_zero]) | ((first | with_reducible refine hJ _ _ ?_ | (with_reducible refine hJ _ _ ?_ ?_; · kernel_rfl)); clear hJ hKC KC J) | ((with_reducible refine AWP_condT ?_ ?_); · rfl) | ((with_reducible refine AWP_condF ?_ ?_); · rfl) | ((with_reducible refine ite_intro (fun hs => ?_) (fun hs => ?_)) <;> (try simp only [Bool.not_eq_true, Bool.not_eq_false, Bool.not_eq_true', Bool.not_eq_false', Decidable.not_not, decide_eq_true_eq, decide_eq_false_iff_not] at hs) <;> (try simp (maxSteps := 10000000) only [push_cast, seval, ↓reduceIte, hs, h4, Int.sub_zero])) | (refine AWP_cond rfl (fun h => ?_) (fun h => ?_) <;> try simp only [decide_eq_true_eq, decide_eq_false_iff_not, Bool.not_eq_true', Bool.not_eq_false', beq_iff_eq, bne_iff_ne, ne_eq, Bool.not_eq_true, Bool.or_eq_true, Bool.and_eq_true, Bool.or_eq_false_iff, Bool.and_eq_false_imp, beq_eq_false_iff_ne, bne_eq_false_iff_eq] at h)
  refine ret_plain ?_
  simp (maxSteps := 10000000) only [push_cast, seval, ↓reduceIte, show Try.f297.results = #[(.tmp 4)] from rfl]
  exact Lq
theorem concatA0_fn (f : Bool) (rows : List (Bool × List (Int × Int))) (h0 : ∀ r ∈ rows, r.2 = []) (hr : rows.length ≤ 1000) :
    Fn Try.prog 293 [.sl f 1 (rowsC rows)] [] (.sl false 2 (pRow [])) [] := by
  have hg := growA0_fn
  refine Fn.of (fn := Try.f293) (by kernel_rfl) rfl (by kernel_rfl) ⟨[.sl f 1 (rowsC rows), .v undef, .v undef, .v undef, .v undef, .v undef, .v undef, .v undef, .v undef, .v undef, .v undef, .v undef, .v undef, .v undef, .v undef, .v undef, .v undef, .v undef, .v undef, .v undef, .v undef, .v undef, .v undef, .v undef, .v undef, .v undef, .v undef, .v undef, .v undef, .v undef, .v undef, .v undef, .v undef, .v undef, .v undef, .v undef], []⟩ rfl ?_
  repeat' first | (with_reducible first | refine AWP_seq' ?_ | refine k_normal ?_ | refine k_ret ?_ | refine k_exit ?_ | refine b_normal ?_ | refine b_ret ?_ | refine b_exit ?_ | refine b_pass rfl ?_ | refine AWP_ret ?_ | refine AWP_skip ?_ | refine AWP_exit ?_ | refine AWP_block ?_) | ((with_reducible refine And.intro ?_ ?_); · exact Sq) | ((first | with_reducible refine AWP_reg fun KC J hJ hKC => ?_ | with_reducible refine AWP_regD rfl fun KC J hJ hKC => ?_); simp (maxSteps := 10000000) only [push_cast, seval, ↓reduceIte]) | ((first | with_reducible refine hJ _ _ ?_ | (with_reducible refine hJ _ _ ?_ ?_; · kernel_rfl)); clear hJ hKC KC J) | ((with_reducible refine AWP_condT ?_ ?_); · rfl) | ((with_reducible refine AWP_condF ?_ ?_); · rfl) | ((with_reducible refine ite_intro (fun hs => ?_) (fun hs => ?_)) <;> (try simp only [Bool.not_eq_true, Bool.not_eq_false, Bool.not_eq_true', Bool.not_eq_false', Decidable.not_not, decide_eq_true_eq, decide_eq_false_iff_not] at hs) <;> (try simp (maxSteps := 10000000) only [push_cast, seval, ↓reduceIte, hs])) | (refine AWP_cond rfl (fun h => ?_) (fun h => ?_) <;> try simp only [decide_eq_true_eq, decide_eq_false_iff_not, Bool.not_eq_true', Bool.not_eq_false', beq_iff_eq, bne_iff_ne, ne_eq, Bool.not_eq_true, Bool.or_eq_true, Bool.and_eq_true, Bool.or_eq_false_iff, Bool.and_eq_false_imp, beq_eq_false_iff_ne, bne_eq_false_iff_eq] at h)
  refine AWP_loopD 0 (γ := {i : Nat // i ≤ rows.length}) (fun i => ⟨[.sl f 1 (rowsC rows), .any, .v (.slice none 0 0), .v (.int .i64 0), .any, .any, .any, .any, .any, .sl f 1 (rowsC rows), .v (.int .i64 rows.length), .v (.int .i64 i.1), .any, .any, .any, .any, .any, .any, .any, .any, .any, .any, .any, .any, .any, .any, .any, .any, .any, .any, .any, .any, .any, .any, .any, .any], []⟩) (fun i => rows.length - i.1) ⟨0, by omega⟩ (fun i => rfl) (fun i => rfl) (fun i => rfl) ⟨?_, Fq⟩ ?_
  · exact Lq
  rintro ⟨i, hi⟩
  by_cases hlt : (i : Int) < (rows.length : Int)
  · have hx : rows[i]? = some rows[i] := List.getElem?_eq_getElem (by omega)
    have he := h0 rows[i] (List.getElem_mem (by omega))
    obtain ⟨⟨fr, xr⟩, hr0⟩ : ∃ r, rows[i] = r := ⟨_, rfl⟩
    rw [hr0] at hx he
    simp only at he
    subst he
    have hw : IntKind.i64.wrap (0 + 0) = 0 := by rw [IntKind.wrap_i64]; rfl
    have hw2 : IntKind.i64.wrap 0 = 0 := by rw [IntKind.wrap_i64]; rfl
    repeat' first | (with_reducible first | refine AWP_seq' ?_ | refine k_normal ?_ | refine k_ret ?_ | refine k_exit ?_ | refine b_normal ?_ | refine b_ret ?_ | refine b_exit ?_ | refine b_pass rfl ?_ | refine AWP_ret ?_ | refine AWP_skip ?_ | refine AWP_exit ?_ | refine AWP_block ?_) | ((with_reducible refine And.intro ?_ ?_); · exact Sq) | ((first | with_reducible refine AWP_reg fun KC J hJ hKC => ?_ | with_reducible refine AWP_regD rfl fun KC J hJ hKC => ?_); simp (maxSteps := 10000000) only [push_cast, seval, ↓reduceIte, hlt, getE_rowsC hx, hw, hw2, pRow_nil, List.length_nil, Int.add_zero, wrapN (i := i) (n := rows.length) (by omega) (by omega)]) | ((first | with_reducible refine hJ _ _ ?_ | (with_reducible refine hJ _ _ ?_ ?_; · kernel_rfl)); clear hJ hKC KC J) | ((with_reducible refine AWP_condT ?_ ?_); · rfl) | ((with_reducible refine AWP_condF ?_ ?_); · rfl) | ((with_reducible refine ite_intro (fun hs => ?_) (fun hs => ?_)) <;> (try simp only [Bool.not_eq_true, Bool.not_eq_false, Bool.not_eq_true', Bool.not_eq_false', Decidable.not_not, decide_eq_true_eq, decide_eq_false_iff_not] at hs) <;> (try simp (maxSteps := 10000000) only [push_cast, seval, ↓reduceIte, hs, hlt, getE_rowsC hx, hw, hw2, pRow_nil, List.length_nil, Int.add_zero, wrapN (i := i) (n := rows.length) (by omega) (by omega)])) | (refine AWP_cond rfl (fun h => ?_) (fun h => ?_) <;> try simp only [decide_eq_true_eq, decide_eq_false_iff_not, Bool.not_eq_true', Bool.not_eq_false', beq_iff_eq, bne_iff_ne, ne_eq, Bool.not_eq_true, Bool.or_eq_true, Bool.and_eq_true, Bool.or_eq_false_iff, Bool.and_eq_false_imp, beq_eq_false_iff_ne, bne_eq_false_iff_eq] at h)
    refine ⟨⟨i + 1, by omega⟩, by simp only; omega, ?_, ⟨_, rfl⟩⟩
    exact Lq
  · have hin : i = rows.length := by omega
    subst hin
    repeat' first | (with_reducible first | refine AWP_seq' ?_ | refine k_normal ?_ | refine k_ret ?_ | refine k_exit ?_ | refine b_normal ?_ | refine b_ret ?_ | refine b_exit ?_ | refine b_pass rfl ?_ | refine AWP_ret ?_ | refine AWP_skip ?_ | refine AWP_exit ?_ | refine AWP_block ?_) | ((with_reducible refine And.intro ?_ ?_); · exact Sq) | ((first | with_reducible refine AWP_reg fun KC J hJ hKC => ?_ | with_reducible refine AWP_regD rfl fun KC J hJ hKC => ?_ | (refine hKC _ _ _ _ _ (callV0 (hg) rfl rfl rfl ?_ ?_); (· exact Lq))); simp (maxSteps := 10000000) only [push_cast, seval, ↓reduceIte, hlt]) | ((first | with_reducible refine hJ _ _ ?_ | (with_reducible refine hJ _ _ ?_ ?_; · kernel_rfl)); clear hJ hKC KC J) | ((with_reducible refine AWP_condT ?_ ?_); · rfl) | ((with_reducible refine AWP_condF ?_ ?_); · rfl) | ((with_reducible refine ite_intro (fun hs => ?_) (fun hs => ?_)) <;> (try simp only [Bool.not_eq_true, Bool.not_eq_false, Bool.not_eq_true', Bool.not_eq_false', Decidable.not_not, decide_eq_true_eq, decide_eq_false_iff_not] at hs) <;> (try simp (maxSteps := 10000000) only [push_cast, seval, ↓reduceIte, hs, hlt])) | (refine AWP_cond rfl (fun h => ?_) (fun h => ?_) <;> try simp only [decide_eq_true_eq, decide_eq_false_iff_not, Bool.not_eq_true', Bool.not_eq_false', beq_iff_eq, bne_iff_ne, ne_eq, Bool.not_eq_true, Bool.or_eq_true, Bool.and_eq_true, Bool.or_eq_false_iff, Bool.and_eq_false_imp, beq_eq_false_iff_ne, bne_eq_false_iff_eq] at h)
    refine AWP_loopD 0 (γ := {i : Nat // i ≤ rows.length}) (fun i => ⟨[.sl f 1 (rowsC rows), .any, .v (.slice none 0 0), .any, .any, .any, .v (.slice none 0 0), .any, .any, .any, .any, .any, .any, .any, .any, .any, .any, .any, .any, .any, .any, .any, .any, .any, .any, .sl f 1 (rowsC rows), .v (.int .i64 rows.length), .v (.int .i64 i.1), .any, .any, .any, .any, .any, .any, .any, .any], []⟩) (fun i => rows.length - i.1) ⟨0, by omega⟩ (fun i => rfl) (fun i => rfl) (fun i => rfl) ⟨?_, Fq⟩ ?_
    · exact Lq
    rintro ⟨i, hi⟩
    by_cases hlt : (i : Int) < (rows.length : Int)
    · have hx : rows[i]? = some rows[i] := List.getElem?_eq_getElem (by omega)
      have he := h0 rows[i] (List.getElem_mem (by omega))
      obtain ⟨⟨fr, xr⟩, hr0⟩ : ∃ r, rows[i] = r := ⟨_, rfl⟩
      rw [hr0] at hx he
      simp only at he
      subst he
      repeat' first | (with_reducible first | refine AWP_seq' ?_ | refine k_normal ?_ | refine k_ret ?_ | refine k_exit ?_ | refine b_normal ?_ | refine b_ret ?_ | refine b_exit ?_ | refine b_pass rfl ?_ | refine AWP_ret ?_ | refine AWP_skip ?_ | refine AWP_exit ?_ | refine AWP_block ?_) | ((with_reducible refine And.intro ?_ ?_); · exact Sq) | ((first | with_reducible refine AWP_reg fun KC J hJ hKC => ?_ | with_reducible refine AWP_regD rfl fun KC J hJ hKC => ?_); simp (maxSteps := 10000000) only [push_cast, seval, ↓reduceIte, hlt, getE_rowsC hx, pRow_nil, wrapN (i := i) (n := rows.length) (by omega) (by omega)]) | ((first | with_reducible refine hJ _ _ ?_ | (with_reducible refine hJ _ _ ?_ ?_; · kernel_rfl)); clear hJ hKC KC J) | ((with_reducible refine AWP_condT ?_ ?_); · rfl) | ((with_reducible refine AWP_condF ?_ ?_); · rfl) | ((with_reducible refine ite_intro (fun hs => ?_) (fun hs => ?_)) <;> (try simp only [Bool.not_eq_true, Bool.not_eq_false, Bool.not_eq_true', Bool.not_eq_false', Decidable.not_not, decide_eq_true_eq, decide_eq_false_iff_not] at hs) <;> (try simp (maxSteps := 10000000) only [push_cast, seval, ↓reduceIte, hs, hlt, getE_rowsC hx, pRow_nil, wrapN (i := i) (n := rows.length) (by omega) (by omega)])) | (refine AWP_cond rfl (fun h => ?_) (fun h => ?_) <;> try simp only [decide_eq_true_eq, decide_eq_false_iff_not, Bool.not_eq_true', Bool.not_eq_false', beq_iff_eq, bne_iff_ne, ne_eq, Bool.not_eq_true, Bool.or_eq_true, Bool.and_eq_true, Bool.or_eq_false_iff, Bool.and_eq_false_imp, beq_eq_false_iff_ne, bne_eq_false_iff_eq] at h)
      refine ⟨⟨i + 1, by omega⟩, by simp only; omega, ?_, ⟨_, rfl⟩⟩
      exact Lq
    · skip
      repeat' first | (with_reducible first | refine AWP_seq' ?_ | refine k_normal ?_ | refine k_ret ?_ | refine k_exit ?_ | refine b_normal ?_ | refine b_ret ?_ | refine b_exit ?_ | refine b_pass rfl ?_ | refine AWP_ret ?_ | refine AWP_skip ?_ | refine AWP_exit ?_ | refine AWP_block ?_) | ((with_reducible refine And.intro ?_ ?_); · exact Sq) | ((first | with_reducible refine AWP_reg fun KC J hJ hKC => ?_ | with_reducible refine AWP_regD rfl fun KC J hJ hKC => ?_); simp (maxSteps := 10000000) only [push_cast, seval, ↓reduceIte, hlt]) | ((first | with_reducible refine hJ _ _ ?_ | (with_reducible refine hJ _ _ ?_ ?_; · kernel_rfl)); clear hJ hKC KC J) | ((with_reducible refine AWP_condT ?_ ?_); · rfl) | ((with_reducible refine AWP_condF ?_ ?_); · rfl) | ((with_reducible refine ite_intro (fun hs => ?_) (fun hs => ?_)) <;> (try simp only [Bool.not_eq_true, Bool.not_eq_false, Bool.not_eq_true', Bool.not_eq_false', Decidable.not_not, decide_eq_true_eq, decide_eq_false_iff_not] at hs) <;> (try simp (maxSteps := 10000000) only [push_cast, seval, ↓reduceIte, hs, hlt])) | (refine AWP_cond rfl (fun h => ?_) (fun h => ?_) <;> try simp only [decide_eq_true_eq, decide_eq_false_iff_not, Bool.not_eq_true', Bool.not_eq_false', beq_iff_eq, bne_iff_ne, ne_eq, Bool.not_eq_true, Bool.or_eq_true, Bool.and_eq_true, Bool.or_eq_false_iff, Bool.and_eq_false_imp, beq_eq_false_iff_ne, bne_eq_false_iff_eq] at h)
      refine ret_plain ?_
      simp (maxSteps := 10000000) only [push_cast, seval, ↓reduceIte, show Try.f293.results = #[(.tmp 2)] from rfl]
      exact Lq
end Go.Proofs.Ytabliglgeiajlaa.AM

/- The numbers of a state, one after the other. -/
namespace Go.Proofs.Ytabliglgeiajlaa.AM
open Go Go.RowKit Go.Proofs
set_option maxRecDepth 100000
set_option maxHeartbeats 4000000

theorem getS_len (l : List Slot) (x : Slot) (r : List Slot) : getS (l ++ x :: r) l.length = x := by rw [getS_eq, List.getElem?_append_right (Nat.le_refl _)]; simp
theorem getS_len1 (l : List Slot) (x y : Slot) (r : List Slot) : getS (l ++ x :: y :: r) (l.length + 1) = y := by rw [getS_eq, List.getElem?_append_right (by omega)]; simp
theorem set_len (l : List Slot) (x b : Slot) (r : List Slot) : (l ++ x :: r).set l.length b = l ++ b :: r := by simp
theorem set_len1 (l : List Slot) (x y b : Slot) (r : List Slot) : (l ++ x :: y :: r).set (l.length + 1) b = l ++ x :: b :: r := by
  rw [List.set_append_right _ _ (by omega)]; simp
theorem ret_itX {P : Program} {fn : Func} {st : St} {out : List Slot} {m : Nat} (ext : List Slot) {e : Exit} (he : e = .normal ∨ e = .ret) (hr : fn.results = #[]) (hσ : st.σ = out ++ ext) (hcl : Clsd out) (hl : out.length = m) : retK P fn m .any out e st := by
  refine ⟨he, List.range m, True, .tup [], by simp [resD, hr, resAll], trivial, List.nodup_range, fun k hk => by simp [hk], ?_, leD_any⟩
  rw [hσ, ← hl, pick_range_append]; exact hcl
def instQ (x : Int × Int × Int) : Int × Int := (x.2.1, if x.1 = 1 then x.2.2 else -1)
def slotQ (x : Bool × Int × Int) : Int × Int := (x.2.1, x.2.2)
def numsL (s : Sta) : List (Int × Int) := (s.v, s.l) :: (s.code.map instQ ++ ((s.mem ++ s.out) ++ s.stack.map slotQ))
theorem numbers_fn (s : Sta) : Fn Try.prog 272 [.agg (staF false false false false s)] [] (.fn 292 [.fad (staF false false false false s)]) [] := by
  simp only [staF]
  refine Fn.of (fn := Try.f272) (by kernel_rfl) rfl (by kernel_rfl) ⟨[.agg [.v (.int .i64 s.v), .v (.int .i64 s.l), .sl false 3 (tRow s.code), .sl false 2 (pRow s.mem), .sl false 3 (sRow s.stack), .sl false 2 (pRow s.out)], .v undef, .v undef, .v undef], []⟩ rfl ?_
  repeat' first | (with_reducible first | refine AWP_seq' ?_ | refine k_normal ?_ | refine k_ret ?_ | refine k_exit ?_ | refine b_normal ?_ | refine b_ret ?_ | refine b_exit ?_ | refine b_pass rfl ?_ | refine AWP_skip ?_ | refine AWP_exit ?_ | refine AWP_block ?_) | ((with_reducible refine And.intro ?_ ?_); · exact Sq) | ((first | with_reducible refine AWP_reg fun KC J hJ hKC => ?_ | with_reducible refine AWP_regD rfl fun KC J hJ hKC => ?_); simp (maxSteps := 10000000) only [push_cast, seval, ↓reduceIte]) | ((first | with_reducible refine hJ _ _ ?_ | (with_reducible refine hJ _ _ ?_ ?_; · kernel_rfl)); clear hJ hKC KC J) | ((with_reducible refine AWP_condT ?_ ?_); · rfl) | ((with_reducible refine AWP_condF ?_ ?_); · rfl) | ((with_reducible refine ite_intro (fun hs => ?_) (fun hs => ?_)) <;> (try simp only [Bool.not_eq_true, Bool.not_eq_false, Bool.not_eq_true', Bool.not_eq_false', Decidable.not_not, decide_eq_true_eq, decide_eq_false_iff_not] at hs) <;> (try simp (maxSteps := 10000000) only [push_cast, seval, ↓reduceIte, hs])) | (refine AWP_cond rfl (fun h => ?_) (fun h => ?_) <;> try simp only [decide_eq_true_eq, decide_eq_false_iff_not, Bool.not_eq_true', Bool.not_eq_false', beq_iff_eq, bne_iff_ne, ne_eq, Bool.not_eq_true, Bool.or_eq_true, Bool.and_eq_true, Bool.or_eq_false_iff, Bool.and_eq_false_imp, beq_eq_false_iff_ne, bne_eq_false_iff_eq] at h)
  refine AWP_freeze 0 rfl (by simp (maxSteps := 10000000) only [push_cast, seval, ↓reduceIte]) ?_
  simp (maxSteps := 10000000) only [push_cast, seval, ↓reduceIte, frSt, frSlot, fr3, fr2, fr1, fr0, sameB, arrOf, List.drop_zero]
  refine AWP_ret ?_
  refine ret_plain ?_
  simp (maxSteps := 10000000) only [push_cast, seval, ↓reduceIte, show Try.f272.results = #[(.tmp 2)] from rfl]
  exact Lq
theorem nums_atom {s : Sta} {i : Nat} {x : Int × Int} (h : (s.mem ++ s.out)[i]? = some x) : (numsL s)[1 + s.code.length + i]? = some x := by
  have hi := (List.getElem?_eq_some_iff.1 h).1
  rw [numsL, show 1 + s.code.length + i = (s.code.map instQ).length + i + 1 by simp; omega, List.getElem?_cons_succ, List.getElem?_append_right (by omega), show (s.code.map instQ).length + i - (s.code.map instQ).length = i by omega, List.getElem?_append_left hi, h]
theorem nums_slot {s : Sta} {i : Nat} {x : Bool × Int × Int} (h : s.stack[i]? = some x) : (numsL s)[1 + s.code.length + (s.mem ++ s.out).length + i]? = some (slotQ x) := by
  rw [numsL, show 1 + s.code.length + (s.mem ++ s.out).length + i = (s.code.map instQ).length + ((s.mem ++ s.out).length + i) + 1 by rw [List.length_map]; omega, List.getElem?_cons_succ, List.getElem?_append_right (by omega), show (s.code.map instQ).length + ((s.mem ++ s.out).length + i) - (s.code.map instQ).length = (s.mem ++ s.out).length + i by omega, List.getElem?_append_right (by omega), show (s.mem ++ s.out).length + i - (s.mem ++ s.out).length = i by omega, List.getElem?_map, h]; rfl
theorem nums_code {s : Sta} {i : Nat} {x : Int × Int × Int} (h : s.code[i]? = some x) : (numsL s)[1 + i]? = some (instQ x) := by
  have hi := (List.getElem?_eq_some_iff.1 h).1
  rw [numsL, show 1 + i = i + 1 by omega, List.getElem?_cons_succ, List.getElem?_append_left (by simpa using hi), List.getElem?_map, h]; rfl
theorem concat2_fn (a b : List (Int × Int)) (hb : a.length + b.length ≤ 1000) : Fn Try.prog 293 [.sl true 1 [[.sl false 2 (pRow a)], [.sl false 2 (pRow b)]]] [] (.sl false 2 (pRow (a ++ b))) [] := by
  by_cases h : 0 < (a ++ b).length
  · have := concatA_fn true [(false, a), (false, b)] (by simpa [flatC] using h) (by simp [flatC]; omega) (by simp)
    simpa [rowsC, flatC] using this
  · have ha : a = [] := List.length_eq_zero_iff.1 (by rw [List.length_append] at h; omega)
    have hb0 : b = [] := List.length_eq_zero_iff.1 (by rw [List.length_append] at h; omega)
    subst ha
    subst hb0
    exact concatA0_fn true [(false, []), (false, [])] (by simp) (by simp)
theorem numbers_it (s : Sta) (hs : Sml15 s) :
    ItFn Try.prog 292 [.fad (staF false false false false s)] (numsL s).length (fun i => [.v (.int .i64 ((numsL s).getD i (0, 0)).1), .v (.int .i64 ((numsL s).getD i (0, 0)).2)]) := by
  intro m inv ok frr rr hrec hcl hlen hy n hn
  obtain ⟨b1, b2, b3, b4⟩ := hs
  simp only [staF]
  refine Fn.of (fn := Try.f292) (by kernel_rfl) rfl (by kernel_rfl) ⟨[.kref false m 0, .fad [.v (.int .i64 s.v), .v (.int .i64 s.l), .sl false 3 (tRow s.code), .sl false 2 (pRow s.mem), .sl false 3 (sRow s.stack), .sl false 2 (pRow s.out)], .v undef, .v undef, .v undef, .v undef, .v undef, .v undef, .v undef, .v undef, .v undef, .v undef, .v undef, .v undef, .v undef, .v undef, .v undef, .v undef, .v undef, .v undef, .v undef, .v undef, .v undef, .v undef, .v undef, .v undef, .v undef, .v undef, .v undef, .v undef, .v undef, .v undef, .v undef, .v undef, .v undef, .v undef, .v undef, .v undef, .v undef, .v undef, .v undef, .v undef, .v undef, .v undef, .v undef, .v undef, .v undef, .v undef, .v undef, .v undef, .v undef, .v undef, .v undef, .v undef, .v undef, .v undef, .v undef, .v undef, .v undef, .v undef, .v undef, .v undef, .v undef, .v undef, .v undef, .v undef, .v undef, .v undef, .v undef, .v undef, .v undef, .v undef], inv 0⟩ rfl ?_
  have hyi := hy 0 (by simp [numsL]) (fun j hj => by omega)
  simp only [numsL, List.getD_cons_zero] at hyi
  have hL : (inv (0 + 1)).length = (inv 0).length := by rw [hlen, hlen]
  have hset := setsF_pre (rest := [Slot.free]) hL
  cases hok0 : ok 0 with
  | false =>
    rw [hok0] at hyi
    have hok : ∀ j, j < 0 → ok j = true := fun j hj => by omega
    repeat' first | (with_reducible first | refine AWP_seq' ?_ | refine k_normal ?_ | refine k_ret ?_ | refine k_exit ?_ | refine b_normal ?_ | refine b_ret ?_ | refine b_exit ?_ | refine b_pass rfl ?_ | refine AWP_ret ?_ | refine AWP_skip ?_ | refine AWP_exit ?_ | refine AWP_block ?_) | ((with_reducible refine And.intro ?_ ?_); · exact Sq) | ((first | with_reducible refine AWP_reg fun KC J hJ hKC => ?_ | with_reducible refine AWP_regD rfl fun KC J hJ hKC => ?_ | (refine hKC _ _ _ _ _ (callY hyi (hrec 0) (hcl 0) (hcl (0 + 1)) hL rfl (Nat.le_refl _) rfl rfl rfl rfl ?_))); simp (maxSteps := 10000000) only [push_cast, seval, ↓reduceIte, hset]) | ((first | with_reducible refine hJ _ _ ?_ | (with_reducible refine hJ _ _ ?_ ?_; · kernel_rfl)); clear hJ hKC KC J) | ((with_reducible refine AWP_condT ?_ ?_); · rfl) | ((with_reducible refine AWP_condF ?_ ?_); · rfl) | ((with_reducible refine ite_intro (fun hs => ?_) (fun hs => ?_)) <;> (try simp only [Bool.not_eq_true, Bool.not_eq_false, Bool.not_eq_true', Bool.not_eq_false', Decidable.not_not, decide_eq_true_eq, decide_eq_false_iff_not] at hs) <;> (try simp (maxSteps := 10000000) only [push_cast, seval, ↓reduceIte, hs, hset])) | (refine AWP_cond rfl (fun h => ?_) (fun h => ?_) <;> try simp only [decide_eq_true_eq, decide_eq_false_iff_not, Bool.not_eq_true', Bool.not_eq_false', beq_iff_eq, bne_iff_ne, ne_eq, Bool.not_eq_true, Bool.or_eq_true, Bool.and_eq_true, Bool.or_eq_false_iff, Bool.and_eq_false_imp, beq_eq_false_iff_ne, bne_eq_false_iff_eq] at h)
    have hni : n = 0 + 1 := by
      rcases hn with ⟨h1, h2⟩ | ⟨k, h1, h2, h3, h4⟩
      · have := h2 (0) (by rw [h1]; simp [numsL] <;> omega); rw [hok0] at this; cases this
      · rcases Nat.lt_trichotomy k (0) with h | h | h
        · have := hok k h; rw [h3] at this; cases this
        · omega
        · have := h4 (0) h; rw [hok0] at this; cases this
    rw [hni, hlen]
    exact ret_itX [.free] (.inr rfl) rfl rfl (hcl _) (by rw [hlen])
  | true =>
    rw [hok0] at hyi
    have hok : ∀ j, j < 1 + 0 → ok j = true := fun j hj => by rw [show j = 0 by omega]; exact hok0
    repeat' first | (with_reducible first | refine AWP_seq' ?_ | refine k_normal ?_ | refine k_ret ?_ | refine k_exit ?_ | refine b_normal ?_ | refine b_ret ?_ | refine b_exit ?_ | refine b_pass rfl ?_ | refine AWP_ret ?_ | refine AWP_skip ?_ | refine AWP_exit ?_ | refine AWP_block ?_) | ((with_reducible refine And.intro ?_ ?_); · exact Sq) | ((first | with_reducible refine AWP_reg fun KC J hJ hKC => ?_ | with_reducible refine AWP_regD rfl fun KC J hJ hKC => ?_ | (refine hKC _ _ _ _ _ (callY hyi (hrec 0) (hcl 0) (hcl (0 + 1)) hL rfl (Nat.le_refl _) rfl rfl rfl rfl ?_))); simp (maxSteps := 10000000) only [push_cast, seval, ↓reduceIte, hset]) | ((first | with_reducible refine hJ _ _ ?_ | (with_reducible refine hJ _ _ ?_ ?_; · kernel_rfl)); clear hJ hKC KC J) | ((with_reducible refine AWP_condT ?_ ?_); · rfl) | ((with_reducible refine AWP_condF ?_ ?_); · rfl) | ((with_reducible refine ite_intro (fun hs => ?_) (fun hs => ?_)) <;> (try simp only [Bool.not_eq_true, Bool.not_eq_false, Bool.not_eq_true', Bool.not_eq_false', Decidable.not_not, decide_eq_true_eq, decide_eq_false_iff_not] at hs) <;> (try simp (maxSteps := 10000000) only [push_cast, seval, ↓reduceIte, hs, hset])) | (refine AWP_cond rfl (fun h => ?_) (fun h => ?_) <;> try simp only [decide_eq_true_eq, decide_eq_false_iff_not, Bool.not_eq_true', Bool.not_eq_false', beq_iff_eq, bne_iff_ne, ne_eq, Bool.not_eq_true, Bool.or_eq_true, Bool.and_eq_true, Bool.or_eq_false_iff, Bool.and_eq_false_imp, beq_eq_false_iff_ne, bne_eq_false_iff_eq] at h)
    refine AWP_loopD (m + 1) (γ := {i : Nat // i ≤ s.code.length ∧ ∀ j, j < 1 + i → ok j = true}) (fun i => ⟨[.kref false m 0, .fad [.v (.int .i64 s.v), .v (.int .i64 s.l), .sl false 3 (tRow s.code), .sl false 2 (pRow s.mem), .sl false 3 (sRow s.stack), .sl false 2 (pRow s.out)], .any, .any, .any, .any, .any, .any, .any, .any, .any, .any, .any, .any, .any, .any, .any, .any, .any, .any, .sl false 3 (tRow s.code), .v (.int .i64 s.code.length), .v (.int .i64 i.1), .any, .any, .any, .any, .any, .any, .any, .any, .any, .any, .any, .any, .any, .any, .any, .any, .any, .any, .any, .any, .any, .any, .any, .any, .any, .any, .any, .any, .any, .any, .any, .any, .any, .any, .any, .any, .any, .any, .any, .any, .any, .any, .any, .any, .any, .any, .any, .any, .any], inv (1 + i.1)⟩) (fun i => s.code.length - i.1) ⟨0, by omega, hok⟩ (fun i => hlen _) (fun i => hcl _) (fun i => ?_) ⟨?_, ?_⟩ ?_
    · simp only [List.map_cons, List.map_nil, ren, ren2, ren1, ren0, mOf_range, Nat.lt_succ_self, if_true]
    · exact Lq
    · exact Fq
    clear hok
    rintro ⟨i, hi, hok⟩
    dsimp only
    by_cases hlt : (i : Int) < (s.code.length : Int)
    · have hx : s.code[i]? = some s.code[i] := List.getElem?_eq_getElem (by omega)
      obtain ⟨x, hxx⟩ : ∃ x, s.code[i] = x := ⟨_, rfl⟩
      rw [hxx] at hx
      have hyi := hy (1 + i) (by simp [numsL]; omega) hok
      have hat : (numsL s).getD (1 + i) (0, 0) = instQ x := by
        rw [List.getD_eq_getElem?_getD, nums_code hx]; rfl
      simp only [hat] at hyi
      obtain ⟨K, hK⟩ : ∃ K, 1 + i = K := ⟨_, rfl⟩
      have hK1 : 1 + (i + 1) = K + 1 := by omega
      rw [hK] at hyi hok ⊢
      have hL : (inv (K + 1)).length = (inv K).length := by rw [hlen, hlen]
      by_cases h1 : x.1 = 1
      · have h1' : (x.1 == 1) = true := by simpa using h1
        simp only [instQ, if_pos h1] at hyi
        have hset := setsF_pre (rest := [Slot.ent ⟨0, none, 172, [.v (.int .i64 x.1), .v (.int .i64 x.2.1), .v (.int .i64 x.2.2)], .cells⟩, Slot.free]) hL
        cases hoki : ok K with
        | true =>
          rw [hoki] at hyi
          repeat' first | (with_reducible first | refine AWP_seq' ?_ | refine k_normal ?_ | refine k_ret ?_ | refine k_exit ?_ | refine b_normal ?_ | refine b_ret ?_ | refine b_exit ?_ | refine b_pass rfl ?_ | refine AWP_ret ?_ | refine AWP_skip ?_ | refine AWP_exit ?_ | refine AWP_block ?_) | ((with_reducible refine And.intro ?_ ?_); · exact Sq) | ((first | with_reducible refine AWP_reg fun KC J hJ hKC => ?_ | with_reducible refine AWP_regD rfl fun KC J hJ hKC => ?_ | (refine hKC _ _ _ _ _ (callY hyi (hrec K) (hcl K) (hcl (K + 1)) hL rfl (Nat.le_succ _) rfl rfl rfl rfl ?_))); simp (maxSteps := 10000000) only [push_cast, seval, ↓reduceIte, hlt, h1', getE_t hx, hset, getS_len, getS_len1, set_len, set_len1, List.append_assoc, List.cons_append, List.nil_append, wrapN (i := i) (n := s.code.length) (by omega) (by omega)]) | ((first | with_reducible refine hJ _ _ ?_ | (with_reducible refine hJ _ _ ?_ ?_; · kernel_rfl)); clear hJ hKC KC J) | ((with_reducible refine AWP_condT ?_ ?_); · rfl) | ((with_reducible refine AWP_condF ?_ ?_); · rfl) | ((with_reducible refine ite_intro (fun hs => ?_) (fun hs => ?_)) <;> (try simp only [Bool.not_eq_true, Bool.not_eq_false, Bool.not_eq_true', Bool.not_eq_false', Decidable.not_not, decide_eq_true_eq, decide_eq_false_iff_not] at hs) <;> (try simp (maxSteps := 10000000) only [push_cast, seval, ↓reduceIte, hs, hlt, h1', getE_t hx, hset, getS_len, getS_len1, set_len, set_len1, List.append_assoc, List.cons_append, List.nil_append, wrapN (i := i) (n := s.code.length) (by omega) (by omega)])) | (refine AWP_cond rfl (fun h => ?_) (fun h => ?_) <;> try simp only [decide_eq_true_eq, decide_eq_false_iff_not, Bool.not_eq_true', Bool.not_eq_false', beq_iff_eq, bne_iff_ne, ne_eq, Bool.not_eq_true, Bool.or_eq_true, Bool.and_eq_true, Bool.or_eq_false_iff, Bool.and_eq_false_imp, beq_eq_false_iff_ne, bne_eq_false_iff_eq] at h)
          refine ⟨⟨i + 1, by omega, fun j hj => ?_⟩, by simp only; omega, ?_, ?_⟩
          · by_cases he : j = K
            · rw [he]; exact hoki
            · exact hok j (by omega)
          · exact Lq
          · simp only [hK1]; exact ⟨_, rfl⟩
        | false =>
          rw [hoki] at hyi
          repeat' first | (with_reducible first | refine AWP_seq' ?_ | refine k_normal ?_ | refine k_ret ?_ | refine k_exit ?_ | refine b_normal ?_ | refine b_ret ?_ | refine b_exit ?_ | refine b_pass rfl ?_ | refine AWP_ret ?_ | refine AWP_skip ?_ | refine AWP_exit ?_ | refine AWP_block ?_) | ((with_reducible refine And.intro ?_ ?_); · exact Sq) | ((first | with_reducible refine AWP_reg fun KC J hJ hKC => ?_ | with_reducible refine AWP_regD rfl fun KC J hJ hKC => ?_ | (refine hKC _ _ _ _ _ (callY hyi (hrec K) (hcl K) (hcl (K + 1)) hL rfl (Nat.le_succ _) rfl rfl rfl rfl ?_))); simp (maxSteps := 10000000) only [push_cast, seval, ↓reduceIte, hlt, h1', getE_t hx, hset, getS_len, getS_len1, set_len, set_len1, List.append_assoc, List.cons_append, List.nil_append, wrapN (i := i) (n := s.code.length) (by omega) (by omega)]) | ((first | with_reducible refine hJ _ _ ?_ | (with_reducible refine hJ _ _ ?_ ?_; · kernel_rfl)); clear hJ hKC KC J) | ((with_reducible refine AWP_condT ?_ ?_); · rfl) | ((with_reducible refine AWP_condF ?_ ?_); · rfl) | ((with_reducible refine ite_intro (fun hs => ?_) (fun hs => ?_)) <;> (try simp only [Bool.not_eq_true, Bool.not_eq_false, Bool.not_eq_true', Bool.not_eq_false', Decidable.not_not, decide_eq_true_eq, decide_eq_false_iff_not] at hs) <;> (try simp (maxSteps := 10000000) only [push_cast, seval, ↓reduceIte, hs, hlt, h1', getE_t hx, hset, getS_len, getS_len1, set_len, set_len1, List.append_assoc, List.cons_append, List.nil_append, wrapN (i := i) (n := s.code.length) (by omega) (by omega)])) | (refine AWP_cond rfl (fun h => ?_) (fun h => ?_) <;> try simp only [decide_eq_true_eq, decide_eq_false_iff_not, Bool.not_eq_true', Bool.not_eq_false', beq_iff_eq, bne_iff_ne, ne_eq, Bool.not_eq_true, Bool.or_eq_true, Bool.and_eq_true, Bool.or_eq_false_iff, Bool.and_eq_false_imp, beq_eq_false_iff_ne, bne_eq_false_iff_eq] at h)
          have hni : n = K + 1 := by
            rcases hn with ⟨h1, h2⟩ | ⟨k, h1, h2, h3, h4⟩
            · have := h2 (K) (by rw [h1]; simp [numsL] <;> omega); rw [hoki] at this; cases this
            · rcases Nat.lt_trichotomy k (K) with h | h | h
              · have := hok k h; rw [h3] at this; cases this
              · omega
              · have := h4 (K) h; rw [hoki] at this; cases this
          rw [hni, hlen]
          exact ret_itX [_, _] (.inr rfl) rfl rfl (hcl _) (by rw [hlen])
      · have h1' : (x.1 == 1) = false := by simpa using h1
        simp only [instQ, if_neg h1] at hyi
        have hset := setsF_pre (rest := [Slot.ent ⟨0, none, 172, [.v (.int .i64 x.1), .v (.int .i64 x.2.1), .v (.int .i64 x.2.2)], .cells⟩, Slot.free]) hL
        cases hoki : ok K with
        | true =>
          rw [hoki] at hyi
          repeat' first | (with_reducible first | refine AWP_seq' ?_ | refine k_normal ?_ | refine k_ret ?_ | refine k_exit ?_ | refine b_normal ?_ | refine b_ret ?_ | refine b_exit ?_ | refine b_pass rfl ?_ | refine AWP_ret ?_ | refine AWP_skip ?_ | refine AWP_exit ?_ | refine AWP_block ?_) | ((with_reducible refine And.intro ?_ ?_); · exact Sq) | ((first | with_reducible refine AWP_reg fun KC J hJ hKC => ?_ | with_reducible refine AWP_regD rfl fun KC J hJ hKC => ?_ | (refine hKC _ _ _ _ _ (callY hyi (hrec K) (hcl K) (hcl (K + 1)) hL rfl (Nat.le_succ _) rfl rfl rfl rfl ?_))); simp (maxSteps := 10000000) only [push_cast, seval, ↓reduceIte, hlt, h1', getE_t hx, hset, getS_len, getS_len1, set_len, set_len1, List.append_assoc, List.cons_append, List.nil_append, wrapN (i := i) (n := s.code.length) (by omega) (by omega)]) | ((first | with_reducible refine hJ _ _ ?_ | (with_reducible refine hJ _ _ ?_ ?_; · kernel_rfl)); clear hJ hKC KC J) | ((with_reducible refine AWP_condT ?_ ?_); · rfl) | ((with_reducible refine AWP_condF ?_ ?_); · rfl) | ((with_reducible refine ite_intro (fun hs => ?_) (fun hs => ?_)) <;> (try simp only [Bool.not_eq_true, Bool.not_eq_false, Bool.not_eq_true', Bool.not_eq_false', Decidable.not_not, decide_eq_true_eq, decide_eq_false_iff_not] at hs) <;> (try simp (maxSteps := 10000000) only [push_cast, seval, ↓reduceIte, hs, hlt, h1', getE_t hx, hset, getS_len, getS_len1, set_len, set_len1, List.append_assoc, List.cons_append, List.nil_append, wrapN (i := i) (n := s.code.length) (by omega) (by omega)])) | (refine AWP_cond rfl (fun h => ?_) (fun h => ?_) <;> try simp only [decide_eq_true_eq, decide_eq_false_iff_not, Bool.not_eq_true', Bool.not_eq_false', beq_iff_eq, bne_iff_ne, ne_eq, Bool.not_eq_true, Bool.or_eq_true, Bool.and_eq_true, Bool.or_eq_false_iff, Bool.and_eq_false_imp, beq_eq_false_iff_ne, bne_eq_false_iff_eq] at h)
          refine ⟨⟨i + 1, by omega, fun j hj => ?_⟩, by simp only; omega, ?_, ?_⟩
          · by_cases he : j = K
            · rw [he]; exact hoki
            · exact hok j (by omega)
          · exact Lq
          · simp only [hK1]; exact ⟨_, rfl⟩
        | false =>
          rw [hoki] at hyi
          repeat' first | (with_reducible first | refine AWP_seq' ?_ | refine k_normal ?_ | refine k_ret ?_ | refine k_exit ?_ | refine b_normal ?_ | refine b_ret ?_ | refine b_exit ?_ | refine b_pass rfl ?_ | refine AWP_ret ?_ | refine AWP_skip ?_ | refine AWP_exit ?_ | refine AWP_block ?_) | ((with_reducible refine And.intro ?_ ?_); · exact Sq) | ((first | with_reducible refine AWP_reg fun KC J hJ hKC => ?_ | with_reducible refine AWP_regD rfl fun KC J hJ hKC => ?_ | (refine hKC _ _ _ _ _ (callY hyi (hrec K) (hcl K) (hcl (K + 1)) hL rfl (Nat.le_succ _) rfl rfl rfl rfl ?_))); simp (maxSteps := 10000000) only [push_cast, seval, ↓reduceIte, hlt, h1', getE_t hx, hset, getS_len, getS_len1, set_len, set_len1, List.append_assoc, List.cons_append, List.nil_append, wrapN (i := i) (n := s.code.length) (by omega) (by omega)]) | ((first | with_reducible refine hJ _ _ ?_ | (with_reducible refine hJ _ _ ?_ ?_; · kernel_rfl)); clear hJ hKC KC J) | ((with_reducible refine AWP_condT ?_ ?_); · rfl) | ((with_reducible refine AWP_condF ?_ ?_); · rfl) | ((with_reducible refine ite_intro (fun hs => ?_) (fun hs => ?_)) <;> (try simp only [Bool.not_eq_true, Bool.not_eq_false, Bool.not_eq_true', Bool.not_eq_false', Decidable.not_not, decide_eq_true_eq, decide_eq_false_iff_not] at hs) <;> (try simp (maxSteps := 10000000) only [push_cast, seval, ↓reduceIte, hs, hlt, h1', getE_t hx, hset, getS_len, getS_len1, set_len, set_len1, List.append_assoc, List.cons_append, List.nil_append, wrapN (i := i) (n := s.code.length) (by omega) (by omega)])) | (refine AWP_cond rfl (fun h => ?_) (fun h => ?_) <;> try simp only [decide_eq_true_eq, decide_eq_false_iff_not, Bool.not_eq_true', Bool.not_eq_false', beq_iff_eq, bne_iff_ne, ne_eq, Bool.not_eq_true, Bool.or_eq_true, Bool.and_eq_true, Bool.or_eq_false_iff, Bool.and_eq_false_imp, beq_eq_false_iff_ne, bne_eq_false_iff_eq] at h)
          have hni : n = K + 1 := by
            rcases hn with ⟨h1, h2⟩ | ⟨k, h1, h2, h3, h4⟩
            · have := h2 (K) (by rw [h1]; simp [numsL] <;> omega); rw [hoki] at this; cases this
            · rcases Nat.lt_trichotomy k (K) with h | h | h
              · have := hok k h; rw [h3] at this; cases this
              · omega
              · have := h4 (K) h; rw [hoki] at this; cases this
          rw [hni, hlen]
          exact ret_itX [_, _] (.inr rfl) rfl rfl (hcl _) (by rw [hlen])
    have hin : i = s.code.length := by omega
    subst hin
    have hcc : Fn Try.prog 293 [.sl true 1 [[.sl false 2 (pRow s.mem)], [.sl false 2 (pRow s.out)]]] [] (.sl false 2 (pRow (s.mem ++ s.out))) [] := concat2_fn s.mem s.out (by omega)
    obtain ⟨A, hA⟩ : ∃ A, s.mem ++ s.out = A := ⟨_, rfl⟩
    have hAl : A.length = s.mem.length + s.out.length := by rw [← hA, List.length_append]
    have hnA : (numsL s).length = 1 + s.code.length + A.length + s.stack.length := by rw [hAl]; simp [numsL]; omega
    have nums_atomA : ∀ {i : Nat} {x : Int × Int}, A[i]? = some x → (numsL s)[1 + s.code.length + i]? = some x := fun h => nums_atom (by rw [hA]; exact h)
    have nums_slotA : ∀ {i : Nat} {x : Bool × Int × Int}, s.stack[i]? = some x → (numsL s)[1 + s.code.length + A.length + i]? = some (slotQ x) := fun h => by rw [← hA]; exact nums_slot h
    rw [hA] at hcc
    repeat' first | (with_reducible first | refine AWP_seq' ?_ | refine k_normal ?_ | refine k_ret ?_ | refine k_exit ?_ | refine b_normal ?_ | refine b_ret ?_ | refine b_exit ?_ | refine b_pass rfl ?_ | refine AWP_ret ?_ | refine AWP_skip ?_ | refine AWP_exit ?_ | refine AWP_block ?_) | ((with_reducible refine And.intro ?_ ?_); · exact Sq) | ((first | with_reducible refine AWP_reg fun KC J hJ hKC => ?_ | with_reducible refine AWP_regD rfl fun KC J hJ hKC => ?_ | (refine hKC _ _ _ _ _ (callV0 (hcc) rfl rfl rfl ?_ ?_); (· exact Lq))); simp (maxSteps := 10000000) only [push_cast, seval, ↓reduceIte, hlt]) | ((first | with_reducible refine hJ _ _ ?_ | (with_reducible refine hJ _ _ ?_ ?_; · kernel_rfl)); clear hJ hKC KC J) | ((with_reducible refine AWP_condT ?_ ?_); · rfl) | ((with_reducible refine AWP_condF ?_ ?_); · rfl) | ((with_reducible refine ite_intro (fun hs => ?_) (fun hs => ?_)) <;> (try simp only [Bool.not_eq_true, Bool.not_eq_false, Bool.not_eq_true', Bool.not_eq_false', Decidable.not_not, decide_eq_true_eq, decide_eq_false_iff_not] at hs) <;> (try simp (maxSteps := 10000000) only [push_cast, seval, ↓reduceIte, hs, hlt])) | (refine AWP_cond rfl (fun h => ?_) (fun h => ?_) <;> try simp only [decide_eq_true_eq, decide_eq_false_iff_not, Bool.not_eq_true', Bool.not_eq_false', beq_iff_eq, bne_iff_ne, ne_eq, Bool.not_eq_true, Bool.or_eq_true, Bool.and_eq_true, Bool.or_eq_false_iff, Bool.and_eq_false_imp, beq_eq_false_iff_ne, bne_eq_false_iff_eq] at h)
    clear hlt
    refine AWP_loopD (m + 1) (γ := {i : Nat // i ≤ A.length ∧ ∀ j, j < 1 + s.code.length + i → ok j = true}) (fun i => ⟨[.kref false m 0, .fad [.v (.int .i64 s.v), .v (.int .i64 s.l), .sl false 3 (tRow s.code), .sl false 2 (pRow s.mem), .sl false 3 (sRow s.stack), .sl false 2 (pRow s.out)], .any, .any, .any, .any, .any, .any, .any, .any, .any, .any, .any, .any, .any, .any, .any, .any, .any, .any, .any, .any, .any, .any, .any, .any, .any, .any, .any, .any, .any, .any, .any, .any, .any, .any, .any, .any, .any, .any, .any, .any, .any, .sl false 2 (pRow A), .v (.int .i64 A.length), .v (.int .i64 i.1), .any, .any, .any, .any, .any, .any, .any, .any, .any, .any, .any, .any, .any, .any, .any, .any, .any, .any, .any, .any, .any, .any, .any, .any, .any, .any], inv (1 + s.code.length + i.1)⟩) (fun i => A.length - i.1) ⟨0, by omega, hok⟩ (fun i => hlen _) (fun i => hcl _) (fun i => ?_) ⟨?_, ?_⟩ ?_
    · simp only [List.map_cons, List.map_nil, ren, ren2, ren1, ren0, mOf_range, Nat.lt_succ_self, if_true]
    · exact Lq
    · exact Fq
    clear hok
    rintro ⟨i, hi, hok⟩
    dsimp only
    by_cases hlt : (i : Int) < (A.length : Int)
    · have hx : A[i]? = some A[i] := List.getElem?_eq_getElem (by omega)
      obtain ⟨x, hxx⟩ : ∃ x, A[i] = x := ⟨_, rfl⟩
      rw [hxx] at hx
      have hyi := hy (1 + s.code.length + i) (by rw [hnA]; omega) hok
      have hat : (numsL s).getD (1 + s.code.length + i) (0, 0) = x := by
        rw [List.getD_eq_getElem?_getD, nums_atomA hx]; rfl
      simp only [hat] at hyi
      obtain ⟨K, hK⟩ : ∃ K, 1 + s.code.length + i = K := ⟨_, rfl⟩
      have hK1 : 1 + s.code.length + (i + 1) = K + 1 := by omega
      rw [hK] at hyi hok ⊢
      have hL : (inv (K + 1)).length = (inv K).length := by rw [hlen, hlen]
      have hset := setsF_pre (rest := [Slot.ent ⟨0, none, 79, [.v (.int .i64 x.1), .v (.int .i64 x.2)], .cells⟩, Slot.free]) hL
      cases hoki : ok K with
      | true =>
        rw [hoki] at hyi
        repeat' first | (with_reducible first | refine AWP_seq' ?_ | refine k_normal ?_ | refine k_ret ?_ | refine k_exit ?_ | refine b_normal ?_ | refine b_ret ?_ | refine b_exit ?_ | refine b_pass rfl ?_ | refine AWP_ret ?_ | refine AWP_skip ?_ | refine AWP_exit ?_ | refine AWP_block ?_) | ((with_reducible refine And.intro ?_ ?_); · exact Sq) | ((first | with_reducible refine AWP_reg fun KC J hJ hKC => ?_ | with_reducible refine AWP_regD rfl fun KC J hJ hKC => ?_ | (refine hKC _ _ _ _ _ (callY hyi (hrec K) (hcl K) (hcl (K + 1)) hL rfl (Nat.le_succ _) rfl rfl rfl rfl ?_))); simp (maxSteps := 10000000) only [push_cast, seval, ↓reduceIte, hlt, getE_p hx, hset, getS_len, getS_len1, set_len, set_len1, List.append_assoc, List.cons_append, List.nil_append, wrapN (i := i) (n := A.length) (by omega) (by omega)]) | ((first | with_reducible refine hJ _ _ ?_ | (with_reducible refine hJ _ _ ?_ ?_; · kernel_rfl)); clear hJ hKC KC J) | ((with_reducible refine AWP_condT ?_ ?_); · rfl) | ((with_reducible refine AWP_condF ?_ ?_); · rfl) | ((with_reducible refine ite_intro (fun hs => ?_) (fun hs => ?_)) <;> (try simp only [Bool.not_eq_true, Bool.not_eq_false, Bool.not_eq_true', Bool.not_eq_false', Decidable.not_not, decide_eq_true_eq, decide_eq_false_iff_not] at hs) <;> (try simp (maxSteps := 10000000) only [push_cast, seval, ↓reduceIte, hs, hlt, getE_p hx, hset, getS_len, getS_len1, set_len, set_len1, List.append_assoc, List.cons_append, List.nil_append, wrapN (i := i) (n := A.length) (by omega) (by omega)])) | (refine AWP_cond rfl (fun h => ?_) (fun h => ?_) <;> try simp only [decide_eq_true_eq, decide_eq_false_iff_not, Bool.not_eq_true', Bool.not_eq_false', beq_iff_eq, bne_iff_ne, ne_eq, Bool.not_eq_true, Bool.or_eq_true, Bool.and_eq_true, Bool.or_eq_false_iff, Bool.and_eq_false_imp, beq_eq_false_iff_ne, bne_eq_false_iff_eq] at h)
        refine ⟨⟨i + 1, by omega, fun j hj => ?_⟩, by simp only; omega, ?_, ?_⟩
        · by_cases he : j = K
          · rw [he]; exact hoki
          · exact hok j (by omega)
        · exact Lq
        · simp only [hK1]; exact ⟨_, rfl⟩
      | false =>
        rw [hoki] at hyi
        repeat' first | (with_reducible first | refine AWP_seq' ?_ | refine k_normal ?_ | refine k_ret ?_ | refine k_exit ?_ | refine b_normal ?_ | refine b_ret ?_ | refine b_exit ?_ | refine b_pass rfl ?_ | refine AWP_ret ?_ | refine AWP_skip ?_ | refine AWP_exit ?_ | refine AWP_block ?_) | ((with_reducible refine And.intro ?_ ?_); · exact Sq) | ((first | with_reducible refine AWP_reg fun KC J hJ hKC => ?_ | with_reducible refine AWP_regD rfl fun KC J hJ hKC => ?_ | (refine hKC _ _ _ _ _ (callY hyi (hrec K) (hcl K) (hcl (K + 1)) hL rfl (Nat.le_succ _) rfl rfl rfl rfl ?_))); simp (maxSteps := 10000000) only [push_cast, seval, ↓reduceIte, hlt, getE_p hx, hset, getS_len, getS_len1, set_len, set_len1, List.append_assoc, List.cons_append, List.nil_append, wrapN (i := i) (n := A.length) (by omega) (by omega)]) | ((first | with_reducible refine hJ _ _ ?_ | (with_reducible refine hJ _ _ ?_ ?_; · kernel_rfl)); clear hJ hKC KC J) | ((with_reducible refine AWP_condT ?_ ?_); · rfl) | ((with_reducible refine AWP_condF ?_ ?_); · rfl) | ((with_reducible refine ite_intro (fun hs => ?_) (fun hs => ?_)) <;> (try simp only [Bool.not_eq_true, Bool.not_eq_false, Bool.not_eq_true', Bool.not_eq_false', Decidable.not_not, decide_eq_true_eq, decide_eq_false_iff_not] at hs) <;> (try simp (maxSteps := 10000000) only [push_cast, seval, ↓reduceIte, hs, hlt, getE_p hx, hset, getS_len, getS_len1, set_len, set_len1, List.append_assoc, List.cons_append, List.nil_append, wrapN (i := i) (n := A.length) (by omega) (by omega)])) | (refine AWP_cond rfl (fun h => ?_) (fun h => ?_) <;> try simp only [decide_eq_true_eq, decide_eq_false_iff_not, Bool.not_eq_true', Bool.not_eq_false', beq_iff_eq, bne_iff_ne, ne_eq, Bool.not_eq_true, Bool.or_eq_true, Bool.and_eq_true, Bool.or_eq_false_iff, Bool.and_eq_false_imp, beq_eq_false_iff_ne, bne_eq_false_iff_eq] at h)
        have hni : n = K + 1 := by
          rcases hn with ⟨h1, h2⟩ | ⟨k, h1, h2, h3, h4⟩
          · have := h2 (K) (by rw [h1, hnA]; omega); rw [hoki] at this; cases this
          · rcases Nat.lt_trichotomy k (K) with h | h | h
            · have := hok k h; rw [h3] at this; cases this
            · omega
            · have := h4 (K) h; rw [hoki] at this; cases this
        rw [hni, hlen]
        exact ret_itX [_, _] (.inr rfl) rfl rfl (hcl _) (by rw [hlen])
    have hin : i = A.length := by omega
    subst hin
    repeat' first | (with_reducible first | refine AWP_seq' ?_ | refine k_normal ?_ | refine k_ret ?_ | refine k_exit ?_ | refine b_normal ?_ | refine b_ret ?_ | refine b_exit ?_ | refine b_pass rfl ?_ | refine AWP_ret ?_ | refine AWP_skip ?_ | refine AWP_exit ?_ | refine AWP_block ?_) | ((with_reducible refine And.intro ?_ ?_); · exact Sq) | ((first | with_reducible refine AWP_reg fun KC J hJ hKC => ?_ | with_reducible refine AWP_regD rfl fun KC J hJ hKC => ?_); simp (maxSteps := 10000000) only [push_cast, seval, ↓reduceIte, hlt]) | ((first | with_reducible refine hJ _ _ ?_ | (with_reducible refine hJ _ _ ?_ ?_; · kernel_rfl)); clear hJ hKC KC J) | ((with_reducible refine AWP_condT ?_ ?_); · rfl) | ((with_reducible refine AWP_condF ?_ ?_); · rfl) | ((with_reducible refine ite_intro (fun hs => ?_) (fun hs => ?_)) <;> (try simp only [Bool.not_eq_true, Bool.not_eq_false, Bool.not_eq_true', Bool.not_eq_false', Decidable.not_not, decide_eq_true_eq, decide_eq_false_iff_not] at hs) <;> (try simp (maxSteps := 10000000) only [push_cast, seval, ↓reduceIte, hs, hlt])) | (refine AWP_cond rfl (fun h => ?_) (fun h => ?_) <;> try simp only [decide_eq_true_eq, decide_eq_false_iff_not, Bool.not_eq_true', Bool.not_eq_false', beq_iff_eq, bne_iff_ne, ne_eq, Bool.not_eq_true, Bool.or_eq_true, Bool.and_eq_true, Bool.or_eq_false_iff, Bool.and_eq_false_imp, beq_eq_false_iff_ne, bne_eq_false_iff_eq] at h)
    clear hlt
    refine AWP_loopD (m + 1) (γ := {i : Nat // i ≤ s.stack.length ∧ ∀ j, j < 1 + s.code.length + A.length + i → ok j = true}) (fun i => ⟨[.kref false m 0, .fad [.v (.int .i64 s.v), .v (.int .i64 s.l), .sl false 3 (tRow s.code), .sl false 2 (pRow s.mem), .sl false 3 (sRow s.stack), .sl false 2 (pRow s.out)], .any, .any, .any, .any, .any, .any, .any, .any, .any, .any, .any, .any, .any, .any, .any, .any, .any, .any, .any, .any, .any, .any, .any, .any, .any, .any, .any, .any, .any, .any, .any, .any, .any, .any, .any, .any, .any, .any, .any, .any, .any, .any, .any, .any, .any, .any, .any, .any, .any, .any, .any, .any, .any, .any, .any, .any, .sl false 3 (sRow s.stack), .v (.int .i64 s.stack.length), .v (.int .i64 i.1), .any, .any, .any, .any, .any, .any, .any, .any, .any, .any, .any], inv (1 + s.code.length + A.length + i.1)⟩) (fun i => s.stack.length - i.1) ⟨0, by omega, hok⟩ (fun i => hlen _) (fun i => hcl _) (fun i => ?_) ⟨?_, ?_⟩ ?_
    · simp only [List.map_cons, List.map_nil, ren, ren2, ren1, ren0, mOf_range, Nat.lt_succ_self, if_true]
    · exact Lq
    · exact Fq
    clear hok
    rintro ⟨i, hi, hok⟩
    dsimp only
    by_cases hlt : (i : Int) < (s.stack.length : Int)
    · have hx : s.stack[i]? = some s.stack[i] := List.getElem?_eq_getElem (by omega)
      obtain ⟨x, hxx⟩ : ∃ x, s.stack[i] = x := ⟨_, rfl⟩
      rw [hxx] at hx
      have hyi := hy (1 + s.code.length + A.length + i) (by rw [hnA]; omega) hok
      have hat : (numsL s).getD (1 + s.code.length + A.length + i) (0, 0) = slotQ x := by
        rw [List.getD_eq_getElem?_getD, nums_slotA hx]; rfl
      simp only [hat, slotQ] at hyi
      obtain ⟨K, hK⟩ : ∃ K, 1 + s.code.length + A.length + i = K := ⟨_, rfl⟩
      have hK1 : 1 + s.code.length + A.length + (i + 1) = K + 1 := by omega
      rw [hK] at hyi hok ⊢
      have hL : (inv (K + 1)).length = (inv K).length := by rw [hlen, hlen]
      have hset := setsF_pre (rest := [Slot.ent ⟨0, none, 113, [.v (.bool x.1), .v (.int .i64 x.2.1), .v (.int .i64 x.2.2)], .cells⟩, Slot.free]) hL
      cases hoki : ok K with
      | true =>
        rw [hoki] at hyi
        repeat' first | (with_reducible first | refine AWP_seq' ?_ | refine k_normal ?_ | refine k_ret ?_ | refine k_exit ?_ | refine b_normal ?_ | refine b_ret ?_ | refine b_exit ?_ | refine b_pass rfl ?_ | refine AWP_ret ?_ | refine AWP_skip ?_ | refine AWP_exit ?_ | refine AWP_block ?_) | ((with_reducible refine And.intro ?_ ?_); · exact Sq) | ((first | with_reducible refine AWP_reg fun KC J hJ hKC => ?_ | with_reducible refine AWP_regD rfl fun KC J hJ hKC => ?_ | (refine hKC _ _ _ _ _ (callY hyi (hrec K) (hcl K) (hcl (K + 1)) hL rfl (Nat.le_succ _) rfl rfl rfl rfl ?_))); simp (maxSteps := 10000000) only [push_cast, seval, ↓reduceIte, hlt, getE_s hx, hset, getS_len, getS_len1, set_len, set_len1, List.append_assoc, List.cons_append, List.nil_append, wrapN (i := i) (n := s.stack.length) (by omega) (by omega)]) | ((first | with_reducible refine hJ _ _ ?_ | (with_reducible refine hJ _ _ ?_ ?_; · kernel_rfl)); clear hJ hKC KC J) | ((with_reducible refine AWP_condT ?_ ?_); · rfl) | ((with_reducible refine AWP_condF ?_ ?_); · rfl) | ((with_reducible refine ite_intro (fun hs => ?_) (fun hs => ?_)) <;> (try simp only [Bool.not_eq_true, Bool.not_eq_false, Bool.not_eq_true', Bool.not_eq_false', Decidable.not_not, decide_eq_true_eq, decide_eq_false_iff_not] at hs) <;> (try simp (maxSteps := 10000000) only [push_cast, seval, ↓reduceIte, hs, hlt, getE_s hx, hset, getS_len, getS_len1, set_len, set_len1, List.append_assoc, List.cons_append, List.nil_append, wrapN (i := i) (n := s.stack.length) (by omega) (by omega)])) | (refine AWP_cond rfl (fun h => ?_) (fun h => ?_) <;> try simp only [decide_eq_true_eq, decide_eq_false_iff_not, Bool.not_eq_true', Bool.not_eq_false', beq_iff_eq, bne_iff_ne, ne_eq, Bool.not_eq_true, Bool.or_eq_true, Bool.and_eq_true, Bool.or_eq_false_iff, Bool.and_eq_false_imp, beq_eq_false_iff_ne, bne_eq_false_iff_eq] at h)
        refine ⟨⟨i + 1, by omega, fun j hj => ?_⟩, by simp only; omega, ?_, ?_⟩
        · by_cases he : j = K
          · rw [he]; exact hoki
          · exact hok j (by omega)
        · exact Lq
        · simp only [hK1]; exact ⟨_, rfl⟩
      | false =>
        rw [hoki] at hyi
        repeat' first | (with_reducible first | refine AWP_seq' ?_ | refine k_normal ?_ | refine k_ret ?_ | refine k_exit ?_ | refine b_normal ?_ | refine b_ret ?_ | refine b_exit ?_ | refine b_pass rfl ?_ | refine AWP_ret ?_ | refine AWP_skip ?_ | refine AWP_exit ?_ | refine AWP_block ?_) | ((with_reducible refine And.intro ?_ ?_); · exact Sq) | ((first | with_reducible refine AWP_reg fun KC J hJ hKC => ?_ | with_reducible refine AWP_regD rfl fun KC J hJ hKC => ?_ | (refine hKC _ _ _ _ _ (callY hyi (hrec K) (hcl K) (hcl (K + 1)) hL rfl (Nat.le_succ _) rfl rfl rfl rfl ?_))); simp (maxSteps := 10000000) only [push_cast, seval, ↓reduceIte, hlt, getE_s hx, hset, getS_len, getS_len1, set_len, set_len1, List.append_assoc, List.cons_append, List.nil_append, wrapN (i := i) (n := s.stack.length) (by omega) (by omega)]) | ((first | with_reducible refine hJ _ _ ?_ | (with_reducible refine hJ _ _ ?_ ?_; · kernel_rfl)); clear hJ hKC KC J) | ((with_reducible refine AWP_condT ?_ ?_); · rfl) | ((with_reducible refine AWP_condF ?_ ?_); · rfl) | ((with_reducible refine ite_intro (fun hs => ?_) (fun hs => ?_)) <;> (try simp only [Bool.not_eq_true, Bool.not_eq_false, Bool.not_eq_true', Bool.not_eq_false', Decidable.not_not, decide_eq_true_eq, decide_eq_false_iff_not] at hs) <;> (try simp (maxSteps := 10000000) only [push_cast, seval, ↓reduceIte, hs, hlt, getE_s hx, hset, getS_len, getS_len1, set_len, set_len1, List.append_assoc, List.cons_append, List.nil_append, wrapN (i := i) (n := s.stack.length) (by omega) (by omega)])) | (refine AWP_cond rfl (fun h => ?_) (fun h => ?_) <;> try simp only [decide_eq_true_eq, decide_eq_false_iff_not, Bool.not_eq_true', Bool.not_eq_false', beq_iff_eq, bne_iff_ne, ne_eq, Bool.not_eq_true, Bool.or_eq_true, Bool.and_eq_true, Bool.or_eq_false_iff, Bool.and_eq_false_imp, beq_eq_false_iff_ne, bne_eq_false_iff_eq] at h)
        have hni : n = K + 1 := by
          rcases hn with ⟨h1, h2⟩ | ⟨k, h1, h2, h3, h4⟩
          · have := h2 (K) (by rw [h1, hnA]; omega); rw [hoki] at this; cases this
          · rcases Nat.lt_trichotomy k (K) with h | h | h
            · have := hok k h; rw [h3] at this; cases this
            · omega
            · have := h4 (K) h; rw [hoki] at this; cases this
        rw [hni, hlen]
        exact ret_itX [_, _] (.inr rfl) rfl rfl (hcl _) (by rw [hlen])
    have hin : i = s.stack.length := by omega
    subst hin
    repeat' first | (with_reducible first | refine AWP_seq' ?_ | refine k_normal ?_ | refine k_ret ?_ | refine k_exit ?_ | refine b_normal ?_ | refine b_ret ?_ | refine b_exit ?_ | refine b_pass rfl ?_ | refine AWP_ret ?_ | refine AWP_skip ?_ | refine AWP_exit ?_ | refine AWP_block ?_) | ((with_reducible refine And.intro ?_ ?_); · exact Sq) | ((first | with_reducible refine AWP_reg fun KC J hJ hKC => ?_ | with_reducible refine AWP_regD rfl fun KC J hJ hKC => ?_); simp (maxSteps := 10000000) only [push_cast, seval, ↓reduceIte, hlt]) | ((first | with_reducible refine hJ _ _ ?_ | (with_reducible refine hJ _ _ ?_ ?_; · kernel_rfl)); clear hJ hKC KC J) | ((with_reducible refine AWP_condT ?_ ?_); · rfl) | ((with_reducible refine AWP_condF ?_ ?_); · rfl) | ((with_reducible refine ite_intro (fun hs => ?_) (fun hs => ?_)) <;> (try simp only [Bool.not_eq_true, Bool.not_eq_false, Bool.not_eq_true', Bool.not_eq_false', Decidable.not_not, decide_eq_true_eq, decide_eq_false_iff_not] at hs) <;> (try simp (maxSteps := 10000000) only [push_cast, seval, ↓reduceIte, hs, hlt])) | (refine AWP_cond rfl (fun h => ?_) (fun h => ?_) <;> try simp only [decide_eq_true_eq, decide_eq_false_iff_not, Bool.not_eq_true', Bool.not_eq_false', beq_iff_eq, bne_iff_ne, ne_eq, Bool.not_eq_true, Bool.or_eq_true, Bool.and_eq_true, Bool.or_eq_false_iff, Bool.and_eq_false_imp, beq_eq_false_iff_ne, bne_eq_false_iff_eq] at h)
    have hni : n = 1 + s.code.length + A.length + s.stack.length := by
      rcases hn with ⟨h1, h2⟩ | ⟨k, h1, h2, h3, h4⟩
      · rw [h1, hnA]
      · have := hok k (by omega); rw [h3] at this; cases this
    rw [hni, hlen]
    exact ret_itX [] (.inl rfl) rfl (by simp) (hcl _) (by rw [hlen])
end Go.Proofs.Ytabliglgeiajlaa.AM

/- Which of two sizes is less; whether two states may be looked at. -/
namespace Go.Proofs.Ytabliglgeiajlaa.AM
open Go Go.RowKit Go.Proofs
set_option maxRecDepth 100000
set_option maxHeartbeats 4000000

@[reducible] def encZ (z : Int × Int × Int) : List D := [.v (.int .i64 z.1), .v (.int .i64 z.2.1), .v (.int .i64 z.2.2)]
def orF : List Int → Int
  | [] => 0
  | x :: l => if x = 0 then orF l else x
theorem orF_drop {l : List Int} : ∀ {i : Nat}, i ≤ l.length → (∀ j x, j < i → l[j]? = some x → x = 0) → orF l = orF (l.drop i) := fun {i} => by
  induction l generalizing i with
  | nil => intro _ _; simp
  | cons x l ih =>
    intro hi h
    cases i with
    | zero => rfl
    | succ i =>
      have h0 := h 0 x (by omega) rfl
      rw [List.drop_succ_cons, orF, if_pos h0]
      exact ih (by simpa using hi) (fun j y hj hy => h (j + 1) y (by omega) hy)
theorem cmpOr_fn (f : Bool) (l : List Int) (hl : l.length ≤ 1000) : Fn Try.prog 190 [.sl f 1 (intRow l)] [] (.v (.int .i64 (orF l))) [] := by
  refine Fn.of (fn := Try.f190) (by kernel_rfl) rfl (by kernel_rfl) ⟨[.sl f 1 (intRow l), .v undef, .v undef, .v undef, .v undef, .v undef, .v undef, .v undef, .v undef, .v undef, .v undef, .v undef, .v undef, .v undef, .v undef, .v undef, .v undef, .v undef], []⟩ rfl ?_
  repeat' first | (with_reducible first | refine AWP_seq' ?_ | refine k_normal ?_ | refine k_ret ?_ | refine k_exit ?_ | refine b_normal ?_ | refine b_ret ?_ | refine b_exit ?_ | refine b_pass rfl ?_ | refine AWP_ret ?_ | refine AWP_skip ?_ | refine AWP_exit ?_ | refine AWP_block ?_) | ((with_reducible refine And.intro ?_ ?_); · exact Sq) | ((first | with_reducible refine AWP_reg fun KC J hJ hKC => ?_ | with_reducible refine AWP_regD rfl fun KC J hJ hKC => ?_); simp (maxSteps := 10000000) only [push_cast, seval, ↓reduceIte]) | ((first | with_reducible refine hJ _ _ ?_ | (with_reducible refine hJ _ _ ?_ ?_; · kernel_rfl)); clear hJ hKC KC J) | ((with_reducible refine AWP_condT ?_ ?_); · rfl) | ((with_reducible refine AWP_condF ?_ ?_); · rfl) | ((with_reducible refine ite_intro (fun hs => ?_) (fun hs => ?_)) <;> (try simp only [Bool.not_eq_true, Bool.not_eq_false, Bool.not_eq_true', Bool.not_eq_false', Decidable.not_not, decide_eq_true_eq, decide_eq_false_iff_not] at hs) <;> (try simp (maxSteps := 10000000) only [push_cast, seval, ↓reduceIte, hs])) | (refine AWP_cond rfl (fun h => ?_) (fun h => ?_) <;> try simp only [decide_eq_true_eq, decide_eq_false_iff_not, Bool.not_eq_true', Bool.not_eq_false', beq_iff_eq, bne_iff_ne, ne_eq, Bool.not_eq_true, Bool.or_eq_true, Bool.and_eq_true, Bool.or_eq_false_iff, Bool.and_eq_false_imp, beq_eq_false_iff_ne, bne_eq_false_iff_eq] at h)
  refine AWP_loopF (γ := {i : Nat // i ≤ l.length ∧ ∀ j x, j < i → l[j]? = some x → x = 0}) (fun i => ⟨[.any, .any, .any, .v (.int .i64 0), .any, .any, .sl f 1 (intRow l), .v (.int .i64 l.length), .v (.int .i64 i.1), .any, .any, .any, .any, .any, .any, .any, .any, .any], []⟩) (fun i => l.length - i.1) ⟨0, by simp⟩ ⟨?_, Fq⟩ ?_
  · exact Lq
  rintro ⟨i, hi, hn⟩
  have hd := orF_drop hi hn
  by_cases hlt : (i : Int) < (l.length : Int)
  · have hx : l[i]? = some l[i] := List.getElem?_eq_getElem (by omega)
    rw [List.drop_eq_getElem_cons (by omega), orF] at hd
    obtain ⟨x, hxx⟩ : ∃ x, l[i] = x := ⟨_, rfl⟩
    rw [hxx] at hx hd
    by_cases h0 : x = 0
    · have h0' : (x != 0) = false := by simpa using h0
      repeat' first | (with_reducible first | refine AWP_seq' ?_ | refine k_normal ?_ | refine k_ret ?_ | refine k_exit ?_ | refine b_normal ?_ | refine b_ret ?_ | refine b_exit ?_ | refine b_pass rfl ?_ | refine AWP_ret ?_ | refine AWP_skip ?_ | refine AWP_exit ?_ | refine AWP_block ?_) | ((with_reducible refine And.intro ?_ ?_); · exact Sq) | ((first | with_reducible refine AWP_reg fun KC J hJ hKC => ?_ | with_reducible refine AWP_regD rfl fun KC J hJ hKC => ?_); simp (maxSteps := 10000000) only [push_cast, seval, ↓reduceIte, hlt, getE_intRow hx, h0', wrapN (i := i) (n := l.length) (by omega) (by omega)]) | ((first | with_reducible refine hJ _ _ ?_ | (with_reducible refine hJ _ _ ?_ ?_; · kernel_rfl)); clear hJ hKC KC J) | ((with_reducible refine AWP_condT ?_ ?_); · rfl) | ((with_reducible refine AWP_condF ?_ ?_); · rfl) | ((with_reducible refine ite_intro (fun hs => ?_) (fun hs => ?_)) <;> (try simp only [Bool.not_eq_true, Bool.not_eq_false, Bool.not_eq_true', Bool.not_eq_false', Decidable.not_not, decide_eq_true_eq, decide_eq_false_iff_not] at hs) <;> (try simp (maxSteps := 10000000) only [push_cast, seval, ↓reduceIte, hs, hlt, getE_intRow hx, h0', wrapN (i := i) (n := l.length) (by omega) (by omega)])) | (refine AWP_cond rfl (fun h => ?_) (fun h => ?_) <;> try simp only [decide_eq_true_eq, decide_eq_false_iff_not, Bool.not_eq_true', Bool.not_eq_false', beq_iff_eq, bne_iff_ne, ne_eq, Bool.not_eq_true, Bool.or_eq_true, Bool.and_eq_true, Bool.or_eq_false_iff, Bool.and_eq_false_imp, beq_eq_false_iff_ne, bne_eq_false_iff_eq] at h)
      refine ⟨⟨i + 1, by omega, fun j y hj hy => ?_⟩, by simp only; omega, ?_, Fq⟩
      · by_cases hji : j = i
        · subst hji; rw [hx] at hy; cases hy; exact h0
        · exact hn j y (by omega) hy
      · exact Lq
    · have h0' : (x != 0) = true := by simpa using h0
      rw [if_neg h0] at hd
      rw [hd]
      repeat' first | (with_reducible first | refine AWP_seq' ?_ | refine k_normal ?_ | refine k_ret ?_ | refine k_exit ?_ | refine b_normal ?_ | refine b_ret ?_ | refine b_exit ?_ | refine b_pass rfl ?_ | refine AWP_ret ?_ | refine AWP_skip ?_ | refine AWP_exit ?_ | refine AWP_block ?_) | ((with_reducible refine And.intro ?_ ?_); · exact Sq) | ((first | with_reducible refine AWP_reg fun KC J hJ hKC => ?_ | with_reducible refine AWP_regD rfl fun KC J hJ hKC => ?_); simp (maxSteps := 10000000) only [push_cast, seval, ↓reduceIte, hlt, getE_intRow hx, h0']) | ((first | with_reducible refine hJ _ _ ?_ | (with_reducible refine hJ _ _ ?_ ?_; · kernel_rfl)); clear hJ hKC KC J) | ((with_reducible refine AWP_condT ?_ ?_); · rfl) | ((with_reducible refine AWP_condF ?_ ?_); · rfl) | ((with_reducible refine ite_intro (fun hs => ?_) (fun hs => ?_)) <;> (try simp only [Bool.not_eq_true, Bool.not_eq_false, Bool.not_eq_true', Bool.not_eq_false', Decidable.not_not, decide_eq_true_eq, decide_eq_false_iff_not] at hs) <;> (try simp (maxSteps := 10000000) only [push_cast, seval, ↓reduceIte, hs, hlt, getE_intRow hx, h0'])) | (refine AWP_cond rfl (fun h => ?_) (fun h => ?_) <;> try simp only [decide_eq_true_eq, decide_eq_false_iff_not, Bool.not_eq_true', Bool.not_eq_false', beq_iff_eq, bne_iff_ne, ne_eq, Bool.not_eq_true, Bool.or_eq_true, Bool.and_eq_true, Bool.or_eq_false_iff, Bool.and_eq_false_imp, beq_eq_false_iff_ne, bne_eq_false_iff_eq] at h)
      refine ret_plain ?_
      simp (maxSteps := 10000000) only [push_cast, seval, ↓reduceIte, show Try.f190.results = #[(.tmp 2)] from rfl]
      exact Lq
  · have hin : i = l.length := by omega
    rw [hin, List.drop_length] at hd
    rw [hd]
    simp only [orF]
    repeat' first | (with_reducible first | refine AWP_seq' ?_ | refine k_normal ?_ | refine k_ret ?_ | refine k_exit ?_ | refine b_normal ?_ | refine b_ret ?_ | refine b_exit ?_ | refine b_pass rfl ?_ | refine AWP_ret ?_ | refine AWP_skip ?_ | refine AWP_exit ?_ | refine AWP_block ?_) | ((with_reducible refine And.intro ?_ ?_); · exact Sq) | ((first | with_reducible refine AWP_reg fun KC J hJ hKC => ?_ | with_reducible refine AWP_regD rfl fun KC J hJ hKC => ?_); simp (maxSteps := 10000000) only [push_cast, seval, ↓reduceIte, hlt]) | ((first | with_reducible refine hJ _ _ ?_ | (with_reducible refine hJ _ _ ?_ ?_; · kernel_rfl)); clear hJ hKC KC J) | ((with_reducible refine AWP_condT ?_ ?_); · rfl) | ((with_reducible refine AWP_condF ?_ ?_); · rfl) | ((with_reducible refine ite_intro (fun hs => ?_) (fun hs => ?_)) <;> (try simp only [Bool.not_eq_true, Bool.not_eq_false, Bool.not_eq_true', Bool.not_eq_false', Decidable.not_not, decide_eq_true_eq, decide_eq_false_iff_not] at hs) <;> (try simp (maxSteps := 10000000) only [push_cast, seval, ↓reduceIte, hs, hlt])) | (refine AWP_cond rfl (fun h => ?_) (fun h => ?_) <;> try simp only [decide_eq_true_eq, decide_eq_false_iff_not, Bool.not_eq_true', Bool.not_eq_false', beq_iff_eq, bne_iff_ne, ne_eq, Bool.not_eq_true, Bool.or_eq_true, Bool.and_eq_true, Bool.or_eq_false_iff, Bool.and_eq_false_imp, beq_eq_false_iff_ne, bne_eq_false_iff_eq] at h)
    refine ret_plain ?_
    simp (maxSteps := 10000000) only [push_cast, seval, ↓reduceIte, show Try.f190.results = #[(.tmp 2)] from rfl]
    exact Lq
def lexB (a b : Int × Int × Int) : Bool := if a.1 = b.1 then (if a.2.1 = b.2.1 then decide (a.2.2 < b.2.2) else decide (a.2.1 < b.2.1)) else decide (a.1 < b.1)
theorem cmpI_0 {x y : Int} : cmpI x y = 0 ↔ x = y := by unfold cmpI; split; · omega
                                                        split <;> omega
theorem cmpI_neg {x y : Int} : cmpI x y < 0 ↔ x < y := by unfold cmpI; split; · omega
                                                          split <;> omega
theorem lex_or (a b : Int × Int × Int) : decide (orF [cmpI a.1 b.1, cmpI a.2.1 b.2.1, cmpI a.2.2 b.2.2] < 0) = lexB a b := by
  unfold lexB
  simp only [orF, cmpI_0]
  by_cases h1 : a.1 = b.1
  · rw [if_pos h1, if_pos h1]
    by_cases h2 : a.2.1 = b.2.1
    · rw [if_pos h2, if_pos h2]
      by_cases h3 : a.2.2 = b.2.2
      · rw [if_pos h3]; exact decide_eq_decide.2 (by omega)
      · rw [if_neg h3]; exact decide_eq_decide.2 cmpI_neg
    · rw [if_neg h2, if_neg h2]; exact decide_eq_decide.2 cmpI_neg
  · rw [if_neg h1, if_neg h1]; exact decide_eq_decide.2 cmpI_neg
theorem mvLess_fn (a b : Int × Int × Int) : Fn Try.prog 94 [.agg (encZ a), .agg (encZ b)] [] (.v (.bool (lexB a b))) [] := by
  have h1 := compare_fn a.1 b.1
  have h2 := compare_fn a.2.1 b.2.1
  have h3 := compare_fn a.2.2 b.2.2
  have h4 := cmpOr_fn true [cmpI a.1 b.1, cmpI a.2.1 b.2.1, cmpI a.2.2 b.2.2] (by simp)
  have h5 := lex_or a b
  obtain ⟨o, ho⟩ : ∃ o, orF [cmpI a.1 b.1, cmpI a.2.1 b.2.1, cmpI a.2.2 b.2.2] = o := ⟨_, rfl⟩
  rw [ho] at h4 h5
  rw [← h5]
  simp only [encZ]
  refine Fn.of (fn := Try.f94) (by kernel_rfl) rfl (by kernel_rfl) ⟨[.agg [.v (.int .i64 a.1), .v (.int .i64 a.2.1), .v (.int .i64 a.2.2)], .agg [.v (.int .i64 b.1), .v (.int .i64 b.2.1), .v (.int .i64 b.2.2)], .v undef, .v undef, .v undef, .v undef, .v undef, .v undef, .v undef, .v undef, .v undef, .v undef, .v undef, .v undef, .v undef, .v undef, .v undef, .v undef, .v undef, .v undef, .v undef, .v undef, .v undef], []⟩ rfl ?_
  repeat' first | (with_reducible first | refine AWP_seq' ?_ | refine k_normal ?_ | refine k_ret ?_ | refine k_exit ?_ | refine b_normal ?_ | refine b_ret ?_ | refine b_exit ?_ | refine b_pass rfl ?_ | refine AWP_ret ?_ | refine AWP_skip ?_ | refine AWP_exit ?_ | refine AWP_block ?_) | ((with_reducible refine And.intro ?_ ?_); · exact Sq) | ((first | with_reducible refine AWP_reg fun KC J hJ hKC => ?_ | with_reducible refine AWP_regD rfl fun KC J hJ hKC => ?_ | (refine hKC _ _ _ _ _ (callV0 (h1) rfl rfl rfl ?_ ?_); (· exact Lq)) | (refine hKC _ _ _ _ _ (callV0 (h2) rfl rfl rfl ?_ ?_); (· exact Lq)) | (refine hKC _ _ _ _ _ (callV0 (h3) rfl rfl rfl ?_ ?_); (· exact Lq)) | (refine hKC _ _ _ _ _ (callV0 (h4) rfl rfl rfl ?_ ?_); (· exact Lq))); simp (maxSteps := 10000000) only [push_cast, seval, ↓reduceIte, intRow, List.map_cons, List.map_nil]) | ((first | with_reducible refine hJ _ _ ?_ | (with_reducible refine hJ _ _ ?_ ?_; · kernel_rfl)); clear hJ hKC KC J) | ((with_reducible refine AWP_condT ?_ ?_); · rfl) | ((with_reducible refine AWP_condF ?_ ?_); · rfl) | ((with_reducible refine ite_intro (fun hs => ?_) (fun hs => ?_)) <;> (try simp only [Bool.not_eq_true, Bool.not_eq_false, Bool.not_eq_true', Bool.not_eq_false', Decidable.not_not, decide_eq_true_eq, decide_eq_false_iff_not] at hs) <;> (try simp (maxSteps := 10000000) only [push_cast, seval, ↓reduceIte, hs, intRow, List.map_cons, List.map_nil])) | (refine AWP_cond rfl (fun h => ?_) (fun h => ?_) <;> try simp only [decide_eq_true_eq, decide_eq_false_iff_not, Bool.not_eq_true', Bool.not_eq_false', beq_iff_eq, bne_iff_ne, ne_eq, Bool.not_eq_true, Bool.or_eq_true, Bool.and_eq_true, Bool.or_eq_false_iff, Bool.and_eq_false_imp, beq_eq_false_iff_ne, bne_eq_false_iff_eq] at h)
  refine ret_plain ?_
  simp (maxSteps := 10000000) only [push_cast, seval, ↓reduceIte, show Try.f94.results = #[(.tmp 4)] from rfl]
  exact Lq
def mayT (ns : List ByteArray) (us : List Nat) (a b : Sta) : Int := if checkF ns us = 0 then (if staB us.length a = true ∧ staB us.length b = true then 0 else 1) else checkF ns us
@[reducible] def encT (a b : Sta) : List D := staF false false false false a ++ staF false false false false b
theorem mvMay_fn (f g : Bool) (ns : List ByteArray) (us : List Nat) (a b : Sta) (hs : Szs ns) (hu : U32 us) (ha : Sml a) (hb : Sml b) :
    Fn Try.prog 180 [.agg [.sl f 1 (strRow ns), .sl g 1 (u32Row us)], .agg (encT a b)] [] (.v (.int .i64 (mayT ns us a b))) [] := by
  have h1 := latCheck_fn f g ns us hs hu
  unfold mayT
  by_cases hc : checkF ns us = 0
  · have h2 := stRight_fn f g ns us a hs hu hc ha
    have h3 := stRight_fn f g ns us b hs hu hc hb
    rw [hc] at h1
    rw [if_pos hc]
    obtain ⟨p, hp⟩ : ∃ p, staB us.length a = p := ⟨_, rfl⟩
    obtain ⟨q, hq⟩ : ∃ p, staB us.length b = p := ⟨_, rfl⟩
    rw [hp] at h2
    rw [hq] at h3
    rw [hp, hq]
    simp only [encT, staF, List.cons_append, List.nil_append] at h2 h3 ⊢
    cases p <;> cases q
    all_goals
      refine Fn.of (fn := Try.f180) (by kernel_rfl) rfl (by kernel_rfl) ⟨[.agg [.sl f 1 (strRow ns), .sl g 1 (u32Row us)], .agg [.v (.int .i64 a.v), .v (.int .i64 a.l), .sl false 3 (tRow a.code), .sl false 2 (pRow a.mem), .sl false 3 (sRow a.stack), .sl false 2 (pRow a.out), .v (.int .i64 b.v), .v (.int .i64 b.l), .sl false 3 (tRow b.code), .sl false 2 (pRow b.mem), .sl false 3 (sRow b.stack), .sl false 2 (pRow b.out)], .v undef, .v undef, .v undef, .v undef, .v undef, .v undef, .v undef, .v undef, .v undef, .v undef, .v undef, .v undef, .v undef, .v undef, .v undef, .v undef, .v undef, .v undef, .v undef, .v undef, .v undef], []⟩ rfl ?_
      repeat' first | (with_reducible first | refine AWP_seq' ?_ | refine k_normal ?_ | refine k_ret ?_ | refine k_exit ?_ | refine b_normal ?_ | refine b_ret ?_ | refine b_exit ?_ | refine b_pass rfl ?_ | refine AWP_ret ?_ | refine AWP_skip ?_ | refine AWP_exit ?_ | refine AWP_block ?_) | ((with_reducible refine And.intro ?_ ?_); · exact Sq) | ((first | with_reducible refine AWP_reg fun KC J hJ hKC => ?_ | with_reducible refine AWP_regD rfl fun KC J hJ hKC => ?_ | (refine hKC _ _ _ _ _ (callV0 (h1) rfl rfl rfl ?_ ?_); (· exact Lq)) | (refine hKC _ _ _ _ _ (callV0 (h2) rfl rfl rfl ?_ ?_); (· exact Lq)) | (refine hKC _ _ _ _ _ (callV0 (h3) rfl rfl rfl ?_ ?_); (· exact Lq))); simp (maxSteps := 10000000) only [push_cast, seval, ↓reduceIte, bne_self_eq_false]) | ((first | with_reducible refine hJ _ _ ?_ | (with_reducible refine hJ _ _ ?_ ?_; · kernel_rfl)); clear hJ hKC KC J) | ((with_reducible refine AWP_condT ?_ ?_); · rfl) | ((with_reducible refine AWP_condF ?_ ?_); · rfl) | ((with_reducible refine ite_intro (fun hs => ?_) (fun hs => ?_)) <;> (try simp only [Bool.not_eq_true, Bool.not_eq_false, Bool.not_eq_true', Bool.not_eq_false', Decidable.not_not, decide_eq_true_eq, decide_eq_false_iff_not] at hs) <;> (try simp (maxSteps := 10000000) only [push_cast, seval, ↓reduceIte, hs, bne_self_eq_false])) | (refine AWP_cond rfl (fun h => ?_) (fun h => ?_) <;> try simp only [decide_eq_true_eq, decide_eq_false_iff_not, Bool.not_eq_true', Bool.not_eq_false', beq_iff_eq, bne_iff_ne, ne_eq, Bool.not_eq_true, Bool.or_eq_true, Bool.and_eq_true, Bool.or_eq_false_iff, Bool.and_eq_false_imp, beq_eq_false_iff_ne, bne_eq_false_iff_eq] at h)
      refine ret_plain ?_
      simp (maxSteps := 10000000) only [push_cast, seval, ↓reduceIte, show Try.f180.results = #[(.tmp 4)] from rfl]
      exact Lq
  · rw [if_neg hc]
    obtain ⟨c, hcc⟩ : ∃ c, checkF ns us = c := ⟨_, rfl⟩
    rw [hcc] at h1 hc ⊢
    have hc' : (c != 0) = true := by simpa using hc
    simp only [encT, staF, List.cons_append, List.nil_append]
    refine Fn.of (fn := Try.f180) (by kernel_rfl) rfl (by kernel_rfl) ⟨[.agg [.sl f 1 (strRow ns), .sl g 1 (u32Row us)], .agg [.v (.int .i64 a.v), .v (.int .i64 a.l), .sl false 3 (tRow a.code), .sl false 2 (pRow a.mem), .sl false 3 (sRow a.stack), .sl false 2 (pRow a.out), .v (.int .i64 b.v), .v (.int .i64 b.l), .sl false 3 (tRow b.code), .sl false 2 (pRow b.mem), .sl false 3 (sRow b.stack), .sl false 2 (pRow b.out)], .v undef, .v undef, .v undef, .v undef, .v undef, .v undef, .v undef, .v undef, .v undef, .v undef, .v undef, .v undef, .v undef, .v undef, .v undef, .v undef, .v undef, .v undef, .v undef, .v undef, .v undef], []⟩ rfl ?_
    repeat' first | (with_reducible first | refine AWP_seq' ?_ | refine k_normal ?_ | refine k_ret ?_ | refine k_exit ?_ | refine b_normal ?_ | refine b_ret ?_ | refine b_exit ?_ | refine b_pass rfl ?_ | refine AWP_ret ?_ | refine AWP_skip ?_ | refine AWP_exit ?_ | refine AWP_block ?_) | ((with_reducible refine And.intro ?_ ?_); · exact Sq) | ((first | with_reducible refine AWP_reg fun KC J hJ hKC => ?_ | with_reducible refine AWP_regD rfl fun KC J hJ hKC => ?_ | (refine hKC _ _ _ _ _ (callV0 (h1) rfl rfl rfl ?_ ?_); (· exact Lq))); simp (maxSteps := 10000000) only [push_cast, seval, ↓reduceIte, hc']) | ((first | with_reducible refine hJ _ _ ?_ | (with_reducible refine hJ _ _ ?_ ?_; · kernel_rfl)); clear hJ hKC KC J) | ((with_reducible refine AWP_condT ?_ ?_); · rfl) | ((with_reducible refine AWP_condF ?_ ?_); · rfl) | ((with_reducible refine ite_intro (fun hs => ?_) (fun hs => ?_)) <;> (try simp only [Bool.not_eq_true, Bool.not_eq_false, Bool.not_eq_true', Bool.not_eq_false', Decidable.not_not, decide_eq_true_eq, decide_eq_false_iff_not] at hs) <;> (try simp (maxSteps := 10000000) only [push_cast, seval, ↓reduceIte, hs, hc'])) | (refine AWP_cond rfl (fun h => ?_) (fun h => ?_) <;> try simp only [decide_eq_true_eq, decide_eq_false_iff_not, Bool.not_eq_true', Bool.not_eq_false', beq_iff_eq, bne_iff_ne, ne_eq, Bool.not_eq_true, Bool.or_eq_true, Bool.and_eq_true, Bool.or_eq_false_iff, Bool.and_eq_false_imp, beq_eq_false_iff_ne, bne_eq_false_iff_eq] at h)
    refine ret_plain ?_
    simp (maxSteps := 10000000) only [push_cast, seval, ↓reduceIte, show Try.f180.results = #[(.tmp 4)] from rfl]
    exact Lq
end Go.Proofs.Ytabliglgeiajlaa.AM

/- Rows of one's own that grow: of instructions, atoms, slots. -/
namespace Go.Proofs.Ytabliglgeiajlaa.AM
open Go Go.RowKit Go.Proofs

theorem tCells_length (l : List (Int × Int × Int)) : (tCells l).length = l.length * 3 := by
  induction l with
  | nil => rfl
  | cons a l ih => simp [tCells, tRow] at *; omega
theorem tCells_app (l m : List (Int × Int × Int)) : tCells (l ++ m) = tCells l ++ tCells m := by simp [tCells, tRow]
@[push_cast] theorem frz_tCells (l : List (Int × Int × Int)) : frzAll (tCells l) = true := by
  induction l with
  | nil => rfl
  | cons a l ih => simpa [tCells, tRow, frzAll, frz, frz0] using ih
@[push_cast] theorem fr_tCells (k g sz : Nat) (c : List D) (l : List (Int × Int × Int)) : (tCells l).map (fr1 k g sz c) = tCells l := by
  induction l with
  | nil => rfl
  | cons a l ih => simpa [tCells, tRow, fr1, fr0] using ih
theorem chunk_t (l : List (Int × Int × Int)) : chunk 3 l.length (tCells l) = tRow l := by
  induction l with
  | nil => rfl
  | cons a l ih => simpa [tCells, tRow, chunk] using ih
theorem ren_tCells (m : Nat → Option Nat) (l : List (Int × Int × Int)) : (tCells l).map (ren m) = tCells l := by
  induction l with
  | nil => rfl
  | cons a l ih => simpa [tCells, tRow, ren, ren2, ren1, ren0] using ih
theorem sCells_length (l : List (Bool × Int × Int)) : (sCells l).length = l.length * 3 := by
  induction l with
  | nil => rfl
  | cons a l ih => simp [sCells, sRow] at *; omega
theorem sCells_app (l m : List (Bool × Int × Int)) : sCells (l ++ m) = sCells l ++ sCells m := by simp [sCells, sRow]
@[push_cast] theorem frz_sCells (l : List (Bool × Int × Int)) : frzAll (sCells l) = true := by
  induction l with
  | nil => rfl
  | cons a l ih => simpa [sCells, sRow, frzAll, frz, frz0] using ih
@[push_cast] theorem fr_sCells (k g sz : Nat) (c : List D) (l : List (Bool × Int × Int)) : (sCells l).map (fr1 k g sz c) = sCells l := by
  induction l with
  | nil => rfl
  | cons a l ih => simpa [sCells, sRow, fr1, fr0] using ih
theorem chunk_s (l : List (Bool × Int × Int)) : chunk 3 l.length (sCells l) = sRow l := by
  induction l with
  | nil => rfl
  | cons a l ih => simpa [sCells, sRow, chunk] using ih
theorem ren_sCells (m : Nat → Option Nat) (l : List (Bool × Int × Int)) : (sCells l).map (ren m) = sCells l := by
  induction l with
  | nil => rfl
  | cons a l ih => simpa [sCells, sRow, ren, ren2, ren1, ren0] using ih
theorem take_len {l : List D} {n : Nat} (h : l.length = n) : l.take n = l := List.take_of_length_le (by omega)
/-- A row of n, of key k, that grew from nothing; and the store: what lies ahead, so many that are gone, the row. -/
def eR (k n : Nat) : D := if n = 0 then .v (.slice none 0 0) else .ref k (n - 1) n
def σR (p : List Slot) (dd n sz ty : Nat) (cs : List D) : List Slot := if n = 0 then p else p ++ List.replicate dd .dead ++ [.ent ⟨n - 1, some sz, ty, cs, .cells⟩]
theorem rCase (p : List Slot) (k dd n sz ty : Nat) (cs : List D) : (n = 0 ∧ eR k n = .v (.slice none 0 0) ∧ σR p dd n sz ty cs = p) ∨ (∃ j, n = j + 1 ∧ eR k n = .ref k j (j + 1) ∧ σR p dd n sz ty cs = p ++ List.replicate dd .dead ++ [.ent ⟨j, some sz, ty, cs, .cells⟩]) := by
  cases n with
  | zero => exact .inl ⟨rfl, rfl, rfl⟩
  | succ j => exact .inr ⟨j, rfl, rfl, rfl⟩
end Go.Proofs.Ytabliglgeiajlaa.AM

/- Rows of one's own: clone, delete. -/
namespace Go.Proofs.Ytabliglgeiajlaa.AM
open Go Go.RowKit Go.Proofs
set_option maxRecDepth 100000
set_option maxHeartbeats 4000000

/-- Of an empty row it may be asked whether it is nil. -/
theorem Fn.nilR {P : Program} {f : Nat} {full : Bool} {sz : Nat} {res : D} {out : List Slot} (h : ∀ A cap, Fn P f [.v (.slice A 0 cap)] [] res out) : Fn P f [.sl full sz []] [] res out where
  spec := fun N0 ρ w vs hp hs hr => by
    have h0 : 0 < vs.size := by rw [hs]; simp
    have hv : vs[0]? = some vs[0] := Array.getElem?_eq_getElem h0
    have hrep := (hr 0 _ _ rfl hv).sl_inv
    generalize hu : vs[0] = u at hrep
    cases hrep with
    | sl0 _ _ A cap _ =>
      refine (h A cap).spec N0 ρ w vs hp (by rw [hs]; rfl) fun j d u hd hu' => ?_
      cases j with
      | zero =>
        simp only [List.getElem?_cons_zero, Option.some.injEq] at hd
        rw [hv, hu] at hu'
        cases hu'
        subst hd
        exact .fro _ _ (.v _)
      | succ j => simp at hd
    | sl _ _ _ b o cap n g hn hpos => simp at hn; omega
  enter := (h none 0).enter
theorem tCells_dropR (l : List (Int × Int × Int)) (n : Nat) : (tCells l).drop (n * 3) = tCells (l.drop n) := by
  induction n generalizing l with
  | zero => simp
  | succ n ih =>
    cases l with
    | nil => simp [tCells, tRow]
    | cons a l =>
      rw [List.drop_succ_cons, ← ih l, show (n + 1) * 3 = n * 3 + 3 by omega]
      simp [tCells, tRow]
theorem tCells_takeR (l : List (Int × Int × Int)) (n : Nat) : (tCells l).take (n * 3) = tCells (l.take n) := by
  induction n generalizing l with
  | zero => simp [tCells, tRow]
  | succ n ih =>
    cases l with
    | nil => simp [tCells, tRow]
    | cons a l =>
      rw [List.take_succ_cons, show (n + 1) * 3 = n * 3 + 3 by omega]
      have := ih l
      simp only [tCells, tRow, List.map_cons, List.flatten_cons, List.cons_append, List.nil_append] at this ⊢
      rw [← this]; rfl
theorem isNilL_tRowR {l : List (Int × Int × Int)} (h : 0 < l.length) : isNilL (tRow l) = false := by
  cases l with
  | nil => simp at h
  | cons _ _ => rfl
theorem isNilL_sRowR {l : List (Bool × Int × Int)} (h : 0 < l.length) : isNilL (sRow l) = false := by
  cases l with
  | nil => simp at h
  | cons _ _ => rfl
theorem clA_fn (f : Bool) (l : List (Int × Int)) (h0 : 0 < l.length) (hb : l.length ≤ 1000000) : Fn Try.prog 229 [.sl f 2 (pRow l)] [] (.ref 0 0 l.length) [.ent ⟨0, some 2, 79, pCells l, .cells⟩] := by
  have hnl := isNilL_pRow h0
  have hfl : (pRow l).flatten = pCells l := rfl
  refine Fn.of (fn := Try.f229) (by kernel_rfl) rfl (by kernel_rfl) ⟨[.sl f 2 (pRow l), .v undef, .v undef, .v undef, .v undef, .v undef, .v undef, .v undef], []⟩ rfl ?_
  repeat' first | (with_reducible first | refine AWP_seq' ?_ | refine k_normal ?_ | refine k_ret ?_ | refine k_exit ?_ | refine b_normal ?_ | refine b_ret ?_ | refine b_exit ?_ | refine b_pass rfl ?_ | refine AWP_skip ?_ | refine AWP_exit ?_ | refine AWP_block ?_) | ((with_reducible refine And.intro ?_ ?_); · exact Sq) | ((first | with_reducible refine AWP_reg fun KC J hJ hKC => ?_ | with_reducible refine AWP_regD rfl fun KC J hJ hKC => ?_); simp (maxSteps := 10000000) only [push_cast, seval, ↓reduceIte, hnl, hfl, Nat.zero_add]) | ((first | with_reducible refine hJ _ _ ?_ | (with_reducible refine hJ _ _ ?_ ?_; · kernel_rfl)); clear hJ hKC KC J) | ((with_reducible refine AWP_condT ?_ ?_); · rfl) | ((with_reducible refine AWP_condF ?_ ?_); · rfl) | ((with_reducible refine ite_intro (fun hs => ?_) (fun hs => ?_)) <;> (try simp only [Bool.not_eq_true, Bool.not_eq_false, Bool.not_eq_true', Bool.not_eq_false', Decidable.not_not, decide_eq_true_eq, decide_eq_false_iff_not] at hs) <;> (try simp (maxSteps := 10000000) only [push_cast, seval, ↓reduceIte, hs, hnl, hfl, Nat.zero_add])) | (refine AWP_cond rfl (fun h => ?_) (fun h => ?_) <;> try simp only [decide_eq_true_eq, decide_eq_false_iff_not, Bool.not_eq_true', Bool.not_eq_false', beq_iff_eq, bne_iff_ne, ne_eq, Bool.not_eq_true, Bool.or_eq_true, Bool.and_eq_true, Bool.or_eq_false_iff, Bool.and_eq_false_imp, beq_eq_false_iff_ne, bne_eq_false_iff_eq] at h)
  refine AWP_ret ?_
  refine ret_new [1] ?_ (by simp) ?_
  · simp (maxSteps := 10000000) only [push_cast, seval, ↓reduceIte, show Try.f229.results = #[.tmp 2] from rfl, pick, mOf, idx, renSlot, ren_pCells]
    exact leD_refl _
  · intro k hk
    exact absurd hk (by simp)
theorem clT_fn (f : Bool) (l : List (Int × Int × Int)) (h0 : 0 < l.length) (hb : l.length ≤ 1000000) : Fn Try.prog 270 [.sl f 3 (tRow l)] [] (.ref 0 0 l.length) [.ent ⟨0, some 3, 172, tCells l, .cells⟩] := by
  have hnl := isNilL_tRowR h0
  have hfl : (tRow l).flatten = tCells l := rfl
  refine Fn.of (fn := Try.f270) (by kernel_rfl) rfl (by kernel_rfl) ⟨[.sl f 3 (tRow l), .v undef, .v undef, .v undef, .v undef, .v undef, .v undef, .v undef], []⟩ rfl ?_
  repeat' first | (with_reducible first | refine AWP_seq' ?_ | refine k_normal ?_ | refine k_ret ?_ | refine k_exit ?_ | refine b_normal ?_ | refine b_ret ?_ | refine b_exit ?_ | refine b_pass rfl ?_ | refine AWP_skip ?_ | refine AWP_exit ?_ | refine AWP_block ?_) | ((with_reducible refine And.intro ?_ ?_); · exact Sq) | ((first | with_reducible refine AWP_reg fun KC J hJ hKC => ?_ | with_reducible refine AWP_regD rfl fun KC J hJ hKC => ?_); simp (maxSteps := 10000000) only [push_cast, seval, ↓reduceIte, hnl, hfl, Nat.zero_add]) | ((first | with_reducible refine hJ _ _ ?_ | (with_reducible refine hJ _ _ ?_ ?_; · kernel_rfl)); clear hJ hKC KC J) | ((with_reducible refine AWP_condT ?_ ?_); · rfl) | ((with_reducible refine AWP_condF ?_ ?_); · rfl) | ((with_reducible refine ite_intro (fun hs => ?_) (fun hs => ?_)) <;> (try simp only [Bool.not_eq_true, Bool.not_eq_false, Bool.not_eq_true', Bool.not_eq_false', Decidable.not_not, decide_eq_true_eq, decide_eq_false_iff_not] at hs) <;> (try simp (maxSteps := 10000000) only [push_cast, seval, ↓reduceIte, hs, hnl, hfl, Nat.zero_add])) | (refine AWP_cond rfl (fun h => ?_) (fun h => ?_) <;> try simp only [decide_eq_true_eq, decide_eq_false_iff_not, Bool.not_eq_true', Bool.not_eq_false', beq_iff_eq, bne_iff_ne, ne_eq, Bool.not_eq_true, Bool.or_eq_true, Bool.and_eq_true, Bool.or_eq_false_iff, Bool.and_eq_false_imp, beq_eq_false_iff_ne, bne_eq_false_iff_eq] at h)
  refine AWP_ret ?_
  refine ret_new [1] ?_ (by simp) ?_
  · simp (maxSteps := 10000000) only [push_cast, seval, ↓reduceIte, show Try.f270.results = #[.tmp 2] from rfl, pick, mOf, idx, renSlot, ren_tCells]
    exact leD_refl _
  · intro k hk
    exact absurd hk (by simp)
theorem clT_nil (f : Bool) : Fn (Try.prog) 270 [.sl f 3 []] [] (.sl true 3 []) [] := by
  refine Fn.nilR fun A cap => ?_
  refine Fn.of (fn := Try.f270) (by kernel_rfl) rfl (by kernel_rfl) ⟨[.v (.slice A 0 cap), .v undef, .v undef, .v undef, .v undef, .v undef, .v undef, .v undef], []⟩ rfl ?_
  cases A
  all_goals
    repeat' first | (with_reducible first | refine AWP_seq' ?_ | refine k_normal ?_ | refine k_ret ?_ | refine k_exit ?_ | refine b_normal ?_ | refine b_ret ?_ | refine b_exit ?_ | refine b_pass rfl ?_ | refine AWP_ret ?_ | refine AWP_skip ?_ | refine AWP_exit ?_ | refine AWP_block ?_) | ((with_reducible refine And.intro ?_ ?_); · exact Sq) | ((first | with_reducible refine AWP_reg fun KC J hJ hKC => ?_ | with_reducible refine AWP_regD rfl fun KC J hJ hKC => ?_); simp (maxSteps := 10000000) only [push_cast, seval, ↓reduceIte, Option.isNone_none, Option.isNone_some]) | ((first | with_reducible refine hJ _ _ ?_ | (with_reducible refine hJ _ _ ?_ ?_; · kernel_rfl)); clear hJ hKC KC J) | ((with_reducible refine AWP_condT ?_ ?_); · rfl) | ((with_reducible refine AWP_condF ?_ ?_); · rfl) | ((with_reducible refine ite_intro (fun hs => ?_) (fun hs => ?_)) <;> (try simp only [Bool.not_eq_true, Bool.not_eq_false, Bool.not_eq_true', Bool.not_eq_false', Decidable.not_not, decide_eq_true_eq, decide_eq_false_iff_not] at hs) <;> (try simp (maxSteps := 10000000) only [push_cast, seval, ↓reduceIte, hs, Option.isNone_none, Option.isNone_some])) | (refine AWP_cond rfl (fun h => ?_) (fun h => ?_) <;> try simp only [decide_eq_true_eq, decide_eq_false_iff_not, Bool.not_eq_true', Bool.not_eq_false', beq_iff_eq, bne_iff_ne, ne_eq, Bool.not_eq_true, Bool.or_eq_true, Bool.and_eq_true, Bool.or_eq_false_iff, Bool.and_eq_false_imp, beq_eq_false_iff_ne, bne_eq_false_iff_eq] at h)
    refine ret_plain ?_
    simp (maxSteps := 10000000) only [push_cast, seval, ↓reduceIte, show Try.f270.results = #[(.tmp 2)] from rfl]
    exact Lq
theorem clS_fn (f : Bool) (l : List (Bool × Int × Int)) (h0 : 0 < l.length) (hb : l.length ≤ 1000000) : Fn Try.prog 286 [.sl f 3 (sRow l)] [] (.ref 0 0 l.length) [.ent ⟨0, some 3, 113, sCells l, .cells⟩] := by
  have hnl := isNilL_sRowR h0
  have hfl : (sRow l).flatten = sCells l := rfl
  refine Fn.of (fn := Try.f286) (by kernel_rfl) rfl (by kernel_rfl) ⟨[.sl f 3 (sRow l), .v undef, .v undef, .v undef, .v undef, .v undef, .v undef, .v undef], []⟩ rfl ?_
  repeat' first | (with_reducible first | refine AWP_seq' ?_ | refine k_normal ?_ | refine k_ret ?_ | refine k_exit ?_ | refine b_normal ?_ | refine b_ret ?_ | refine b_exit ?_ | refine b_pass rfl ?_ | refine AWP_skip ?_ | refine AWP_exit ?_ | refine AWP_block ?_) | ((with_reducible refine And.intro ?_ ?_); · exact Sq) | ((first | with_reducible refine AWP_reg fun KC J hJ hKC => ?_ | with_reducible refine AWP_regD rfl fun KC J hJ hKC => ?_); simp (maxSteps := 10000000) only [push_cast, seval, ↓reduceIte, hnl, hfl, Nat.zero_add]) | ((first | with_reducible refine hJ _ _ ?_ | (with_reducible refine hJ _ _ ?_ ?_; · kernel_rfl)); clear hJ hKC KC J) | ((with_reducible refine AWP_condT ?_ ?_); · rfl) | ((with_reducible refine AWP_condF ?_ ?_); · rfl) | ((with_reducible refine ite_intro (fun hs => ?_) (fun hs => ?_)) <;> (try simp only [Bool.not_eq_true, Bool.not_eq_false, Bool.not_eq_true', Bool.not_eq_false', Decidable.not_not, decide_eq_true_eq, decide_eq_false_iff_not] at hs) <;> (try simp (maxSteps := 10000000) only [push_cast, seval, ↓reduceIte, hs, hnl, hfl, Nat.zero_add])) | (refine AWP_cond rfl (fun h => ?_) (fun h => ?_) <;> try simp only [decide_eq_true_eq, decide_eq_false_iff_not, Bool.not_eq_true', Bool.not_eq_false', beq_iff_eq, bne_iff_ne, ne_eq, Bool.not_eq_true, Bool.or_eq_true, Bool.and_eq_true, Bool.or_eq_false_iff, Bool.and_eq_false_imp, beq_eq_false_iff_ne, bne_eq_false_iff_eq] at h)
  refine AWP_ret ?_
  refine ret_new [1] ?_ (by simp) ?_
  · simp (maxSteps := 10000000) only [push_cast, seval, ↓reduceIte, show Try.f286.results = #[.tmp 2] from rfl, pick, mOf, idx, renSlot, ren_sCells]
    exact leD_refl _
  · intro k hk
    exact absurd hk (by simp)
theorem clS_nil (f : Bool) : Fn (Try.prog) 286 [.sl f 3 []] [] (.sl true 3 []) [] := by
  refine Fn.nilR fun A cap => ?_
  refine Fn.of (fn := Try.f286) (by kernel_rfl) rfl (by kernel_rfl) ⟨[.v (.slice A 0 cap), .v undef, .v undef, .v undef, .v undef, .v undef, .v undef, .v undef], []⟩ rfl ?_
  cases A
  all_goals
    repeat' first | (with_reducible first | refine AWP_seq' ?_ | refine k_normal ?_ | refine k_ret ?_ | refine k_exit ?_ | refine b_normal ?_ | refine b_ret ?_ | refine b_exit ?_ | refine b_pass rfl ?_ | refine AWP_ret ?_ | refine AWP_skip ?_ | refine AWP_exit ?_ | refine AWP_block ?_) | ((with_reducible refine And.intro ?_ ?_); · exact Sq) | ((first | with_reducible refine AWP_reg fun KC J hJ hKC => ?_ | with_reducible refine AWP_regD rfl fun KC J hJ hKC => ?_); simp (maxSteps := 10000000) only [push_cast, seval, ↓reduceIte, Option.isNone_none, Option.isNone_some]) | ((first | with_reducible refine hJ _ _ ?_ | (with_reducible refine hJ _ _ ?_ ?_; · kernel_rfl)); clear hJ hKC KC J) | ((with_reducible refine AWP_condT ?_ ?_); · rfl) | ((with_reducible refine AWP_condF ?_ ?_); · rfl) | ((with_reducible refine ite_intro (fun hs => ?_) (fun hs => ?_)) <;> (try simp only [Bool.not_eq_true, Bool.not_eq_false, Bool.not_eq_true', Bool.not_eq_false', Decidable.not_not, decide_eq_true_eq, decide_eq_false_iff_not] at hs) <;> (try simp (maxSteps := 10000000) only [push_cast, seval, ↓reduceIte, hs, Option.isNone_none, Option.isNone_some])) | (refine AWP_cond rfl (fun h => ?_) (fun h => ?_) <;> try simp only [decide_eq_true_eq, decide_eq_false_iff_not, Bool.not_eq_true', Bool.not_eq_false', beq_iff_eq, bne_iff_ne, ne_eq, Bool.not_eq_true, Bool.or_eq_true, Bool.and_eq_true, Bool.or_eq_false_iff, Bool.and_eq_false_imp, beq_eq_false_iff_ne, bne_eq_false_iff_eq] at h)
    refine ret_plain ?_
    simp (maxSteps := 10000000) only [push_cast, seval, ↓reduceIte, show Try.f286.results = #[(.tmp 2)] from rfl]
    exact Lq
theorem idxF_casesR {α : Type} (p : α → Bool) (xs : List α) : (idxF p xs = -1 ∧ ∀ x ∈ xs, p x = false) ∨ ∃ i, idxF p xs = (i : Nat) ∧ ∃ h : i < xs.length, p xs[i] = true ∧ ∀ (j : Nat) (hj : j < xs.length), j < i → p xs[j] = false := by
  unfold idxF
  cases h : xs.findIdx? p with
  | none =>
    rw [List.findIdx?_eq_none_iff] at h
    exact .inl ⟨rfl, h⟩
  | some i =>
    rw [List.findIdx?_eq_some_iff_getElem] at h
    obtain ⟨h1, h2, h3⟩ := h
    exact .inr ⟨i, rfl, h1, h2, fun j hj hji => by simpa using h3 j hji⟩
theorem tCells_at {l : List (Int × Int × Int)} {n : Nat} {x : Int × Int × Int} (h : l[n]? = some x) : ((tCells l).drop (n * 3)).take 3 = [.v (.int .i64 x.1), .v (.int .i64 x.2.1), .v (.int .i64 x.2.2)] := by
  obtain ⟨hn, rfl⟩ := List.getElem?_eq_some_iff.1 h
  rw [tCells_dropR, List.drop_eq_getElem_cons hn]
  rfl
theorem tCells_set (l : List (Int × Int × Int)) {a : Nat} (x : Int × Int × Int) (h : a < l.length) : tCells (l.set a x) = (tCells l).take (a * 3) ++ [.v (.int .i64 x.1), .v (.int .i64 x.2.1), .v (.int .i64 x.2.2)] ++ (tCells l).drop (a * 3 + 3) := by
  rw [List.set_eq_take_append_cons_drop, if_pos h, tCells_app, tCells_takeR]
  have h2 : a * 3 + 3 = (a + 1) * 3 := by omega
  rw [h2, tCells_dropR]
  simp [tCells, tRow]
/-- The same, in a row of one's own. -/
theorem indexFuncTK_fn (xs : List (Int × Int × Int)) (n : Nat) (hn0 : xs.length = n) (cf : Nat) (caps : List D) (p : Int × Int × Int → Bool) (hb : n ≤ 1000000) (hc : frz0All caps = true)
    (hp : ∀ x ∈ xs, Fn Try.prog cf (.agg [.v (.int .i64 x.1), .v (.int .i64 x.2.1), .v (.int .i64 x.2.2)] :: caps) [] (.v (.bool (p x))) []) : Fn (Try.prog) 246 [.ref 0 0 n, .fn cf caps] [.ent ⟨0, some 3, 172, tCells xs, .cells⟩] (.v (.int .i64 (idxF p xs))) [.ent ⟨0, some 3, 172, tCells xs, .cells⟩] := by
  have hlC : (tCells xs).length = n * 3 := by rw [tCells_length, hn0]
  refine Fn.of (fn := Try.f246) (by kernel_rfl) rfl (by kernel_rfl) ⟨[.ref 0 0 n, .fn cf caps, .v undef, .v undef, .v undef, .v undef, .v undef, .v undef, .v undef, .v undef, .v undef, .v undef, .v undef, .v undef, .v undef, .v undef, .v undef, .v undef, .v undef], [.ent ⟨0, some 3, 172, tCells xs, .cells⟩]⟩ rfl ?_
  repeat' first | (with_reducible first | refine AWP_seq' ?_ | refine k_normal ?_ | refine k_ret ?_ | refine k_exit ?_ | refine b_normal ?_ | refine b_ret ?_ | refine b_exit ?_ | refine b_pass rfl ?_ | refine AWP_ret ?_ | refine AWP_skip ?_ | refine AWP_exit ?_ | refine AWP_block ?_) | ((with_reducible refine And.intro ?_ ?_); · exact Sq) | ((first | with_reducible refine AWP_reg fun KC J hJ hKC => ?_ | with_reducible refine AWP_regD rfl fun KC J hJ hKC => ?_); simp (maxSteps := 10000000) only [push_cast, seval, ↓reduceIte, hlC]) | ((first | with_reducible refine hJ _ _ ?_ | (with_reducible refine hJ _ _ ?_ ?_; · kernel_rfl)); clear hJ hKC KC J) | ((with_reducible refine AWP_condT ?_ ?_); · rfl) | ((with_reducible refine AWP_condF ?_ ?_); · rfl) | ((with_reducible refine ite_intro (fun hs => ?_) (fun hs => ?_)) <;> (try simp only [Bool.not_eq_true, Bool.not_eq_false, Bool.not_eq_true', Bool.not_eq_false', Decidable.not_not, decide_eq_true_eq, decide_eq_false_iff_not] at hs) <;> (try simp (maxSteps := 10000000) only [push_cast, seval, ↓reduceIte, hs, hlC])) | (refine AWP_cond rfl (fun h => ?_) (fun h => ?_) <;> try simp only [decide_eq_true_eq, decide_eq_false_iff_not, Bool.not_eq_true', Bool.not_eq_false', beq_iff_eq, bne_iff_ne, ne_eq, Bool.not_eq_true, Bool.or_eq_true, Bool.and_eq_true, Bool.or_eq_false_iff, Bool.and_eq_false_imp, beq_eq_false_iff_ne, bne_eq_false_iff_eq] at h)
  refine AWP_loopF (γ := {i : Nat // i ≤ n ∧ ∀ (j : Nat) (hj : j < xs.length), j < i → p xs[j] = false}) (fun i => ⟨[.ref 0 0 n, .fn cf caps, .any, .any, .any, .any, .any, .v (.int .i64 n), .v (.int .i64 i.1), .any, .any, .any, .any, .any, .any, .any, .any, .any, .any], [.ent ⟨0, some 3, 172, tCells xs, .cells⟩]⟩) (fun i => n - i.1) ⟨0, by simp⟩ ⟨?_, Fq⟩ ?_
  · exact Lq
  · rintro ⟨i, hi, hn⟩
    by_cases hlt : (i : Int) < (n : Int)
    · have hx : xs[i]? = some xs[i] := List.getElem?_eq_getElem (by omega)
      have hfn := hp xs[i] (List.getElem_mem (by omega))
      have hat := tCells_at hx
      repeat' first | (with_reducible first | refine AWP_seq' ?_ | refine k_normal ?_ | refine k_ret ?_ | refine k_exit ?_ | refine b_normal ?_ | refine b_ret ?_ | refine b_exit ?_ | refine b_pass rfl ?_ | refine AWP_ret ?_ | refine AWP_skip ?_ | refine AWP_exit ?_ | refine AWP_block ?_) | ((with_reducible refine And.intro ?_ ?_); · exact Sq) | ((first | with_reducible refine AWP_reg fun KC J hJ hKC => ?_ | with_reducible refine AWP_regD rfl fun KC J hJ hKC => ?_ | (refine hKC _ _ _ _ _ (callV0 (hfn) rfl rfl rfl ?_ ?_); (· exact Lq))); simp (maxSteps := 10000000) only [push_cast, seval, ↓reduceIte, hlt, hlC, hat, wrapN (i := i) (n := n) (by omega) (by omega)]) | ((first | with_reducible refine hJ _ _ ?_ | (with_reducible refine hJ _ _ ?_ ?_; · kernel_rfl)); clear hJ hKC KC J) | ((with_reducible refine AWP_condT ?_ ?_); · rfl) | ((with_reducible refine AWP_condF ?_ ?_); · rfl) | ((with_reducible refine ite_intro (fun hs => ?_) (fun hs => ?_)) <;> (try simp only [Bool.not_eq_true, Bool.not_eq_false, Bool.not_eq_true', Bool.not_eq_false', Decidable.not_not, decide_eq_true_eq, decide_eq_false_iff_not] at hs) <;> (try simp (maxSteps := 10000000) only [push_cast, seval, ↓reduceIte, hs, hlt, hlC, hat, wrapN (i := i) (n := n) (by omega) (by omega)])) | (refine AWP_cond rfl (fun h => ?_) (fun h => ?_) <;> try simp only [decide_eq_true_eq, decide_eq_false_iff_not, Bool.not_eq_true', Bool.not_eq_false', beq_iff_eq, bne_iff_ne, ne_eq, Bool.not_eq_true, Bool.or_eq_true, Bool.and_eq_true, Bool.or_eq_false_iff, Bool.and_eq_false_imp, beq_eq_false_iff_ne, bne_eq_false_iff_eq] at h)
      · refine ret_keys ?_
        simp (maxSteps := 10000000) only [push_cast, seval, ↓reduceIte, show Try.f246.results = #[(.tmp 4)] from rfl]
        exact ⟨(by show List.map _ [0] = _; simp only [List.map_cons, List.map_nil, getS, renSlot, ren_tCells]), leD_v (by rw [idxF_at (by omega) h hn])⟩
      · refine ⟨⟨i + 1, by omega, fun j hj hji => ?_⟩, by simp only; omega, ?_, Fq⟩
        · by_cases he : j = i
          · subst he; exact h
          · exact hn j hj (by omega)
        · exact Lq
    · skip
      repeat' first | (with_reducible first | refine AWP_seq' ?_ | refine k_normal ?_ | refine k_ret ?_ | refine k_exit ?_ | refine b_normal ?_ | refine b_ret ?_ | refine b_exit ?_ | refine b_pass rfl ?_ | refine AWP_ret ?_ | refine AWP_skip ?_ | refine AWP_exit ?_ | refine AWP_block ?_) | ((with_reducible refine And.intro ?_ ?_); · exact Sq) | ((first | with_reducible refine AWP_reg fun KC J hJ hKC => ?_ | with_reducible refine AWP_regD rfl fun KC J hJ hKC => ?_); simp (maxSteps := 10000000) only [push_cast, seval, ↓reduceIte, hlt, hlC]) | ((first | with_reducible refine hJ _ _ ?_ | (with_reducible refine hJ _ _ ?_ ?_; · kernel_rfl)); clear hJ hKC KC J) | ((with_reducible refine AWP_condT ?_ ?_); · rfl) | ((with_reducible refine AWP_condF ?_ ?_); · rfl) | ((with_reducible refine ite_intro (fun hs => ?_) (fun hs => ?_)) <;> (try simp only [Bool.not_eq_true, Bool.not_eq_false, Bool.not_eq_true', Bool.not_eq_false', Decidable.not_not, decide_eq_true_eq, decide_eq_false_iff_not] at hs) <;> (try simp (maxSteps := 10000000) only [push_cast, seval, ↓reduceIte, hs, hlt, hlC])) | (refine AWP_cond rfl (fun h => ?_) (fun h => ?_) <;> try simp only [decide_eq_true_eq, decide_eq_false_iff_not, Bool.not_eq_true', Bool.not_eq_false', beq_iff_eq, bne_iff_ne, ne_eq, Bool.not_eq_true, Bool.or_eq_true, Bool.and_eq_true, Bool.or_eq_false_iff, Bool.and_eq_false_imp, beq_eq_false_iff_ne, bne_eq_false_iff_eq] at h)
      refine ret_keys ?_
      simp (maxSteps := 10000000) only [push_cast, seval, ↓reduceIte, show Try.f246.results = #[(.tmp 4)] from rfl]
      exact ⟨(by show List.map _ [0] = _; simp only [List.map_cons, List.map_nil, getS, renSlot, ren_tCells]), leD_v (by rw [idxF_none (fun j hj => hn j hj (by omega))])⟩
theorem deleteFuncT_nil (cf : Nat) (caps : List D) (hc : frz0All caps = true) : Fn (Try.prog) 269 [.sl true 3 [], .fn cf caps] [] (.sl true 3 []) [] := by
  have hif := indexFuncT_fn true [] cf caps (fun _ => false) (by simp) hc (fun x hx => by cases hx)
  refine Fn.of (fn := Try.f269) (by kernel_rfl) rfl (by kernel_rfl) ⟨[.sl true 3 [], .fn cf caps, .v undef, .v undef, .v undef, .v undef, .v undef, .v undef, .v undef, .v undef, .v undef, .v undef, .v undef, .v undef, .v undef, .v undef, .v undef, .v undef, .v undef, .v undef, .v undef, .v undef, .v undef, .v undef, .v undef, .v undef, .v undef, .v undef, .v undef, .v undef, .v undef, .v undef, .v undef, .v undef, .v undef, .v undef, .v undef, .v undef, .v undef, .v undef, .v undef, .v undef], []⟩ rfl ?_
  repeat' first | (with_reducible first | refine AWP_seq' ?_ | refine k_normal ?_ | refine k_ret ?_ | refine k_exit ?_ | refine b_normal ?_ | refine b_ret ?_ | refine b_exit ?_ | refine b_pass rfl ?_ | refine AWP_ret ?_ | refine AWP_skip ?_ | refine AWP_exit ?_ | refine AWP_block ?_) | ((with_reducible refine And.intro ?_ ?_); · exact Sq) | ((first | with_reducible refine AWP_reg fun KC J hJ hKC => ?_ | with_reducible refine AWP_regD rfl fun KC J hJ hKC => ?_ | (refine hKC _ _ _ _ _ (callV0 (hif) rfl rfl rfl ?_ ?_); (· exact Lq))); simp (maxSteps := 10000000) only [push_cast, seval, ↓reduceIte, (show idxF (fun _ : Int × Int × Int => false) [] = -1 from rfl)]) | ((first | with_reducible refine hJ _ _ ?_ | (with_reducible refine hJ _ _ ?_ ?_; · kernel_rfl)); clear hJ hKC KC J) | ((with_reducible refine AWP_condT ?_ ?_); · rfl) | ((with_reducible refine AWP_condF ?_ ?_); · rfl) | ((with_reducible refine ite_intro (fun hs => ?_) (fun hs => ?_)) <;> (try simp only [Bool.not_eq_true, Bool.not_eq_false, Bool.not_eq_true', Bool.not_eq_false', Decidable.not_not, decide_eq_true_eq, decide_eq_false_iff_not] at hs) <;> (try simp (maxSteps := 10000000) only [push_cast, seval, ↓reduceIte, hs, (show idxF (fun _ : Int × Int × Int => false) [] = -1 from rfl)])) | (refine AWP_cond rfl (fun h => ?_) (fun h => ?_) <;> try simp only [decide_eq_true_eq, decide_eq_false_iff_not, Bool.not_eq_true', Bool.not_eq_false', beq_iff_eq, bne_iff_ne, ne_eq, Bool.not_eq_true, Bool.or_eq_true, Bool.and_eq_true, Bool.or_eq_false_iff, Bool.and_eq_false_imp, beq_eq_false_iff_ne, bne_eq_false_iff_eq] at h)
  refine ret_plain ?_
  simp (maxSteps := 10000000) only [push_cast, seval, ↓reduceIte, show Try.f269.results = #[(.tmp 4)] from rfl]
  exact Lq
theorem deleteFuncT_fn (l : List (Int × Int × Int)) (n : Nat) (hn0 : l.length = n) (cf : Nat) (caps : List D) (q : Int × Int × Int → Bool) (hb : n ≤ 1000000) (hc : frz0All caps = true)
    (hp : ∀ x ∈ l, Fn Try.prog cf (.agg [.v (.int .i64 x.1), .v (.int .i64 x.2.1), .v (.int .i64 x.2.2)] :: caps) [] (.v (.bool (!q x))) []) :
    Fn (Try.prog) 269 [.ref 0 0 n, .fn cf caps] [.ent ⟨0, some 3, 172, tCells l, .cells⟩] (.sl false 3 (tRow (l.filter q))) [.dead] := by
  have hif := indexFuncTK_fn l n hn0 cf caps (fun x => !q x) hb hc hp
  have hlC : ∀ l : List (Int × Int × Int), l.length = n → (tCells l).length = n * 3 := fun l h => by rw [tCells_length, h]
  have hbm : Nat.beq 0 0 = true := rfl
  refine Fn.of (fn := Try.f269) (by kernel_rfl) rfl (by kernel_rfl) ⟨[.ref 0 0 n, .fn cf caps, .v undef, .v undef, .v undef, .v undef, .v undef, .v undef, .v undef, .v undef, .v undef, .v undef, .v undef, .v undef, .v undef, .v undef, .v undef, .v undef, .v undef, .v undef, .v undef, .v undef, .v undef, .v undef, .v undef, .v undef, .v undef, .v undef, .v undef, .v undef, .v undef, .v undef, .v undef, .v undef, .v undef, .v undef, .v undef, .v undef, .v undef, .v undef, .v undef, .v undef], [.ent ⟨0, some 3, 172, tCells l, .cells⟩]⟩ rfl ?_
  rcases idxF_casesR (fun x => !q x) l with ⟨hi, hno⟩ | ⟨i, hi, hil, hpi, hno⟩
  · have hfl : l.filter q = l := List.filter_eq_self.2 fun x hx => by simpa using hno x hx
    rw [hfl]
    have hcS : chunk 3 n (tCells l) = tRow l := by rw [← hn0]; exact chunk_t l
    repeat' first | (with_reducible first | refine AWP_seq' ?_ | refine k_normal ?_ | refine k_ret ?_ | refine k_exit ?_ | refine b_normal ?_ | refine b_ret ?_ | refine b_exit ?_ | refine b_pass rfl ?_ | refine AWP_skip ?_ | refine AWP_exit ?_ | refine AWP_block ?_) | ((with_reducible refine And.intro ?_ ?_); · exact Sq) | ((first | with_reducible refine AWP_reg fun KC J hJ hKC => ?_ | with_reducible refine AWP_regD rfl fun KC J hJ hKC => ?_ | (refine hKC _ _ _ _ _ (callK [0] hif rfl rfl rfl (by decide) (by simp) rfl (by simp only [push_cast, pick, mOf, idx, renSlot, ren_tCells]) (by simp only [push_cast, mOf, idx]; exact ⟨leD_refl _, leD_fn hc, trivial⟩) ?_))); simp (maxSteps := 10000000) only [push_cast, seval, ↓reduceIte, hi, backOf, callSets, renSlot, pick, mOf, idx, ren_tCells]) | ((first | with_reducible refine hJ _ _ ?_ | (with_reducible refine hJ _ _ ?_ ?_; · kernel_rfl)); clear hJ hKC KC J) | ((with_reducible refine AWP_condT ?_ ?_); · rfl) | ((with_reducible refine AWP_condF ?_ ?_); · rfl) | ((with_reducible refine ite_intro (fun hs => ?_) (fun hs => ?_)) <;> (try simp only [Bool.not_eq_true, Bool.not_eq_false, Bool.not_eq_true', Bool.not_eq_false', Decidable.not_not, decide_eq_true_eq, decide_eq_false_iff_not] at hs) <;> (try simp (maxSteps := 10000000) only [push_cast, seval, ↓reduceIte, hs, hi, backOf, callSets, renSlot, pick, mOf, idx, ren_tCells])) | (refine AWP_cond rfl (fun h => ?_) (fun h => ?_) <;> try simp only [decide_eq_true_eq, decide_eq_false_iff_not, Bool.not_eq_true', Bool.not_eq_false', beq_iff_eq, bne_iff_ne, ne_eq, Bool.not_eq_true, Bool.or_eq_true, Bool.and_eq_true, Bool.or_eq_false_iff, Bool.and_eq_false_imp, beq_eq_false_iff_ne, bne_eq_false_iff_eq] at h)
    refine AWP_freeze 0 rfl (by simp (maxSteps := 10000000) only [push_cast, seval, ↓reduceIte]) ?_
    simp (maxSteps := 10000000) only [push_cast, seval, ↓reduceIte, frSt, frSlot, fr3, fr2, fr1, fr0, sameB, arrOf, hbm, hlC l hn0, hcS]
    refine AWP_ret ?_
    refine ret_keys ?_
    simp (maxSteps := 10000000) only [push_cast, seval, ↓reduceIte, show Try.f269.results = #[(.tmp 4)] from rfl]
    exact ⟨rfl, leD_refl _⟩
  · skip
    repeat' first | (with_reducible first | refine AWP_seq' ?_ | refine k_normal ?_ | refine k_ret ?_ | refine k_exit ?_ | refine b_normal ?_ | refine b_ret ?_ | refine b_exit ?_ | refine b_pass rfl ?_ | refine AWP_ret ?_ | refine AWP_skip ?_ | refine AWP_exit ?_ | refine AWP_block ?_) | ((with_reducible refine And.intro ?_ ?_); · exact Sq) | ((first | with_reducible refine AWP_reg fun KC J hJ hKC => ?_ | with_reducible refine AWP_regD rfl fun KC J hJ hKC => ?_ | (refine hKC _ _ _ _ _ (callK [0] hif rfl rfl rfl (by decide) (by simp) rfl (by simp only [push_cast, pick, mOf, idx, renSlot, ren_tCells]) (by simp only [push_cast, mOf, idx]; exact ⟨leD_refl _, leD_fn hc, trivial⟩) ?_))); simp (maxSteps := 10000000) only [push_cast, seval, ↓reduceIte, hi, backOf, callSets, renSlot, pick, mOf, idx, ren_tCells]) | ((first | with_reducible refine hJ _ _ ?_ | (with_reducible refine hJ _ _ ?_ ?_; · kernel_rfl)); clear hJ hKC KC J) | ((with_reducible refine AWP_condT ?_ ?_); · rfl) | ((with_reducible refine AWP_condF ?_ ?_); · rfl) | ((with_reducible refine ite_intro (fun hs => ?_) (fun hs => ?_)) <;> (try simp only [Bool.not_eq_true, Bool.not_eq_false, Bool.not_eq_true', Bool.not_eq_false', Decidable.not_not, decide_eq_true_eq, decide_eq_false_iff_not] at hs) <;> (try simp (maxSteps := 10000000) only [push_cast, seval, ↓reduceIte, hs, hi, backOf, callSets, renSlot, pick, mOf, idx, ren_tCells])) | (refine AWP_cond rfl (fun h => ?_) (fun h => ?_) <;> try simp only [decide_eq_true_eq, decide_eq_false_iff_not, Bool.not_eq_true', Bool.not_eq_false', beq_iff_eq, bne_iff_ne, ne_eq, Bool.not_eq_true, Bool.or_eq_true, Bool.and_eq_true, Bool.or_eq_false_iff, Bool.and_eq_false_imp, beq_eq_false_iff_ne, bne_eq_false_iff_eq] at h)
    refine AWP_loopD 1 (γ := {s : List (Int × Int × Int) × Nat × Nat // s.1.length = n ∧ s.2.1 ≤ s.2.2 ∧ s.2.2 ≤ n ∧ s.1.take s.2.1 = (l.take s.2.2).filter q ∧ s.1.drop s.2.2 = l.drop s.2.2}) (fun s => ⟨[.ref 0 0 n, .fn cf caps, .any, .any, .any, .v (.int .i64 s.1.2.1), .v (.int .i64 s.1.2.2), .any, .any, .any, .any, .any, .any, .any, .any, .any, .any, .any, .any, .any, .any, .any, .any, .any, .any, .any, .any, .any, .any, .any, .any, .any, .any, .any, .any, .any, .any, .any, .any, .any, .any, .any], [.ent ⟨0, some 3, 172, tCells s.1.1, .cells⟩]⟩) (fun s => n - s.1.2.2) ⟨(l, i, i + 1), hn0, by simp, by simp only; omega, ?_, rfl⟩ (fun s => rfl) (fun s => ?_) (fun s => ?_) ⟨?_, ?_⟩ ?_
    · simp only
      rw [List.take_succ_eq_append_getElem hil, List.filter_append, List.filter_eq_self.2 (fun x hx => ?_)]
      · simp at hpi; simp [hpi]
      · obtain ⟨j, hj, rfl⟩ := List.mem_iff_getElem.1 hx
        have hj2 : j < i := by rw [List.length_take] at hj; omega
        have := hno j (by omega) hj2
        simpa using this
    · refine clsd_all ?_
      simp only [List.map_cons, List.map_nil, renSlot, ren_tCells]
    · simp only [List.map_cons, List.map_nil, show ren (mOf (List.range 1)) (.fn cf caps) = .fn cf caps from by show D.fn cf (caps.map _) = _; rw [map_frz0 (fun d hd => ren0_frz0 hd) hc]]
      rfl
    · simp only [wrapN (i := i) (n := n) (by omega) (by omega)]
      exact Lq
    · exact Fq
    rintro ⟨⟨l', a, b⟩, h1, h2, h3, h4, h5⟩
    simp only at h1 h2 h3 h4 h5 ⊢
    by_cases hlt : (b : Int) < (n : Int)
    · have hbn : b < n := by omega
      have hx : l[b]? = some l[b] := List.getElem?_eq_getElem (by omega)
      have hxm : l[b] ∈ l := List.getElem_mem (by omega)
      obtain ⟨x, hx0⟩ : ∃ x, l[b] = x := ⟨_, rfl⟩
      rw [hx0] at hx hxm
      have hx' : l'[b]? = some x := by
        have := congrArg (fun m => m[0]?) h5
        simp only [List.getElem?_drop, Nat.add_zero] at this
        rw [this, hx]
      have hfn := hp x hxm
      have hat := tCells_at hx'
      have htk : (l.take (b + 1)).filter q = (l.take b).filter q ++ (if q x = true then [x] else []) := by
        rw [List.take_succ_eq_append_getElem (by omega), List.filter_append, hx0]
        by_cases h : q x = true <;> simp [h]
      have hdr : l'.drop (b + 1) = l.drop (b + 1) := by
        have := congrArg (List.drop 1) h5
        simpa [List.drop_drop, Nat.add_comm] using this
      cases hq : q x with
      | true =>
        rw [hq] at hfn
        have hset := tCells_set l' x (a := a) (by omega)
        rw [hq, if_pos rfl] at htk
        repeat' first | (with_reducible first | refine AWP_seq' ?_ | refine k_normal ?_ | refine k_ret ?_ | refine k_exit ?_ | refine b_normal ?_ | refine b_ret ?_ | refine b_exit ?_ | refine b_pass rfl ?_ | refine AWP_ret ?_ | refine AWP_skip ?_ | refine AWP_exit ?_ | refine AWP_block ?_) | ((with_reducible refine And.intro ?_ ?_); · exact Sq) | ((first | with_reducible refine AWP_reg fun KC J hJ hKC => ?_ | with_reducible refine AWP_regD rfl fun KC J hJ hKC => ?_ | (refine hKC _ _ _ _ _ (callV0 (hfn) rfl rfl rfl ?_ ?_); (· exact Lq))); simp (maxSteps := 10000000) only [push_cast, seval, ↓reduceIte, hlt, hlC l' h1, hat, wrapN (i := a) (n := n) (by omega) (by omega), wrapN (i := b) (n := n) (by omega) (by omega)]) | ((first | with_reducible refine hJ _ _ ?_ | (with_reducible refine hJ _ _ ?_ ?_; · kernel_rfl)); clear hJ hKC KC J) | ((with_reducible refine AWP_condT ?_ ?_); · rfl) | ((with_reducible refine AWP_condF ?_ ?_); · rfl) | ((with_reducible refine ite_intro (fun hs => ?_) (fun hs => ?_)) <;> (try simp only [Bool.not_eq_true, Bool.not_eq_false, Bool.not_eq_true', Bool.not_eq_false', Decidable.not_not, decide_eq_true_eq, decide_eq_false_iff_not] at hs) <;> (try simp (maxSteps := 10000000) only [push_cast, seval, ↓reduceIte, hs, hlt, hlC l' h1, hat, wrapN (i := a) (n := n) (by omega) (by omega), wrapN (i := b) (n := n) (by omega) (by omega)])) | (refine AWP_cond rfl (fun h => ?_) (fun h => ?_) <;> try simp only [decide_eq_true_eq, decide_eq_false_iff_not, Bool.not_eq_true', Bool.not_eq_false', beq_iff_eq, bne_iff_ne, ne_eq, Bool.not_eq_true, Bool.or_eq_true, Bool.and_eq_true, Bool.or_eq_false_iff, Bool.and_eq_false_imp, beq_eq_false_iff_ne, bne_eq_false_iff_eq] at h)
        refine ⟨⟨(l'.set a x, a + 1, b + 1), by simp [h1], by simp only; omega, by simp only; omega, ?_, ?_⟩, by simp only; omega, ?_, ?_⟩
        · simp only
          rw [htk, ← h4, List.take_succ_eq_append_getElem (by simp; omega), List.getElem_set_self, List.take_set_of_le (Nat.le_refl _)]
        · simp only
          rw [List.drop_set_of_lt (by omega), hdr]
        · exact Lq
        · simp only [hset]
          exact ⟨_, rfl⟩
      | false =>
        rw [hq] at hfn
        rw [hq, if_neg (by simp), List.append_nil] at htk
        repeat' first | (with_reducible first | refine AWP_seq' ?_ | refine k_normal ?_ | refine k_ret ?_ | refine k_exit ?_ | refine b_normal ?_ | refine b_ret ?_ | refine b_exit ?_ | refine b_pass rfl ?_ | refine AWP_ret ?_ | refine AWP_skip ?_ | refine AWP_exit ?_ | refine AWP_block ?_) | ((with_reducible refine And.intro ?_ ?_); · exact Sq) | ((first | with_reducible refine AWP_reg fun KC J hJ hKC => ?_ | with_reducible refine AWP_regD rfl fun KC J hJ hKC => ?_ | (refine hKC _ _ _ _ _ (callV0 (hfn) rfl rfl rfl ?_ ?_); (· exact Lq))); simp (maxSteps := 10000000) only [push_cast, seval, ↓reduceIte, hlt, hlC l' h1, hat, wrapN (i := b) (n := n) (by omega) (by omega)]) | ((first | with_reducible refine hJ _ _ ?_ | (with_reducible refine hJ _ _ ?_ ?_; · kernel_rfl)); clear hJ hKC KC J) | ((with_reducible refine AWP_condT ?_ ?_); · rfl) | ((with_reducible refine AWP_condF ?_ ?_); · rfl) | ((with_reducible refine ite_intro (fun hs => ?_) (fun hs => ?_)) <;> (try simp only [Bool.not_eq_true, Bool.not_eq_false, Bool.not_eq_true', Bool.not_eq_false', Decidable.not_not, decide_eq_true_eq, decide_eq_false_iff_not] at hs) <;> (try simp (maxSteps := 10000000) only [push_cast, seval, ↓reduceIte, hs, hlt, hlC l' h1, hat, wrapN (i := b) (n := n) (by omega) (by omega)])) | (refine AWP_cond rfl (fun h => ?_) (fun h => ?_) <;> try simp only [decide_eq_true_eq, decide_eq_false_iff_not, Bool.not_eq_true', Bool.not_eq_false', beq_iff_eq, bne_iff_ne, ne_eq, Bool.not_eq_true, Bool.or_eq_true, Bool.and_eq_true, Bool.or_eq_false_iff, Bool.and_eq_false_imp, beq_eq_false_iff_ne, bne_eq_false_iff_eq] at h)
        refine ⟨⟨(l', a, b + 1), h1, by simp only; omega, by simp only; omega, by simp only; rw [htk]; exact h4, hdr⟩, by simp only; omega, ?_, ⟨_, rfl⟩⟩
        exact Lq
    · have hbn : b = n := by omega
      subst hbn
      rw [← hn0, List.take_length] at h4
      have hT : (tCells l').take (a * 3) = tCells (l.filter q) := by rw [tCells_takeR, h4]
      have hFl : (l.filter q).length = a := by rw [← h4]; simp; omega
      obtain ⟨F, hF⟩ : ∃ F, l.filter q = F := ⟨_, rfl⟩
      rw [hF] at hT hFl ⊢
      have hFC : (tCells F).length = a * 3 := by rw [tCells_length, hFl]
      have hcS : chunk 3 a (tCells F) = tRow F := by rw [← hFl]; exact chunk_t F
      repeat' first | (with_reducible first | refine AWP_seq' ?_ | refine k_normal ?_ | refine k_ret ?_ | refine k_exit ?_ | refine b_normal ?_ | refine b_ret ?_ | refine b_exit ?_ | refine b_pass rfl ?_ | refine AWP_skip ?_ | refine AWP_exit ?_ | refine AWP_block ?_) | ((with_reducible refine And.intro ?_ ?_); · exact Sq) | ((first | with_reducible refine AWP_reg fun KC J hJ hKC => ?_ | with_reducible refine AWP_regD rfl fun KC J hJ hKC => ?_); simp (maxSteps := 10000000) only [push_cast, seval, ↓reduceIte, hlt, hlC l' h1, hT]) | ((first | with_reducible refine hJ _ _ ?_ | (with_reducible refine hJ _ _ ?_ ?_; · kernel_rfl)); clear hJ hKC KC J) | ((with_reducible refine AWP_condT ?_ ?_); · rfl) | ((with_reducible refine AWP_condF ?_ ?_); · rfl) | ((with_reducible refine ite_intro (fun hs => ?_) (fun hs => ?_)) <;> (try simp only [Bool.not_eq_true, Bool.not_eq_false, Bool.not_eq_true', Bool.not_eq_false', Decidable.not_not, decide_eq_true_eq, decide_eq_false_iff_not] at hs) <;> (try simp (maxSteps := 10000000) only [push_cast, seval, ↓reduceIte, hs, hlt, hlC l' h1, hT])) | (refine AWP_cond rfl (fun h => ?_) (fun h => ?_) <;> try simp only [decide_eq_true_eq, decide_eq_false_iff_not, Bool.not_eq_true', Bool.not_eq_false', beq_iff_eq, bne_iff_ne, ne_eq, Bool.not_eq_true, Bool.or_eq_true, Bool.and_eq_true, Bool.or_eq_false_iff, Bool.and_eq_false_imp, beq_eq_false_iff_ne, bne_eq_false_iff_eq] at h)
      refine AWP_freeze 0 rfl (by simp (maxSteps := 10000000) only [push_cast, seval, ↓reduceIte]) ?_
      simp (maxSteps := 10000000) only [push_cast, seval, ↓reduceIte, frSt, frSlot, fr3, fr2, fr1, fr0, sameB, arrOf, hbm, hFC, hcS]
      refine AWP_ret ?_
      refine ret_keys ?_
      simp (maxSteps := 10000000) only [push_cast, seval, ↓reduceIte, show Try.f269.results = #[(.tmp 4)] from rfl]
      exact ⟨rfl, leD_refl _⟩
end Go.Proofs.Ytabliglgeiajlaa.AM

/- How large a state is: moves.size. -/
namespace Go.Proofs.Ytabliglgeiajlaa.AM
open Go Go.RowKit Go.Proofs
set_option maxRecDepth 100000
set_option maxHeartbeats 4000000

def deedB (x : Int × Int × Int) : Bool := !(x.1 == 0)
theorem noop_fn (x : Int × Int × Int) : Fn Try.prog 271 [.agg [.v (.int .i64 x.1), .v (.int .i64 x.2.1), .v (.int .i64 x.2.2)]] [] (.v (.bool (!deedB x))) [] := by
  rw [show (!deedB x) = (x.1 == 0) by simp [deedB]]
  refine Fn.of (fn := Try.f271) (by kernel_rfl) rfl (by kernel_rfl) ⟨[.agg [.v (.int .i64 x.1), .v (.int .i64 x.2.1), .v (.int .i64 x.2.2)], .v undef, .v undef, .v undef, .v undef, .v undef], []⟩ rfl ?_
  repeat' first | (with_reducible first | refine AWP_seq' ?_ | refine k_normal ?_ | refine k_ret ?_ | refine k_exit ?_ | refine b_normal ?_ | refine b_ret ?_ | refine b_exit ?_ | refine b_pass rfl ?_ | refine AWP_ret ?_ | refine AWP_skip ?_ | refine AWP_exit ?_ | refine AWP_block ?_) | ((with_reducible refine And.intro ?_ ?_); · exact Sq) | ((first | with_reducible refine AWP_reg fun KC J hJ hKC => ?_ | with_reducible refine AWP_regD rfl fun KC J hJ hKC => ?_); simp (maxSteps := 10000000) only [push_cast, seval, ↓reduceIte]) | ((first | with_reducible refine hJ _ _ ?_ | (with_reducible refine hJ _ _ ?_ ?_; · kernel_rfl)); clear hJ hKC KC J) | ((with_reducible refine AWP_condT ?_ ?_); · rfl) | ((with_reducible refine AWP_condF ?_ ?_); · rfl) | ((with_reducible refine ite_intro (fun hs => ?_) (fun hs => ?_)) <;> (try simp only [Bool.not_eq_true, Bool.not_eq_false, Bool.not_eq_true', Bool.not_eq_false', Decidable.not_not, decide_eq_true_eq, decide_eq_false_iff_not] at hs) <;> (try simp (maxSteps := 10000000) only [push_cast, seval, ↓reduceIte, hs])) | (refine AWP_cond rfl (fun h => ?_) (fun h => ?_) <;> try simp only [decide_eq_true_eq, decide_eq_false_iff_not, Bool.not_eq_true', Bool.not_eq_false', beq_iff_eq, bne_iff_ne, ne_eq, Bool.not_eq_true, Bool.or_eq_true, Bool.and_eq_true, Bool.or_eq_false_iff, Bool.and_eq_false_imp, beq_eq_false_iff_ne, bne_eq_false_iff_eq] at h)
  refine ret_plain ?_
  simp (maxSteps := 10000000) only [push_cast, seval, ↓reduceIte, show Try.f271.results = #[(.tmp 2)] from rfl]
  exact Lq
/-- What a number adds. -/
def numZ (us : List Nat) (z : Int × Int × Int) (p : Int × Int) : Int × Int × Int := (z.1, z.2.1 + absI p.1, if 0 ≤ p.2 then z.2.2 + ((hgt us p.2.toNat : Nat) : Int) else z.2.2)
theorem addZ_num {us : List Nat} {z : Int × Int × Int} {v l : Int} {n : Nat} (h : oddL n l = false) : addZ us z v l = numZ us z (v, l) := by
  have h0 := (oddL_iff.1 h).1
  unfold addZ numZ
  rw [if_pos h0]
theorem atomZ_num {us : List Nat} {n : Nat} : ∀ {l : List (Int × Int)} {z}, (∀ x ∈ l, oddL n x.2 = false) → atomZ us z l = l.foldl (numZ us) z
  | [], _, _ => rfl
  | x :: l, z, h => by
    show atomZ us (addZ us z x.1 x.2) l = l.foldl (numZ us) (numZ us z x)
    rw [addZ_num (h x List.mem_cons_self), atomZ_num fun y hy => h y (List.mem_cons_of_mem _ hy)]
theorem slotZ_num {us : List Nat} {n : Nat} : ∀ {l : List (Bool × Int × Int)} {z}, (∀ x ∈ l, oddL n x.2.2 = false) → slotZ us z l = (l.map slotQ).foldl (numZ us) z
  | [], _, _ => rfl
  | x :: l, z, h => by
    show slotZ us (addZ us z x.2.1 x.2.2) l = (l.map slotQ).foldl (numZ us) (numZ us z (x.2.1, x.2.2))
    rw [addZ_num (h x List.mem_cons_self), slotZ_num fun y hy => h y (List.mem_cons_of_mem _ hy)]
theorem codeS_num {us : List Nat} {n : Nat} {z x : Int × Int × Int} (h : x.1 = 1 → oddL n x.2.2 = false) : codeS us z x = numZ us (z.1 + (if deedB x = true then 1 else 0), z.2) (instQ x) := by
  unfold codeS instQ deedB
  by_cases h1 : x.1 = 1
  · rw [if_pos h1, if_pos h1, addZ_num (h h1), if_pos (by rw [h1]; rfl)]
  · rw [if_neg h1, if_neg h1]
    unfold numZ
    by_cases h0 : x.1 = 0
    · rw [if_pos h0, if_neg (by rw [h0]; simp)]
      simp
    · rw [if_neg h0, if_pos (by simpa using h0)]
      simp
theorem codeZ_num {us : List Nat} {n : Nat} : ∀ {l : List (Int × Int × Int)} {z}, (∀ x ∈ l, x.1 = 1 → oddL n x.2.2 = false) → codeZ us z l = (l.map instQ).foldl (numZ us) (z.1 + ((l.filter deedB).length : Int), z.2)
  | [], z, _ => by simp [codeZ]
  | x :: l, z, h => by
    show codeZ us (codeS us z x) l = (l.map instQ).foldl (numZ us) (numZ us (z.1 + (((x :: l).filter deedB).length : Int), z.2) (instQ x))
    rw [codeZ_num fun y hy => h y (List.mem_cons_of_mem _ hy), codeS_num (h x List.mem_cons_self)]
    congr 1
    have : ((((x :: l).filter deedB).length : Nat) : Int) = (if deedB x = true then 1 else 0) + ((l.filter deedB).length : Int) := by
      rw [List.filter_cons]
      split <;> simp <;> omega
    simp only [numZ, this]
    refine Prod.ext ?_ rfl
    simp only
    omega
theorem sizeZ_num {us : List Nat} {n : Nat} {z : Int × Int × Int} {s : Sta} (h : StaN n s) :
    sizeZ us z s = (numsL s).foldl (numZ us) (z.1 + ((s.code.length + s.mem.length + s.stack.length + s.out.length + (s.code.filter deedB).length : Nat) : Int), z.2) := by
  obtain ⟨h1, h2, h3, h4, _, _, _, _, _, _, hl⟩ := h
  unfold sizeZ
  rw [slotZ_num fun x hx => (h3 x hx).2.2, atomZ_num fun x hx => (h4 x hx).2.2, atomZ_num fun x hx => (h2 x hx).2.2, codeZ_num fun x hx => (h1 x hx).2.2, addZ_num hl]
  unfold numsL
  rw [List.foldl_cons, List.foldl_append, List.foldl_append, List.foldl_append]
  congr 4
  simp only [cntZ, numZ]
  refine Prod.ext ?_ rfl
  simp only
  omega
end Go.Proofs.Ytabliglgeiajlaa.AM

/- When two rows are the same; when two states are alike. -/
namespace Go.Proofs.Ytabliglgeiajlaa.AM
open Go Go.RowKit Go.Proofs
set_option maxRecDepth 100000
set_option maxHeartbeats 4000000

theorem eqA_fn (f g : Bool) (xs ys : List (Int × Int)) (hb : xs.length ≤ 9223372036854775807) : Fn Try.prog 227 [.sl f 2 (pRow xs), .sl g 2 (pRow ys)] [] (.v (.bool (decide (xs = ys)))) [] := by
  refine Fn.of (fn := Try.f227) (by kernel_rfl) rfl (by kernel_rfl) ⟨[.sl f 2 (pRow xs), .sl g 2 (pRow ys), .v undef, .v undef, .v undef, .v undef, .v undef, .v undef, .v undef, .v undef, .v undef, .v undef, .v undef, .v undef, .v undef, .v undef, .v undef, .v undef, .v undef, .v undef, .v undef, .v undef, .v undef, .v undef, .v undef, .v undef], []⟩ rfl ?_
  by_cases hl : xs.length = ys.length
  · have hl' : ((xs.length : Int) != (ys.length : Int)) = false := by simp [hl]
    repeat' first | (with_reducible first | refine AWP_seq' ?_ | refine k_normal ?_ | refine k_ret ?_ | refine k_exit ?_ | refine b_normal ?_ | refine b_ret ?_ | refine b_exit ?_ | refine b_pass rfl ?_ | refine AWP_ret ?_ | refine AWP_skip ?_ | refine AWP_exit ?_ | refine AWP_block ?_) | ((with_reducible first | refine AWP_reg fun KC J hJ hKC => ?_ | refine AWP_regD rfl fun KC J hJ hKC => ?_); simp (maxSteps := 10000000) only [push_cast, seval, ↓reduceIte, hl']) | ((with_reducible refine And.intro ?_ ?_); · exact Sq) | ((first | with_reducible refine hJ _ _ ?_ | (with_reducible refine hJ _ _ ?_ ?_; · kernel_rfl)); clear hJ hKC KC J) | ((with_reducible refine AWP_condT ?_ ?_); · rfl) | ((with_reducible refine AWP_condF ?_ ?_); · rfl) | ((with_reducible refine ite_intro (fun hs => ?_) (fun hs => ?_)) <;> (try simp only [Bool.not_eq_true, Bool.not_eq_false, Bool.not_eq_true', Bool.not_eq_false', Decidable.not_not, decide_eq_true_eq, decide_eq_false_iff_not] at hs) <;> (try simp (maxSteps := 10000000) only [push_cast, seval, ↓reduceIte, hs, hl'])) | (refine AWP_cond rfl (fun h => ?_) (fun h => ?_) <;> try simp only [decide_eq_true_eq, decide_eq_false_iff_not, Bool.not_eq_true', Bool.not_eq_false', beq_iff_eq, bne_iff_ne, ne_eq, Bool.not_eq_true, Bool.or_eq_true, Bool.and_eq_true, Bool.or_eq_false_iff, Bool.and_eq_false_imp, beq_eq_false_iff_ne, bne_eq_false_iff_eq] at h)
    refine AWP_loopF (γ := {i : Nat // i ≤ xs.length ∧ ∀ j, j < i → xs[j]? = ys[j]?}) (fun i => ⟨[.sl f 2 (pRow xs), .sl g 2 (pRow ys), .any, .any, .any, .any, .any, .any, .any, .any, .any, .any, .v (.int .i64 xs.length), .v (.int .i64 i.1), .any, .any, .any, .any, .any, .any, .any, .any, .any, .any, .any, .any], []⟩) (fun i => xs.length - i.1) ⟨0, by simp⟩ ⟨?_, Fq⟩ ?_
    · exact Lq
    · rintro ⟨i, hi, hn⟩
      by_cases hlt : (i : Int) < (xs.length : Int)
      · have hx : xs[i]? = some xs[i] := List.getElem?_eq_getElem (by omega)
        have hy : ys[i]? = some ys[i] := List.getElem?_eq_getElem (by omega)
        obtain ⟨a, ha⟩ : ∃ a, xs[i] = a := ⟨_, rfl⟩
        obtain ⟨b, hb2⟩ : ∃ b, ys[i] = b := ⟨_, rfl⟩
        rw [ha] at hx
        rw [hb2] at hy
        by_cases he : a = b
        · have he' : decide (a = b) = true := decide_eq_true he
          repeat' first | (with_reducible first | refine AWP_seq' ?_ | refine k_normal ?_ | refine k_ret ?_ | refine k_exit ?_ | refine b_normal ?_ | refine b_ret ?_ | refine b_exit ?_ | refine b_pass rfl ?_ | refine AWP_ret ?_ | refine AWP_skip ?_ | refine AWP_exit ?_ | refine AWP_block ?_) | ((with_reducible first | refine AWP_reg fun KC J hJ hKC => ?_ | refine AWP_regD rfl fun KC J hJ hKC => ?_); simp (maxSteps := 10000000) only [push_cast, seval, ↓reduceIte, hlt, getE_p hx, getE_p hy, pair_eq, he', wrapN (i := i) (n := xs.length) (by omega) hb]) | ((with_reducible refine And.intro ?_ ?_); · exact Sq) | ((first | with_reducible refine hJ _ _ ?_ | (with_reducible refine hJ _ _ ?_ ?_; · kernel_rfl)); clear hJ hKC KC J) | ((with_reducible refine AWP_condT ?_ ?_); · rfl) | ((with_reducible refine AWP_condF ?_ ?_); · rfl) | ((with_reducible refine ite_intro (fun hs => ?_) (fun hs => ?_)) <;> (try simp only [Bool.not_eq_true, Bool.not_eq_false, Bool.not_eq_true', Bool.not_eq_false', Decidable.not_not, decide_eq_true_eq, decide_eq_false_iff_not] at hs) <;> (try simp (maxSteps := 10000000) only [push_cast, seval, ↓reduceIte, hs, hlt, getE_p hx, getE_p hy, pair_eq, he', wrapN (i := i) (n := xs.length) (by omega) hb])) | (refine AWP_cond rfl (fun h => ?_) (fun h => ?_) <;> try simp only [decide_eq_true_eq, decide_eq_false_iff_not, Bool.not_eq_true', Bool.not_eq_false', beq_iff_eq, bne_iff_ne, ne_eq, Bool.not_eq_true, Bool.or_eq_true, Bool.and_eq_true, Bool.or_eq_false_iff, Bool.and_eq_false_imp, beq_eq_false_iff_ne, bne_eq_false_iff_eq] at h)
          refine ⟨⟨i + 1, by omega, fun j hj => ?_⟩, by simp only; omega, ?_, Fq⟩
          · by_cases hji : j = i
            · rw [hji, hx, hy, he]
            · exact hn j (by omega)
          · exact Lq
        · have he' : decide (a = b) = false := decide_eq_false he
          repeat' first | (with_reducible first | refine AWP_seq' ?_ | refine k_normal ?_ | refine k_ret ?_ | refine k_exit ?_ | refine b_normal ?_ | refine b_ret ?_ | refine b_exit ?_ | refine b_pass rfl ?_ | refine AWP_ret ?_ | refine AWP_skip ?_ | refine AWP_exit ?_ | refine AWP_block ?_) | ((with_reducible first | refine AWP_reg fun KC J hJ hKC => ?_ | refine AWP_regD rfl fun KC J hJ hKC => ?_); simp (maxSteps := 10000000) only [push_cast, seval, ↓reduceIte, hlt, getE_p hx, getE_p hy, pair_eq, he']) | ((with_reducible refine And.intro ?_ ?_); · exact Sq) | ((first | with_reducible refine hJ _ _ ?_ | (with_reducible refine hJ _ _ ?_ ?_; · kernel_rfl)); clear hJ hKC KC J) | ((with_reducible refine AWP_condT ?_ ?_); · rfl) | ((with_reducible refine AWP_condF ?_ ?_); · rfl) | ((with_reducible refine ite_intro (fun hs => ?_) (fun hs => ?_)) <;> (try simp only [Bool.not_eq_true, Bool.not_eq_false, Bool.not_eq_true', Bool.not_eq_false', Decidable.not_not, decide_eq_true_eq, decide_eq_false_iff_not] at hs) <;> (try simp (maxSteps := 10000000) only [push_cast, seval, ↓reduceIte, hs, hlt, getE_p hx, getE_p hy, pair_eq, he'])) | (refine AWP_cond rfl (fun h => ?_) (fun h => ?_) <;> try simp only [decide_eq_true_eq, decide_eq_false_iff_not, Bool.not_eq_true', Bool.not_eq_false', beq_iff_eq, bne_iff_ne, ne_eq, Bool.not_eq_true, Bool.or_eq_true, Bool.and_eq_true, Bool.or_eq_false_iff, Bool.and_eq_false_imp, beq_eq_false_iff_ne, bne_eq_false_iff_eq] at h)
          refine ret_plain ?_
          simp (maxSteps := 10000000) only [push_cast, seval, ↓reduceIte, show Try.f227.results = #[(.tmp 4)] from rfl]
          rw [decide_eq_false (fun h => he (by rw [h, hy] at hx; exact (Option.some.inj hx).symm))]
          exact leD_refl _
      · skip
        repeat' first | (with_reducible first | refine AWP_seq' ?_ | refine k_normal ?_ | refine k_ret ?_ | refine k_exit ?_ | refine b_normal ?_ | refine b_ret ?_ | refine b_exit ?_ | refine b_pass rfl ?_ | refine AWP_ret ?_ | refine AWP_skip ?_ | refine AWP_exit ?_ | refine AWP_block ?_) | ((with_reducible first | refine AWP_reg fun KC J hJ hKC => ?_ | refine AWP_regD rfl fun KC J hJ hKC => ?_); simp (maxSteps := 10000000) only [push_cast, seval, ↓reduceIte, hlt]) | ((with_reducible refine And.intro ?_ ?_); · exact Sq) | ((first | with_reducible refine hJ _ _ ?_ | (with_reducible refine hJ _ _ ?_ ?_; · kernel_rfl)); clear hJ hKC KC J) | ((with_reducible refine AWP_condT ?_ ?_); · rfl) | ((with_reducible refine AWP_condF ?_ ?_); · rfl) | ((with_reducible refine ite_intro (fun hs => ?_) (fun hs => ?_)) <;> (try simp only [Bool.not_eq_true, Bool.not_eq_false, Bool.not_eq_true', Bool.not_eq_false', Decidable.not_not, decide_eq_true_eq, decide_eq_false_iff_not] at hs) <;> (try simp (maxSteps := 10000000) only [push_cast, seval, ↓reduceIte, hs, hlt])) | (refine AWP_cond rfl (fun h => ?_) (fun h => ?_) <;> try simp only [decide_eq_true_eq, decide_eq_false_iff_not, Bool.not_eq_true', Bool.not_eq_false', beq_iff_eq, bne_iff_ne, ne_eq, Bool.not_eq_true, Bool.or_eq_true, Bool.and_eq_true, Bool.or_eq_false_iff, Bool.and_eq_false_imp, beq_eq_false_iff_ne, bne_eq_false_iff_eq] at h)
        refine ret_plain ?_
        simp (maxSteps := 10000000) only [push_cast, seval, ↓reduceIte, show Try.f227.results = #[(.tmp 4)] from rfl]
        rw [decide_eq_true (list_eq_of hl fun j hj => hn j (by omega))]
        exact leD_refl _
  · have hl' : ((xs.length : Int) != (ys.length : Int)) = true := by simp; omega
    repeat' first | (with_reducible first | refine AWP_seq' ?_ | refine k_normal ?_ | refine k_ret ?_ | refine k_exit ?_ | refine b_normal ?_ | refine b_ret ?_ | refine b_exit ?_ | refine b_pass rfl ?_ | refine AWP_ret ?_ | refine AWP_skip ?_ | refine AWP_exit ?_ | refine AWP_block ?_) | ((with_reducible first | refine AWP_reg fun KC J hJ hKC => ?_ | refine AWP_regD rfl fun KC J hJ hKC => ?_); simp (maxSteps := 10000000) only [push_cast, seval, ↓reduceIte, hl']) | ((with_reducible refine And.intro ?_ ?_); · exact Sq) | ((first | with_reducible refine hJ _ _ ?_ | (with_reducible refine hJ _ _ ?_ ?_; · kernel_rfl)); clear hJ hKC KC J) | ((with_reducible refine AWP_condT ?_ ?_); · rfl) | ((with_reducible refine AWP_condF ?_ ?_); · rfl) | ((with_reducible refine ite_intro (fun hs => ?_) (fun hs => ?_)) <;> (try simp only [Bool.not_eq_true, Bool.not_eq_false, Bool.not_eq_true', Bool.not_eq_false', Decidable.not_not, decide_eq_true_eq, decide_eq_false_iff_not] at hs) <;> (try simp (maxSteps := 10000000) only [push_cast, seval, ↓reduceIte, hs, hl'])) | (refine AWP_cond rfl (fun h => ?_) (fun h => ?_) <;> try simp only [decide_eq_true_eq, decide_eq_false_iff_not, Bool.not_eq_true', Bool.not_eq_false', beq_iff_eq, bne_iff_ne, ne_eq, Bool.not_eq_true, Bool.or_eq_true, Bool.and_eq_true, Bool.or_eq_false_iff, Bool.and_eq_false_imp, beq_eq_false_iff_ne, bne_eq_false_iff_eq] at h)
    refine ret_plain ?_
    simp (maxSteps := 10000000) only [push_cast, seval, ↓reduceIte, show Try.f227.results = #[(.tmp 4)] from rfl]
    rw [decide_eq_false (fun h => hl (by rw [h]))]
    exact leD_refl _
theorem eqS_fn (f g : Bool) (xs ys : List (Bool × Int × Int)) (hb : xs.length ≤ 1000) : Fn Try.prog 73 [.sl f 3 (sRow xs), .sl g 3 (sRow ys)] [] (.v (.bool (decide (xs = ys)))) [] := by
  refine Fn.of (fn := Try.f73) (by kernel_rfl) rfl (by kernel_rfl) ⟨[.sl f 3 (sRow xs), .sl g 3 (sRow ys), .v undef, .v undef, .v undef, .v undef, .v undef, .v undef, .v undef, .v undef, .v undef, .v undef, .v undef, .v undef, .v undef, .v undef, .v undef, .v undef, .v undef, .v undef, .v undef, .v undef, .v undef, .v undef, .v undef, .v undef], []⟩ rfl ?_
  by_cases hl : xs.length = ys.length
  · have hl' : ((xs.length : Int) != (ys.length : Int)) = false := by simp [hl]
    repeat' first | (with_reducible first | refine AWP_seq' ?_ | refine k_normal ?_ | refine k_ret ?_ | refine k_exit ?_ | refine b_normal ?_ | refine b_ret ?_ | refine b_exit ?_ | refine b_pass rfl ?_ | refine AWP_ret ?_ | refine AWP_skip ?_ | refine AWP_exit ?_ | refine AWP_block ?_) | ((with_reducible first | refine AWP_reg fun KC J hJ hKC => ?_ | refine AWP_regD rfl fun KC J hJ hKC => ?_); simp (maxSteps := 10000000) only [push_cast, seval, ↓reduceIte, hl']) | ((with_reducible refine And.intro ?_ ?_); · exact Sq) | ((first | with_reducible refine hJ _ _ ?_ | (with_reducible refine hJ _ _ ?_ ?_; · kernel_rfl)); clear hJ hKC KC J) | ((with_reducible refine AWP_condT ?_ ?_); · rfl) | ((with_reducible refine AWP_condF ?_ ?_); · rfl) | ((with_reducible refine ite_intro (fun hs => ?_) (fun hs => ?_)) <;> (try simp only [Bool.not_eq_true, Bool.not_eq_false, Bool.not_eq_true', Bool.not_eq_false', Decidable.not_not, decide_eq_true_eq, decide_eq_false_iff_not] at hs) <;> (try simp (maxSteps := 10000000) only [push_cast, seval, ↓reduceIte, hs, hl'])) | (refine AWP_cond rfl (fun h => ?_) (fun h => ?_) <;> try simp only [decide_eq_true_eq, decide_eq_false_iff_not, Bool.not_eq_true', Bool.not_eq_false', beq_iff_eq, bne_iff_ne, ne_eq, Bool.not_eq_true, Bool.or_eq_true, Bool.and_eq_true, Bool.or_eq_false_iff, Bool.and_eq_false_imp, beq_eq_false_iff_ne, bne_eq_false_iff_eq] at h)
    refine AWP_loopF (γ := {i : Nat // i ≤ xs.length ∧ ∀ j, j < i → xs[j]? = ys[j]?}) (fun i => ⟨[.sl f 3 (sRow xs), .sl g 3 (sRow ys), .any, .any, .any, .any, .any, .any, .any, .any, .any, .any, .v (.int .i64 xs.length), .v (.int .i64 i.1), .any, .any, .any, .any, .any, .any, .any, .any, .any, .any, .any, .any], []⟩) (fun i => xs.length - i.1) ⟨0, by simp⟩ ⟨?_, Fq⟩ ?_
    · exact Lq
    · rintro ⟨i, hi, hn⟩
      by_cases hlt : (i : Int) < (xs.length : Int)
      · have hx : xs[i]? = some xs[i] := List.getElem?_eq_getElem (by omega)
        have hy : ys[i]? = some ys[i] := List.getElem?_eq_getElem (by omega)
        obtain ⟨⟨a1, a2, a3⟩, ha⟩ : ∃ a, xs[i] = a := ⟨_, rfl⟩
        obtain ⟨⟨b1, b2, b3⟩, hb2⟩ : ∃ b, ys[i] = b := ⟨_, rfl⟩
        rw [ha] at hx
        rw [hb2] at hy
        by_cases he : (a1, a2, a3) = (b1, b2, b3)
        · have he' : decide ((a1, a2, a3) = (b1, b2, b3)) = true := decide_eq_true he
          cases he
          repeat' first | (with_reducible first | refine AWP_seq' ?_ | refine k_normal ?_ | refine k_ret ?_ | refine k_exit ?_ | refine b_normal ?_ | refine b_ret ?_ | refine b_exit ?_ | refine b_pass rfl ?_ | refine AWP_ret ?_ | refine AWP_skip ?_ | refine AWP_exit ?_ | refine AWP_block ?_) | ((with_reducible first | refine AWP_reg fun KC J hJ hKC => ?_ | refine AWP_regD rfl fun KC J hJ hKC => ?_); simp (maxSteps := 10000000) only [push_cast, seval, ↓reduceIte, hlt, getE_s hx, getE_s hy, beq_self_eq_true, Bool.and_self, Bool.not_true, bne_self_eq_false, wrapN (i := i) (n := xs.length) (by omega) (by omega)]) | ((with_reducible refine And.intro ?_ ?_); · exact Sq) | ((first | with_reducible refine hJ _ _ ?_ | (with_reducible refine hJ _ _ ?_ ?_; · kernel_rfl)); clear hJ hKC KC J) | ((with_reducible refine AWP_condT ?_ ?_); · rfl) | ((with_reducible refine AWP_condF ?_ ?_); · rfl) | ((with_reducible refine ite_intro (fun hs => ?_) (fun hs => ?_)) <;> (try simp only [Bool.not_eq_true, Bool.not_eq_false, Bool.not_eq_true', Bool.not_eq_false', Decidable.not_not, decide_eq_true_eq, decide_eq_false_iff_not] at hs) <;> (try simp (maxSteps := 10000000) only [push_cast, seval, ↓reduceIte, hs, hlt, getE_s hx, getE_s hy, beq_self_eq_true, Bool.and_self, Bool.not_true, bne_self_eq_false, wrapN (i := i) (n := xs.length) (by omega) (by omega)])) | (refine AWP_cond rfl (fun h => ?_) (fun h => ?_) <;> try simp only [decide_eq_true_eq, decide_eq_false_iff_not, Bool.not_eq_true', Bool.not_eq_false', beq_iff_eq, bne_iff_ne, ne_eq, Bool.not_eq_true, Bool.or_eq_true, Bool.and_eq_true, Bool.or_eq_false_iff, Bool.and_eq_false_imp, beq_eq_false_iff_ne, bne_eq_false_iff_eq] at h)
          refine ⟨⟨i + 1, by omega, fun j hj => ?_⟩, by simp only; omega, ?_, Fq⟩
          · by_cases hji : j = i
            · rw [hji, hx, hy]
            · exact hn j (by omega)
          · exact Lq
        · have he' : (a1 == b1 && (a2 == b2 && a3 == b3)) = false := by
            cases h : (a1 == b1 && (a2 == b2 && a3 == b3)) with
            | false => rfl
            | true =>
              simp only [Bool.and_eq_true, beq_iff_eq] at h
              exact absurd (by rw [h.1, h.2.1, h.2.2]) he
          repeat' first | (with_reducible first | refine AWP_seq' ?_ | refine k_normal ?_ | refine k_ret ?_ | refine k_exit ?_ | refine b_normal ?_ | refine b_ret ?_ | refine b_exit ?_ | refine b_pass rfl ?_ | refine AWP_ret ?_ | refine AWP_skip ?_ | refine AWP_exit ?_ | refine AWP_block ?_) | ((with_reducible first | refine AWP_reg fun KC J hJ hKC => ?_ | refine AWP_regD rfl fun KC J hJ hKC => ?_); simp (maxSteps := 10000000) only [push_cast, seval, ↓reduceIte, hlt, getE_s hx, getE_s hy, he']) | ((with_reducible refine And.intro ?_ ?_); · exact Sq) | ((first | with_reducible refine hJ _ _ ?_ | (with_reducible refine hJ _ _ ?_ ?_; · kernel_rfl)); clear hJ hKC KC J) | ((with_reducible refine AWP_condT ?_ ?_); · rfl) | ((with_reducible refine AWP_condF ?_ ?_); · rfl) | ((with_reducible refine ite_intro (fun hs => ?_) (fun hs => ?_)) <;> (try simp only [Bool.not_eq_true, Bool.not_eq_false, Bool.not_eq_true', Bool.not_eq_false', Decidable.not_not, decide_eq_true_eq, decide_eq_false_iff_not] at hs) <;> (try simp (maxSteps := 10000000) only [push_cast, seval, ↓reduceIte, hs, hlt, getE_s hx, getE_s hy, he'])) | (refine AWP_cond rfl (fun h => ?_) (fun h => ?_) <;> try simp only [decide_eq_true_eq, decide_eq_false_iff_not, Bool.not_eq_true', Bool.not_eq_false', beq_iff_eq, bne_iff_ne, ne_eq, Bool.not_eq_true, Bool.or_eq_true, Bool.and_eq_true, Bool.or_eq_false_iff, Bool.and_eq_false_imp, beq_eq_false_iff_ne, bne_eq_false_iff_eq] at h)
          refine ret_plain ?_
          simp (maxSteps := 10000000) only [push_cast, seval, ↓reduceIte, show Try.f73.results = #[(.tmp 4)] from rfl]
          rw [decide_eq_false (fun h => he (by rw [h, hy] at hx; exact (Option.some.inj hx).symm))]
          exact leD_refl _
      · skip
        repeat' first | (with_reducible first | refine AWP_seq' ?_ | refine k_normal ?_ | refine k_ret ?_ | refine k_exit ?_ | refine b_normal ?_ | refine b_ret ?_ | refine b_exit ?_ | refine b_pass rfl ?_ | refine AWP_ret ?_ | refine AWP_skip ?_ | refine AWP_exit ?_ | refine AWP_block ?_) | ((with_reducible first | refine AWP_reg fun KC J hJ hKC => ?_ | refine AWP_regD rfl fun KC J hJ hKC => ?_); simp (maxSteps := 10000000) only [push_cast, seval, ↓reduceIte, hlt]) | ((with_reducible refine And.intro ?_ ?_); · exact Sq) | ((first | with_reducible refine hJ _ _ ?_ | (with_reducible refine hJ _ _ ?_ ?_; · kernel_rfl)); clear hJ hKC KC J) | ((with_reducible refine AWP_condT ?_ ?_); · rfl) | ((with_reducible refine AWP_condF ?_ ?_); · rfl) | ((with_reducible refine ite_intro (fun hs => ?_) (fun hs => ?_)) <;> (try simp only [Bool.not_eq_true, Bool.not_eq_false, Bool.not_eq_true', Bool.not_eq_false', Decidable.not_not, decide_eq_true_eq, decide_eq_false_iff_not] at hs) <;> (try simp (maxSteps := 10000000) only [push_cast, seval, ↓reduceIte, hs, hlt])) | (refine AWP_cond rfl (fun h => ?_) (fun h => ?_) <;> try simp only [decide_eq_true_eq, decide_eq_false_iff_not, Bool.not_eq_true', Bool.not_eq_false', beq_iff_eq, bne_iff_ne, ne_eq, Bool.not_eq_true, Bool.or_eq_true, Bool.and_eq_true, Bool.or_eq_false_iff, Bool.and_eq_false_imp, beq_eq_false_iff_ne, bne_eq_false_iff_eq] at h)
        refine ret_plain ?_
        simp (maxSteps := 10000000) only [push_cast, seval, ↓reduceIte, show Try.f73.results = #[(.tmp 4)] from rfl]
        rw [decide_eq_true (list_eq_of hl fun j hj => hn j (by omega))]
        exact leD_refl _
  · have hl' : ((xs.length : Int) != (ys.length : Int)) = true := by simp; omega
    repeat' first | (with_reducible first | refine AWP_seq' ?_ | refine k_normal ?_ | refine k_ret ?_ | refine k_exit ?_ | refine b_normal ?_ | refine b_ret ?_ | refine b_exit ?_ | refine b_pass rfl ?_ | refine AWP_ret ?_ | refine AWP_skip ?_ | refine AWP_exit ?_ | refine AWP_block ?_) | ((with_reducible first | refine AWP_reg fun KC J hJ hKC => ?_ | refine AWP_regD rfl fun KC J hJ hKC => ?_); simp (maxSteps := 10000000) only [push_cast, seval, ↓reduceIte, hl']) | ((with_reducible refine And.intro ?_ ?_); · exact Sq) | ((first | with_reducible refine hJ _ _ ?_ | (with_reducible refine hJ _ _ ?_ ?_; · kernel_rfl)); clear hJ hKC KC J) | ((with_reducible refine AWP_condT ?_ ?_); · rfl) | ((with_reducible refine AWP_condF ?_ ?_); · rfl) | ((with_reducible refine ite_intro (fun hs => ?_) (fun hs => ?_)) <;> (try simp only [Bool.not_eq_true, Bool.not_eq_false, Bool.not_eq_true', Bool.not_eq_false', Decidable.not_not, decide_eq_true_eq, decide_eq_false_iff_not] at hs) <;> (try simp (maxSteps := 10000000) only [push_cast, seval, ↓reduceIte, hs, hl'])) | (refine AWP_cond rfl (fun h => ?_) (fun h => ?_) <;> try simp only [decide_eq_true_eq, decide_eq_false_iff_not, Bool.not_eq_true', Bool.not_eq_false', beq_iff_eq, bne_iff_ne, ne_eq, Bool.not_eq_true, Bool.or_eq_true, Bool.and_eq_true, Bool.or_eq_false_iff, Bool.and_eq_false_imp, beq_eq_false_iff_ne, bne_eq_false_iff_eq] at h)
    refine ret_plain ?_
    simp (maxSteps := 10000000) only [push_cast, seval, ↓reduceIte, show Try.f73.results = #[(.tmp 4)] from rfl]
    rw [decide_eq_false (fun h => hl (by rw [h]))]
    exact leD_refl _
theorem eqT_fn (f g : Bool) (xs ys : List (Int × Int × Int)) (hb : xs.length ≤ 1000) : Fn Try.prog 291 [.sl f 3 (tRow xs), .sl g 3 (tRow ys)] [] (.v (.bool (decide (xs = ys)))) [] := by
  refine Fn.of (fn := Try.f291) (by kernel_rfl) rfl (by kernel_rfl) ⟨[.sl f 3 (tRow xs), .sl g 3 (tRow ys), .v undef, .v undef, .v undef, .v undef, .v undef, .v undef, .v undef, .v undef, .v undef, .v undef, .v undef, .v undef, .v undef, .v undef, .v undef, .v undef, .v undef, .v undef, .v undef, .v undef, .v undef, .v undef, .v undef, .v undef], []⟩ rfl ?_
  by_cases hl : xs.length = ys.length
  · have hl' : ((xs.length : Int) != (ys.length : Int)) = false := by simp [hl]
    repeat' first | (with_reducible first | refine AWP_seq' ?_ | refine k_normal ?_ | refine k_ret ?_ | refine k_exit ?_ | refine b_normal ?_ | refine b_ret ?_ | refine b_exit ?_ | refine b_pass rfl ?_ | refine AWP_ret ?_ | refine AWP_skip ?_ | refine AWP_exit ?_ | refine AWP_block ?_) | ((with_reducible first | refine AWP_reg fun KC J hJ hKC => ?_ | refine AWP_regD rfl fun KC J hJ hKC => ?_); simp (maxSteps := 10000000) only [push_cast, seval, ↓reduceIte, hl']) | ((with_reducible refine And.intro ?_ ?_); · exact Sq) | ((first | with_reducible refine hJ _ _ ?_ | (with_reducible refine hJ _ _ ?_ ?_; · kernel_rfl)); clear hJ hKC KC J) | ((with_reducible refine AWP_condT ?_ ?_); · rfl) | ((with_reducible refine AWP_condF ?_ ?_); · rfl) | ((with_reducible refine ite_intro (fun hs => ?_) (fun hs => ?_)) <;> (try simp only [Bool.not_eq_true, Bool.not_eq_false, Bool.not_eq_true', Bool.not_eq_false', Decidable.not_not, decide_eq_true_eq, decide_eq_false_iff_not] at hs) <;> (try simp (maxSteps := 10000000) only [push_cast, seval, ↓reduceIte, hs, hl'])) | (refine AWP_cond rfl (fun h => ?_) (fun h => ?_) <;> try simp only [decide_eq_true_eq, decide_eq_false_iff_not, Bool.not_eq_true', Bool.not_eq_false', beq_iff_eq, bne_iff_ne, ne_eq, Bool.not_eq_true, Bool.or_eq_true, Bool.and_eq_true, Bool.or_eq_false_iff, Bool.and_eq_false_imp, beq_eq_false_iff_ne, bne_eq_false_iff_eq] at h)
    refine AWP_loopF (γ := {i : Nat // i ≤ xs.length ∧ ∀ j, j < i → xs[j]? = ys[j]?}) (fun i => ⟨[.sl f 3 (tRow xs), .sl g 3 (tRow ys), .any, .any, .any, .any, .any, .any, .any, .any, .any, .any, .v (.int .i64 xs.length), .v (.int .i64 i.1), .any, .any, .any, .any, .any, .any, .any, .any, .any, .any, .any, .any], []⟩) (fun i => xs.length - i.1) ⟨0, by simp⟩ ⟨?_, Fq⟩ ?_
    · exact Lq
    · rintro ⟨i, hi, hn⟩
      by_cases hlt : (i : Int) < (xs.length : Int)
      · have hx : xs[i]? = some xs[i] := List.getElem?_eq_getElem (by omega)
        have hy : ys[i]? = some ys[i] := List.getElem?_eq_getElem (by omega)
        obtain ⟨⟨a1, a2, a3⟩, ha⟩ : ∃ a, xs[i] = a := ⟨_, rfl⟩
        obtain ⟨⟨b1, b2, b3⟩, hb2⟩ : ∃ b, ys[i] = b := ⟨_, rfl⟩
        rw [ha] at hx
        rw [hb2] at hy
        by_cases he : (a1, a2, a3) = (b1, b2, b3)
        · have he' : decide ((a1, a2, a3) = (b1, b2, b3)) = true := decide_eq_true he
          cases he
          repeat' first | (with_reducible first | refine AWP_seq' ?_ | refine k_normal ?_ | refine k_ret ?_ | refine k_exit ?_ | refine b_normal ?_ | refine b_ret ?_ | refine b_exit ?_ | refine b_pass rfl ?_ | refine AWP_ret ?_ | refine AWP_skip ?_ | refine AWP_exit ?_ | refine AWP_block ?_) | ((with_reducible first | refine AWP_reg fun KC J hJ hKC => ?_ | refine AWP_regD rfl fun KC J hJ hKC => ?_); simp (maxSteps := 10000000) only [push_cast, seval, ↓reduceIte, hlt, getE_t hx, getE_t hy, beq_self_eq_true, Bool.and_self, Bool.not_true, bne_self_eq_false, wrapN (i := i) (n := xs.length) (by omega) (by omega)]) | ((with_reducible refine And.intro ?_ ?_); · exact Sq) | ((first | with_reducible refine hJ _ _ ?_ | (with_reducible refine hJ _ _ ?_ ?_; · kernel_rfl)); clear hJ hKC KC J) | ((with_reducible refine AWP_condT ?_ ?_); · rfl) | ((with_reducible refine AWP_condF ?_ ?_); · rfl) | ((with_reducible refine ite_intro (fun hs => ?_) (fun hs => ?_)) <;> (try simp only [Bool.not_eq_true, Bool.not_eq_false, Bool.not_eq_true', Bool.not_eq_false', Decidable.not_not, decide_eq_true_eq, decide_eq_false_iff_not] at hs) <;> (try simp (maxSteps := 10000000) only [push_cast, seval, ↓reduceIte, hs, hlt, getE_t hx, getE_t hy, beq_self_eq_true, Bool.and_self, Bool.not_true, bne_self_eq_false, wrapN (i := i) (n := xs.length) (by omega) (by omega)])) | (refine AWP_cond rfl (fun h => ?_) (fun h => ?_) <;> try simp only [decide_eq_true_eq, decide_eq_false_iff_not, Bool.not_eq_true', Bool.not_eq_false', beq_iff_eq, bne_iff_ne, ne_eq, Bool.not_eq_true, Bool.or_eq_true, Bool.and_eq_true, Bool.or_eq_false_iff, Bool.and_eq_false_imp, beq_eq_false_iff_ne, bne_eq_false_iff_eq] at h)
          refine ⟨⟨i + 1, by omega, fun j hj => ?_⟩, by simp only; omega, ?_, Fq⟩
          · by_cases hji : j = i
            · rw [hji, hx, hy]
            · exact hn j (by omega)
          · exact Lq
        · have he' : (a1 == b1 && (a2 == b2 && a3 == b3)) = false := by
            cases h : (a1 == b1 && (a2 == b2 && a3 == b3)) with
            | false => rfl
            | true =>
              simp only [Bool.and_eq_true, beq_iff_eq] at h
              exact absurd (by rw [h.1, h.2.1, h.2.2]) he
          repeat' first | (with_reducible first | refine AWP_seq' ?_ | refine k_normal ?_ | refine k_ret ?_ | refine k_exit ?_ | refine b_normal ?_ | refine b_ret ?_ | refine b_exit ?_ | refine b_pass rfl ?_ | refine AWP_ret ?_ | refine AWP_skip ?_ | refine AWP_exit ?_ | refine AWP_block ?_) | ((with_reducible first | refine AWP_reg fun KC J hJ hKC => ?_ | refine AWP_regD rfl fun KC J hJ hKC => ?_); simp (maxSteps := 10000000) only [push_cast, seval, ↓reduceIte, hlt, getE_t hx, getE_t hy, he']) | ((with_reducible refine And.intro ?_ ?_); · exact Sq) | ((first | with_reducible refine hJ _ _ ?_ | (with_reducible refine hJ _ _ ?_ ?_; · kernel_rfl)); clear hJ hKC KC J) | ((with_reducible refine AWP_condT ?_ ?_); · rfl) | ((with_reducible refine AWP_condF ?_ ?_); · rfl) | ((with_reducible refine ite_intro (fun hs => ?_) (fun hs => ?_)) <;> (try simp only [Bool.not_eq_true, Bool.not_eq_false, Bool.not_eq_true', Bool.not_eq_false', Decidable.not_not, decide_eq_true_eq, decide_eq_false_iff_not] at hs) <;> (try simp (maxSteps := 10000000) only [push_cast, seval, ↓reduceIte, hs, hlt, getE_t hx, getE_t hy, he'])) | (refine AWP_cond rfl (fun h => ?_) (fun h => ?_) <;> try simp only [decide_eq_true_eq, decide_eq_false_iff_not, Bool.not_eq_true', Bool.not_eq_false', beq_iff_eq, bne_iff_ne, ne_eq, Bool.not_eq_true, Bool.or_eq_true, Bool.and_eq_true, Bool.or_eq_false_iff, Bool.and_eq_false_imp, beq_eq_false_iff_ne, bne_eq_false_iff_eq] at h)
          refine ret_plain ?_
          simp (maxSteps := 10000000) only [push_cast, seval, ↓reduceIte, show Try.f291.results = #[(.tmp 4)] from rfl]
          rw [decide_eq_false (fun h => he (by rw [h, hy] at hx; exact (Option.some.inj hx).symm))]
          exact leD_refl _
      · skip
        repeat' first | (with_reducible first | refine AWP_seq' ?_ | refine k_normal ?_ | refine k_ret ?_ | refine k_exit ?_ | refine b_normal ?_ | refine b_ret ?_ | refine b_exit ?_ | refine b_pass rfl ?_ | refine AWP_ret ?_ | refine AWP_skip ?_ | refine AWP_exit ?_ | refine AWP_block ?_) | ((with_reducible first | refine AWP_reg fun KC J hJ hKC => ?_ | refine AWP_regD rfl fun KC J hJ hKC => ?_); simp (maxSteps := 10000000) only [push_cast, seval, ↓reduceIte, hlt]) | ((with_reducible refine And.intro ?_ ?_); · exact Sq) | ((first | with_reducible refine hJ _ _ ?_ | (with_reducible refine hJ _ _ ?_ ?_; · kernel_rfl)); clear hJ hKC KC J) | ((with_reducible refine AWP_condT ?_ ?_); · rfl) | ((with_reducible refine AWP_condF ?_ ?_); · rfl) | ((with_reducible refine ite_intro (fun hs => ?_) (fun hs => ?_)) <;> (try simp only [Bool.not_eq_true, Bool.not_eq_false, Bool.not_eq_true', Bool.not_eq_false', Decidable.not_not, decide_eq_true_eq, decide_eq_false_iff_not] at hs) <;> (try simp (maxSteps := 10000000) only [push_cast, seval, ↓reduceIte, hs, hlt])) | (refine AWP_cond rfl (fun h => ?_) (fun h => ?_) <;> try simp only [decide_eq_true_eq, decide_eq_false_iff_not, Bool.not_eq_true', Bool.not_eq_false', beq_iff_eq, bne_iff_ne, ne_eq, Bool.not_eq_true, Bool.or_eq_true, Bool.and_eq_true, Bool.or_eq_false_iff, Bool.and_eq_false_imp, beq_eq_false_iff_ne, bne_eq_false_iff_eq] at h)
        refine ret_plain ?_
        simp (maxSteps := 10000000) only [push_cast, seval, ↓reduceIte, show Try.f291.results = #[(.tmp 4)] from rfl]
        rw [decide_eq_true (list_eq_of hl fun j hj => hn j (by omega))]
        exact leD_refl _
  · have hl' : ((xs.length : Int) != (ys.length : Int)) = true := by simp; omega
    repeat' first | (with_reducible first | refine AWP_seq' ?_ | refine k_normal ?_ | refine k_ret ?_ | refine k_exit ?_ | refine b_normal ?_ | refine b_ret ?_ | refine b_exit ?_ | refine b_pass rfl ?_ | refine AWP_ret ?_ | refine AWP_skip ?_ | refine AWP_exit ?_ | refine AWP_block ?_) | ((with_reducible first | refine AWP_reg fun KC J hJ hKC => ?_ | refine AWP_regD rfl fun KC J hJ hKC => ?_); simp (maxSteps := 10000000) only [push_cast, seval, ↓reduceIte, hl']) | ((with_reducible refine And.intro ?_ ?_); · exact Sq) | ((first | with_reducible refine hJ _ _ ?_ | (with_reducible refine hJ _ _ ?_ ?_; · kernel_rfl)); clear hJ hKC KC J) | ((with_reducible refine AWP_condT ?_ ?_); · rfl) | ((with_reducible refine AWP_condF ?_ ?_); · rfl) | ((with_reducible refine ite_intro (fun hs => ?_) (fun hs => ?_)) <;> (try simp only [Bool.not_eq_true, Bool.not_eq_false, Bool.not_eq_true', Bool.not_eq_false', Decidable.not_not, decide_eq_true_eq, decide_eq_false_iff_not] at hs) <;> (try simp (maxSteps := 10000000) only [push_cast, seval, ↓reduceIte, hs, hl'])) | (refine AWP_cond rfl (fun h => ?_) (fun h => ?_) <;> try simp only [decide_eq_true_eq, decide_eq_false_iff_not, Bool.not_eq_true', Bool.not_eq_false', beq_iff_eq, bne_iff_ne, ne_eq, Bool.not_eq_true, Bool.or_eq_true, Bool.and_eq_true, Bool.or_eq_false_iff, Bool.and_eq_false_imp, beq_eq_false_iff_ne, bne_eq_false_iff_eq] at h)
    refine ret_plain ?_
    simp (maxSteps := 10000000) only [push_cast, seval, ↓reduceIte, show Try.f291.results = #[(.tmp 4)] from rfl]
    rw [decide_eq_false (fun h => hl (by rw [h]))]
    exact leD_refl _
theorem codeLike_fn (f g : Bool) (xs ys : List (Int × Int × Int)) (hb : xs.length ≤ 1000) : Fn Try.prog 268 [.sl f 3 (tRow xs), .sl g 3 (tRow ys)] [] (.v (.bool (decide (xs = ys)))) [] := by
  have h := eqT_fn f g xs ys hb
  refine Fn.of (fn := Try.f268) (by kernel_rfl) rfl (by kernel_rfl) ⟨[.sl f 3 (tRow xs), .sl g 3 (tRow ys), .v undef, .v undef, .v undef, .v undef, .v undef, .v undef], []⟩ rfl ?_
  repeat' first | (with_reducible first | refine AWP_seq' ?_ | refine k_normal ?_ | refine k_ret ?_ | refine k_exit ?_ | refine b_normal ?_ | refine b_ret ?_ | refine b_exit ?_ | refine b_pass rfl ?_ | refine AWP_ret ?_ | refine AWP_skip ?_ | refine AWP_exit ?_ | refine AWP_block ?_) | ((with_reducible first | refine AWP_reg fun KC J hJ hKC => ?_ | refine AWP_regD rfl fun KC J hJ hKC => ?_); simp (maxSteps := 10000000) only [push_cast, seval, ↓reduceIte]) | ((with_reducible refine And.intro ?_ ?_); · exact Sq) | (refine hKC _ _ _ _ _ (callV0 (h) rfl rfl rfl ?_ ?_); (· exact Lq); simp (maxSteps := 10000000) only [push_cast, seval, ↓reduceIte]) | ((first | with_reducible refine hJ _ _ ?_ | (with_reducible refine hJ _ _ ?_ ?_; · kernel_rfl)); clear hJ hKC KC J) | ((with_reducible refine AWP_condT ?_ ?_); · rfl) | ((with_reducible refine AWP_condF ?_ ?_); · rfl) | ((with_reducible refine ite_intro (fun hs => ?_) (fun hs => ?_)) <;> (try simp only [Bool.not_eq_true, Bool.not_eq_false, Bool.not_eq_true', Bool.not_eq_false', Decidable.not_not, decide_eq_true_eq, decide_eq_false_iff_not] at hs) <;> (try simp (maxSteps := 10000000) only [push_cast, seval, ↓reduceIte, hs])) | (refine AWP_cond rfl (fun h => ?_) (fun h => ?_) <;> try simp only [decide_eq_true_eq, decide_eq_false_iff_not, Bool.not_eq_true', Bool.not_eq_false', beq_iff_eq, bne_iff_ne, ne_eq, Bool.not_eq_true, Bool.or_eq_true, Bool.and_eq_true, Bool.or_eq_false_iff, Bool.and_eq_false_imp, beq_eq_false_iff_ne, bne_eq_false_iff_eq] at h)
  refine ret_plain ?_
  simp (maxSteps := 10000000) only [push_cast, seval, ↓reduceIte, show Try.f268.results = #[(.tmp 4)] from rfl]
  exact Lq
def likeS (a b : Sta) : Bool := ((a.v == b.v) && (a.l == b.l)) && (decide (a.code = b.code) && (decide (a.mem = b.mem) && (decide (a.stack = b.stack) && decide (a.out = b.out))))
theorem likeS_iff {a b : Sta} : likeS a b = true ↔ a = b := by
  obtain ⟨v, l, c, m, s, o⟩ := a
  obtain ⟨v', l', c', m', s', o'⟩ := b
  simp [likeS]
  constructor
  · rintro ⟨⟨h1, h2⟩, h3, h4, h5, h6⟩; exact ⟨h1, h2, h3, h4, h5, h6⟩
  · rintro ⟨h1, h2, h3, h4, h5, h6⟩; exact ⟨⟨h1, h2⟩, h3, h4, h5, h6⟩
theorem stLike_fn (a b : Sta) (ha : Sml a) : Fn Try.prog 182 [.agg (staF false false false false a), .agg (staF false false false false b)] [] (.v (.bool (likeS a b))) [] := by
  obtain ⟨a1, a2, a3, a4⟩ := ha
  have h1 := codeLike_fn false false a.code b.code a1
  have h2 := eqA_fn false false a.mem b.mem (by omega)
  have h3 := eqS_fn false false a.stack b.stack a3
  have h4 := eqA_fn false false a.out b.out (by omega)
  unfold likeS
  obtain ⟨p0, hp0⟩ : ∃ x, (a.v == b.v) = x := ⟨_, rfl⟩
  obtain ⟨p9, hp9⟩ : ∃ x, (a.l == b.l) = x := ⟨_, rfl⟩
  obtain ⟨p1, hp1⟩ : ∃ x, decide (a.code = b.code) = x := ⟨_, rfl⟩
  obtain ⟨p2, hp2⟩ : ∃ x, decide (a.mem = b.mem) = x := ⟨_, rfl⟩
  obtain ⟨p3, hp3⟩ : ∃ x, decide (a.stack = b.stack) = x := ⟨_, rfl⟩
  obtain ⟨p4, hp4⟩ : ∃ x, decide (a.out = b.out) = x := ⟨_, rfl⟩
  rw [hp1] at h1
  rw [hp2] at h2
  rw [hp3] at h3
  rw [hp4] at h4
  rw [hp0, hp9, hp1, hp2, hp3, hp4]
  simp only [staF]
  cases p0 <;> cases p9 <;> cases p1 <;> cases p2 <;> cases p3
  all_goals
    refine Fn.of (fn := Try.f182) (by kernel_rfl) rfl (by kernel_rfl) ⟨[.agg [.v (.int .i64 a.v), .v (.int .i64 a.l), .sl false 3 (tRow a.code), .sl false 2 (pRow a.mem), .sl false 3 (sRow a.stack), .sl false 2 (pRow a.out)], .agg [.v (.int .i64 b.v), .v (.int .i64 b.l), .sl false 3 (tRow b.code), .sl false 2 (pRow b.mem), .sl false 3 (sRow b.stack), .sl false 2 (pRow b.out)], .v undef, .v undef, .v undef, .v undef, .v undef, .v undef, .v undef, .v undef, .v undef, .v undef, .v undef, .v undef, .v undef, .v undef, .v undef, .v undef, .v undef, .v undef, .v undef, .v undef, .v undef, .v undef, .v undef, .v undef, .v undef, .v undef, .v undef, .v undef, .v undef, .v undef, .v undef, .v undef, .v undef, .v undef, .v undef, .v undef], []⟩ rfl ?_
    repeat' first | (with_reducible first | refine AWP_seq' ?_ | refine k_normal ?_ | refine k_ret ?_ | refine k_exit ?_ | refine b_normal ?_ | refine b_ret ?_ | refine b_exit ?_ | refine b_pass rfl ?_ | refine AWP_ret ?_ | refine AWP_skip ?_ | refine AWP_exit ?_ | refine AWP_block ?_) | ((with_reducible first | refine AWP_reg fun KC J hJ hKC => ?_ | refine AWP_regD rfl fun KC J hJ hKC => ?_); simp (maxSteps := 10000000) only [push_cast, seval, ↓reduceIte, hp0, hp9, undef, Bool.and_self, Bool.and_true, Bool.and_false, Bool.false_and, Bool.true_and]) | ((with_reducible refine And.intro ?_ ?_); · exact Sq) | (refine hKC _ _ _ _ _ (callV0 (h1) rfl rfl rfl ?_ ?_); (· exact Lq); simp (maxSteps := 10000000) only [push_cast, seval, ↓reduceIte, hp0, hp9, undef, Bool.and_self, Bool.and_true, Bool.and_false, Bool.false_and, Bool.true_and]) | (refine hKC _ _ _ _ _ (callV0 (h2) rfl rfl rfl ?_ ?_); (· exact Lq); simp (maxSteps := 10000000) only [push_cast, seval, ↓reduceIte, hp0, hp9, undef, Bool.and_self, Bool.and_true, Bool.and_false, Bool.false_and, Bool.true_and]) | (refine hKC _ _ _ _ _ (callV0 (h3) rfl rfl rfl ?_ ?_); (· exact Lq); simp (maxSteps := 10000000) only [push_cast, seval, ↓reduceIte, hp0, hp9, undef, Bool.and_self, Bool.and_true, Bool.and_false, Bool.false_and, Bool.true_and]) | (refine hKC _ _ _ _ _ (callV0 (h4) rfl rfl rfl ?_ ?_); (· exact Lq); simp (maxSteps := 10000000) only [push_cast, seval, ↓reduceIte, hp0, hp9, undef, Bool.and_self, Bool.and_true, Bool.and_false, Bool.false_and, Bool.true_and]) | ((first | with_reducible refine hJ _ _ ?_ | (with_reducible refine hJ _ _ ?_ ?_; · kernel_rfl)); clear hJ hKC KC J) | ((with_reducible refine AWP_condT ?_ ?_); · rfl) | ((with_reducible refine AWP_condF ?_ ?_); · rfl) | ((with_reducible refine ite_intro (fun hs => ?_) (fun hs => ?_)) <;> (try simp only [Bool.not_eq_true, Bool.not_eq_false, Bool.not_eq_true', Bool.not_eq_false', Decidable.not_not, decide_eq_true_eq, decide_eq_false_iff_not] at hs) <;> (try simp (maxSteps := 10000000) only [push_cast, seval, ↓reduceIte, hs, hp0, hp9, undef, Bool.and_self, Bool.and_true, Bool.and_false, Bool.false_and, Bool.true_and])) | (refine AWP_cond rfl (fun h => ?_) (fun h => ?_) <;> try simp only [decide_eq_true_eq, decide_eq_false_iff_not, Bool.not_eq_true', Bool.not_eq_false', beq_iff_eq, bne_iff_ne, ne_eq, Bool.not_eq_true, Bool.or_eq_true, Bool.and_eq_true, Bool.or_eq_false_iff, Bool.and_eq_false_imp, beq_eq_false_iff_ne, bne_eq_false_iff_eq] at h)
    refine ret_plain ?_
    simp (maxSteps := 10000000) only [push_cast, seval, ↓reduceIte, show Try.f182.results = #[(.tmp 4)] from rfl]
    first | exact Lq | (simp only [Bool.true_and, Bool.and_true, Bool.and_false, Bool.false_and]; exact Lq)
end Go.Proofs.Ytabliglgeiajlaa.AM

/- Moves, plainly: what they make is smaller, and may be. -/
namespace Go.Proofs.Ytabliglgeiajlaa.AM
open Go Go.RowKit Go.Proofs
set_option maxRecDepth 100000
set_option maxHeartbeats 4000000

/-- The element of a place, made another one. -/
def upd {α : Type} (l : List α) (i : Nat) (g : α → α) : List α := match l[i]? with | some x => l.set i (g x) | none => l
theorem upd_none {α : Type} {l : List α} {i : Nat} {g : α → α} (h : l.length ≤ i) : upd l i g = l := by
  unfold upd; rw [List.getElem?_eq_none h]
theorem upd_some {α : Type} {l : List α} {i : Nat} {g : α → α} {x : α} (h : l[i]? = some x) : upd l i g = l.set i (g x) := by
  unfold upd; rw [h]
theorem upd_cases {α : Type} (l : List α) (i : Nat) (g : α → α) : upd l i g = l ∨ ∃ p x q, l = p ++ x :: q ∧ upd l i g = p ++ g x :: q ∧ p.length = i := by
  by_cases h : i < l.length
  · refine .inr ⟨l.take i, l[i], l.drop (i + 1), ?_, ?_, by simp; omega⟩
    · rw [List.getElem_cons_drop, List.take_append_drop]
    · rw [upd_some (List.getElem?_eq_getElem h), List.set_eq_take_append_cons_drop, if_pos h]
  · exact .inl (upd_none (by omega))
theorem upd_length {α : Type} (l : List α) (i : Nat) (g : α → α) : (upd l i g).length = l.length := by
  unfold upd; split <;> simp
theorem upd_all {α : Type} {p : α → Bool} {l : List α} {i : Nat} {g : α → α} (h : l.all p = true) (hg : ∀ x ∈ l, p x = true → p (g x) = true) : (upd l i g).all p = true := by
  rcases upd_cases l i g with h1 | ⟨a, x, b, h1, h2, _⟩
  · rw [h1]; exact h
  · rw [h2]
    rw [h1] at h hg
    simp only [List.all_append, List.all_cons, Bool.and_eq_true] at h ⊢
    exact ⟨h.1, hg x (by simp) h.2.1, h.2.2⟩

def befI (i : Nat) (n : Int) : Int := if (i : Int) < n then n - 1 else n
def befC (i : Nat) (x : Int × Int × Int) : Int × Int × Int := if x.1 = 8 then (x.1, befI i x.2.1, x.2.2) else x
def befS (i : Nat) (x : Bool × Int × Int) : Bool × Int × Int := if x.1 = true then (x.1, befI i x.2.1, x.2.2) else x
def instM (f : Int × Int → Int × Int) (x : Int × Int × Int) : Int × Int × Int := if x.1 = 1 then (x.1, f x.2) else x
def slotM (f : Int × Int → Int × Int) (x : Bool × Int × Int) : Bool × Int × Int := (x.1, f x.2)
/-- What is done with a number and its label: halved, as often; or the label is another one. -/
inductive Do
  | half (b : Nat)
  | bot (b : Int)
def doF : Do → Int × Int → Int × Int
  | .half b, x => (x.1.tdiv 2 * (b : Int), x.2)
  | .bot b, x => (x.1, b)
def atF (k i : Nat) (f : Int × Int → Int × Int) (s : Sta) : Sta :=
  match k with
  | 0 => { s with code := upd s.code i (instM f) }
  | 1 => { s with mem := upd s.mem i f }
  | _ => { s with stack := upd s.stack i (slotM f) }
inductive Mv
  | without (i : Nat)
  | idle (i : Nat)
  | less
  | silent
  | pull (i : Nat)
  | num (k i : Nat) (d : Do)
  | still
def mvF : Mv → Sta → Sta
  | .without i, s => if i < s.code.length then { s with v := befI i s.v, code := (s.code.take i ++ s.code.drop (i + 1)).map (befC i), stack := s.stack.map (befS i) } else s
  | .idle i, s => { s with code := upd s.code i fun _ => (0, 0, 0) }
  | .less, s => { s with mem := s.mem.take (s.mem.length - 1) }
  | .silent, s => { s with out := [] }
  | .pull i, s => if i < s.stack.length then { s with stack := s.stack.take i ++ s.stack.drop (i + 1) } else s
  | .num k i d, s => atF k i (doF d) s
  | .still, s => s
/-- A lattice's bottom: it flows to all. -/
def Bot (us : List Nat) (b : Int) : Prop := ∃ a : Nat, b = (a : Int) ∧ a < us.length ∧ ∀ c, c < us.length → fl us a c = true
def DoOk (us : List Nat) : Do → Prop
  | .half b => b < 2
  | .bot b => Bot us b
def MvOk (us : List Nat) : Mv → Prop
  | .num k _ d => k ≤ 2 ∧ DoOk us d
  | _ => True

/-! ### What they make may be -/
theorem befI_in {i : Nat} {n : Int} (h : inB 0 12 n = true) : inB 0 12 (befI i n) = true := by
  rw [inB_iff] at h ⊢; unfold befI; split <;> omega
theorem befC_B {n i : Nat} {x : Int × Int × Int} (h : instrB n x = true) : instrB n (befC i x) = true := by
  unfold befC
  split
  · rename_i h8
    unfold instrB at h ⊢
    simp only [h8] at h ⊢
    rw [if_neg (by omega)] at h ⊢
    simp only [if_true, Bool.and_eq_true] at h ⊢
    exact ⟨h.1, h.2.1, befI_in h.2.2⟩
  · exact h
theorem befS_B {n i : Nat} {x : Bool × Int × Int} (h : slotB n x = true) : slotB n (befS i x) = true := by
  unfold befS
  split
  · rename_i h1
    unfold slotB at h ⊢
    simp only [h1, if_true, Bool.and_eq_true] at h ⊢
    exact ⟨h.1, befI_in h.2⟩
  · exact h
theorem tdiv2 (n : Int) : (0 ≤ n → 0 ≤ n.tdiv 2 ∧ n.tdiv 2 ≤ n ∧ (0 < n → n.tdiv 2 < n)) ∧ (n ≤ 0 → n ≤ n.tdiv 2 ∧ n.tdiv 2 ≤ 0 ∧ (n < 0 → n < n.tdiv 2)) := by
  refine ⟨fun h => ?_, fun h => ?_⟩
  · rw [Int.tdiv_eq_ediv_of_nonneg h]; omega
  · have : n.tdiv 2 = -((-n).tdiv 2) := by rw [Int.neg_tdiv, Int.neg_neg]
    rw [this, Int.tdiv_eq_ediv_of_nonneg (by omega)]; omega
theorem halfI {n : Int} {b : Nat} (hb : b < 2) : n.tdiv 2 * (b : Int) = 0 ∨ n.tdiv 2 * (b : Int) = n.tdiv 2 := by
  rcases (show b = 0 ∨ b = 1 by omega) with rfl | rfl
  · left; simp
  · right; simp
theorem half_in {lo hi n : Int} {b : Nat} (h0 : lo ≤ 0) (h1 : 0 ≤ hi) (hb : b < 2) (h : inB lo hi n = true) : inB lo hi (n.tdiv 2 * (b : Int)) = true := by
  rw [inB_iff] at h ⊢
  have h2 := tdiv2 n
  rcases halfI (n := n) hb with h3 | h3 <;> rw [h3] <;> rcases Int.le_total 0 n with h4 | h4
  · omega
  · omega
  · have := h2.1 h4; omega
  · have := h2.2 h4; omega
theorem oddL_bot {us : List Nat} {b : Int} (h : Bot us b) : oddL us.length b = false := by
  obtain ⟨a, rfl, ha, _⟩ := h
  exact oddL_iff.2 ⟨by omega, by omega⟩
theorem doF_B {us : List Nat} {d : Do} (hd : DoOk us d) {x : Int × Int} (h : atomB us.length x = true) : atomB us.length (doF d x) = true := by
  simp only [atomB, Bool.and_eq_true, Bool.not_eq_true'] at h ⊢
  cases d with
  | half b => exact ⟨half_in (by omega) (by omega) hd h.1, h.2⟩
  | bot b => exact ⟨h.1, oddL_bot hd⟩
theorem instM_B {us : List Nat} {d : Do} (hd : DoOk us d) {x : Int × Int × Int} (h : instrB us.length x = true) : instrB us.length (instM (doF d) x) = true := by
  unfold instM
  split
  · rename_i h1
    unfold instrB at h ⊢
    simp only [h1, if_true] at h ⊢
    exact doF_B (x := x.2) hd h
  · exact h
theorem slotM_B {us : List Nat} {d : Do} (hd : DoOk us d) {x : Bool × Int × Int} (h : slotB us.length x = true) : slotB us.length (slotM (doF d) x) = true := by
  unfold slotB slotM at *
  simp only [Bool.and_eq_true, Bool.not_eq_true'] at h ⊢
  cases d with
  | half b =>
    refine ⟨h.1, ?_⟩
    have h2 := h.2
    simp only [doF]
    split at h2
    · rename_i h3; rw [if_pos h3]; exact half_in (by omega) (by omega) hd h2
    · rename_i h3; rw [if_neg h3]; exact half_in (by omega) (by omega) hd h2
  | bot b => exact ⟨oddL_bot hd, h.2⟩
theorem mv_B {us : List Nat} {m : Mv} (hm : MvOk us m) {s : Sta} (h : staB us.length s = true) : staB us.length (mvF m s) = true := by
  have h0 := h
  simp only [staB, codeB, Bool.and_eq_true, decide_eq_true_eq, Bool.not_eq_true'] at h ⊢
  obtain ⟨⟨a1, a2⟩, a3, a4, a5, a6, a7, a8, a9, a10⟩ := h
  cases m with
  | without i =>
    simp only [mvF]
    split
    · rename_i hi
      refine ⟨⟨?_, ?_⟩, befI_in a3, a4, a5, a6, ?_, by simpa using a8, a9, a10⟩
      · rw [List.all_map, List.all_eq_true]
        intro x hx
        refine befC_B (List.all_eq_true.1 a1 x ?_)
        rcases List.mem_append.1 hx with h | h
        · exact List.mem_of_mem_take h
        · exact List.mem_of_mem_drop h
      · simp only [List.length_map, List.length_append, List.length_take, List.length_drop]; omega
      · rw [List.all_map, List.all_eq_true]
        intro x hx
        exact befS_B (List.all_eq_true.1 a7 x hx)
    · exact ⟨⟨a1, a2⟩, a3, a4, a5, a6, a7, a8, a9, a10⟩
  | idle i =>
    simp only [mvF]
    refine ⟨⟨upd_all a1 fun x hx h => ?_, by rw [upd_length]; exact a2⟩, a3, a4, a5, a6, a7, a8, a9, a10⟩
    rfl
  | less =>
    simp only [mvF]
    refine ⟨⟨a1, a2⟩, a3, a4, ?_, by simp; omega, a7, a8, a9, a10⟩
    rw [List.all_eq_true]
    intro x hx
    exact List.all_eq_true.1 a5 x (List.mem_of_mem_take hx)
  | silent => exact ⟨⟨a1, a2⟩, a3, a4, a5, a6, a7, a8, rfl, by simp [mvF]⟩
  | pull i =>
    simp only [mvF]
    split
    · refine ⟨⟨a1, a2⟩, a3, a4, a5, a6, ?_, ?_, a9, a10⟩
      · rw [List.all_eq_true]
        intro x hx
        refine List.all_eq_true.1 a7 x ?_
        rcases List.mem_append.1 hx with h | h
        · exact List.mem_of_mem_take h
        · exact List.mem_of_mem_drop h
      · simp only [List.length_append, List.length_take, List.length_drop]; omega
    · exact ⟨⟨a1, a2⟩, a3, a4, a5, a6, a7, a8, a9, a10⟩
  | num k i d =>
    simp only [mvF, atF]
    match k with
    | 0 => exact ⟨⟨upd_all a1 fun x _ h => instM_B hm.2 h, by show (upd _ _ _).length ≤ _; rw [upd_length]; exact a2⟩, a3, a4, a5, a6, a7, a8, a9, a10⟩
    | 1 => exact ⟨⟨a1, a2⟩, a3, a4, upd_all a5 fun x _ h => doF_B hm.2 h, by show (upd _ _ _).length ≤ _; rw [upd_length]; exact a6, a7, a8, a9, a10⟩
    | _ + 2 => exact ⟨⟨a1, a2⟩, a3, a4, a5, a6, upd_all a7 fun x _ h => slotM_B hm.2 h, by show (upd _ _ _).length ≤ _; rw [upd_length]; exact a8, a9, a10⟩
  | still => exact ⟨⟨a1, a2⟩, a3, a4, a5, a6, a7, a8, a9, a10⟩

/-! ### Sizes in parts -/
def sA {α : Type} (f : α → Int) (l : List α) : Int := (l.map f).sum
theorem sA_cons {α : Type} (f : α → Int) (x : α) (l : List α) : sA f (x :: l) = f x + sA f l := by simp [sA]
theorem sA_app {α : Type} (f : α → Int) (l m : List α) : sA f (l ++ m) = sA f l + sA f m := by simp [sA, List.sum_append]
theorem sA_map {α β : Type} (f : β → Int) (g : α → β) (l : List α) : sA f (l.map g) = sA (fun x => f (g x)) l := by
  simp only [sA, List.map_map]; rfl
theorem sA_congr {α : Type} {f g : α → Int} (l : List α) (h : ∀ x, f x = g x) : sA f l = sA g l := by rw [show f = g from funext h]
def hN (us : List Nat) (l : Int) : Int := if 0 ≤ l then ((hgt us l.toNat : Nat) : Int) else 0
def cntS (s : Sta) : Nat := s.code.length + s.mem.length + s.stack.length + s.out.length + (s.code.filter deedB).length
def sumA (s : Sta) : Int := absI s.v + (sA (fun x => absI x.2.1) s.code + ((sA (fun x => absI x.1) s.mem + sA (fun x => absI x.1) s.out) + sA (fun x => absI x.2.1) s.stack))
def sumH (us : List Nat) (s : Sta) : Int := hN us s.l + (sA (fun x => if x.1 = 1 then hN us x.2.2 else 0) s.code + ((sA (fun x => hN us x.2) s.mem + sA (fun x => hN us x.2) s.out) + sA (fun x => hN us x.2.2) s.stack))
theorem foldNum (us : List Nat) : ∀ (l : List (Int × Int)) (z : Int × Int × Int), l.foldl (numZ us) z = (z.1, z.2.1 + sA (fun p => absI p.1) l, z.2.2 + sA (fun p => hN us p.2) l)
  | [], z => by simp [sA]
  | p :: l, z => by
    rw [List.foldl_cons, foldNum us l, sA_cons, sA_cons]
    simp only [numZ, hN]
    refine Prod.ext rfl (Prod.ext ?_ ?_)
    · simp only; omega
    · simp only
      split <;> omega
theorem sizeZ_parts {us : List Nat} {n : Nat} {s : Sta} (h : StaN n s) : sizeZ us (0, 0, 0) s = (((cntS s : Nat) : Int), sumA s, sumH us s) := by
  rw [sizeZ_num h, foldNum]
  unfold numsL sumA sumH cntS
  simp only [sA_cons, sA_app, sA_map, Int.zero_add]
  refine Prod.ext rfl (Prod.ext rfl ?_)
  simp only
  congr 2
  refine sA_congr _ fun x => ?_
  unfold instQ hN
  by_cases h1 : x.1 = 1
  · simp only [if_pos h1]
  · simp only [if_neg h1]; rfl
/-- Smaller: in count, else in sum, else in height. -/
def Sm (us : List Nat) (t s : Sta) : Prop := cntS t < cntS s ∨ (cntS t = cntS s ∧ (sumA t < sumA s ∨ (sumA t = sumA s ∧ sumH us t < sumH us s)))
theorem deed_befC (i : Nat) (x : Int × Int × Int) : deedB (befC i x) = deedB x := by
  unfold deedB befC; split <;> rfl
theorem deed_instM (f : Int × Int → Int × Int) (x : Int × Int × Int) : deedB (instM f x) = deedB x := by
  unfold deedB instM; split <;> rfl
theorem hgt_bot {us : List Nat} (ho : Ord us) {a : Nat} (ha : a < us.length) (h : ∀ c, c < us.length → fl us a c = true) : hgt us a = 0 := by
  unfold hgt hgtK
  refine hgtS_none (Nat.le_refl _) fun c hc => ?_
  by_cases he : c = a
  · subst he; exact bel_self us c
  · have h1 := ho.2.1 c hc a ha he
    have h2 := h c hc
    simp only [bel]
    cases h3 : fl us c a
    · simp
    · exact absurd ⟨h3, h2⟩ h1
theorem hgtS_pos {us : List Nat} {h : Nat → Nat} {a b : Nat} (hb : bel us b a = true) : ∀ {n}, b < n → 0 < hgtS us h a n
  | 0, hn => by omega
  | n + 1, hn => by
    unfold hgtS
    by_cases he : b = n
    · subst he; rw [if_pos hb]; omega
    · have := hgtS_pos (us := us) (h := h) hb (n := n) (by omega)
      split <;> omega
theorem hgt_pos {us : List Nat} {a b : Nat} (hb : b < us.length) (h : bel us b a = true) : 0 < hgt us a := by
  unfold hgt hgtK
  exact hgtS_pos h hb
theorem hN_bot {us : List Nat} (ho : Ord us) {b l : Int} (hb : Bot us b) (hl : oddL us.length l = false) (hne : l ≠ b) : hN us b < hN us l := by
  obtain ⟨a, rfl, ha, hall⟩ := hb
  obtain ⟨c, rfl, hc⟩ := oddL_no hl
  unfold hN
  rw [if_pos (by omega), if_pos (by omega), Int.toNat_natCast, Int.toNat_natCast, hgt_bot ho ha hall]
  have hne' : ¬ a = c := fun h => hne (by rw [h])
  have := hgt_pos (a := c) ha (show bel us a c = true by simp [bel, hne', hall c hc])
  omega
theorem absI_half {n : Int} {b : Nat} (hb : b < 2) (h : n ≠ 0) : absI (n.tdiv 2 * (b : Int)) < absI n := by
  have h2 := tdiv2 n
  unfold absI
  rcases halfI (n := n) hb with h3 | h3 <;> rw [h3] <;> rcases Int.le_total 0 n with h4 | h4
  · split <;> split <;> omega
  · split <;> split <;> omega
  · have := h2.1 h4; split <;> split <;> omega
  · have := h2.2 h4; split <;> split <;> omega
theorem doF_less {us : List Nat} (ho : Ord us) {d : Do} (hd : DoOk us d) {x : Int × Int} (hx : oddL us.length x.2 = false) :
    doF d x = x ∨ absI (doF d x).1 < absI x.1 ∨ (absI (doF d x).1 = absI x.1 ∧ hN us (doF d x).2 < hN us x.2) := by
  obtain ⟨v, l⟩ := x
  cases d with
  | half b =>
    by_cases h : v = 0
    · left; subst h; simp [doF]
    · right; left; exact absI_half hd h
  | bot b =>
    by_cases h : l = b
    · left; subst h; rfl
    · right; right; exact ⟨rfl, hN_bot ho hd hx h⟩
theorem mv_less {us : List Nat} (ho : Ord us) {m : Mv} (hm : MvOk us m) {s : Sta} (h : staB us.length s = true) : mvF m s = s ∨ Sm us (mvF m s) s := by
  have hN := sta_num h
  simp only [staB, codeB, Bool.and_eq_true, decide_eq_true_eq, Bool.not_eq_true'] at h
  obtain ⟨⟨a1, a2⟩, a3, a4, a5, a6, a7, a8, a9, a10⟩ := h
  cases m with
  | without i =>
    simp only [mvF]
    split
    · rename_i hi
      right; left
      have h1 : (((s.code.take i ++ s.code.drop (i + 1)).map (befC i)).filter deedB).length ≤ (s.code.filter deedB).length := by
        rw [List.filter_map, List.length_map, show (deedB ∘ befC i) = deedB from funext (deed_befC i)]
        conv => rhs; rw [← List.take_append_drop i s.code]
        rw [List.filter_append, List.filter_append, List.length_append, List.length_append, ← List.getElem_cons_drop hi, List.filter_cons]
        split
        · rw [List.length_cons]; omega
        · omega
      simp only [cntS, List.length_map, List.length_append, List.length_take, List.length_drop]
      omega
    · left; rfl
  | idle i =>
    simp only [mvF]
    rcases upd_cases s.code i (fun _ => (0, 0, 0)) with h1 | ⟨p, x, q, h1, h2, _⟩
    · left; rw [h1]
    · rw [h2]
      by_cases hd : deedB x = true
      · right; left
        simp only [cntS, h1, List.filter_append, List.filter_cons, hd, if_true, List.length_append, List.length_cons]
        rw [if_neg (by simp [deedB])]
        omega
      · left
        have hx : x = (0, 0, 0) := by
          have := List.all_eq_true.1 a1 x (by rw [h1]; simp)
          obtain ⟨o, v, l⟩ := x
          have ho0 : o = 0 := by simpa [deedB] using hd
          subst ho0
          simp [instrB] at this
          simp [this]
        rw [hx] at h1
        rw [← h1]
  | less =>
    simp only [mvF]
    by_cases h0 : s.mem.length = 0
    · left; rw [List.length_eq_zero_iff.1 h0, List.take_nil, ← List.length_eq_zero_iff.1 h0]
    · right; left
      simp only [cntS, List.length_take]
      omega
  | silent =>
    simp only [mvF]
    by_cases h0 : s.out.length = 0
    · left; rw [← List.length_eq_zero_iff.1 h0]
    · right; left
      simp only [cntS, List.length_nil]
      omega
  | pull i =>
    simp only [mvF]
    split
    · right; left
      simp only [cntS, List.length_append, List.length_take, List.length_drop]
      omega
    · left; rfl
  | num k i d =>
    simp only [mvF, atF]
    match k with
    | 0 =>
      rcases upd_cases s.code i (instM (doF d)) with h1 | ⟨p, x, q, h1, h2, _⟩
      · left; simp only [h1]
      · simp only [h2]
        have hx := hN.code x (by rw [h1]; simp)
        by_cases hx1 : x.1 = 1
        · have e1 : instM (doF d) x = (x.1, doF d x.2) := by unfold instM; rw [if_pos hx1]
          rcases doF_less ho hm.2 (x := x.2) (hx.2.2 hx1) with h3 | h3 | h3
          · left; rw [e1, h3]; rw [← h1]
          · right; right
            refine ⟨?_, .inl ?_⟩
            · simp only [cntS, h1, List.filter_append, List.filter_cons, deed_instM, List.length_append, List.length_cons]
              split <;> simp
            · simp only [sumA, h1, sA_app, sA_cons, e1]; omega
          · right; right
            refine ⟨?_, .inr ⟨?_, ?_⟩⟩
            · simp only [cntS, h1, List.filter_append, List.filter_cons, deed_instM, List.length_append, List.length_cons]
              split <;> simp
            · simp only [sumA, h1, sA_app, sA_cons, e1]; omega
            · simp only [sumH, h1, sA_app, sA_cons, e1, if_pos hx1]; omega
        · left
          rw [show instM (doF d) x = x by unfold instM; rw [if_neg hx1], ← h1]
    | 1 =>
      rcases upd_cases s.mem i (doF d) with h1 | ⟨p, x, q, h1, h2, _⟩
      · left; simp only [h1]
      · simp only [h2]
        have hx := hN.mem x (by rw [h1]; simp)
        rcases doF_less ho hm.2 (x := x) hx.2.2 with h3 | h3 | h3
        · left; rw [h3, ← h1]
        · right; right
          refine ⟨?_, .inl ?_⟩
          · simp only [cntS, h1, List.length_append, List.length_cons]
          · simp only [sumA, h1, sA_app, sA_cons]; omega
        · right; right
          refine ⟨?_, .inr ⟨?_, ?_⟩⟩
          · simp only [cntS, h1, List.length_append, List.length_cons]
          · simp only [sumA, h1, sA_app, sA_cons]; omega
          · simp only [sumH, h1, sA_app, sA_cons]; omega
    | k + 2 =>
      rcases upd_cases s.stack i (slotM (doF d)) with h1 | ⟨p, x, q, h1, h2, _⟩
      · left; simp only [h1]
      · simp only [h2]
        have hx := hN.stack x (by rw [h1]; simp)
        rcases doF_less ho hm.2 (x := x.2) hx.2.2 with h3 | h3 | h3
        · left; rw [show slotM (doF d) x = x by unfold slotM; rw [h3], ← h1]
        · right; right
          refine ⟨?_, .inl ?_⟩
          · simp only [cntS, h1, List.length_append, List.length_cons]
          · simp only [sumA, h1, sA_app, sA_cons, slotM]; omega
        · right; right
          refine ⟨?_, .inr ⟨?_, ?_⟩⟩
          · simp only [cntS, h1, List.length_append, List.length_cons]
          · simp only [sumA, h1, sA_app, sA_cons, slotM]; omega
          · simp only [sumH, h1, sA_app, sA_cons, slotM]; omega
  | still => left; rfl

/-! ### Pairs -/
def placesF (s : Sta) : List (Nat × Nat) := ((List.range s.code.length).filter fun i => (s.code.getD i (0, 0, 0)).1 == 1).map (fun i => (0, i)) ++ (List.range s.mem.length).map (fun i => (1, i)) ++ (List.range s.stack.length).map (fun i => (2, i))
def halfM (p : Nat × Nat) (b : Nat) : List (Mv × Mv) := let m := Mv.num p.1 p.2 (.half b); [(m, m), (m, .still), (.still, m)]
def numM (p : Nat × Nat) : List (Mv × Mv) := halfM p 0 ++ halfM p 1
def botM (b : Int) (p : Nat × Nat) : Mv × Mv := (.num p.1 p.2 (.bot b), .num p.1 p.2 (.bot b))
def movesL (b : Int) (s t : Sta) : List (Mv × Mv) :=
  (List.range s.code.length).map (fun i => (.without i, .without i)) ++ (List.range s.code.length).map (fun i => (.idle i, .idle i)) ++ [(.less, .less), (.silent, .silent)] ++
  (List.range (max s.stack.length t.stack.length)).map (fun i => (.pull i, .pull i)) ++ (placesF s).flatMap numM ++ (placesF s).map (botM b)
def likeT (s t : Sta) (m : Mv × Mv) : Bool := likeS (mvF m.1 s) s && likeS (mvF m.2 t) t
def mkT (s t : Sta) (m : Mv × Mv) : Sta × Sta := (mvF m.1 s, mvF m.2 t)
def allOf (s t : Sta) (l : List (Mv × Mv)) : List (Sta × Sta) := (l.filter fun m => !likeT s t m).map (mkT s t)
def allF (b : Int) (s t : Sta) : List (Sta × Sta) := allOf s t (movesL b s t)
theorem placesF_le {s : Sta} {p : Nat × Nat} (h : p ∈ placesF s) : p.1 ≤ 2 := by
  simp only [placesF, List.mem_append, List.mem_map] at h
  rcases h with (⟨i, _, rfl⟩ | ⟨i, _, rfl⟩) | ⟨i, _, rfl⟩ <;> simp
theorem movesL_ok {us : List Nat} {b : Int} (hb : Bot us b) {s t : Sta} {m : Mv × Mv} (h : m ∈ movesL b s t) : MvOk us m.1 ∧ MvOk us m.2 := by
  simp only [movesL, List.mem_append, List.mem_map, List.mem_cons, List.mem_flatMap, List.not_mem_nil, or_false] at h
  rcases h with ((((⟨i, _, rfl⟩ | ⟨i, _, rfl⟩) | rfl | rfl) | ⟨i, _, rfl⟩) | ⟨p, _, h⟩) | ⟨p, _, rfl⟩
  · exact ⟨trivial, trivial⟩
  · exact ⟨trivial, trivial⟩
  · exact ⟨trivial, trivial⟩
  · exact ⟨trivial, trivial⟩
  · exact ⟨trivial, trivial⟩
  · rename_i hp
    have hk := placesF_le hp
    simp only [numM, halfM, List.mem_append, List.mem_cons, List.not_mem_nil, or_false] at h
    have h0 : ∀ b, b < 2 → MvOk us (.num p.1 p.2 (.half b)) := fun b hb => ⟨hk, hb⟩
    rcases h with (rfl | rfl | rfl) | (rfl | rfl | rfl) <;> exact ⟨by first | trivial | exact h0 _ (by omega), by first | trivial | exact h0 _ (by omega)⟩
  · rename_i hp
    exact ⟨⟨placesF_le hp, hb⟩, ⟨placesF_le hp, hb⟩⟩
def addT (a b : Int × Int × Int) : Int × Int × Int := (a.1 + b.1, a.2.1 + b.2.1, a.2.2 + b.2.2)
def siz2 (us : List Nat) (y : Sta × Sta) : Int × Int × Int := addT (sizeZ us (0, 0, 0) y.1) (sizeZ us (0, 0, 0) y.2)
theorem allF_less {ns : List ByteArray} {us : List Nat} (hc : checkF ns us = 0) {b : Int} (hb : Bot us b) {s t : Sta} (hs : staB us.length s = true) (ht : staB us.length t = true) {y : Sta × Sta} (hy : y ∈ allF b s t) :
    staB us.length y.1 = true ∧ staB us.length y.2 = true ∧ lexB (siz2 us y) (siz2 us (s, t)) = true ∧ lexB (siz2 us (s, t)) (siz2 us y) = false := by
  have ho := (ord_check hc).1
  obtain ⟨m, hm, rfl⟩ := List.mem_map.1 hy
  obtain ⟨hm, hl⟩ := List.mem_filter.1 hm
  obtain ⟨k1, k2⟩ := movesL_ok hb hm
  have b1 := mv_B k1 hs
  have b2 := mv_B k2 ht
  refine ⟨b1, b2, ?_⟩
  have c1 := mv_less ho k1 hs
  have c2 := mv_less ho k2 ht
  have hne : ¬ (mvF m.1 s = s ∧ mvF m.2 t = t) := fun ⟨h1, h2⟩ => by
    simp [likeT, likeS_iff.2 h1, likeS_iff.2 h2] at hl
  simp only [siz2, mkT, sizeZ_parts (sta_num b1), sizeZ_parts (sta_num b2), sizeZ_parts (sta_num hs), sizeZ_parts (sta_num ht), addT]
  have key : ∀ x y : Int × Int × Int, (x.1 < y.1 ∨ (x.1 = y.1 ∧ (x.2.1 < y.2.1 ∨ (x.2.1 = y.2.1 ∧ x.2.2 < y.2.2)))) → lexB x y = true ∧ lexB y x = false := by
    intro x y h
    unfold lexB
    rcases h with h | ⟨h1, h | ⟨h2, h⟩⟩
    · rw [if_neg (by omega), if_neg (by omega)]; simp; omega
    · rw [if_pos h1, if_neg (by omega), if_pos h1.symm, if_neg (by omega)]; simp; omega
    · rw [if_pos h1, if_pos h2, if_pos h1.symm, if_pos h2.symm]; simp; omega
  refine key _ _ ?_
  simp only
  rcases c1 with c1 | c1 <;> rcases c2 with c2 | c2
  · exact absurd ⟨c1, c2⟩ hne
  · rw [c1]; unfold Sm at c2; omega
  · rw [c2]; unfold Sm at c1; omega
  · unfold Sm at c1 c2; omega
end Go.Proofs.Ytabliglgeiajlaa.AM

/- What moves do: functions that make a state of one. -/
namespace Go.Proofs.Ytabliglgeiajlaa.AM
open Go Go.RowKit Go.Proofs
set_option maxRecDepth 100000
set_option maxHeartbeats 4000000

theorem Fn.post {P : Program} {f : Nat} {args : List D} {ext : List Slot} {res res' : D} {out : List Slot} (h : Fn P f args ext res out) (hle : Rle res res') : Fn P f args ext res' out where
  enter := h.enter
  spec := fun N0 ρ w vs hp hs hr => (h.spec N0 ρ w vs hp hs hr).mono fun e w' he => by
    obtain ⟨v, ρ', h1, h2, h3⟩ := he
    exact ⟨v, ρ', h1, h2, hle _ _ _ _ _ h3⟩
theorem mvBefore_fn (i : Nat) (n : Int) (h0 : -20 ≤ n) (h1 : n ≤ 20) : Fn Try.prog 284 [.v (.int .i64 n), .fad [.v (.int .i64 (i : Int))]] [] (.v (.int .i64 (befI i n))) [] := by
  have w : IntKind.i64.wrap (n - 1) = n - 1 := wrapI (by omega) (by omega)
  unfold befI
  by_cases h : (i : Int) < n
  · rw [if_pos h]
    refine Fn.of (fn := Try.f284) (by kernel_rfl) rfl (by kernel_rfl) ⟨[.v (.int .i64 n), .fad [.v (.int .i64 (i : Int))], .v undef, .v undef, .v undef, .v undef, .v undef, .v undef, .v undef, .v undef], []⟩ rfl ?_
    repeat' first | (with_reducible first | refine AWP_seq' ?_ | refine k_normal ?_ | refine k_ret ?_ | refine k_exit ?_ | refine b_normal ?_ | refine b_ret ?_ | refine b_exit ?_ | refine b_pass rfl ?_ | refine AWP_ret ?_ | refine AWP_skip ?_ | refine AWP_exit ?_ | refine AWP_block ?_) | ((with_reducible refine And.intro ?_ ?_); · exact Sq) | ((first | with_reducible refine AWP_reg fun KC J hJ hKC => ?_ | with_reducible refine AWP_regD rfl fun KC J hJ hKC => ?_); simp (maxSteps := 10000000) only [push_cast, seval, ↓reduceIte, w, h, gt_iff_lt]) | ((first | with_reducible refine hJ _ _ ?_ | (with_reducible refine hJ _ _ ?_ ?_; · kernel_rfl)); clear hJ hKC KC J) | ((with_reducible refine AWP_condT ?_ ?_); · rfl) | ((with_reducible refine AWP_condF ?_ ?_); · rfl) | ((with_reducible refine ite_intro (fun hs => ?_) (fun hs => ?_)) <;> (try simp only [Bool.not_eq_true, Bool.not_eq_false, Bool.not_eq_true', Bool.not_eq_false', Decidable.not_not, decide_eq_true_eq, decide_eq_false_iff_not] at hs) <;> (try simp (maxSteps := 10000000) only [push_cast, seval, ↓reduceIte, hs, w, h, gt_iff_lt])) | (refine AWP_cond rfl (fun h => ?_) (fun h => ?_) <;> try simp only [decide_eq_true_eq, decide_eq_false_iff_not, Bool.not_eq_true', Bool.not_eq_false', beq_iff_eq, bne_iff_ne, ne_eq, Bool.not_eq_true, Bool.or_eq_true, Bool.and_eq_true, Bool.or_eq_false_iff, Bool.and_eq_false_imp, beq_eq_false_iff_ne, bne_eq_false_iff_eq] at h)
    refine ret_plain ?_
    simp (maxSteps := 10000000) only [push_cast, seval, ↓reduceIte, show Try.f284.results = #[(.tmp 3)] from rfl]
    exact Lq
  · rw [if_neg h]
    refine Fn.of (fn := Try.f284) (by kernel_rfl) rfl (by kernel_rfl) ⟨[.v (.int .i64 n), .fad [.v (.int .i64 (i : Int))], .v undef, .v undef, .v undef, .v undef, .v undef, .v undef, .v undef, .v undef], []⟩ rfl ?_
    repeat' first | (with_reducible first | refine AWP_seq' ?_ | refine k_normal ?_ | refine k_ret ?_ | refine k_exit ?_ | refine b_normal ?_ | refine b_ret ?_ | refine b_exit ?_ | refine b_pass rfl ?_ | refine AWP_ret ?_ | refine AWP_skip ?_ | refine AWP_exit ?_ | refine AWP_block ?_) | ((with_reducible refine And.intro ?_ ?_); · exact Sq) | ((first | with_reducible refine AWP_reg fun KC J hJ hKC => ?_ | with_reducible refine AWP_regD rfl fun KC J hJ hKC => ?_); simp (maxSteps := 10000000) only [push_cast, seval, ↓reduceIte, w, h, gt_iff_lt]) | ((first | with_reducible refine hJ _ _ ?_ | (with_reducible refine hJ _ _ ?_ ?_; · kernel_rfl)); clear hJ hKC KC J) | ((with_reducible refine AWP_condT ?_ ?_); · rfl) | ((with_reducible refine AWP_condF ?_ ?_); · rfl) | ((with_reducible refine ite_intro (fun hs => ?_) (fun hs => ?_)) <;> (try simp only [Bool.not_eq_true, Bool.not_eq_false, Bool.not_eq_true', Bool.not_eq_false', Decidable.not_not, decide_eq_true_eq, decide_eq_false_iff_not] at hs) <;> (try simp (maxSteps := 10000000) only [push_cast, seval, ↓reduceIte, hs, w, h, gt_iff_lt])) | (refine AWP_cond rfl (fun h => ?_) (fun h => ?_) <;> try simp only [decide_eq_true_eq, decide_eq_false_iff_not, Bool.not_eq_true', Bool.not_eq_false', beq_iff_eq, bne_iff_ne, ne_eq, Bool.not_eq_true, Bool.or_eq_true, Bool.and_eq_true, Bool.or_eq_false_iff, Bool.and_eq_false_imp, beq_eq_false_iff_ne, bne_eq_false_iff_eq] at h)
    refine ret_plain ?_
    simp (maxSteps := 10000000) only [push_cast, seval, ↓reduceIte, show Try.f284.results = #[(.tmp 3)] from rfl]
    exact Lq
def doN : Do → Nat
  | .half _ => 264
  | .bot _ => 266
def doV : Do → Int
  | .half b => (b : Int)
  | .bot b => b
theorem do_fn {us : List Nat} {d : Do} (hd : DoOk us d) (v l : Int) (h0 : -20 ≤ v) (h1 : v ≤ 20) : Fn Try.prog (doN d) [.v (.int .i64 v), .v (.int .i64 l), .fad [.v (.int .i64 (doV d))]] [] (.tup [.v (.int .i64 (doF d (v, l)).1), .v (.int .i64 (doF d (v, l)).2)]) [] := by
  cases d with
  | half b =>
    have h2 := tdiv2 v
    have hh := halfI (n := v) hd
    have hb : -20 ≤ v.tdiv 2 ∧ v.tdiv 2 ≤ 20 := by rcases Int.le_total 0 v with h | h <;> omega
    have w1 : IntKind.i64.wrap (v.tdiv 2) = v.tdiv 2 := wrapI (by omega) (by omega)
    have w2 : IntKind.i64.wrap (v.tdiv 2 * (b : Int)) = v.tdiv 2 * (b : Int) := wrapI (by omega) (by omega)
    show Fn Try.prog 264 [.v (.int .i64 v), .v (.int .i64 l), .fad [.v (.int .i64 (b : Int))]] [] (.tup [.v (.int .i64 (v.tdiv 2 * (b : Int))), .v (.int .i64 l)]) []
    refine Fn.of (fn := Try.f264) (by kernel_rfl) rfl (by kernel_rfl) ⟨[.v (.int .i64 v), .v (.int .i64 l), .fad [.v (.int .i64 (b : Int))], .v undef, .v undef, .v undef, .v undef, .v undef, .v undef, .v undef, .v undef, .v undef], []⟩ rfl ?_
    repeat' first | (with_reducible first | refine AWP_seq' ?_ | refine k_normal ?_ | refine k_ret ?_ | refine k_exit ?_ | refine b_normal ?_ | refine b_ret ?_ | refine b_exit ?_ | refine b_pass rfl ?_ | refine AWP_ret ?_ | refine AWP_skip ?_ | refine AWP_exit ?_ | refine AWP_block ?_) | ((with_reducible refine And.intro ?_ ?_); · exact Sq) | ((first | with_reducible refine AWP_reg fun KC J hJ hKC => ?_ | with_reducible refine AWP_regD rfl fun KC J hJ hKC => ?_); simp (maxSteps := 10000000) only [push_cast, seval, ↓reduceIte, w1, w2]) | ((first | with_reducible refine hJ _ _ ?_ | (with_reducible refine hJ _ _ ?_ ?_; · kernel_rfl)); clear hJ hKC KC J) | ((with_reducible refine AWP_condT ?_ ?_); · rfl) | ((with_reducible refine AWP_condF ?_ ?_); · rfl) | ((with_reducible refine ite_intro (fun hs => ?_) (fun hs => ?_)) <;> (try simp only [Bool.not_eq_true, Bool.not_eq_false, Bool.not_eq_true', Bool.not_eq_false', Decidable.not_not, decide_eq_true_eq, decide_eq_false_iff_not] at hs) <;> (try simp (maxSteps := 10000000) only [push_cast, seval, ↓reduceIte, hs, w1, w2])) | (refine AWP_cond rfl (fun h => ?_) (fun h => ?_) <;> try simp only [decide_eq_true_eq, decide_eq_false_iff_not, Bool.not_eq_true', Bool.not_eq_false', beq_iff_eq, bne_iff_ne, ne_eq, Bool.not_eq_true, Bool.or_eq_true, Bool.and_eq_true, Bool.or_eq_false_iff, Bool.and_eq_false_imp, beq_eq_false_iff_ne, bne_eq_false_iff_eq] at h)
    refine ret_plain ?_
    simp (maxSteps := 10000000) only [push_cast, seval, ↓reduceIte, show Try.f264.results = #[(.tmp 5), (.tmp 6)] from rfl]
    exact Lq
  | bot b =>
    show Fn Try.prog 266 [.v (.int .i64 v), .v (.int .i64 l), .fad [.v (.int .i64 b)]] [] (.tup [.v (.int .i64 v), .v (.int .i64 b)]) []
    refine Fn.of (fn := Try.f266) (by kernel_rfl) rfl (by kernel_rfl) ⟨[.v (.int .i64 v), .v (.int .i64 l), .fad [.v (.int .i64 b)], .v undef, .v undef, .v undef, .v undef, .v undef, .v undef], []⟩ rfl ?_
    repeat' first | (with_reducible first | refine AWP_seq' ?_ | refine k_normal ?_ | refine k_ret ?_ | refine k_exit ?_ | refine b_normal ?_ | refine b_ret ?_ | refine b_exit ?_ | refine b_pass rfl ?_ | refine AWP_ret ?_ | refine AWP_skip ?_ | refine AWP_exit ?_ | refine AWP_block ?_) | ((with_reducible refine And.intro ?_ ?_); · exact Sq) | ((first | with_reducible refine AWP_reg fun KC J hJ hKC => ?_ | with_reducible refine AWP_regD rfl fun KC J hJ hKC => ?_); simp (maxSteps := 10000000) only [push_cast, seval, ↓reduceIte]) | ((first | with_reducible refine hJ _ _ ?_ | (with_reducible refine hJ _ _ ?_ ?_; · kernel_rfl)); clear hJ hKC KC J) | ((with_reducible refine AWP_condT ?_ ?_); · rfl) | ((with_reducible refine AWP_condF ?_ ?_); · rfl) | ((with_reducible refine ite_intro (fun hs => ?_) (fun hs => ?_)) <;> (try simp only [Bool.not_eq_true, Bool.not_eq_false, Bool.not_eq_true', Bool.not_eq_false', Decidable.not_not, decide_eq_true_eq, decide_eq_false_iff_not] at hs) <;> (try simp (maxSteps := 10000000) only [push_cast, seval, ↓reduceIte, hs])) | (refine AWP_cond rfl (fun h => ?_) (fun h => ?_) <;> try simp only [decide_eq_true_eq, decide_eq_false_iff_not, Bool.not_eq_true', Bool.not_eq_false', beq_iff_eq, bne_iff_ne, ne_eq, Bool.not_eq_true, Bool.or_eq_true, Bool.and_eq_true, Bool.or_eq_false_iff, Bool.and_eq_false_imp, beq_eq_false_iff_ne, bne_eq_false_iff_eq] at h)
    refine ret_plain ?_
    simp (maxSteps := 10000000) only [push_cast, seval, ↓reduceIte, show Try.f266.results = #[(.tmp 5), (.tmp 6)] from rfl]
    exact Lq
theorem sCells_dropR (l : List (Bool × Int × Int)) (n : Nat) : (sCells l).drop (n * 3) = sCells (l.drop n) := by
  induction n generalizing l with
  | zero => simp
  | succ n ih =>
    cases l with
    | nil => simp [sCells, sRow]
    | cons a l =>
      rw [List.drop_succ_cons, ← ih l, show (n + 1) * 3 = n * 3 + 3 by omega]
      simp [sCells, sRow]
theorem sCells_takeR (l : List (Bool × Int × Int)) (n : Nat) : (sCells l).take (n * 3) = sCells (l.take n) := by
  induction n generalizing l with
  | zero => simp [sCells, sRow]
  | succ n ih =>
    cases l with
    | nil => simp [sCells, sRow]
    | cons a l =>
      rw [List.take_succ_cons, show (n + 1) * 3 = n * 3 + 3 by omega]
      have := ih l
      simp only [sCells, sRow, List.map_cons, List.flatten_cons, List.cons_append, List.nil_append] at this ⊢
      rw [← this]; rfl
theorem sCells_at {l : List (Bool × Int × Int)} {n : Nat} {x : Bool × Int × Int} (h : l[n]? = some x) : ((sCells l).drop (n * 3)).take 3 = [.v (.bool x.1), .v (.int .i64 x.2.1), .v (.int .i64 x.2.2)] := by
  obtain ⟨hn, rfl⟩ := List.getElem?_eq_some_iff.1 h
  rw [sCells_dropR, List.drop_eq_getElem_cons hn]
  rfl
theorem sCells_set (l : List (Bool × Int × Int)) {a : Nat} (x : Bool × Int × Int) (h : a < l.length) : sCells (l.set a x) = (sCells l).take (a * 3) ++ [.v (.bool x.1), .v (.int .i64 x.2.1), .v (.int .i64 x.2.2)] ++ (sCells l).drop (a * 3 + 3) := by
  rw [List.set_eq_take_append_cons_drop, if_pos h, sCells_app, sCells_takeR]
  have h2 : a * 3 + 3 = (a + 1) * 3 := by omega
  rw [h2, sCells_dropR]
  simp [sCells, sRow]
/-- An own row of instructions, of which one is deleted. -/
theorem delT_fn (l : List (Int × Int × Int)) (n i j : Nat) (hn : l.length = n) (hi : i < n) (hj : j = i + 1) (hb : n ≤ 1000000) :
    Fn Try.prog 285 [.ref 0 0 n, .v (.int .i64 (i : Int)), .v (.int .i64 (j : Int))] [.ent ⟨0, some 3, 172, tCells l, .cells⟩] (.ref 0 0 (i + (n - j))) [.ent ⟨0, some 3, 172, tCells (l.take i ++ l.drop j), .cells⟩] := by
  have hne : ((i : Int) == (j : Int)) = false := by simp; omega
  have hlC : (tCells l).length = n * 3 := by rw [tCells_length, hn]
  refine Fn.of (fn := Try.f285) (by kernel_rfl) rfl (by kernel_rfl) ⟨[.ref 0 0 n, .v (.int .i64 (i : Int)), .v (.int .i64 (j : Int)), .v undef, .v undef, .v undef, .v undef, .v undef, .v undef, .v undef, .v undef, .v undef, .v undef, .v undef, .v undef, .v undef, .v undef, .v undef, .v undef, .v undef, .v undef, .v undef, .v undef, .v undef, .v undef, .v undef, .v undef, .v undef, .v undef, .v undef, .v undef, .v undef, .v undef], [.ent ⟨0, some 3, 172, tCells l, .cells⟩]⟩ rfl ?_
  obtain ⟨k, hk⟩ : ∃ k, i + (n - j) = k := ⟨_, rfl⟩
  obtain ⟨m, hm⟩ : ∃ m, n - j = m := ⟨_, rfl⟩
  rw [hm] at hk
  have hs1 : (((tCells l).drop (j * 3)).take (m * 3)) = tCells (l.drop j) := by
    rw [tCells_dropR, tCells_takeR, List.take_of_length_le (by simp; omega)]
  have hs1l : (tCells (l.drop j)).length = m * 3 := by rw [tCells_length, List.length_drop, hn, hm]
  have hs2 : (tCells l).take (i * 3) = tCells (l.take i) := tCells_takeR l i
  have hs3 : (tCells (l.take i)).length = i * 3 := by rw [tCells_length, List.length_take, hn]; omega
  have hs4 : ((tCells l).drop (i * 3 + m * 3)).length = n * 3 - (i * 3 + m * 3) := by rw [List.length_drop, hlC]
  have hs5 : (tCells (l.take i) ++ tCells (l.drop j) ++ (tCells l).drop (i * 3 + m * 3)).take (k * 3) = tCells (l.take i ++ l.drop j) := by
    rw [tCells_app]
    exact List.take_left' (by rw [List.length_append, hs3, hs1l]; omega)
  repeat' first | (with_reducible first | refine AWP_seq' ?_ | refine k_normal ?_ | refine k_ret ?_ | refine k_exit ?_ | refine b_normal ?_ | refine b_ret ?_ | refine b_exit ?_ | refine b_pass rfl ?_ | refine AWP_skip ?_ | refine AWP_exit ?_ | refine AWP_block ?_) | ((with_reducible refine And.intro ?_ ?_); · exact Sq) | ((first | with_reducible refine AWP_reg fun KC J hJ hKC => ?_ | with_reducible refine AWP_regD rfl fun KC J hJ hKC => ?_); simp (maxSteps := 10000000) only [push_cast, seval, ↓reduceIte, hne, hlC, hs1, hs1l, hs2, hm, hk, hs3, hs4, hs5]) | ((first | with_reducible refine hJ _ _ ?_ | (with_reducible refine hJ _ _ ?_ ?_; · kernel_rfl)); clear hJ hKC KC J) | ((with_reducible refine AWP_condT ?_ ?_); · rfl) | ((with_reducible refine AWP_condF ?_ ?_); · rfl) | ((with_reducible refine ite_intro (fun hs => ?_) (fun hs => ?_)) <;> (try simp only [Bool.not_eq_true, Bool.not_eq_false, Bool.not_eq_true', Bool.not_eq_false', Decidable.not_not, decide_eq_true_eq, decide_eq_false_iff_not] at hs) <;> (try simp (maxSteps := 10000000) only [push_cast, seval, ↓reduceIte, hs, hne, hlC, hs1, hs1l, hs2, hm, hk, hs3, hs4, hs5])) | (refine AWP_cond rfl (fun h => ?_) (fun h => ?_) <;> try simp only [decide_eq_true_eq, decide_eq_false_iff_not, Bool.not_eq_true', Bool.not_eq_false', beq_iff_eq, bne_iff_ne, ne_eq, Bool.not_eq_true, Bool.or_eq_true, Bool.and_eq_true, Bool.or_eq_false_iff, Bool.and_eq_false_imp, beq_eq_false_iff_ne, bne_eq_false_iff_eq] at h)
  refine AWP_ret ?_
  refine ret_keys ?_
  simp (maxSteps := 10000000) only [push_cast, seval, ↓reduceIte, show Try.f285.results = #[(.tmp 6)] from rfl]
  exact ⟨(by show List.map _ [0] = _; simp only [List.map_cons, List.map_nil, getS, renSlot, ren_tCells]), leD_eq (by rw [← hk, ← hm]; rfl)⟩
/-- The same, of slots; the row is frozen then. -/
theorem delS_fn (l : List (Bool × Int × Int)) (n i j : Nat) (hn : l.length = n) (hi : i < n) (hj : j = i + 1) (hb : n ≤ 1000000) :
    Fn Try.prog 289 [.ref 0 0 n, .v (.int .i64 (i : Int)), .v (.int .i64 (j : Int))] [.ent ⟨0, some 3, 113, sCells l, .cells⟩] (.sl false 3 (sRow (l.take i ++ l.drop j))) [.dead] := by
  have hne : ((i : Int) == (j : Int)) = false := by simp; omega
  have hlC : (sCells l).length = n * 3 := by rw [sCells_length, hn]
  refine Fn.of (fn := Try.f289) (by kernel_rfl) rfl (by kernel_rfl) ⟨[.ref 0 0 n, .v (.int .i64 (i : Int)), .v (.int .i64 (j : Int)), .v undef, .v undef, .v undef, .v undef, .v undef, .v undef, .v undef, .v undef, .v undef, .v undef, .v undef, .v undef, .v undef, .v undef, .v undef, .v undef, .v undef, .v undef, .v undef, .v undef, .v undef, .v undef, .v undef, .v undef, .v undef, .v undef, .v undef, .v undef, .v undef, .v undef], [.ent ⟨0, some 3, 113, sCells l, .cells⟩]⟩ rfl ?_
  obtain ⟨k, hk⟩ : ∃ k, i + (n - j) = k := ⟨_, rfl⟩
  obtain ⟨m, hm⟩ : ∃ m, n - j = m := ⟨_, rfl⟩
  rw [hm] at hk
  have hs1 : (((sCells l).drop (j * 3)).take (m * 3)) = sCells (l.drop j) := by
    rw [sCells_dropR, sCells_takeR, List.take_of_length_le (by simp; omega)]
  have hs1l : (sCells (l.drop j)).length = m * 3 := by rw [sCells_length, List.length_drop, hn, hm]
  have hs2 : (sCells l).take (i * 3) = sCells (l.take i) := sCells_takeR l i
  have hbm : Nat.beq 0 0 = true := rfl
  have hs3 : (sCells (l.take i)).length = i * 3 := by rw [sCells_length, List.length_take, hn]; omega
  have hs4 : ((sCells l).drop (i * 3 + m * 3)).length = n * 3 - (i * 3 + m * 3) := by rw [List.length_drop, hlC]
  have hs5 : (sCells (l.take i) ++ sCells (l.drop j) ++ (sCells l).drop (i * 3 + m * 3)).take (k * 3) = sCells (l.take i ++ l.drop j) := by
    rw [sCells_app]
    exact List.take_left' (by rw [List.length_append, hs3, hs1l]; omega)
  have hLl : (l.take i ++ l.drop j).length = k := by simp; omega
  obtain ⟨L, hL⟩ : ∃ L, l.take i ++ l.drop j = L := ⟨_, rfl⟩
  rw [hL] at hs5 hLl
  have hLC : (sCells L).length = k * 3 := by rw [sCells_length, hLl]
  have hLr : chunk 3 k (sCells L) = sRow L := by rw [← hLl]; exact chunk_s L
  rw [hL]
  repeat' first | (with_reducible first | refine AWP_seq' ?_ | refine k_normal ?_ | refine k_ret ?_ | refine k_exit ?_ | refine b_normal ?_ | refine b_ret ?_ | refine b_exit ?_ | refine b_pass rfl ?_ | refine AWP_skip ?_ | refine AWP_exit ?_ | refine AWP_block ?_) | ((with_reducible refine And.intro ?_ ?_); · exact Sq) | ((first | with_reducible refine AWP_reg fun KC J hJ hKC => ?_ | with_reducible refine AWP_regD rfl fun KC J hJ hKC => ?_); simp (maxSteps := 10000000) only [push_cast, seval, ↓reduceIte, hne, hlC, hs1, hs1l, hs2, hm, hk, hs3, hs4, hs5]) | ((first | with_reducible refine hJ _ _ ?_ | (with_reducible refine hJ _ _ ?_ ?_; · kernel_rfl)); clear hJ hKC KC J) | ((with_reducible refine AWP_condT ?_ ?_); · rfl) | ((with_reducible refine AWP_condF ?_ ?_); · rfl) | ((with_reducible refine ite_intro (fun hs => ?_) (fun hs => ?_)) <;> (try simp only [Bool.not_eq_true, Bool.not_eq_false, Bool.not_eq_true', Bool.not_eq_false', Decidable.not_not, decide_eq_true_eq, decide_eq_false_iff_not] at hs) <;> (try simp (maxSteps := 10000000) only [push_cast, seval, ↓reduceIte, hs, hne, hlC, hs1, hs1l, hs2, hm, hk, hs3, hs4, hs5])) | (refine AWP_cond rfl (fun h => ?_) (fun h => ?_) <;> try simp only [decide_eq_true_eq, decide_eq_false_iff_not, Bool.not_eq_true', Bool.not_eq_false', beq_iff_eq, bne_iff_ne, ne_eq, Bool.not_eq_true, Bool.or_eq_true, Bool.and_eq_true, Bool.or_eq_false_iff, Bool.and_eq_false_imp, beq_eq_false_iff_ne, bne_eq_false_iff_eq] at h)
  refine AWP_freeze 0 rfl (by simp (maxSteps := 10000000) only [push_cast, seval, ↓reduceIte]) ?_
  simp (maxSteps := 10000000) only [push_cast, seval, ↓reduceIte, frSt, frSlot, fr3, fr2, fr1, fr0, sameB, arrOf, hbm, hLC, hLr]
  refine AWP_ret ?_
  refine ret_keys ?_
  simp (maxSteps := 10000000) only [push_cast, seval, ↓reduceIte, show Try.f289.results = #[(.tmp 6)] from rfl]
  exact ⟨rfl, leD_refl _⟩
theorem mvStill_fn (s : Sta) : Fn Try.prog 265 [.agg (staF false false false false s)] [] (.agg (staF false false false false s)) [] := by
  simp only [staF]
  refine Fn.of (fn := Try.f265) (by kernel_rfl) rfl (by kernel_rfl) ⟨[.agg [.v (.int .i64 s.v), .v (.int .i64 s.l), .sl false 3 (tRow s.code), .sl false 2 (pRow s.mem), .sl false 3 (sRow s.stack), .sl false 2 (pRow s.out)], .v undef, .v undef, .v undef], []⟩ rfl ?_
  repeat' first | (with_reducible first | refine AWP_seq' ?_ | refine k_normal ?_ | refine k_ret ?_ | refine k_exit ?_ | refine b_normal ?_ | refine b_ret ?_ | refine b_exit ?_ | refine b_pass rfl ?_ | refine AWP_ret ?_ | refine AWP_skip ?_ | refine AWP_exit ?_ | refine AWP_block ?_) | ((with_reducible refine And.intro ?_ ?_); · exact Sq) | ((first | with_reducible refine AWP_reg fun KC J hJ hKC => ?_ | with_reducible refine AWP_regD rfl fun KC J hJ hKC => ?_); simp (maxSteps := 10000000) only [push_cast, seval, ↓reduceIte]) | ((first | with_reducible refine hJ _ _ ?_ | (with_reducible refine hJ _ _ ?_ ?_; · kernel_rfl)); clear hJ hKC KC J) | ((with_reducible refine AWP_condT ?_ ?_); · rfl) | ((with_reducible refine AWP_condF ?_ ?_); · rfl) | ((with_reducible refine ite_intro (fun hs => ?_) (fun hs => ?_)) <;> (try simp only [Bool.not_eq_true, Bool.not_eq_false, Bool.not_eq_true', Bool.not_eq_false', Decidable.not_not, decide_eq_true_eq, decide_eq_false_iff_not] at hs) <;> (try simp (maxSteps := 10000000) only [push_cast, seval, ↓reduceIte, hs])) | (refine AWP_cond rfl (fun h => ?_) (fun h => ?_) <;> try simp only [decide_eq_true_eq, decide_eq_false_iff_not, Bool.not_eq_true', Bool.not_eq_false', beq_iff_eq, bne_iff_ne, ne_eq, Bool.not_eq_true, Bool.or_eq_true, Bool.and_eq_true, Bool.or_eq_false_iff, Bool.and_eq_false_imp, beq_eq_false_iff_ne, bne_eq_false_iff_eq] at h)
  refine ret_plain ?_
  simp (maxSteps := 10000000) only [push_cast, seval, ↓reduceIte, show Try.f265.results = #[(.cell 2 84)] from rfl]
  exact Lq
theorem mvSilent_fn (s : Sta) : Fn Try.prog 260 [.agg (staF false false false false s)] [] (.agg (staF false false false false (mvF .silent s))) [] := by
  simp only [staF, mvF, show pRow [] = [] from rfl]
  refine Fn.of (fn := Try.f260) (by kernel_rfl) rfl (by kernel_rfl) ⟨[.agg [.v (.int .i64 s.v), .v (.int .i64 s.l), .sl false 3 (tRow s.code), .sl false 2 (pRow s.mem), .sl false 3 (sRow s.stack), .sl false 2 (pRow s.out)], .v undef, .v undef, .v undef, .v undef], []⟩ rfl ?_
  repeat' first | (with_reducible first | refine AWP_seq' ?_ | refine k_normal ?_ | refine k_ret ?_ | refine k_exit ?_ | refine b_normal ?_ | refine b_ret ?_ | refine b_exit ?_ | refine b_pass rfl ?_ | refine AWP_ret ?_ | refine AWP_skip ?_ | refine AWP_exit ?_ | refine AWP_block ?_) | ((with_reducible refine And.intro ?_ ?_); · exact Sq) | ((first | with_reducible refine AWP_reg fun KC J hJ hKC => ?_ | with_reducible refine AWP_regD rfl fun KC J hJ hKC => ?_); simp (maxSteps := 10000000) only [push_cast, seval, ↓reduceIte]) | ((first | with_reducible refine hJ _ _ ?_ | (with_reducible refine hJ _ _ ?_ ?_; · kernel_rfl)); clear hJ hKC KC J) | ((with_reducible refine AWP_condT ?_ ?_); · rfl) | ((with_reducible refine AWP_condF ?_ ?_); · rfl) | ((with_reducible refine ite_intro (fun hs => ?_) (fun hs => ?_)) <;> (try simp only [Bool.not_eq_true, Bool.not_eq_false, Bool.not_eq_true', Bool.not_eq_false', Decidable.not_not, decide_eq_true_eq, decide_eq_false_iff_not] at hs) <;> (try simp (maxSteps := 10000000) only [push_cast, seval, ↓reduceIte, hs])) | (refine AWP_cond rfl (fun h => ?_) (fun h => ?_) <;> try simp only [decide_eq_true_eq, decide_eq_false_iff_not, Bool.not_eq_true', Bool.not_eq_false', beq_iff_eq, bne_iff_ne, ne_eq, Bool.not_eq_true, Bool.or_eq_true, Bool.and_eq_true, Bool.or_eq_false_iff, Bool.and_eq_false_imp, beq_eq_false_iff_ne, bne_eq_false_iff_eq] at h)
  refine ret_plain ?_
  simp (maxSteps := 10000000) only [push_cast, seval, ↓reduceIte, show Try.f260.results = #[(.cell 2 84)] from rfl]
  exact Lq
theorem mvLess_fn0 (s : Sta) (h : s.mem.length ≤ 15) : Fn Try.prog 259 [.agg (staF false false false false s)] [] (.agg (staF false false false false (mvF .less s))) [] := by
  have w : IntKind.i64.wrap ((s.mem.length : Int) - 1) = (s.mem.length : Int) - 1 := wrapI (by omega) (by omega)
  obtain ⟨k, hk⟩ : ∃ k, s.mem.length - 1 = k := ⟨_, rfl⟩
  have hm : (if (0 : Int) > (s.mem.length : Int) - 1 then 0 else (s.mem.length : Int) - 1) = (k : Int) := by split <;> omega
  have hm2 : (if (s.mem.length : Int) - 1 < (0 : Int) then 0 else (s.mem.length : Int) - 1) = (k : Int) := by split <;> omega
  have hkl : k ≤ s.mem.length := by omega
  simp only [staF, mvF]
  rw [hk]
  refine Fn.of (fn := Try.f259) (by kernel_rfl) rfl (by kernel_rfl) ⟨[.agg [.v (.int .i64 s.v), .v (.int .i64 s.l), .sl false 3 (tRow s.code), .sl false 2 (pRow s.mem), .sl false 3 (sRow s.stack), .sl false 2 (pRow s.out)], .v undef, .v undef, .v undef, .v undef, .v undef, .v undef, .v undef, .v undef, .v undef, .v undef, .v undef, .v undef], []⟩ rfl ?_
  repeat' first | (with_reducible first | refine AWP_seq' ?_ | refine k_normal ?_ | refine k_ret ?_ | refine k_exit ?_ | refine b_normal ?_ | refine b_ret ?_ | refine b_exit ?_ | refine b_pass rfl ?_ | refine AWP_ret ?_ | refine AWP_skip ?_ | refine AWP_exit ?_ | refine AWP_block ?_) | ((with_reducible refine And.intro ?_ ?_); · exact Sq) | ((first | with_reducible refine AWP_reg fun KC J hJ hKC => ?_ | with_reducible refine AWP_regD rfl fun KC J hJ hKC => ?_); simp (maxSteps := 10000000) only [push_cast, seval, ↓reduceIte, w, hm, hm2, Int.toNat_natCast]) | ((first | with_reducible refine hJ _ _ ?_ | (with_reducible refine hJ _ _ ?_ ?_; · kernel_rfl)); clear hJ hKC KC J) | ((with_reducible refine AWP_condT ?_ ?_); · rfl) | ((with_reducible refine AWP_condF ?_ ?_); · rfl) | ((with_reducible refine ite_intro (fun hs => ?_) (fun hs => ?_)) <;> (try simp only [Bool.not_eq_true, Bool.not_eq_false, Bool.not_eq_true', Bool.not_eq_false', Decidable.not_not, decide_eq_true_eq, decide_eq_false_iff_not] at hs) <;> (try simp (maxSteps := 10000000) only [push_cast, seval, ↓reduceIte, hs, w, hm, hm2, Int.toNat_natCast])) | (refine AWP_cond rfl (fun h => ?_) (fun h => ?_) <;> try simp only [decide_eq_true_eq, decide_eq_false_iff_not, Bool.not_eq_true', Bool.not_eq_false', beq_iff_eq, bne_iff_ne, ne_eq, Bool.not_eq_true, Bool.or_eq_true, Bool.and_eq_true, Bool.or_eq_false_iff, Bool.and_eq_false_imp, beq_eq_false_iff_ne, bne_eq_false_iff_eq] at h)
  refine ret_plain ?_
  simp (maxSteps := 10000000) only [push_cast, seval, ↓reduceIte, show Try.f259.results = #[(.cell 2 84)] from rfl]
  exact Lq
end Go.Proofs.Ytabliglgeiajlaa.AM
