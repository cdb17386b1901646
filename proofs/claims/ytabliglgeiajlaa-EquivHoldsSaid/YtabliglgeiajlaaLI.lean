/- The labels of rows: Instr. -/
import Derived.Test.YtabliglgeiajlaaQ3
set_option linter.unusedSimpArgs false
set_option linter.unusedVariables false
namespace Go.Proofs.Ytabliglgeiajlaa.AM
open Go Go.RowKit Go.Proofs
set_option maxRecDepth 100000
set_option maxHeartbeats 1000000

/-- The labels of rows. -/
def labsI (rows : List (Bool × List (Int × Int × Int))) : List Int := (rows.flatMap (·.2)).map (·.2.2)
def rowsI (rows : List (Bool × List (Int × Int × Int))) : List (List D) := rows.map fun r => [.sl r.1 3 (tRow r.2)]
@[push_cast] theorem rowsI_length (l : List (Bool × List (Int × Int × Int))) : (rowsI l).length = l.length := by simp [rowsI]
theorem getE_rowsI {l : List (Bool × List (Int × Int × Int))} {n : Nat} {x : Bool × List (Int × Int × Int)} (h : l[n]? = some x) : getE (rowsI l) n = [.sl x.1 3 (tRow x.2)] := by unfold rowsI; exact getE_map _ _ _ _ h
abbrev fnsI : List D := [.fn 219 [], .fn 220 [], .fn 221 []]
theorem kindI_fn : Fn Try.prog 128 [] [] (.agg fnsI) [] := by
  refine Fn.of (fn := Try.f128) (by kernel_rfl) rfl (by kernel_rfl) ⟨[.v undef, .v undef], []⟩ rfl ?_
  repeat' first | (with_reducible first | refine AWP_seq' ?_ | refine k_normal ?_ | refine AWP_ret ?_) | ((with_reducible refine AWP_reg fun KC J hJ hKC => ?_); simp (maxSteps := 10000000) only [push_cast, seval, ↓reduceIte]) | ((with_reducible refine hJ _ _ ?_); clear hJ hKC KC J)
  refine ret_plain ?_
  simp (maxSteps := 10000000) only [push_cast, seval, ↓reduceIte, show Try.f128.results = #[(.cell 0 176)] from rfl]
  exact Lq
theorem labI_fn (x : Int × Int × Int) : Fn Try.prog 220 [.agg [.v (.int .i64 x.1), .v (.int .i64 x.2.1), .v (.int .i64 x.2.2)]] [] (.v (.int .i64 x.2.2)) [] := by
  refine Fn.of (fn := Try.f220) (by kernel_rfl) rfl (by kernel_rfl) ⟨[.agg [.v (.int .i64 x.1), .v (.int .i64 x.2.1), .v (.int .i64 x.2.2)], .v undef, .v undef, .v undef, .v undef], []⟩ rfl ?_
  repeat' first | (with_reducible first | refine AWP_seq' ?_ | refine k_normal ?_ | refine AWP_ret ?_) | ((with_reducible refine AWP_reg fun KC J hJ hKC => ?_); simp (maxSteps := 10000000) only [push_cast, seval, ↓reduceIte]) | ((with_reducible refine hJ _ _ ?_); clear hJ hKC KC J)
  refine ret_plain ?_
  simp (maxSteps := 10000000) only [push_cast, seval, ↓reduceIte, show Try.f220.results = #[(.tmp 2)] from rfl]
  exact leD_refl _
theorem labsI_take {rows : List (Bool × List (Int × Int × Int))} {i : Nat} {x : Bool × List (Int × Int × Int)} (h : rows[i]? = some x) : labsI (rows.take (i + 1)) = labsI (rows.take i) ++ x.2.map (·.2.2) := by
  obtain ⟨hi, rfl⟩ := List.getElem?_eq_some_iff.1 h
  unfold labsI
  rw [List.take_succ_eq_append_getElem hi, List.flatMap_append, List.map_append]
  simp only [List.flatMap_cons, List.flatMap_nil, List.append_nil]
theorem labsI_mem {rows : List (Bool × List (Int × Int × Int))} {i : Nat} {x : Bool × List (Int × Int × Int)} (h : rows[i]? = some x) (j : Nat) : (labsI (rows.take i) ++ (x.2.take j).map (·.2.2)).length ≤ (labsI rows).length := by
  have h1 : (labsI (rows.take (i + 1))).length ≤ (labsI rows).length := by
    have : labsI rows = labsI (rows.take (i + 1)) ++ labsI (rows.drop (i + 1)) := by
      rw [labsI, labsI, labsI, ← List.map_append, ← List.flatMap_append, List.take_append_drop]
    rw [this]; simp
  rw [labsI_take h] at h1
  simp at h1 ⊢
  omega
set_option maxHeartbeats 4000000 in
theorem labelsI_fn (f : Bool) (rows : List (Bool × List (Int × Int × Int))) (hb : (labsI rows).length ≤ 1000) (hr : rows.length ≤ 1000) (hrl : ∀ r ∈ rows, r.2.length ≤ 1000) :
    Fn Try.prog 156 [.agg fnsI, .sl f 1 (rowsI rows)] [] (lD (labsI rows)) (lOut (labsI rows)) := by
  refine Fn.of (fn := Try.f156) (by kernel_rfl) rfl (by kernel_rfl) ⟨[.agg fnsI, .sl f 1 (rowsI rows), .v undef, .v undef, .v undef, .v undef, .v undef, .v undef, .v undef, .v undef, .v undef, .v undef, .v undef, .v undef, .v undef, .v undef, .v undef, .v undef, .v undef, .v undef, .v undef, .v undef, .v undef, .v undef, .v undef, .v undef, .v undef, .v undef, .v undef, .v undef, .v undef, .v undef], []⟩ rfl ?_
  repeat' first | (with_reducible first | refine AWP_seq' ?_ | refine k_normal ?_ | refine AWP_block ?_) | ((with_reducible refine AWP_reg fun KC J hJ hKC => ?_); simp (maxSteps := 10000000) only [push_cast, seval, ↓reduceIte]) | ((with_reducible refine hJ _ _ ?_); clear hJ hKC KC J)
  refine AWP_loopE 1 (γ := {i : Nat // i ≤ rows.length}) (fun i => ⟨[.any, .any, .ptr 0 0 0, .any, .any, eL (labsI (rows.take i.1)), .any, .any, .any, .any, .sl f 1 (rowsI rows), .v (.int .i64 rows.length), .v (.int .i64 i.1), .any, .any, .any, .any, .any, .any, .any, .any, .any, .any, .any, .any, .any, .any, .any, .any, .any, .any, .any], lσ ⟨0, none, 176, fnsI, .cells⟩ (labsI (rows.take i.1))⟩) (fun i => rows.length - i.1) ⟨0, by omega⟩ rfl (fun i => lσ_one _ _) (fun i => lσ_clsd (fun m => rfl) _) (fun i => ?_) ⟨?_, ?_⟩ ?_
  · rcases lCase ⟨0, none, 176, fnsI, .cells⟩ (labsI (rows.take i.1)) with ⟨_, hD, hσ⟩ | ⟨j, _, hD, hσ⟩
    all_goals
      simp only [hD, hσ]
      rfl
  · simp only [List.take_zero, labsI, List.flatMap_nil, List.map_nil, eL]
    exact Lq
  · simp only [List.take_zero, labsI, List.flatMap_nil, List.map_nil, lσ]
    exact Fq
  rintro ⟨i, hi⟩
  by_cases hlt : (i : Int) < (rows.length : Int)
  · have hx : rows[i]? = some rows[i] := List.getElem?_eq_getElem (by omega)
    obtain ⟨r, hr0⟩ : ∃ r, rows[i] = r := ⟨_, rfl⟩
    rw [hr0] at hx
    have hrn : r.2.length ≤ 1000 := by rw [← hr0]; exact hrl _ (List.getElem_mem (by omega))
    have hst := labsI_take hx
    have hbd := labsI_mem hx
    obtain ⟨L0, hL0⟩ : ∃ L0, labsI (rows.take i) = L0 := ⟨_, rfl⟩
    rw [hL0] at hst
    simp only [hL0] at hbd ⊢
    rcases lCase ⟨0, none, 176, fnsI, .cells⟩ L0 with ⟨hL, hD, hσ⟩ | ⟨q, hL, hD, hσ⟩
    all_goals
      repeat' first | (with_reducible first | refine AWP_seq' ?_ | refine k_normal ?_ | refine AWP_skip ?_ | refine AWP_block ?_) | ((with_reducible refine AWP_reg fun KC J hJ hKC => ?_); simp (maxSteps := 10000000) only [push_cast, seval, ↓reduceIte, hlt, hD, hσ, getE_rowsI hx]) | ((with_reducible refine And.intro ?_ ?_); · exact Sq) | ((with_reducible refine hJ _ _ ?_); clear hJ hKC KC J) | ((with_reducible refine AWP_condT ?_ ?_); · rfl)
      refine AWP_loopE (lσ ⟨0, none, 176, fnsI, .cells⟩ L0).length (γ := {j : Nat // j ≤ r.2.length}) (fun j => ⟨[.any, .any, .ptr 0 0 0, .any, .any, eL (L0 ++ (r.2.take j.1).map (·.2.2)), .any, .any, .any, .any, .sl f 1 (rowsI rows), .v (.int .i64 rows.length), .v (.int .i64 i), .any, .any, .any, .sl r.1 3 (tRow r.2), .v (.int .i64 r.2.length), .v (.int .i64 j.1), .any, .any, .any, .any, .any, .any, .any, .any, .any, .any, .any, .any, .any], lσ ⟨0, none, 176, fnsI, .cells⟩ (L0 ++ (r.2.take j.1).map (·.2.2))⟩) (fun j => r.2.length - j.1) ⟨0, by omega⟩ (by simp) (fun j => lσ_le _ _ _) (fun j => lσ_clsd (fun m => rfl) _) (fun j => ?_) ⟨?_, ?_⟩ ?_
      · rcases lCase ⟨0, none, 176, fnsI, .cells⟩ (L0 ++ (r.2.take j.1).map (·.2.2)) with ⟨_, hD, hσ⟩ | ⟨j, _, hD, hσ⟩
        all_goals
          simp only [hD, hσ]
          rfl
      · simp only [List.take_zero, List.map_nil, List.append_nil, hD]
        exact Lq
      · simp only [List.take_zero, List.map_nil, List.append_nil, hσ]
        exact Fq
      clear hD hσ hL
      rintro ⟨j, hj⟩
      by_cases hlj : (j : Int) < (r.2.length : Int)
      · have hy : r.2[j]? = some r.2[j] := List.getElem?_eq_getElem (by omega)
        obtain ⟨y, hy0⟩ : ∃ y, r.2[j] = y := ⟨_, rfl⟩
        rw [hy0] at hy
        have hL1 : L0 ++ (r.2.take (j + 1)).map (·.2.2) = (L0 ++ (r.2.take j).map (·.2.2)) ++ [y.2.2] := by
          rw [List.take_succ_eq_append_getElem (by omega), hy0]; simp
        have hbj := hbd (j + 1)
        rw [hL1, List.length_append] at hbj
        obtain ⟨L, hLL⟩ : ∃ L, L0 ++ (r.2.take j).map (·.2.2) = L := ⟨_, rfl⟩
        rw [hLL] at hL1 hbj
        simp only [hLL]
        obtain ⟨hD1, hσ1⟩ := lApp ⟨0, none, 176, fnsI, .cells⟩ L y.2.2
        rcases lCase ⟨0, none, 176, fnsI, .cells⟩ L with ⟨hL, hD, hσ⟩ | ⟨q, hL, hD, hσ⟩
        · subst hL
          repeat' first | (with_reducible first | refine AWP_seq' ?_ | refine k_normal ?_ | refine b_normal ?_ | refine AWP_skip ?_ | refine AWP_block ?_) | ((with_reducible refine AWP_reg fun KC J hJ hKC => ?_); simp (maxSteps := 10000000) only [push_cast, seval, ↓reduceIte, hlj, hD, hσ, getE_t hy, wrapN (i := j) (n := r.2.length) (by omega) (by omega)]) | ((with_reducible refine And.intro ?_ ?_); · exact Sq) | (refine hKC _ _ _ _ _ (callV0 (labI_fn y) rfl rfl rfl ?_ ?_); (· exact Lq); simp (maxSteps := 10000000) only [push_cast, seval, ↓reduceIte, hlj, hD, hσ, getE_t hy, wrapN (i := j) (n := r.2.length) (by omega) (by omega)]) | ((with_reducible refine hJ _ _ ?_); clear hJ hKC KC J) | ((with_reducible refine AWP_condT ?_ ?_); · rfl)
          refine ⟨⟨j + 1, by omega⟩, by simp only; omega, ?_, ?_⟩
          · simp only [hL1, hD1]
            exact Lq
          · simp only [hL1, hσ1]
            exact ⟨[_, _, _, _, _], _, rfl, .inr (.inl rfl), .inl rfl, .inl rfl, .inl rfl, .inr (.inl rfl), trivial⟩
        · have hlC : (cellI L).length = q + 1 := by rw [cellI_length, hL]
          have htC := take_of hlC
          have htC' : (cellI L).take (q + 1) = cellI L := List.take_of_length_le (by omega)
          have hbm : Nat.beq q q = true := Nat.beq_refl q
          rw [hL] at hD1 hσ1
          simp only [hL, List.length_cons, List.length_nil] at hbj
          repeat' first | (with_reducible first | refine AWP_seq' ?_ | refine k_normal ?_ | refine b_normal ?_ | refine AWP_skip ?_ | refine AWP_block ?_) | ((with_reducible refine AWP_reg fun KC J hJ hKC => ?_); simp (maxSteps := 10000000) only [push_cast, seval, ↓reduceIte, hlj, hD, hσ, getE_t hy, hlC, htC, htC', hbm, wrapN (i := j) (n := r.2.length) (by omega) (by omega)]) | ((with_reducible refine And.intro ?_ ?_); · exact Sq) | (refine hKC _ _ _ _ _ (callV0 (labI_fn y) rfl rfl rfl ?_ ?_); (· exact Lq); simp (maxSteps := 10000000) only [push_cast, seval, ↓reduceIte, hlj, hD, hσ, getE_t hy, hlC, htC, htC', hbm, wrapN (i := j) (n := r.2.length) (by omega) (by omega)]) | ((with_reducible refine hJ _ _ ?_); clear hJ hKC KC J) | ((with_reducible refine AWP_condT ?_ ?_); · rfl)
          refine ⟨⟨j + 1, by omega⟩, by simp only; omega, ?_, ?_⟩
          · simp only [hL1, hD1]
            exact Lq
          · simp only [hL1, hσ1]
            exact ⟨[_, _, _, _, _], _, rfl, .inr (.inl rfl), .inl rfl, .inl rfl, .inl rfl, .inr (.inl rfl), trivial⟩
      · have hjn : j = r.2.length := by omega
        subst hjn
        rw [List.take_length, ← hst]
        obtain ⟨L, hLL⟩ : ∃ L, labsI (rows.take (i + 1)) = L := ⟨_, rfl⟩
        rw [hLL]
        rcases lCase ⟨0, none, 176, fnsI, .cells⟩ L with ⟨hL, hD, hσ⟩ | ⟨q, hL, hD, hσ⟩
        all_goals
          repeat' first | (with_reducible first | refine AWP_seq' ?_ | refine k_normal ?_ | refine k_exit ?_ | refine b_normal ?_ | refine b_exit ?_ | refine AWP_exit ?_) | ((with_reducible refine AWP_reg fun KC J hJ hKC => ?_); simp (maxSteps := 10000000) only [push_cast, seval, ↓reduceIte, hlj, hD, hσ, wrapN (i := i) (n := rows.length) (by omega) (by omega)]) | ((with_reducible refine hJ _ _ ?_); clear hJ hKC KC J) | ((with_reducible refine AWP_condF ?_ ?_); · rfl)
          refine ⟨⟨i + 1, by omega⟩, by simp only; omega, ?_, ?_⟩
          · simp only [hLL, hD]
            exact Lq
          · simp only [hLL, hσ]
            exact ⟨_, [], (List.append_nil _).symm, leS_refl _⟩
  · have hin : i = rows.length := by omega
    subst hin
    rw [List.take_length]
    obtain ⟨L, hLL⟩ : ∃ L, labsI rows = L := ⟨_, rfl⟩
    rw [hLL]
    rcases lCase ⟨0, none, 176, fnsI, .cells⟩ L with ⟨hL, hD, hσ⟩ | ⟨q, hL, hD, hσ⟩
    · subst hL
      repeat' first | (with_reducible first | refine AWP_seq' ?_ | refine k_normal ?_ | refine k_exit ?_ | refine b_exit ?_ | refine AWP_ret ?_ | refine AWP_exit ?_) | ((with_reducible refine AWP_reg fun KC J hJ hKC => ?_); simp (maxSteps := 10000000) only [push_cast, seval, ↓reduceIte, hlt, hD, hσ]) | ((with_reducible refine hJ _ _ ?_); clear hJ hKC KC J) | ((with_reducible refine AWP_condF ?_ ?_); · rfl)
      refine ret_plain ?_
      simp (maxSteps := 10000000) only [push_cast, seval, ↓reduceIte, show Try.f156.results = #[(.tmp 4)] from rfl]
      exact leD_refl _
    · have e1 : lD L = .ref 0 q (q + 1) := by unfold lD; rw [hL]; rfl
      have e2 : lOut L = [.ent ⟨q, some 1, 3, cellI L, .cells⟩] := by unfold lOut; rw [hL]; rfl
      rw [e1, e2]
      repeat' first | (with_reducible first | refine AWP_seq' ?_ | refine k_normal ?_ | refine k_exit ?_ | refine b_exit ?_ | refine AWP_exit ?_) | ((with_reducible refine AWP_reg fun KC J hJ hKC => ?_); simp (maxSteps := 10000000) only [push_cast, seval, ↓reduceIte, hlt, hD, hσ]) | ((with_reducible refine hJ _ _ ?_); clear hJ hKC KC J) | ((with_reducible refine AWP_condF ?_ ?_); · rfl)
      refine AWP_ret ?_
      refine ret_new [4] ?_ (by simp) ?_
      · simp (maxSteps := 10000000) only [push_cast, seval, ↓reduceIte, show Try.f156.results = #[.tmp 4] from rfl, pick, mOf, idx, renSlot, ren_cellI]
        exact leD_refl _
      · intro k hk
        exact absurd hk (by simp)
end Go.Proofs.Ytabliglgeiajlaa.AM
