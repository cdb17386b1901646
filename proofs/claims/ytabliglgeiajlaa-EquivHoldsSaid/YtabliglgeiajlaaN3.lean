/- The reference: what is seen; what comes in, cut short. -/
import Derived.Test.YtabliglgeiajlaaN2
import Derived.Test.YtabliglgeiajlaaF0
set_option linter.unusedSimpArgs false
set_option linter.unusedVariables false
namespace Go.Proofs.Ytabliglgeiajlaa.AM
open Go Go.RowKit Go.Proofs
set_option maxRecDepth 100000
set_option maxHeartbeats 1000000

theorem rAtomsSame_fn (f g : Bool) (xs ys : List (Int × Int)) (hb : xs.length ≤ 9223372036854775807) : Fn Try.prog 136 [.sl f 2 (pRow xs), .sl g 2 (pRow ys)] [] (.v (.bool (decide (xs = ys)))) [] := by
  refine Fn.of (fn := Try.f136) (by kernel_rfl) rfl (by kernel_rfl) ⟨[.sl f 2 (pRow xs), .sl g 2 (pRow ys), .v undef, .v undef, .v undef, .v undef, .v undef, .v undef, .v undef, .v undef, .v undef, .v undef, .v undef, .v undef, .v undef, .v undef, .v undef, .v undef, .v undef, .v undef, .v undef, .v undef, .v undef, .v undef, .v undef, .v undef], []⟩ rfl ?_
  by_cases hl : xs.length = ys.length
  · have hl' : ((xs.length : Int) != (ys.length : Int)) = false := by simp [hl]
    repeat' first | (with_reducible first | refine AWP_seq' ?_ | refine k_normal ?_ | refine AWP_skip ?_ | refine AWP_block ?_) | ((with_reducible refine AWP_reg fun KC J hJ hKC => ?_); simp (maxSteps := 10000000) only [push_cast, seval, ↓reduceIte, hl']) | ((with_reducible refine hJ _ _ ?_); clear hJ hKC KC J) | ((with_reducible refine AWP_condF ?_ ?_); · rfl)
    refine AWP_loopF (γ := {i : Nat // i ≤ xs.length ∧ ∀ j, j < i → xs[j]? = ys[j]?}) (fun i => ⟨[.sl f 2 (pRow xs), .sl g 2 (pRow ys), .any, .any, .any, .any, .any, .any, .any, .any, .any, .any, .v (.int .i64 xs.length), .v (.int .i64 i.1), .any, .any, .any, .any, .any, .any, .any, .any, .any, .any, .any, .any], []⟩) (fun i => xs.length - i.1) ⟨0, by simp⟩ ⟨?_, Fq⟩ ?_
    · exact Lq
    · rintro ⟨i, hi, hn⟩
      by_cases hlt : (i : Int) < (xs.length : Int)
      · have hx : xs[i]? = some xs[i] := List.getElem?_eq_getElem (by omega)
        have hy : ys[i]? = some ys[i] := List.getElem?_eq_getElem (by omega)
        obtain ⟨a, ha⟩ : ∃ a, xs[i] = a := ⟨_, rfl⟩
        obtain ⟨b, hb2⟩ : ∃ b, ys[i] = b := ⟨_, rfl⟩
        rw [ha] at hx
        rw [hb2] at hy
        by_cases he : a = b
        · have he' : decide (a = b) = true := decide_eq_true he
          repeat' first | (with_reducible first | refine AWP_seq' ?_ | refine k_normal ?_ | refine b_normal ?_ | refine AWP_skip ?_ | refine AWP_block ?_) | ((with_reducible first | refine AWP_reg fun KC J hJ hKC => ?_ | refine AWP_regD rfl fun KC J hJ hKC => ?_); simp (maxSteps := 10000000) only [push_cast, seval, ↓reduceIte, hlt, getE_p hx, getE_p hy, pair_eq, he', wrapN (i := i) (n := xs.length) (by omega) hb]) | ((with_reducible refine And.intro ?_ ?_); · exact Sq) | ((first | with_reducible refine hJ _ _ ?_ | (with_reducible refine hJ _ _ ?_ ?_; · kernel_rfl)); clear hJ hKC KC J) | ((with_reducible refine AWP_condT ?_ ?_); · rfl) | ((with_reducible refine AWP_condF ?_ ?_); · rfl)
          refine ⟨⟨i + 1, by omega, fun j hj => ?_⟩, by simp only; omega, ?_, Fq⟩
          · by_cases hji : j = i
            · rw [hji, hx, hy, he]
            · exact hn j (by omega)
          · exact Lq
        · have he' : decide (a = b) = false := decide_eq_false he
          repeat' first | (with_reducible first | refine AWP_seq' ?_ | refine k_normal ?_ | refine k_ret ?_ | refine b_ret ?_ | refine AWP_ret ?_ | refine AWP_skip ?_ | refine AWP_block ?_) | ((with_reducible first | refine AWP_reg fun KC J hJ hKC => ?_ | refine AWP_regD rfl fun KC J hJ hKC => ?_); simp (maxSteps := 10000000) only [push_cast, seval, ↓reduceIte, hlt, getE_p hx, getE_p hy, pair_eq, he']) | ((with_reducible refine And.intro ?_ ?_); · exact Sq) | ((first | with_reducible refine hJ _ _ ?_ | (with_reducible refine hJ _ _ ?_ ?_; · kernel_rfl)); clear hJ hKC KC J) | ((with_reducible refine AWP_condT ?_ ?_); · rfl)
          refine ret_plain ?_
          simp (maxSteps := 10000000) only [push_cast, seval, ↓reduceIte, show Try.f136.results = #[(.tmp 4)] from rfl]
          rw [decide_eq_false (fun h => he (by rw [h, hy] at hx; exact (Option.some.inj hx).symm))]
          exact leD_refl _
      · skip
        repeat' first | (with_reducible first | refine AWP_seq' ?_ | refine k_normal ?_ | refine k_exit ?_ | refine b_exit ?_ | refine AWP_ret ?_ | refine AWP_exit ?_) | ((with_reducible refine AWP_reg fun KC J hJ hKC => ?_); simp (maxSteps := 10000000) only [push_cast, seval, ↓reduceIte, hlt]) | ((with_reducible refine hJ _ _ ?_); clear hJ hKC KC J) | ((with_reducible refine AWP_condF ?_ ?_); · rfl)
        refine ret_plain ?_
        simp (maxSteps := 10000000) only [push_cast, seval, ↓reduceIte, show Try.f136.results = #[(.tmp 4)] from rfl]
        rw [decide_eq_true (list_eq_of hl fun j hj => hn j (by omega))]
        exact leD_refl _
  · have hl' : ((xs.length : Int) != (ys.length : Int)) = true := by simp; omega
    repeat' first | (with_reducible first | refine AWP_seq' ?_ | refine k_normal ?_ | refine k_ret ?_ | refine AWP_ret ?_) | ((with_reducible refine AWP_reg fun KC J hJ hKC => ?_); simp (maxSteps := 10000000) only [push_cast, seval, ↓reduceIte, hl']) | ((with_reducible refine hJ _ _ ?_); clear hJ hKC KC J) | ((with_reducible refine AWP_condT ?_ ?_); · rfl)
    refine ret_plain ?_
    simp (maxSteps := 10000000) only [push_cast, seval, ↓reduceIte, show Try.f136.results = #[(.tmp 4)] from rfl]
    rw [decide_eq_false (fun h => hl (by rw [h]))]
    exact leD_refl _
/-- A row of pairs that grows, ahead of what a round leaves. -/
def sD (L : List (Int × Int)) : D := if L.length = 0 then .sl true 2 [] else .ref 4 (L.length - 1) L.length
def sσ (kb : Ent) (L : List (Int × Int)) : List Slot := if L.length = 0 then [.ent kb] else [.ent kb, .dead, .dead, .dead, .ent ⟨L.length - 1, some 2, 79, pCells L, .cells⟩]
theorem sCase (kb : Ent) (L : List (Int × Int)) : (L = [] ∧ sD L = .sl true 2 [] ∧ sσ kb L = [.ent kb]) ∨ (∃ j, L.length = j + 1 ∧ sD L = .ref 4 j (j + 1) ∧ sσ kb L = [.ent kb, .dead, .dead, .dead, .ent ⟨j, some 2, 79, pCells L, .cells⟩]) := by
  cases L with
  | nil => exact .inl ⟨rfl, rfl, rfl⟩
  | cons x L => exact .inr ⟨L.length, rfl, rfl, rfl⟩
theorem sApp (kb : Ent) (L : List (Int × Int)) (x : Int × Int) : sD (L ++ [x]) = .ref 4 L.length (L.length + 1) ∧ sσ kb (L ++ [x]) = [.ent kb, .dead, .dead, .dead, .ent ⟨L.length, some 2, 79, pCells L ++ [.v (.int .i64 x.1), .v (.int .i64 x.2)], .cells⟩] := by
  have hl : (L ++ [x]).length = L.length + 1 := by simp
  unfold sD sσ
  rw [hl, pCells_app]
  exact ⟨rfl, rfl⟩
theorem sσ_one (kb : Ent) (L : List (Int × Int)) : 1 ≤ (sσ kb L).length := by
  rcases sCase kb L with ⟨_, _, h⟩ | ⟨j, _, _, h⟩ <;> rw [h] <;> simp
theorem sσ_clsd {kb : Ent} (hk : ∀ m, kb.cells.map (ren m) = kb.cells) (L : List (Int × Int)) : Clsd (sσ kb L) := by
  refine clsd_all ?_
  rcases sCase kb L with ⟨_, _, h⟩ | ⟨j, _, _, h⟩
  all_goals
    rw [h]
    simp only [List.map_cons, List.map_nil, renSlot, hk, ren_pCells]
theorem rSeen_fn (f g fa : Bool) (ns : List ByteArray) (us : List Nat) (o : Nat) (a : List (Int × Int)) (hu : U32 us) (ho : o ≤ 1000) (hb : a.length ≤ 1000) (hxo : ∀ x ∈ a, oddL us.length x.2 = false) :
    Fn Try.prog 137 [.agg [.sl f 1 (strRow ns), .sl g 1 (u32Row us)], .v (.int .i64 (o : Int)), .sl fa 2 (pRow a)] [] (.sl (a.filter (keepA us o)).isEmpty 2 (pRow (a.filter (keepA us o)))) [] := by
  refine Fn.of (fn := Try.f137) (by kernel_rfl) rfl (by kernel_rfl) ⟨[.agg [.sl f 1 (strRow ns), .sl g 1 (u32Row us)], .v (.int .i64 (o : Int)), .sl fa 2 (pRow a), .v undef, .v undef, .v undef, .v undef, .v undef, .v undef, .v undef, .v undef, .v undef, .v undef, .v undef, .v undef, .v undef, .v undef, .v undef, .v undef, .v undef, .v undef, .v undef, .v undef, .v undef, .v undef, .v undef, .v undef, .v undef], []⟩ rfl ?_
  repeat' first | (with_reducible first | refine AWP_seq' ?_ | refine k_normal ?_ | refine AWP_block ?_) | ((with_reducible refine AWP_reg fun KC J hJ hKC => ?_); simp (maxSteps := 10000000) only [push_cast, seval, ↓reduceIte]) | ((with_reducible refine hJ _ _ ?_); clear hJ hKC KC J)
  refine AWP_loopE 1 (γ := {i : Nat // i ≤ a.length}) (fun i => ⟨[.any, .v (.int .i64 (o : Int)), .any, .ptr 0 0 0, .any, .any, .any, sD ((a.take i.1).filter (keepA us o)), .any, .any, .any, .sl fa 2 (pRow a), .v (.int .i64 a.length), .v (.int .i64 i.1), .any, .any, .any, .any, .any, .any, .any, .any, .any, .any, .any, .any, .any, .any], sσ ⟨0, none, 25, [.sl f 1 (strRow ns), .sl g 1 (u32Row us)], .cells⟩ ((a.take i.1).filter (keepA us o))⟩) (fun i => a.length - i.1) ⟨0, by omega⟩ rfl (fun i => sσ_one _ _) (fun i => sσ_clsd (fun m => rfl) _) (fun i => ?_) ⟨?_, ?_⟩ ?_
  · rcases sCase ⟨0, none, 25, [.sl f 1 (strRow ns), .sl g 1 (u32Row us)], .cells⟩ ((a.take i.1).filter (keepA us o)) with ⟨_, hD, hσ⟩ | ⟨j, _, hD, hσ⟩
    all_goals
      simp only [hD, hσ]
      rfl
  · simp only [List.take_zero, List.filter_nil, sD]
    exact Lq
  · simp only [List.take_zero, List.filter_nil, sσ]
    exact Fq
  rintro ⟨i, hi⟩
  by_cases hlt : (i : Int) < (a.length : Int)
  · have hx : a[i]? = some a[i] := List.getElem?_eq_getElem (by omega)
    obtain ⟨x, hx0⟩ : ∃ x, a[i] = x := ⟨_, rfl⟩
    obtain ⟨c, hc, hcn⟩ := oddL_no (hxo x (by rw [← hx0]; exact List.getElem_mem (by omega)))
    rw [hx0] at hx
    have hst : (a.take (i + 1)).filter (keepA us o) = (a.take i).filter (keepA us o) ++ (if keepA us o x = true then [x] else []) := by
      rw [List.take_succ_eq_append_getElem (by omega), List.filter_append, hx0]
      by_cases h : keepA us o x = true <;> simp [h]
    have hbl : ((a.take i).filter (keepA us o)).length ≤ 1000 := by
      have := List.length_filter_le (keepA us o) (a.take i)
      simp at this; omega
    obtain ⟨L, hL⟩ : ∃ L, (a.take i).filter (keepA us o) = L := ⟨_, rfl⟩
    rw [hL] at hst hbl
    simp only [hL]
    obtain ⟨v, l⟩ := x
    simp only at hc
    subst hc
    have h1 := rSees_fn f g ns us o c hu hcn ho
    have hk : keepA us o (v, (c : Int)) = fl us c o := by rw [keepA, Int.toNat_natCast]
    obtain ⟨z, hz⟩ : ∃ z, fl us c o = z := ⟨_, rfl⟩
    rw [hk, hz] at hst
    rw [hz] at h1
    cases z with
    | true =>
      rw [if_pos rfl] at hst
      obtain ⟨hD1, hσ1⟩ := sApp ⟨0, none, 25, [.sl f 1 (strRow ns), .sl g 1 (u32Row us)], .cells⟩ L (v, (c : Int))
      rcases sCase ⟨0, none, 25, [.sl f 1 (strRow ns), .sl g 1 (u32Row us)], .cells⟩ L with ⟨hL0, hD, hσ⟩ | ⟨q, hL0, hD, hσ⟩
      · subst hL0
        repeat' first | (with_reducible first | refine AWP_seq' ?_ | refine k_normal ?_ | refine b_normal ?_ | refine AWP_skip ?_ | refine AWP_block ?_) | ((with_reducible refine AWP_reg fun KC J hJ hKC => ?_); simp (maxSteps := 10000000) only [push_cast, seval, ↓reduceIte, hlt, hD, hσ, getE_p hx, hz, wrapN (i := i) (n := a.length) (by omega) (by omega)]) | ((with_reducible refine And.intro ?_ ?_); · exact Sq) | (refine' hKC _ _ _ _ _ (callV0 (rSees_fn _ _ _ _ _ _ ?_ ?_ ?_) rfl rfl rfl ?_ ?_); (rotate_left 9); (· exact Lq); (rotate_left 1); (iterate 3 (· exact Hq)); simp (maxSteps := 10000000) only [push_cast, seval, ↓reduceIte, hlt, hD, hσ, getE_p hx, hz, wrapN (i := i) (n := a.length) (by omega) (by omega)]) | ((with_reducible refine hJ _ _ ?_); clear hJ hKC KC J) | ((with_reducible refine AWP_condT ?_ ?_); · rfl)
        refine ⟨⟨i + 1, by omega⟩, by simp only; omega, ?_, ?_⟩
        · simp only [hst, hD1]
          exact Lq
        · simp only [hst, hσ1]
          exact ⟨[_, _, _, _, _], _, rfl, .inr (.inl rfl), .inl rfl, .inl rfl, .inl rfl, .inr (.inl rfl), trivial⟩
      · have hlC : (pCells L).length = (q + 1) * 2 := by rw [pCells_length, hL0]
        have htC : (pCells L).take ((q + 1) * 2) = pCells L := List.take_of_length_le (by omega)
        have hbm : Nat.beq q q = true := Nat.beq_refl q
        rw [hL0] at hD1 hσ1
        repeat' first | (with_reducible first | refine AWP_seq' ?_ | refine k_normal ?_ | refine b_normal ?_ | refine AWP_skip ?_ | refine AWP_block ?_) | ((with_reducible refine AWP_reg fun KC J hJ hKC => ?_); simp (maxSteps := 10000000) only [push_cast, seval, ↓reduceIte, hlt, hD, hσ, getE_p hx, hz, hlC, htC, hbm, wrapN (i := i) (n := a.length) (by omega) (by omega)]) | ((with_reducible refine And.intro ?_ ?_); · exact Sq) | (refine' hKC _ _ _ _ _ (callV0 (rSees_fn _ _ _ _ _ _ ?_ ?_ ?_) rfl rfl rfl ?_ ?_); (rotate_left 9); (· exact Lq); (rotate_left 1); (iterate 3 (· exact Hq)); simp (maxSteps := 10000000) only [push_cast, seval, ↓reduceIte, hlt, hD, hσ, getE_p hx, hz, hlC, htC, hbm, wrapN (i := i) (n := a.length) (by omega) (by omega)]) | ((with_reducible refine hJ _ _ ?_); clear hJ hKC KC J) | ((with_reducible refine AWP_condT ?_ ?_); · rfl)
        refine ⟨⟨i + 1, by omega⟩, by simp only; omega, ?_, ?_⟩
        · simp only [hst, hD1]
          exact Lq
        · simp only [hst, hσ1]
          exact ⟨[_, _, _, _, _], _, rfl, .inr (.inl rfl), .inl rfl, .inl rfl, .inl rfl, .inr (.inl rfl), trivial⟩
    | false =>
      rw [if_neg (by simp), List.append_nil] at hst
      rcases sCase ⟨0, none, 25, [.sl f 1 (strRow ns), .sl g 1 (u32Row us)], .cells⟩ L with ⟨hL0, hD, hσ⟩ | ⟨q, hL0, hD, hσ⟩
      all_goals
        repeat' first | (with_reducible first | refine AWP_seq' ?_ | refine k_normal ?_ | refine b_normal ?_ | refine AWP_skip ?_ | refine AWP_block ?_) | ((with_reducible refine AWP_reg fun KC J hJ hKC => ?_); simp (maxSteps := 10000000) only [push_cast, seval, ↓reduceIte, hlt, hD, hσ, getE_p hx, hz, wrapN (i := i) (n := a.length) (by omega) (by omega)]) | ((with_reducible refine And.intro ?_ ?_); · exact Sq) | (refine' hKC _ _ _ _ _ (callV0 (rSees_fn _ _ _ _ _ _ ?_ ?_ ?_) rfl rfl rfl ?_ ?_); (rotate_left 9); (· exact Lq); (rotate_left 1); (iterate 3 (· exact Hq)); simp (maxSteps := 10000000) only [push_cast, seval, ↓reduceIte, hlt, hD, hσ, getE_p hx, hz, wrapN (i := i) (n := a.length) (by omega) (by omega)]) | ((with_reducible refine hJ _ _ ?_); clear hJ hKC KC J) | ((with_reducible refine AWP_condT ?_ ?_); · rfl) | ((with_reducible refine AWP_condF ?_ ?_); · rfl)
        refine ⟨⟨i + 1, by omega⟩, by simp only; omega, ?_, ?_⟩
        · simp only [hst, hD]
          exact Lq
        · simp only [hst, hσ]
          first
            | exact ⟨[_], _, rfl, .inr (.inl rfl), trivial⟩
            | exact ⟨[_, _, _, _, _], _, rfl, .inr (.inl rfl), .inl rfl, .inl rfl, .inl rfl, .inr (.inl rfl), trivial⟩
  have hin : i = a.length := by omega
  subst hin
  rw [List.take_length]
  obtain ⟨L, hL⟩ : ∃ L, a.filter (keepA us o) = L := ⟨_, rfl⟩
  rw [hL]
  rcases sCase ⟨0, none, 25, [.sl f 1 (strRow ns), .sl g 1 (u32Row us)], .cells⟩ L with ⟨hL0, hD, hσ⟩ | ⟨q, hL0, hD, hσ⟩
  · subst hL0
    repeat' first | (with_reducible first | refine AWP_seq' ?_ | refine k_normal ?_ | refine k_exit ?_ | refine b_exit ?_ | refine AWP_ret ?_ | refine AWP_exit ?_) | ((with_reducible refine AWP_reg fun KC J hJ hKC => ?_); simp (maxSteps := 10000000) only [push_cast, seval, ↓reduceIte, hlt, hD, hσ]) | ((with_reducible refine hJ _ _ ?_); clear hJ hKC KC J) | ((with_reducible refine AWP_condF ?_ ?_); · rfl)
    refine ret_plain ?_
    simp (maxSteps := 10000000) only [push_cast, seval, ↓reduceIte, show Try.f137.results = #[(.tmp 6)] from rfl]
    exact Lq
  · have hbm : Nat.beq q q = true := Nat.beq_refl q
    have hlC : (pCells L).length = (q + 1) * 2 := by rw [pCells_length, hL0]
    have hcS : chunk 2 (q + 1) (pCells L) = pRow L := by rw [← hL0]; exact chunk_p L
    have hem : L.isEmpty = false := by cases L with | nil => simp at hL0 | cons _ _ => rfl
    repeat' first | (with_reducible first | refine AWP_seq' ?_ | refine k_normal ?_ | refine k_exit ?_ | refine b_exit ?_ | refine AWP_exit ?_) | ((with_reducible refine AWP_reg fun KC J hJ hKC => ?_); simp (maxSteps := 10000000) only [push_cast, seval, ↓reduceIte, hlt, hD, hσ]) | ((with_reducible refine hJ _ _ ?_); clear hJ hKC KC J) | ((with_reducible refine AWP_condF ?_ ?_); · rfl)
    refine AWP_freeze 4 rfl (by simp (maxSteps := 10000000) only [push_cast, seval, ↓reduceIte]) ?_
    simp (maxSteps := 10000000) only [push_cast, seval, ↓reduceIte, frSt, frSlot, fr3, fr2, fr1, fr0, sameB, arrOf, hbm, hlC, hcS]
    refine AWP_ret ?_
    refine ret_plain ?_
    simp (maxSteps := 10000000) only [push_cast, seval, ↓reduceIte, show Try.f137.results = #[(.tmp 6)] from rfl, hem]
    exact Lq
theorem rOuts_fn (f g fa fb : Bool) (ns : List ByteArray) (us : List Nat) (o : Nat) (a b : List (Int × Int)) (hu : U32 us) (ho : o ≤ 1000) (ha : a.length ≤ 1000) (hb : b.length ≤ 1000) (hxo : ∀ x ∈ a, oddL us.length x.2 = false) (hyo : ∀ x ∈ b, oddL us.length x.2 = false) :
    Fn Try.prog 58 [.agg [.sl f 1 (strRow ns), .sl g 1 (u32Row us)], .v (.int .i64 (o : Int)), .sl fa 2 (pRow a), .sl fb 2 (pRow b)] [] (.v (.bool (decide (a.filter (keepA us o) = b.filter (keepA us o))))) [] := by
  have h1 := rSeen_fn f g fa ns us o a hu ho ha hxo
  have h2 := rSeen_fn f g fb ns us o b hu ho hb hyo
  obtain ⟨A, hA⟩ : ∃ A, a.filter (keepA us o) = A := ⟨_, rfl⟩
  obtain ⟨B, hB⟩ : ∃ B, b.filter (keepA us o) = B := ⟨_, rfl⟩
  have hAl : A.length ≤ 1000 := by rw [← hA]; exact Nat.le_trans (List.length_filter_le _ _) ha
  rw [hA] at h1
  rw [hB] at h2
  rw [hA, hB]
  refine Fn.of (fn := Try.f58) (by kernel_rfl) rfl (by kernel_rfl) ⟨[.agg [.sl f 1 (strRow ns), .sl g 1 (u32Row us)], .v (.int .i64 (o : Int)), .sl fa 2 (pRow a), .sl fb 2 (pRow b), .v undef, .v undef, .v undef, .v undef, .v undef, .v undef, .v undef, .v undef, .v undef, .v undef, .v undef, .v undef, .v undef, .v undef], []⟩ rfl ?_
  repeat' first | (with_reducible first | refine AWP_seq' ?_ | refine k_normal ?_ | refine AWP_ret ?_) | ((with_reducible first | refine AWP_reg fun KC J hJ hKC => ?_ | refine AWP_regD rfl fun KC J hJ hKC => ?_); simp (maxSteps := 10000000) only [push_cast, seval, ↓reduceIte, hA, hB]) | (refine' hKC _ _ _ _ _ (callV0 (rSeen_fn _ _ _ _ _ _ _ ?_ ?_ ?_ ?_) rfl rfl rfl ?_ ?_); (rotate_left 11); (· exact Lq); (rotate_left 1); (iterate 4 (· exact Hq)); simp (maxSteps := 10000000) only [push_cast, seval, ↓reduceIte, hA, hB]) | (refine' hKC _ _ _ _ _ (callV0 (rAtomsSame_fn _ _ _ _ ?_) rfl rfl rfl ?_ ?_); (rotate_left 5); (· exact Lq); (rotate_left 1); (iterate 1 (· exact Hq)); simp (maxSteps := 10000000) only [push_cast, seval, ↓reduceIte, hA, hB]) | ((first | with_reducible refine hJ _ _ ?_ | (with_reducible refine hJ _ _ ?_ ?_; · kernel_rfl)); clear hJ hKC KC J)
  refine ret_plain ?_
  simp (maxSteps := 10000000) only [push_cast, seval, ↓reduceIte, show Try.f58.results = #[(.tmp 8)] from rfl]
  exact leD_refl _
theorem few12_fn (f g : Bool) (ns : List ByteArray) (us : List Nat) :
    Fn Try.prog 51 [.agg [.sl f 1 (strRow ns), .sl g 1 (u32Row us)]] [] (.agg [.sl false 1 (strRow ((ns.take 10).map cutS)), .sl false 1 (u32Row (us.take 10))]) [] := by
  refine Fn.of (fn := Try.f51) (by kernel_rfl) rfl (by kernel_rfl) ⟨[.agg [.sl f 1 (strRow ns), .sl g 1 (u32Row us)], .v undef, .v undef, .v undef, .v undef, .v undef, .v undef, .v undef, .v undef, .v undef, .v undef, .v undef, .v undef, .v undef, .v undef, .v undef, .v undef, .v undef, .v undef, .v undef, .v undef, .v undef, .v undef, .v undef, .v undef, .v undef, .v undef, .v undef, .v undef, .v undef, .v undef, .v undef, .v undef, .v undef, .v undef, .v undef, .v undef, .v undef], []⟩ rfl ?_
  repeat' first | (with_reducible first | refine AWP_seq' ?_ | refine k_normal ?_ | refine AWP_block ?_) | ((with_reducible refine AWP_reg fun KC J hJ hKC => ?_); simp (maxSteps := 10000000) only [push_cast, seval, ↓reduceIte, take_minL (K := 10) (k := 10) rfl ns, take_minL (K := 10) (k := 10) rfl us]) | ((with_reducible refine And.intro ?_ ?_); · exact Sq) | ((with_reducible refine hJ _ _ ?_); clear hJ hKC KC J)
  obtain ⟨xs, hxs⟩ : ∃ xs, ns.take 10 = xs := ⟨_, rfl⟩
  have hx10 : xs.length ≤ 10 := by rw [← hxs]; simp; omega
  rw [hxs]
  refine AWP_loopF (γ := {i : Nat // i ≤ xs.length}) (fun i => ⟨[.any, .ptr 0 0 0, .ptr 1 0 0, .ptr 2 0 0, .any, .any, .any, .any, .any, .any, .any, .any, .any, .any, .any, .any, .any, .any, .any, .any, .sl false 1 (strRow xs), .v (.int .i64 xs.length), .v (.int .i64 i.1), .any, .any, .any, .any, .any, .any, .any, .any, .any, .any, .any, .any, .any, .any, .any], fσ ⟨0, none, 25, [.sl f 1 (strRow ns), .sl g 1 (u32Row us)], .cells⟩ ⟨0, none, 25, [.v (.slice none 0 0), .v (.slice none 0 0)], .cells⟩ (.sl false 1 (u32Row (us.take 10))) xs i.1⟩) (fun i => xs.length - i.1) ⟨0, by simp⟩ ⟨?_, ?_⟩ ?_
  · exact Lq
  · simp only [fσ]
    exact Fq
  rintro ⟨i, hi⟩
  obtain ⟨e1, he1⟩ : ∃ e1 : Ent, ⟨0, none, 25, [.sl f 1 (strRow ns), .sl g 1 (u32Row us)], .cells⟩ = e1 := ⟨_, rfl⟩
  rw [he1]
  by_cases hlt : (i : Int) < (xs.length : Int)
  · have hx : xs[i]? = some xs[i] := List.getElem?_eq_getElem (by omega)
    obtain ⟨a, ha⟩ : ∃ a, xs[i] = a := ⟨_, rfl⟩
    rw [ha] at hx
    have hcut : a.extract 0 (if (15 : Int) < (a.size : Int) then 15 else (a.size : Int)).toNat = cutS a := rfl
    rcases Nat.eq_zero_or_pos i with rfl | hpos
    · have hσ := fσ_zero e1 ⟨0, none, 25, [.v (.slice none 0 0), .v (.slice none 0 0)], .cells⟩ (.sl false 1 (u32Row (us.take 10))) xs
      have hσ1 := fσ_one e1 ⟨0, none, 25, [.v (.slice none 0 0), .v (.slice none 0 0)], .cells⟩ (.sl false 1 (u32Row (us.take 10))) xs hx
      have hlt0 : (0 : Int) < xs.length := hlt
      repeat' first | (with_reducible first | refine AWP_seq' ?_ | refine k_normal ?_ | refine b_normal ?_ | refine AWP_skip ?_ | refine AWP_block ?_) | ((with_reducible first | refine AWP_reg fun KC J hJ hKC => ?_ | refine AWP_regD rfl fun KC J hJ hKC => ?_); simp (maxSteps := 10000000) only [push_cast, seval, ↓reduceIte, hlt0, hσ, getE_str hx, hcut]) | ((with_reducible refine And.intro ?_ ?_); · exact Sq) | ((first | with_reducible refine hJ _ _ ?_ | (with_reducible refine hJ _ _ ?_ ?_; · kernel_rfl)); clear hJ hKC KC J) | ((with_reducible refine AWP_condT ?_ ?_); · rfl)
      refine ⟨⟨0 + 1, by omega⟩, by simp only; omega, ?_, ?_⟩
      · exact Lq
      · simp only [hσ1]
        exact Fq
    · obtain ⟨i', hi'⟩ : ∃ i', i = i' + 1 := ⟨i - 1, by omega⟩
      have hσ := fσ_pos e1 ⟨0, none, 25, [.v (.slice none 0 0), .v (.slice none 0 0)], .cells⟩ (.sl false 1 (u32Row (us.take 10))) xs hi'
      have hσ1 := fσ_succ e1 ⟨0, none, 25, [.v (.slice none 0 0), .v (.slice none 0 0)], .cells⟩ (.sl false 1 (u32Row (us.take 10))) xs hi' hx
      have hlS : (cellS (fewL xs i)).length = i := by simp [cellS, fewL_length hi]
      have htS := take_of hlS
      have htS' : (cellS (fewL xs i)).take i = cellS (fewL xs i) := List.take_of_length_le (by omega)
      have hbq : Nat.beq i' i' = true := Nat.beq_refl i'
      repeat' first | (with_reducible first | refine AWP_seq' ?_ | refine k_normal ?_ | refine b_normal ?_ | refine AWP_skip ?_ | refine AWP_block ?_) | ((with_reducible first | refine AWP_reg fun KC J hJ hKC => ?_ | refine AWP_regD rfl fun KC J hJ hKC => ?_); simp (maxSteps := 10000000) only [push_cast, seval, ↓reduceIte, hlt, hσ, getE_str hx, hcut, hbq, hlS, htS, htS', wrapN (i := i) (n := xs.length) (by omega) (by omega)]) | ((with_reducible refine And.intro ?_ ?_); · exact Sq) | ((first | with_reducible refine hJ _ _ ?_ | (with_reducible refine hJ _ _ ?_ ?_; · kernel_rfl)); clear hJ hKC KC J) | ((with_reducible refine AWP_condT ?_ ?_); · rfl)
      refine ⟨⟨i + 1, by omega⟩, by simp only; omega, ?_, ?_⟩
      · exact Lq
      · simp only [hσ1]
        exact Fq
  · have hix : i = xs.length := by omega
    have hfin : fewL xs i = xs.map cutS := by rw [fewL, hix, List.take_length]
    rcases Nat.eq_zero_or_pos i with rfl | hpos
    · have hσ := fσ_zero e1 ⟨0, none, 25, [.v (.slice none 0 0), .v (.slice none 0 0)], .cells⟩ (.sl false 1 (u32Row (us.take 10))) xs
      have hlt0 : ¬ (0 : Int) < xs.length := hlt
      repeat' first | (with_reducible first | refine AWP_seq' ?_ | refine k_normal ?_ | refine k_exit ?_ | refine b_exit ?_ | refine AWP_ret ?_ | refine AWP_exit ?_) | ((with_reducible refine AWP_reg fun KC J hJ hKC => ?_); simp (maxSteps := 10000000) only [push_cast, seval, ↓reduceIte, hlt0, hσ]) | ((with_reducible refine hJ _ _ ?_); clear hJ hKC KC J) | ((with_reducible refine AWP_condF ?_ ?_); · rfl)
      refine ret_plain ?_
      simp (maxSteps := 10000000) only [push_cast, seval, ↓reduceIte, show Try.f51.results = #[(.cell 2 25)] from rfl]
      rw [← hfin]
      exact Lq
    · obtain ⟨i', hi'⟩ : ∃ i', i = i' + 1 := ⟨i - 1, by omega⟩
      have hσ := fσ_pos e1 ⟨0, none, 25, [.v (.slice none 0 0), .v (.slice none 0 0)], .cells⟩ (.sl false 1 (u32Row (us.take 10))) xs hi'
      have hbq : Nat.beq i' i' = true := Nat.beq_refl i'
      have hlS : (cellS (fewL xs i)).length = i := by simp [cellS, fewL_length hi]
      have hcS : chunk 1 i (cellS (fewL xs i)) = strRow (fewL xs i) := by
        have := chunk_one (fun s : ByteArray => (.v (.string s) : D)) (fewL xs i)
        rw [fewL_length hi] at this; exact this
      subst he1
      repeat' first | (with_reducible first | refine AWP_seq' ?_ | refine k_normal ?_ | refine k_exit ?_ | refine b_exit ?_ | refine AWP_exit ?_) | ((with_reducible refine AWP_reg fun KC J hJ hKC => ?_); simp (maxSteps := 10000000) only [push_cast, seval, ↓reduceIte, hlt, hσ]) | ((with_reducible refine hJ _ _ ?_); clear hJ hKC KC J) | ((with_reducible refine AWP_condF ?_ ?_); · rfl)
      refine AWP_freeze 4 rfl (by simp (maxSteps := 10000000) only [push_cast, seval, ↓reduceIte]) ?_
      simp (maxSteps := 10000000) only [push_cast, seval, ↓reduceIte, frSt, frSlot, fr3, fr2, fr1, fr0, sameB, arrOf, hbq, hlS, hcS]
      refine AWP_ret ?_
      refine ret_plain ?_
      simp (maxSteps := 10000000) only [push_cast, seval, ↓reduceIte, show Try.f51.results = #[(.cell 2 25)] from rfl]
      rw [← hfin]
      exact Lq
/-- A state cut short. -/
def cutSta (s : Sta) : Sta := ⟨s.v, s.l, s.code.take 15, s.mem.take 15, s.stack.take 15, s.out.take 15⟩
theorem cutSta_sml (s : Sta) : (cutSta s).code.length ≤ 15 ∧ (cutSta s).mem.length ≤ 15 ∧ (cutSta s).stack.length ≤ 15 ∧ (cutSta s).out.length ≤ 15 := by
  simp [cutSta]; omega
theorem cut12_fn (fc fm fs fo : Bool) (s : Sta) : Fn Try.prog 52 [.agg (staF fc fm fs fo s)] [] (.agg (staF false false false false (cutSta s))) [] := by
  obtain ⟨v, l, code, mem, stack, out⟩ := s
  simp only [staF, cutSta]
  refine Fn.of (fn := Try.f52) (by kernel_rfl) rfl (by kernel_rfl) ⟨[.agg [.v (.int .i64 v), .v (.int .i64 l), .sl fc 3 (tRow code), .sl fm 2 (pRow mem), .sl fs 3 (sRow stack), .sl fo 2 (pRow out)], .v undef, .v undef, .v undef, .v undef, .v undef, .v undef, .v undef, .v undef, .v undef, .v undef, .v undef, .v undef, .v undef, .v undef, .v undef, .v undef, .v undef, .v undef, .v undef, .v undef, .v undef, .v undef, .v undef, .v undef, .v undef, .v undef, .v undef, .v undef, .v undef, .v undef, .v undef, .v undef, .v undef, .v undef, .v undef], []⟩ rfl ?_
  repeat' first | (with_reducible first | refine AWP_seq' ?_ | refine k_normal ?_ | refine AWP_ret ?_) | ((with_reducible first | refine AWP_reg fun KC J hJ hKC => ?_ | refine AWP_regD rfl fun KC J hJ hKC => ?_); simp (maxSteps := 10000000) only [push_cast, seval, ↓reduceIte, take_minL (K := 15) (k := 15) rfl code, take_minL (K := 15) (k := 15) rfl mem, take_minL (K := 15) (k := 15) rfl stack, take_minL (K := 15) (k := 15) rfl out]) | ((with_reducible refine And.intro ?_ ?_); · exact Sq) | ((first | with_reducible refine hJ _ _ ?_ | (with_reducible refine hJ _ _ ?_ ?_; · kernel_rfl)); clear hJ hKC KC J)
  refine ret_plain ?_
  simp (maxSteps := 10000000) only [push_cast, seval, ↓reduceIte, show Try.f52.results = #[(.cell 2 84)] from rfl]
  exact leD_refl _
end Go.Proofs.Ytabliglgeiajlaa.AM
