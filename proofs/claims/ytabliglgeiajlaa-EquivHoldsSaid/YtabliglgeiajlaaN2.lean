/- The reference: what is alike. -/
import Derived.Test.YtabliglgeiajlaaN1
set_option linter.unusedSimpArgs false
set_option linter.unusedVariables false
namespace Go.Proofs.Ytabliglgeiajlaa.AM
open Go Go.RowKit Go.Proofs
set_option maxRecDepth 100000
set_option maxHeartbeats 1000000

theorem rSees_fn (f g : Bool) (ns : List ByteArray) (us : List Nat) (o a : Nat) (hu : U32 us) (ha : a < us.length) (ho : o ≤ 1000) : Fn Try.prog 139 [.agg [.sl f 1 (strRow ns), .sl g 1 (u32Row us)], .v (.int .i64 (o : Int)), .v (.int .i64 (a : Int))] [] (.v (.bool (fl us a o))) [] := by
  refine Fn.of (fn := Try.f139) (by kernel_rfl) rfl (by kernel_rfl) ⟨[.agg [.sl f 1 (strRow ns), .sl g 1 (u32Row us)], .v (.int .i64 (o : Int)), .v (.int .i64 (a : Int)), .v undef, .v undef, .v undef, .v undef, .v undef, .v undef, .v undef, .v undef], []⟩ rfl ?_
  repeat' first | (with_reducible first | refine AWP_seq' ?_ | refine k_normal ?_ | refine AWP_ret ?_) | ((with_reducible refine AWP_reg fun KC J hJ hKC => ?_); simp (maxSteps := 10000000) only [push_cast, seval, ↓reduceIte]) | (refine' hKC _ _ _ _ _ (callV0 (rFlows_fn _ _ _ _ _ _ ?_ ?_ ?_) rfl rfl rfl ?_ ?_); (rotate_left 9); (· exact Lq); (rotate_left 1); (iterate 3 (· exact Hq)); simp (maxSteps := 10000000) only [push_cast, seval, ↓reduceIte]) | ((with_reducible refine hJ _ _ ?_); clear hJ hKC KC J)
  refine ret_plain ?_
  simp (maxSteps := 10000000) only [push_cast, seval, ↓reduceIte, show Try.f139.results = #[(.tmp 6)] from rfl]
  exact leD_refl _
theorem rOne_fn (f g : Bool) (ns : List ByteArray) (us : List Nat) (o a : Nat) (v w b : Int) (hu : U32 us) (ha : a < us.length) (ho : o ≤ 1000) : Fn Try.prog 138 [.agg [.sl f 1 (strRow ns), .sl g 1 (u32Row us)], .v (.int .i64 (o : Int)), .v (.int .i64 v), .v (.int .i64 (a : Int)), .v (.int .i64 w), .v (.int .i64 b)] [] (.v (.bool ((a : Int) == b && (!fl us a o || v == w)))) [] := by
  have h5 := rSees_fn f g ns us o a hu ha ho
  obtain ⟨q, hq⟩ : ∃ q, ((a : Int) == b) = q := ⟨_, rfl⟩
  obtain ⟨z, hz⟩ : ∃ z, fl us a o = z := ⟨_, rfl⟩
  rw [hz] at h5
  rw [hq, hz]
  refine Fn.of (fn := Try.f138) (by kernel_rfl) rfl (by kernel_rfl) ⟨[.agg [.sl f 1 (strRow ns), .sl g 1 (u32Row us)], .v (.int .i64 (o : Int)), .v (.int .i64 v), .v (.int .i64 (a : Int)), .v (.int .i64 w), .v (.int .i64 b), .v undef, .v undef, .v undef, .v undef, .v undef, .v undef, .v undef, .v undef, .v undef, .v undef, .v undef, .v undef, .v undef, .v undef, .v undef, .v undef, .v undef, .v undef, .v undef, .v undef, .v undef, .v undef], []⟩ rfl ?_
  rcases q with _ | _
  rotate_left
  rcases z with _ | _
  all_goals
    repeat' first | (with_reducible first | refine AWP_seq' ?_ | refine k_normal ?_ | refine AWP_ret ?_) | ((with_reducible refine AWP_reg fun KC J hJ hKC => ?_); simp (maxSteps := 10000000) only [push_cast, seval, ↓reduceIte, hq, hz, undef]) | (refine' hKC _ _ _ _ _ (callV0 (rSees_fn _ _ _ _ _ _ ?_ ?_ ?_) rfl rfl rfl ?_ ?_); (rotate_left 9); (· exact Lq); (rotate_left 1); (iterate 3 (· exact Hq)); simp (maxSteps := 10000000) only [push_cast, seval, ↓reduceIte, hq, hz, undef]) | ((with_reducible refine hJ _ _ ?_); clear hJ hKC KC J)
    refine ret_plain ?_
    simp (maxSteps := 10000000) only [push_cast, seval, ↓reduceIte, show Try.f138.results = #[(.tmp 12)] from rfl]
    exact leD_refl _
set_option maxHeartbeats 2000000 in
theorem rAtoms_fn (f g fa fb : Bool) (ns : List ByteArray) (us : List Nat) (o : Nat) (xs ys : List (Int × Int)) (hu : U32 us) (ho : o ≤ 1000) (hb : xs.length ≤ 1000) (hxo : ∀ x ∈ xs, oddL us.length x.2 = false) :
    Fn Try.prog 59 [.agg [.sl f 1 (strRow ns), .sl g 1 (u32Row us)], .v (.int .i64 (o : Int)), .sl fa 2 (pRow xs), .sl fb 2 (pRow ys)] [] (.v (.bool (rowsBA (alA us o) xs ys))) [] := by
  refine Fn.of (fn := Try.f59) (by kernel_rfl) rfl (by kernel_rfl) ⟨[.agg [.sl f 1 (strRow ns), .sl g 1 (u32Row us)], .v (.int .i64 (o : Int)), .sl fa 2 (pRow xs), .sl fb 2 (pRow ys), .v undef, .v undef, .v undef, .v undef, .v undef, .v undef, .v undef, .v undef, .v undef, .v undef, .v undef, .v undef, .v undef, .v undef, .v undef, .v undef, .v undef, .v undef, .v undef, .v undef, .v undef, .v undef, .v undef, .v undef, .v undef, .v undef, .v undef, .v undef, .v undef, .v undef, .v undef, .v undef, .v undef, .v undef, .v undef, .v undef, .v undef, .v undef, .v undef, .v undef, .v undef], []⟩ rfl ?_
  by_cases hl : xs.length = ys.length
  · have hl' : ((xs.length : Int) != (ys.length : Int)) = false := by simp [hl]
    repeat' first | (with_reducible first | refine AWP_seq' ?_ | refine k_normal ?_ | refine AWP_skip ?_ | refine AWP_block ?_) | ((with_reducible refine AWP_reg fun KC J hJ hKC => ?_); simp (maxSteps := 10000000) only [push_cast, seval, ↓reduceIte, hl']) | ((with_reducible refine hJ _ _ ?_); clear hJ hKC KC J) | ((with_reducible refine AWP_condF ?_ ?_); · rfl)
    refine AWP_loopD 1 (γ := {i : Nat // i ≤ xs.length ∧ ∀ (j : Nat) (x y : Int × Int), j < i → xs[j]? = some x → ys[j]? = some y → alA us o x y = true}) (fun i => ⟨[.any, .v (.int .i64 (o : Int)), .sl fa 2 (pRow xs), .sl fb 2 (pRow ys), .ptr 0 0 0, .any, .any, .any, .any, .any, .any, .any, .any, .any, .any, .any, .v (.int .i64 xs.length), .v (.int .i64 i.1), .any, .any, .any, .any, .any, .any, .any, .any, .any, .any, .any, .any, .any, .any, .any, .any, .any, .any, .any, .any, .any, .any, .any, .any, .any, .any, .any], [.ent ⟨0, none, 25, [.sl f 1 (strRow ns), .sl g 1 (u32Row us)], .cells⟩]⟩) (fun i => xs.length - i.1) ⟨0, by omega, fun j x y h => by omega⟩ (fun i => rfl) (fun i => rfl) (fun i => rfl) ⟨?_, Fq⟩ ?_
    · exact Lq
    rintro ⟨i, hi, hn⟩
    by_cases hlt : (i : Int) < (xs.length : Int)
    · have hx : xs[i]? = some xs[i] := List.getElem?_eq_getElem (by omega)
      have hy : ys[i]? = some ys[i] := List.getElem?_eq_getElem (by omega)
      obtain ⟨x, hx0⟩ : ∃ x, xs[i] = x := ⟨_, rfl⟩
      obtain ⟨y, hy0⟩ : ∃ y, ys[i] = y := ⟨_, rfl⟩
      obtain ⟨a, ha, han⟩ := oddL_no (hxo x (by rw [← hx0]; exact List.getElem_mem (by omega)))
      rw [hx0] at hx
      rw [hy0] at hy
      obtain ⟨v, l⟩ := x
      simp only at ha
      subst ha
      have h1 := rOne_fn f g ns us o a v y.1 y.2 hu han ho
      have hal : alA us o (v, (a : Int)) y = ((a : Int) == y.2 && (!fl us a o || v == y.1)) := by rw [alA, sameA, seenA, Int.toNat_natCast]; rfl
      cases hpv : alA us o (v, (a : Int)) y with
      | true =>
        rw [hpv] at hal
        have hal := hal.symm
        repeat' first | (with_reducible first | refine AWP_seq' ?_ | refine k_normal ?_ | refine b_normal ?_ | refine AWP_skip ?_ | refine AWP_block ?_) | ((with_reducible first | refine AWP_reg fun KC J hJ hKC => ?_ | refine AWP_regD rfl fun KC J hJ hKC => ?_); simp (maxSteps := 10000000) only [push_cast, seval, ↓reduceIte, hlt, getE_p hx, getE_p hy, hal, wrapN (i := i) (n := xs.length) (by omega) (by omega)]) | ((with_reducible refine And.intro ?_ ?_); · exact Sq) | (refine' hKC _ _ _ _ _ (callV0 (rOne_fn _ _ _ _ _ _ _ _ _ ?_ ?_ ?_) rfl rfl rfl ?_ ?_); (rotate_left 12); (· exact Lq); (rotate_left 1); (iterate 3 (· exact Hq)); simp (maxSteps := 10000000) only [push_cast, seval, ↓reduceIte, hlt, getE_p hx, getE_p hy, hal, wrapN (i := i) (n := xs.length) (by omega) (by omega)]) | ((first | with_reducible refine hJ _ _ ?_ | (with_reducible refine hJ _ _ ?_ ?_; · kernel_rfl)); clear hJ hKC KC J) | ((with_reducible refine AWP_condT ?_ ?_); · rfl) | ((with_reducible refine AWP_condF ?_ ?_); · rfl)
        refine ⟨⟨i + 1, by omega, fun j x' y' hj h1 h2 => ?_⟩, by simp only; omega, ?_, ⟨_, rfl⟩⟩
        · by_cases hji : j = i
          · subst hji
            rw [hx] at h1; rw [hy] at h2
            cases h1; cases h2; exact hpv
          · exact hn j x' y' (by omega) h1 h2
        · exact Lq
      | false =>
        rw [hpv] at hal
        have hal := hal.symm
        repeat' first | (with_reducible first | refine AWP_seq' ?_ | refine k_normal ?_ | refine k_ret ?_ | refine b_ret ?_ | refine AWP_ret ?_ | refine AWP_skip ?_ | refine AWP_block ?_) | ((with_reducible first | refine AWP_reg fun KC J hJ hKC => ?_ | refine AWP_regD rfl fun KC J hJ hKC => ?_); simp (maxSteps := 10000000) only [push_cast, seval, ↓reduceIte, hlt, getE_p hx, getE_p hy, hal]) | ((with_reducible refine And.intro ?_ ?_); · exact Sq) | (refine' hKC _ _ _ _ _ (callV0 (rOne_fn _ _ _ _ _ _ _ _ _ ?_ ?_ ?_) rfl rfl rfl ?_ ?_); (rotate_left 12); (· exact Lq); (rotate_left 1); (iterate 3 (· exact Hq)); simp (maxSteps := 10000000) only [push_cast, seval, ↓reduceIte, hlt, getE_p hx, getE_p hy, hal]) | ((first | with_reducible refine hJ _ _ ?_ | (with_reducible refine hJ _ _ ?_ ?_; · kernel_rfl)); clear hJ hKC KC J) | ((with_reducible refine AWP_condT ?_ ?_); · rfl)
        refine ret_plain ?_
        simp (maxSteps := 10000000) only [push_cast, seval, ↓reduceIte, show Try.f59.results = #[(.tmp 8)] from rfl]
        rw [rowsBA_no hx hy hpv]
        exact leD_refl _

    · skip
      repeat' first | (with_reducible first | refine AWP_seq' ?_ | refine k_normal ?_ | refine k_exit ?_ | refine b_exit ?_ | refine AWP_ret ?_ | refine AWP_exit ?_) | ((with_reducible refine AWP_reg fun KC J hJ hKC => ?_); simp (maxSteps := 10000000) only [push_cast, seval, ↓reduceIte, hlt]) | ((with_reducible refine hJ _ _ ?_); clear hJ hKC KC J) | ((with_reducible refine AWP_condF ?_ ?_); · rfl)
      refine ret_plain ?_
      simp (maxSteps := 10000000) only [push_cast, seval, ↓reduceIte, show Try.f59.results = #[(.tmp 8)] from rfl]
      rw [rowsBA_yes hl (fun j x y h1 h2 => hn j x y (by have := (List.getElem?_eq_some_iff.1 h1).1; omega) h1 h2)]
      exact leD_refl _
  · have hl' : ((xs.length : Int) != (ys.length : Int)) = true := by simp; omega
    repeat' first | (with_reducible first | refine AWP_seq' ?_ | refine k_normal ?_ | refine k_ret ?_ | refine AWP_ret ?_) | ((with_reducible refine AWP_reg fun KC J hJ hKC => ?_); simp (maxSteps := 10000000) only [push_cast, seval, ↓reduceIte, hl']) | ((with_reducible refine hJ _ _ ?_); clear hJ hKC KC J) | ((with_reducible refine AWP_condT ?_ ?_); · rfl)
    refine ret_plain ?_
    simp (maxSteps := 10000000) only [push_cast, seval, ↓reduceIte, show Try.f59.results = #[(.tmp 8)] from rfl]
    rw [rowsBA_len hl]
    exact leD_refl _
set_option maxHeartbeats 2000000 in
theorem rStacks_fn (f g fa fb : Bool) (ns : List ByteArray) (us : List Nat) (o : Nat) (xs ys : List (Bool × Int × Int)) (hu : U32 us) (ho : o ≤ 1000) (hb : xs.length ≤ 1000) (hxo : ∀ x ∈ xs, oddL us.length x.2.2 = false) :
    Fn Try.prog 61 [.agg [.sl f 1 (strRow ns), .sl g 1 (u32Row us)], .v (.int .i64 (o : Int)), .sl fa 3 (sRow xs), .sl fb 3 (sRow ys)] [] (.v (.bool (rowsBS (alS us o) xs ys))) [] := by
  refine Fn.of (fn := Try.f61) (by kernel_rfl) rfl (by kernel_rfl) ⟨[.agg [.sl f 1 (strRow ns), .sl g 1 (u32Row us)], .v (.int .i64 (o : Int)), .sl fa 3 (sRow xs), .sl fb 3 (sRow ys), .v undef, .v undef, .v undef, .v undef, .v undef, .v undef, .v undef, .v undef, .v undef, .v undef, .v undef, .v undef, .v undef, .v undef, .v undef, .v undef, .v undef, .v undef, .v undef, .v undef, .v undef, .v undef, .v undef, .v undef, .v undef, .v undef, .v undef, .v undef, .v undef, .v undef, .v undef, .v undef, .v undef, .v undef, .v undef, .v undef, .v undef, .v undef, .v undef, .v undef, .v undef, .v undef, .v undef, .v undef, .v undef, .v undef, .v undef, .v undef, .v undef, .v undef, .v undef, .v undef, .v undef, .v undef], []⟩ rfl ?_
  by_cases hl : xs.length = ys.length
  · have hl' : ((xs.length : Int) != (ys.length : Int)) = false := by simp [hl]
    repeat' first | (with_reducible first | refine AWP_seq' ?_ | refine k_normal ?_ | refine AWP_skip ?_ | refine AWP_block ?_) | ((with_reducible refine AWP_reg fun KC J hJ hKC => ?_); simp (maxSteps := 10000000) only [push_cast, seval, ↓reduceIte, hl']) | ((with_reducible refine hJ _ _ ?_); clear hJ hKC KC J) | ((with_reducible refine AWP_condF ?_ ?_); · rfl)
    refine AWP_loopD 1 (γ := {i : Nat // i ≤ xs.length ∧ ∀ (j : Nat) (x y : Bool × Int × Int), j < i → xs[j]? = some x → ys[j]? = some y → alS us o x y = true}) (fun i => ⟨[.any, .v (.int .i64 (o : Int)), .sl fa 3 (sRow xs), .sl fb 3 (sRow ys), .ptr 0 0 0, .any, .any, .any, .any, .any, .any, .any, .any, .any, .any, .any, .v (.int .i64 xs.length), .v (.int .i64 i.1), .any, .any, .any, .any, .any, .any, .any, .any, .any, .any, .any, .any, .any, .any, .any, .any, .any, .any, .any, .any, .any, .any, .any, .any, .any, .any, .any, .any, .any, .any, .any, .any, .any, .any, .any, .any, .any, .any, .any, .any], [.ent ⟨0, none, 25, [.sl f 1 (strRow ns), .sl g 1 (u32Row us)], .cells⟩]⟩) (fun i => xs.length - i.1) ⟨0, by omega, fun j x y h => by omega⟩ (fun i => rfl) (fun i => rfl) (fun i => rfl) ⟨?_, Fq⟩ ?_
    · exact Lq
    rintro ⟨i, hi, hn⟩
    by_cases hlt : (i : Int) < (xs.length : Int)
    · have hx : xs[i]? = some xs[i] := List.getElem?_eq_getElem (by omega)
      have hy : ys[i]? = some ys[i] := List.getElem?_eq_getElem (by omega)
      obtain ⟨x, hx0⟩ : ∃ x, xs[i] = x := ⟨_, rfl⟩
      obtain ⟨y, hy0⟩ : ∃ y, ys[i] = y := ⟨_, rfl⟩
      obtain ⟨a, ha, han⟩ := oddL_no (hxo x (by rw [← hx0]; exact List.getElem_mem (by omega)))
      rw [hx0] at hx
      rw [hy0] at hy
      obtain ⟨r, v, l⟩ := x
      simp only at ha
      subst ha
      have h1 := rOne_fn f g ns us o a v y.2.1 y.2.2 hu han ho
      obtain ⟨p, hp⟩ : ∃ p, (r == y.1) = p := ⟨_, rfl⟩
      obtain ⟨q, hq⟩ : ∃ q, ((a : Int) == y.2.2 && (!fl us a o || v == y.2.1)) = q := ⟨_, rfl⟩
      have hal : alS us o (r, v, (a : Int)) y = (p && q) := by rw [← hp, ← hq, alS, sameS, seenS, Int.toNat_natCast]
      rw [hq] at h1
      rcases p with _ | _
      · have hpv : alS us o (r, v, (a : Int)) y = false := hal
        repeat' first | (with_reducible first | refine AWP_seq' ?_ | refine k_normal ?_ | refine k_ret ?_ | refine b_ret ?_ | refine AWP_ret ?_ | refine AWP_skip ?_ | refine AWP_block ?_) | ((with_reducible first | refine AWP_reg fun KC J hJ hKC => ?_ | refine AWP_regD rfl fun KC J hJ hKC => ?_); simp (maxSteps := 10000000) only [push_cast, seval, ↓reduceIte, hlt, getE_s hx, getE_s hy, hp, undef]) | ((with_reducible refine And.intro ?_ ?_); · exact Sq) | ((first | with_reducible refine hJ _ _ ?_ | (with_reducible refine hJ _ _ ?_ ?_; · kernel_rfl)); clear hJ hKC KC J) | ((with_reducible refine AWP_condT ?_ ?_); · rfl)
        refine ret_plain ?_
        simp (maxSteps := 10000000) only [push_cast, seval, ↓reduceIte, show Try.f61.results = #[(.tmp 8)] from rfl]
        rw [rowsBS_no hx hy hpv]
        exact leD_refl _
      rcases q with _ | _
      · have hpv : alS us o (r, v, (a : Int)) y = false := hal
        repeat' first | (with_reducible first | refine AWP_seq' ?_ | refine k_normal ?_ | refine k_ret ?_ | refine b_ret ?_ | refine AWP_ret ?_ | refine AWP_skip ?_ | refine AWP_block ?_) | ((with_reducible first | refine AWP_reg fun KC J hJ hKC => ?_ | refine AWP_regD rfl fun KC J hJ hKC => ?_); simp (maxSteps := 10000000) only [push_cast, seval, ↓reduceIte, hlt, getE_s hx, getE_s hy, hp, hq, undef]) | ((with_reducible refine And.intro ?_ ?_); · exact Sq) | (refine' hKC _ _ _ _ _ (callV0 (rOne_fn _ _ _ _ _ _ _ _ _ ?_ ?_ ?_) rfl rfl rfl ?_ ?_); (rotate_left 12); (· exact Lq); (rotate_left 1); (iterate 3 (· exact Hq)); simp (maxSteps := 10000000) only [push_cast, seval, ↓reduceIte, hlt, getE_s hx, getE_s hy, hp, hq, undef]) | ((first | with_reducible refine hJ _ _ ?_ | (with_reducible refine hJ _ _ ?_ ?_; · kernel_rfl)); clear hJ hKC KC J) | ((with_reducible refine AWP_condT ?_ ?_); · rfl)
        refine ret_plain ?_
        simp (maxSteps := 10000000) only [push_cast, seval, ↓reduceIte, show Try.f61.results = #[(.tmp 8)] from rfl]
        rw [rowsBS_no hx hy hpv]
        exact leD_refl _
      · have hpv : alS us o (r, v, (a : Int)) y = true := hal
        repeat' first | (with_reducible first | refine AWP_seq' ?_ | refine k_normal ?_ | refine b_normal ?_ | refine AWP_skip ?_ | refine AWP_block ?_) | ((with_reducible first | refine AWP_reg fun KC J hJ hKC => ?_ | refine AWP_regD rfl fun KC J hJ hKC => ?_); simp (maxSteps := 10000000) only [push_cast, seval, ↓reduceIte, hlt, getE_s hx, getE_s hy, hp, hq, undef, wrapN (i := i) (n := xs.length) (by omega) (by omega)]) | ((with_reducible refine And.intro ?_ ?_); · exact Sq) | (refine' hKC _ _ _ _ _ (callV0 (rOne_fn _ _ _ _ _ _ _ _ _ ?_ ?_ ?_) rfl rfl rfl ?_ ?_); (rotate_left 12); (· exact Lq); (rotate_left 1); (iterate 3 (· exact Hq)); simp (maxSteps := 10000000) only [push_cast, seval, ↓reduceIte, hlt, getE_s hx, getE_s hy, hp, hq, undef, wrapN (i := i) (n := xs.length) (by omega) (by omega)]) | ((first | with_reducible refine hJ _ _ ?_ | (with_reducible refine hJ _ _ ?_ ?_; · kernel_rfl)); clear hJ hKC KC J) | ((with_reducible refine AWP_condT ?_ ?_); · rfl) | ((with_reducible refine AWP_condF ?_ ?_); · rfl)
        refine ⟨⟨i + 1, by omega, fun j x' y' hj h1 h2 => ?_⟩, by simp only; omega, ?_, ⟨_, rfl⟩⟩
        · by_cases hji : j = i
          · subst hji
            rw [hx] at h1; rw [hy] at h2
            cases h1; cases h2; exact hpv
          · exact hn j x' y' (by omega) h1 h2
        · exact Lq

    · skip
      repeat' first | (with_reducible first | refine AWP_seq' ?_ | refine k_normal ?_ | refine k_exit ?_ | refine b_exit ?_ | refine AWP_ret ?_ | refine AWP_exit ?_) | ((with_reducible refine AWP_reg fun KC J hJ hKC => ?_); simp (maxSteps := 10000000) only [push_cast, seval, ↓reduceIte, hlt]) | ((with_reducible refine hJ _ _ ?_); clear hJ hKC KC J) | ((with_reducible refine AWP_condF ?_ ?_); · rfl)
      refine ret_plain ?_
      simp (maxSteps := 10000000) only [push_cast, seval, ↓reduceIte, show Try.f61.results = #[(.tmp 8)] from rfl]
      rw [rowsBS_yes hl (fun j x y h1 h2 => hn j x y (by have := (List.getElem?_eq_some_iff.1 h1).1; omega) h1 h2)]
      exact leD_refl _
  · have hl' : ((xs.length : Int) != (ys.length : Int)) = true := by simp; omega
    repeat' first | (with_reducible first | refine AWP_seq' ?_ | refine k_normal ?_ | refine k_ret ?_ | refine AWP_ret ?_) | ((with_reducible refine AWP_reg fun KC J hJ hKC => ?_); simp (maxSteps := 10000000) only [push_cast, seval, ↓reduceIte, hl']) | ((with_reducible refine hJ _ _ ?_); clear hJ hKC KC J) | ((with_reducible refine AWP_condT ?_ ?_); · rfl)
    refine ret_plain ?_
    simp (maxSteps := 10000000) only [push_cast, seval, ↓reduceIte, show Try.f61.results = #[(.tmp 8)] from rfl]
    rw [rowsBS_len hl]
    exact leD_refl _
set_option maxHeartbeats 2000000 in
theorem rCodes_fn (f g fa fb : Bool) (ns : List ByteArray) (us : List Nat) (o : Nat) (xs ys : List (Int × Int × Int)) (hu : U32 us) (ho : o ≤ 1000) (hb : xs.length ≤ 1000) (hxo : ∀ x ∈ xs, oddL us.length x.2.2 = false) :
    Fn Try.prog 60 [.agg [.sl f 1 (strRow ns), .sl g 1 (u32Row us)], .v (.int .i64 (o : Int)), .sl fa 3 (tRow xs), .sl fb 3 (tRow ys)] [] (.v (.bool (rowsBI (alI us o) xs ys))) [] := by
  refine Fn.of (fn := Try.f60) (by kernel_rfl) rfl (by kernel_rfl) ⟨[.agg [.sl f 1 (strRow ns), .sl g 1 (u32Row us)], .v (.int .i64 (o : Int)), .sl fa 3 (tRow xs), .sl fb 3 (tRow ys), .v undef, .v undef, .v undef, .v undef, .v undef, .v undef, .v undef, .v undef, .v undef, .v undef, .v undef, .v undef, .v undef, .v undef, .v undef, .v undef, .v undef, .v undef, .v undef, .v undef, .v undef, .v undef, .v undef, .v undef, .v undef, .v undef, .v undef, .v undef, .v undef, .v undef, .v undef, .v undef, .v undef, .v undef, .v undef, .v undef, .v undef, .v undef, .v undef, .v undef, .v undef, .v undef, .v undef, .v undef, .v undef, .v undef, .v undef, .v undef, .v undef, .v undef, .v undef, .v undef, .v undef, .v undef], []⟩ rfl ?_
  by_cases hl : xs.length = ys.length
  · have hl' : ((xs.length : Int) != (ys.length : Int)) = false := by simp [hl]
    repeat' first | (with_reducible first | refine AWP_seq' ?_ | refine k_normal ?_ | refine AWP_skip ?_ | refine AWP_block ?_) | ((with_reducible refine AWP_reg fun KC J hJ hKC => ?_); simp (maxSteps := 10000000) only [push_cast, seval, ↓reduceIte, hl']) | ((with_reducible refine hJ _ _ ?_); clear hJ hKC KC J) | ((with_reducible refine AWP_condF ?_ ?_); · rfl)
    refine AWP_loopD 1 (γ := {i : Nat // i ≤ xs.length ∧ ∀ (j : Nat) (x y : Int × Int × Int), j < i → xs[j]? = some x → ys[j]? = some y → alI us o x y = true}) (fun i => ⟨[.any, .v (.int .i64 (o : Int)), .sl fa 3 (tRow xs), .sl fb 3 (tRow ys), .ptr 0 0 0, .any, .any, .any, .any, .any, .any, .any, .any, .any, .any, .any, .any, .sl fa 3 (tRow xs), .v (.int .i64 xs.length), .v (.int .i64 i.1), .any, .any, .any, .any, .any, .any, .any, .any, .any, .any, .any, .any, .any, .any, .any, .any, .any, .any, .any, .any, .any, .any, .any, .any, .any, .any, .any, .any, .any, .any, .any, .any, .any, .any, .any, .any, .any, .any], [.ent ⟨0, none, 25, [.sl f 1 (strRow ns), .sl g 1 (u32Row us)], .cells⟩]⟩) (fun i => xs.length - i.1) ⟨0, by omega, fun j x y h => by omega⟩ (fun i => rfl) (fun i => rfl) (fun i => rfl) ⟨?_, Fq⟩ ?_
    · exact Lq
    rintro ⟨i, hi, hn⟩
    by_cases hlt : (i : Int) < (xs.length : Int)
    · have hx : xs[i]? = some xs[i] := List.getElem?_eq_getElem (by omega)
      have hy : ys[i]? = some ys[i] := List.getElem?_eq_getElem (by omega)
      obtain ⟨x, hx0⟩ : ∃ x, xs[i] = x := ⟨_, rfl⟩
      obtain ⟨y, hy0⟩ : ∃ y, ys[i] = y := ⟨_, rfl⟩
      obtain ⟨a, ha, han⟩ := oddL_no (hxo x (by rw [← hx0]; exact List.getElem_mem (by omega)))
      rw [hx0] at hx
      rw [hy0] at hy
      obtain ⟨p, v, l⟩ := x
      simp only at ha
      subst ha
      have h1 := rSees_fn f g ns us o a hu han ho
      obtain ⟨b1, hb1⟩ : ∃ b, (p != y.1) = b := ⟨_, rfl⟩
      obtain ⟨b2, hb2⟩ : ∃ b, ((a : Int) != y.2.2) = b := ⟨_, rfl⟩
      obtain ⟨b3, hb3⟩ : ∃ b, (v != y.2.1) = b := ⟨_, rfl⟩
      obtain ⟨b4, hb4⟩ : ∃ b, (p != 1) = b := ⟨_, rfl⟩
      obtain ⟨b5, hb5⟩ : ∃ b, fl us a o = b := ⟨_, rfl⟩
      have hal : alI us o (p, v, (a : Int)) y = ((!b1 && (!b4 || !b3)) && (!b2 && (!b5 || !b3))) := by
        rw [alI, sameI, seenI, Int.toNat_natCast, hb5, ← hb1, ← hb2, ← hb3, ← hb4]
        simp only [bne, Bool.not_not]
      rw [hb5] at h1
      rcases b1 with _ | _
      rcases b2 with _ | _
      rcases b3 with _ | _
      · have hpv : alI us o (p, v, (a : Int)) y = true := by rw [hal]; simp
        repeat' first | (with_reducible first | refine AWP_seq' ?_ | refine k_normal ?_ | refine b_normal ?_ | refine AWP_skip ?_ | refine AWP_block ?_) | ((with_reducible refine AWP_reg fun KC J hJ hKC => ?_); simp (maxSteps := 10000000) only [push_cast, seval, ↓reduceIte, hlt, getE_t hx, getE_t hy, hb1, hb2, hb3, undef, wrapN (i := i) (n := xs.length) (by omega) (by omega)]) | ((with_reducible refine And.intro ?_ ?_); · exact Sq) | ((with_reducible refine hJ _ _ ?_); clear hJ hKC KC J) | ((with_reducible refine AWP_condT ?_ ?_); · rfl) | ((with_reducible refine AWP_condF ?_ ?_); · rfl)
        refine ⟨⟨i + 1, by omega, fun j x' y' hj h1 h2 => ?_⟩, by simp only; omega, ?_, ⟨_, rfl⟩⟩
        · by_cases hji : j = i
          · subst hji
            rw [hx] at h1; rw [hy] at h2
            cases h1; cases h2; exact hpv
          · exact hn j x' y' (by omega) h1 h2
        · exact Lq
      rcases b4 with _ | _
      rcases b5 with _ | _
      · have hpv : alI us o (p, v, (a : Int)) y = true := hal
        repeat' first | (with_reducible first | refine AWP_seq' ?_ | refine k_normal ?_ | refine b_normal ?_ | refine AWP_skip ?_ | refine AWP_block ?_) | ((with_reducible refine AWP_reg fun KC J hJ hKC => ?_); simp (maxSteps := 10000000) only [push_cast, seval, ↓reduceIte, hlt, getE_t hx, getE_t hy, hb1, hb2, hb3, hb4, hb5, undef, wrapN (i := i) (n := xs.length) (by omega) (by omega)]) | ((with_reducible refine And.intro ?_ ?_); · exact Sq) | (refine' hKC _ _ _ _ _ (callV0 (rSees_fn _ _ _ _ _ _ ?_ ?_ ?_) rfl rfl rfl ?_ ?_); (rotate_left 9); (· exact Lq); (rotate_left 1); (iterate 3 (· exact Hq)); simp (maxSteps := 10000000) only [push_cast, seval, ↓reduceIte, hlt, getE_t hx, getE_t hy, hb1, hb2, hb3, hb4, hb5, undef, wrapN (i := i) (n := xs.length) (by omega) (by omega)]) | ((with_reducible refine hJ _ _ ?_); clear hJ hKC KC J) | ((with_reducible refine AWP_condT ?_ ?_); · rfl) | ((with_reducible refine AWP_condF ?_ ?_); · rfl)
        refine ⟨⟨i + 1, by omega, fun j x' y' hj h1 h2 => ?_⟩, by simp only; omega, ?_, ⟨_, rfl⟩⟩
        · by_cases hji : j = i
          · subst hji
            rw [hx] at h1; rw [hy] at h2
            cases h1; cases h2; exact hpv
          · exact hn j x' y' (by omega) h1 h2
        · exact Lq
      all_goals
        have hpv : alI us o (p, v, (a : Int)) y = false := by rw [hal]; simp
        repeat' first | (with_reducible first | refine AWP_seq' ?_ | refine k_normal ?_ | refine k_ret ?_ | refine b_ret ?_ | refine AWP_ret ?_ | refine AWP_skip ?_ | refine AWP_block ?_) | ((with_reducible refine AWP_reg fun KC J hJ hKC => ?_); simp (maxSteps := 10000000) only [push_cast, seval, ↓reduceIte, hlt, getE_t hx, getE_t hy, hb1, hb2, hb3, hb4, hb5, undef]) | ((with_reducible refine And.intro ?_ ?_); · exact Sq) | (refine' hKC _ _ _ _ _ (callV0 (rSees_fn _ _ _ _ _ _ ?_ ?_ ?_) rfl rfl rfl ?_ ?_); (rotate_left 9); (· exact Lq); (rotate_left 1); (iterate 3 (· exact Hq)); simp (maxSteps := 10000000) only [push_cast, seval, ↓reduceIte, hlt, getE_t hx, getE_t hy, hb1, hb2, hb3, hb4, hb5, undef]) | ((with_reducible refine hJ _ _ ?_); clear hJ hKC KC J) | ((with_reducible refine AWP_condT ?_ ?_); · rfl) | ((with_reducible refine AWP_condF ?_ ?_); · rfl)
        refine ret_plain ?_
        simp (maxSteps := 10000000) only [push_cast, seval, ↓reduceIte, show Try.f60.results = #[(.tmp 8)] from rfl]
        rw [rowsBI_no hx hy hpv]
        exact leD_refl _

    · skip
      repeat' first | (with_reducible first | refine AWP_seq' ?_ | refine k_normal ?_ | refine k_exit ?_ | refine b_exit ?_ | refine AWP_ret ?_ | refine AWP_exit ?_) | ((with_reducible refine AWP_reg fun KC J hJ hKC => ?_); simp (maxSteps := 10000000) only [push_cast, seval, ↓reduceIte, hlt]) | ((with_reducible refine hJ _ _ ?_); clear hJ hKC KC J) | ((with_reducible refine AWP_condF ?_ ?_); · rfl)
      refine ret_plain ?_
      simp (maxSteps := 10000000) only [push_cast, seval, ↓reduceIte, show Try.f60.results = #[(.tmp 8)] from rfl]
      rw [rowsBI_yes hl (fun j x y h1 h2 => hn j x y (by have := (List.getElem?_eq_some_iff.1 h1).1; omega) h1 h2)]
      exact leD_refl _
  · have hl' : ((xs.length : Int) != (ys.length : Int)) = true := by simp; omega
    repeat' first | (with_reducible first | refine AWP_seq' ?_ | refine k_normal ?_ | refine k_ret ?_ | refine AWP_ret ?_) | ((with_reducible refine AWP_reg fun KC J hJ hKC => ?_); simp (maxSteps := 10000000) only [push_cast, seval, ↓reduceIte, hl']) | ((with_reducible refine hJ _ _ ?_); clear hJ hKC KC J) | ((with_reducible refine AWP_condT ?_ ?_); · rfl)
    refine ret_plain ?_
    simp (maxSteps := 10000000) only [push_cast, seval, ↓reduceIte, show Try.f60.results = #[(.tmp 8)] from rfl]
    rw [rowsBI_len hl]
    exact leD_refl _
end Go.Proofs.Ytabliglgeiajlaa.AM
