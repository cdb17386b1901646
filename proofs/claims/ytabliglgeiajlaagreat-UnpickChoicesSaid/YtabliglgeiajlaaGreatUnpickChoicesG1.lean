/- Walks and plain laws, put together: part 1. -/
import Derived.Test.YtabliglgeiajlaaGreatUnpickChoicesG0
import Derived.Test.YtabliglgeiajlaaGreatMc
set_option linter.unusedSimpArgs false
set_option linter.unusedVariables false
namespace Go.Proofs.YtabliglgeiajlaaGreat.AM
open Go Go.RowKit Go.Proofs
set_option maxRecDepth 100000
set_option maxHeartbeats 1000000
attribute [push_cast] zFy zSW
def zGn (n : Int) : Int := if n % 2 = 1 then (n + 1) / 2 else - (n / 2)
def zQh (d : Dr) (most : Int) : Dr × Int × Int :=
 if most < 0 ∨ 20 < most then (Dr.z, 0, 1)
 else if (zBM d (2 * most + 1)).2.2 = 0 then ((zBM d (2 * most + 1)).1, zGn (zBM d (2 * most + 1)).2.1, 0) else (Dr.z, 0, (zBM d (2 * most + 1)).2.2)
theorem zRT (n : Int) (h0 : 0 ≤ n) (h1 : n ≤ 1000) : Fn Tryz.prog 258 [.v (.int .i64 n)] [] (.v (.int .i64 (zGn n))) [] := by
 have e1 : Int.tmod n 2 = n % 2 := Int.tmod_eq_emod_of_nonneg h0
 have e2 : Int.tdiv n 2 = n / 2 := Int.tdiv_eq_ediv_of_nonneg h0
 refine Fn.of (fn := Tryz.f258) (by kernel_rfl) rfl (by kernel_rfl) ⟨[.v (.int .i64 n), .v undef, .v undef, .v undef, .v undef, .v undef, .v undef, .v undef, .v undef, .v undef, .v undef, .v undef], []⟩ rfl ?_
 repeat' first | (with_reducible first | refine zA ?_ | refine zB ?_ | refine zS ?_ | refine zI ?_ | refine zJ ?_) | ((with_reducible refine zC fun KC J hJ hKC => ?_); simp (maxSteps := 9999999) only [push_cast, seval, ↓reduceIte, e1, e2]) | ((with_reducible refine hJ _ _ ?_); clear hJ hKC KC J) | (refine zs rfl (fun h => ?_) (fun h => ?_) <;> try simp only [decide_eq_true_eq, decide_eq_false_iff_not, Bool.not_eq_true', Bool.not_eq_false', beq_iff_eq, bne_iff_ne, ne_eq, Bool.not_eq_true, Bool.or_eq_true, Bool.and_eq_true, Bool.or_eq_false_iff, Bool.and_eq_false_imp, beq_eq_false_iff_ne, bne_eq_false_iff_eq] at h)
 ·refine zE ?_
  simp (maxSteps := 9999999) only [push_cast, seval, ↓reduceIte, show Tryz.f258.results = #[(.tmp 2)] from rfl]
  rw [zCP (n := n / 2) (by omega) (by omega), zCP (by omega) (by omega)]
  exact zAF (by simp only [zGn, if_pos h]; congr 1; omega)
 ·refine zE ?_
  simp (maxSteps := 9999999) only [push_cast, seval, ↓reduceIte, show Tryz.f258.results = #[(.tmp 2)] from rfl]
  rw [zCP (n := n / 2) (by omega) (by omega), zCP (by omega) (by omega)]
  exact zAF (by simp only [zGn, if_neg h]; congr 1; omega)
def zBC (most n : Int) : Int × Int :=
 if most < 0 ∨ 20 < most then (0, 1) else if n < - most ∨ most < n then (0, 9) else if 0 < n then (2 * n - 1, 0) else (-2 * n, 0)
theorem zKz (most n : Int) : Fn Tryz.prog 256 [.v (.int .i64 most), .v (.int .i64 n)] [] (.tup [.v (.int .i64 (zBC most n).1), .v (.int .i64 (zBC most n).2)]) [] := by
 refine Fn.of (fn := Tryz.f256) (by kernel_rfl) rfl (by kernel_rfl) ⟨[.v (.int .i64 most), .v (.int .i64 n), .v undef, .v undef, .v undef, .v undef, .v undef, .v undef, .v undef, .v undef, .v undef, .v undef, .v undef, .v undef, .v undef, .v undef, .v undef, .v undef, .v undef, .v undef, .v undef, .v undef, .v undef, .v undef, .v undef, .v undef, .v undef, .v undef, .v undef, .v undef, .v undef], []⟩ rfl ?_
 by_cases h1 : most < 0
 ·skip
  repeat' first | (with_reducible first | refine zA ?_ | refine zB ?_ | refine zS ?_ | refine zg ?_ | refine zI ?_ | refine zG ?_) | ((with_reducible refine zC fun KC J hJ hKC => ?_); simp (maxSteps := 9999999) only [push_cast, seval, ↓reduceIte, h1]) | ((with_reducible refine hJ _ _ ?_); clear hJ hKC KC J) | ((with_reducible refine zF ?_ ?_); · rfl)
  refine zE ?_
  simp (maxSteps := 9999999) only [push_cast, seval, ↓reduceIte, show Tryz.f256.results = #[(.tmp 4), (.tmp 5)] from rfl]
  rw [show zBC most n = (0, 1) from if_pos (.inl h1)]
  exact Lq
 by_cases h2 : 20 < most
 ·skip
  repeat' first | (with_reducible first | refine zA ?_ | refine zB ?_ | refine zS ?_ | refine zg ?_ | refine zI ?_ | refine zG ?_) | ((with_reducible refine zC fun KC J hJ hKC => ?_); simp (maxSteps := 9999999) only [push_cast, seval, ↓reduceIte, h1, h2]) | ((with_reducible refine hJ _ _ ?_); clear hJ hKC KC J) | ((with_reducible refine zF ?_ ?_); · rfl)
  refine zE ?_
  simp (maxSteps := 9999999) only [push_cast, seval, ↓reduceIte, show Tryz.f256.results = #[(.tmp 4), (.tmp 5)] from rfl]
  rw [show zBC most n = (0, 1) from if_pos (.inr h2)]
  exact Lq
 have w1 : IntKind.i64.wrap (0 - most) = - most := by rw [zCP (by omega) (by omega)]; omega
 have hs : zBC most n = if n < - most ∨ most < n then (0, 9) else if 0 < n then (2 * n - 1, 0) else (-2 * n, 0) := if_neg (by omega)
 rw [hs]
 repeat' first | (with_reducible first | refine zA ?_ | refine zB ?_ | refine zS ?_ | refine zO ?_ | refine zg ?_ | refine zI ?_ | refine zJ ?_ | refine zG ?_) | ((with_reducible refine zC fun KC J hJ hKC => ?_); simp (maxSteps := 9999999) only [push_cast, seval, ↓reduceIte, h1, h2, w1]) | ((with_reducible refine hJ _ _ ?_); clear hJ hKC KC J) | ((with_reducible refine zF ?_ ?_); · rfl) | ((with_reducible refine zH ?_ ?_); · rfl) | ((with_reducible refine zAo (fun hs => ?_) (fun hs => ?_)) <;> (try simp only [Bool.not_eq_true, Bool.not_eq_false, Bool.not_eq_true', Bool.not_eq_false', Decidable.not_not, decide_eq_true_eq, decide_eq_false_iff_not] at hs) <;> (try simp (maxSteps := 9999999) only [push_cast, seval, ↓reduceIte, hs, h1, h2, w1])) | (refine zs rfl (fun h => ?_) (fun h => ?_) <;> try simp only [decide_eq_true_eq, decide_eq_false_iff_not, Bool.not_eq_true', Bool.not_eq_false', beq_iff_eq, bne_iff_ne, ne_eq, Bool.not_eq_true, Bool.or_eq_true, Bool.and_eq_true, Bool.or_eq_false_iff, Bool.and_eq_false_imp, beq_eq_false_iff_ne, bne_eq_false_iff_eq] at h)
 all_goals
  refine zE ?_
  simp (maxSteps := 9999999) only [push_cast, seval, ↓reduceIte, show Tryz.f256.results = #[(.tmp 4), (.tmp 5)] from rfl]
  first
   | (rw [if_pos (by omega)]; exact Lq; done)
   | (rw [if_neg (by omega), if_pos (by omega), zCP (n := 2 * n) (by omega) (by omega), zCP (by omega) (by omega)]; exact Lq; done)
   | (rw [if_neg (by omega), if_neg (by omega), zCP (by omega) (by omega)]; exact Lq; done)
theorem zMC {most n i : Int} (h0 : 0 ≤ most) (hi : 0 ≤ i) (hi2 : i ≤ 2 * most) : zGn i = n ↔ - most ≤ n ∧ n ≤ most ∧ i = if 0 < n then 2 * n - 1 else -2 * n := by
 unfold zGn
 split
 ·split <;> omega
 ·split <;> omega
theorem zKI (most n : Int) : Fn Tryz.prog 181 [.v (.int .i64 most), .v (.int .i64 n)] [] (.agg [.v (.int .i64 (zBC most n).1), .v (.int .i64 (zBC most n).2)]) [] := by
 refine Fn.of (fn := Tryz.f181) (by kernel_rfl) rfl (by kernel_rfl) ⟨[.v (.int .i64 most), .v (.int .i64 n), .v undef, .v undef, .v undef, .v undef, .v undef, .v undef, .v undef, .v undef, .v undef, .v undef, .v undef, .v undef, .v undef, .v undef, .v undef, .v undef, .v undef, .v undef, .v undef, .v undef, .v undef, .v undef, .v undef, .v undef], []⟩ rfl ?_
 by_cases h1 : most < 0
 ·skip
  repeat' first | (with_reducible first | refine zA ?_ | refine zB ?_ | refine zS ?_ | refine zI ?_) | ((with_reducible refine zC fun KC J hJ hKC => ?_); simp (maxSteps := 9999999) only [push_cast, seval, ↓reduceIte, h1]) | ((with_reducible refine hJ _ _ ?_); clear hJ hKC KC J) | ((with_reducible refine zF ?_ ?_); · rfl)
  refine zE ?_
  simp (maxSteps := 9999999) only [push_cast, seval, ↓reduceIte, show Tryz.f181.results = #[(.cell 4 130)] from rfl]
  rw [show zBC most n = (0, 1) from if_pos (.inl h1)]
  exact Lq
 by_cases h2 : 20 < most
 ·skip
  repeat' first | (with_reducible first | refine zA ?_ | refine zB ?_ | refine zS ?_ | refine zI ?_) | ((with_reducible refine zC fun KC J hJ hKC => ?_); simp (maxSteps := 9999999) only [push_cast, seval, ↓reduceIte, h1, h2]) | ((with_reducible refine hJ _ _ ?_); clear hJ hKC KC J) | ((with_reducible refine zF ?_ ?_); · rfl)
  refine zE ?_
  simp (maxSteps := 9999999) only [push_cast, seval, ↓reduceIte, show Tryz.f181.results = #[(.cell 4 130)] from rfl]
  rw [show zBC most n = (0, 1) from if_pos (.inr h2)]
  exact Lq
 have w1 : IntKind.i64.wrap (2 * most) = 2 * most := zCP (by omega) (by omega)
 have hs : zBC most n = if n < - most ∨ most < n then (0, 9) else if 0 < n then (2 * n - 1, 0) else (-2 * n, 0) := if_neg (by omega)
 rw [hs]
 repeat' first | (with_reducible first | refine zA ?_ | refine zB ?_ | refine zJ ?_ | refine zG ?_) | ((with_reducible refine zC fun KC J hJ hKC => ?_); simp (maxSteps := 9999999) only [push_cast, seval, ↓reduceIte, h1, h2]) | ((with_reducible refine hJ _ _ ?_); clear hJ hKC KC J) | ((with_reducible refine zH ?_ ?_); · rfl)
 refine ze (γ := {i : Int // 0 ≤ i ∧ i ≤ 2 * most + 1 ∧ ∀ j, 0 ≤ j → j < i → zGn j ≠ n}) (fun i => ⟨[.v (.int .i64 most), .v (.int .i64 n), .any, .any, .ptr 0 0 0, .v (.int .i64 i.1), .any, .any, .any, .any, .any, .any, .any, .any, .any, .any, .any, .any, .any, .any, .any, .any, .any, .any, .any, .any], [.ent ⟨0, none, 130, [.v (.int .i64 0), .v (.int .i64 0)], .cells⟩]⟩) (fun i => (2 * most + 1 - i.1).toNat) ⟨0, by omega, by omega, by omega⟩ ⟨?_, Fq⟩ ?_
 ·exact Lq
 ·rintro ⟨i, hi0, hi1, hi⟩
  by_cases hlt : i ≤ 2 * most
  ·skip
   repeat' first | (with_reducible first | refine zA ?_ | refine zB ?_ | refine zS ?_ | refine zO ?_ | refine zg ?_ | refine zI ?_ | refine zJ ?_ | refine zG ?_) | ((first | with_reducible refine zC fun KC J hJ hKC => ?_ | (refine' hKC _ _ _ _ _ (zD (zRT _ ?_ ?_) rfl rfl rfl ?_ ?_); (rotate_left 3); (· exact Lq); (rotate_left 1); (iterate 2 (· exact Hq)))); simp (maxSteps := 9999999) only [push_cast, seval, ↓reduceIte, w1, hlt]) | ((with_reducible refine hJ _ _ ?_); clear hJ hKC KC J) | ((with_reducible refine zF ?_ ?_); · rfl) | (refine zs rfl (fun h => ?_) (fun h => ?_) <;> try simp only [decide_eq_true_eq, decide_eq_false_iff_not, Bool.not_eq_true', Bool.not_eq_false', beq_iff_eq, bne_iff_ne, ne_eq, Bool.not_eq_true, Bool.or_eq_true, Bool.and_eq_true, Bool.or_eq_false_iff, Bool.and_eq_false_imp, beq_eq_false_iff_ne, bne_eq_false_iff_eq] at h)
   ·refine zE ?_
    simp (maxSteps := 9999999) only [push_cast, seval, ↓reduceIte, show Tryz.f181.results = #[(.cell 4 130)] from rfl]
    have := (zMC (by omega) hi0 hlt).1 h
    rw [if_neg (by omega)]
    obtain ⟨_, _, he⟩ := this
    rw [he]
    split
    ·exact Lq
    ·exact Lq
   ·refine ⟨⟨i + 1, by omega, by omega, fun j hj0 hj => ?_⟩, by simp only; omega, ?_, Fq⟩
    ·by_cases hji : j = i
     ·rw [hji]; exact h
     ·exact hi j hj0 (by omega)
    ·rw [zCP (by omega) (by omega)]
     exact Lq
  ·skip
   repeat' first | (with_reducible first | refine zA ?_ | refine zB ?_ | refine zX ?_ | refine zW ?_ | refine zI ?_ | refine zQ ?_) | ((with_reducible refine zC fun KC J hJ hKC => ?_); simp (maxSteps := 9999999) only [push_cast, seval, ↓reduceIte, w1, hlt]) | ((with_reducible refine hJ _ _ ?_); clear hJ hKC KC J) | ((with_reducible refine zH ?_ ?_); · rfl)
   refine zE ?_
   simp (maxSteps := 9999999) only [push_cast, seval, ↓reduceIte, show Tryz.f181.results = #[(.cell 4 130)] from rfl]
   have : n < -most ∨ most < n := by
    rcases Int.lt_or_le n (-most) with h | h
    ·exact .inl h
    ·rcases Int.lt_or_le most n with h' | h'
     ·exact .inr h'
     ·exfalso
      refine hi (if 0 < n then 2 * n - 1 else -2 * n) (by split <;> omega) (by split <;> omega) ((zMC (by omega) (by split <;> omega) (by split <;> omega)).2 ⟨h, h', rfl⟩)
   rw [if_pos this]
   exact Lq
theorem zHG (f : Bool) (xs : List Int) (cf : Nat) (caps : List D) (p : Int → Bool) (hb : xs.length ≤ 9223372036854775807) (hc : zk caps = true)
  (hp : ∀ x ∈ xs, Fn Tryz.prog cf (.v (.int .i64 x) :: caps) [] (.v (.bool (p x))) []) : Fn Tryz.prog 271 [.sl f 1 (zK xs), .fn cf caps] [] (.v (.int .i64 (zDQ p xs))) [] := by
 refine Fn.of (fn := Tryz.f271) (by kernel_rfl) rfl (by kernel_rfl) ⟨[.sl f 1 (zK xs), .fn cf caps, .v undef, .v undef, .v undef, .v undef, .v undef, .v undef, .v undef, .v undef, .v undef, .v undef, .v undef, .v undef, .v undef, .v undef, .v undef, .v undef, .v undef], []⟩ rfl ?_
 repeat' first | (with_reducible first | refine zA ?_ | refine zB ?_ | refine zG ?_) | ((with_reducible refine zC fun KC J hJ hKC => ?_); simp (maxSteps := 9999999) only [push_cast, seval, ↓reduceIte]) | ((with_reducible refine hJ _ _ ?_); clear hJ hKC KC J)
 refine ze (γ := {i : Nat // i ≤ xs.length ∧ ∀ (j : Nat) (hj : j < xs.length), j < i → p xs[j] = false}) (fun i => ⟨[.sl f 1 (zK xs), .fn cf caps, .any, .any, .any, .any, .any, .v (.int .i64 xs.length), .v (.int .i64 i.1), .any, .any, .any, .any, .any, .any, .any, .any, .any, .any], []⟩) (fun i => xs.length - i.1) ⟨0, by simp⟩ ⟨?_, Fq⟩ ?_
 ·exact Lq
 ·rintro ⟨i, hi, hn⟩
  by_cases hlt : (i : Int) < (xs.length : Int)
  ·have hx : xs[i]? = some xs[i] := List.getElem?_eq_getElem (by omega)
   have hfn := hp xs[i] (List.getElem_mem (by omega))
   repeat' first | (with_reducible first | refine zA ?_ | refine zB ?_ | refine zS ?_ | refine zO ?_ | refine zg ?_ | refine zI ?_ | refine zJ ?_ | refine zG ?_) | ((with_reducible refine And.intro ?_ ?_); · exact Sq) | ((first | with_reducible refine zC fun KC J hJ hKC => ?_ | (refine hKC _ _ _ _ _ (zD (hfn) rfl rfl rfl ?_ ?_); (· exact Lq))); simp (maxSteps := 9999999) only [push_cast, seval, ↓reduceIte, hlt, zo hx, zb (i := i) (n := xs.length) (by omega) hb]) | ((with_reducible refine hJ _ _ ?_); clear hJ hKC KC J) | ((with_reducible refine zF ?_ ?_); · rfl) | (refine zs rfl (fun h => ?_) (fun h => ?_) <;> try simp only [decide_eq_true_eq, decide_eq_false_iff_not, Bool.not_eq_true', Bool.not_eq_false', beq_iff_eq, bne_iff_ne, ne_eq, Bool.not_eq_true, Bool.or_eq_true, Bool.and_eq_true, Bool.or_eq_false_iff, Bool.and_eq_false_imp, beq_eq_false_iff_ne, bne_eq_false_iff_eq] at h)
   ·refine zE ?_
    simp (maxSteps := 9999999) only [push_cast, seval, ↓reduceIte, show Tryz.f271.results = #[(.tmp 4)] from rfl]
    exact zAF (by rw [zBt (by omega) h hn])
   ·refine ⟨⟨i + 1, by omega, fun j hj hji => ?_⟩, by simp only; omega, ?_, Fq⟩
    ·by_cases he : j = i
     ·subst he; exact h
     ·exact hn j hj (by omega)
    ·exact Lq
  ·skip
   repeat' first | (with_reducible first | refine zA ?_ | refine zB ?_ | refine zX ?_ | refine zW ?_ | refine zI ?_ | refine zQ ?_) | ((with_reducible refine zC fun KC J hJ hKC => ?_); simp (maxSteps := 9999999) only [push_cast, seval, ↓reduceIte, hlt]) | ((with_reducible refine hJ _ _ ?_); clear hJ hKC KC J) | ((with_reducible refine zH ?_ ?_); · rfl)
   refine zE ?_
   simp (maxSteps := 9999999) only [push_cast, seval, ↓reduceIte, show Tryz.f271.results = #[(.tmp 4)] from rfl]
   exact zAF (by rw [zBB (fun j hj => hn j hj (by omega))])
theorem zFX (f : Bool) (xs : List Int) (cf : Nat) (caps : List D) (p : Int → Bool) (hb : xs.length ≤ 9223372036854775807) (hc : zk caps = true)
  (hp : ∀ x ∈ xs, Fn Tryz.prog cf (.v (.int .i64 x) :: caps) [] (.v (.bool (p x))) []) : Fn Tryz.prog 208 [.sl f 1 (zK xs), .fn cf caps] [] (.v (.bool (xs.any p))) [] := by
 refine Fn.of (fn := Tryz.f208) (by kernel_rfl) rfl (by kernel_rfl) ⟨[.sl f 1 (zK xs), .fn cf caps, .v undef, .v undef, .v undef, .v undef, .v undef, .v undef, .v undef], []⟩ rfl ?_
 repeat' first | (with_reducible first | refine zA ?_ | refine zB ?_ | refine zI ?_) | ((first | with_reducible refine zC fun KC J hJ hKC => ?_ | (refine hKC _ _ _ _ _ (zD (zHG f xs cf caps p hb hc hp) rfl rfl rfl ?_ ?_); (· exact Lq))); simp (maxSteps := 9999999) only [push_cast, seval, ↓reduceIte]) | ((with_reducible refine hJ _ _ ?_); clear hJ hKC KC J)
 refine zE ?_
 simp (maxSteps := 9999999) only [push_cast, seval, ↓reduceIte, show Tryz.f208.results = #[(.tmp 4)] from rfl]
 exact zAF (by rw [zDd])
theorem zMs (x : Int) : Fn Tryz.prog 295 [.v (.int .i64 x)] [] (.v (.bool (decide (x < 0 ∨ 100 < x)))) [] := by
 refine Fn.of (fn := Tryz.f295) (by kernel_rfl) rfl (by kernel_rfl) ⟨[.v (.int .i64 x), .v undef, .v undef, .v undef, .v undef, .v undef, .v undef, .v undef, .v undef], []⟩ rfl ?_
 repeat' first | (with_reducible first | refine zA ?_ | refine zB ?_ | refine zI ?_) | ((with_reducible refine zC fun KC J hJ hKC => ?_); simp (maxSteps := 9999999) only [push_cast, seval, ↓reduceIte]) | ((with_reducible refine hJ _ _ ?_); clear hJ hKC KC J) | ((with_reducible refine zAo (fun hs => ?_) (fun hs => ?_)) <;> (try simp only [Bool.not_eq_true, Bool.not_eq_false, Bool.not_eq_true', Bool.not_eq_false', Decidable.not_not, decide_eq_true_eq, decide_eq_false_iff_not] at hs) <;> (try simp (maxSteps := 9999999) only [push_cast, seval, ↓reduceIte, hs]))
 all_goals
  refine zE ?_
  simp (maxSteps := 9999999) only [push_cast, seval, ↓reduceIte, show Tryz.f295.results = #[(.tmp 2)] from rfl]
  refine zAF (congrArg Value.bool (Bool.eq_iff_iff.2 ?_))
  simp
  omega
def mxI (a b : Int) : Int := if a < b then b else a
def zKR : List Int → Int
 | [] => 0
 | x :: xs => xs.foldl mxI x
theorem zOs {ws : List Int} {i : Nat} (h0 : 0 < i) (h : i < ws.length) : zKR (ws.take (i + 1)) = mxI (zKR (ws.take i)) ws[i] := by
 cases ws with
 | nil => simp at h
 | cons x xs =>
  obtain ⟨i, rfl⟩ : ∃ k, i = k + 1 := ⟨i - 1, by omega⟩
  have h' : i < xs.length := by simpa using h
  simp only [List.take_succ_cons, zKR, List.getElem_cons_succ]
  rw [List.take_succ_eq_append_getElem h', List.foldl_append]
  rfl
theorem zPQ (f : Bool) (ws : List Int) (hl : 1 ≤ ws.length) (hb : ws.length ≤ 9223372036854775807) : Fn Tryz.prog 296 [.sl f 1 (zK ws)] [] (.v (.int .i64 (zKR ws))) [] := by
 have hx : ws[0]? = some ws[0] := List.getElem?_eq_getElem (by omega)
 have hn : ¬ (ws.length : Int) < 1 := by omega
 refine Fn.of (fn := Tryz.f296) (by kernel_rfl) rfl (by kernel_rfl) ⟨[.sl f 1 (zK ws), .v undef, .v undef, .v undef, .v undef, .v undef, .v undef, .v undef, .v undef, .v undef, .v undef, .v undef, .v undef, .v undef, .v undef, .v undef, .v undef, .v undef, .v undef, .v undef, .v undef, .v undef, .v undef, .v undef, .v undef], []⟩ rfl ?_
 repeat' first | (with_reducible first | refine zA ?_ | refine zB ?_ | refine zJ ?_ | refine zG ?_) | ((with_reducible refine And.intro ?_ ?_); · exact Sq) | ((with_reducible refine zC fun KC J hJ hKC => ?_); simp (maxSteps := 9999999) only [push_cast, seval, ↓reduceIte, hn, zo hx]) | ((with_reducible refine hJ _ _ ?_); clear hJ hKC KC J) | ((with_reducible refine zH ?_ ?_); · rfl)
 refine ze (γ := {i : Nat // 1 ≤ i ∧ i ≤ ws.length}) (fun i => ⟨[.sl f 1 (zK ws), .any, .any, .v (.int .i64 (zKR (ws.take i.1))), .v (.int .i64 i.1), .any, .any, .any, .any, .any, .any, .any, .any, .any, .any, .any, .any, .any, .any, .any, .any, .any, .any, .any, .any], []⟩) (fun i => ws.length - i.1) ⟨1, by omega⟩ ⟨?_, Fq⟩ ?_
 ·have e : ws.take 1 = [ws[0]] := by
   cases ws with
   | nil => simp at hl
   | cons x xs => simp
  simp only [e, zKR, List.foldl_nil]
  exact Lq
 ·rintro ⟨i, h0, hi⟩
  by_cases hlt : (i : Int) < (ws.length : Int)
  ·have hx : ws[i]? = some ws[i] := List.getElem?_eq_getElem (by omega)
   have hm := zOs (by omega : 0 < i) (by omega : i < ws.length)
   unfold mxI at hm
   repeat' first | (with_reducible first | refine zA ?_ | refine zB ?_ | refine zO ?_ | refine zJ ?_ | refine zG ?_) | ((with_reducible refine And.intro ?_ ?_); · exact Sq) | ((with_reducible refine zC fun KC J hJ hKC => ?_); simp (maxSteps := 9999999) only [push_cast, seval, ↓reduceIte, hlt, zo hx, zb (i := i) (n := ws.length) (by omega) hb, gt_iff_lt, ← hm]) | ((with_reducible refine hJ _ _ ?_); clear hJ hKC KC J) | ((with_reducible refine zF ?_ ?_); · rfl)
   refine ⟨⟨i + 1, by omega⟩, by simp only; omega, ?_, Fq⟩
   exact Lq
  ·have e : ws.take i = ws := List.take_of_length_le (by omega)
   repeat' first | (with_reducible first | refine zA ?_ | refine zB ?_ | refine zX ?_ | refine zW ?_ | refine zI ?_ | refine zQ ?_) | ((with_reducible refine zC fun KC J hJ hKC => ?_); simp (maxSteps := 9999999) only [push_cast, seval, ↓reduceIte, hlt]) | ((with_reducible refine hJ _ _ ?_); clear hJ hKC KC J) | ((with_reducible refine zH ?_ ?_); · rfl)
   refine zE ?_
   simp (maxSteps := 9999999) only [push_cast, seval, ↓reduceIte, show Tryz.f296.results = #[(.tmp 2)] from rfl]
   rw [e]
   exact zN _
def zAI (ws : List Int) : Bool := decide (1 ≤ ws.length ∧ ws.length ≤ 20 ∧ (∀ w ∈ ws, 0 ≤ w ∧ w ≤ 100) ∧ 0 < ws.sum)
theorem zKw : ∀ {ws : List Int} (x : Int), (∀ w ∈ ws, 0 ≤ w) → 0 ≤ x → (0 < ws.foldl mxI x ↔ 0 < x + ws.sum) ∧ 0 ≤ ws.sum
 | [], x, _, hx => by simp
 | w :: ws, x, h, hx => by
  have hw := h w (by simp)
  have ih := zKw (ws := ws) (mxI x w) (fun v hv => h v (by simp [hv])) (by unfold mxI; split <;> omega)
  simp only [List.foldl_cons, List.sum_cons]
  refine ⟨ih.1.trans ?_, by omega⟩
  unfold mxI
  split <;> omega
theorem zPo {ws : List Int} (h : ∀ w ∈ ws, 0 ≤ w) : 0 < zKR ws ↔ 0 < ws.sum := by
 cases ws with
 | nil => simp [zKR]
 | cons x xs =>
  have := (zKw (ws := xs) x (fun v hv => h v (by simp [hv])) (h x (by simp))).1
  simpa [zKR] using this
theorem zBw (f : Bool) (ws : List Int) (hb : ws.length ≤ 9223372036854775807) : Fn Tryz.prog 287 [.sl f 1 (zK ws)] [] (.v (.bool (zAI ws))) [] := by
 have hcf := zFX f ws 295 [] (fun x => decide (x < 0 ∨ 100 < x)) hb rfl (fun x _ => zMs x)
 refine Fn.of (fn := Tryz.f287) (by kernel_rfl) rfl (by kernel_rfl) ⟨[.sl f 1 (zK ws), .v undef, .v undef, .v undef, .v undef, .v undef, .v undef, .v undef, .v undef, .v undef, .v undef, .v undef, .v undef, .v undef, .v undef, .v undef, .v undef, .v undef, .v undef, .v undef, .v undef, .v undef, .v undef], []⟩ rfl ?_
 by_cases h1 : (1 : Int) ≤ ws.length
 ·have hmx := zPQ f ws (by omega) hb
  repeat' first | (with_reducible first | refine zA ?_ | refine zB ?_ | refine zI ?_) | ((first | with_reducible refine zC fun KC J hJ hKC => ?_ | (refine' hKC _ _ _ _ _ (zD (zPQ _ _ ?_ ?_) rfl rfl rfl ?_ ?_); (rotate_left 4); (· exact Lq); (rotate_left 1); (iterate 2 (· exact Hq))) | (refine hKC _ _ _ _ _ (zD (hcf) rfl rfl rfl ?_ ?_); (· exact Lq))); simp (maxSteps := 9999999) only [push_cast, seval, ↓reduceIte, h1]) | ((with_reducible refine hJ _ _ ?_); clear hJ hKC KC J) | ((with_reducible refine zAo (fun hs => ?_) (fun hs => ?_)) <;> (try simp only [Bool.not_eq_true, Bool.not_eq_false, Bool.not_eq_true', Bool.not_eq_false', Decidable.not_not, decide_eq_true_eq, decide_eq_false_iff_not] at hs) <;> (try simp (maxSteps := 9999999) only [push_cast, seval, ↓reduceIte, hs, h1]))
  all_goals
   refine zE ?_
   simp (maxSteps := 9999999) only [push_cast, seval, ↓reduceIte, show Tryz.f287.results = #[(.tmp 2)] from rfl]
   refine zAF (congrArg Value.bool (Bool.eq_iff_iff.2 ?_))
   simp only [zAI, decide_eq_true_eq, Bool.false_eq_true, false_iff]
  ·have ha : ∀ w ∈ ws, 0 ≤ w ∧ w ≤ 100 := by
    intro w hw
    have := List.any_eq_false.1 hs w hw
    simp at this
    omega
   have := zPo (fun w hw => (ha w hw).1)
   exact ⟨fun hm => ⟨by omega, by omega, ha, this.1 hm⟩, fun hm => this.2 hm.2.2.2⟩
  ·rintro ⟨_, _, ha, _⟩
   obtain ⟨w, hw, h2⟩ := List.any_eq_true.1 hs
   have := ha w hw
   simp at h2
   omega
  ·omega
 ·skip
  repeat' first | (with_reducible first | refine zA ?_ | refine zB ?_ | refine zI ?_) | ((with_reducible refine zC fun KC J hJ hKC => ?_); simp (maxSteps := 9999999) only [push_cast, seval, ↓reduceIte, h1]) | ((with_reducible refine hJ _ _ ?_); clear hJ hKC KC J)
  refine zE ?_
  simp (maxSteps := 9999999) only [push_cast, seval, ↓reduceIte, show Tryz.f287.results = #[(.tmp 2)] from rfl]
  refine zAF (congrArg Value.bool (Bool.eq_iff_iff.2 ?_))
  simp only [zAI, decide_eq_true_eq, Bool.false_eq_true, false_iff]
  omega
theorem zBg {ws : List Int} (h : ∀ w ∈ ws, 0 ≤ w ∧ w ≤ 100) (i : Nat) : 0 ≤ (ws.take i).sum ∧ (ws.take i).sum ≤ 100 * i := by
 induction i generalizing ws with
 | zero => simp
 | succ i ih =>
  cases ws with
  | nil => simp; omega
  | cons w ws =>
   have := h w (by simp)
   have := ih (ws := ws) (fun v hv => h v (by simp [hv]))
   simp only [List.take_succ_cons, List.sum_cons]
   omega
theorem zBU {ws : List Int} {i : Nat} (h : i < ws.length) : (ws.take (i + 1)).sum = (ws.take i).sum + ws[i] := by
 rw [List.take_succ_eq_append_getElem h, List.sum_append]; simp
theorem zKZ (f : Bool) (ws : List Int) : Fn Tryz.prog 288 [.sl f 1 (zK ws)] [] (.fn 297 [.fad [.sl f 1 (zK ws)]]) [] := by
 refine Fn.of (fn := Tryz.f288) (by kernel_rfl) rfl (by kernel_rfl) ⟨[.sl f 1 (zK ws), .v undef, .v undef, .v undef], []⟩ rfl ?_
 repeat' first | (with_reducible first | refine zA ?_ | refine zB ?_) | ((with_reducible refine zC fun KC J hJ hKC => ?_); simp (maxSteps := 9999999) only [push_cast, seval, ↓reduceIte]) | ((with_reducible refine hJ _ _ ?_); clear hJ hKC KC J)
 refine zt 0 rfl (by simp (maxSteps := 9999999) only [push_cast, seval, ↓reduceIte]) ?_
 simp (maxSteps := 9999999) only [push_cast, seval, ↓reduceIte, zAH, zd, fr3, fr2, fr1, fr0, zl, zj, List.drop_zero]
 refine zI ?_
 refine zE ?_
 simp (maxSteps := 9999999) only [push_cast, seval, ↓reduceIte, show Tryz.f288.results = #[(.tmp 2)] from rfl]
 exact Lq
theorem zKm (f : Bool) (ws : List Int) (hw : ∀ w ∈ ws, 0 ≤ w ∧ w ≤ 100) (hl : ws.length ≤ 1000) :
  zRL Tryz.prog 297 [.fad [.sl f 1 (zK ws)]] ws.length (fun i => [.v (.int .i64 (i : Int)), .v (.int .i64 (ws.take (i + 1)).sum)]) := by
 intro m inv ok frr rr hrec hcl hlen hy n hn
 refine Fn.of (fn := Tryz.f297) (by kernel_rfl) rfl (by kernel_rfl) ⟨[.kref false m 0, .fad [.sl f 1 (zK ws)], .v undef, .v undef, .v undef, .v undef, .v undef, .v undef, .v undef, .v undef, .v undef, .v undef, .v undef, .v undef, .v undef, .v undef, .v undef, .v undef, .v undef, .v undef, .v undef, .v undef], inv 0⟩ rfl ?_
 repeat' first | (with_reducible first | refine zA ?_ | refine zB ?_ | refine zG ?_) | ((with_reducible refine zC fun KC J hJ hKC => ?_); simp (maxSteps := 9999999) only [push_cast, seval, ↓reduceIte]) | ((with_reducible refine hJ _ _ ?_); clear hJ hKC KC J)
 refine ze (γ := {i : Nat // i ≤ ws.length ∧ ∀ j, j < i → ok j = true}) (fun i => ⟨[.kref false m 0, .fad [.sl f 1 (zK ws)], .any, .v (.int .i64 (ws.take i.1).sum), .any, .any, .sl f 1 (zK ws), .v (.int .i64 ws.length), .v (.int .i64 i.1), .any, .any, .any, .any, .any, .any, .any, .any, .any, .any, .any, .any, .any], inv i.1⟩) (fun i => ws.length - i.1) ⟨0, by simp⟩ ⟨?_, Fq⟩ ?_
 ·exact Lq
 ·rintro ⟨i, hi, hok⟩
  by_cases hlt : (i : Int) < (ws.length : Int)
  ·have hx : ws[i]? = some ws[i] := List.getElem?_eq_getElem (by omega)
   have hb := zBg hw i
   have hwi := hw ws[i] (List.getElem_mem _)
   have hs : IntKind.i64.wrap ((ws.take i).sum + ws[i]) = (ws.take (i + 1)).sum := by rw [zBU (by omega), zCP (by omega) (by omega)]
   have hyi := hy i (by omega) hok
   have hL : (inv (i + 1)).length = (inv i).length := by rw [hlen, hlen]
   have hset := zEY (rest := [Slot.free]) hL
   have hj1 : ok i = true → ∀ j, j < i + 1 → ok j = true := fun h j hj => by
    by_cases he : j = i
    ·rw [he]; exact h
    ·exact hok j (by omega)
   cases hoki : ok i with
   | true =>
    rw [hoki] at hyi
    repeat' first | (with_reducible first | refine zA ?_ | refine zB ?_ | refine zO ?_ | refine zJ ?_ | refine zG ?_) | ((with_reducible refine And.intro ?_ ?_); · exact Sq) | ((first | with_reducible refine zC fun KC J hJ hKC => ?_ | (refine hKC _ _ _ _ _ (zNg hyi (hrec i) (hcl i) (hcl (i + 1)) hL rfl (Nat.le_refl _) rfl rfl rfl rfl ?_))); simp (maxSteps := 9999999) only [push_cast, seval, ↓reduceIte, hlt, zo hx, hs, hset, zb (i := i) (n := ws.length) (by omega) (by omega)]) | ((with_reducible refine hJ _ _ ?_); clear hJ hKC KC J) | ((with_reducible refine zF ?_ ?_); · rfl) | ((with_reducible refine zH ?_ ?_); · rfl)
    refine ⟨⟨i + 1, by omega, hj1 hoki⟩, by simp only; omega, ?_, Fq⟩
    exact Lq
   | false =>
    rw [hoki] at hyi
    repeat' first | (with_reducible first | refine zA ?_ | refine zB ?_ | refine zS ?_ | refine zg ?_ | refine zI ?_ | refine zJ ?_ | refine zG ?_) | ((with_reducible refine And.intro ?_ ?_); · exact Sq) | ((first | with_reducible refine zC fun KC J hJ hKC => ?_ | (refine hKC _ _ _ _ _ (zNg hyi (hrec i) (hcl i) (hcl (i + 1)) hL rfl (Nat.le_refl _) rfl rfl rfl rfl ?_))); simp (maxSteps := 9999999) only [push_cast, seval, ↓reduceIte, hlt, zo hx, hs, hset, zb (i := i) (n := ws.length) (by omega) (by omega)]) | ((with_reducible refine hJ _ _ ?_); clear hJ hKC KC J) | ((with_reducible refine zF ?_ ?_); · rfl)
    have hni : n = i + 1 := by
     rcases hn with ⟨h1, h2⟩ | ⟨k, h1, h2, h3, h4⟩
     ·have := h2 i (by omega); rw [hoki] at this; cases this
     ·rcases Nat.lt_trichotomy k i with h | h | h
      ·have := hok k h; rw [h3] at this; cases this
      ·omega
      ·have := h4 i h; rw [hoki] at this; cases this
    rw [hni]
    exact zKB 1 (.inr rfl) rfl rfl (hcl _) (by rw [hlen, hlen])
  ·have hni : n = i := by
    rcases hn with ⟨h1, h2⟩ | ⟨k, h1, h2, h3, h4⟩
    ·omega
    ·have := hok k (by omega); rw [h3] at this; cases this
   repeat' first | (with_reducible first | refine zA ?_ | refine zB ?_ | refine zX ?_ | refine zW ?_ | refine zQ ?_) | ((with_reducible refine zC fun KC J hJ hKC => ?_); simp (maxSteps := 9999999) only [push_cast, seval, ↓reduceIte, hlt]) | ((with_reducible refine hJ _ _ ?_); clear hJ hKC KC J) | ((with_reducible refine zH ?_ ?_); · rfl)
   rw [hni]
   exact zKB 0 (.inl rfl) rfl (by simp) (hcl _) (by rw [hlen, hlen])
theorem zCa {ws : List Int} (h : zAI ws = true) : 1 ≤ ws.length ∧ ws.length ≤ 20 ∧ (∀ w ∈ ws, 0 ≤ w ∧ w ≤ 100) ∧ 0 < ws.sum := by simpa [zAI] using h
def zEu (ws : List Int) (n : Int) : Int := match (List.range ws.length).find? (fun i => decide (n < (ws.take (i + 1)).sum)) with | some i => (i : Int) | none => 0
theorem zIk {ws : List Int} {n : Int} {k : Nat} (hk : k < ws.length) (h : n < (ws.take (k + 1)).sum) (hb : ∀ j, j < k → ¬ n < (ws.take (j + 1)).sum) : zEu ws n = k := by
 have : (List.range ws.length).find? (fun i => decide (n < (ws.take (i + 1)).sum)) = some k := by
  rw [List.find?_range_eq_some]
  exact ⟨by simpa using h, by simpa using hk, fun j hj => by simpa using hb j hj⟩
 simp [zEu, this]
theorem zIf {ws : List Int} {n : Int} (hb : ∀ j, j < ws.length → ¬ n < (ws.take (j + 1)).sum) : zEu ws n = 0 := by
 have : (List.range ws.length).find? (fun i => decide (n < (ws.take (i + 1)).sum)) = none := by
  rw [List.find?_range_eq_none]
  exact fun j hj => by simpa using hb j hj
 simp [zEu, this]
def zCQ (d : Dr) (ws : List Int) : Dr × Int × Int :=
 if zAI ws = false then (Dr.z, 0, 1)
 else if (zBM d ws.sum).2.2 = 0 then ((zBM d ws.sum).1, zEu ws (zBM d ws.sum).2.1, 0) else (Dr.z, 0, (zBM d ws.sum).2.2)
theorem zLo (f g e' : Bool) (l lg ws : List Int) (a : Int) (hb : ws.length ≤ 9223372036854775807) :
  Fn Tryz.prog 267 [.agg [.sl f 1 (zK l), .v (.int .i64 a), .sl g 1 (zK lg)], .sl e' 1 (zK ws)] []
   (.tup [zFy f false (zCQ ⟨l, a, lg⟩ ws).1, .v (.int .i64 (zCQ ⟨l, a, lg⟩ ws).2.1), .v (.int .i64 (zCQ ⟨l, a, lg⟩ ws).2.2)]) [] := by
 refine Fn.of (fn := Tryz.f267) (by kernel_rfl) rfl (by kernel_rfl) ⟨[.agg [.sl f 1 (zK l), .v (.int .i64 a), .sl g 1 (zK lg)], .sl e' 1 (zK ws), .v undef, .v undef, .v undef, .v undef, .v undef, .v undef, .v undef, .v undef, .v undef, .v undef, .v undef, .v undef, .v undef, .v undef, .v undef, .v undef, .v undef, .v undef, .v undef, .v undef, .v undef, .v undef, .v undef, .v undef, .v undef, .v undef, .v undef, .v undef, .v undef, .v undef, .v undef, .v undef, .v undef, .v undef, .v undef, .v undef, .v undef, .v undef, .v undef, .v undef, .v undef, .v undef], []⟩ rfl ?_
 by_cases hw : zAI ws = true
 ·obtain ⟨h1, h2, h3, h4⟩ := zCa hw
  have hsum := zBg h3 ws.length
  rw [List.take_length] at hsum
  repeat' first | (with_reducible first | refine zA ?_ | refine zB ?_ | refine zJ ?_ | refine zG ?_) | ((first | with_reducible refine zC fun KC J hJ hKC => ?_ | (refine' hKC _ _ _ _ _ (zD (zBw _ _ ?_) rfl rfl rfl ?_ ?_); (rotate_left 3); (· exact Lq); (rotate_left 1); (iterate 1 (· exact Hq))) | (refine' hKC _ _ _ _ _ (zD (zKZ _ _) rfl rfl rfl ?_ ?_); (rotate_left 2); (· exact Lq))); simp (maxSteps := 9999999) only [push_cast, seval, ↓reduceIte, hw]) | ((with_reducible refine hJ _ _ ?_); clear hJ hKC KC J) | ((with_reducible refine zH ?_ ?_); · rfl)
  refine zKj ([.agg [.sl f 1 (zK l), .v (.int .i64 a), .sl g 1 (zK lg)], .sl e' 1 (zK ws), .ptr 0 0 0, .any, .ptr 1 0 0, .ptr 2 0 0, .ptr 3 0 0, .ptr 5 0 0, .any, .any, .any, .any, .any, .any, .any, .any, .any, .any, .any, .fn 297 [.fad [.sl e' 1 (zK ws)]], .any, .any, .any, .any, .any, .any, .any, .any, .any, .any, .any, .any, .any, .any, .any, .any, .any, .any, .any, .any, .any, .any, .any, .any]) (by exact Lq) ?_
  refine zJs (f := 297) rfl rfl (zKm e' ws h3 (by omega)) (fun i hi => rfl) 7 rfl rfl
   (fun i => [.ent ⟨0, none, 30, [.sl f 1 (zK l), .v (.int .i64 a), .sl g 1 (zK lg)], .cells⟩, .ent ⟨0, none, 30, [.v (.slice none 0 0), .v (.int .i64 0), .v (.slice none 0 0)], .cells⟩, .ent ⟨0, none, 3, [.v (.int .i64 0)], .cells⟩, .ent ⟨0, none, 40, [.v (.int .i64 0)], .cells⟩, .free, .ent ⟨0, none, 3, [.v (.int .i64 (ws.take i).sum)], .cells⟩, .free])
   rfl (fun i => rfl) (fun i => rfl) (fun i => rfl) (fun _ => true) .ret .ret rfl
   (fun i => [.agg [.sl f 1 (zK l), .v (.int .i64 a), .sl g 1 (zK lg)], .sl e' 1 (zK ws), .ptr 0 0 0, .any, .ptr 1 0 0, .ptr 2 0 0, .ptr 3 0 0, .ptr 5 0 0, .any, .v (.int .i64 (ws.take (i + 1)).sum), .any, .any, .any, .any, .any, .any, .any, .any, .any, .fn 297 [.fad [.sl e' 1 (zK ws)]], .v (.int .i64 (i : Int)), .v (.int .i64 (ws.take (i + 1)).sum), .any, .any, .any, .any, .any, .any, .any, .any, .any, .any, .any, .any, .any, .any, .any, .any, .any, .any, .any, .any, .any, .any])
   (fun l' i r hi => ?_) (fun i => rfl) (fun l' i hi _ => ?_) (fun _ => ?_) (fun k hk h _ => by cases h)
  ·skip
   repeat' first | ((with_reducible refine And.intro ?_ ?_); · exact Sq) | ((with_reducible refine zC fun KC J hJ hKC => ?_); simp (maxSteps := 9999999) only [push_cast, seval, ↓reduceIte]) | ((with_reducible refine hJ _ _ ?_); clear hJ hKC KC J)
   exact rfl
  ·skip
   repeat' first | (with_reducible first | refine zO ?_ | refine zG ?_) | ((with_reducible refine zC fun KC J hJ hKC => ?_); simp (maxSteps := 9999999) only [push_cast, seval, ↓reduceIte]) | ((with_reducible refine hJ _ _ ?_); clear hJ hKC KC J)
   exact ⟨zP (k := 0) rfl rfl rfl, rfl⟩
  ·obtain ⟨t, ht⟩ : ∃ t, zBM ⟨l, a, lg⟩ ws.sum = t := ⟨_, rfl⟩
   have hs : zCQ ⟨l, a, lg⟩ ws = if t.2.2 = 0 then (t.1, zEu ws t.2.1, 0) else (Dr.z, 0, t.2.2) := by rw [← ht]; exact if_neg (by simp [hw])
   rw [hs]
   repeat' first | (with_reducible first | refine zA ?_ | refine zB ?_ | refine zS ?_ | refine zO ?_ | refine zI ?_ | refine zJ ?_ | refine zG ?_) | ((first | with_reducible refine zC fun KC J hJ hKC => ?_ | (refine' hKC _ _ _ _ _ (zD (zKZ _ _) rfl rfl rfl ?_ ?_); (rotate_left 2); (· exact Lq)) | (refine' hKC _ _ _ _ _ (zD (zRY _ _ _ _ _ _ ?_) rfl rfl rfl ?_ ?_); (rotate_left 7); (· exact Lq); (rotate_left 1); (iterate 1 (· exact Hq)))); simp (maxSteps := 9999999) only [push_cast, seval, ↓reduceIte, ht, List.take_length]) | ((with_reducible refine hJ _ _ ?_); clear hJ hKC KC J) | (refine zs rfl (fun h => ?_) (fun h => ?_) <;> try simp only [decide_eq_true_eq, decide_eq_false_iff_not, Bool.not_eq_true', Bool.not_eq_false', beq_iff_eq, bne_iff_ne, ne_eq, Bool.not_eq_true, Bool.or_eq_true, Bool.and_eq_true, Bool.or_eq_false_iff, Bool.and_eq_false_imp, beq_eq_false_iff_ne, bne_eq_false_iff_eq] at h)
   ·refine zE ?_
    simp (maxSteps := 9999999) only [push_cast, seval, ↓reduceIte, show Tryz.f267.results = #[(.cell 4 30), (.cell 5 3), (.cell 6 40)] from rfl]
    rw [if_neg h]
    exact Lq
   ·rw [if_pos h]
    obtain ⟨ok, hok⟩ : ∃ ok : Nat → Bool, ok = fun i => decide (¬ t.2.1 < (ws.take (i + 1)).sum) := ⟨_, rfl⟩
    refine zKj ([.any, .sl e' 1 (zK ws), .ptr 0 0 0, .any, .ptr 1 0 0, .ptr 2 0 0, .ptr 3 0 0, .any, .any, .any, .ptr 9 0 0, .any, .any, .any, .any, .any, .any, .any, .any, .any, .any, .any, .any, .any, .any, .any, .any, .any, .any, .any, .any, .any, .any, .any, .any, .fn 297 [.fad [.sl e' 1 (zK ws)]], .any, .any, .any, .any, .any, .any, .any, .any]) (by exact Lq) ?_
    refine zQo [.ent ⟨0, none, 30, [.sl f 1 (zK t.1.l), .v (.int .i64 t.1.a), .sl false 1 (zK t.1.g)], .cells⟩, .ent ⟨0, none, 30, [.v (.slice none 0 0), .v (.int .i64 0), .v (.slice none 0 0)], .cells⟩, .ent ⟨0, none, 3, [.v (.int .i64 0)], .cells⟩, .ent ⟨0, none, 40, [.v (.int .i64 0)], .cells⟩, .free, .dead, .free, .dead, .free, .ent ⟨0, none, 3, [.v (.int .i64 t.2.1)], .cells⟩, .free] (by simp [leS]) ?_
    refine zDl (f := 297) rfl rfl (zKm e' ws h3 (by omega)) (fun i hi => rfl) 11 rfl rfl
     (fun i => [.ent ⟨0, none, 30, [.sl f 1 (zK t.1.l), .v (.int .i64 t.1.a), .sl false 1 (zK t.1.g)], .cells⟩, .ent ⟨0, none, 30, [.v (.slice none 0 0), .v (.int .i64 0), .v (.slice none 0 0)], .cells⟩, .ent ⟨0, none, 3, [.v (.int .i64 0)], .cells⟩, .ent ⟨0, none, 40, [.v (.int .i64 0)], .cells⟩, .free, .dead, .free, .dead, .free, .ent ⟨0, none, 3, [.v (.int .i64 t.2.1)], .cells⟩, .free]) (fun i => [.ent ⟨0, none, 30, [.sl f 1 (zK t.1.l), .v (.int .i64 t.1.a), .sl false 1 (zK t.1.g)], .cells⟩, .ent ⟨0, none, 30, [.sl f 1 (zK t.1.l), .v (.int .i64 t.1.a), .sl false 1 (zK t.1.g)], .cells⟩, .ent ⟨0, none, 3, [.v (.int .i64 (i : Int))], .cells⟩, .ent ⟨0, none, 40, [.v (.int .i64 0)], .cells⟩, .free, .dead, .free, .dead, .free, .ent ⟨0, none, 3, [.v (.int .i64 t.2.1)], .cells⟩, .free])
     rfl (fun i => ⟨rfl, rfl⟩) (fun i => ⟨rfl, rfl⟩) (fun i => ⟨rfl, rfl⟩) (fun i => decide (¬ t.2.1 < (ws.take (i + 1)).sum)) .ret .ret rfl
     (fun i => [.any, .sl e' 1 (zK ws), .ptr 0 0 0, .any, .ptr 1 0 0, .ptr 2 0 0, .ptr 3 0 0, .any, .any, .any, .ptr 9 0 0, .any, .v (.int .i64 (i : Int)), .v (.int .i64 (ws.take (i + 1)).sum), .any, .any, .any, .any, .any, .any, .any, .any, .any, .any, .any, .any, .any, .any, .any, .any, .any, .any, .any, .any, .any, .fn 297 [.fad [.sl e' 1 (zK ws)]], .v (.int .i64 (i : Int)), .v (.int .i64 (ws.take (i + 1)).sum), .any, .any, .any, .any, .any, .any])
     (fun l' i r σ hi => ?_) (fun i => rfl) (fun l' i hi hb' => ?_) (fun hall => ?_) (fun k hk hkf hkb => ?_)
    ·skip
     repeat' first | (with_reducible first | refine zA ?_ | refine zB ?_) | ((with_reducible refine And.intro ?_ ?_); · exact Sq) | ((with_reducible refine zC fun KC J hJ hKC => ?_); simp (maxSteps := 9999999) only [push_cast, seval, ↓reduceIte]) | ((with_reducible refine hJ _ _ ?_); clear hJ hKC KC J)
     exact rfl
    ·skip
     repeat' first | (with_reducible first | refine zA ?_ | refine zB ?_ | refine zO ?_ | refine zg ?_ | refine zI ?_ | refine zJ ?_ | refine zG ?_) | ((with_reducible refine zC fun KC J hJ hKC => ?_); simp (maxSteps := 9999999) only [push_cast, seval, ↓reduceIte]) | ((with_reducible refine hJ _ _ ?_); clear hJ hKC KC J) | (refine zs rfl (fun h => ?_) (fun h => ?_) <;> try simp only [decide_eq_true_eq, decide_eq_false_iff_not, Bool.not_eq_true', Bool.not_eq_false', beq_iff_eq, bne_iff_ne, ne_eq, Bool.not_eq_true, Bool.or_eq_true, Bool.and_eq_true, Bool.or_eq_false_iff, Bool.and_eq_false_imp, beq_eq_false_iff_ne, bne_eq_false_iff_eq] at h)
     ·exact .inr ⟨by simp [h], rfl, zP (k := 0) rfl rfl rfl⟩
     ·exact .inl ⟨by simp [h], rfl, zP (k := 0) rfl rfl rfl⟩
    ·rw [zIf (fun j hj => by have := hall j hj; simpa using this)]
     repeat' first | (with_reducible first | refine zA ?_ | refine zB ?_ | refine zO ?_ | refine zI ?_) | ((with_reducible refine zC fun KC J hJ hKC => ?_); simp (maxSteps := 9999999) only [push_cast, seval, ↓reduceIte]) | ((with_reducible refine hJ _ _ ?_); clear hJ hKC KC J)
     refine zE ?_
     simp (maxSteps := 9999999) only [push_cast, seval, ↓reduceIte, show Tryz.f267.results = #[(.cell 4 30), (.cell 5 3), (.cell 6 40)] from rfl]
     exact Lq
    ·rw [zIk hk (by simpa using hkf) (fun j hj => by have := hkb j hj; simpa using this)]
     repeat' first | (with_reducible first | refine zS ?_ | refine zg ?_)
     refine zE ?_
     simp (maxSteps := 9999999) only [push_cast, seval, ↓reduceIte, show Tryz.f267.results = #[(.cell 4 30), (.cell 5 3), (.cell 6 40)] from rfl]
     exact Lq
 ·have hw' : zAI ws = false := by simpa using hw
  repeat' first | (with_reducible first | refine zA ?_ | refine zB ?_ | refine zS ?_ | refine zI ?_) | ((first | with_reducible refine zC fun KC J hJ hKC => ?_ | (refine' hKC _ _ _ _ _ (zD (zBw _ _ ?_) rfl rfl rfl ?_ ?_); (rotate_left 3); (· exact Lq); (rotate_left 1); (iterate 1 (· exact Hq)))); simp (maxSteps := 9999999) only [push_cast, seval, ↓reduceIte, hw']) | ((with_reducible refine hJ _ _ ?_); clear hJ hKC KC J) | ((with_reducible refine zF ?_ ?_); · rfl)
  refine zE ?_
  simp (maxSteps := 9999999) only [push_cast, seval, ↓reduceIte, show Tryz.f267.results = #[(.cell 4 30), (.cell 5 3), (.cell 6 40)] from rfl]
  rw [show zCQ ⟨l, a, lg⟩ ws = (Dr.z, 0, 1) from if_pos hw']
  exact Lq
section
inductive Cp (α : Type) where
 | ret (x : α)
 | bad (e : Int)
 | take (b : Int) (k : Int → Cp α)
namespace Cp
variable {α β γ : Type}
def bind : Cp α → (α → Cp β) → Cp β
 | .ret x, f => f x
 | .bad e, _ => .bad e
 | .take b k, f => .take b fun n => (k n).bind f
def run : Cp α → Dr → Except Int (Dr × α)
 | .ret x, d => .ok (d, x)
 | .bad e, _ => .error e
 | .take b k, d => if (zBM d b).2.2 = 0 then (k (zBM d b).2.1).run (zBM d b).1 else .error (zBM d b).2.2
theorem run_bind (c : Cp α) (f : α → Cp β) (d : Dr) : (c.bind f).run d = match c.run d with | .ok (d', x) => (f x).run d' | .error e => .error e := by
 induction c generalizing d with
 | ret x => rfl
 | bad e => rfl
 | take b k ih =>
  simp only [bind, run]
  by_cases h : (zBM d b).2.2 = 0
  ·rw [if_pos h, if_pos h, ih]
  ·rw [if_neg h, if_neg h]
def times (c : Cp α) : Nat → Cp (List α)
 | 0 => .ret []
 | n + 1 => (times c n).bind fun l => c.bind fun x => .ret (l ++ [x])
def rows (c : Cp α) (most : Int) : Cp (List α) := .take (most + 1) fun n => c.times n.toNat
end Cp
abbrev M3 := Dr × Int × Int
def Is {α : Type} (f : M3 → M3 × α) (c : Cp α) : Prop :=
 (∀ d n, match c.run d with | .ok (d', x) => ∃ n', f (d, n, 0) = ((d', n', 0), x) | .error e => e ≠ 0 ∧ (f (d, n, 0)).1.2.2 = e) ∧ ∀ d n e, e ≠ 0 → (f (d, n, e)).1.2.2 = e
section
variable {α β : Type}
theorem Is.bind {f : M3 → M3 × α} {c : Cp α} {g : α → M3 → M3 × β} {k : α → Cp β} (h : Is f c) (hg : ∀ x, Is (g x) (k x)) : Is (fun m => g (f m).2 (f m).1) (c.bind k) := by
 refine ⟨fun d n => ?_, fun d n e he => ?_⟩
 ·have h1 := h.1 d n
  rw [Cp.run_bind]
  cases hr : c.run d with
  | error e =>
   rw [hr] at h1
   obtain ⟨he, h2⟩ := h1
   obtain ⟨⟨⟨d1, n1, e1⟩, x⟩, hf⟩ : ∃ r, f (d, n, 0) = r := ⟨_, rfl⟩
   rw [hf] at h2
   simp only at h2
   subst h2
   exact ⟨he, by simp only [hf]; exact (hg x).2 d1 n1 e1 he⟩
  | ok r =>
   obtain ⟨d', x⟩ := r
   rw [hr] at h1
   obtain ⟨n', hf⟩ := h1
   have h3 := (hg x).1 d' n'
   simp only [hf]
   exact h3
 ·have h1 := h.2 d n e he
  obtain ⟨⟨⟨d1, n1, e1⟩, x⟩, hf⟩ : ∃ r, f (d, n, e) = r := ⟨_, rfl⟩
  rw [hf] at h1
  simp only at h1
  subst h1
  simp only [hf]
  exact (hg x).2 d1 n1 e1 he
theorem Is.ret (x : α) : Is (fun m => (m, x)) (.ret x) := ⟨fun d n => ⟨n, rfl⟩, fun _ _ _ _ => rfl⟩
theorem Is.ext {f g : M3 → M3 × α} {c : Cp α} (h : Is f c) (he : ∀ m, f m = g m) : Is g c := by
 rw [show g = f from (funext he).symm]; exact h
def zKL (one : M3 → M3 × α) : Nat → M3 → M3 × List α
 | 0, m => (m, [])
 | n + 1, m => let r := zKL one n m; let x := one r.1; (x.1, r.2 ++ [x.2])
theorem Is.times {f : M3 → M3 × α} {c : Cp α} (h : Is f c) : ∀ n, Is (zKL f n) (c.times n)
 | 0 => .ret []
 | n + 1 => (Is.bind (Is.times h n) (g := fun l m => ((f m).1, l ++ [(f m).2])) (k := fun l => c.bind fun x => .ret (l ++ [x])) fun l => (Is.bind h (g := fun x m => (m, l ++ [x])) (k := fun x => .ret (l ++ [x])) fun x => .ret (l ++ [x]))).ext fun m => rfl
end
def zRh (m t : M3) : M3 := if m.2.2 = 0 then if t.2.2 = 0 then t else (m.1, 0, t.2.2) else (m.1, 0, m.2.2)
def zRt (b : Int) : Cp Int := .take b .ret
def zTN (v : Int) : Cp Int := if v < 0 ∨ 20 < v then .bad 1 else .take (2 * v + 1) fun n => .ret (zGn n)
end
structure Sp where
 code : Int
 mem : Int
 stack : Int
 val : Int
 ws : List Int
section
variable {α β : Type}
end
theorem Is.rows {α : Type} {b : M3 → M3 × Int} {f : M3 → M3 × α} {c : Cp α} {most : Int} (hb : Is b (zRt (most + 1))) (h : Is f c) : Is (fun m => zKL f (b m).2.toNat (b m).1) (c.rows most) :=
 Is.bind hb (g := fun n => zKL f n.toNat) (k := fun n => c.times n.toNat) fun n => h.times _
def Sta.z : Sta := ⟨0, 0, [], [], [], []⟩
def zPS (m : M3) (b : Int) : M3 := zRh m (zBM m.1 b)
def zRW (m : M3) (v : Int) : M3 := zRh m (zQh m.1 v)
theorem zEg (f : Bool) (ws : List Int) (hw : ∀ w ∈ ws, 0 ≤ w ∧ w ≤ 100) (hl : ws.length ≤ 1000) : Fn Tryz.prog 179 [.sl f 1 (zK ws)] [] (.v (.int .i64 ws.sum)) [] := by
 refine Fn.of (fn := Tryz.f179) (by kernel_rfl) rfl (by kernel_rfl) ⟨[.sl f 1 (zK ws), .v undef, .v undef, .v undef, .v undef, .v undef, .v undef, .v undef, .v undef, .v undef, .v undef, .v undef, .v undef, .v undef, .v undef, .v undef, .v undef], []⟩ rfl ?_
 repeat' first | (with_reducible first | refine zA ?_ | refine zB ?_ | refine zG ?_) | ((with_reducible refine zC fun KC J hJ hKC => ?_); simp (maxSteps := 9999999) only [push_cast, seval, ↓reduceIte]) | ((with_reducible refine hJ _ _ ?_); clear hJ hKC KC J)
 refine ze (γ := {i : Nat // i ≤ ws.length}) (fun i => ⟨[.sl f 1 (zK ws), .any, .any, .v (.int .i64 (ws.take i.1).sum), .any, .any, .sl f 1 (zK ws), .v (.int .i64 ws.length), .v (.int .i64 i.1), .any, .any, .any, .any, .any, .any, .any, .any], []⟩) (fun i => ws.length - i.1) ⟨0, by simp⟩ ⟨?_, Fq⟩ ?_
 ·exact Lq
 ·rintro ⟨i, hi⟩
  by_cases hlt : (i : Int) < (ws.length : Int)
  ·have hx : ws[i]? = some ws[i] := List.getElem?_eq_getElem (by omega)
   have hb := zBg hw i
   have hwi := hw ws[i] (List.getElem_mem _)
   have hs : IntKind.i64.wrap ((ws.take i).sum + ws[i]) = (ws.take (i + 1)).sum := by rw [zBU (by omega), zCP (by omega) (by omega)]
   repeat' first | (with_reducible first | refine zA ?_ | refine zB ?_ | refine zO ?_ | refine zJ ?_ | refine zG ?_) | ((with_reducible refine And.intro ?_ ?_); · exact Sq) | ((with_reducible refine zC fun KC J hJ hKC => ?_); simp (maxSteps := 9999999) only [push_cast, seval, ↓reduceIte, hlt, zo hx, hs, zb (i := i) (n := ws.length) (by omega) (by omega)]) | ((with_reducible refine hJ _ _ ?_); clear hJ hKC KC J) | ((with_reducible refine zF ?_ ?_); · rfl)
   refine ⟨⟨i + 1, by omega⟩, by simp only; omega, ?_, Fq⟩
   exact Lq
  ·have e : ws.take i = ws := List.take_of_length_le (by omega)
   repeat' first | (with_reducible first | refine zA ?_ | refine zB ?_ | refine zX ?_ | refine zW ?_ | refine zI ?_ | refine zQ ?_) | ((with_reducible refine zC fun KC J hJ hKC => ?_); simp (maxSteps := 9999999) only [push_cast, seval, ↓reduceIte, hlt, e]) | ((with_reducible refine hJ _ _ ?_); clear hJ hKC KC J) | ((with_reducible refine zH ?_ ?_); · rfl)
   refine zE ?_
   simp (maxSteps := 9999999) only [push_cast, seval, ↓reduceIte, show Tryz.f179.results = #[(.tmp 2)] from rfl]
   exact zN _
theorem zEN (f : Bool) (ws : List Int) (hb : ws.length ≤ 9223372036854775807) : Fn Tryz.prog 134 [.sl f 1 (zK ws)] [] (.v (.bool (zAI ws))) [] := by
 refine Fn.of (fn := Tryz.f134) (by kernel_rfl) rfl (by kernel_rfl) ⟨[.sl f 1 (zK ws), .v undef, .v undef, .v undef, .v undef, .v undef, .v undef, .v undef, .v undef, .v undef, .v undef, .v undef, .v undef, .v undef, .v undef, .v undef, .v undef, .v undef, .v undef, .v undef, .v undef, .v undef, .v undef, .v undef, .v undef, .v undef, .v undef, .v undef, .v undef, .v undef, .v undef], []⟩ rfl ?_
 repeat' first | (with_reducible first | refine zA ?_ | refine zB ?_ | refine zG ?_) | ((with_reducible refine zC fun KC J hJ hKC => ?_); simp (maxSteps := 9999999) only [push_cast, seval, ↓reduceIte]) | ((with_reducible refine hJ _ _ ?_); clear hJ hKC KC J)
 refine ze (γ := {i : Nat // i ≤ ws.length ∧ ∀ (j : Nat) (hj : j < ws.length), j < i → 0 ≤ ws[j] ∧ ws[j] ≤ 100}) (fun i => ⟨[.sl f 1 (zK ws), .any, .any, .any, .any, .sl f 1 (zK ws), .v (.int .i64 ws.length), .v (.int .i64 i.1), .any, .any, .any, .any, .any, .any, .any, .any, .any, .any, .any, .any, .any, .any, .any, .any, .any, .any, .any, .any, .any, .any, .any], []⟩) (fun i => ws.length - i.1) ⟨0, by simp⟩ ⟨?_, Fq⟩ ?_
 ·exact Lq
 ·rintro ⟨i, hi, hn⟩
  by_cases hlt : (i : Int) < (ws.length : Int)
  ·have hx : ws[i]? = some ws[i] := List.getElem?_eq_getElem (by omega)
   have hbad : (ws[i] < 0 ∨ 100 < ws[i]) → zAI ws = false := fun h => by
    cases hc : zAI ws with
    | false => rfl
    | true => have := (zCa hc).2.2.1 ws[i] (List.getElem_mem _); omega
   by_cases h1 : ws[i] < 0
   ·skip
    repeat' first | (with_reducible first | refine zA ?_ | refine zB ?_ | refine zS ?_ | refine zg ?_ | refine zI ?_ | refine zJ ?_ | refine zG ?_) | ((with_reducible refine And.intro ?_ ?_); · exact Sq) | ((with_reducible refine zC fun KC J hJ hKC => ?_); simp (maxSteps := 9999999) only [push_cast, seval, ↓reduceIte, hlt, zo hx, h1]) | ((with_reducible refine hJ _ _ ?_); clear hJ hKC KC J) | ((with_reducible refine zF ?_ ?_); · rfl)
    refine zE ?_
    simp (maxSteps := 9999999) only [push_cast, seval, ↓reduceIte, show Tryz.f134.results = #[(.tmp 2)] from rfl]
    rw [hbad (.inl h1)]
    exact zN _
   by_cases h2 : 100 < ws[i]
   ·skip
    repeat' first | (with_reducible first | refine zA ?_ | refine zB ?_ | refine zS ?_ | refine zg ?_ | refine zI ?_ | refine zJ ?_ | refine zG ?_) | ((with_reducible refine And.intro ?_ ?_); · exact Sq) | ((with_reducible refine zC fun KC J hJ hKC => ?_); simp (maxSteps := 9999999) only [push_cast, seval, ↓reduceIte, hlt, zo hx, h1, h2]) | ((with_reducible refine hJ _ _ ?_); clear hJ hKC KC J) | ((with_reducible refine zF ?_ ?_); · rfl)
    refine zE ?_
    simp (maxSteps := 9999999) only [push_cast, seval, ↓reduceIte, show Tryz.f134.results = #[(.tmp 2)] from rfl]
    rw [hbad (.inr h2)]
    exact zN _
   repeat' first | (with_reducible first | refine zA ?_ | refine zB ?_ | refine zO ?_ | refine zJ ?_ | refine zG ?_) | ((with_reducible refine And.intro ?_ ?_); · exact Sq) | ((with_reducible refine zC fun KC J hJ hKC => ?_); simp (maxSteps := 9999999) only [push_cast, seval, ↓reduceIte, hlt, zo hx, h1, h2, zb (i := i) (n := ws.length) (by omega) hb]) | ((with_reducible refine hJ _ _ ?_); clear hJ hKC KC J) | ((with_reducible refine zF ?_ ?_); · rfl) | ((with_reducible refine zH ?_ ?_); · rfl)
   refine ⟨⟨i + 1, by omega, fun j hj hji => ?_⟩, by simp only; omega, ?_, Fq⟩
   ·by_cases he : j = i
    ·subst he; omega
    ·exact hn j hj (by omega)
   ·exact Lq
  ·have hall : ∀ w ∈ ws, 0 ≤ w ∧ w ≤ 100 := fun w hw => by
    obtain ⟨j, hj, rfl⟩ := List.mem_iff_getElem.1 hw
    exact hn j hj (by omega)
   by_cases h20 : (ws.length : Int) ≤ 20
   ·have hsum := zEg f ws hall (by omega)
    repeat' first | (with_reducible first | refine zA ?_ | refine zB ?_ | refine zX ?_ | refine zW ?_ | refine zI ?_ | refine zQ ?_) | ((first | with_reducible refine zC fun KC J hJ hKC => ?_ | (refine' hKC _ _ _ _ _ (zD (zEg _ _ ?_ ?_) rfl rfl rfl ?_ ?_); (rotate_left 4); (· exact Lq); (rotate_left 1); (iterate 2 (· exact Hq)))); simp (maxSteps := 9999999) only [push_cast, seval, ↓reduceIte, hlt, h20]) | ((with_reducible refine hJ _ _ ?_); clear hJ hKC KC J) | ((with_reducible refine zH ?_ ?_); · rfl) | ((with_reducible refine zAo (fun hs => ?_) (fun hs => ?_)) <;> (try simp only [Bool.not_eq_true, Bool.not_eq_false, Bool.not_eq_true', Bool.not_eq_false', Decidable.not_not, decide_eq_true_eq, decide_eq_false_iff_not] at hs) <;> (try simp (maxSteps := 9999999) only [push_cast, seval, ↓reduceIte, hs, hlt, h20]))
    all_goals
     refine zE ?_
     simp (maxSteps := 9999999) only [push_cast, seval, ↓reduceIte, show Tryz.f134.results = #[(.tmp 2)] from rfl]
     refine zAF (congrArg Value.bool (Bool.eq_iff_iff.2 ?_))
     simp only [zAI, decide_eq_true_eq, Bool.false_eq_true, false_iff]
    ·exact ⟨fun h => ⟨by omega, by omega, hall, h⟩, fun h => h.2.2.2⟩
    ·omega
   ·skip
    repeat' first | (with_reducible first | refine zA ?_ | refine zB ?_ | refine zX ?_ | refine zW ?_ | refine zI ?_ | refine zQ ?_) | ((with_reducible refine zC fun KC J hJ hKC => ?_); simp (maxSteps := 9999999) only [push_cast, seval, ↓reduceIte, hlt, h20]) | ((with_reducible refine hJ _ _ ?_); clear hJ hKC KC J) | ((with_reducible refine zH ?_ ?_); · rfl) | ((with_reducible refine zAo (fun hs => ?_) (fun hs => ?_)) <;> (try simp only [Bool.not_eq_true, Bool.not_eq_false, Bool.not_eq_true', Bool.not_eq_false', Decidable.not_not, decide_eq_true_eq, decide_eq_false_iff_not] at hs) <;> (try simp (maxSteps := 9999999) only [push_cast, seval, ↓reduceIte, hs, hlt, h20]))
    all_goals
     refine zE ?_
     simp (maxSteps := 9999999) only [push_cast, seval, ↓reduceIte, show Tryz.f134.results = #[(.tmp 2)] from rfl]
     refine zAF (congrArg Value.bool (Bool.eq_iff_iff.2 ?_))
     simp only [zAI, decide_eq_true_eq, Bool.false_eq_true, false_iff]
     omega
theorem zJm (f : Bool) (ws : List Int) (n : Int) (hw : ∀ w ∈ ws, 0 ≤ w ∧ w ≤ 100) (hl : ws.length ≤ 1000) : Fn Tryz.prog 180 [.sl f 1 (zK ws), .v (.int .i64 n)] [] (.v (.int .i64 (zEu ws n))) [] := by
 refine Fn.of (fn := Tryz.f180) (by kernel_rfl) rfl (by kernel_rfl) ⟨[.sl f 1 (zK ws), .v (.int .i64 n), .v undef, .v undef, .v undef, .v undef, .v undef, .v undef, .v undef, .v undef, .v undef, .v undef, .v undef, .v undef, .v undef, .v undef, .v undef, .v undef, .v undef, .v undef], []⟩ rfl ?_
 repeat' first | (with_reducible first | refine zA ?_ | refine zB ?_ | refine zG ?_) | ((with_reducible refine zC fun KC J hJ hKC => ?_); simp (maxSteps := 9999999) only [push_cast, seval, ↓reduceIte]) | ((with_reducible refine hJ _ _ ?_); clear hJ hKC KC J)
 refine ze (γ := {i : Nat // i ≤ ws.length ∧ ∀ j, j < i → ¬ n < (ws.take (j + 1)).sum}) (fun i => ⟨[.sl f 1 (zK ws), .v (.int .i64 n), .any, .any, .any, .any, .any, .v (.int .i64 ws.length), .v (.int .i64 i.1), .any, .any, .any, .any, .any, .any, .any, .any, .any, .any, .any], []⟩) (fun i => ws.length - i.1) ⟨0, by simp⟩ ⟨?_, Fq⟩ ?_
 ·exact Lq
 ·rintro ⟨i, hi, hn⟩
  by_cases hlt : (i : Int) < (ws.length : Int)
  ·have hsum := zEg false (ws.take (i + 1)) (fun w h => hw w (List.mem_of_mem_take h)) (by simp; omega)
   have hto : ((i : Int) + 1).toNat = i + 1 := by omega
   repeat' first | (with_reducible first | refine zA ?_ | refine zB ?_ | refine zS ?_ | refine zO ?_ | refine zg ?_ | refine zI ?_ | refine zJ ?_ | refine zG ?_) | ((with_reducible refine And.intro ?_ ?_); · exact Sq) | ((first | with_reducible refine zC fun KC J hJ hKC => ?_ | (refine hKC _ _ _ _ _ (zD (hsum) rfl rfl rfl ?_ ?_); (· exact Lq))); simp (maxSteps := 9999999) only [push_cast, seval, ↓reduceIte, hlt, hto, zb (i := i) (n := ws.length) (by omega) (by omega)]) | ((with_reducible refine hJ _ _ ?_); clear hJ hKC KC J) | ((with_reducible refine zF ?_ ?_); · rfl) | (refine zs rfl (fun h => ?_) (fun h => ?_) <;> try simp only [decide_eq_true_eq, decide_eq_false_iff_not, Bool.not_eq_true', Bool.not_eq_false', beq_iff_eq, bne_iff_ne, ne_eq, Bool.not_eq_true, Bool.or_eq_true, Bool.and_eq_true, Bool.or_eq_false_iff, Bool.and_eq_false_imp, beq_eq_false_iff_ne, bne_eq_false_iff_eq] at h)
   ·refine zE ?_
    simp (maxSteps := 9999999) only [push_cast, seval, ↓reduceIte, show Tryz.f180.results = #[(.tmp 4)] from rfl]
    rw [zIk (by omega) h hn]
    exact zN _
   ·refine ⟨⟨i + 1, by omega, fun j hj => ?_⟩, by simp only; omega, ?_, Fq⟩
    ·by_cases he : j = i
     ·subst he; exact h
     ·exact hn j (by omega)
    ·exact Lq
  ·skip
   repeat' first | (with_reducible first | refine zA ?_ | refine zB ?_ | refine zX ?_ | refine zW ?_ | refine zI ?_ | refine zQ ?_) | ((with_reducible refine zC fun KC J hJ hKC => ?_); simp (maxSteps := 9999999) only [push_cast, seval, ↓reduceIte, hlt]) | ((with_reducible refine hJ _ _ ?_); clear hJ hKC KC J) | ((with_reducible refine zH ?_ ?_); · rfl)
   refine zE ?_
   simp (maxSteps := 9999999) only [push_cast, seval, ↓reduceIte, show Tryz.f180.results = #[(.tmp 4)] from rfl]
   rw [zIf (fun j hj => hn j (by omega))]
   exact zN _
theorem zFv {ws : List Int} (hw : ∀ w ∈ ws, 0 ≤ w ∧ w ≤ 100) {i j : Nat} (h : i ≤ j) : (ws.take i).sum ≤ (ws.take j).sum := by
 induction j with
 | zero => simp at h; subst h; simp
 | succ j ih =>
  by_cases he : i = j + 1
  ·rw [he]; omega
  ·have := ih (by omega)
   by_cases hj : j < ws.length
   ·rw [zBU hj]
    have := hw ws[j] (List.getElem_mem _)
    omega
   ·rw [List.take_of_length_le (by omega : ws.length ≤ j)] at this
    rw [List.take_of_length_le (by omega : ws.length ≤ j + 1)]
    exact this
theorem zGR {ws : List Int} (hw : ∀ w ∈ ws, 0 ≤ w ∧ w ≤ 100) {n i : Int} (h0 : 0 ≤ n) (hn : n < ws.sum) :
  zEu ws n = i ↔ ∃ k : Nat, k < ws.length ∧ i = k ∧ (ws.take k).sum ≤ n ∧ n < (ws.take (k + 1)).sum := by
 have hex : ∃ k : Nat, k < ws.length ∧ (ws.take k).sum ≤ n ∧ n < (ws.take (k + 1)).sum := by
  rcases zQQ ws.length (fun k => decide (¬ n < (ws.take (k + 1)).sum)) with h | ⟨k, hk, h1, h2⟩
  ·exfalso
   cases hl : ws.length with
   | zero => rw [List.length_eq_zero_iff.1 hl] at hn; simp at hn; omega
   | succ m =>
    have := h m (by omega)
    rw [← hl, List.take_length] at this
    simp at this; omega
  ·refine ⟨k, hk, ?_, by simpa using h1⟩
   cases k with
   | zero => simpa using h0
   | succ k => have := h2 k (by omega); simp at this; exact this
 obtain ⟨k, hk, hk1, hk2⟩ := hex
 have hp : zEu ws n = k := zIk hk hk2 (fun j hj => by have := zFv hw (show j + 1 ≤ k by omega); omega)
 constructor
 ·intro h; exact ⟨k, hk, by omega, hk1, hk2⟩
 ·rintro ⟨k', hk', rfl, h1, h2⟩
  rw [hp]
  rcases Nat.lt_trichotomy k k' with h | h | h
  ·have := zFv hw (show k + 1 ≤ k' by omega); omega
  ·rw [h]
  ·have := zFv hw (show k' + 1 ≤ k by omega); omega
def zCx (ws : List Int) (i : Int) : Int × Int :=
 if zAI ws = false then (0, 1) else if i < 0 ∨ ws.length ≤ i ∨ ws.getD i.toNat 0 = 0 then (0, 9) else ((ws.take i.toNat).sum, 0)
theorem zOg (f : Bool) (ws : List Int) (i : Int) (hb : ws.length ≤ 9223372036854775807) : Fn Tryz.prog 82 [.sl f 1 (zK ws), .v (.int .i64 i)] [] (.agg [.v (.int .i64 (zCx ws i).1), .v (.int .i64 (zCx ws i).2)]) [] := by
 refine Fn.of (fn := Tryz.f82) (by kernel_rfl) rfl (by kernel_rfl) ⟨[.sl f 1 (zK ws), .v (.int .i64 i), .v undef, .v undef, .v undef, .v undef, .v undef, .v undef, .v undef, .v undef, .v undef, .v undef, .v undef, .v undef, .v undef, .v undef, .v undef, .v undef, .v undef, .v undef, .v undef, .v undef, .v undef, .v undef], []⟩ rfl ?_
 by_cases hw : zAI ws = true
 ·obtain ⟨h1, h2, h3, h4⟩ := zCa hw
  have hsb := zBg h3 ws.length
  rw [List.take_length] at hsb
  have hs : zCx ws i = if i < 0 ∨ ws.length ≤ i ∨ ws.getD i.toNat 0 = 0 then (0, 9) else ((ws.take i.toNat).sum, 0) := if_neg (by simp [hw])
  have hsf := zEg f ws h3 (by omega)
  rw [hs]
  repeat' first | (with_reducible first | refine zA ?_ | refine zB ?_ | refine zJ ?_ | refine zG ?_) | ((first | with_reducible refine zC fun KC J hJ hKC => ?_ | (refine' hKC _ _ _ _ _ (zD (zEN _ _ ?_) rfl rfl rfl ?_ ?_); (rotate_left 3); (· exact Lq); (rotate_left 1); (iterate 1 (· exact Hq)))); simp (maxSteps := 9999999) only [push_cast, seval, ↓reduceIte, hw]) | ((with_reducible refine hJ _ _ ?_); clear hJ hKC KC J) | ((with_reducible refine zH ?_ ?_); · rfl)
  refine ze (γ := {n : Int // 0 ≤ n ∧ n ≤ ws.sum ∧ ∀ j, 0 ≤ j → j < n → zEu ws j ≠ i}) (fun n => ⟨[.sl f 1 (zK ws), .v (.int .i64 i), .any, .any, .ptr 0 0 0, .v (.int .i64 n.1), .any, .any, .any, .any, .any, .any, .any, .any, .any, .any, .any, .any, .any, .any, .any, .any, .any, .any], [.ent ⟨0, none, 130, [.v (.int .i64 0), .v (.int .i64 0)], .cells⟩, .free]⟩) (fun n => (ws.sum - n.1).toNat) ⟨0, by omega, by omega, by omega⟩ ⟨?_, Fq⟩ ?_
  ·exact Lq
  ·rintro ⟨n, hn0, hn1, hn⟩
   by_cases hlt : n < ws.sum
   ·have hpf := zJm f ws n h3 (by omega)
    repeat' first | (with_reducible first | refine zA ?_ | refine zB ?_ | refine zS ?_ | refine zO ?_ | refine zg ?_ | refine zI ?_ | refine zJ ?_ | refine zG ?_) | ((first | with_reducible refine zC fun KC J hJ hKC => ?_ | (refine' hKC _ _ _ _ _ (zD (zEg _ _ ?_ ?_) rfl rfl rfl ?_ ?_); (rotate_left 4); (· exact Lq); (rotate_left 1); (iterate 2 (· exact Hq))) | (refine' hKC _ _ _ _ _ (zD (zJm _ _ _ ?_ ?_) rfl rfl rfl ?_ ?_); (rotate_left 5); (· exact Lq); (rotate_left 1); (iterate 2 (· exact Hq)))); simp (maxSteps := 9999999) only [push_cast, seval, ↓reduceIte, hlt]) | ((with_reducible refine hJ _ _ ?_); clear hJ hKC KC J) | ((with_reducible refine zF ?_ ?_); · rfl) | (refine zs rfl (fun h => ?_) (fun h => ?_) <;> try simp only [decide_eq_true_eq, decide_eq_false_iff_not, Bool.not_eq_true', Bool.not_eq_false', beq_iff_eq, bne_iff_ne, ne_eq, Bool.not_eq_true, Bool.or_eq_true, Bool.and_eq_true, Bool.or_eq_false_iff, Bool.and_eq_false_imp, beq_eq_false_iff_ne, bne_eq_false_iff_eq] at h)
    ·refine zE ?_
     simp (maxSteps := 9999999) only [push_cast, seval, ↓reduceIte, show Tryz.f82.results = #[(.cell 4 130)] from rfl]
     obtain ⟨k, hk, rfl, hk1, hk2⟩ := (zGR h3 hn0 hlt).1 h
     have hx : ws.getD k 0 = ws[k] := by simp [hk]
     have htk := zBU hk
     have hnk : n = (ws.take k).sum := by
      rcases Int.lt_or_le (ws.take k).sum n with hl | hl
      ·exfalso
       have hk0 := (zBg h3 k).1
       exact hn (ws.take k).sum hk0 hl ((zGR h3 hk0 (by omega)).2 ⟨k, hk, rfl, by omega, by omega⟩)
      ·omega
     rw [if_neg (by rw [Int.toNat_natCast, hx]; omega), Int.toNat_natCast, ← hnk]
     exact Lq
    ·refine ⟨⟨n + 1, by omega, by omega, fun j hj0 hj => ?_⟩, by simp only; omega, ?_, Fq⟩
     ·by_cases hji : j = n
      ·rw [hji]; exact h
      ·exact hn j hj0 (by omega)
     ·rw [zCP (by omega) (by omega)]
      exact Lq
   ·skip
    repeat' first | (with_reducible first | refine zA ?_ | refine zB ?_ | refine zX ?_ | refine zW ?_ | refine zI ?_ | refine zQ ?_) | ((first | with_reducible refine zC fun KC J hJ hKC => ?_ | (refine' hKC _ _ _ _ _ (zD (zEg _ _ ?_ ?_) rfl rfl rfl ?_ ?_); (rotate_left 4); (· exact Lq); (rotate_left 1); (iterate 2 (· exact Hq)))); simp (maxSteps := 9999999) only [push_cast, seval, ↓reduceIte, hlt]) | ((with_reducible refine hJ _ _ ?_); clear hJ hKC KC J) | ((with_reducible refine zH ?_ ?_); · rfl)
    refine zE ?_
    simp (maxSteps := 9999999) only [push_cast, seval, ↓reduceIte, show Tryz.f82.results = #[(.cell 4 130)] from rfl]
    have : i < 0 ∨ ws.length ≤ i ∨ ws.getD i.toNat 0 = 0 := by
     rcases Int.lt_or_le i 0 with hi | hi
     ·exact .inl hi
     rcases Int.lt_or_le i ws.length with hi2 | hi2
     ·refine .inr (.inr ?_)
      have hk : i.toNat < ws.length := by omega
      have hx : ws.getD i.toNat 0 = ws[i.toNat] := by simp [hk]
      have htk := zBU hk
      have hwk := h3 ws[i.toNat] (List.getElem_mem _)
      rw [hx]
      rcases Int.lt_or_le 0 ws[i.toNat] with hp | hp
      ·exfalso
       have hk0 := (zBg h3 i.toNat).1
       have hm := zFv h3 (show i.toNat + 1 ≤ ws.length by omega)
       rw [List.take_length] at hm
       exact hn (ws.take i.toNat).sum hk0 (by omega) ((zGR h3 hk0 (by omega)).2 ⟨i.toNat, hk, by omega, by omega, by omega⟩)
      ·omega
     ·exact .inr (.inl hi2)
    rw [if_pos this]
    exact Lq
 ·have hw' : zAI ws = false := by simpa using hw
  repeat' first | (with_reducible first | refine zA ?_ | refine zB ?_ | refine zS ?_ | refine zI ?_) | ((first | with_reducible refine zC fun KC J hJ hKC => ?_ | (refine' hKC _ _ _ _ _ (zD (zEN _ _ ?_) rfl rfl rfl ?_ ?_); (rotate_left 3); (· exact Lq); (rotate_left 1); (iterate 1 (· exact Hq)))); simp (maxSteps := 9999999) only [push_cast, seval, ↓reduceIte, hw']) | ((with_reducible refine hJ _ _ ?_); clear hJ hKC KC J) | ((with_reducible refine zF ?_ ?_); · rfl)
  refine zE ?_
  simp (maxSteps := 9999999) only [push_cast, seval, ↓reduceIte, show Tryz.f82.results = #[(.cell 4 130)] from rfl]
  rw [show zCx ws i = (0, 1) from if_pos hw']
  exact Lq
def inB (a b n : Int) : Bool := decide (a ≤ n) && decide (n ≤ b)
def zBR (n : Nat) (x : Int × Int × Int) : Bool :=
 if x.1 = 1 then inB (-20) 20 x.2.1 && !zn n x.2.2
 else inB 0 12 x.1 && (decide (x.2.2 = 0) && (if x.1 = 8 then inB 0 12 x.2.1 else if x.1 = 9 then inB 0 3 x.2.1 else if x.1 = 10 then inB 0 1 x.2.1 else decide (x.2.1 = 0)))
def zBL (n : Nat) (x : Int × Int) : Bool := inB (-20) 20 x.1 && !zn n x.2
def zCC (n : Nat) (x : Bool × Int × Int) : Bool := !zn n x.2.2 && (if x.1 = true then inB 0 12 x.2.1 else inB (-20) 20 x.2.1)
def zDL (n : Nat) (c : List (Int × Int × Int)) : Bool := c.all (zBR n) && decide (c.length ≤ 12)
def zEs (n : Nat) (s : Sta) : Bool :=
 zDL n s.code && (inB 0 12 s.v && (!zn n s.l && (s.mem.all (zBL n) && (decide (s.mem.length ≤ 6) && (s.stack.all (zCC n) && (decide (s.stack.length ≤ 12) && (s.out.all (zBL n) && decide (s.out.length ≤ 8))))))))
def spB (sp : Sp) : Bool := inB 0 12 sp.code && (inB 0 6 sp.mem && (inB 0 12 sp.stack && (inB 0 20 sp.val && (decide (sp.ws.length = 13) && zAI sp.ws))))
def zBE (sp : Sp) (x : Int × Int × Int) : Bool := !decide (sp.ws.getD x.1.toNat 0 = 0) && (!decide (x.1 = 1) || inB (-sp.val) sp.val x.2.1)
def zDE (n : Nat) (sp : Sp) (s : Sta) : Bool :=
 zEs n s && (decide ((s.code.length : Int) ≤ sp.code) && (decide ((s.mem.length : Int) ≤ sp.mem) && (decide ((s.stack.length : Int) ≤ sp.stack) && (decide (s.out.length = 0) &&
  (s.code.all (zBE sp) && (s.mem.all (fun a => inB (-sp.val) sp.val a.1) && s.stack.all (fun x => x.1 || inB (-sp.val) sp.val x.2.1)))))))
theorem zGF {a b n : Int} : inB a b n = true ↔ a ≤ n ∧ n ≤ b := by simp [inB]
theorem zFd {n : Nat} {a : Int} : zn n a = false ↔ 0 ≤ a ∧ a < n := by simp [zn]
structure SpOk (sp : Sp) : Prop where
 c0 : 0 ≤ sp.code
 c1 : sp.code ≤ 12
 m0 : 0 ≤ sp.mem
 m1 : sp.mem ≤ 6
 s0 : 0 ≤ sp.stack
 s1 : sp.stack ≤ 12
 v0 : 0 ≤ sp.val
 v1 : sp.val ≤ 20
 wl : sp.ws.length = 13
 ww : zAI sp.ws = true
theorem zNk {sp : Sp} : spB sp = true ↔ SpOk sp := by
 simp only [spB, Bool.and_eq_true, zGF, decide_eq_true_eq]
 constructor
 ·rintro ⟨⟨h1, h2⟩, ⟨h3, h4⟩, ⟨h5, h6⟩, ⟨h7, h8⟩, h9, h10⟩; exact ⟨h1, h2, h3, h4, h5, h6, h7, h8, h9, h10⟩
 ·rintro ⟨h1, h2, h3, h4, h5, h6, h7, h8, h9, h10⟩; exact ⟨⟨h1, h2⟩, ⟨h3, h4⟩, ⟨h5, h6⟩, ⟨h7, h8⟩, h9, h10⟩
theorem zOv {a : Int} {g : List Int} {b : Int} (ha : 0 ≤ a) (hg : g.length < 2000) (hb : 1 ≤ b) : zBM ⟨[], a, g⟩ b = (⟨[], a, g ++ [0]⟩, 0, 0) := by
 rw [zRC (by simp [zDO]; omega) (by omega) (by omega)]
 simp [zCm]; omega
def eL (L : List Int) : D := if L.length = 0 then .v (.slice none 0 0) else .ref 4 (L.length - 1) L.length
def lσ (kb : Ent) (L : List Int) : List Slot := if L.length = 0 then [.ent kb] else [.ent kb, .dead, .dead, .dead, .ent ⟨L.length - 1, some 1, 3, zY L, .cells⟩]
theorem zBl (kb : Ent) (L : List Int) : (L = [] ∧ eL L = .v (.slice none 0 0) ∧ lσ kb L = [.ent kb]) ∨ (∃ j, L.length = j + 1 ∧ eL L = .ref 4 j (j + 1) ∧ lσ kb L = [.ent kb, .dead, .dead, .dead, .ent ⟨j, some 1, 3, zY L, .cells⟩]) := by
 cases L with
 | nil => exact .inl ⟨rfl, rfl, rfl⟩
 | cons x L => exact .inr ⟨L.length, rfl, rfl, rfl⟩
theorem zSY (kb : Ent) (L : List Int) (x : Int) : eL (L ++ [x]) = .ref 4 L.length (L.length + 1) ∧ lσ kb (L ++ [x]) = [.ent kb, .dead, .dead, .dead, .ent ⟨L.length, some 1, 3, zY L ++ [.v (.int .i64 x)], .cells⟩] := by
 have hl : (L ++ [x]).length = L.length + 1 := by simp
 unfold eL lσ
 rw [hl, zAB]
 exact ⟨rfl, rfl⟩
theorem zKn (kb : Ent) (L : List Int) : 1 ≤ (lσ kb L).length := by
 rcases zBl kb L with ⟨_, _, h⟩ | ⟨j, _, _, h⟩ <;> rw [h] <;> simp
theorem zQJ (kb : Ent) (L M : List Int) : (lσ kb L).length ≤ (lσ kb (L ++ M)).length := by
 rcases zBl kb L with ⟨_, _, h⟩ | ⟨j, hj, _, h⟩
 ·rw [h]; exact zKn kb _
 ·rcases zBl kb (L ++ M) with ⟨h2, _, _⟩ | ⟨k, _, _, h2⟩
  ·have := congrArg List.length h2
   rw [List.length_append, List.length_nil] at this; omega
  ·rw [h, h2]; exact Nat.le_refl _
theorem zEm {kb : Ent} (hk : ∀ m, kb.cells.map (ren m) = kb.cells) (L : List Int) : zCc (lσ kb L) := by
 refine zr ?_
 rcases zBl kb L with ⟨_, _, h⟩ | ⟨j, _, _, h⟩
 all_goals
  rw [h]
  simp only [List.map_cons, List.map_nil, zT, hk, zAL]
def lD (L : List Int) : D := if L.length = 0 then .v (.slice none 0 0) else .ref 0 (L.length - 1) L.length
def zFI (L : List Int) : List Slot := if L.length = 0 then [] else [.ent ⟨L.length - 1, some 1, 3, zY L, .cells⟩]
def zAk (rows : List (Bool × List (Int × Int))) : List Int := (rows.flatMap (·.2)).map (·.2)
def zEw (rows : List (Bool × List (Int × Int))) : List (List D) := rows.map fun r => [.sl r.1 2 (zR r.2)]
@[push_cast] theorem zQs (l : List (Bool × List (Int × Int))) : (zEw l).length = l.length := by simp [zEw]
theorem zND {l : List (Bool × List (Int × Int))} {n : Nat} {x : Bool × List (Int × Int)} (h : l[n]? = some x) : zEt (zEw l) n = [.sl x.1 2 (zR x.2)] := by unfold zEw; exact zBe _ _ _ _ h
abbrev zDk : List D := [.fn 202 [], .fn 203 [], .fn 204 []]
theorem zCJ : Fn Tryz.prog 105 [] [] (.agg zDk) [] := by
 refine Fn.of (fn := Tryz.f105) (by kernel_rfl) rfl (by kernel_rfl) ⟨[.v undef, .v undef], []⟩ rfl ?_
 repeat' first | (with_reducible first | refine zA ?_ | refine zB ?_ | refine zI ?_) | ((with_reducible refine zC fun KC J hJ hKC => ?_); simp (maxSteps := 9999999) only [push_cast, seval, ↓reduceIte]) | ((with_reducible refine hJ _ _ ?_); clear hJ hKC KC J)
 refine zE ?_
 simp (maxSteps := 9999999) only [push_cast, seval, ↓reduceIte, show Tryz.f105.results = #[(.cell 0 159)] from rfl]
 exact Lq
theorem zHT (x : Int × Int) : Fn Tryz.prog 203 [.agg [.v (.int .i64 x.1), .v (.int .i64 x.2)]] [] (.v (.int .i64 x.2)) [] := by
 refine Fn.of (fn := Tryz.f203) (by kernel_rfl) rfl (by kernel_rfl) ⟨[.agg [.v (.int .i64 x.1), .v (.int .i64 x.2)], .v undef, .v undef, .v undef, .v undef], []⟩ rfl ?_
 repeat' first | (with_reducible first | refine zA ?_ | refine zB ?_ | refine zI ?_) | ((with_reducible refine zC fun KC J hJ hKC => ?_); simp (maxSteps := 9999999) only [push_cast, seval, ↓reduceIte]) | ((with_reducible refine hJ _ _ ?_); clear hJ hKC KC J)
 refine zE ?_
 simp (maxSteps := 9999999) only [push_cast, seval, ↓reduceIte, show Tryz.f203.results = #[(.tmp 2)] from rfl]
 exact zN _
theorem zHX {rows : List (Bool × List (Int × Int))} {i : Nat} {x : Bool × List (Int × Int)} (h : rows[i]? = some x) : zAk (rows.take (i + 1)) = zAk (rows.take i) ++ x.2.map (·.2) := by
 obtain ⟨hi, rfl⟩ := List.getElem?_eq_some_iff.1 h
 unfold zAk
 rw [List.take_succ_eq_append_getElem hi, List.flatMap_append, List.map_append]
 simp only [List.flatMap_cons, List.flatMap_nil, List.append_nil]
theorem zOf {rows : List (Bool × List (Int × Int))} {i : Nat} {x : Bool × List (Int × Int)} (h : rows[i]? = some x) (j : Nat) : (zAk (rows.take i) ++ (x.2.take j).map (·.2)).length ≤ (zAk rows).length := by
 have h1 : (zAk (rows.take (i + 1))).length ≤ (zAk rows).length := by
  have : zAk rows = zAk (rows.take (i + 1)) ++ zAk (rows.drop (i + 1)) := by
   rw [zAk, zAk, zAk, ← List.map_append, ← List.flatMap_append, List.take_append_drop]
  rw [this]; simp
 rw [zHX h] at h1
 simp at h1 ⊢
 omega
set_option maxHeartbeats 4000000 in
theorem zNB (f : Bool) (rows : List (Bool × List (Int × Int))) (hb : (zAk rows).length ≤ 1000) (hr : rows.length ≤ 1000) (hrl : ∀ r ∈ rows, r.2.length ≤ 1000) :
  Fn Tryz.prog 104 [.agg zDk, .sl f 1 (zEw rows)] [] (lD (zAk rows)) (zFI (zAk rows)) := by
 refine Fn.of (fn := Tryz.f104) (by kernel_rfl) rfl (by kernel_rfl) ⟨[.agg zDk, .sl f 1 (zEw rows), .v undef, .v undef, .v undef, .v undef, .v undef, .v undef, .v undef, .v undef, .v undef, .v undef, .v undef, .v undef, .v undef, .v undef, .v undef, .v undef, .v undef, .v undef, .v undef, .v undef, .v undef, .v undef, .v undef, .v undef, .v undef, .v undef, .v undef, .v undef, .v undef, .v undef], []⟩ rfl ?_
 repeat' first | (with_reducible first | refine zA ?_ | refine zB ?_ | refine zG ?_) | ((with_reducible refine zC fun KC J hJ hKC => ?_); simp (maxSteps := 9999999) only [push_cast, seval, ↓reduceIte]) | ((with_reducible refine hJ _ _ ?_); clear hJ hKC KC J)
 refine zCR 1 (γ := {i : Nat // i ≤ rows.length}) (fun i => ⟨[.any, .any, .ptr 0 0 0, .any, .any, eL (zAk (rows.take i.1)), .any, .any, .any, .any, .sl f 1 (zEw rows), .v (.int .i64 rows.length), .v (.int .i64 i.1), .any, .any, .any, .any, .any, .any, .any, .any, .any, .any, .any, .any, .any, .any, .any, .any, .any, .any, .any], lσ ⟨0, none, 159, zDk, .cells⟩ (zAk (rows.take i.1))⟩) (fun i => rows.length - i.1) ⟨0, by omega⟩ rfl (fun i => zKn _ _) (fun i => zEm (fun m => rfl) _) (fun i => ?_) ⟨?_, ?_⟩ ?_
 ·rcases zBl ⟨0, none, 159, zDk, .cells⟩ (zAk (rows.take i.1)) with ⟨_, hD, hσ⟩ | ⟨j, _, hD, hσ⟩
  all_goals
   simp only [hD, hσ]
   rfl
 ·simp only [List.take_zero, zAk, List.flatMap_nil, List.map_nil, eL]
  exact Lq
 ·simp only [List.take_zero, zAk, List.flatMap_nil, List.map_nil, lσ]
  exact Fq
 rintro ⟨i, hi⟩
 by_cases hlt : (i : Int) < (rows.length : Int)
 ·have hx : rows[i]? = some rows[i] := List.getElem?_eq_getElem (by omega)
  obtain ⟨r, hr0⟩ : ∃ r, rows[i] = r := ⟨_, rfl⟩
  rw [hr0] at hx
  have hrn : r.2.length ≤ 1000 := by rw [← hr0]; exact hrl _ (List.getElem_mem (by omega))
  have hst := zHX hx
  have hbd := zOf hx
  obtain ⟨L0, hL0⟩ : ∃ L0, zAk (rows.take i) = L0 := ⟨_, rfl⟩
  rw [hL0] at hst
  simp only [hL0] at hbd ⊢
  rcases zBl ⟨0, none, 159, zDk, .cells⟩ L0 with ⟨hL, hD, hσ⟩ | ⟨q, hL, hD, hσ⟩
  all_goals
   repeat' first | (with_reducible first | refine zA ?_ | refine zB ?_ | refine zJ ?_ | refine zG ?_) | ((with_reducible refine And.intro ?_ ?_); · exact Sq) | ((with_reducible refine zC fun KC J hJ hKC => ?_); simp (maxSteps := 9999999) only [push_cast, seval, ↓reduceIte, hlt, hD, hσ, zND hx]) | ((with_reducible refine hJ _ _ ?_); clear hJ hKC KC J) | ((with_reducible refine zF ?_ ?_); · rfl)
   refine zCR (lσ ⟨0, none, 159, zDk, .cells⟩ L0).length (γ := {j : Nat // j ≤ r.2.length}) (fun j => ⟨[.any, .any, .ptr 0 0 0, .any, .any, eL (L0 ++ (r.2.take j.1).map (·.2)), .any, .any, .any, .any, .sl f 1 (zEw rows), .v (.int .i64 rows.length), .v (.int .i64 i), .any, .any, .any, .sl r.1 2 (zR r.2), .v (.int .i64 r.2.length), .v (.int .i64 j.1), .any, .any, .any, .any, .any, .any, .any, .any, .any, .any, .any, .any, .any], lσ ⟨0, none, 159, zDk, .cells⟩ (L0 ++ (r.2.take j.1).map (·.2))⟩) (fun j => r.2.length - j.1) ⟨0, by omega⟩ (by simp) (fun j => zQJ _ _ _) (fun j => zEm (fun m => rfl) _) (fun j => ?_) ⟨?_, ?_⟩ ?_
   ·rcases zBl ⟨0, none, 159, zDk, .cells⟩ (L0 ++ (r.2.take j.1).map (·.2)) with ⟨_, hD, hσ⟩ | ⟨j, _, hD, hσ⟩
    all_goals
     simp only [hD, hσ]
     rfl
   ·simp only [List.take_zero, List.map_nil, List.append_nil, hD]
    exact Lq
   ·simp only [List.take_zero, List.map_nil, List.append_nil, hσ]
    exact Fq
   clear hD hσ hL
   rintro ⟨j, hj⟩
   by_cases hlj : (j : Int) < (r.2.length : Int)
   ·have hy : r.2[j]? = some r.2[j] := List.getElem?_eq_getElem (by omega)
    obtain ⟨y, hy0⟩ : ∃ y, r.2[j] = y := ⟨_, rfl⟩
    rw [hy0] at hy
    have hL1 : L0 ++ (r.2.take (j + 1)).map (·.2) = (L0 ++ (r.2.take j).map (·.2)) ++ [y.2] := by
     rw [List.take_succ_eq_append_getElem (by omega), hy0]; simp
    have hbj := hbd (j + 1)
    rw [hL1, List.length_append] at hbj
    obtain ⟨L, hLL⟩ : ∃ L, L0 ++ (r.2.take j).map (·.2) = L := ⟨_, rfl⟩
    rw [hLL] at hL1 hbj
    simp only [hLL]
    obtain ⟨hD1, hσ1⟩ := zSY ⟨0, none, 159, zDk, .cells⟩ L y.2
    rcases zBl ⟨0, none, 159, zDk, .cells⟩ L with ⟨hL, hD, hσ⟩ | ⟨q, hL, hD, hσ⟩
    ·subst hL
     repeat' first | (with_reducible first | refine zA ?_ | refine zB ?_ | refine zO ?_ | refine zJ ?_ | refine zG ?_) | ((with_reducible refine And.intro ?_ ?_); · exact Sq) | ((first | with_reducible refine zC fun KC J hJ hKC => ?_ | (refine hKC _ _ _ _ _ (zD (zHT y) rfl rfl rfl ?_ ?_); (· exact Lq))); simp (maxSteps := 9999999) only [push_cast, seval, ↓reduceIte, hlj, hD, hσ, zAK hy, zb (i := j) (n := r.2.length) (by omega) (by omega)]) | ((with_reducible refine hJ _ _ ?_); clear hJ hKC KC J) | ((with_reducible refine zF ?_ ?_); · rfl)
     refine ⟨⟨j + 1, by omega⟩, by simp only; omega, ?_, ?_⟩
     ·simp only [hL1, hD1]
      exact Lq
     ·simp only [hL1, hσ1]
      exact ⟨[_, _, _, _, _], _, rfl, .inr (.inl rfl), .inl rfl, .inl rfl, .inl rfl, .inr (.inl rfl), trivial⟩
    ·have hlC : (zY L).length = q + 1 := by rw [zZ, hL]
     have htC := zGK hlC
     have htC' : (zY L).take (q + 1) = zY L := List.take_of_length_le (by omega)
     have hbm : Nat.beq q q = true := Nat.beq_refl q
     rw [hL] at hD1 hσ1
     simp only [hL, List.length_cons, List.length_nil] at hbj
     repeat' first | (with_reducible first | refine zA ?_ | refine zB ?_ | refine zO ?_ | refine zJ ?_ | refine zG ?_) | ((with_reducible refine And.intro ?_ ?_); · exact Sq) | ((first | with_reducible refine zC fun KC J hJ hKC => ?_ | (refine hKC _ _ _ _ _ (zD (zHT y) rfl rfl rfl ?_ ?_); (· exact Lq))); simp (maxSteps := 9999999) only [push_cast, seval, ↓reduceIte, hlj, hD, hσ, zAK hy, hlC, htC, htC', hbm, zb (i := j) (n := r.2.length) (by omega) (by omega)]) | ((with_reducible refine hJ _ _ ?_); clear hJ hKC KC J) | ((with_reducible refine zF ?_ ?_); · rfl)
     refine ⟨⟨j + 1, by omega⟩, by simp only; omega, ?_, ?_⟩
     ·simp only [hL1, hD1]
      exact Lq
     ·simp only [hL1, hσ1]
      exact ⟨[_, _, _, _, _], _, rfl, .inr (.inl rfl), .inl rfl, .inl rfl, .inl rfl, .inr (.inl rfl), trivial⟩
   ·have hjn : j = r.2.length := by omega
    subst hjn
    rw [List.take_length, ← hst]
    obtain ⟨L, hLL⟩ : ∃ L, zAk (rows.take (i + 1)) = L := ⟨_, rfl⟩
    rw [hLL]
    rcases zBl ⟨0, none, 159, zDk, .cells⟩ L with ⟨hL, hD, hσ⟩ | ⟨q, hL, hD, hσ⟩
    all_goals
     repeat' first | (with_reducible first | refine zA ?_ | refine zB ?_ | refine zX ?_ | refine zO ?_ | refine zW ?_ | refine zQ ?_) | ((with_reducible refine zC fun KC J hJ hKC => ?_); simp (maxSteps := 9999999) only [push_cast, seval, ↓reduceIte, hlj, hD, hσ, zb (i := i) (n := rows.length) (by omega) (by omega)]) | ((with_reducible refine hJ _ _ ?_); clear hJ hKC KC J) | ((with_reducible refine zH ?_ ?_); · rfl)
     refine ⟨⟨i + 1, by omega⟩, by simp only; omega, ?_, ?_⟩
     ·simp only [hLL, hD]
      exact Lq
     ·simp only [hLL, hσ]
      exact ⟨_, [], (List.append_nil _).symm, zBK _⟩
 ·have hin : i = rows.length := by omega
  subst hin
  rw [List.take_length]
  obtain ⟨L, hLL⟩ : ∃ L, zAk rows = L := ⟨_, rfl⟩
  rw [hLL]
  rcases zBl ⟨0, none, 159, zDk, .cells⟩ L with ⟨hL, hD, hσ⟩ | ⟨q, hL, hD, hσ⟩
  ·subst hL
   repeat' first | (with_reducible first | refine zA ?_ | refine zB ?_ | refine zX ?_ | refine zW ?_ | refine zI ?_ | refine zQ ?_) | ((with_reducible refine zC fun KC J hJ hKC => ?_); simp (maxSteps := 9999999) only [push_cast, seval, ↓reduceIte, hlt, hD, hσ]) | ((with_reducible refine hJ _ _ ?_); clear hJ hKC KC J) | ((with_reducible refine zH ?_ ?_); · rfl)
   refine zE ?_
   simp (maxSteps := 9999999) only [push_cast, seval, ↓reduceIte, show Tryz.f104.results = #[(.tmp 4)] from rfl]
   exact zN _
  ·have e1 : lD L = .ref 0 q (q + 1) := by unfold lD; rw [hL]; rfl
   have e2 : zFI L = [.ent ⟨q, some 1, 3, zY L, .cells⟩] := by unfold zFI; rw [hL]; rfl
   rw [e1, e2]
   repeat' first | (with_reducible first | refine zA ?_ | refine zB ?_ | refine zX ?_ | refine zW ?_ | refine zQ ?_) | ((with_reducible refine zC fun KC J hJ hKC => ?_); simp (maxSteps := 9999999) only [push_cast, seval, ↓reduceIte, hlt, hD, hσ]) | ((with_reducible refine hJ _ _ ?_); clear hJ hKC KC J) | ((with_reducible refine zH ?_ ?_); · rfl)
   refine zI ?_
   refine zEb [4] ?_ (by simp) ?_
   ·simp (maxSteps := 9999999) only [push_cast, seval, ↓reduceIte, show Tryz.f104.results = #[.tmp 4] from rfl, pick, mOf, idx, zT, zAL]
    exact zN _
   ·intro k hk
    exact absurd hk (by simp)
def zAm (rows : List (Bool × List (Int × Int × Int))) : List Int := (rows.flatMap (·.2)).map (·.2.2)
def zEv (rows : List (Bool × List (Int × Int × Int))) : List (List D) := rows.map fun r => [.sl r.1 3 (zh r.2)]
@[push_cast] theorem zRB (l : List (Bool × List (Int × Int × Int))) : (zEv l).length = l.length := by simp [zEv]
theorem zMV {l : List (Bool × List (Int × Int × Int))} {n : Nat} {x : Bool × List (Int × Int × Int)} (h : l[n]? = some x) : zEt (zEv l) n = [.sl x.1 3 (zh x.2)] := by unfold zEv; exact zBe _ _ _ _ h
abbrev zDs : List D := [.fn 199 [], .fn 200 [], .fn 201 []]
theorem zCO : Fn Tryz.prog 103 [] [] (.agg zDs) [] := by
 refine Fn.of (fn := Tryz.f103) (by kernel_rfl) rfl (by kernel_rfl) ⟨[.v undef, .v undef], []⟩ rfl ?_
 repeat' first | (with_reducible first | refine zA ?_ | refine zB ?_ | refine zI ?_) | ((with_reducible refine zC fun KC J hJ hKC => ?_); simp (maxSteps := 9999999) only [push_cast, seval, ↓reduceIte]) | ((with_reducible refine hJ _ _ ?_); clear hJ hKC KC J)
 refine zE ?_
 simp (maxSteps := 9999999) only [push_cast, seval, ↓reduceIte, show Tryz.f103.results = #[(.cell 0 153)] from rfl]
 exact Lq
theorem zHL (x : Int × Int × Int) : Fn Tryz.prog 200 [.agg [.v (.int .i64 x.1), .v (.int .i64 x.2.1), .v (.int .i64 x.2.2)]] [] (.v (.int .i64 x.2.2)) [] := by
 refine Fn.of (fn := Tryz.f200) (by kernel_rfl) rfl (by kernel_rfl) ⟨[.agg [.v (.int .i64 x.1), .v (.int .i64 x.2.1), .v (.int .i64 x.2.2)], .v undef, .v undef, .v undef, .v undef], []⟩ rfl ?_
 repeat' first | (with_reducible first | refine zA ?_ | refine zB ?_ | refine zI ?_) | ((with_reducible refine zC fun KC J hJ hKC => ?_); simp (maxSteps := 9999999) only [push_cast, seval, ↓reduceIte]) | ((with_reducible refine hJ _ _ ?_); clear hJ hKC KC J)
 refine zE ?_
 simp (maxSteps := 9999999) only [push_cast, seval, ↓reduceIte, show Tryz.f200.results = #[(.tmp 2)] from rfl]
 exact zN _
theorem zIZ {rows : List (Bool × List (Int × Int × Int))} {i : Nat} {x : Bool × List (Int × Int × Int)} (h : rows[i]? = some x) : zAm (rows.take (i + 1)) = zAm (rows.take i) ++ x.2.map (·.2.2) := by
 obtain ⟨hi, rfl⟩ := List.getElem?_eq_some_iff.1 h
 unfold zAm
 rw [List.take_succ_eq_append_getElem hi, List.flatMap_append, List.map_append]
 simp only [List.flatMap_cons, List.flatMap_nil, List.append_nil]
theorem zOG {rows : List (Bool × List (Int × Int × Int))} {i : Nat} {x : Bool × List (Int × Int × Int)} (h : rows[i]? = some x) (j : Nat) : (zAm (rows.take i) ++ (x.2.take j).map (·.2.2)).length ≤ (zAm rows).length := by
 have h1 : (zAm (rows.take (i + 1))).length ≤ (zAm rows).length := by
  have : zAm rows = zAm (rows.take (i + 1)) ++ zAm (rows.drop (i + 1)) := by
   rw [zAm, zAm, zAm, ← List.map_append, ← List.flatMap_append, List.take_append_drop]
  rw [this]; simp
 rw [zIZ h] at h1
 simp at h1 ⊢
 omega
set_option maxHeartbeats 4000000 in
theorem zMv (f : Bool) (rows : List (Bool × List (Int × Int × Int))) (hb : (zAm rows).length ≤ 1000) (hr : rows.length ≤ 1000) (hrl : ∀ r ∈ rows, r.2.length ≤ 1000) :
  Fn Tryz.prog 102 [.agg zDs, .sl f 1 (zEv rows)] [] (lD (zAm rows)) (zFI (zAm rows)) := by
 refine Fn.of (fn := Tryz.f102) (by kernel_rfl) rfl (by kernel_rfl) ⟨[.agg zDs, .sl f 1 (zEv rows), .v undef, .v undef, .v undef, .v undef, .v undef, .v undef, .v undef, .v undef, .v undef, .v undef, .v undef, .v undef, .v undef, .v undef, .v undef, .v undef, .v undef, .v undef, .v undef, .v undef, .v undef, .v undef, .v undef, .v undef, .v undef, .v undef, .v undef, .v undef, .v undef, .v undef], []⟩ rfl ?_
 repeat' first | (with_reducible first | refine zA ?_ | refine zB ?_ | refine zG ?_) | ((with_reducible refine zC fun KC J hJ hKC => ?_); simp (maxSteps := 9999999) only [push_cast, seval, ↓reduceIte]) | ((with_reducible refine hJ _ _ ?_); clear hJ hKC KC J)
 refine zCR 1 (γ := {i : Nat // i ≤ rows.length}) (fun i => ⟨[.any, .any, .ptr 0 0 0, .any, .any, eL (zAm (rows.take i.1)), .any, .any, .any, .any, .sl f 1 (zEv rows), .v (.int .i64 rows.length), .v (.int .i64 i.1), .any, .any, .any, .any, .any, .any, .any, .any, .any, .any, .any, .any, .any, .any, .any, .any, .any, .any, .any], lσ ⟨0, none, 153, zDs, .cells⟩ (zAm (rows.take i.1))⟩) (fun i => rows.length - i.1) ⟨0, by omega⟩ rfl (fun i => zKn _ _) (fun i => zEm (fun m => rfl) _) (fun i => ?_) ⟨?_, ?_⟩ ?_
 ·rcases zBl ⟨0, none, 153, zDs, .cells⟩ (zAm (rows.take i.1)) with ⟨_, hD, hσ⟩ | ⟨j, _, hD, hσ⟩
  all_goals
   simp only [hD, hσ]
   rfl
 ·simp only [List.take_zero, zAm, List.flatMap_nil, List.map_nil, eL]
  exact Lq
 ·simp only [List.take_zero, zAm, List.flatMap_nil, List.map_nil, lσ]
  exact Fq
 rintro ⟨i, hi⟩
 by_cases hlt : (i : Int) < (rows.length : Int)
 ·have hx : rows[i]? = some rows[i] := List.getElem?_eq_getElem (by omega)
  obtain ⟨r, hr0⟩ : ∃ r, rows[i] = r := ⟨_, rfl⟩
  rw [hr0] at hx
  have hrn : r.2.length ≤ 1000 := by rw [← hr0]; exact hrl _ (List.getElem_mem (by omega))
  have hst := zIZ hx
  have hbd := zOG hx
  obtain ⟨L0, hL0⟩ : ∃ L0, zAm (rows.take i) = L0 := ⟨_, rfl⟩
  rw [hL0] at hst
  simp only [hL0] at hbd ⊢
  rcases zBl ⟨0, none, 153, zDs, .cells⟩ L0 with ⟨hL, hD, hσ⟩ | ⟨q, hL, hD, hσ⟩
  all_goals
   repeat' first | (with_reducible first | refine zA ?_ | refine zB ?_ | refine zJ ?_ | refine zG ?_) | ((with_reducible refine And.intro ?_ ?_); · exact Sq) | ((with_reducible refine zC fun KC J hJ hKC => ?_); simp (maxSteps := 9999999) only [push_cast, seval, ↓reduceIte, hlt, hD, hσ, zMV hx]) | ((with_reducible refine hJ _ _ ?_); clear hJ hKC KC J) | ((with_reducible refine zF ?_ ?_); · rfl)
   refine zCR (lσ ⟨0, none, 153, zDs, .cells⟩ L0).length (γ := {j : Nat // j ≤ r.2.length}) (fun j => ⟨[.any, .any, .ptr 0 0 0, .any, .any, eL (L0 ++ (r.2.take j.1).map (·.2.2)), .any, .any, .any, .any, .sl f 1 (zEv rows), .v (.int .i64 rows.length), .v (.int .i64 i), .any, .any, .any, .sl r.1 3 (zh r.2), .v (.int .i64 r.2.length), .v (.int .i64 j.1), .any, .any, .any, .any, .any, .any, .any, .any, .any, .any, .any, .any, .any], lσ ⟨0, none, 153, zDs, .cells⟩ (L0 ++ (r.2.take j.1).map (·.2.2))⟩) (fun j => r.2.length - j.1) ⟨0, by omega⟩ (by simp) (fun j => zQJ _ _ _) (fun j => zEm (fun m => rfl) _) (fun j => ?_) ⟨?_, ?_⟩ ?_
   ·rcases zBl ⟨0, none, 153, zDs, .cells⟩ (L0 ++ (r.2.take j.1).map (·.2.2)) with ⟨_, hD, hσ⟩ | ⟨j, _, hD, hσ⟩
    all_goals
     simp only [hD, hσ]
     rfl
   ·simp only [List.take_zero, List.map_nil, List.append_nil, hD]
    exact Lq
   ·simp only [List.take_zero, List.map_nil, List.append_nil, hσ]
    exact Fq
   clear hD hσ hL
   rintro ⟨j, hj⟩
   by_cases hlj : (j : Int) < (r.2.length : Int)
   ·have hy : r.2[j]? = some r.2[j] := List.getElem?_eq_getElem (by omega)
    obtain ⟨y, hy0⟩ : ∃ y, r.2[j] = y := ⟨_, rfl⟩
    rw [hy0] at hy
    have hL1 : L0 ++ (r.2.take (j + 1)).map (·.2.2) = (L0 ++ (r.2.take j).map (·.2.2)) ++ [y.2.2] := by
     rw [List.take_succ_eq_append_getElem (by omega), hy0]; simp
    have hbj := hbd (j + 1)
    rw [hL1, List.length_append] at hbj
    obtain ⟨L, hLL⟩ : ∃ L, L0 ++ (r.2.take j).map (·.2.2) = L := ⟨_, rfl⟩
    rw [hLL] at hL1 hbj
    simp only [hLL]
    obtain ⟨hD1, hσ1⟩ := zSY ⟨0, none, 153, zDs, .cells⟩ L y.2.2
    rcases zBl ⟨0, none, 153, zDs, .cells⟩ L with ⟨hL, hD, hσ⟩ | ⟨q, hL, hD, hσ⟩
    ·subst hL
     repeat' first | (with_reducible first | refine zA ?_ | refine zB ?_ | refine zO ?_ | refine zJ ?_ | refine zG ?_) | ((with_reducible refine And.intro ?_ ?_); · exact Sq) | ((first | with_reducible refine zC fun KC J hJ hKC => ?_ | (refine hKC _ _ _ _ _ (zD (zHL y) rfl rfl rfl ?_ ?_); (· exact Lq))); simp (maxSteps := 9999999) only [push_cast, seval, ↓reduceIte, hlj, hD, hσ, zAp hy, zb (i := j) (n := r.2.length) (by omega) (by omega)]) | ((with_reducible refine hJ _ _ ?_); clear hJ hKC KC J) | ((with_reducible refine zF ?_ ?_); · rfl)
     refine ⟨⟨j + 1, by omega⟩, by simp only; omega, ?_, ?_⟩
     ·simp only [hL1, hD1]
      exact Lq
     ·simp only [hL1, hσ1]
      exact ⟨[_, _, _, _, _], _, rfl, .inr (.inl rfl), .inl rfl, .inl rfl, .inl rfl, .inr (.inl rfl), trivial⟩
    ·have hlC : (zY L).length = q + 1 := by rw [zZ, hL]
     have htC := zGK hlC
     have htC' : (zY L).take (q + 1) = zY L := List.take_of_length_le (by omega)
     have hbm : Nat.beq q q = true := Nat.beq_refl q
     rw [hL] at hD1 hσ1
     simp only [hL, List.length_cons, List.length_nil] at hbj
     repeat' first | (with_reducible first | refine zA ?_ | refine zB ?_ | refine zO ?_ | refine zJ ?_ | refine zG ?_) | ((with_reducible refine And.intro ?_ ?_); · exact Sq) | ((first | with_reducible refine zC fun KC J hJ hKC => ?_ | (refine hKC _ _ _ _ _ (zD (zHL y) rfl rfl rfl ?_ ?_); (· exact Lq))); simp (maxSteps := 9999999) only [push_cast, seval, ↓reduceIte, hlj, hD, hσ, zAp hy, hlC, htC, htC', hbm, zb (i := j) (n := r.2.length) (by omega) (by omega)]) | ((with_reducible refine hJ _ _ ?_); clear hJ hKC KC J) | ((with_reducible refine zF ?_ ?_); · rfl)
     refine ⟨⟨j + 1, by omega⟩, by simp only; omega, ?_, ?_⟩
     ·simp only [hL1, hD1]
      exact Lq
     ·simp only [hL1, hσ1]
      exact ⟨[_, _, _, _, _], _, rfl, .inr (.inl rfl), .inl rfl, .inl rfl, .inl rfl, .inr (.inl rfl), trivial⟩
   ·have hjn : j = r.2.length := by omega
    subst hjn
    rw [List.take_length, ← hst]
    obtain ⟨L, hLL⟩ : ∃ L, zAm (rows.take (i + 1)) = L := ⟨_, rfl⟩
    rw [hLL]
    rcases zBl ⟨0, none, 153, zDs, .cells⟩ L with ⟨hL, hD, hσ⟩ | ⟨q, hL, hD, hσ⟩
    all_goals
     repeat' first | (with_reducible first | refine zA ?_ | refine zB ?_ | refine zX ?_ | refine zO ?_ | refine zW ?_ | refine zQ ?_) | ((with_reducible refine zC fun KC J hJ hKC => ?_); simp (maxSteps := 9999999) only [push_cast, seval, ↓reduceIte, hlj, hD, hσ, zb (i := i) (n := rows.length) (by omega) (by omega)]) | ((with_reducible refine hJ _ _ ?_); clear hJ hKC KC J) | ((with_reducible refine zH ?_ ?_); · rfl)
     refine ⟨⟨i + 1, by omega⟩, by simp only; omega, ?_, ?_⟩
     ·simp only [hLL, hD]
      exact Lq
     ·simp only [hLL, hσ]
      exact ⟨_, [], (List.append_nil _).symm, zBK _⟩
 ·have hin : i = rows.length := by omega
  subst hin
  rw [List.take_length]
  obtain ⟨L, hLL⟩ : ∃ L, zAm rows = L := ⟨_, rfl⟩
  rw [hLL]
  rcases zBl ⟨0, none, 153, zDs, .cells⟩ L with ⟨hL, hD, hσ⟩ | ⟨q, hL, hD, hσ⟩
  ·subst hL
   repeat' first | (with_reducible first | refine zA ?_ | refine zB ?_ | refine zX ?_ | refine zW ?_ | refine zI ?_ | refine zQ ?_) | ((with_reducible refine zC fun KC J hJ hKC => ?_); simp (maxSteps := 9999999) only [push_cast, seval, ↓reduceIte, hlt, hD, hσ]) | ((with_reducible refine hJ _ _ ?_); clear hJ hKC KC J) | ((with_reducible refine zH ?_ ?_); · rfl)
   refine zE ?_
   simp (maxSteps := 9999999) only [push_cast, seval, ↓reduceIte, show Tryz.f102.results = #[(.tmp 4)] from rfl]
   exact zN _
  ·have e1 : lD L = .ref 0 q (q + 1) := by unfold lD; rw [hL]; rfl
   have e2 : zFI L = [.ent ⟨q, some 1, 3, zY L, .cells⟩] := by unfold zFI; rw [hL]; rfl
   rw [e1, e2]
   repeat' first | (with_reducible first | refine zA ?_ | refine zB ?_ | refine zX ?_ | refine zW ?_ | refine zQ ?_) | ((with_reducible refine zC fun KC J hJ hKC => ?_); simp (maxSteps := 9999999) only [push_cast, seval, ↓reduceIte, hlt, hD, hσ]) | ((with_reducible refine hJ _ _ ?_); clear hJ hKC KC J) | ((with_reducible refine zH ?_ ?_); · rfl)
   refine zI ?_
   refine zEb [4] ?_ (by simp) ?_
   ·simp (maxSteps := 9999999) only [push_cast, seval, ↓reduceIte, show Tryz.f102.results = #[.tmp 4] from rfl, pick, mOf, idx, zT, zAL]
    exact zN _
   ·intro k hk
    exact absurd hk (by simp)
def zAe (rows : List (Bool × List (Bool × Int × Int))) : List Int := (rows.flatMap (·.2)).map (·.2.2)
def zEO (rows : List (Bool × List (Bool × Int × Int))) : List (List D) := rows.map fun r => [.sl r.1 3 (zc r.2)]
@[push_cast] theorem zQq (l : List (Bool × List (Bool × Int × Int))) : (zEO l).length = l.length := by simp [zEO]
theorem zMn {l : List (Bool × List (Bool × Int × Int))} {n : Nat} {x : Bool × List (Bool × Int × Int)} (h : l[n]? = some x) : zEt (zEO l) n = [.sl x.1 3 (zc x.2)] := by unfold zEO; exact zBe _ _ _ _ h
abbrev zDu : List D := [.fn 205 [], .fn 206 [], .fn 207 []]
theorem zBI : Fn Tryz.prog 107 [] [] (.agg zDu) [] := by
 refine Fn.of (fn := Tryz.f107) (by kernel_rfl) rfl (by kernel_rfl) ⟨[.v undef, .v undef], []⟩ rfl ?_
 repeat' first | (with_reducible first | refine zA ?_ | refine zB ?_ | refine zI ?_) | ((with_reducible refine zC fun KC J hJ hKC => ?_); simp (maxSteps := 9999999) only [push_cast, seval, ↓reduceIte]) | ((with_reducible refine hJ _ _ ?_); clear hJ hKC KC J)
 refine zE ?_
 simp (maxSteps := 9999999) only [push_cast, seval, ↓reduceIte, show Tryz.f107.results = #[(.cell 0 164)] from rfl]
 exact Lq
theorem zHU (x : Bool × Int × Int) : Fn Tryz.prog 206 [.agg [.v (.bool x.1), .v (.int .i64 x.2.1), .v (.int .i64 x.2.2)]] [] (.v (.int .i64 x.2.2)) [] := by
 refine Fn.of (fn := Tryz.f206) (by kernel_rfl) rfl (by kernel_rfl) ⟨[.agg [.v (.bool x.1), .v (.int .i64 x.2.1), .v (.int .i64 x.2.2)], .v undef, .v undef, .v undef, .v undef], []⟩ rfl ?_
 repeat' first | (with_reducible first | refine zA ?_ | refine zB ?_ | refine zI ?_) | ((with_reducible refine zC fun KC J hJ hKC => ?_); simp (maxSteps := 9999999) only [push_cast, seval, ↓reduceIte]) | ((with_reducible refine hJ _ _ ?_); clear hJ hKC KC J)
 refine zE ?_
 simp (maxSteps := 9999999) only [push_cast, seval, ↓reduceIte, show Tryz.f206.results = #[(.tmp 2)] from rfl]
 exact zN _
theorem zIC {rows : List (Bool × List (Bool × Int × Int))} {i : Nat} {x : Bool × List (Bool × Int × Int)} (h : rows[i]? = some x) : zAe (rows.take (i + 1)) = zAe (rows.take i) ++ x.2.map (·.2.2) := by
 obtain ⟨hi, rfl⟩ := List.getElem?_eq_some_iff.1 h
 unfold zAe
 rw [List.take_succ_eq_append_getElem hi, List.flatMap_append, List.map_append]
 simp only [List.flatMap_cons, List.flatMap_nil, List.append_nil]
theorem zNv {rows : List (Bool × List (Bool × Int × Int))} {i : Nat} {x : Bool × List (Bool × Int × Int)} (h : rows[i]? = some x) (j : Nat) : (zAe (rows.take i) ++ (x.2.take j).map (·.2.2)).length ≤ (zAe rows).length := by
 have h1 : (zAe (rows.take (i + 1))).length ≤ (zAe rows).length := by
  have : zAe rows = zAe (rows.take (i + 1)) ++ zAe (rows.drop (i + 1)) := by
   rw [zAe, zAe, zAe, ← List.map_append, ← List.flatMap_append, List.take_append_drop]
  rw [this]; simp
 rw [zIC h] at h1
 simp at h1 ⊢
 omega
set_option maxHeartbeats 4000000 in
theorem zHk (f : Bool) (rows : List (Bool × List (Bool × Int × Int))) (hb : (zAe rows).length ≤ 1000) (hr : rows.length ≤ 1000) (hrl : ∀ r ∈ rows, r.2.length ≤ 1000) :
  Fn Tryz.prog 106 [.agg zDu, .sl f 1 (zEO rows)] [] (lD (zAe rows)) (zFI (zAe rows)) := by
 refine Fn.of (fn := Tryz.f106) (by kernel_rfl) rfl (by kernel_rfl) ⟨[.agg zDu, .sl f 1 (zEO rows), .v undef, .v undef, .v undef, .v undef, .v undef, .v undef, .v undef, .v undef, .v undef, .v undef, .v undef, .v undef, .v undef, .v undef, .v undef, .v undef, .v undef, .v undef, .v undef, .v undef, .v undef, .v undef, .v undef, .v undef, .v undef, .v undef, .v undef, .v undef, .v undef, .v undef], []⟩ rfl ?_
 repeat' first | (with_reducible first | refine zA ?_ | refine zB ?_ | refine zG ?_) | ((with_reducible refine zC fun KC J hJ hKC => ?_); simp (maxSteps := 9999999) only [push_cast, seval, ↓reduceIte]) | ((with_reducible refine hJ _ _ ?_); clear hJ hKC KC J)
 refine zCR 1 (γ := {i : Nat // i ≤ rows.length}) (fun i => ⟨[.any, .any, .ptr 0 0 0, .any, .any, eL (zAe (rows.take i.1)), .any, .any, .any, .any, .sl f 1 (zEO rows), .v (.int .i64 rows.length), .v (.int .i64 i.1), .any, .any, .any, .any, .any, .any, .any, .any, .any, .any, .any, .any, .any, .any, .any, .any, .any, .any, .any], lσ ⟨0, none, 164, zDu, .cells⟩ (zAe (rows.take i.1))⟩) (fun i => rows.length - i.1) ⟨0, by omega⟩ rfl (fun i => zKn _ _) (fun i => zEm (fun m => rfl) _) (fun i => ?_) ⟨?_, ?_⟩ ?_
 ·rcases zBl ⟨0, none, 164, zDu, .cells⟩ (zAe (rows.take i.1)) with ⟨_, hD, hσ⟩ | ⟨j, _, hD, hσ⟩
  all_goals
   simp only [hD, hσ]
   rfl
 ·simp only [List.take_zero, zAe, List.flatMap_nil, List.map_nil, eL]
  exact Lq
 ·simp only [List.take_zero, zAe, List.flatMap_nil, List.map_nil, lσ]
  exact Fq
 rintro ⟨i, hi⟩
 by_cases hlt : (i : Int) < (rows.length : Int)
 ·have hx : rows[i]? = some rows[i] := List.getElem?_eq_getElem (by omega)
  obtain ⟨r, hr0⟩ : ∃ r, rows[i] = r := ⟨_, rfl⟩
  rw [hr0] at hx
  have hrn : r.2.length ≤ 1000 := by rw [← hr0]; exact hrl _ (List.getElem_mem (by omega))
  have hst := zIC hx
  have hbd := zNv hx
  obtain ⟨L0, hL0⟩ : ∃ L0, zAe (rows.take i) = L0 := ⟨_, rfl⟩
  rw [hL0] at hst
  simp only [hL0] at hbd ⊢
  rcases zBl ⟨0, none, 164, zDu, .cells⟩ L0 with ⟨hL, hD, hσ⟩ | ⟨q, hL, hD, hσ⟩
  all_goals
   repeat' first | (with_reducible first | refine zA ?_ | refine zB ?_ | refine zJ ?_ | refine zG ?_) | ((with_reducible refine And.intro ?_ ?_); · exact Sq) | ((with_reducible refine zC fun KC J hJ hKC => ?_); simp (maxSteps := 9999999) only [push_cast, seval, ↓reduceIte, hlt, hD, hσ, zMn hx]) | ((with_reducible refine hJ _ _ ?_); clear hJ hKC KC J) | ((with_reducible refine zF ?_ ?_); · rfl)
   refine zCR (lσ ⟨0, none, 164, zDu, .cells⟩ L0).length (γ := {j : Nat // j ≤ r.2.length}) (fun j => ⟨[.any, .any, .ptr 0 0 0, .any, .any, eL (L0 ++ (r.2.take j.1).map (·.2.2)), .any, .any, .any, .any, .sl f 1 (zEO rows), .v (.int .i64 rows.length), .v (.int .i64 i), .any, .any, .any, .sl r.1 3 (zc r.2), .v (.int .i64 r.2.length), .v (.int .i64 j.1), .any, .any, .any, .any, .any, .any, .any, .any, .any, .any, .any, .any, .any], lσ ⟨0, none, 164, zDu, .cells⟩ (L0 ++ (r.2.take j.1).map (·.2.2))⟩) (fun j => r.2.length - j.1) ⟨0, by omega⟩ (by simp) (fun j => zQJ _ _ _) (fun j => zEm (fun m => rfl) _) (fun j => ?_) ⟨?_, ?_⟩ ?_
   ·rcases zBl ⟨0, none, 164, zDu, .cells⟩ (L0 ++ (r.2.take j.1).map (·.2.2)) with ⟨_, hD, hσ⟩ | ⟨j, _, hD, hσ⟩
    all_goals
     simp only [hD, hσ]
     rfl
   ·simp only [List.take_zero, List.map_nil, List.append_nil, hD]
    exact Lq
   ·simp only [List.take_zero, List.map_nil, List.append_nil, hσ]
    exact Fq
   clear hD hσ hL
   rintro ⟨j, hj⟩
   by_cases hlj : (j : Int) < (r.2.length : Int)
   ·have hy : r.2[j]? = some r.2[j] := List.getElem?_eq_getElem (by omega)
    obtain ⟨y, hy0⟩ : ∃ y, r.2[j] = y := ⟨_, rfl⟩
    rw [hy0] at hy
    have hL1 : L0 ++ (r.2.take (j + 1)).map (·.2.2) = (L0 ++ (r.2.take j).map (·.2.2)) ++ [y.2.2] := by
     rw [List.take_succ_eq_append_getElem (by omega), hy0]; simp
    have hbj := hbd (j + 1)
    rw [hL1, List.length_append] at hbj
    obtain ⟨L, hLL⟩ : ∃ L, L0 ++ (r.2.take j).map (·.2.2) = L := ⟨_, rfl⟩
    rw [hLL] at hL1 hbj
    simp only [hLL]
    obtain ⟨hD1, hσ1⟩ := zSY ⟨0, none, 164, zDu, .cells⟩ L y.2.2
    rcases zBl ⟨0, none, 164, zDu, .cells⟩ L with ⟨hL, hD, hσ⟩ | ⟨q, hL, hD, hσ⟩
    ·subst hL
     repeat' first | (with_reducible first | refine zA ?_ | refine zB ?_ | refine zO ?_ | refine zJ ?_ | refine zG ?_) | ((with_reducible refine And.intro ?_ ?_); · exact Sq) | ((first | with_reducible refine zC fun KC J hJ hKC => ?_ | (refine hKC _ _ _ _ _ (zD (zHU y) rfl rfl rfl ?_ ?_); (· exact Lq))); simp (maxSteps := 9999999) only [push_cast, seval, ↓reduceIte, hlj, hD, hσ, zAJ hy, zb (i := j) (n := r.2.length) (by omega) (by omega)]) | ((with_reducible refine hJ _ _ ?_); clear hJ hKC KC J) | ((with_reducible refine zF ?_ ?_); · rfl)
     refine ⟨⟨j + 1, by omega⟩, by simp only; omega, ?_, ?_⟩
     ·simp only [hL1, hD1]
      exact Lq
     ·simp only [hL1, hσ1]
      exact ⟨[_, _, _, _, _], _, rfl, .inr (.inl rfl), .inl rfl, .inl rfl, .inl rfl, .inr (.inl rfl), trivial⟩
    ·have hlC : (zY L).length = q + 1 := by rw [zZ, hL]
     have htC := zGK hlC
     have htC' : (zY L).take (q + 1) = zY L := List.take_of_length_le (by omega)
     have hbm : Nat.beq q q = true := Nat.beq_refl q
     rw [hL] at hD1 hσ1
     simp only [hL, List.length_cons, List.length_nil] at hbj
     repeat' first | (with_reducible first | refine zA ?_ | refine zB ?_ | refine zO ?_ | refine zJ ?_ | refine zG ?_) | ((with_reducible refine And.intro ?_ ?_); · exact Sq) | ((first | with_reducible refine zC fun KC J hJ hKC => ?_ | (refine hKC _ _ _ _ _ (zD (zHU y) rfl rfl rfl ?_ ?_); (· exact Lq))); simp (maxSteps := 9999999) only [push_cast, seval, ↓reduceIte, hlj, hD, hσ, zAJ hy, hlC, htC, htC', hbm, zb (i := j) (n := r.2.length) (by omega) (by omega)]) | ((with_reducible refine hJ _ _ ?_); clear hJ hKC KC J) | ((with_reducible refine zF ?_ ?_); · rfl)
     refine ⟨⟨j + 1, by omega⟩, by simp only; omega, ?_, ?_⟩
     ·simp only [hL1, hD1]
      exact Lq
     ·simp only [hL1, hσ1]
      exact ⟨[_, _, _, _, _], _, rfl, .inr (.inl rfl), .inl rfl, .inl rfl, .inl rfl, .inr (.inl rfl), trivial⟩
   ·have hjn : j = r.2.length := by omega
    subst hjn
    rw [List.take_length, ← hst]
    obtain ⟨L, hLL⟩ : ∃ L, zAe (rows.take (i + 1)) = L := ⟨_, rfl⟩
    rw [hLL]
    rcases zBl ⟨0, none, 164, zDu, .cells⟩ L with ⟨hL, hD, hσ⟩ | ⟨q, hL, hD, hσ⟩
    all_goals
     repeat' first | (with_reducible first | refine zA ?_ | refine zB ?_ | refine zX ?_ | refine zO ?_ | refine zW ?_ | refine zQ ?_) | ((with_reducible refine zC fun KC J hJ hKC => ?_); simp (maxSteps := 9999999) only [push_cast, seval, ↓reduceIte, hlj, hD, hσ, zb (i := i) (n := rows.length) (by omega) (by omega)]) | ((with_reducible refine hJ _ _ ?_); clear hJ hKC KC J) | ((with_reducible refine zH ?_ ?_); · rfl)
     refine ⟨⟨i + 1, by omega⟩, by simp only; omega, ?_, ?_⟩
     ·simp only [hLL, hD]
      exact Lq
     ·simp only [hLL, hσ]
      exact ⟨_, [], (List.append_nil _).symm, zBK _⟩
 ·have hin : i = rows.length := by omega
  subst hin
  rw [List.take_length]
  obtain ⟨L, hLL⟩ : ∃ L, zAe rows = L := ⟨_, rfl⟩
  rw [hLL]
  rcases zBl ⟨0, none, 164, zDu, .cells⟩ L with ⟨hL, hD, hσ⟩ | ⟨q, hL, hD, hσ⟩
  ·subst hL
   repeat' first | (with_reducible first | refine zA ?_ | refine zB ?_ | refine zX ?_ | refine zW ?_ | refine zI ?_ | refine zQ ?_) | ((with_reducible refine zC fun KC J hJ hKC => ?_); simp (maxSteps := 9999999) only [push_cast, seval, ↓reduceIte, hlt, hD, hσ]) | ((with_reducible refine hJ _ _ ?_); clear hJ hKC KC J) | ((with_reducible refine zH ?_ ?_); · rfl)
   refine zE ?_
   simp (maxSteps := 9999999) only [push_cast, seval, ↓reduceIte, show Tryz.f106.results = #[(.tmp 4)] from rfl]
   exact zN _
  ·have e1 : lD L = .ref 0 q (q + 1) := by unfold lD; rw [hL]; rfl
   have e2 : zFI L = [.ent ⟨q, some 1, 3, zY L, .cells⟩] := by unfold zFI; rw [hL]; rfl
   rw [e1, e2]
   repeat' first | (with_reducible first | refine zA ?_ | refine zB ?_ | refine zX ?_ | refine zW ?_ | refine zQ ?_) | ((with_reducible refine zC fun KC J hJ hKC => ?_); simp (maxSteps := 9999999) only [push_cast, seval, ↓reduceIte, hlt, hD, hσ]) | ((with_reducible refine hJ _ _ ?_); clear hJ hKC KC J) | ((with_reducible refine zH ?_ ?_); · rfl)
   refine zI ?_
   refine zEb [4] ?_ (by simp) ?_
   ·simp (maxSteps := 9999999) only [push_cast, seval, ↓reduceIte, show Tryz.f106.results = #[.tmp 4] from rfl, pick, mOf, idx, zT, zAL]
    exact zN _
   ·intro k hk
    exact absurd hk (by simp)
theorem Fn.frozen {P : Program} {f : Nat} {args : List D} {res : D} {e : Ent} (h : Fn P f args [] res [.ent e]) (hk : zEL [.ent e] 0 = .ent e) (hf : zAT e.cells = true) :
  Fn P f args [] (ren (mOf []) (fr3 0 e.gen (zj e) e.cells res)) [] where
 spec := fun N0 ρ w vs hp hs hr => by
  refine Calls.mono (h.spec N0 ρ w vs hp hs hr) ?_
  rintro x w' ⟨v, ρ', rfl, hp', hv⟩
  have R : Rel (zAU w N0 [] ρ) ⟨[res], [.ent e]⟩ ⟨#[v], []⟩ w' := ⟨ρ', hp', ⟨rfl, fun t d hd => by
   cases t with
   | zero => simp only [List.getElem?_cons_zero, Option.some.injEq] at hd; subst hd; exact ⟨v, rfl, hv⟩
   | succ t => simp at hd⟩, ⟨[], rfl, List.nodup_nil, fun D hD => by cases hD⟩⟩
  obtain ⟨ρ2, hp2, ⟨_, hr2⟩, _⟩ := (R.freeze (k := 0) hk hf).pick (ks := []) List.nodup_nil (fun k g hu => by
   obtain ⟨s, hs, _⟩ := hu
   simp [zAU] at hs)
  obtain ⟨u, hu, hrep⟩ := hr2 0 _ rfl
  simp only [List.getElem?_toArray, List.getElem?_cons_zero, Option.some.injEq] at hu
  subst hu
  exact ⟨v, ρ2, rfl, hp2, hrep⟩
 enter := h.enter
theorem Fn.leR {P : Program} {f : Nat} {args : List D} {ext out : List Slot} {res res' : D} (h : Fn P f args ext res out) (hl : leD res res') : Fn P f args ext res' out where
 spec := fun N0 ρ w vs hp hs hr => by
  refine Calls.mono (h.spec N0 ρ w vs hp hs hr) ?_
  rintro x w' ⟨v, ρ', rfl, hp', hv⟩
  exact ⟨v, ρ', rfl, hp', hl.rep hv⟩
 enter := h.enter
theorem Fn.labs {P : Program} {f : Nat} {args : List D} {L : List Int} (h : Fn P f args [] (lD L) (zFI L)) : Fn P f args [] (.sl false 1 (zK L)) [] := by
 rcases Nat.eq_zero_or_pos L.length with h0 | h0
 ·have hL : L = [] := List.eq_nil_of_length_eq_zero h0
  subst hL
  exact Fn.leR h zKY
 ·obtain ⟨q, hq⟩ : ∃ q, L.length = q + 1 := ⟨L.length - 1, by omega⟩
  have e1 : lD L = .ref 0 q (q + 1) := by unfold lD; rw [hq]; rfl
  have e2 : zFI L = [.ent ⟨q, some 1, 3, zY L, .cells⟩] := by unfold zFI; rw [hq]; rfl
  rw [e1, e2] at h
  have hfz := h.frozen rfl (zOd L)
  have hlC : (zY L).length = q + 1 := by rw [zZ, hq]
  have hbm : Nat.beq q q = true := Nat.beq_refl q
  have hcI : zBF 1 (q + 1) (zY L) = zK L := by rw [← hq]; exact zBn L
  have e3 : fr3 0 q 1 (zY L) (.ref 0 q (q + 1)) = .sl false 1 (zK L) := by
   have hsb : zl 0 q 0 q = true := hbm
   have hbl : Nat.ble (q + 1) (q + 1) = true := by rw [Nat.ble_eq]; exact Nat.le_refl _
   simp only [fr3, fr2, fr1, fr0, hsb, Nat.mul_one, hlC, hbl, hcI]
  have e4 : zj ⟨q, some 1, 3, zY L, .cells⟩ = 1 := rfl
  rw [e4] at hfz
  simp only at hfz
  rw [e3] at hfz
  exact hfz
theorem zLA (f : Bool) (rows : List (Bool × List (Int × Int))) (hb : (zAk rows).length ≤ 1000) (hr : rows.length ≤ 1000) (hrl : ∀ r ∈ rows, r.2.length ≤ 1000) : Fn (Tryz.prog) 104 [.agg zDk, .sl f 1 (zEw rows)] [] (.sl false 1 (zK (zAk rows))) [] := (zNB f rows hb hr hrl).labs
theorem zLK (f : Bool) (rows : List (Bool × List (Int × Int × Int))) (hb : (zAm rows).length ≤ 1000) (hr : rows.length ≤ 1000) (hrl : ∀ r ∈ rows, r.2.length ≤ 1000) : Fn (Tryz.prog) 102 [.agg zDs, .sl f 1 (zEv rows)] [] (.sl false 1 (zK (zAm rows))) [] := (zMv f rows hb hr hrl).labs
theorem zLh (f : Bool) (rows : List (Bool × List (Bool × Int × Int))) (hb : (zAe rows).length ≤ 1000) (hr : rows.length ≤ 1000) (hrl : ∀ r ∈ rows, r.2.length ≤ 1000) : Fn (Tryz.prog) 106 [.agg zDu, .sl f 1 (zEO rows)] [] (.sl false 1 (zK (zAe rows))) [] := (zHk f rows hb hr hrl).labs
theorem zRg (n : Nat) (h0 : 0 < n) (hn : n ≤ 10000) : Fn Tryz.prog 91 [.v (.slice none 0 0), .v (.int .i64 (n : Int))] [] (.ref 0 0 0) [.ent ⟨0, some 1, 3, [], .cells⟩] := by
 have h1 : decide ((n : Int) < 0) = false := decide_eq_false (by omega)
 have h2 : IntKind.i64.wrap ((n : Int) - 0) = n := by rw [IntKind.wrap_i64]; omega
 have h3 : decide ((0 : Int) < n) = true := decide_eq_true (by omega)
 refine Fn.of (fn := Tryz.f91) (by kernel_rfl) rfl (by kernel_rfl) ⟨[.v (.slice none 0 0), .v (.int .i64 (n : Int)), .v undef, .v undef, .v undef, .v undef, .v undef, .v undef, .v undef, .v undef, .v undef, .v undef, .v undef, .v undef, .v undef, .v undef, .v undef, .v undef, .v undef, .v undef, .v undef, .v undef, .v undef, .v undef, .v undef, .v undef, .v undef], []⟩ rfl ?_
 have h4 : IntKind.i64.wrap 0 = 0 := by rw [IntKind.wrap_i64]; rfl
 repeat' first | (with_reducible first | refine zA ?_ | refine zB ?_ | refine zJ ?_) | ((with_reducible refine And.intro ?_ ?_); · exact Sq) | ((with_reducible refine zC fun KC J hJ hKC => ?_); simp (maxSteps := 9999999) only [push_cast, seval, ↓reduceIte, h1, h2, h3, h4]) | ((with_reducible refine hJ _ _ ?_); clear hJ hKC KC J) | ((with_reducible refine zF ?_ ?_); · rfl) | ((with_reducible refine zH ?_ ?_); · rfl)
 refine zI ?_
 refine zEb [0] ?_ (by simp) ?_
 ·simp (maxSteps := 9999999) only [push_cast, seval, ↓reduceIte, show Tryz.f91.results = #[.tmp 4] from rfl, pick, mOf, idx, zT]
  exact zN _
 ·intro k hk
  exact absurd hk (by simp)
def zDX (l : List (Bool × List Int)) : List (List D) := l.map fun r => [.sl r.1 1 (zK r.2)]
def zAf (l : List (Bool × List Int)) : List Int := l.flatMap (·.2)
@[push_cast] theorem zQw (l : List (Bool × List Int)) : (zDX l).length = l.length := by simp [zDX]
theorem zFS {l : List (Bool × List Int)} {n : Nat} {x : Bool × List Int} (h : l[n]? = some x) : zEt (zDX l) n = [.sl x.1 1 (zK x.2)] := by unfold zDX; exact zBe _ _ _ _ h
theorem zIj {l : List (Bool × List Int)} {i : Nat} {x : Bool × List Int} (h : l[i]? = some x) : zAf (l.take (i + 1)) = zAf (l.take i) ++ x.2 := by
 obtain ⟨hi, rfl⟩ := List.getElem?_eq_some_iff.1 h
 unfold zAf
 rw [List.take_succ_eq_append_getElem hi, List.flatMap_append]
 simp only [List.flatMap_cons, List.flatMap_nil, List.append_nil]
theorem zLk (l : List (Bool × List Int)) (i : Nat) : (zAf (l.take i)).length ≤ (zAf l).length := by
 have : zAf l = zAf (l.take i) ++ zAf (l.drop i) := by
  rw [zAf, zAf, zAf, ← List.flatMap_append, List.take_append_drop]
 rw [this]; simp
theorem zAW : zK [] = [] := rfl
theorem zJC (a : Int) (l : List Int) : zBQ (zK (a :: l)) = false := rfl
theorem zKc (l : List Int) : (zK l).flatten = zY l := zAb l
set_option maxHeartbeats 4000000 in
theorem zGa (f : Bool) (rows : List (Bool × List Int)) (h0 : 0 < (zAf rows).length) (hb : (zAf rows).length ≤ 1000) (hr : rows.length ≤ 1000) :
  Fn Tryz.prog 43 [.sl f 1 (zDX rows)] [] (.sl false 1 (zK (zAf rows))) [] := by
 refine Fn.of (fn := Tryz.f43) (by kernel_rfl) rfl (by kernel_rfl) ⟨[.sl f 1 (zDX rows), .v undef, .v undef, .v undef, .v undef, .v undef, .v undef, .v undef, .v undef, .v undef, .v undef, .v undef, .v undef, .v undef, .v undef, .v undef, .v undef, .v undef, .v undef, .v undef, .v undef, .v undef, .v undef, .v undef, .v undef, .v undef, .v undef, .v undef, .v undef, .v undef, .v undef, .v undef, .v undef, .v undef, .v undef, .v undef], []⟩ rfl ?_
 repeat' first | (with_reducible first | refine zA ?_ | refine zB ?_ | refine zG ?_) | ((with_reducible refine zC fun KC J hJ hKC => ?_); simp (maxSteps := 9999999) only [push_cast, seval, ↓reduceIte]) | ((with_reducible refine hJ _ _ ?_); clear hJ hKC KC J)
 refine zi 0 (γ := {i : Nat // i ≤ rows.length}) (fun i => ⟨[.sl f 1 (zDX rows), .any, .v (.slice none 0 0), .v (.int .i64 (zAf (rows.take i.1)).length), .any, .any, .any, .any, .any, .sl f 1 (zDX rows), .v (.int .i64 rows.length), .v (.int .i64 i.1), .any, .any, .any, .any, .any, .any, .any, .any, .any, .any, .any, .any, .any, .any, .any, .any, .any, .any, .any, .any, .any, .any, .any, .any], []⟩) (fun i => rows.length - i.1) ⟨0, by omega⟩ (fun i => rfl) (fun i => rfl) (fun i => rfl) ⟨?_, Fq⟩ ?_
 ·simp only [List.take_zero, zAf, List.flatMap_nil, List.length_nil]
  exact Lq
 rintro ⟨i, hi⟩
 by_cases hlt : (i : Int) < (rows.length : Int)
 ·have hx : rows[i]? = some rows[i] := List.getElem?_eq_getElem (by omega)
  obtain ⟨r, hr0⟩ : ∃ r, rows[i] = r := ⟨_, rfl⟩
  rw [hr0] at hx
  have hst := zIj hx
  have hbd := zLk rows (i + 1)
  rw [hst, List.length_append] at hbd
  obtain ⟨n, hn⟩ : ∃ n, (zAf (rows.take i)).length = n := ⟨_, rfl⟩
  rw [hn] at hbd
  have hw : IntKind.i64.wrap ((n : Int) + (r.2.length : Int)) = ((n + r.2.length : Nat) : Int) := by rw [IntKind.wrap_i64]; omega
  have hn0 : decide (((n + r.2.length : Nat) : Int) < 0) = false := decide_eq_false (by omega)
  simp only [hn]
  repeat' first | (with_reducible first | refine zA ?_ | refine zB ?_ | refine zO ?_ | refine zJ ?_ | refine zG ?_) | ((with_reducible refine And.intro ?_ ?_); · exact Sq) | ((with_reducible refine zC fun KC J hJ hKC => ?_); simp (maxSteps := 9999999) only [push_cast, seval, ↓reduceIte, hlt, zFS hx, hw, hn0, zb (i := i) (n := rows.length) (by omega) (by omega)]) | ((with_reducible refine hJ _ _ ?_); clear hJ hKC KC J) | ((with_reducible refine zF ?_ ?_); · rfl) | ((with_reducible refine zH ?_ ?_); · rfl)
  refine ⟨⟨i + 1, by omega⟩, by simp only; omega, ?_, ⟨_, rfl⟩⟩
  simp only [hst, List.length_append, hn]
  exact Lq
 ·have hin : i = rows.length := by omega
  subst hin
  rw [List.take_length]
  have hg := zRg (zAf rows).length h0 (by omega)
  repeat' first | (with_reducible first | refine zA ?_ | refine zB ?_ | refine zX ?_ | refine zW ?_ | refine zQ ?_ | refine zG ?_) | ((first | with_reducible refine zC fun KC J hJ hKC => ?_ | (refine hKC _ _ _ _ _ (zDz [] hg rfl rfl rfl (by simp) (fun _ h => by cases h) rfl rfl rfl (zCy (zN _) (zCy (zN _) zCL)) ?_))); simp (maxSteps := 9999999) only [push_cast, seval, ↓reduceIte, hlt, zy, zf, zT, pick, mOf, idx]) | ((with_reducible refine hJ _ _ ?_); clear hJ hKC KC J) | ((with_reducible refine zH ?_ ?_); · rfl)
  refine zi 1 (γ := {p : Nat × Nat // p.1 ≤ rows.length}) (fun p => ⟨[.sl f 1 (zDX rows), .any, .v (.slice none 0 0), .v (.int .i64 (zAf rows).length), .any, .any, .ref 0 p.1.2 (zAf (rows.take p.1.1)).length, .any, .any, .any, .any, .any, .any, .any, .any, .any, .any, .any, .any, .any, .any, .any, .any, .any, .any, .sl f 1 (zDX rows), .v (.int .i64 rows.length), .v (.int .i64 p.1.1), .any, .any, .any, .any, .any, .any, .any, .any], [.ent ⟨p.1.2, some 1, 3, zY (zAf (rows.take p.1.1)), .cells⟩]⟩) (fun p => rows.length - p.1.1) ⟨(0, 0), by omega⟩ (fun p => rfl) (fun p => zr (by simp only [List.map_cons, List.map_nil, zT, zAL])) (fun p => rfl) ⟨?_, ?_⟩ ?_
  ·simp only [List.take_zero, zAf, List.flatMap_nil, List.length_nil]
   exact Lq
  ·simp only [List.take_zero, zAf, List.flatMap_nil, zY, List.map_nil]
   exact Fq
  rintro ⟨⟨i, g⟩, hi⟩
  simp only at hi ⊢
  by_cases hlt : (i : Int) < (rows.length : Int)
  ·have hx : rows[i]? = some rows[i] := List.getElem?_eq_getElem (by omega)
   obtain ⟨r, hr0⟩ : ∃ r, rows[i] = r := ⟨_, rfl⟩
   rw [hr0] at hx
   have hst := zIj hx
   have hbd := zLk rows (i + 1)
   rw [hst, List.length_append] at hbd
   obtain ⟨L, hL⟩ : ∃ L, zAf (rows.take i) = L := ⟨_, rfl⟩
   rw [hL] at hbd hst ⊢
   have hlC := zZ L
   have htC : (zY L).take L.length = zY L := List.take_of_length_le (by omega)
   have hbm : Nat.beq g g = true := Nat.beq_refl g
   obtain ⟨fr, xr⟩ := r
   cases xr with
   | nil =>
    simp only [List.append_nil] at hst
    repeat' first | (with_reducible first | refine zA ?_ | refine zB ?_ | refine zO ?_ | refine zJ ?_ | refine zG ?_) | ((with_reducible refine And.intro ?_ ?_); · exact Sq) | ((with_reducible refine zC fun KC J hJ hKC => ?_); simp (maxSteps := 9999999) only [push_cast, seval, ↓reduceIte, hlt, zFS hx, zAW, hbm, hlC, htC, zb (i := i) (n := rows.length) (by omega) (by omega)]) | ((with_reducible refine hJ _ _ ?_); clear hJ hKC KC J) | ((with_reducible refine zF ?_ ?_); · rfl)
    refine ⟨⟨(i + 1, g), by omega⟩, by simp only; omega, ?_, ?_⟩
    ·simp only [hst]
     exact Lq
    ·simp only [hst]
     exact ⟨_, rfl⟩
   | cons a xr =>
    have hA := zAB L (a :: xr)
    rw [← zKc (a :: xr)] at hA
    simp only [List.length_cons] at hbd
    repeat' first | (with_reducible first | refine zA ?_ | refine zB ?_ | refine zO ?_ | refine zJ ?_ | refine zG ?_) | ((with_reducible refine And.intro ?_ ?_); · exact Sq) | ((with_reducible refine zC fun KC J hJ hKC => ?_); simp (maxSteps := 9999999) only [push_cast, seval, ↓reduceIte, hlt, zFS hx, zJC, hbm, hlC, htC, zb (i := i) (n := rows.length) (by omega) (by omega)]) | ((with_reducible refine hJ _ _ ?_); clear hJ hKC KC J) | ((with_reducible refine zF ?_ ?_); · rfl)
    refine ⟨⟨(i + 1, g + 1), by omega⟩, by simp only; omega, ?_, ?_⟩
    ·simp only [hst, List.length_append, List.length_cons]
     exact Lq
    ·simp only [hst, hA]
     exact ⟨_, rfl⟩
  ·have hin : i = rows.length := by omega
   subst hin
   rw [List.take_length]
   obtain ⟨L, hL⟩ : ∃ L, zAf rows = L := ⟨_, rfl⟩
   rw [hL] at hb ⊢
   have hlC := zZ L
   have hcI := zBn L
   have hbm : Nat.beq g g = true := Nat.beq_refl g
   repeat' first | (with_reducible first | refine zA ?_ | refine zB ?_ | refine zX ?_ | refine zW ?_ | refine zQ ?_) | ((with_reducible refine zC fun KC J hJ hKC => ?_); simp (maxSteps := 9999999) only [push_cast, seval, ↓reduceIte, hlt]) | ((with_reducible refine hJ _ _ ?_); clear hJ hKC KC J) | ((with_reducible refine zH ?_ ?_); · rfl)
   refine zt 0 rfl (by simp (maxSteps := 9999999) only [push_cast, seval, ↓reduceIte]) ?_
   simp (maxSteps := 9999999) only [push_cast, seval, ↓reduceIte, zAH, zd, fr3, fr2, fr1, fr0, zl, zj, hbm, hlC, hcI]
   refine zI ?_
   refine zE ?_
   simp (maxSteps := 9999999) only [push_cast, seval, ↓reduceIte, show Tryz.f43.results = #[(.tmp 2)] from rfl]
   exact zN _
def zNo (x y : Bool × Int × Int) : Bool := (x.1 == y.1)
def zNi (x y : Bool × Int × Int) : Bool := (x.2.1 == y.2.1)
theorem zQD (x y : Bool × Int × Int) : Fn Tryz.prog 205 [.agg [.v (.bool x.1), .v (.int .i64 x.2.1), .v (.int .i64 x.2.2)], .agg [.v (.bool y.1), .v (.int .i64 y.2.1), .v (.int .i64 y.2.2)]] [] (.v (.bool (zNo x y))) [] := by
 refine Fn.of (fn := Tryz.f205) (by kernel_rfl) rfl (by kernel_rfl) ⟨[.agg [.v (.bool x.1), .v (.int .i64 x.2.1), .v (.int .i64 x.2.2)], .agg [.v (.bool y.1), .v (.int .i64 y.2.1), .v (.int .i64 y.2.2)], .v undef, .v undef, .v undef, .v undef, .v undef, .v undef, .v undef, .v undef], []⟩ rfl ?_
 repeat' first | (with_reducible first | refine zA ?_ | refine zB ?_ | refine zI ?_) | ((with_reducible refine zC fun KC J hJ hKC => ?_); simp (maxSteps := 9999999) only [push_cast, seval, ↓reduceIte]) | ((with_reducible refine hJ _ _ ?_); clear hJ hKC KC J)
 refine zE ?_
 simp (maxSteps := 9999999) only [push_cast, seval, ↓reduceIte, show Tryz.f205.results = #[(.tmp 4)] from rfl]
 exact zN _
theorem zPN (x y : Bool × Int × Int) : Fn Tryz.prog 207 [.agg [.v (.bool x.1), .v (.int .i64 x.2.1), .v (.int .i64 x.2.2)], .agg [.v (.bool y.1), .v (.int .i64 y.2.1), .v (.int .i64 y.2.2)]] [] (.v (.bool (zNi x y))) [] := by
 refine Fn.of (fn := Tryz.f207) (by kernel_rfl) rfl (by kernel_rfl) ⟨[.agg [.v (.bool x.1), .v (.int .i64 x.2.1), .v (.int .i64 x.2.2)], .agg [.v (.bool y.1), .v (.int .i64 y.2.1), .v (.int .i64 y.2.2)], .v undef, .v undef, .v undef, .v undef, .v undef, .v undef, .v undef, .v undef], []⟩ rfl ?_
 repeat' first | (with_reducible first | refine zA ?_ | refine zB ?_ | refine zI ?_) | ((with_reducible refine zC fun KC J hJ hKC => ?_); simp (maxSteps := 9999999) only [push_cast, seval, ↓reduceIte]) | ((with_reducible refine hJ _ _ ?_); clear hJ hKC KC J)
 refine zE ?_
 simp (maxSteps := 9999999) only [push_cast, seval, ↓reduceIte, show Tryz.f207.results = #[(.tmp 4)] from rfl]
 exact zN _
def alS (us : List Nat) (o : Nat) (x y : Bool × Int × Int) : Bool := zNo x y && (x.2.2 == y.2.2 && (!fl us x.2.2.toNat o || zNi x y))
theorem zMp (f g : Bool) (ns : List ByteArray) (us : List Nat) (o a : Nat) (x y : Bool × Int × Int) (hs : Szs ns) (hu : U32 us) (hc : zq ns us = 0) (hx : x.2.2 = (a : Int)) (ha : a < us.length) (ho : o < us.length) :
  Fn Tryz.prog 219 [.agg [.v (.bool x.1), .v (.int .i64 x.2.1), .v (.int .i64 x.2.2)], .agg [.v (.bool y.1), .v (.int .i64 y.2.1), .v (.int .i64 y.2.2)], .fad zDu, .fad [.sl f 1 (zM ns), .sl g 1 (zL us), .v (.int .i64 (o : Int))]] [] (.v (.bool (alS us o x y))) [] := by
 have h1 := zQD x y
 have h2 := zHU x
 have h3 := zHU y
 have h4 := zPN x y
 have h5 := zAy f g ns us a o hs hu hc ha ho
 rw [hx] at h1 h2 h4
 obtain ⟨p, hp⟩ : ∃ p, zNo x y = p := ⟨_, rfl⟩
 obtain ⟨q, hq⟩ : ∃ q, ((a : Int) == y.2.2) = q := ⟨_, rfl⟩
 obtain ⟨z, hz⟩ : ∃ z, fl us a o = z := ⟨_, rfl⟩
 have hal : alS us o x y = (p && (q && (!z || zNi x y))) := by rw [alS, hp, hx, hq, Int.toNat_natCast, hz]
 rw [hal]
 rw [hp] at h1
 rw [hz] at h5
 rw [hx]
 refine Fn.of (fn := Tryz.f219) (by kernel_rfl) rfl (by kernel_rfl) ⟨[.agg [.v (.bool x.1), .v (.int .i64 x.2.1), .v (.int .i64 (a : Int))], .agg [.v (.bool y.1), .v (.int .i64 y.2.1), .v (.int .i64 y.2.2)], .fad zDu, .fad [.sl f 1 (zM ns), .sl g 1 (zL us), .v (.int .i64 (o : Int))], .v undef, .v undef, .v undef, .v undef, .v undef, .v undef, .v undef, .v undef, .v undef, .v undef, .v undef, .v undef, .v undef, .v undef, .v undef, .v undef, .v undef, .v undef, .v undef, .v undef, .v undef, .v undef, .v undef, .v undef, .v undef, .v undef, .v undef, .v undef, .v undef, .v undef, .v undef, .v undef, .v undef, .v undef, .v undef], []⟩ rfl ?_
 rcases p with _ | _
 rotate_left
 rcases q with _ | _
 rotate_left
 rcases z with _ | _
 all_goals
  repeat' first | (with_reducible first | refine zA ?_ | refine zB ?_ | refine zI ?_) | ((first | with_reducible refine zC fun KC J hJ hKC => ?_ | with_reducible refine zU rfl fun KC J hJ hKC => ?_ | (refine' hKC _ _ _ _ _ (zD (zAy _ _ _ _ _ _ ?_ ?_ ?_ ?_ ?_) rfl rfl rfl ?_ ?_); (rotate_left 11); (· exact Lq); (rotate_left 1); (iterate 5 (· exact Hq))) | (refine hKC _ _ _ _ _ (zD (h1) rfl rfl rfl ?_ ?_); (· exact Lq)) | (refine hKC _ _ _ _ _ (zD (h2) rfl rfl rfl ?_ ?_); (· exact Lq)) | (refine hKC _ _ _ _ _ (zD (h3) rfl rfl rfl ?_ ?_); (· exact Lq)) | (refine hKC _ _ _ _ _ (zD (h4) rfl rfl rfl ?_ ?_); (· exact Lq))); simp (maxSteps := 9999999) only [push_cast, seval, ↓reduceIte, hq, hz, undef]) | ((first | with_reducible refine hJ _ _ ?_ | (with_reducible refine hJ _ _ ?_ ?_; · kernel_rfl)); clear hJ hKC KC J)
  refine zE ?_
  simp (maxSteps := 9999999) only [push_cast, seval, ↓reduceIte, show Tryz.f219.results = #[(.tmp 6)] from rfl]
  exact zN _
def zCV (p : Bool × Int × Int → Bool × Int × Int → Bool) : List (Bool × Int × Int) → List (Bool × Int × Int) → Bool
 | [], [] => true
 | x :: xs, y :: ys => p x y && zCV p xs ys
 | _, _ => false
theorem zFJ {p : Bool × Int × Int → Bool × Int × Int → Bool} : ∀ {xs ys : List (Bool × Int × Int)}, ¬ xs.length = ys.length → zCV p xs ys = false
 | [], [], h => absurd rfl h
 | [], _ :: _, _ => rfl
 | _ :: _, [], _ => rfl
 | _ :: xs, _ :: ys, h => by rw [zCV, zFJ (fun e => h (by simp [e]))]; simp
theorem zFK {p : Bool × Int × Int → Bool × Int × Int → Bool} : ∀ {xs ys : List (Bool × Int × Int)}, xs.length = ys.length → (∀ (j : Nat) (x y : Bool × Int × Int), xs[j]? = some x → ys[j]? = some y → p x y = true) → zCV p xs ys = true
 | [], [], _, _ => rfl
 | [], _ :: _, h, _ => by simp at h
 | _ :: _, [], h, _ => by simp at h
 | x :: xs, y :: ys, h, hp => by
  rw [zCV, hp 0 x y rfl rfl, zFK (by simpa using h) (fun j a b ha hb => hp (j + 1) a b (by simpa using ha) (by simpa using hb))]; rfl
theorem zEZ {p : Bool × Int × Int → Bool × Int × Int → Bool} : ∀ {xs ys : List (Bool × Int × Int)} {j : Nat} {x y : Bool × Int × Int}, xs[j]? = some x → ys[j]? = some y → p x y = false → zCV p xs ys = false
 | [], _, j, x, y, h, _, _ => by simp at h
 | _ :: _, [], j, x, y, _, h, _ => by simp at h
 | a :: xs, b :: ys, 0, x, y, h1, h2, h3 => by simp at h1 h2; rw [zCV, h1, h2, h3]; rfl
 | a :: xs, b :: ys, j + 1, x, y, h1, h2, h3 => by rw [zCV, zEZ (by simpa using h1) (by simpa using h2) h3]; simp
theorem zJL (f g : Bool) (xs ys : List (Bool × Int × Int)) (cf : Nat) (caps : List D) (p : Bool × Int × Int → Bool × Int × Int → Bool) (hb : xs.length ≤ 9223372036854775807) (hc : zk caps = true)
  (hp : ∀ x ∈ xs, ∀ y, Fn Tryz.prog cf (.agg [.v (.bool x.1), .v (.int .i64 x.2.1), .v (.int .i64 x.2.2)] :: .agg [.v (.bool y.1), .v (.int .i64 y.2.1), .v (.int .i64 y.2.2)] :: caps) [] (.v (.bool (p x y))) []) : Fn Tryz.prog 218 [.sl f 3 (zc xs), .sl g 3 (zc ys), .fn cf caps] [] (.v (.bool (zCV p xs ys))) [] := by
 refine Fn.of (fn := Tryz.f218) (by kernel_rfl) rfl (by kernel_rfl) ⟨[.sl f 3 (zc xs), .sl g 3 (zc ys), .fn cf caps, .v undef, .v undef, .v undef, .v undef, .v undef, .v undef, .v undef, .v undef, .v undef, .v undef, .v undef, .v undef, .v undef, .v undef, .v undef, .v undef, .v undef, .v undef, .v undef, .v undef, .v undef, .v undef, .v undef, .v undef, .v undef, .v undef, .v undef, .v undef, .v undef], []⟩ rfl ?_
 by_cases hl : xs.length = ys.length
 ·have hl' : ((xs.length : Int) != (ys.length : Int)) = false := by simp [hl]
  repeat' first | (with_reducible first | refine zA ?_ | refine zB ?_ | refine zJ ?_ | refine zG ?_) | ((with_reducible refine zC fun KC J hJ hKC => ?_); simp (maxSteps := 9999999) only [push_cast, seval, ↓reduceIte, hl']) | ((with_reducible refine hJ _ _ ?_); clear hJ hKC KC J) | ((with_reducible refine zH ?_ ?_); · rfl)
  refine zi 0 (γ := {i : Nat // i ≤ xs.length ∧ ∀ (j : Nat) (x y : Bool × Int × Int), j < i → xs[j]? = some x → ys[j]? = some y → p x y = true}) (fun i => ⟨[.sl f 3 (zc xs), .sl g 3 (zc ys), .fn cf caps, .any, .any, .any, .any, .any, .any, .any, .any, .any, .any, .any, .any, .sl f 3 (zc xs), .v (.int .i64 xs.length), .v (.int .i64 i.1), .any, .any, .any, .any, .any, .any, .any, .any, .any, .any, .any, .any, .any, .any], []⟩) (fun i => xs.length - i.1) ⟨0, by simp⟩ (fun i => rfl) (fun i => rfl) (fun i => ?_) ⟨?_, Fq⟩ ?_
  ·simp only [List.map_cons, List.map_nil, show ren (mOf (List.range 0)) (.fn cf caps) = .fn cf caps from by show D.fn cf (caps.map _) = _; rw [zCd (fun d hd => zDU hd) hc]]
   rfl
  ·exact Lq
  ·rintro ⟨i, hi, hn⟩
   by_cases hlt : (i : Int) < (xs.length : Int)
   ·have hx : xs[i]? = some xs[i] := List.getElem?_eq_getElem (by omega)
    have hy : ys[i]? = some ys[i] := List.getElem?_eq_getElem (by omega)
    have hfn := hp xs[i] (List.getElem_mem (by omega)) ys[i]
    obtain ⟨a, ha⟩ : ∃ a, xs[i] = a := ⟨_, rfl⟩
    obtain ⟨b, hb2⟩ : ∃ b, ys[i] = b := ⟨_, rfl⟩
    rw [ha] at hx
    rw [hb2] at hy
    rw [ha, hb2] at hfn
    cases hpv : p a b with
    | true =>
     rw [hpv] at hfn
     repeat' first | (with_reducible first | refine zA ?_ | refine zB ?_ | refine zO ?_ | refine zJ ?_ | refine zG ?_) | ((with_reducible refine And.intro ?_ ?_); · exact Sq) | ((first | with_reducible refine zC fun KC J hJ hKC => ?_ | (refine hKC _ _ _ _ _ (zD (hfn) rfl rfl rfl ?_ ?_); (· exact Lq))); simp (maxSteps := 9999999) only [push_cast, seval, ↓reduceIte, hlt, zAJ hx, zAJ hy, zb (i := i) (n := xs.length) (by omega) hb]) | ((with_reducible refine hJ _ _ ?_); clear hJ hKC KC J) | ((with_reducible refine zF ?_ ?_); · rfl) | ((with_reducible refine zH ?_ ?_); · rfl)
     refine ⟨⟨i + 1, by omega, fun j x y hj h1 h2 => ?_⟩, by simp only; omega, ?_, ⟨_, rfl⟩⟩
     ·by_cases hji : j = i
      ·rw [hji] at h1 h2
       rw [hx] at h1; rw [hy] at h2
       cases h1; cases h2; exact hpv
      ·exact hn j x y (by omega) h1 h2
     ·exact Lq
    | false =>
     rw [hpv] at hfn
     repeat' first | (with_reducible first | refine zA ?_ | refine zB ?_ | refine zS ?_ | refine zg ?_ | refine zI ?_ | refine zJ ?_ | refine zG ?_) | ((with_reducible refine And.intro ?_ ?_); · exact Sq) | ((first | with_reducible refine zC fun KC J hJ hKC => ?_ | (refine hKC _ _ _ _ _ (zD (hfn) rfl rfl rfl ?_ ?_); (· exact Lq))); simp (maxSteps := 9999999) only [push_cast, seval, ↓reduceIte, hlt, zAJ hx, zAJ hy]) | ((with_reducible refine hJ _ _ ?_); clear hJ hKC KC J) | ((with_reducible refine zF ?_ ?_); · rfl)
     refine zE ?_
     simp (maxSteps := 9999999) only [push_cast, seval, ↓reduceIte, show Tryz.f218.results = #[(.tmp 6)] from rfl]
     rw [zEZ hx hy hpv]
     exact zN _
   ·skip
    repeat' first | (with_reducible first | refine zA ?_ | refine zB ?_ | refine zX ?_ | refine zW ?_ | refine zI ?_ | refine zQ ?_) | ((with_reducible refine zC fun KC J hJ hKC => ?_); simp (maxSteps := 9999999) only [push_cast, seval, ↓reduceIte, hlt]) | ((with_reducible refine hJ _ _ ?_); clear hJ hKC KC J) | ((with_reducible refine zH ?_ ?_); · rfl)
    refine zE ?_
    simp (maxSteps := 9999999) only [push_cast, seval, ↓reduceIte, show Tryz.f218.results = #[(.tmp 6)] from rfl]
    rw [zFK hl (fun j x y h1 h2 => hn j x y (by have := (List.getElem?_eq_some_iff.1 h1).1; omega) h1 h2)]
    exact zN _
 ·have hl' : ((xs.length : Int) != (ys.length : Int)) = true := by simp; omega
  repeat' first | (with_reducible first | refine zA ?_ | refine zB ?_ | refine zS ?_ | refine zI ?_) | ((with_reducible refine zC fun KC J hJ hKC => ?_); simp (maxSteps := 9999999) only [push_cast, seval, ↓reduceIte, hl']) | ((with_reducible refine hJ _ _ ?_); clear hJ hKC KC J) | ((with_reducible refine zF ?_ ?_); · rfl)
  refine zE ?_
  simp (maxSteps := 9999999) only [push_cast, seval, ↓reduceIte, show Tryz.f218.results = #[(.tmp 6)] from rfl]
  rw [zFJ hl]
  exact zN _
theorem zGe (f g fa fb : Bool) (ns : List ByteArray) (us : List Nat) (o : Nat) (xs ys : List (Bool × Int × Int)) (hs : Szs ns) (hu : U32 us) (hc : zq ns us = 0) (ho : o < us.length) (hb : xs.length ≤ 1000) (hx : ∀ x ∈ xs, zn us.length x.2.2 = false) :
  Fn Tryz.prog 113 [.agg [.sl f 1 (zM ns), .sl g 1 (zL us), .v (.int .i64 (o : Int))], .agg zDu, .sl fa 3 (zc xs), .sl fb 3 (zc ys)] [] (.v (.bool (zCV (alS us o) xs ys))) [] := by
 have hcf := zJL fa fb xs ys 219 [.fad zDu, .fad [.sl f 1 (zM ns), .sl g 1 (zL us), .v (.int .i64 (o : Int))]] (alS us o) (by omega) rfl (fun x hm y => by
  obtain ⟨a, ha, hl⟩ := zAP (hx x hm)
  exact zMp f g ns us o a x y hs hu hc ha hl ho)
 refine Fn.of (fn := Tryz.f113) (by kernel_rfl) rfl (by kernel_rfl) ⟨[.agg [.sl f 1 (zM ns), .sl g 1 (zL us), .v (.int .i64 (o : Int))], .agg zDu, .sl fa 3 (zc xs), .sl fb 3 (zc ys), .v undef, .v undef, .v undef, .v undef, .v undef, .v undef, .v undef, .v undef, .v undef], []⟩ rfl ?_
 repeat' first | (refine zV 1 0 rfl (by (simp (maxSteps := 9999999) only [push_cast, seval, ↓reduceIte]) <;> rfl) ?_; simp (maxSteps := 9999999) only [push_cast, seval, ↓reduceIte, zAH, zd, fr3, fr2, fr1, fr0, zl, zj, zk, Bool.and_self]) | (refine zV 1 1 rfl (by (simp (maxSteps := 9999999) only [push_cast, seval, ↓reduceIte]) <;> rfl) ?_; simp (maxSteps := 9999999) only [push_cast, seval, ↓reduceIte, zAH, zd, fr3, fr2, fr1, fr0, zl, zj, zk, Bool.and_self]) | (with_reducible first | refine zA ?_ | refine zB ?_ | refine zI ?_) | ((first | with_reducible refine zC fun KC J hJ hKC => ?_ | (refine hKC _ _ _ _ _ (zD (hcf) rfl rfl rfl ?_ ?_); (· exact Lq))); simp (maxSteps := 9999999) only [push_cast, seval, ↓reduceIte, zk, Bool.and_self]) | ((with_reducible refine hJ _ _ ?_); clear hJ hKC KC J)
 refine zE ?_
 simp (maxSteps := 9999999) only [push_cast, seval, ↓reduceIte, show Tryz.f113.results = #[(.tmp 8)] from rfl]
 exact zN _
theorem Fn.nil1 {P : Program} {f : Nat} {full : Bool} {sz : Nat} {res : D} {out : List Slot} (h : ∀ A cap, Fn P f [.v (.slice A 0 cap)] [] res out) : Fn P f [.sl full sz []] [] res out where
 spec := fun N0 ρ w vs hp hs hr => by
  have h0 : 0 < vs.size := by rw [hs]; simp
  have hv : vs[0]? = some vs[0] := Array.getElem?_eq_getElem h0
  have hrep := (hr 0 _ _ rfl hv).sl_inv
  generalize hu : vs[0] = u at hrep
  cases hrep with
  | sl0 _ _ A cap _ =>
   refine (h A cap).spec N0 ρ w vs hp (by rw [hs]; rfl) fun j d u hd hu' => ?_
   cases j with
   | zero =>
    simp only [List.getElem?_cons_zero, Option.some.injEq] at hd
    rw [hv, hu] at hu'
    cases hu'
    subst hd
    exact .fro _ _ (.v _)
   | succ j => simp at hd
  | sl _ _ _ b o cap n g hn hpos => simp at hn; omega
 enter := (h none 0).enter
theorem zJg (f : Bool) (l : List (Int × Int)) (h0 : 0 < l.length) (hb : l.length ≤ 1000000) : Fn Tryz.prog 216 [.sl f 2 (zR l)] [] (.ref 0 0 l.length) [.ent ⟨0, some 2, 34, zm l, .cells⟩] := by
 have hnl := zLw h0
 have hfl : (zR l).flatten = zm l := rfl
 refine Fn.of (fn := Tryz.f216) (by kernel_rfl) rfl (by kernel_rfl) ⟨[.sl f 2 (zR l), .v undef, .v undef, .v undef, .v undef, .v undef, .v undef, .v undef], []⟩ rfl ?_
 repeat' first | (with_reducible first | refine zA ?_ | refine zB ?_ | refine zJ ?_) | ((with_reducible refine And.intro ?_ ?_); · exact Sq) | ((with_reducible refine zC fun KC J hJ hKC => ?_); simp (maxSteps := 9999999) only [push_cast, seval, ↓reduceIte, hnl, hfl, Nat.zero_add]) | ((with_reducible refine hJ _ _ ?_); clear hJ hKC KC J) | ((with_reducible refine zH ?_ ?_); · rfl)
 refine zI ?_
 refine zEb [1] ?_ (by simp) ?_
 ·simp (maxSteps := 9999999) only [push_cast, seval, ↓reduceIte, show Tryz.f216.results = #[.tmp 2] from rfl, pick, mOf, idx, zT, zu]
  exact zN _
 ·intro k hk
  exact absurd hk (by simp)
theorem zHo (f : Bool) : Fn (Tryz.prog) 216 [.sl f 2 []] [] (.sl true 2 []) [] := by
 refine Fn.nil1 fun A cap => ?_
 refine Fn.of (fn := Tryz.f216) (by kernel_rfl) rfl (by kernel_rfl) ⟨[.v (.slice A 0 cap), .v undef, .v undef, .v undef, .v undef, .v undef, .v undef, .v undef], []⟩ rfl ?_
 cases A
 all_goals
  repeat' first | (with_reducible first | refine zA ?_ | refine zB ?_ | refine zS ?_ | refine zI ?_ | refine zJ ?_) | ((with_reducible refine zC fun KC J hJ hKC => ?_); simp (maxSteps := 9999999) only [push_cast, seval, ↓reduceIte, Option.isNone_none, Option.isNone_some]) | ((with_reducible refine hJ _ _ ?_); clear hJ hKC KC J) | ((with_reducible refine zF ?_ ?_); · rfl) | ((with_reducible refine zH ?_ ?_); · rfl)
  refine zE ?_
  simp (maxSteps := 9999999) only [push_cast, seval, ↓reduceIte, show Tryz.f216.results = #[(.tmp 2)] from rfl]
  exact Lq
theorem zJB (f : Bool) (xs : List (Int × Int)) (cf : Nat) (caps : List D) (p : Int × Int → Bool) (hb : xs.length ≤ 9223372036854775807) (hc : zk caps = true)
  (hp : ∀ x ∈ xs, Fn Tryz.prog cf (.agg [.v (.int .i64 x.1), .v (.int .i64 x.2)] :: caps) [] (.v (.bool (p x))) []) : Fn Tryz.prog 197 [.sl f 2 (zR xs), .fn cf caps] [] (.v (.int .i64 (zDQ p xs))) [] := by
 refine Fn.of (fn := Tryz.f197) (by kernel_rfl) rfl (by kernel_rfl) ⟨[.sl f 2 (zR xs), .fn cf caps, .v undef, .v undef, .v undef, .v undef, .v undef, .v undef, .v undef, .v undef, .v undef, .v undef, .v undef, .v undef, .v undef, .v undef, .v undef, .v undef, .v undef], []⟩ rfl ?_
 repeat' first | (with_reducible first | refine zA ?_ | refine zB ?_ | refine zG ?_) | ((with_reducible refine zC fun KC J hJ hKC => ?_); simp (maxSteps := 9999999) only [push_cast, seval, ↓reduceIte]) | ((with_reducible refine hJ _ _ ?_); clear hJ hKC KC J)
 refine ze (γ := {i : Nat // i ≤ xs.length ∧ ∀ (j : Nat) (hj : j < xs.length), j < i → p xs[j] = false}) (fun i => ⟨[.sl f 2 (zR xs), .fn cf caps, .any, .any, .any, .any, .any, .v (.int .i64 xs.length), .v (.int .i64 i.1), .any, .any, .any, .any, .any, .any, .any, .any, .any, .any], []⟩) (fun i => xs.length - i.1) ⟨0, by simp⟩ ⟨?_, Fq⟩ ?_
 ·exact Lq
 ·rintro ⟨i, hi, hn⟩
  by_cases hlt : (i : Int) < (xs.length : Int)
  ·have hx : xs[i]? = some xs[i] := List.getElem?_eq_getElem (by omega)
   have hfn := hp xs[i] (List.getElem_mem (by omega))
   repeat' first | (with_reducible first | refine zA ?_ | refine zB ?_ | refine zS ?_ | refine zO ?_ | refine zg ?_ | refine zI ?_ | refine zJ ?_ | refine zG ?_) | ((with_reducible refine And.intro ?_ ?_); · exact Sq) | ((first | with_reducible refine zC fun KC J hJ hKC => ?_ | (refine hKC _ _ _ _ _ (zD (hfn) rfl rfl rfl ?_ ?_); (· exact Lq))); simp (maxSteps := 9999999) only [push_cast, seval, ↓reduceIte, hlt, zAK hx, zb (i := i) (n := xs.length) (by omega) hb]) | ((with_reducible refine hJ _ _ ?_); clear hJ hKC KC J) | ((with_reducible refine zF ?_ ?_); · rfl) | (refine zs rfl (fun h => ?_) (fun h => ?_) <;> try simp only [decide_eq_true_eq, decide_eq_false_iff_not, Bool.not_eq_true', Bool.not_eq_false', beq_iff_eq, bne_iff_ne, ne_eq, Bool.not_eq_true, Bool.or_eq_true, Bool.and_eq_true, Bool.or_eq_false_iff, Bool.and_eq_false_imp, beq_eq_false_iff_ne, bne_eq_false_iff_eq] at h)
   ·refine zE ?_
    simp (maxSteps := 9999999) only [push_cast, seval, ↓reduceIte, show Tryz.f197.results = #[(.tmp 4)] from rfl]
    exact zAF (by rw [zBt (by omega) h hn])
   ·refine ⟨⟨i + 1, by omega, fun j hj hji => ?_⟩, by simp only; omega, ?_, Fq⟩
    ·by_cases he : j = i
     ·subst he; exact h
     ·exact hn j hj (by omega)
    ·exact Lq
  ·skip
   repeat' first | (with_reducible first | refine zA ?_ | refine zB ?_ | refine zX ?_ | refine zW ?_ | refine zI ?_ | refine zQ ?_) | ((with_reducible refine zC fun KC J hJ hKC => ?_); simp (maxSteps := 9999999) only [push_cast, seval, ↓reduceIte, hlt]) | ((with_reducible refine hJ _ _ ?_); clear hJ hKC KC J) | ((with_reducible refine zH ?_ ?_); · rfl)
   refine zE ?_
   simp (maxSteps := 9999999) only [push_cast, seval, ↓reduceIte, show Tryz.f197.results = #[(.tmp 4)] from rfl]
   exact zAF (by rw [zBB (fun j hj => hn j hj (by omega))])
theorem zJY {l : List (Int × Int)} {n : Nat} {x : Int × Int} (h : l[n]? = some x) : ((zm l).drop (n * 2)).take 2 = [.v (.int .i64 x.1), .v (.int .i64 x.2)] := by
 obtain ⟨hn, rfl⟩ := List.getElem?_eq_some_iff.1 h
 rw [zGk, List.drop_eq_getElem_cons hn]
 rfl
theorem zMr (l : List (Int × Int)) {a : Nat} (x : Int × Int) (h : a < l.length) : zm (l.set a x) = (zm l).take (a * 2) ++ [.v (.int .i64 x.1), .v (.int .i64 x.2)] ++ (zm l).drop (a * 2 + 2) := by
 rw [List.set_eq_take_append_cons_drop, if_pos h, zII, zHB]
 have h2 : a * 2 + 2 = (a + 1) * 2 := by omega
 rw [h2, zGk]
 simp [zm, zR]
theorem zHa (xs : List (Int × Int)) (n : Nat) (hn0 : xs.length = n) (cf : Nat) (caps : List D) (p : Int × Int → Bool) (hb : n ≤ 1000000) (hc : zk caps = true)
  (hp : ∀ x ∈ xs, Fn Tryz.prog cf (.agg [.v (.int .i64 x.1), .v (.int .i64 x.2)] :: caps) [] (.v (.bool (p x))) []) : Fn (Tryz.prog) 197 [.ref 0 0 n, .fn cf caps] [.ent ⟨0, some 2, 34, zm xs, .cells⟩] (.v (.int .i64 (zDQ p xs))) [.ent ⟨0, some 2, 34, zm xs, .cells⟩] := by
 have hlC : (zm xs).length = n * 2 := by rw [zBm, hn0]
 refine Fn.of (fn := Tryz.f197) (by kernel_rfl) rfl (by kernel_rfl) ⟨[.ref 0 0 n, .fn cf caps, .v undef, .v undef, .v undef, .v undef, .v undef, .v undef, .v undef, .v undef, .v undef, .v undef, .v undef, .v undef, .v undef, .v undef, .v undef, .v undef, .v undef], [.ent ⟨0, some 2, 34, zm xs, .cells⟩]⟩ rfl ?_
 repeat' first | (with_reducible first | refine zA ?_ | refine zB ?_ | refine zG ?_) | ((with_reducible refine zC fun KC J hJ hKC => ?_); simp (maxSteps := 9999999) only [push_cast, seval, ↓reduceIte, hlC]) | ((with_reducible refine hJ _ _ ?_); clear hJ hKC KC J)
 refine ze (γ := {i : Nat // i ≤ n ∧ ∀ (j : Nat) (hj : j < xs.length), j < i → p xs[j] = false}) (fun i => ⟨[.ref 0 0 n, .fn cf caps, .any, .any, .any, .any, .any, .v (.int .i64 n), .v (.int .i64 i.1), .any, .any, .any, .any, .any, .any, .any, .any, .any, .any], [.ent ⟨0, some 2, 34, zm xs, .cells⟩]⟩) (fun i => n - i.1) ⟨0, by simp⟩ ⟨?_, Fq⟩ ?_
 ·exact Lq
 ·rintro ⟨i, hi, hn⟩
  by_cases hlt : (i : Int) < (n : Int)
  ·have hx : xs[i]? = some xs[i] := List.getElem?_eq_getElem (by omega)
   have hfn := hp xs[i] (List.getElem_mem (by omega))
   have hat := zJY hx
   repeat' first | (with_reducible first | refine zA ?_ | refine zB ?_ | refine zS ?_ | refine zO ?_ | refine zg ?_ | refine zI ?_ | refine zJ ?_ | refine zG ?_) | ((with_reducible refine And.intro ?_ ?_); · exact Sq) | ((first | with_reducible refine zC fun KC J hJ hKC => ?_ | (refine hKC _ _ _ _ _ (zD (hfn) rfl rfl rfl ?_ ?_); (· exact Lq))); simp (maxSteps := 9999999) only [push_cast, seval, ↓reduceIte, hlt, hlC, hat, zb (i := i) (n := n) (by omega) (by omega)]) | ((with_reducible refine hJ _ _ ?_); clear hJ hKC KC J) | ((with_reducible refine zF ?_ ?_); · rfl) | (refine zs rfl (fun h => ?_) (fun h => ?_) <;> try simp only [decide_eq_true_eq, decide_eq_false_iff_not, Bool.not_eq_true', Bool.not_eq_false', beq_iff_eq, bne_iff_ne, ne_eq, Bool.not_eq_true, Bool.or_eq_true, Bool.and_eq_true, Bool.or_eq_false_iff, Bool.and_eq_false_imp, beq_eq_false_iff_ne, bne_eq_false_iff_eq] at h)
   ·refine zDa ?_
    simp (maxSteps := 9999999) only [push_cast, seval, ↓reduceIte, show Tryz.f197.results = #[(.tmp 4)] from rfl]
    exact ⟨(by show List.map _ [0] = _; simp only [List.map_cons, List.map_nil, zBH, zT, zu]), zAF (by rw [zBt (by omega) h hn])⟩
   ·refine ⟨⟨i + 1, by omega, fun j hj hji => ?_⟩, by simp only; omega, ?_, Fq⟩
    ·by_cases he : j = i
     ·subst he; exact h
     ·exact hn j hj (by omega)
    ·exact Lq
  ·skip
   repeat' first | (with_reducible first | refine zA ?_ | refine zB ?_ | refine zX ?_ | refine zW ?_ | refine zI ?_ | refine zQ ?_) | ((with_reducible refine zC fun KC J hJ hKC => ?_); simp (maxSteps := 9999999) only [push_cast, seval, ↓reduceIte, hlt, hlC]) | ((with_reducible refine hJ _ _ ?_); clear hJ hKC KC J) | ((with_reducible refine zH ?_ ?_); · rfl)
   refine zDa ?_
   simp (maxSteps := 9999999) only [push_cast, seval, ↓reduceIte, show Tryz.f197.results = #[(.tmp 4)] from rfl]
   exact ⟨(by show List.map _ [0] = _; simp only [List.map_cons, List.map_nil, zBH, zT, zu]), zAF (by rw [zBB (fun j hj => hn j hj (by omega))])⟩
theorem zMi {α : Type} (p : α → Bool) (xs : List α) : (zDQ p xs = -1 ∧ ∀ x ∈ xs, p x = false) ∨ ∃ i, zDQ p xs = (i : Nat) ∧ ∃ h : i < xs.length, p xs[i] = true ∧ ∀ (j : Nat) (hj : j < xs.length), j < i → p xs[j] = false := by
 unfold zDQ
 cases h : xs.findIdx? p with
 | none =>
  rw [List.findIdx?_eq_none_iff] at h
  exact .inl ⟨rfl, h⟩
 | some i =>
  rw [List.findIdx?_eq_some_iff_getElem] at h
  obtain ⟨h1, h2, h3⟩ := h
  exact .inr ⟨i, rfl, h1, h2, fun j hj hji => by simpa using h3 j hji⟩
theorem zHE (cf : Nat) (caps : List D) (hc : zk caps = true) : Fn (Tryz.prog) 215 [.sl true 2 [], .fn cf caps] [] (.sl true 2 []) [] := by
 have hif := zJB true [] cf caps (fun _ => false) (by simp) hc (fun x hx => by cases hx)
 refine Fn.of (fn := Tryz.f215) (by kernel_rfl) rfl (by kernel_rfl) ⟨[.sl true 2 [], .fn cf caps, .v undef, .v undef, .v undef, .v undef, .v undef, .v undef, .v undef, .v undef, .v undef, .v undef, .v undef, .v undef, .v undef, .v undef, .v undef, .v undef, .v undef, .v undef, .v undef, .v undef, .v undef, .v undef, .v undef, .v undef, .v undef, .v undef, .v undef, .v undef, .v undef, .v undef, .v undef, .v undef, .v undef, .v undef, .v undef, .v undef, .v undef, .v undef, .v undef, .v undef], []⟩ rfl ?_
 repeat' first | (with_reducible first | refine zA ?_ | refine zB ?_ | refine zS ?_ | refine zI ?_) | ((first | with_reducible refine zC fun KC J hJ hKC => ?_ | (refine hKC _ _ _ _ _ (zD (hif) rfl rfl rfl ?_ ?_); (· exact Lq))); simp (maxSteps := 9999999) only [push_cast, seval, ↓reduceIte, (show zDQ (fun _ : Int × Int => false) [] = -1 from rfl)]) | ((with_reducible refine hJ _ _ ?_); clear hJ hKC KC J) | ((with_reducible refine zF ?_ ?_); · rfl)
 refine zE ?_
 simp (maxSteps := 9999999) only [push_cast, seval, ↓reduceIte, show Tryz.f215.results = #[(.tmp 4)] from rfl]
 exact Lq
theorem zHe (l : List (Int × Int)) (n : Nat) (hn0 : l.length = n) (cf : Nat) (caps : List D) (q : Int × Int → Bool) (hb : n ≤ 1000000) (hc : zk caps = true)
  (hp : ∀ x ∈ l, Fn Tryz.prog cf (.agg [.v (.int .i64 x.1), .v (.int .i64 x.2)] :: caps) [] (.v (.bool (!q x))) []) :
  Fn (Tryz.prog) 215 [.ref 0 0 n, .fn cf caps] [.ent ⟨0, some 2, 34, zm l, .cells⟩] (.sl false 2 (zR (l.filter q))) [.dead] := by
 have hif := zHa l n hn0 cf caps (fun x => !q x) hb hc hp
 have hlC : ∀ l : List (Int × Int), l.length = n → (zm l).length = n * 2 := fun l h => by rw [zBm, h]
 have hbm : Nat.beq 0 0 = true := rfl
 refine Fn.of (fn := Tryz.f215) (by kernel_rfl) rfl (by kernel_rfl) ⟨[.ref 0 0 n, .fn cf caps, .v undef, .v undef, .v undef, .v undef, .v undef, .v undef, .v undef, .v undef, .v undef, .v undef, .v undef, .v undef, .v undef, .v undef, .v undef, .v undef, .v undef, .v undef, .v undef, .v undef, .v undef, .v undef, .v undef, .v undef, .v undef, .v undef, .v undef, .v undef, .v undef, .v undef, .v undef, .v undef, .v undef, .v undef, .v undef, .v undef, .v undef, .v undef, .v undef, .v undef], [.ent ⟨0, some 2, 34, zm l, .cells⟩]⟩ rfl ?_
 rcases zMi (fun x => !q x) l with ⟨hi, hno⟩ | ⟨i, hi, hil, hpi, hno⟩
 ·have hfl : l.filter q = l := List.filter_eq_self.2 fun x hx => by simpa using hno x hx
  rw [hfl]
  have hcS : zBF 2 n (zm l) = zR l := by rw [← hn0]; exact zKV l
  repeat' first | (with_reducible first | refine zA ?_ | refine zB ?_) | ((first | with_reducible refine zC fun KC J hJ hKC => ?_ | (refine hKC _ _ _ _ _ (zw [0] hif rfl rfl rfl (by decide) (by simp) rfl (by simp only [push_cast, pick, mOf, idx, zT, zu]) (by simp only [push_cast, mOf, idx]; exact ⟨zN _, zMq hc, trivial⟩) ?_))); simp (maxSteps := 9999999) only [push_cast, seval, ↓reduceIte, hi, zy, zf, zT, pick, mOf, idx, zu]) | ((with_reducible refine hJ _ _ ?_); clear hJ hKC KC J) | ((with_reducible refine zF ?_ ?_); · rfl)
  refine zt 0 rfl (by simp (maxSteps := 9999999) only [push_cast, seval, ↓reduceIte]) ?_
  simp (maxSteps := 9999999) only [push_cast, seval, ↓reduceIte, zAH, zd, fr3, fr2, fr1, fr0, zl, zj, hbm, hlC l hn0, hcS]
  refine zI ?_
  refine zDa ?_
  simp (maxSteps := 9999999) only [push_cast, seval, ↓reduceIte, show Tryz.f215.results = #[(.tmp 4)] from rfl]
  exact ⟨rfl, zN _⟩
 ·skip
  repeat' first | (with_reducible first | refine zA ?_ | refine zB ?_ | refine zJ ?_ | refine zG ?_) | ((first | with_reducible refine zC fun KC J hJ hKC => ?_ | (refine hKC _ _ _ _ _ (zw [0] hif rfl rfl rfl (by decide) (by simp) rfl (by simp only [push_cast, pick, mOf, idx, zT, zu]) (by simp only [push_cast, mOf, idx]; exact ⟨zN _, zMq hc, trivial⟩) ?_))); simp (maxSteps := 9999999) only [push_cast, seval, ↓reduceIte, hi, zy, zf, zT, pick, mOf, idx, zu]) | ((with_reducible refine hJ _ _ ?_); clear hJ hKC KC J) | ((with_reducible refine zH ?_ ?_); · rfl)
  refine zi 1 (γ := {s : List (Int × Int) × Nat × Nat // s.1.length = n ∧ s.2.1 ≤ s.2.2 ∧ s.2.2 ≤ n ∧ s.1.take s.2.1 = (l.take s.2.2).filter q ∧ s.1.drop s.2.2 = l.drop s.2.2}) (fun s => ⟨[.ref 0 0 n, .fn cf caps, .any, .any, .any, .v (.int .i64 s.1.2.1), .v (.int .i64 s.1.2.2), .any, .any, .any, .any, .any, .any, .any, .any, .any, .any, .any, .any, .any, .any, .any, .any, .any, .any, .any, .any, .any, .any, .any, .any, .any, .any, .any, .any, .any, .any, .any, .any, .any, .any, .any], [.ent ⟨0, some 2, 34, zm s.1.1, .cells⟩]⟩) (fun s => n - s.1.2.2) ⟨(l, i, i + 1), hn0, by simp, by simp only; omega, ?_, rfl⟩ (fun s => rfl) (fun s => ?_) (fun s => ?_) ⟨?_, ?_⟩ ?_
  ·simp only
   rw [List.take_succ_eq_append_getElem hil, List.filter_append, List.filter_eq_self.2 (fun x hx => ?_)]
   ·simp at hpi; simp [hpi]
   ·obtain ⟨j, hj, rfl⟩ := List.mem_iff_getElem.1 hx
    have hj2 : j < i := by rw [List.length_take] at hj; omega
    have := hno j (by omega) hj2
    simpa using this
  ·refine zr ?_
   simp only [List.map_cons, List.map_nil, zT, zu]
  ·simp only [List.map_cons, List.map_nil, show ren (mOf (List.range 1)) (.fn cf caps) = .fn cf caps from by show D.fn cf (caps.map _) = _; rw [zCd (fun d hd => zDU hd) hc]]
   rfl
  ·simp only [zb (i := i) (n := n) (by omega) (by omega)]
   exact Lq
  ·exact Fq
  rintro ⟨⟨l', a, b⟩, h1, h2, h3, h4, h5⟩
  simp only at h1 h2 h3 h4 h5 ⊢
  by_cases hlt : (b : Int) < (n : Int)
  ·have hbn : b < n := by omega
   have hx : l[b]? = some l[b] := List.getElem?_eq_getElem (by omega)
   have hxm : l[b] ∈ l := List.getElem_mem (by omega)
   obtain ⟨x, hx0⟩ : ∃ x, l[b] = x := ⟨_, rfl⟩
   rw [hx0] at hx hxm
   have hx' : l'[b]? = some x := by
    have := congrArg (fun m => m[0]?) h5
    simp only [List.getElem?_drop, Nat.add_zero] at this
    rw [this, hx]
   have hfn := hp x hxm
   have hat := zJY hx'
   have htk : (l.take (b + 1)).filter q = (l.take b).filter q ++ (if q x = true then [x] else []) := by
    rw [List.take_succ_eq_append_getElem (by omega), List.filter_append, hx0]
    by_cases h : q x = true <;> simp [h]
   have hdr : l'.drop (b + 1) = l.drop (b + 1) := by
    have := congrArg (List.drop 1) h5
    simpa [List.drop_drop, Nat.add_comm] using this
   cases hq : q x with
   | true =>
    rw [hq] at hfn
    have hset := zMr l' x (a := a) (by omega)
    rw [hq, if_pos rfl] at htk
    repeat' first | (with_reducible first | refine zA ?_ | refine zB ?_ | refine zO ?_ | refine zJ ?_ | refine zG ?_) | ((with_reducible refine And.intro ?_ ?_); · exact Sq) | ((first | with_reducible refine zC fun KC J hJ hKC => ?_ | (refine hKC _ _ _ _ _ (zD (hfn) rfl rfl rfl ?_ ?_); (· exact Lq))); simp (maxSteps := 9999999) only [push_cast, seval, ↓reduceIte, hlt, hlC l' h1, hat, zb (i := a) (n := n) (by omega) (by omega), zb (i := b) (n := n) (by omega) (by omega)]) | ((with_reducible refine hJ _ _ ?_); clear hJ hKC KC J) | ((with_reducible refine zF ?_ ?_); · rfl)
    refine ⟨⟨(l'.set a x, a + 1, b + 1), by simp [h1], by simp only; omega, by simp only; omega, ?_, ?_⟩, by simp only; omega, ?_, ?_⟩
    ·simp only
     rw [htk, ← h4, List.take_succ_eq_append_getElem (by simp; omega), List.getElem_set_self, List.take_set_of_le (Nat.le_refl _)]
    ·simp only
     rw [List.drop_set_of_lt (by omega), hdr]
    ·exact Lq
    ·simp only [hset]
     exact ⟨_, rfl⟩
   | false =>
    rw [hq] at hfn
    rw [hq, if_neg (by simp), List.append_nil] at htk
    repeat' first | (with_reducible first | refine zA ?_ | refine zB ?_ | refine zO ?_ | refine zJ ?_ | refine zG ?_) | ((with_reducible refine And.intro ?_ ?_); · exact Sq) | ((first | with_reducible refine zC fun KC J hJ hKC => ?_ | (refine hKC _ _ _ _ _ (zD (hfn) rfl rfl rfl ?_ ?_); (· exact Lq))); simp (maxSteps := 9999999) only [push_cast, seval, ↓reduceIte, hlt, hlC l' h1, hat, zb (i := b) (n := n) (by omega) (by omega)]) | ((with_reducible refine hJ _ _ ?_); clear hJ hKC KC J) | ((with_reducible refine zF ?_ ?_); · rfl) | ((with_reducible refine zH ?_ ?_); · rfl)
    refine ⟨⟨(l', a, b + 1), h1, by simp only; omega, by simp only; omega, by simp only; rw [htk]; exact h4, hdr⟩, by simp only; omega, ?_, ⟨_, rfl⟩⟩
    exact Lq
  ·have hbn : b = n := by omega
   subst hbn
   rw [← hn0, List.take_length] at h4
   have hT : (zm l').take (a * 2) = zm (l.filter q) := by rw [zHB, h4]
   have hFl : (l.filter q).length = a := by rw [← h4]; simp; omega
   obtain ⟨F, hF⟩ : ∃ F, l.filter q = F := ⟨_, rfl⟩
   rw [hF] at hT hFl ⊢
   have hFC : (zm F).length = a * 2 := by rw [zBm, hFl]
   have hcS : zBF 2 a (zm F) = zR F := by rw [← hFl]; exact zKV F
   repeat' first | (with_reducible first | refine zA ?_ | refine zB ?_ | refine zX ?_ | refine zW ?_ | refine zQ ?_) | ((with_reducible refine And.intro ?_ ?_); · exact Sq) | ((with_reducible refine zC fun KC J hJ hKC => ?_); simp (maxSteps := 9999999) only [push_cast, seval, ↓reduceIte, hlt, hlC l' h1, hT]) | ((with_reducible refine hJ _ _ ?_); clear hJ hKC KC J) | ((with_reducible refine zH ?_ ?_); · rfl)
   refine zt 0 rfl (by simp (maxSteps := 9999999) only [push_cast, seval, ↓reduceIte]) ?_
   simp (maxSteps := 9999999) only [push_cast, seval, ↓reduceIte, zAH, zd, fr3, fr2, fr1, fr0, zl, zj, hbm, hFC, hcS]
   refine zI ?_
   refine zDa ?_
   simp (maxSteps := 9999999) only [push_cast, seval, ↓reduceIte, show Tryz.f215.results = #[(.tmp 4)] from rfl]
   exact ⟨rfl, zN _⟩
theorem zEr (f g : Bool) (xs ys : List (Int × Int)) (hb : xs.length ≤ 9223372036854775807) : Fn Tryz.prog 154 [.sl f 2 (zR xs), .sl g 2 (zR ys)] [] (.v (.bool (decide (xs = ys)))) [] := by
 refine Fn.of (fn := Tryz.f154) (by kernel_rfl) rfl (by kernel_rfl) ⟨[.sl f 2 (zR xs), .sl g 2 (zR ys), .v undef, .v undef, .v undef, .v undef, .v undef, .v undef, .v undef, .v undef, .v undef, .v undef, .v undef, .v undef, .v undef, .v undef, .v undef, .v undef, .v undef, .v undef, .v undef, .v undef, .v undef, .v undef, .v undef, .v undef], []⟩ rfl ?_
 by_cases hl : xs.length = ys.length
 ·have hl' : ((xs.length : Int) != (ys.length : Int)) = false := by simp [hl]
  repeat' first | (with_reducible first | refine zA ?_ | refine zB ?_ | refine zJ ?_ | refine zG ?_) | ((with_reducible refine zC fun KC J hJ hKC => ?_); simp (maxSteps := 9999999) only [push_cast, seval, ↓reduceIte, hl']) | ((with_reducible refine hJ _ _ ?_); clear hJ hKC KC J) | ((with_reducible refine zH ?_ ?_); · rfl)
  refine ze (γ := {i : Nat // i ≤ xs.length ∧ ∀ j, j < i → xs[j]? = ys[j]?}) (fun i => ⟨[.sl f 2 (zR xs), .sl g 2 (zR ys), .any, .any, .any, .any, .any, .any, .any, .any, .any, .any, .v (.int .i64 xs.length), .v (.int .i64 i.1), .any, .any, .any, .any, .any, .any, .any, .any, .any, .any, .any, .any], []⟩) (fun i => xs.length - i.1) ⟨0, by simp⟩ ⟨?_, Fq⟩ ?_
  ·exact Lq
  ·rintro ⟨i, hi, hn⟩
   by_cases hlt : (i : Int) < (xs.length : Int)
   ·have hx : xs[i]? = some xs[i] := List.getElem?_eq_getElem (by omega)
    have hy : ys[i]? = some ys[i] := List.getElem?_eq_getElem (by omega)
    obtain ⟨a, ha⟩ : ∃ a, xs[i] = a := ⟨_, rfl⟩
    obtain ⟨b, hb2⟩ : ∃ b, ys[i] = b := ⟨_, rfl⟩
    rw [ha] at hx
    rw [hb2] at hy
    by_cases he : a = b
    ·have he' : decide (a = b) = true := decide_eq_true he
     repeat' first | (with_reducible first | refine zA ?_ | refine zB ?_ | refine zO ?_ | refine zJ ?_ | refine zG ?_) | ((with_reducible refine And.intro ?_ ?_); · exact Sq) | ((first | with_reducible refine zC fun KC J hJ hKC => ?_ | with_reducible refine zU rfl fun KC J hJ hKC => ?_); simp (maxSteps := 9999999) only [push_cast, seval, ↓reduceIte, hlt, zAK hx, zAK hy, zHS, he', zb (i := i) (n := xs.length) (by omega) hb]) | ((first | with_reducible refine hJ _ _ ?_ | (with_reducible refine hJ _ _ ?_ ?_; · kernel_rfl)); clear hJ hKC KC J) | ((with_reducible refine zF ?_ ?_); · rfl) | ((with_reducible refine zH ?_ ?_); · rfl)
     refine ⟨⟨i + 1, by omega, fun j hj => ?_⟩, by simp only; omega, ?_, Fq⟩
     ·by_cases hji : j = i
      ·rw [hji, hx, hy, he]
      ·exact hn j (by omega)
     ·exact Lq
    ·have he' : decide (a = b) = false := decide_eq_false he
     repeat' first | (with_reducible first | refine zA ?_ | refine zB ?_ | refine zS ?_ | refine zg ?_ | refine zI ?_ | refine zJ ?_ | refine zG ?_) | ((with_reducible refine And.intro ?_ ?_); · exact Sq) | ((first | with_reducible refine zC fun KC J hJ hKC => ?_ | with_reducible refine zU rfl fun KC J hJ hKC => ?_); simp (maxSteps := 9999999) only [push_cast, seval, ↓reduceIte, hlt, zAK hx, zAK hy, zHS, he']) | ((first | with_reducible refine hJ _ _ ?_ | (with_reducible refine hJ _ _ ?_ ?_; · kernel_rfl)); clear hJ hKC KC J) | ((with_reducible refine zF ?_ ?_); · rfl)
     refine zE ?_
     simp (maxSteps := 9999999) only [push_cast, seval, ↓reduceIte, show Tryz.f154.results = #[(.tmp 4)] from rfl]
     rw [decide_eq_false (fun h => he (by rw [h, hy] at hx; exact (Option.some.inj hx).symm))]
     exact zN _
   ·skip
    repeat' first | (with_reducible first | refine zA ?_ | refine zB ?_ | refine zX ?_ | refine zW ?_ | refine zI ?_ | refine zQ ?_) | ((with_reducible refine zC fun KC J hJ hKC => ?_); simp (maxSteps := 9999999) only [push_cast, seval, ↓reduceIte, hlt]) | ((with_reducible refine hJ _ _ ?_); clear hJ hKC KC J) | ((with_reducible refine zH ?_ ?_); · rfl)
    refine zE ?_
    simp (maxSteps := 9999999) only [push_cast, seval, ↓reduceIte, show Tryz.f154.results = #[(.tmp 4)] from rfl]
    rw [decide_eq_true (zIU hl fun j hj => hn j (by omega))]
    exact zN _
 ·have hl' : ((xs.length : Int) != (ys.length : Int)) = true := by simp; omega
  repeat' first | (with_reducible first | refine zA ?_ | refine zB ?_ | refine zS ?_ | refine zI ?_) | ((with_reducible refine zC fun KC J hJ hKC => ?_); simp (maxSteps := 9999999) only [push_cast, seval, ↓reduceIte, hl']) | ((with_reducible refine hJ _ _ ?_); clear hJ hKC KC J) | ((with_reducible refine zF ?_ ?_); · rfl)
  refine zE ?_
  simp (maxSteps := 9999999) only [push_cast, seval, ↓reduceIte, show Tryz.f154.results = #[(.tmp 4)] from rfl]
  rw [decide_eq_false (fun h => hl (by rw [h]))]
  exact zN _
def zAh (us : List Nat) (o : Nat) (x : Int × Int) : Bool := fl us x.2.toNat o
theorem zQY (f g : Bool) (ns : List ByteArray) (us : List Nat) (o : Nat) (x : Int × Int) (hs : Szs ns) (hu : U32 us) (hc : zq ns us = 0) (ho : o < us.length) (hx : zn us.length x.2 = false) :
  Fn Tryz.prog 214 [.agg [.v (.int .i64 x.1), .v (.int .i64 x.2)], .fad [.sl f 1 (zM ns), .sl g 1 (zL us), .v (.int .i64 (o : Int))]] [] (.v (.bool (!zAh us o x))) [] := by
 obtain ⟨v, l⟩ := x
 obtain ⟨a, ha, hl⟩ := zAP hx
 simp only at ha
 subst ha
 have h5 := zAy f g ns us a o hs hu hc hl ho
 have hk : zAh us o (v, (a : Int)) = fl us a o := by rw [zAh, Int.toNat_natCast]
 rw [hk]
 refine Fn.of (fn := Tryz.f214) (by kernel_rfl) rfl (by kernel_rfl) ⟨[.agg [.v (.int .i64 v), .v (.int .i64 (a : Int))], .fad [.sl f 1 (zM ns), .sl g 1 (zL us), .v (.int .i64 (o : Int))], .v undef, .v undef, .v undef, .v undef, .v undef, .v undef, .v undef], []⟩ rfl ?_
 repeat' first | (with_reducible first | refine zA ?_ | refine zB ?_ | refine zI ?_) | ((first | with_reducible refine zC fun KC J hJ hKC => ?_ | (refine' hKC _ _ _ _ _ (zD (zAy _ _ _ _ _ _ ?_ ?_ ?_ ?_ ?_) rfl rfl rfl ?_ ?_); (rotate_left 11); (· exact Lq); (rotate_left 1); (iterate 5 (· exact Hq)))); simp (maxSteps := 9999999) only [push_cast, seval, ↓reduceIte]) | ((with_reducible refine hJ _ _ ?_); clear hJ hKC KC J)
 refine zE ?_
 simp (maxSteps := 9999999) only [push_cast, seval, ↓reduceIte, show Tryz.f214.results = #[(.tmp 3)] from rfl]
 exact zN _
theorem zDp (f g fa fb : Bool) (ns : List ByteArray) (us : List Nat) (o : Nat) (a b : List (Int × Int)) (hs : Szs ns) (hu : U32 us) (hc : zq ns us = 0) (ho : o < us.length) (hal : a.length ≤ 1000) (hbl : b.length ≤ 1000) (ha : ∀ x ∈ a, zn us.length x.2 = false) (hb : ∀ x ∈ b, zn us.length x.2 = false) :
  Fn Tryz.prog 111 [.agg [.sl f 1 (zM ns), .sl g 1 (zL us), .v (.int .i64 (o : Int))], .sl fa 2 (zR a), .sl fb 2 (zR b)] [] (.v (.bool (decide (a.filter (zAh us o) = b.filter (zAh us o))))) [] := by
 have hdA : ∀ l : List (Int × Int), l.length ≤ 1000 → (∀ x ∈ l, zn us.length x.2 = false) → ∀ n, l.length = n → Fn (Tryz.prog) 215 [.ref 0 0 n, .fn 214 [.fad [.sl f 1 (zM ns), .sl g 1 (zL us), .v (.int .i64 (o : Int))]]] [.ent ⟨0, some 2, 34, zm l, .cells⟩] (.sl false 2 (zR (l.filter (zAh us o)))) [.dead] := fun l hl hx n hn =>
  zHe l n hn 214 [.fad [.sl f 1 (zM ns), .sl g 1 (zL us), .v (.int .i64 (o : Int))]] (zAh us o) (by omega) rfl (fun x hm => zQY f g ns us o x hs hu hc ho (hx x hm))
 have hd0 := zHE 214 [.fad [.sl f 1 (zM ns), .sl g 1 (zL us), .v (.int .i64 (o : Int))]] rfl
 have hda := hdA a hal ha _ rfl
 have hdb := hdA b hbl hb _ rfl
 obtain ⟨A, hA⟩ : ∃ A, a.filter (zAh us o) = A := ⟨_, rfl⟩
 obtain ⟨B, hB⟩ : ∃ B, b.filter (zAh us o) = B := ⟨_, rfl⟩
 have hAl : A.length ≤ 1000 := by rw [← hA]; exact Nat.le_trans (List.length_filter_le _ _) hal
 rw [hA] at hda
 rw [hB] at hdb
 rw [hA, hB]
 have hca := zJg fa a
 have hcb := zJg fb b
 have hc0a := zHo fa
 have hc0b := zHo fb
 refine Fn.of (fn := Tryz.f111) (by kernel_rfl) rfl (by kernel_rfl) ⟨[.agg [.sl f 1 (zM ns), .sl g 1 (zL us), .v (.int .i64 (o : Int))], .sl fa 2 (zR a), .sl fb 2 (zR b), .v undef, .v undef, .v undef, .v undef, .v undef, .v undef, .v undef, .v undef, .v undef, .v undef, .v undef, .v undef, .v undef, .v undef, .v undef], []⟩ rfl ?_
 rcases Nat.eq_zero_or_pos a.length with h0a | h0a
 ·have ea : a = [] := List.eq_nil_of_length_eq_zero h0a
  subst ea
  have eA : A = [] := by rw [← hA]; rfl
  subst eA
  rcases Nat.eq_zero_or_pos b.length with h0b | h0b
  ·have eb : b = [] := List.eq_nil_of_length_eq_zero h0b
   subst eb
   have eB : B = [] := by rw [← hB]; rfl
   subst eB
   have heq := zEr true true [] [] (by simp)
   repeat' first | (refine zV 1 0 rfl (by (simp (maxSteps := 9999999) only [push_cast, seval, ↓reduceIte]) <;> rfl) ?_; simp (maxSteps := 9999999) only [push_cast, seval, ↓reduceIte, zAH, zd, fr3, fr2, fr1, fr0, zl, zj, zk, Bool.and_self, zy, zf, zT, pick, mOf, idx, zu]) | (with_reducible first | refine zA ?_ | refine zB ?_ | refine zI ?_) | ((first | with_reducible refine zC fun KC J hJ hKC => ?_ | (refine hKC _ _ _ _ _ (zD (hc0a) rfl rfl rfl ?_ ?_); (· exact Lq)) | (refine hKC _ _ _ _ _ (zD (hc0b) rfl rfl rfl ?_ ?_); (· exact Lq)) | (refine hKC _ _ _ _ _ (zD (hd0) rfl rfl rfl ?_ ?_); (· exact Lq)) | (refine hKC _ _ _ _ _ (zD (heq) rfl rfl rfl ?_ ?_); (· exact Lq))); simp (maxSteps := 9999999) only [push_cast, seval, ↓reduceIte, zk, Bool.and_self, zy, zf, zT, pick, mOf, idx, zu]) | ((with_reducible refine hJ _ _ ?_); clear hJ hKC KC J)
   refine zE ?_
   simp (maxSteps := 9999999) only [push_cast, seval, ↓reduceIte, show Tryz.f111.results = #[(.tmp 6)] from rfl]
   exact zN _
  ·have heq := zEr true false [] B (by simp)
   have hcb := hcb h0b (by omega)
   repeat' first | (refine zV 1 0 rfl (by (simp (maxSteps := 9999999) only [push_cast, seval, ↓reduceIte]) <;> rfl) ?_; simp (maxSteps := 9999999) only [push_cast, seval, ↓reduceIte, zAH, zd, fr3, fr2, fr1, fr0, zl, zj, zk, Bool.and_self, zy, zf, zT, pick, mOf, idx, zu]) | (with_reducible first | refine zA ?_ | refine zB ?_ | refine zI ?_) | ((first | with_reducible refine zC fun KC J hJ hKC => ?_ | (refine hKC _ _ _ _ _ (zDz [] hcb rfl rfl rfl (by simp) (fun _ h => by cases h) rfl rfl rfl (zCy (zN _) zCL) ?_)) | (refine hKC _ _ _ _ _ (zw [3] hdb rfl rfl rfl (by decide) (by simp) rfl (by simp only [push_cast, pick, mOf, idx, zT, zu]) (by simp only [push_cast, mOf, idx]; exact ⟨zN _, zN _, trivial⟩) ?_)) | (refine hKC _ _ _ _ _ (zD (hc0a) rfl rfl rfl ?_ ?_); (· exact Lq)) | (refine hKC _ _ _ _ _ (zD (hd0) rfl rfl rfl ?_ ?_); (· exact Lq)) | (refine hKC _ _ _ _ _ (zD (heq) rfl rfl rfl ?_ ?_); (· exact Lq))); simp (maxSteps := 9999999) only [push_cast, seval, ↓reduceIte, zk, Bool.and_self, zy, zf, zT, pick, mOf, idx, zu]) | ((with_reducible refine hJ _ _ ?_); clear hJ hKC KC J)
   refine zE ?_
   simp (maxSteps := 9999999) only [push_cast, seval, ↓reduceIte, show Tryz.f111.results = #[(.tmp 6)] from rfl]
   exact zN _
 ·have hca := hca h0a (by omega)
  rcases Nat.eq_zero_or_pos b.length with h0b | h0b
  ·have eb : b = [] := List.eq_nil_of_length_eq_zero h0b
   subst eb
   have eB : B = [] := by rw [← hB]; rfl
   subst eB
   have heq := zEr false true A [] (by omega)
   repeat' first | (refine zV 1 0 rfl (by (simp (maxSteps := 9999999) only [push_cast, seval, ↓reduceIte]) <;> rfl) ?_; simp (maxSteps := 9999999) only [push_cast, seval, ↓reduceIte, zAH, zd, fr3, fr2, fr1, fr0, zl, zj, zk, Bool.and_self, zy, zf, zT, pick, mOf, idx, zu]) | (with_reducible first | refine zA ?_ | refine zB ?_ | refine zI ?_) | ((first | with_reducible refine zC fun KC J hJ hKC => ?_ | (refine hKC _ _ _ _ _ (zDz [] hca rfl rfl rfl (by simp) (fun _ h => by cases h) rfl rfl rfl (zCy (zN _) zCL) ?_)) | (refine hKC _ _ _ _ _ (zw [1] hda rfl rfl rfl (by decide) (by simp) rfl (by simp only [push_cast, pick, mOf, idx, zT, zu]) (by simp only [push_cast, mOf, idx]; exact ⟨zN _, zN _, trivial⟩) ?_)) | (refine hKC _ _ _ _ _ (zD (hc0b) rfl rfl rfl ?_ ?_); (· exact Lq)) | (refine hKC _ _ _ _ _ (zD (hd0) rfl rfl rfl ?_ ?_); (· exact Lq)) | (refine hKC _ _ _ _ _ (zD (heq) rfl rfl rfl ?_ ?_); (· exact Lq))); simp (maxSteps := 9999999) only [push_cast, seval, ↓reduceIte, zk, Bool.and_self, zy, zf, zT, pick, mOf, idx, zu]) | ((with_reducible refine hJ _ _ ?_); clear hJ hKC KC J)
   refine zE ?_
   simp (maxSteps := 9999999) only [push_cast, seval, ↓reduceIte, show Tryz.f111.results = #[(.tmp 6)] from rfl]
   exact zN _
  ·have hcb := hcb h0b (by omega)
   repeat' first | (refine zV 1 0 rfl (by (simp (maxSteps := 9999999) only [push_cast, seval, ↓reduceIte]) <;> rfl) ?_; simp (maxSteps := 9999999) only [push_cast, seval, ↓reduceIte, zAH, zd, fr3, fr2, fr1, fr0, zl, zj, zk, Bool.and_self, zy, zf, zT, pick, mOf, idx, zu]) | (with_reducible first | refine zA ?_ | refine zB ?_ | refine zI ?_) | ((first | with_reducible refine zC fun KC J hJ hKC => ?_ | (refine' hKC _ _ _ _ _ (zD (zEr _ _ _ _ ?_) rfl rfl rfl ?_ ?_); (rotate_left 5); (· exact Lq); (rotate_left 1); (iterate 1 (· exact Hq))) | (refine hKC _ _ _ _ _ (zDz [] hca rfl rfl rfl (by simp) (fun _ h => by cases h) rfl rfl rfl (zCy (zN _) zCL) ?_)) | (refine hKC _ _ _ _ _ (zDz [] hcb rfl rfl rfl (by simp) (fun _ h => by cases h) rfl rfl rfl (zCy (zN _) zCL) ?_)) | (refine hKC _ _ _ _ _ (zw [1] hda rfl rfl rfl (by decide) (by simp) rfl (by simp only [push_cast, pick, mOf, idx, zT, zu]) (by simp only [push_cast, mOf, idx]; exact ⟨zN _, zN _, trivial⟩) ?_)) | (refine hKC _ _ _ _ _ (zw [3] hdb rfl rfl rfl (by decide) (by simp) rfl (by simp only [push_cast, pick, mOf, idx, zT, zu]) (by simp only [push_cast, mOf, idx]; exact ⟨zN _, zN _, trivial⟩) ?_))); simp (maxSteps := 9999999) only [push_cast, seval, ↓reduceIte, zk, Bool.and_self, zy, zf, zT, pick, mOf, idx, zu]) | ((with_reducible refine hJ _ _ ?_); clear hJ hKC KC J)
   refine zE ?_
   simp (maxSteps := 9999999) only [push_cast, seval, ↓reduceIte, show Tryz.f111.results = #[(.tmp 6)] from rfl]
   exact zN _
def zNM (x y : Int × Int) : Bool := true
def zNc (x y : Int × Int) : Bool := (x.1 == y.1)
theorem zPG (x y : Int × Int) : Fn Tryz.prog 202 [.agg [.v (.int .i64 x.1), .v (.int .i64 x.2)], .agg [.v (.int .i64 y.1), .v (.int .i64 y.2)]] [] (.v (.bool (zNM x y))) [] := by
 refine Fn.of (fn := Tryz.f202) (by kernel_rfl) rfl (by kernel_rfl) ⟨[.agg [.v (.int .i64 x.1), .v (.int .i64 x.2)], .agg [.v (.int .i64 y.1), .v (.int .i64 y.2)], .v undef, .v undef, .v undef], []⟩ rfl ?_
 repeat' first | (with_reducible first | refine zA ?_ | refine zB ?_ | refine zI ?_) | ((with_reducible refine zC fun KC J hJ hKC => ?_); simp (maxSteps := 9999999) only [push_cast, seval, ↓reduceIte]) | ((with_reducible refine hJ _ _ ?_); clear hJ hKC KC J)
 refine zE ?_
 simp (maxSteps := 9999999) only [push_cast, seval, ↓reduceIte, show Tryz.f202.results = #[(.tmp 4)] from rfl]
 exact zN _
theorem zQA (x y : Int × Int) : Fn Tryz.prog 204 [.agg [.v (.int .i64 x.1), .v (.int .i64 x.2)], .agg [.v (.int .i64 y.1), .v (.int .i64 y.2)]] [] (.v (.bool (zNc x y))) [] := by
 refine Fn.of (fn := Tryz.f204) (by kernel_rfl) rfl (by kernel_rfl) ⟨[.agg [.v (.int .i64 x.1), .v (.int .i64 x.2)], .agg [.v (.int .i64 y.1), .v (.int .i64 y.2)], .v undef, .v undef, .v undef, .v undef, .v undef, .v undef, .v undef, .v undef], []⟩ rfl ?_
 repeat' first | (with_reducible first | refine zA ?_ | refine zB ?_ | refine zI ?_) | ((with_reducible refine zC fun KC J hJ hKC => ?_); simp (maxSteps := 9999999) only [push_cast, seval, ↓reduceIte]) | ((with_reducible refine hJ _ _ ?_); clear hJ hKC KC J)
 refine zE ?_
 simp (maxSteps := 9999999) only [push_cast, seval, ↓reduceIte, show Tryz.f204.results = #[(.tmp 4)] from rfl]
 exact zN _
def alA (us : List Nat) (o : Nat) (x y : Int × Int) : Bool := zNM x y && (x.2 == y.2 && (!fl us x.2.toNat o || zNc x y))
theorem zMT (f g : Bool) (ns : List ByteArray) (us : List Nat) (o a : Nat) (x y : Int × Int) (hs : Szs ns) (hu : U32 us) (hc : zq ns us = 0) (hx : x.2 = (a : Int)) (ha : a < us.length) (ho : o < us.length) :
  Fn Tryz.prog 213 [.agg [.v (.int .i64 x.1), .v (.int .i64 x.2)], .agg [.v (.int .i64 y.1), .v (.int .i64 y.2)], .fad zDk, .fad [.sl f 1 (zM ns), .sl g 1 (zL us), .v (.int .i64 (o : Int))]] [] (.v (.bool (alA us o x y))) [] := by
 have h1 := zPG x y
 have h2 := zHT x
 have h3 := zHT y
 have h4 := zQA x y
 have h5 := zAy f g ns us a o hs hu hc ha ho
 rw [hx] at h1 h2 h4
 obtain ⟨p, hp⟩ : ∃ p, zNM x y = p := ⟨_, rfl⟩
 obtain ⟨q, hq⟩ : ∃ q, ((a : Int) == y.2) = q := ⟨_, rfl⟩
 obtain ⟨z, hz⟩ : ∃ z, fl us a o = z := ⟨_, rfl⟩
 have hal : alA us o x y = (p && (q && (!z || zNc x y))) := by rw [alA, hp, hx, hq, Int.toNat_natCast, hz]
 rw [hal]
 rw [hp] at h1
 rw [hz] at h5
 rw [hx]
 refine Fn.of (fn := Tryz.f213) (by kernel_rfl) rfl (by kernel_rfl) ⟨[.agg [.v (.int .i64 x.1), .v (.int .i64 (a : Int))], .agg [.v (.int .i64 y.1), .v (.int .i64 y.2)], .fad zDk, .fad [.sl f 1 (zM ns), .sl g 1 (zL us), .v (.int .i64 (o : Int))], .v undef, .v undef, .v undef, .v undef, .v undef, .v undef, .v undef, .v undef, .v undef, .v undef, .v undef, .v undef, .v undef, .v undef, .v undef, .v undef, .v undef, .v undef, .v undef, .v undef, .v undef, .v undef, .v undef, .v undef, .v undef, .v undef, .v undef, .v undef, .v undef, .v undef, .v undef, .v undef, .v undef, .v undef, .v undef], []⟩ rfl ?_
 rcases p with _ | _
 rotate_left
 rcases q with _ | _
 rotate_left
 rcases z with _ | _
 all_goals
  repeat' first | (with_reducible first | refine zA ?_ | refine zB ?_ | refine zI ?_) | ((first | with_reducible refine zC fun KC J hJ hKC => ?_ | with_reducible refine zU rfl fun KC J hJ hKC => ?_ | (refine' hKC _ _ _ _ _ (zD (zAy _ _ _ _ _ _ ?_ ?_ ?_ ?_ ?_) rfl rfl rfl ?_ ?_); (rotate_left 11); (· exact Lq); (rotate_left 1); (iterate 5 (· exact Hq))) | (refine hKC _ _ _ _ _ (zD (h1) rfl rfl rfl ?_ ?_); (· exact Lq)) | (refine hKC _ _ _ _ _ (zD (h2) rfl rfl rfl ?_ ?_); (· exact Lq)) | (refine hKC _ _ _ _ _ (zD (h3) rfl rfl rfl ?_ ?_); (· exact Lq)) | (refine hKC _ _ _ _ _ (zD (h4) rfl rfl rfl ?_ ?_); (· exact Lq))); simp (maxSteps := 9999999) only [push_cast, seval, ↓reduceIte, hq, hz, undef]) | ((first | with_reducible refine hJ _ _ ?_ | (with_reducible refine hJ _ _ ?_ ?_; · kernel_rfl)); clear hJ hKC KC J)
  refine zE ?_
  simp (maxSteps := 9999999) only [push_cast, seval, ↓reduceIte, show Tryz.f213.results = #[(.tmp 6)] from rfl]
  exact zN _
def zCM (p : Int × Int → Int × Int → Bool) : List (Int × Int) → List (Int × Int) → Bool
 | [], [] => true
 | x :: xs, y :: ys => p x y && zCM p xs ys
 | _, _ => false
theorem zFN {p : Int × Int → Int × Int → Bool} : ∀ {xs ys : List (Int × Int)}, ¬ xs.length = ys.length → zCM p xs ys = false
 | [], [], h => absurd rfl h
 | [], _ :: _, _ => rfl
 | _ :: _, [], _ => rfl
 | _ :: xs, _ :: ys, h => by rw [zCM, zFN (fun e => h (by simp [e]))]; simp
theorem zFF {p : Int × Int → Int × Int → Bool} : ∀ {xs ys : List (Int × Int)}, xs.length = ys.length → (∀ (j : Nat) (x y : Int × Int), xs[j]? = some x → ys[j]? = some y → p x y = true) → zCM p xs ys = true
 | [], [], _, _ => rfl
 | [], _ :: _, h, _ => by simp at h
 | _ :: _, [], h, _ => by simp at h
 | x :: xs, y :: ys, h, hp => by
  rw [zCM, hp 0 x y rfl rfl, zFF (by simpa using h) (fun j a b ha hb => hp (j + 1) a b (by simpa using ha) (by simpa using hb))]; rfl
theorem zGN {p : Int × Int → Int × Int → Bool} : ∀ {xs ys : List (Int × Int)} {j : Nat} {x y : Int × Int}, xs[j]? = some x → ys[j]? = some y → p x y = false → zCM p xs ys = false
 | [], _, j, x, y, h, _, _ => by simp at h
 | _ :: _, [], j, x, y, _, h, _ => by simp at h
 | a :: xs, b :: ys, 0, x, y, h1, h2, h3 => by simp at h1 h2; rw [zCM, h1, h2, h3]; rfl
 | a :: xs, b :: ys, j + 1, x, y, h1, h2, h3 => by rw [zCM, zGN (by simpa using h1) (by simpa using h2) h3]; simp
theorem zIu (f g : Bool) (xs ys : List (Int × Int)) (cf : Nat) (caps : List D) (p : Int × Int → Int × Int → Bool) (hb : xs.length ≤ 9223372036854775807) (hc : zk caps = true)
  (hp : ∀ x ∈ xs, ∀ y, Fn Tryz.prog cf (.agg [.v (.int .i64 x.1), .v (.int .i64 x.2)] :: .agg [.v (.int .i64 y.1), .v (.int .i64 y.2)] :: caps) [] (.v (.bool (p x y))) []) : Fn Tryz.prog 212 [.sl f 2 (zR xs), .sl g 2 (zR ys), .fn cf caps] [] (.v (.bool (zCM p xs ys))) [] := by
 refine Fn.of (fn := Tryz.f212) (by kernel_rfl) rfl (by kernel_rfl) ⟨[.sl f 2 (zR xs), .sl g 2 (zR ys), .fn cf caps, .v undef, .v undef, .v undef, .v undef, .v undef, .v undef, .v undef, .v undef, .v undef, .v undef, .v undef, .v undef, .v undef, .v undef, .v undef, .v undef, .v undef, .v undef, .v undef, .v undef, .v undef, .v undef, .v undef, .v undef, .v undef, .v undef, .v undef, .v undef, .v undef], []⟩ rfl ?_
 by_cases hl : xs.length = ys.length
 ·have hl' : ((xs.length : Int) != (ys.length : Int)) = false := by simp [hl]
  repeat' first | (with_reducible first | refine zA ?_ | refine zB ?_ | refine zJ ?_ | refine zG ?_) | ((with_reducible refine zC fun KC J hJ hKC => ?_); simp (maxSteps := 9999999) only [push_cast, seval, ↓reduceIte, hl']) | ((with_reducible refine hJ _ _ ?_); clear hJ hKC KC J) | ((with_reducible refine zH ?_ ?_); · rfl)
  refine zi 0 (γ := {i : Nat // i ≤ xs.length ∧ ∀ (j : Nat) (x y : Int × Int), j < i → xs[j]? = some x → ys[j]? = some y → p x y = true}) (fun i => ⟨[.sl f 2 (zR xs), .sl g 2 (zR ys), .fn cf caps, .any, .any, .any, .any, .any, .any, .any, .any, .any, .any, .any, .any, .sl f 2 (zR xs), .v (.int .i64 xs.length), .v (.int .i64 i.1), .any, .any, .any, .any, .any, .any, .any, .any, .any, .any, .any, .any, .any, .any], []⟩) (fun i => xs.length - i.1) ⟨0, by simp⟩ (fun i => rfl) (fun i => rfl) (fun i => ?_) ⟨?_, Fq⟩ ?_
  ·simp only [List.map_cons, List.map_nil, show ren (mOf (List.range 0)) (.fn cf caps) = .fn cf caps from by show D.fn cf (caps.map _) = _; rw [zCd (fun d hd => zDU hd) hc]]
   rfl
  ·exact Lq
  ·rintro ⟨i, hi, hn⟩
   by_cases hlt : (i : Int) < (xs.length : Int)
   ·have hx : xs[i]? = some xs[i] := List.getElem?_eq_getElem (by omega)
    have hy : ys[i]? = some ys[i] := List.getElem?_eq_getElem (by omega)
    have hfn := hp xs[i] (List.getElem_mem (by omega)) ys[i]
    obtain ⟨a, ha⟩ : ∃ a, xs[i] = a := ⟨_, rfl⟩
    obtain ⟨b, hb2⟩ : ∃ b, ys[i] = b := ⟨_, rfl⟩
    rw [ha] at hx
    rw [hb2] at hy
    rw [ha, hb2] at hfn
    cases hpv : p a b with
    | true =>
     rw [hpv] at hfn
     repeat' first | (with_reducible first | refine zA ?_ | refine zB ?_ | refine zO ?_ | refine zJ ?_ | refine zG ?_) | ((with_reducible refine And.intro ?_ ?_); · exact Sq) | ((first | with_reducible refine zC fun KC J hJ hKC => ?_ | (refine hKC _ _ _ _ _ (zD (hfn) rfl rfl rfl ?_ ?_); (· exact Lq))); simp (maxSteps := 9999999) only [push_cast, seval, ↓reduceIte, hlt, zAK hx, zAK hy, zb (i := i) (n := xs.length) (by omega) hb]) | ((with_reducible refine hJ _ _ ?_); clear hJ hKC KC J) | ((with_reducible refine zF ?_ ?_); · rfl) | ((with_reducible refine zH ?_ ?_); · rfl)
     refine ⟨⟨i + 1, by omega, fun j x y hj h1 h2 => ?_⟩, by simp only; omega, ?_, ⟨_, rfl⟩⟩
     ·by_cases hji : j = i
      ·rw [hji] at h1 h2
       rw [hx] at h1; rw [hy] at h2
       cases h1; cases h2; exact hpv
      ·exact hn j x y (by omega) h1 h2
     ·exact Lq
    | false =>
     rw [hpv] at hfn
     repeat' first | (with_reducible first | refine zA ?_ | refine zB ?_ | refine zS ?_ | refine zg ?_ | refine zI ?_ | refine zJ ?_ | refine zG ?_) | ((with_reducible refine And.intro ?_ ?_); · exact Sq) | ((first | with_reducible refine zC fun KC J hJ hKC => ?_ | (refine hKC _ _ _ _ _ (zD (hfn) rfl rfl rfl ?_ ?_); (· exact Lq))); simp (maxSteps := 9999999) only [push_cast, seval, ↓reduceIte, hlt, zAK hx, zAK hy]) | ((with_reducible refine hJ _ _ ?_); clear hJ hKC KC J) | ((with_reducible refine zF ?_ ?_); · rfl)
     refine zE ?_
     simp (maxSteps := 9999999) only [push_cast, seval, ↓reduceIte, show Tryz.f212.results = #[(.tmp 6)] from rfl]
     rw [zGN hx hy hpv]
     exact zN _
   ·skip
    repeat' first | (with_reducible first | refine zA ?_ | refine zB ?_ | refine zX ?_ | refine zW ?_ | refine zI ?_ | refine zQ ?_) | ((with_reducible refine zC fun KC J hJ hKC => ?_); simp (maxSteps := 9999999) only [push_cast, seval, ↓reduceIte, hlt]) | ((with_reducible refine hJ _ _ ?_); clear hJ hKC KC J) | ((with_reducible refine zH ?_ ?_); · rfl)
    refine zE ?_
    simp (maxSteps := 9999999) only [push_cast, seval, ↓reduceIte, show Tryz.f212.results = #[(.tmp 6)] from rfl]
    rw [zFF hl (fun j x y h1 h2 => hn j x y (by have := (List.getElem?_eq_some_iff.1 h1).1; omega) h1 h2)]
    exact zN _
 ·have hl' : ((xs.length : Int) != (ys.length : Int)) = true := by simp; omega
  repeat' first | (with_reducible first | refine zA ?_ | refine zB ?_ | refine zS ?_ | refine zI ?_) | ((with_reducible refine zC fun KC J hJ hKC => ?_); simp (maxSteps := 9999999) only [push_cast, seval, ↓reduceIte, hl']) | ((with_reducible refine hJ _ _ ?_); clear hJ hKC KC J) | ((with_reducible refine zF ?_ ?_); · rfl)
  refine zE ?_
  simp (maxSteps := 9999999) only [push_cast, seval, ↓reduceIte, show Tryz.f212.results = #[(.tmp 6)] from rfl]
  rw [zFN hl]
  exact zN _
theorem zCE (f g fa fb : Bool) (ns : List ByteArray) (us : List Nat) (o : Nat) (xs ys : List (Int × Int)) (hs : Szs ns) (hu : U32 us) (hc : zq ns us = 0) (ho : o < us.length) (hb : xs.length ≤ 1000) (hx : ∀ x ∈ xs, zn us.length x.2 = false) :
  Fn Tryz.prog 110 [.agg [.sl f 1 (zM ns), .sl g 1 (zL us), .v (.int .i64 (o : Int))], .agg zDk, .sl fa 2 (zR xs), .sl fb 2 (zR ys)] [] (.v (.bool (zCM (alA us o) xs ys))) [] := by
 have hcf := zIu fa fb xs ys 213 [.fad zDk, .fad [.sl f 1 (zM ns), .sl g 1 (zL us), .v (.int .i64 (o : Int))]] (alA us o) (by omega) rfl (fun x hm y => by
  obtain ⟨a, ha, hl⟩ := zAP (hx x hm)
  exact zMT f g ns us o a x y hs hu hc ha hl ho)
 refine Fn.of (fn := Tryz.f110) (by kernel_rfl) rfl (by kernel_rfl) ⟨[.agg [.sl f 1 (zM ns), .sl g 1 (zL us), .v (.int .i64 (o : Int))], .agg zDk, .sl fa 2 (zR xs), .sl fb 2 (zR ys), .v undef, .v undef, .v undef, .v undef, .v undef, .v undef, .v undef, .v undef, .v undef], []⟩ rfl ?_
 repeat' first | (refine zV 1 0 rfl (by (simp (maxSteps := 9999999) only [push_cast, seval, ↓reduceIte]) <;> rfl) ?_; simp (maxSteps := 9999999) only [push_cast, seval, ↓reduceIte, zAH, zd, fr3, fr2, fr1, fr0, zl, zj, zk, Bool.and_self]) | (refine zV 1 1 rfl (by (simp (maxSteps := 9999999) only [push_cast, seval, ↓reduceIte]) <;> rfl) ?_; simp (maxSteps := 9999999) only [push_cast, seval, ↓reduceIte, zAH, zd, fr3, fr2, fr1, fr0, zl, zj, zk, Bool.and_self]) | (with_reducible first | refine zA ?_ | refine zB ?_ | refine zI ?_) | ((first | with_reducible refine zC fun KC J hJ hKC => ?_ | (refine hKC _ _ _ _ _ (zD (hcf) rfl rfl rfl ?_ ?_); (· exact Lq))); simp (maxSteps := 9999999) only [push_cast, seval, ↓reduceIte, zk, Bool.and_self]) | ((with_reducible refine hJ _ _ ?_); clear hJ hKC KC J)
 refine zE ?_
 simp (maxSteps := 9999999) only [push_cast, seval, ↓reduceIte, show Tryz.f110.results = #[(.tmp 8)] from rfl]
 exact zN _
def zAN (fc fm fs fo : Bool) (s : Sta) : List D := [.v (.int .i64 s.v), .v (.int .i64 s.l), .sl fc 3 (zh s.code), .sl fm 2 (zR s.mem), .sl fs 3 (zc s.stack), .sl fo 2 (zR s.out)]
structure Sml (s : Sta) : Prop where
 code : s.code.length ≤ 1000
 mem : s.mem.length ≤ 1000
 stack : s.stack.length ≤ 1000
 out : s.out.length ≤ 1000
structure Sml15 (s : Sta) : Prop where
 code : s.code.length ≤ 15
 mem : s.mem.length ≤ 15
 stack : s.stack.length ≤ 15
 out : s.out.length ≤ 15
theorem Sml15.sml {s : Sta} (h : Sml15 s) : Sml s := ⟨by have := h.code; omega, by have := h.mem; omega, by have := h.stack; omega, by have := h.out; omega⟩
def zDN (s : Sta) : Sta := ⟨s.v, s.l, s.code.take 15, s.mem.take 15, s.stack.take 15, s.out.take 15⟩
theorem zMW (s : Sta) : (zDN s).code.length ≤ 15 ∧ (zDN s).mem.length ≤ 15 ∧ (zDN s).stack.length ≤ 15 ∧ (zDN s).out.length ≤ 15 := by
 simp [zDN]; omega
theorem zJb (s : Sta) : Sml15 (zDN s) := let ⟨h1, h2, h3, h4⟩ := zMW s; ⟨h1, h2, h3, h4⟩
theorem zJE (f g : Bool) (xs ys : List (Int × Int)) (hb : xs.length ≤ 9223372036854775807) : Fn Tryz.prog 59 [.sl f 2 (zR xs), .sl g 2 (zR ys)] [] (.v (.bool (decide (xs = ys)))) [] := by
 refine Fn.of (fn := Tryz.f59) (by kernel_rfl) rfl (by kernel_rfl) ⟨[.sl f 2 (zR xs), .sl g 2 (zR ys), .v undef, .v undef, .v undef, .v undef, .v undef, .v undef, .v undef, .v undef, .v undef, .v undef, .v undef, .v undef, .v undef, .v undef, .v undef, .v undef, .v undef, .v undef, .v undef, .v undef, .v undef, .v undef, .v undef, .v undef], []⟩ rfl ?_
 by_cases hl : xs.length = ys.length
 ·have hl' : ((xs.length : Int) != (ys.length : Int)) = false := by simp [hl]
  repeat' first | (with_reducible first | refine zA ?_ | refine zB ?_ | refine zJ ?_ | refine zG ?_) | ((with_reducible refine zC fun KC J hJ hKC => ?_); simp (maxSteps := 9999999) only [push_cast, seval, ↓reduceIte, hl']) | ((with_reducible refine hJ _ _ ?_); clear hJ hKC KC J) | ((with_reducible refine zH ?_ ?_); · rfl)
  refine ze (γ := {i : Nat // i ≤ xs.length ∧ ∀ j, j < i → xs[j]? = ys[j]?}) (fun i => ⟨[.sl f 2 (zR xs), .sl g 2 (zR ys), .any, .any, .any, .any, .any, .any, .any, .any, .any, .any, .v (.int .i64 xs.length), .v (.int .i64 i.1), .any, .any, .any, .any, .any, .any, .any, .any, .any, .any, .any, .any], []⟩) (fun i => xs.length - i.1) ⟨0, by simp⟩ ⟨?_, Fq⟩ ?_
  ·exact Lq
  ·rintro ⟨i, hi, hn⟩
   by_cases hlt : (i : Int) < (xs.length : Int)
   ·have hx : xs[i]? = some xs[i] := List.getElem?_eq_getElem (by omega)
    have hy : ys[i]? = some ys[i] := List.getElem?_eq_getElem (by omega)
    obtain ⟨a, ha⟩ : ∃ a, xs[i] = a := ⟨_, rfl⟩
    obtain ⟨b, hb2⟩ : ∃ b, ys[i] = b := ⟨_, rfl⟩
    rw [ha] at hx
    rw [hb2] at hy
    by_cases he : a = b
    ·have he' : decide (a = b) = true := decide_eq_true he
     repeat' first | (with_reducible first | refine zA ?_ | refine zB ?_ | refine zO ?_ | refine zJ ?_ | refine zG ?_) | ((with_reducible refine And.intro ?_ ?_); · exact Sq) | ((first | with_reducible refine zC fun KC J hJ hKC => ?_ | with_reducible refine zU rfl fun KC J hJ hKC => ?_); simp (maxSteps := 9999999) only [push_cast, seval, ↓reduceIte, hlt, zAK hx, zAK hy, zHS, he', zb (i := i) (n := xs.length) (by omega) hb]) | ((first | with_reducible refine hJ _ _ ?_ | (with_reducible refine hJ _ _ ?_ ?_; · kernel_rfl)); clear hJ hKC KC J) | ((with_reducible refine zF ?_ ?_); · rfl) | ((with_reducible refine zH ?_ ?_); · rfl)
     refine ⟨⟨i + 1, by omega, fun j hj => ?_⟩, by simp only; omega, ?_, Fq⟩
     ·by_cases hji : j = i
      ·rw [hji, hx, hy, he]
      ·exact hn j (by omega)
     ·exact Lq
    ·have he' : decide (a = b) = false := decide_eq_false he
     repeat' first | (with_reducible first | refine zA ?_ | refine zB ?_ | refine zS ?_ | refine zg ?_ | refine zI ?_ | refine zJ ?_ | refine zG ?_) | ((with_reducible refine And.intro ?_ ?_); · exact Sq) | ((first | with_reducible refine zC fun KC J hJ hKC => ?_ | with_reducible refine zU rfl fun KC J hJ hKC => ?_); simp (maxSteps := 9999999) only [push_cast, seval, ↓reduceIte, hlt, zAK hx, zAK hy, zHS, he']) | ((first | with_reducible refine hJ _ _ ?_ | (with_reducible refine hJ _ _ ?_ ?_; · kernel_rfl)); clear hJ hKC KC J) | ((with_reducible refine zF ?_ ?_); · rfl)
     refine zE ?_
     simp (maxSteps := 9999999) only [push_cast, seval, ↓reduceIte, show Tryz.f59.results = #[(.tmp 4)] from rfl]
     rw [decide_eq_false (fun h => he (by rw [h, hy] at hx; exact (Option.some.inj hx).symm))]
     exact zN _
   ·skip
    repeat' first | (with_reducible first | refine zA ?_ | refine zB ?_ | refine zX ?_ | refine zW ?_ | refine zI ?_ | refine zQ ?_) | ((with_reducible refine zC fun KC J hJ hKC => ?_); simp (maxSteps := 9999999) only [push_cast, seval, ↓reduceIte, hlt]) | ((with_reducible refine hJ _ _ ?_); clear hJ hKC KC J) | ((with_reducible refine zH ?_ ?_); · rfl)
    refine zE ?_
    simp (maxSteps := 9999999) only [push_cast, seval, ↓reduceIte, show Tryz.f59.results = #[(.tmp 4)] from rfl]
    rw [decide_eq_true (zIU hl fun j hj => hn j (by omega))]
    exact zN _
 ·have hl' : ((xs.length : Int) != (ys.length : Int)) = true := by simp; omega
  repeat' first | (with_reducible first | refine zA ?_ | refine zB ?_ | refine zS ?_ | refine zI ?_) | ((with_reducible refine zC fun KC J hJ hKC => ?_); simp (maxSteps := 9999999) only [push_cast, seval, ↓reduceIte, hl']) | ((with_reducible refine hJ _ _ ?_); clear hJ hKC KC J) | ((with_reducible refine zF ?_ ?_); · rfl)
  refine zE ?_
  simp (maxSteps := 9999999) only [push_cast, seval, ↓reduceIte, show Tryz.f59.results = #[(.tmp 4)] from rfl]
  rw [decide_eq_false (fun h => hl (by rw [h]))]
  exact zN _
def zME (x y : Int × Int × Int) : Bool := (x.1 == y.1 && (x.1 == 1 || x.2.1 == y.2.1))
def zNQ (x y : Int × Int × Int) : Bool := (x.2.1 == y.2.1)
theorem zPk (x y : Int × Int × Int) : Fn Tryz.prog 199 [.agg [.v (.int .i64 x.1), .v (.int .i64 x.2.1), .v (.int .i64 x.2.2)], .agg [.v (.int .i64 y.1), .v (.int .i64 y.2.1), .v (.int .i64 y.2.2)]] [] (.v (.bool (zME x y))) [] := by
 refine Fn.of (fn := Tryz.f199) (by kernel_rfl) rfl (by kernel_rfl) ⟨[.agg [.v (.int .i64 x.1), .v (.int .i64 x.2.1), .v (.int .i64 x.2.2)], .agg [.v (.int .i64 y.1), .v (.int .i64 y.2.1), .v (.int .i64 y.2.2)], .v undef, .v undef, .v undef, .v undef, .v undef, .v undef, .v undef, .v undef, .v undef, .v undef, .v undef, .v undef, .v undef, .v undef, .v undef, .v undef, .v undef, .v undef, .v undef, .v undef], []⟩ rfl ?_
 obtain ⟨p, hp⟩ : ∃ p, (x.1 == y.1) = p := ⟨_, rfl⟩
 obtain ⟨q, hq⟩ : ∃ q, (x.1 == 1) = q := ⟨_, rfl⟩
 rw [zME, hp, hq]
 rcases p with _ | _
 rotate_left
 rcases q with _ | _
 all_goals
  repeat' first | (with_reducible first | refine zA ?_ | refine zB ?_ | refine zI ?_) | ((with_reducible refine zC fun KC J hJ hKC => ?_); simp (maxSteps := 9999999) only [push_cast, seval, ↓reduceIte, hp, hq, undef]) | ((with_reducible refine hJ _ _ ?_); clear hJ hKC KC J)
  refine zE ?_
  simp (maxSteps := 9999999) only [push_cast, seval, ↓reduceIte, show Tryz.f199.results = #[(.tmp 4)] from rfl]
  exact zN _
theorem zPa (x y : Int × Int × Int) : Fn Tryz.prog 201 [.agg [.v (.int .i64 x.1), .v (.int .i64 x.2.1), .v (.int .i64 x.2.2)], .agg [.v (.int .i64 y.1), .v (.int .i64 y.2.1), .v (.int .i64 y.2.2)]] [] (.v (.bool (zNQ x y))) [] := by
 refine Fn.of (fn := Tryz.f201) (by kernel_rfl) rfl (by kernel_rfl) ⟨[.agg [.v (.int .i64 x.1), .v (.int .i64 x.2.1), .v (.int .i64 x.2.2)], .agg [.v (.int .i64 y.1), .v (.int .i64 y.2.1), .v (.int .i64 y.2.2)], .v undef, .v undef, .v undef, .v undef, .v undef, .v undef, .v undef, .v undef], []⟩ rfl ?_
 repeat' first | (with_reducible first | refine zA ?_ | refine zB ?_ | refine zI ?_) | ((with_reducible refine zC fun KC J hJ hKC => ?_); simp (maxSteps := 9999999) only [push_cast, seval, ↓reduceIte]) | ((with_reducible refine hJ _ _ ?_); clear hJ hKC KC J)
 refine zE ?_
 simp (maxSteps := 9999999) only [push_cast, seval, ↓reduceIte, show Tryz.f201.results = #[(.tmp 4)] from rfl]
 exact zN _
def alI (us : List Nat) (o : Nat) (x y : Int × Int × Int) : Bool := zME x y && (x.2.2 == y.2.2 && (!fl us x.2.2.toNat o || zNQ x y))
theorem zNE (f g : Bool) (ns : List ByteArray) (us : List Nat) (o a : Nat) (x y : Int × Int × Int) (hs : Szs ns) (hu : U32 us) (hc : zq ns us = 0) (hx : x.2.2 = (a : Int)) (ha : a < us.length) (ho : o < us.length) :
  Fn Tryz.prog 211 [.agg [.v (.int .i64 x.1), .v (.int .i64 x.2.1), .v (.int .i64 x.2.2)], .agg [.v (.int .i64 y.1), .v (.int .i64 y.2.1), .v (.int .i64 y.2.2)], .fad zDs, .fad [.sl f 1 (zM ns), .sl g 1 (zL us), .v (.int .i64 (o : Int))]] [] (.v (.bool (alI us o x y))) [] := by
 have h1 := zPk x y
 have h2 := zHL x
 have h3 := zHL y
 have h4 := zPa x y
 have h5 := zAy f g ns us a o hs hu hc ha ho
 rw [hx] at h1 h2 h4
 obtain ⟨p, hp⟩ : ∃ p, zME x y = p := ⟨_, rfl⟩
 obtain ⟨q, hq⟩ : ∃ q, ((a : Int) == y.2.2) = q := ⟨_, rfl⟩
 obtain ⟨z, hz⟩ : ∃ z, fl us a o = z := ⟨_, rfl⟩
 have hal : alI us o x y = (p && (q && (!z || zNQ x y))) := by rw [alI, hp, hx, hq, Int.toNat_natCast, hz]
 rw [hal]
 rw [hp] at h1
 rw [hz] at h5
 rw [hx]
 refine Fn.of (fn := Tryz.f211) (by kernel_rfl) rfl (by kernel_rfl) ⟨[.agg [.v (.int .i64 x.1), .v (.int .i64 x.2.1), .v (.int .i64 (a : Int))], .agg [.v (.int .i64 y.1), .v (.int .i64 y.2.1), .v (.int .i64 y.2.2)], .fad zDs, .fad [.sl f 1 (zM ns), .sl g 1 (zL us), .v (.int .i64 (o : Int))], .v undef, .v undef, .v undef, .v undef, .v undef, .v undef, .v undef, .v undef, .v undef, .v undef, .v undef, .v undef, .v undef, .v undef, .v undef, .v undef, .v undef, .v undef, .v undef, .v undef, .v undef, .v undef, .v undef, .v undef, .v undef, .v undef, .v undef, .v undef, .v undef, .v undef, .v undef, .v undef, .v undef, .v undef, .v undef], []⟩ rfl ?_
 rcases p with _ | _
 rotate_left
 rcases q with _ | _
 rotate_left
 rcases z with _ | _
 all_goals
  repeat' first | (with_reducible first | refine zA ?_ | refine zB ?_ | refine zI ?_) | ((first | with_reducible refine zC fun KC J hJ hKC => ?_ | with_reducible refine zU rfl fun KC J hJ hKC => ?_ | (refine' hKC _ _ _ _ _ (zD (zAy _ _ _ _ _ _ ?_ ?_ ?_ ?_ ?_) rfl rfl rfl ?_ ?_); (rotate_left 11); (· exact Lq); (rotate_left 1); (iterate 5 (· exact Hq))) | (refine hKC _ _ _ _ _ (zD (h1) rfl rfl rfl ?_ ?_); (· exact Lq)) | (refine hKC _ _ _ _ _ (zD (h2) rfl rfl rfl ?_ ?_); (· exact Lq)) | (refine hKC _ _ _ _ _ (zD (h3) rfl rfl rfl ?_ ?_); (· exact Lq)) | (refine hKC _ _ _ _ _ (zD (h4) rfl rfl rfl ?_ ?_); (· exact Lq))); simp (maxSteps := 9999999) only [push_cast, seval, ↓reduceIte, hq, hz, undef]) | ((first | with_reducible refine hJ _ _ ?_ | (with_reducible refine hJ _ _ ?_ ?_; · kernel_rfl)); clear hJ hKC KC J)
  refine zE ?_
  simp (maxSteps := 9999999) only [push_cast, seval, ↓reduceIte, show Tryz.f211.results = #[(.tmp 6)] from rfl]
  exact zN _
def zCG (p : Int × Int × Int → Int × Int × Int → Bool) : List (Int × Int × Int) → List (Int × Int × Int) → Bool
 | [], [] => true
 | x :: xs, y :: ys => p x y && zCG p xs ys
 | _, _ => false
theorem zFE {p : Int × Int × Int → Int × Int × Int → Bool} : ∀ {xs ys : List (Int × Int × Int)}, ¬ xs.length = ys.length → zCG p xs ys = false
 | [], [], h => absurd rfl h
 | [], _ :: _, _ => rfl
 | _ :: _, [], _ => rfl
 | _ :: xs, _ :: ys, h => by rw [zCG, zFE (fun e => h (by simp [e]))]; simp
theorem zEz {p : Int × Int × Int → Int × Int × Int → Bool} : ∀ {xs ys : List (Int × Int × Int)}, xs.length = ys.length → (∀ (j : Nat) (x y : Int × Int × Int), xs[j]? = some x → ys[j]? = some y → p x y = true) → zCG p xs ys = true
 | [], [], _, _ => rfl
 | [], _ :: _, h, _ => by simp at h
 | _ :: _, [], h, _ => by simp at h
 | x :: xs, y :: ys, h, hp => by
  rw [zCG, hp 0 x y rfl rfl, zEz (by simpa using h) (fun j a b ha hb => hp (j + 1) a b (by simpa using ha) (by simpa using hb))]; rfl
theorem zGf {p : Int × Int × Int → Int × Int × Int → Bool} : ∀ {xs ys : List (Int × Int × Int)} {j : Nat} {x y : Int × Int × Int}, xs[j]? = some x → ys[j]? = some y → p x y = false → zCG p xs ys = false
 | [], _, j, x, y, h, _, _ => by simp at h
 | _ :: _, [], j, x, y, _, h, _ => by simp at h
 | a :: xs, b :: ys, 0, x, y, h1, h2, h3 => by simp at h1 h2; rw [zCG, h1, h2, h3]; rfl
 | a :: xs, b :: ys, j + 1, x, y, h1, h2, h3 => by rw [zCG, zGf (by simpa using h1) (by simpa using h2) h3]; simp
theorem zJN (f g : Bool) (xs ys : List (Int × Int × Int)) (cf : Nat) (caps : List D) (p : Int × Int × Int → Int × Int × Int → Bool) (hb : xs.length ≤ 9223372036854775807) (hc : zk caps = true)
  (hp : ∀ x ∈ xs, ∀ y, Fn Tryz.prog cf (.agg [.v (.int .i64 x.1), .v (.int .i64 x.2.1), .v (.int .i64 x.2.2)] :: .agg [.v (.int .i64 y.1), .v (.int .i64 y.2.1), .v (.int .i64 y.2.2)] :: caps) [] (.v (.bool (p x y))) []) : Fn Tryz.prog 210 [.sl f 3 (zh xs), .sl g 3 (zh ys), .fn cf caps] [] (.v (.bool (zCG p xs ys))) [] := by
 refine Fn.of (fn := Tryz.f210) (by kernel_rfl) rfl (by kernel_rfl) ⟨[.sl f 3 (zh xs), .sl g 3 (zh ys), .fn cf caps, .v undef, .v undef, .v undef, .v undef, .v undef, .v undef, .v undef, .v undef, .v undef, .v undef, .v undef, .v undef, .v undef, .v undef, .v undef, .v undef, .v undef, .v undef, .v undef, .v undef, .v undef, .v undef, .v undef, .v undef, .v undef, .v undef, .v undef, .v undef, .v undef], []⟩ rfl ?_
 by_cases hl : xs.length = ys.length
 ·have hl' : ((xs.length : Int) != (ys.length : Int)) = false := by simp [hl]
  repeat' first | (with_reducible first | refine zA ?_ | refine zB ?_ | refine zJ ?_ | refine zG ?_) | ((with_reducible refine zC fun KC J hJ hKC => ?_); simp (maxSteps := 9999999) only [push_cast, seval, ↓reduceIte, hl']) | ((with_reducible refine hJ _ _ ?_); clear hJ hKC KC J) | ((with_reducible refine zH ?_ ?_); · rfl)
  refine zi 0 (γ := {i : Nat // i ≤ xs.length ∧ ∀ (j : Nat) (x y : Int × Int × Int), j < i → xs[j]? = some x → ys[j]? = some y → p x y = true}) (fun i => ⟨[.sl f 3 (zh xs), .sl g 3 (zh ys), .fn cf caps, .any, .any, .any, .any, .any, .any, .any, .any, .any, .any, .any, .any, .sl f 3 (zh xs), .v (.int .i64 xs.length), .v (.int .i64 i.1), .any, .any, .any, .any, .any, .any, .any, .any, .any, .any, .any, .any, .any, .any], []⟩) (fun i => xs.length - i.1) ⟨0, by simp⟩ (fun i => rfl) (fun i => rfl) (fun i => ?_) ⟨?_, Fq⟩ ?_
  ·simp only [List.map_cons, List.map_nil, show ren (mOf (List.range 0)) (.fn cf caps) = .fn cf caps from by show D.fn cf (caps.map _) = _; rw [zCd (fun d hd => zDU hd) hc]]
   rfl
  ·exact Lq
  ·rintro ⟨i, hi, hn⟩
   by_cases hlt : (i : Int) < (xs.length : Int)
   ·have hx : xs[i]? = some xs[i] := List.getElem?_eq_getElem (by omega)
    have hy : ys[i]? = some ys[i] := List.getElem?_eq_getElem (by omega)
    have hfn := hp xs[i] (List.getElem_mem (by omega)) ys[i]
    obtain ⟨a, ha⟩ : ∃ a, xs[i] = a := ⟨_, rfl⟩
    obtain ⟨b, hb2⟩ : ∃ b, ys[i] = b := ⟨_, rfl⟩
    rw [ha] at hx
    rw [hb2] at hy
    rw [ha, hb2] at hfn
    cases hpv : p a b with
    | true =>
     rw [hpv] at hfn
     repeat' first | (with_reducible first | refine zA ?_ | refine zB ?_ | refine zO ?_ | refine zJ ?_ | refine zG ?_) | ((with_reducible refine And.intro ?_ ?_); · exact Sq) | ((first | with_reducible refine zC fun KC J hJ hKC => ?_ | (refine hKC _ _ _ _ _ (zD (hfn) rfl rfl rfl ?_ ?_); (· exact Lq))); simp (maxSteps := 9999999) only [push_cast, seval, ↓reduceIte, hlt, zAp hx, zAp hy, zb (i := i) (n := xs.length) (by omega) hb]) | ((with_reducible refine hJ _ _ ?_); clear hJ hKC KC J) | ((with_reducible refine zF ?_ ?_); · rfl) | ((with_reducible refine zH ?_ ?_); · rfl)
     refine ⟨⟨i + 1, by omega, fun j x y hj h1 h2 => ?_⟩, by simp only; omega, ?_, ⟨_, rfl⟩⟩
     ·by_cases hji : j = i
      ·rw [hji] at h1 h2
       rw [hx] at h1; rw [hy] at h2
       cases h1; cases h2; exact hpv
      ·exact hn j x y (by omega) h1 h2
     ·exact Lq
    | false =>
     rw [hpv] at hfn
     repeat' first | (with_reducible first | refine zA ?_ | refine zB ?_ | refine zS ?_ | refine zg ?_ | refine zI ?_ | refine zJ ?_ | refine zG ?_) | ((with_reducible refine And.intro ?_ ?_); · exact Sq) | ((first | with_reducible refine zC fun KC J hJ hKC => ?_ | (refine hKC _ _ _ _ _ (zD (hfn) rfl rfl rfl ?_ ?_); (· exact Lq))); simp (maxSteps := 9999999) only [push_cast, seval, ↓reduceIte, hlt, zAp hx, zAp hy]) | ((with_reducible refine hJ _ _ ?_); clear hJ hKC KC J) | ((with_reducible refine zF ?_ ?_); · rfl)
     refine zE ?_
     simp (maxSteps := 9999999) only [push_cast, seval, ↓reduceIte, show Tryz.f210.results = #[(.tmp 6)] from rfl]
     rw [zGf hx hy hpv]
     exact zN _
   ·skip
    repeat' first | (with_reducible first | refine zA ?_ | refine zB ?_ | refine zX ?_ | refine zW ?_ | refine zI ?_ | refine zQ ?_) | ((with_reducible refine zC fun KC J hJ hKC => ?_); simp (maxSteps := 9999999) only [push_cast, seval, ↓reduceIte, hlt]) | ((with_reducible refine hJ _ _ ?_); clear hJ hKC KC J) | ((with_reducible refine zH ?_ ?_); · rfl)
    refine zE ?_
    simp (maxSteps := 9999999) only [push_cast, seval, ↓reduceIte, show Tryz.f210.results = #[(.tmp 6)] from rfl]
    rw [zEz hl (fun j x y h1 h2 => hn j x y (by have := (List.getElem?_eq_some_iff.1 h1).1; omega) h1 h2)]
    exact zN _
 ·have hl' : ((xs.length : Int) != (ys.length : Int)) = true := by simp; omega
  repeat' first | (with_reducible first | refine zA ?_ | refine zB ?_ | refine zS ?_ | refine zI ?_) | ((with_reducible refine zC fun KC J hJ hKC => ?_); simp (maxSteps := 9999999) only [push_cast, seval, ↓reduceIte, hl']) | ((with_reducible refine hJ _ _ ?_); clear hJ hKC KC J) | ((with_reducible refine zF ?_ ?_); · rfl)
  refine zE ?_
  simp (maxSteps := 9999999) only [push_cast, seval, ↓reduceIte, show Tryz.f210.results = #[(.tmp 6)] from rfl]
  rw [zFE hl]
  exact zN _
theorem zBk (f g fa fb : Bool) (ns : List ByteArray) (us : List Nat) (o : Nat) (xs ys : List (Int × Int × Int)) (hs : Szs ns) (hu : U32 us) (hc : zq ns us = 0) (ho : o < us.length) (hb : xs.length ≤ 1000) (hx : ∀ x ∈ xs, zn us.length x.2.2 = false) :
  Fn Tryz.prog 109 [.agg [.sl f 1 (zM ns), .sl g 1 (zL us), .v (.int .i64 (o : Int))], .agg zDs, .sl fa 3 (zh xs), .sl fb 3 (zh ys)] [] (.v (.bool (zCG (alI us o) xs ys))) [] := by
 have hcf := zJN fa fb xs ys 211 [.fad zDs, .fad [.sl f 1 (zM ns), .sl g 1 (zL us), .v (.int .i64 (o : Int))]] (alI us o) (by omega) rfl (fun x hm y => by
  obtain ⟨a, ha, hl⟩ := zAP (hx x hm)
  exact zNE f g ns us o a x y hs hu hc ha hl ho)
 refine Fn.of (fn := Tryz.f109) (by kernel_rfl) rfl (by kernel_rfl) ⟨[.agg [.sl f 1 (zM ns), .sl g 1 (zL us), .v (.int .i64 (o : Int))], .agg zDs, .sl fa 3 (zh xs), .sl fb 3 (zh ys), .v undef, .v undef, .v undef, .v undef, .v undef, .v undef, .v undef, .v undef, .v undef], []⟩ rfl ?_
 repeat' first | (refine zV 1 0 rfl (by (simp (maxSteps := 9999999) only [push_cast, seval, ↓reduceIte]) <;> rfl) ?_; simp (maxSteps := 9999999) only [push_cast, seval, ↓reduceIte, zAH, zd, fr3, fr2, fr1, fr0, zl, zj, zk, Bool.and_self]) | (refine zV 1 1 rfl (by (simp (maxSteps := 9999999) only [push_cast, seval, ↓reduceIte]) <;> rfl) ?_; simp (maxSteps := 9999999) only [push_cast, seval, ↓reduceIte, zAH, zd, fr3, fr2, fr1, fr0, zl, zj, zk, Bool.and_self]) | (with_reducible first | refine zA ?_ | refine zB ?_ | refine zI ?_) | ((first | with_reducible refine zC fun KC J hJ hKC => ?_ | (refine hKC _ _ _ _ _ (zD (hcf) rfl rfl rfl ?_ ?_); (· exact Lq))); simp (maxSteps := 9999999) only [push_cast, seval, ↓reduceIte, zk, Bool.and_self]) | ((with_reducible refine hJ _ _ ?_); clear hJ hKC KC J)
 refine zE ?_
 simp (maxSteps := 9999999) only [push_cast, seval, ↓reduceIte, show Tryz.f109.results = #[(.tmp 8)] from rfl]
 exact zN _
def okL (n : Nat) (l : List Int) : Bool := l.all fun a => !zn n a
def zOB (n : Nat) (s : Sta) : Bool := okL n (s.code.map (·.2.2)) && (okL n (s.mem.map (·.2)) && (okL n (s.stack.map (·.2.2)) && (okL n (s.out.map (·.2)) && !zn n s.l)))
def zBz (ns : List ByteArray) (us : List Nat) (o : Int) (a b : Sta) : Int := if zq ns us = 0 then if (!zn us.length o && (zOB us.length a && zOB us.length b)) = true then 0 else 9 else zq ns us
end Go.Proofs.YtabliglgeiajlaaGreat.AM
