/- Walks and plain laws, put together: part 2. -/
import Derived.Test.YtabliglgeiajlaaGreatUnpickChoicesG1
import Derived.Test.YtabliglgeiajlaaGreatUnpickChoicesG0
import Derived.Test.YtabliglgeiajlaaGreatMc
set_option linter.unusedSimpArgs false
set_option linter.unusedVariables false
namespace Go.Proofs.YtabliglgeiajlaaGreat.AM
open Go Go.RowKit Go.Proofs
set_option maxRecDepth 100000
set_option maxHeartbeats 4000000
theorem zz (f g : Bool) (ns : List ByteArray) (us : List Nat) (o a : Nat) (hu : U32 us) (ha : a < us.length) (ho : o ≤ 1000) : Fn Tryz.prog 87 [.agg [.sl f 1 (zM ns), .sl g 1 (zL us)], .v (.int .i64 (o : Int)), .v (.int .i64 (a : Int))] [] (.v (.bool (fl us a o))) [] := by
 refine Fn.of (fn := Tryz.f87) (by kernel_rfl) rfl (by kernel_rfl) ⟨[.agg [.sl f 1 (zM ns), .sl g 1 (zL us)], .v (.int .i64 (o : Int)), .v (.int .i64 (a : Int)), .v undef, .v undef, .v undef, .v undef, .v undef, .v undef, .v undef, .v undef], []⟩ rfl ?_
 repeat' first | (with_reducible first | refine zA ?_ | refine zB ?_ | refine zI ?_) | ((first | with_reducible refine zC fun KC J hJ hKC => ?_ | (refine' hKC _ _ _ _ _ (zD (zv _ _ _ _ _ _ ?_ ?_ ?_) rfl rfl rfl ?_ ?_); (rotate_left 9); (· exact Lq); (rotate_left 1); (iterate 3 (· exact Hq)))); simp (maxSteps := 9999999) only [push_cast, seval, ↓reduceIte]) | ((with_reducible refine hJ _ _ ?_); clear hJ hKC KC J)
 refine zE ?_
 simp (maxSteps := 9999999) only [push_cast, seval, ↓reduceIte, show Tryz.f87.results = #[(.tmp 6)] from rfl]
 exact zN _
theorem zEW (f g : Bool) (ns : List ByteArray) (us : List Nat) (o a : Nat) (v w b : Int) (hu : U32 us) (ha : a < us.length) (ho : o ≤ 1000) : Fn Tryz.prog 259 [.agg [.sl f 1 (zM ns), .sl g 1 (zL us)], .v (.int .i64 (o : Int)), .v (.int .i64 v), .v (.int .i64 (a : Int)), .v (.int .i64 w), .v (.int .i64 b)] [] (.v (.bool ((a : Int) == b && (!fl us a o || v == w)))) [] := by
 have h5 := zz f g ns us o a hu ha ho
 obtain ⟨q, hq⟩ : ∃ q, ((a : Int) == b) = q := ⟨_, rfl⟩
 obtain ⟨z, hz⟩ : ∃ z, fl us a o = z := ⟨_, rfl⟩
 rw [hz] at h5
 rw [hq, hz]
 refine Fn.of (fn := Tryz.f259) (by kernel_rfl) rfl (by kernel_rfl) ⟨[.agg [.sl f 1 (zM ns), .sl g 1 (zL us)], .v (.int .i64 (o : Int)), .v (.int .i64 v), .v (.int .i64 (a : Int)), .v (.int .i64 w), .v (.int .i64 b), .v undef, .v undef, .v undef, .v undef, .v undef, .v undef, .v undef, .v undef, .v undef, .v undef, .v undef, .v undef, .v undef, .v undef, .v undef, .v undef, .v undef, .v undef, .v undef, .v undef, .v undef, .v undef], []⟩ rfl ?_
 rcases q with _ | _
 rotate_left
 rcases z with _ | _
 all_goals
  repeat' first | (with_reducible first | refine zA ?_ | refine zB ?_ | refine zI ?_) | ((first | with_reducible refine zC fun KC J hJ hKC => ?_ | (refine' hKC _ _ _ _ _ (zD (zz _ _ _ _ _ _ ?_ ?_ ?_) rfl rfl rfl ?_ ?_); (rotate_left 9); (· exact Lq); (rotate_left 1); (iterate 3 (· exact Hq)))); simp (maxSteps := 9999999) only [push_cast, seval, ↓reduceIte, hq, hz, undef]) | ((with_reducible refine hJ _ _ ?_); clear hJ hKC KC J)
  refine zE ?_
  simp (maxSteps := 9999999) only [push_cast, seval, ↓reduceIte, show Tryz.f259.results = #[(.tmp 12)] from rfl]
  exact zN _
set_option maxHeartbeats 2000000 in
theorem zCF (f g fa fb : Bool) (ns : List ByteArray) (us : List Nat) (o : Nat) (xs ys : List (Int × Int)) (hu : U32 us) (ho : o ≤ 1000) (hb : xs.length ≤ 1000) (hxo : ∀ x ∈ xs, zn us.length x.2 = false) :
  Fn Tryz.prog 183 [.agg [.sl f 1 (zM ns), .sl g 1 (zL us)], .v (.int .i64 (o : Int)), .sl fa 2 (zR xs), .sl fb 2 (zR ys)] [] (.v (.bool (zCM (alA us o) xs ys))) [] := by
 refine Fn.of (fn := Tryz.f183) (by kernel_rfl) rfl (by kernel_rfl) ⟨[.agg [.sl f 1 (zM ns), .sl g 1 (zL us)], .v (.int .i64 (o : Int)), .sl fa 2 (zR xs), .sl fb 2 (zR ys), .v undef, .v undef, .v undef, .v undef, .v undef, .v undef, .v undef, .v undef, .v undef, .v undef, .v undef, .v undef, .v undef, .v undef, .v undef, .v undef, .v undef, .v undef, .v undef, .v undef, .v undef, .v undef, .v undef, .v undef, .v undef, .v undef, .v undef, .v undef, .v undef, .v undef, .v undef, .v undef, .v undef, .v undef, .v undef, .v undef, .v undef, .v undef, .v undef, .v undef, .v undef], []⟩ rfl ?_
 by_cases hl : xs.length = ys.length
 ·have hl' : ((xs.length : Int) != (ys.length : Int)) = false := by simp [hl]
  repeat' first | (with_reducible first | refine zA ?_ | refine zB ?_ | refine zJ ?_ | refine zG ?_) | ((with_reducible refine zC fun KC J hJ hKC => ?_); simp (maxSteps := 9999999) only [push_cast, seval, ↓reduceIte, hl']) | ((with_reducible refine hJ _ _ ?_); clear hJ hKC KC J) | ((with_reducible refine zH ?_ ?_); · rfl)
  refine zi 1 (γ := {i : Nat // i ≤ xs.length ∧ ∀ (j : Nat) (x y : Int × Int), j < i → xs[j]? = some x → ys[j]? = some y → alA us o x y = true}) (fun i => ⟨[.any, .v (.int .i64 (o : Int)), .sl fa 2 (zR xs), .sl fb 2 (zR ys), .ptr 0 0 0, .any, .any, .any, .any, .any, .any, .any, .any, .any, .any, .any, .v (.int .i64 xs.length), .v (.int .i64 i.1), .any, .any, .any, .any, .any, .any, .any, .any, .any, .any, .any, .any, .any, .any, .any, .any, .any, .any, .any, .any, .any, .any, .any, .any, .any, .any, .any], [.ent ⟨0, none, 25, [.sl f 1 (zM ns), .sl g 1 (zL us)], .cells⟩]⟩) (fun i => xs.length - i.1) ⟨0, by omega, fun j x y h => by omega⟩ (fun i => rfl) (fun i => rfl) (fun i => rfl) ⟨?_, Fq⟩ ?_
  ·exact Lq
  rintro ⟨i, hi, hn⟩
  by_cases hlt : (i : Int) < (xs.length : Int)
  ·have hx : xs[i]? = some xs[i] := List.getElem?_eq_getElem (by omega)
   have hy : ys[i]? = some ys[i] := List.getElem?_eq_getElem (by omega)
   obtain ⟨x, hx0⟩ : ∃ x, xs[i] = x := ⟨_, rfl⟩
   obtain ⟨y, hy0⟩ : ∃ y, ys[i] = y := ⟨_, rfl⟩
   obtain ⟨a, ha, han⟩ := zAP (hxo x (by rw [← hx0]; exact List.getElem_mem (by omega)))
   rw [hx0] at hx
   rw [hy0] at hy
   obtain ⟨v, l⟩ := x
   simp only at ha
   subst ha
   have h1 := zEW f g ns us o a v y.1 y.2 hu han ho
   have hal : alA us o (v, (a : Int)) y = ((a : Int) == y.2 && (!fl us a o || v == y.1)) := by rw [alA, zNM, zNc, Int.toNat_natCast]; rfl
   cases hpv : alA us o (v, (a : Int)) y with
   | true =>
    rw [hpv] at hal
    have hal := hal.symm
    repeat' first | (with_reducible first | refine zA ?_ | refine zB ?_ | refine zO ?_ | refine zJ ?_ | refine zG ?_) | ((with_reducible refine And.intro ?_ ?_); · exact Sq) | ((first | with_reducible refine zC fun KC J hJ hKC => ?_ | with_reducible refine zU rfl fun KC J hJ hKC => ?_ | (refine' hKC _ _ _ _ _ (zD (zEW _ _ _ _ _ _ _ _ _ ?_ ?_ ?_) rfl rfl rfl ?_ ?_); (rotate_left 12); (· exact Lq); (rotate_left 1); (iterate 3 (· exact Hq)))); simp (maxSteps := 9999999) only [push_cast, seval, ↓reduceIte, hlt, zAK hx, zAK hy, hal, zb (i := i) (n := xs.length) (by omega) (by omega)]) | ((first | with_reducible refine hJ _ _ ?_ | (with_reducible refine hJ _ _ ?_ ?_; · kernel_rfl)); clear hJ hKC KC J) | ((with_reducible refine zF ?_ ?_); · rfl) | ((with_reducible refine zH ?_ ?_); · rfl)
    refine ⟨⟨i + 1, by omega, fun j x' y' hj h1 h2 => ?_⟩, by simp only; omega, ?_, ⟨_, rfl⟩⟩
    ·by_cases hji : j = i
     ·subst hji
      rw [hx] at h1; rw [hy] at h2
      cases h1; cases h2; exact hpv
     ·exact hn j x' y' (by omega) h1 h2
    ·exact Lq
   | false =>
    rw [hpv] at hal
    have hal := hal.symm
    repeat' first | (with_reducible first | refine zA ?_ | refine zB ?_ | refine zS ?_ | refine zg ?_ | refine zI ?_ | refine zJ ?_ | refine zG ?_) | ((with_reducible refine And.intro ?_ ?_); · exact Sq) | ((first | with_reducible refine zC fun KC J hJ hKC => ?_ | with_reducible refine zU rfl fun KC J hJ hKC => ?_ | (refine' hKC _ _ _ _ _ (zD (zEW _ _ _ _ _ _ _ _ _ ?_ ?_ ?_) rfl rfl rfl ?_ ?_); (rotate_left 12); (· exact Lq); (rotate_left 1); (iterate 3 (· exact Hq)))); simp (maxSteps := 9999999) only [push_cast, seval, ↓reduceIte, hlt, zAK hx, zAK hy, hal]) | ((first | with_reducible refine hJ _ _ ?_ | (with_reducible refine hJ _ _ ?_ ?_; · kernel_rfl)); clear hJ hKC KC J) | ((with_reducible refine zF ?_ ?_); · rfl)
    refine zE ?_
    simp (maxSteps := 9999999) only [push_cast, seval, ↓reduceIte, show Tryz.f183.results = #[(.tmp 8)] from rfl]
    rw [zGN hx hy hpv]
    exact zN _
  ·skip
   repeat' first | (with_reducible first | refine zA ?_ | refine zB ?_ | refine zX ?_ | refine zW ?_ | refine zI ?_ | refine zQ ?_) | ((with_reducible refine zC fun KC J hJ hKC => ?_); simp (maxSteps := 9999999) only [push_cast, seval, ↓reduceIte, hlt]) | ((with_reducible refine hJ _ _ ?_); clear hJ hKC KC J) | ((with_reducible refine zH ?_ ?_); · rfl)
   refine zE ?_
   simp (maxSteps := 9999999) only [push_cast, seval, ↓reduceIte, show Tryz.f183.results = #[(.tmp 8)] from rfl]
   rw [zFF hl (fun j x y h1 h2 => hn j x y (by have := (List.getElem?_eq_some_iff.1 h1).1; omega) h1 h2)]
   exact zN _
 ·have hl' : ((xs.length : Int) != (ys.length : Int)) = true := by simp; omega
  repeat' first | (with_reducible first | refine zA ?_ | refine zB ?_ | refine zS ?_ | refine zI ?_) | ((with_reducible refine zC fun KC J hJ hKC => ?_); simp (maxSteps := 9999999) only [push_cast, seval, ↓reduceIte, hl']) | ((with_reducible refine hJ _ _ ?_); clear hJ hKC KC J) | ((with_reducible refine zF ?_ ?_); · rfl)
  refine zE ?_
  simp (maxSteps := 9999999) only [push_cast, seval, ↓reduceIte, show Tryz.f183.results = #[(.tmp 8)] from rfl]
  rw [zFN hl]
  exact zN _
set_option maxHeartbeats 2000000 in
theorem zFU (f g fa fb : Bool) (ns : List ByteArray) (us : List Nat) (o : Nat) (xs ys : List (Bool × Int × Int)) (hu : U32 us) (ho : o ≤ 1000) (hb : xs.length ≤ 1000) (hxo : ∀ x ∈ xs, zn us.length x.2.2 = false) :
  Fn Tryz.prog 185 [.agg [.sl f 1 (zM ns), .sl g 1 (zL us)], .v (.int .i64 (o : Int)), .sl fa 3 (zc xs), .sl fb 3 (zc ys)] [] (.v (.bool (zCV (alS us o) xs ys))) [] := by
 refine Fn.of (fn := Tryz.f185) (by kernel_rfl) rfl (by kernel_rfl) ⟨[.agg [.sl f 1 (zM ns), .sl g 1 (zL us)], .v (.int .i64 (o : Int)), .sl fa 3 (zc xs), .sl fb 3 (zc ys), .v undef, .v undef, .v undef, .v undef, .v undef, .v undef, .v undef, .v undef, .v undef, .v undef, .v undef, .v undef, .v undef, .v undef, .v undef, .v undef, .v undef, .v undef, .v undef, .v undef, .v undef, .v undef, .v undef, .v undef, .v undef, .v undef, .v undef, .v undef, .v undef, .v undef, .v undef, .v undef, .v undef, .v undef, .v undef, .v undef, .v undef, .v undef, .v undef, .v undef, .v undef, .v undef, .v undef, .v undef, .v undef, .v undef, .v undef, .v undef, .v undef, .v undef, .v undef, .v undef, .v undef, .v undef], []⟩ rfl ?_
 by_cases hl : xs.length = ys.length
 ·have hl' : ((xs.length : Int) != (ys.length : Int)) = false := by simp [hl]
  repeat' first | (with_reducible first | refine zA ?_ | refine zB ?_ | refine zJ ?_ | refine zG ?_) | ((with_reducible refine zC fun KC J hJ hKC => ?_); simp (maxSteps := 9999999) only [push_cast, seval, ↓reduceIte, hl']) | ((with_reducible refine hJ _ _ ?_); clear hJ hKC KC J) | ((with_reducible refine zH ?_ ?_); · rfl)
  refine zi 1 (γ := {i : Nat // i ≤ xs.length ∧ ∀ (j : Nat) (x y : Bool × Int × Int), j < i → xs[j]? = some x → ys[j]? = some y → alS us o x y = true}) (fun i => ⟨[.any, .v (.int .i64 (o : Int)), .sl fa 3 (zc xs), .sl fb 3 (zc ys), .ptr 0 0 0, .any, .any, .any, .any, .any, .any, .any, .any, .any, .any, .any, .v (.int .i64 xs.length), .v (.int .i64 i.1), .any, .any, .any, .any, .any, .any, .any, .any, .any, .any, .any, .any, .any, .any, .any, .any, .any, .any, .any, .any, .any, .any, .any, .any, .any, .any, .any, .any, .any, .any, .any, .any, .any, .any, .any, .any, .any, .any, .any, .any], [.ent ⟨0, none, 25, [.sl f 1 (zM ns), .sl g 1 (zL us)], .cells⟩]⟩) (fun i => xs.length - i.1) ⟨0, by omega, fun j x y h => by omega⟩ (fun i => rfl) (fun i => rfl) (fun i => rfl) ⟨?_, Fq⟩ ?_
  ·exact Lq
  rintro ⟨i, hi, hn⟩
  by_cases hlt : (i : Int) < (xs.length : Int)
  ·have hx : xs[i]? = some xs[i] := List.getElem?_eq_getElem (by omega)
   have hy : ys[i]? = some ys[i] := List.getElem?_eq_getElem (by omega)
   obtain ⟨x, hx0⟩ : ∃ x, xs[i] = x := ⟨_, rfl⟩
   obtain ⟨y, hy0⟩ : ∃ y, ys[i] = y := ⟨_, rfl⟩
   obtain ⟨a, ha, han⟩ := zAP (hxo x (by rw [← hx0]; exact List.getElem_mem (by omega)))
   rw [hx0] at hx
   rw [hy0] at hy
   obtain ⟨r, v, l⟩ := x
   simp only at ha
   subst ha
   have h1 := zEW f g ns us o a v y.2.1 y.2.2 hu han ho
   obtain ⟨p, hp⟩ : ∃ p, (r == y.1) = p := ⟨_, rfl⟩
   obtain ⟨q, hq⟩ : ∃ q, ((a : Int) == y.2.2 && (!fl us a o || v == y.2.1)) = q := ⟨_, rfl⟩
   have hal : alS us o (r, v, (a : Int)) y = (p && q) := by rw [← hp, ← hq, alS, zNo, zNi, Int.toNat_natCast]
   rw [hq] at h1
   rcases p with _ | _
   ·have hpv : alS us o (r, v, (a : Int)) y = false := hal
    repeat' first | (with_reducible first | refine zA ?_ | refine zB ?_ | refine zS ?_ | refine zg ?_ | refine zI ?_ | refine zJ ?_ | refine zG ?_) | ((with_reducible refine And.intro ?_ ?_); · exact Sq) | ((first | with_reducible refine zC fun KC J hJ hKC => ?_ | with_reducible refine zU rfl fun KC J hJ hKC => ?_); simp (maxSteps := 9999999) only [push_cast, seval, ↓reduceIte, hlt, zAJ hx, zAJ hy, hp, undef]) | ((first | with_reducible refine hJ _ _ ?_ | (with_reducible refine hJ _ _ ?_ ?_; · kernel_rfl)); clear hJ hKC KC J) | ((with_reducible refine zF ?_ ?_); · rfl)
    refine zE ?_
    simp (maxSteps := 9999999) only [push_cast, seval, ↓reduceIte, show Tryz.f185.results = #[(.tmp 8)] from rfl]
    rw [zEZ hx hy hpv]
    exact zN _
   rcases q with _ | _
   ·have hpv : alS us o (r, v, (a : Int)) y = false := hal
    repeat' first | (with_reducible first | refine zA ?_ | refine zB ?_ | refine zS ?_ | refine zg ?_ | refine zI ?_ | refine zJ ?_ | refine zG ?_) | ((with_reducible refine And.intro ?_ ?_); · exact Sq) | ((first | with_reducible refine zC fun KC J hJ hKC => ?_ | with_reducible refine zU rfl fun KC J hJ hKC => ?_ | (refine' hKC _ _ _ _ _ (zD (zEW _ _ _ _ _ _ _ _ _ ?_ ?_ ?_) rfl rfl rfl ?_ ?_); (rotate_left 12); (· exact Lq); (rotate_left 1); (iterate 3 (· exact Hq)))); simp (maxSteps := 9999999) only [push_cast, seval, ↓reduceIte, hlt, zAJ hx, zAJ hy, hp, hq, undef]) | ((first | with_reducible refine hJ _ _ ?_ | (with_reducible refine hJ _ _ ?_ ?_; · kernel_rfl)); clear hJ hKC KC J) | ((with_reducible refine zF ?_ ?_); · rfl)
    refine zE ?_
    simp (maxSteps := 9999999) only [push_cast, seval, ↓reduceIte, show Tryz.f185.results = #[(.tmp 8)] from rfl]
    rw [zEZ hx hy hpv]
    exact zN _
   ·have hpv : alS us o (r, v, (a : Int)) y = true := hal
    repeat' first | (with_reducible first | refine zA ?_ | refine zB ?_ | refine zO ?_ | refine zJ ?_ | refine zG ?_) | ((with_reducible refine And.intro ?_ ?_); · exact Sq) | ((first | with_reducible refine zC fun KC J hJ hKC => ?_ | with_reducible refine zU rfl fun KC J hJ hKC => ?_ | (refine' hKC _ _ _ _ _ (zD (zEW _ _ _ _ _ _ _ _ _ ?_ ?_ ?_) rfl rfl rfl ?_ ?_); (rotate_left 12); (· exact Lq); (rotate_left 1); (iterate 3 (· exact Hq)))); simp (maxSteps := 9999999) only [push_cast, seval, ↓reduceIte, hlt, zAJ hx, zAJ hy, hp, hq, undef, zb (i := i) (n := xs.length) (by omega) (by omega)]) | ((first | with_reducible refine hJ _ _ ?_ | (with_reducible refine hJ _ _ ?_ ?_; · kernel_rfl)); clear hJ hKC KC J) | ((with_reducible refine zF ?_ ?_); · rfl) | ((with_reducible refine zH ?_ ?_); · rfl)
    refine ⟨⟨i + 1, by omega, fun j x' y' hj h1 h2 => ?_⟩, by simp only; omega, ?_, ⟨_, rfl⟩⟩
    ·by_cases hji : j = i
     ·subst hji
      rw [hx] at h1; rw [hy] at h2
      cases h1; cases h2; exact hpv
     ·exact hn j x' y' (by omega) h1 h2
    ·exact Lq
  ·skip
   repeat' first | (with_reducible first | refine zA ?_ | refine zB ?_ | refine zX ?_ | refine zW ?_ | refine zI ?_ | refine zQ ?_) | ((with_reducible refine zC fun KC J hJ hKC => ?_); simp (maxSteps := 9999999) only [push_cast, seval, ↓reduceIte, hlt]) | ((with_reducible refine hJ _ _ ?_); clear hJ hKC KC J) | ((with_reducible refine zH ?_ ?_); · rfl)
   refine zE ?_
   simp (maxSteps := 9999999) only [push_cast, seval, ↓reduceIte, show Tryz.f185.results = #[(.tmp 8)] from rfl]
   rw [zFK hl (fun j x y h1 h2 => hn j x y (by have := (List.getElem?_eq_some_iff.1 h1).1; omega) h1 h2)]
   exact zN _
 ·have hl' : ((xs.length : Int) != (ys.length : Int)) = true := by simp; omega
  repeat' first | (with_reducible first | refine zA ?_ | refine zB ?_ | refine zS ?_ | refine zI ?_) | ((with_reducible refine zC fun KC J hJ hKC => ?_); simp (maxSteps := 9999999) only [push_cast, seval, ↓reduceIte, hl']) | ((with_reducible refine hJ _ _ ?_); clear hJ hKC KC J) | ((with_reducible refine zF ?_ ?_); · rfl)
  refine zE ?_
  simp (maxSteps := 9999999) only [push_cast, seval, ↓reduceIte, show Tryz.f185.results = #[(.tmp 8)] from rfl]
  rw [zFJ hl]
  exact zN _
set_option maxHeartbeats 2000000 in
theorem zBi (f g fa fb : Bool) (ns : List ByteArray) (us : List Nat) (o : Nat) (xs ys : List (Int × Int × Int)) (hu : U32 us) (ho : o ≤ 1000) (hb : xs.length ≤ 1000) (hxo : ∀ x ∈ xs, zn us.length x.2.2 = false) :
  Fn Tryz.prog 182 [.agg [.sl f 1 (zM ns), .sl g 1 (zL us)], .v (.int .i64 (o : Int)), .sl fa 3 (zh xs), .sl fb 3 (zh ys)] [] (.v (.bool (zCG (alI us o) xs ys))) [] := by
 refine Fn.of (fn := Tryz.f182) (by kernel_rfl) rfl (by kernel_rfl) ⟨[.agg [.sl f 1 (zM ns), .sl g 1 (zL us)], .v (.int .i64 (o : Int)), .sl fa 3 (zh xs), .sl fb 3 (zh ys), .v undef, .v undef, .v undef, .v undef, .v undef, .v undef, .v undef, .v undef, .v undef, .v undef, .v undef, .v undef, .v undef, .v undef, .v undef, .v undef, .v undef, .v undef, .v undef, .v undef, .v undef, .v undef, .v undef, .v undef, .v undef, .v undef, .v undef, .v undef, .v undef, .v undef, .v undef, .v undef, .v undef, .v undef, .v undef, .v undef, .v undef, .v undef, .v undef, .v undef, .v undef, .v undef, .v undef, .v undef, .v undef, .v undef, .v undef, .v undef, .v undef, .v undef, .v undef, .v undef, .v undef, .v undef], []⟩ rfl ?_
 by_cases hl : xs.length = ys.length
 ·have hl' : ((xs.length : Int) != (ys.length : Int)) = false := by simp [hl]
  repeat' first | (with_reducible first | refine zA ?_ | refine zB ?_ | refine zJ ?_ | refine zG ?_) | ((with_reducible refine zC fun KC J hJ hKC => ?_); simp (maxSteps := 9999999) only [push_cast, seval, ↓reduceIte, hl']) | ((with_reducible refine hJ _ _ ?_); clear hJ hKC KC J) | ((with_reducible refine zH ?_ ?_); · rfl)
  refine zi 1 (γ := {i : Nat // i ≤ xs.length ∧ ∀ (j : Nat) (x y : Int × Int × Int), j < i → xs[j]? = some x → ys[j]? = some y → alI us o x y = true}) (fun i => ⟨[.any, .v (.int .i64 (o : Int)), .sl fa 3 (zh xs), .sl fb 3 (zh ys), .ptr 0 0 0, .any, .any, .any, .any, .any, .any, .any, .any, .any, .any, .any, .any, .sl fa 3 (zh xs), .v (.int .i64 xs.length), .v (.int .i64 i.1), .any, .any, .any, .any, .any, .any, .any, .any, .any, .any, .any, .any, .any, .any, .any, .any, .any, .any, .any, .any, .any, .any, .any, .any, .any, .any, .any, .any, .any, .any, .any, .any, .any, .any, .any, .any, .any, .any], [.ent ⟨0, none, 25, [.sl f 1 (zM ns), .sl g 1 (zL us)], .cells⟩]⟩) (fun i => xs.length - i.1) ⟨0, by omega, fun j x y h => by omega⟩ (fun i => rfl) (fun i => rfl) (fun i => rfl) ⟨?_, Fq⟩ ?_
  ·exact Lq
  rintro ⟨i, hi, hn⟩
  by_cases hlt : (i : Int) < (xs.length : Int)
  ·have hx : xs[i]? = some xs[i] := List.getElem?_eq_getElem (by omega)
   have hy : ys[i]? = some ys[i] := List.getElem?_eq_getElem (by omega)
   obtain ⟨x, hx0⟩ : ∃ x, xs[i] = x := ⟨_, rfl⟩
   obtain ⟨y, hy0⟩ : ∃ y, ys[i] = y := ⟨_, rfl⟩
   obtain ⟨a, ha, han⟩ := zAP (hxo x (by rw [← hx0]; exact List.getElem_mem (by omega)))
   rw [hx0] at hx
   rw [hy0] at hy
   obtain ⟨p, v, l⟩ := x
   simp only at ha
   subst ha
   have h1 := zz f g ns us o a hu han ho
   obtain ⟨b1, hb1⟩ : ∃ b, (p != y.1) = b := ⟨_, rfl⟩
   obtain ⟨b2, hb2⟩ : ∃ b, ((a : Int) != y.2.2) = b := ⟨_, rfl⟩
   obtain ⟨b3, hb3⟩ : ∃ b, (v != y.2.1) = b := ⟨_, rfl⟩
   obtain ⟨b4, hb4⟩ : ∃ b, (p != 1) = b := ⟨_, rfl⟩
   obtain ⟨b5, hb5⟩ : ∃ b, fl us a o = b := ⟨_, rfl⟩
   have hal : alI us o (p, v, (a : Int)) y = ((!b1 && (!b4 || !b3)) && (!b2 && (!b5 || !b3))) := by
    rw [alI, zME, zNQ, Int.toNat_natCast, hb5, ← hb1, ← hb2, ← hb3, ← hb4]
    simp only [bne, Bool.not_not]
   rw [hb5] at h1
   rcases b1 with _ | _
   rcases b2 with _ | _
   rcases b3 with _ | _
   ·have hpv : alI us o (p, v, (a : Int)) y = true := by rw [hal]; simp
    repeat' first | (with_reducible first | refine zA ?_ | refine zB ?_ | refine zO ?_ | refine zJ ?_ | refine zG ?_) | ((with_reducible refine And.intro ?_ ?_); · exact Sq) | ((with_reducible refine zC fun KC J hJ hKC => ?_); simp (maxSteps := 9999999) only [push_cast, seval, ↓reduceIte, hlt, zAp hx, zAp hy, hb1, hb2, hb3, undef, zb (i := i) (n := xs.length) (by omega) (by omega)]) | ((with_reducible refine hJ _ _ ?_); clear hJ hKC KC J) | ((with_reducible refine zF ?_ ?_); · rfl) | ((with_reducible refine zH ?_ ?_); · rfl)
    refine ⟨⟨i + 1, by omega, fun j x' y' hj h1 h2 => ?_⟩, by simp only; omega, ?_, ⟨_, rfl⟩⟩
    ·by_cases hji : j = i
     ·subst hji
      rw [hx] at h1; rw [hy] at h2
      cases h1; cases h2; exact hpv
     ·exact hn j x' y' (by omega) h1 h2
    ·exact Lq
   rcases b4 with _ | _
   rcases b5 with _ | _
   ·have hpv : alI us o (p, v, (a : Int)) y = true := hal
    repeat' first | (with_reducible first | refine zA ?_ | refine zB ?_ | refine zO ?_ | refine zJ ?_ | refine zG ?_) | ((with_reducible refine And.intro ?_ ?_); · exact Sq) | ((first | with_reducible refine zC fun KC J hJ hKC => ?_ | (refine' hKC _ _ _ _ _ (zD (zz _ _ _ _ _ _ ?_ ?_ ?_) rfl rfl rfl ?_ ?_); (rotate_left 9); (· exact Lq); (rotate_left 1); (iterate 3 (· exact Hq)))); simp (maxSteps := 9999999) only [push_cast, seval, ↓reduceIte, hlt, zAp hx, zAp hy, hb1, hb2, hb3, hb4, hb5, undef, zb (i := i) (n := xs.length) (by omega) (by omega)]) | ((with_reducible refine hJ _ _ ?_); clear hJ hKC KC J) | ((with_reducible refine zF ?_ ?_); · rfl) | ((with_reducible refine zH ?_ ?_); · rfl)
    refine ⟨⟨i + 1, by omega, fun j x' y' hj h1 h2 => ?_⟩, by simp only; omega, ?_, ⟨_, rfl⟩⟩
    ·by_cases hji : j = i
     ·subst hji
      rw [hx] at h1; rw [hy] at h2
      cases h1; cases h2; exact hpv
     ·exact hn j x' y' (by omega) h1 h2
    ·exact Lq
   all_goals
    have hpv : alI us o (p, v, (a : Int)) y = false := by rw [hal]; simp
    repeat' first | (with_reducible first | refine zA ?_ | refine zB ?_ | refine zS ?_ | refine zg ?_ | refine zI ?_ | refine zJ ?_ | refine zG ?_) | ((with_reducible refine And.intro ?_ ?_); · exact Sq) | ((first | with_reducible refine zC fun KC J hJ hKC => ?_ | (refine' hKC _ _ _ _ _ (zD (zz _ _ _ _ _ _ ?_ ?_ ?_) rfl rfl rfl ?_ ?_); (rotate_left 9); (· exact Lq); (rotate_left 1); (iterate 3 (· exact Hq)))); simp (maxSteps := 9999999) only [push_cast, seval, ↓reduceIte, hlt, zAp hx, zAp hy, hb1, hb2, hb3, hb4, hb5, undef]) | ((with_reducible refine hJ _ _ ?_); clear hJ hKC KC J) | ((with_reducible refine zF ?_ ?_); · rfl) | ((with_reducible refine zH ?_ ?_); · rfl)
    refine zE ?_
    simp (maxSteps := 9999999) only [push_cast, seval, ↓reduceIte, show Tryz.f182.results = #[(.tmp 8)] from rfl]
    rw [zGf hx hy hpv]
    exact zN _
  ·skip
   repeat' first | (with_reducible first | refine zA ?_ | refine zB ?_ | refine zX ?_ | refine zW ?_ | refine zI ?_ | refine zQ ?_) | ((with_reducible refine zC fun KC J hJ hKC => ?_); simp (maxSteps := 9999999) only [push_cast, seval, ↓reduceIte, hlt]) | ((with_reducible refine hJ _ _ ?_); clear hJ hKC KC J) | ((with_reducible refine zH ?_ ?_); · rfl)
   refine zE ?_
   simp (maxSteps := 9999999) only [push_cast, seval, ↓reduceIte, show Tryz.f182.results = #[(.tmp 8)] from rfl]
   rw [zEz hl (fun j x y h1 h2 => hn j x y (by have := (List.getElem?_eq_some_iff.1 h1).1; omega) h1 h2)]
   exact zN _
 ·have hl' : ((xs.length : Int) != (ys.length : Int)) = true := by simp; omega
  repeat' first | (with_reducible first | refine zA ?_ | refine zB ?_ | refine zS ?_ | refine zI ?_) | ((with_reducible refine zC fun KC J hJ hKC => ?_); simp (maxSteps := 9999999) only [push_cast, seval, ↓reduceIte, hl']) | ((with_reducible refine hJ _ _ ?_); clear hJ hKC KC J) | ((with_reducible refine zF ?_ ?_); · rfl)
  refine zE ?_
  simp (maxSteps := 9999999) only [push_cast, seval, ↓reduceIte, show Tryz.f182.results = #[(.tmp 8)] from rfl]
  rw [zFE hl]
  exact zN _
def zLB {α : Type} (p : α → Bool) : List α → Nat
 | [] => 0
 | x :: r => if p x = true then r.length + 1 else zLB p r
def zDf {α : Type} (p : α → Bool) (l : List α) : Nat := zLB p l.reverse
theorem zMN {α : Type} (p : α → Bool) (l : List α) (x : α) : zDf p (l ++ [x]) = if p x = true then l.length + 1 else zDf p l := by
 simp [zDf, zLB]
theorem zIn {α : Type} {p : α → Bool} {l : List α} {i : Nat} {x : α} (h : l[i]? = some x) : zDf p (l.take (i + 1)) = if p x = true then i + 1 else zDf p (l.take i) := by
 obtain ⟨hi, rfl⟩ := List.getElem?_eq_some_iff.1 h
 rw [List.take_succ_eq_append_getElem hi, zMN, List.length_take, Nat.min_eq_left (by omega)]
theorem zLa {α : Type} (p : α → Bool) : ∀ l : List α, zLB p l ≤ l.length
 | [] => Nat.le_refl _
 | x :: r => by
  have := zLa p r
  unfold zLB
  split <;> simp only [List.length_cons] <;> omega
theorem zHx {α : Type} (p : α → Bool) (l : List α) : zDf p l ≤ l.length := by
 have := zLa p l.reverse
 simpa [zDf] using this
def zDY (us : List Nat) (o : Nat) (x : Bool × Int × Int) : Bool := x.1 && fl us x.2.2.toNat o
def zAV (us : List Nat) (o : Nat) (s : List (Bool × Int × Int)) : List (Bool × Int × Int) := s.take (zDf (zDY us o) s)
theorem zRn {i : Nat} (h : i ≤ 1000000) : IntKind.i64.wrap ((i : Int) - 1) = (i : Int) - 1 := by rw [IntKind.wrap_i64]; omega
set_option maxHeartbeats 4000000 in
theorem zHO (f g fa : Bool) (ns : List ByteArray) (us : List Nat) (o : Nat) (s : List (Bool × Int × Int)) (hs : Szs ns) (hu : U32 us) (hc : zq ns us = 0) (ho : o < us.length) (hb : s.length ≤ 1000) (hx : ∀ x ∈ s, zn us.length x.2.2 = false) :
  Fn Tryz.prog 114 [.agg [.sl f 1 (zM ns), .sl g 1 (zL us), .v (.int .i64 (o : Int))], .sl fa 3 (zc s)] [] (.sl false 3 (zc (zAV us o s))) [] := by
 have hw := zRn (i := s.length) (by omega)
 refine Fn.of (fn := Tryz.f114) (by kernel_rfl) rfl (by kernel_rfl) ⟨[.agg [.sl f 1 (zM ns), .sl g 1 (zL us), .v (.int .i64 (o : Int))], .sl fa 3 (zc s), .v undef, .v undef, .v undef, .v undef, .v undef, .v undef, .v undef, .v undef, .v undef, .v undef, .v undef, .v undef, .v undef, .v undef, .v undef, .v undef, .v undef, .v undef, .v undef, .v undef, .v undef, .v undef, .v undef, .v undef, .v undef, .v undef, .v undef, .v undef, .v undef], []⟩ rfl ?_
 repeat' first | (with_reducible first | refine zA ?_ | refine zB ?_ | refine zG ?_) | ((with_reducible refine zC fun KC J hJ hKC => ?_); simp (maxSteps := 9999999) only [push_cast, seval, ↓reduceIte, hw]) | ((with_reducible refine hJ _ _ ?_); clear hJ hKC KC J)
 refine zi 1 (γ := {i : Nat // i ≤ s.length ∧ zDf (zDY us o) s = zDf (zDY us o) (s.take i)}) (fun i => ⟨[.any, .sl fa 3 (zc s), .ptr 0 0 0, .any, .v (.slice none 0 0), .v (.int .i64 ((i.1 : Int) - 1)), .any, .any, .any, .any, .any, .any, .any, .any, .any, .any, .any, .any, .any, .any, .any, .any, .any, .any, .any, .any, .any, .any, .any, .any, .any], [.ent ⟨0, none, 168, [.sl f 1 (zM ns), .sl g 1 (zL us), .v (.int .i64 (o : Int))], .cells⟩]⟩) (fun i => i.1) ⟨s.length, by simp⟩ (fun i => rfl) (fun i => zr rfl) (fun i => rfl) ⟨?_, Fq⟩ ?_
 ·exact Lq
 rintro ⟨i, hi, hk⟩
 rcases i with _ | j
 ·skip
  repeat' first | (with_reducible first | refine zA ?_ | refine zB ?_ | refine zX ?_ | refine zW ?_ | refine zI ?_ | refine zQ ?_) | ((with_reducible refine zC fun KC J hJ hKC => ?_); simp (maxSteps := 9999999) only [push_cast, seval, ↓reduceIte, (show decide ((0 : Int) ≤ ((0 : Nat) : Int) - 1) = false from rfl)]) | ((with_reducible refine hJ _ _ ?_); clear hJ hKC KC J) | ((with_reducible refine zH ?_ ?_); · rfl)
  refine zE ?_
  simp (maxSteps := 9999999) only [push_cast, seval, ↓reduceIte, show Tryz.f114.results = #[(.tmp 4)] from rfl]
  rw [zAV, hk]
  exact zKY
 ·have hj : (((j + 1 : Nat) : Int) - 1) = (j : Int) := by omega
  have hj0 : decide ((0 : Int) ≤ (j : Int)) = true := decide_eq_true (by omega)
  have hx1 : s[j]? = some s[j] := List.getElem?_eq_getElem (by omega)
  have hxm := hx s[j] (List.getElem_mem (by omega))
  obtain ⟨⟨r, v, l⟩, hr0⟩ : ∃ r, s[j] = r := ⟨_, rfl⟩
  rw [hr0] at hx1 hxm
  obtain ⟨a, ha, hal⟩ := zAP hxm
  simp only at ha
  subst ha
  have hse := zAy f g ns us a o hs hu hc hal ho
  obtain ⟨z, hz⟩ : ∃ z, fl us a o = z := ⟨_, rfl⟩
  rw [hz] at hse
  have hst := zIn (p := zDY us o) hx1
  have hsf : zDY us o (r, v, (a : Int)) = (r && z) := by rw [zDY, Int.toNat_natCast, hz]
  rw [hsf] at hst
  have hwj := zRn (i := j) (by omega)
  simp only [hj]
  cases r
  case false =>
   repeat' first | (with_reducible first | refine zA ?_ | refine zB ?_ | refine zO ?_ | refine zJ ?_ | refine zG ?_) | ((with_reducible refine And.intro ?_ ?_); · exact Sq) | ((first | with_reducible refine zC fun KC J hJ hKC => ?_ | with_reducible refine zU rfl fun KC J hJ hKC => ?_); simp (maxSteps := 9999999) only [push_cast, seval, ↓reduceIte, hj0, zAJ hx1, hz, hwj, undef]) | ((first | with_reducible refine hJ _ _ ?_ | (with_reducible refine hJ _ _ ?_ ?_; · kernel_rfl)); clear hJ hKC KC J) | ((with_reducible refine zF ?_ ?_); · rfl) | ((with_reducible refine zH ?_ ?_); · rfl)
   refine ⟨⟨j, by omega, by rw [hk, hst]; rfl⟩, by simp only; omega, ?_, ⟨_, rfl⟩⟩
   exact Lq
  cases z
  case false =>
   repeat' first | (with_reducible first | refine zA ?_ | refine zB ?_ | refine zO ?_ | refine zJ ?_ | refine zG ?_) | ((with_reducible refine And.intro ?_ ?_); · exact Sq) | ((first | with_reducible refine zC fun KC J hJ hKC => ?_ | with_reducible refine zU rfl fun KC J hJ hKC => ?_ | (refine' hKC _ _ _ _ _ (zD (zAy _ _ _ _ _ _ ?_ ?_ ?_ ?_ ?_) rfl rfl rfl ?_ ?_); (rotate_left 11); (· exact Lq); (rotate_left 1); (iterate 5 (· exact Hq)))); simp (maxSteps := 9999999) only [push_cast, seval, ↓reduceIte, hj0, zAJ hx1, hz, hwj, undef]) | ((first | with_reducible refine hJ _ _ ?_ | (with_reducible refine hJ _ _ ?_ ?_; · kernel_rfl)); clear hJ hKC KC J) | ((with_reducible refine zF ?_ ?_); · rfl) | ((with_reducible refine zH ?_ ?_); · rfl)
   refine ⟨⟨j, by omega, by rw [hk, hst]; rfl⟩, by simp only; omega, ?_, ⟨_, rfl⟩⟩
   exact Lq
  have hcr : zAV us o s = s.take (j + 1) := by rw [zAV, hk, hst]; rfl
  repeat' first | (with_reducible first | refine zA ?_ | refine zB ?_ | refine zS ?_ | refine zg ?_ | refine zI ?_ | refine zJ ?_ | refine zG ?_) | ((with_reducible refine And.intro ?_ ?_); · exact Sq) | ((first | with_reducible refine zC fun KC J hJ hKC => ?_ | with_reducible refine zU rfl fun KC J hJ hKC => ?_ | (refine' hKC _ _ _ _ _ (zD (zAy _ _ _ _ _ _ ?_ ?_ ?_ ?_ ?_) rfl rfl rfl ?_ ?_); (rotate_left 11); (· exact Lq); (rotate_left 1); (iterate 5 (· exact Hq)))); simp (maxSteps := 9999999) only [push_cast, seval, ↓reduceIte, hj0, zAJ hx1, hz, zb (i := j) (n := s.length) (by omega) (by omega), undef]) | ((first | with_reducible refine hJ _ _ ?_ | (with_reducible refine hJ _ _ ?_ ?_; · kernel_rfl)); clear hJ hKC KC J) | ((with_reducible refine zF ?_ ?_); · rfl)
  refine zE ?_
  simp (maxSteps := 9999999) only [push_cast, seval, ↓reduceIte, show Tryz.f114.results = #[(.tmp 4)] from rfl]
  rw [hcr]
  exact zN _
set_option maxHeartbeats 4000000 in
theorem zFq (f g fa : Bool) (ns : List ByteArray) (us : List Nat) (o : Nat) (s : List (Bool × Int × Int)) (hu : U32 us) (ho : o ≤ 1000) (hb : s.length ≤ 1000) (hx : ∀ x ∈ s, zn us.length x.2.2 = false) :
  Fn Tryz.prog 89 [.agg [.sl f 1 (zM ns), .sl g 1 (zL us)], .v (.int .i64 (o : Int)), .sl fa 3 (zc s)] [] (.sl false 3 (zc (zAV us o s))) [] := by
 refine Fn.of (fn := Tryz.f89) (by kernel_rfl) rfl (by kernel_rfl) ⟨[.agg [.sl f 1 (zM ns), .sl g 1 (zL us)], .v (.int .i64 (o : Int)), .sl fa 3 (zc s), .v undef, .v undef, .v undef, .v undef, .v undef, .v undef, .v undef, .v undef, .v undef, .v undef, .v undef, .v undef, .v undef, .v undef, .v undef, .v undef, .v undef, .v undef, .v undef, .v undef, .v undef, .v undef, .v undef, .v undef, .v undef, .v undef, .v undef, .v undef, .v undef], []⟩ rfl ?_
 repeat' first | (with_reducible first | refine zA ?_ | refine zB ?_ | refine zG ?_) | ((with_reducible refine zC fun KC J hJ hKC => ?_); simp (maxSteps := 9999999) only [push_cast, seval, ↓reduceIte]) | ((with_reducible refine hJ _ _ ?_); clear hJ hKC KC J)
 refine zi 1 (γ := {i : Nat // i ≤ s.length}) (fun i => ⟨[.any, .v (.int .i64 (o : Int)), .sl fa 3 (zc s), .ptr 0 0 0, .any, .any, .any, .v (.int .i64 (zDf (zDY us o) (s.take i.1))), .any, .any, .sl fa 3 (zc s), .v (.int .i64 s.length), .v (.int .i64 i.1), .any, .any, .any, .any, .any, .any, .any, .any, .any, .any, .any, .any, .any, .any, .any, .any, .any, .any, .any], [.ent ⟨0, none, 25, [.sl f 1 (zM ns), .sl g 1 (zL us)], .cells⟩]⟩) (fun i => s.length - i.1) ⟨0, by simp⟩ (fun i => rfl) (fun i => zr rfl) (fun i => rfl) ⟨?_, Fq⟩ ?_
 ·exact Lq
 rintro ⟨i, hi⟩
 by_cases hlt : (i : Int) < (s.length : Int)
 ·have hx1 : s[i]? = some s[i] := List.getElem?_eq_getElem (by omega)
  have hxm := hx s[i] (List.getElem_mem (by omega))
  obtain ⟨⟨r, v, l⟩, hr0⟩ : ∃ r, s[i] = r := ⟨_, rfl⟩
  rw [hr0] at hx1 hxm
  obtain ⟨a, ha, hal⟩ := zAP hxm
  simp only at ha
  subst ha
  have hse := zz f g ns us o a hu hal ho
  obtain ⟨z, hz⟩ : ∃ z, fl us a o = z := ⟨_, rfl⟩
  rw [hz] at hse
  have hst := zIn (p := zDY us o) hx1
  have hsf : zDY us o (r, v, (a : Int)) = (r && z) := by rw [zDY, Int.toNat_natCast, hz]
  rw [hsf] at hst
  have hwi := zb (i := i) (n := s.length) (by omega) (by omega)
  simp only
  obtain ⟨k, hk⟩ : ∃ k, zDf (zDY us o) (s.take i) = k := ⟨_, rfl⟩
  rw [hk] at hst ⊢
  cases r
  case false =>
   repeat' first | (with_reducible first | refine zA ?_ | refine zB ?_ | refine zO ?_ | refine zJ ?_ | refine zG ?_) | ((with_reducible refine And.intro ?_ ?_); · exact Sq) | ((with_reducible refine zC fun KC J hJ hKC => ?_); simp (maxSteps := 9999999) only [push_cast, seval, ↓reduceIte, hlt, zAJ hx1, hz, hwi, undef]) | ((with_reducible refine hJ _ _ ?_); clear hJ hKC KC J) | ((with_reducible refine zF ?_ ?_); · rfl) | ((with_reducible refine zH ?_ ?_); · rfl)
   refine ⟨⟨i + 1, by omega⟩, by simp only; omega, ?_, ⟨_, rfl⟩⟩
   simp only [hst]
   exact Lq
  cases z
  case false =>
   repeat' first | (with_reducible first | refine zA ?_ | refine zB ?_ | refine zO ?_ | refine zJ ?_ | refine zG ?_) | ((with_reducible refine And.intro ?_ ?_); · exact Sq) | ((first | with_reducible refine zC fun KC J hJ hKC => ?_ | (refine' hKC _ _ _ _ _ (zD (zz _ _ _ _ _ _ ?_ ?_ ?_) rfl rfl rfl ?_ ?_); (rotate_left 9); (· exact Lq); (rotate_left 1); (iterate 3 (· exact Hq)))); simp (maxSteps := 9999999) only [push_cast, seval, ↓reduceIte, hlt, zAJ hx1, hz, hwi, undef]) | ((with_reducible refine hJ _ _ ?_); clear hJ hKC KC J) | ((with_reducible refine zF ?_ ?_); · rfl) | ((with_reducible refine zH ?_ ?_); · rfl)
   refine ⟨⟨i + 1, by omega⟩, by simp only; omega, ?_, ⟨_, rfl⟩⟩
   simp only [hst]
   exact Lq
  repeat' first | (with_reducible first | refine zA ?_ | refine zB ?_ | refine zO ?_ | refine zJ ?_ | refine zG ?_) | ((with_reducible refine And.intro ?_ ?_); · exact Sq) | ((first | with_reducible refine zC fun KC J hJ hKC => ?_ | (refine' hKC _ _ _ _ _ (zD (zz _ _ _ _ _ _ ?_ ?_ ?_) rfl rfl rfl ?_ ?_); (rotate_left 9); (· exact Lq); (rotate_left 1); (iterate 3 (· exact Hq)))); simp (maxSteps := 9999999) only [push_cast, seval, ↓reduceIte, hlt, zAJ hx1, hz, hwi, undef]) | ((with_reducible refine hJ _ _ ?_); clear hJ hKC KC J) | ((with_reducible refine zF ?_ ?_); · rfl)
  refine ⟨⟨i + 1, by omega⟩, by simp only; omega, ?_, ⟨_, rfl⟩⟩
  simp only [hst]
  exact Lq
 ·have hin : i = s.length := by omega
  subst hin
  rw [List.take_length]
  have hle := zHx (zDY us o) s
  obtain ⟨k, hk⟩ : ∃ k, zDf (zDY us o) s = k := ⟨_, rfl⟩
  have hcr : zAV us o s = s.take k := by rw [zAV, hk]
  rw [hcr]
  rw [hk] at hle ⊢
  repeat' first | (with_reducible first | refine zA ?_ | refine zB ?_ | refine zX ?_ | refine zW ?_ | refine zI ?_ | refine zQ ?_) | ((with_reducible refine And.intro ?_ ?_); · exact Sq) | ((with_reducible refine zC fun KC J hJ hKC => ?_); simp (maxSteps := 9999999) only [push_cast, seval, ↓reduceIte, hlt]) | ((with_reducible refine hJ _ _ ?_); clear hJ hKC KC J) | ((with_reducible refine zH ?_ ?_); · rfl)
  refine zE ?_
  simp (maxSteps := 9999999) only [push_cast, seval, ↓reduceIte, show Tryz.f89.results = #[(.tmp 6)] from rfl]
  exact zN _
theorem zBV {α : Type} {K : Int} {k : Nat} (h : K = k) (l : List α) : l.take (if K < (l.length : Int) then K else (l.length : Int)).toNat = l.take k := by
 subst h
 split
 ·simp
 ·rw [Int.toNat_natCast, List.take_length, List.take_of_length_le (by omega)]
def zHi (s : ByteArray) : ByteArray := s.extract 0 (if (15 : Int) < (s.size : Int) then 15 else (s.size : Int)).toNat
def zEP (xs : List ByteArray) (i : Nat) : List ByteArray := (xs.take i).map zHi
theorem zEI {xs : List ByteArray} {i : Nat} (h : i ≤ xs.length) : (zEP xs i).length = i := by simp [zEP]; omega
theorem zJo {xs : List ByteArray} {i : Nat} {a : ByteArray} (h : xs[i]? = some a) : zEP xs (i + 1) = zEP xs i ++ [zHi a] := by
 obtain ⟨hi, rfl⟩ := List.getElem?_eq_some_iff.1 h
 rw [zEP, List.take_succ_eq_append_getElem hi, List.map_append]; rfl
def fσ (e1 e2 : Ent) (u : D) (xs : List ByteArray) : Nat → List Slot
 | 0 => [.ent e1, .ent e2, .ent ⟨0, none, 25, [.v (.slice none 0 0), u], .cells⟩]
 | i + 1 => [.ent e1, .ent e2, .ent ⟨0, none, 25, [.ref 4 i (i + 1), u], .cells⟩, .free, .ent ⟨i, some 1, 9, zCk (zEP xs (i + 1)), .cells⟩]
section
variable (e1 e2 : Ent) (u : D) (xs : List ByteArray)
theorem zNf : fσ e1 e2 u xs 0 = [.ent e1, .ent e2, .ent ⟨0, none, 25, [.v (.slice none 0 0), u], .cells⟩] := rfl
theorem zKk {i j : Nat} (h : i = j + 1) : fσ e1 e2 u xs i = [.ent e1, .ent e2, .ent ⟨0, none, 25, [.ref 4 j i, u], .cells⟩, .free, .ent ⟨j, some 1, 9, zCk (zEP xs i), .cells⟩] := by subst h; rfl
theorem zSU {a : ByteArray} (h : xs[0]? = some a) : fσ e1 e2 u xs (0 + 1) = [.ent e1, .ent e2, .ent ⟨0, none, 25, [.ref 4 0 1, u], .cells⟩, .free, .ent ⟨0, some 1, 9, [.v (.string (zHi a))], .cells⟩] := by
 rw [zKk e1 e2 u xs rfl, zJo h]; rfl
theorem zQk {i j : Nat} (h : i = j + 1) {a : ByteArray} (hx : xs[i]? = some a) : fσ e1 e2 u xs (i + 1) = [.ent e1, .ent e2, .ent ⟨0, none, 25, [.ref 4 (j + 1) (i + 1), u], .cells⟩, .free, .ent ⟨j + 1, some 1, 9, zCk (zEP xs i) ++ [.v (.string (zHi a))], .cells⟩] := by
 rw [zKk e1 e2 u xs rfl, zJo hx, h]; simp [zCk]
end
theorem zOH (s : ByteArray) : (zHi s).size ≤ 9223372036854775807 := by
 unfold zHi
 rw [ByteArray.size_extract]
 split <;> omega
theorem zRS (ns : List ByteArray) : Szs ((ns.take 10).map zHi) := by
 intro s hs
 obtain ⟨x, _, rfl⟩ := List.mem_map.1 hs
 exact zOH x
theorem zRM {us : List Nat} (h : U32 us) : U32 (us.take 10) := fun u hu => h u (List.mem_of_mem_take hu)
def sD (L : List (Int × Int)) : D := if L.length = 0 then .sl true 2 [] else .ref 4 (L.length - 1) L.length
def sσ (kb : Ent) (L : List (Int × Int)) : List Slot := if L.length = 0 then [.ent kb] else [.ent kb, .dead, .dead, .dead, .ent ⟨L.length - 1, some 2, 34, zm L, .cells⟩]
theorem zJU (kb : Ent) (L : List (Int × Int)) : (L = [] ∧ sD L = .sl true 2 [] ∧ sσ kb L = [.ent kb]) ∨ (∃ j, L.length = j + 1 ∧ sD L = .ref 4 j (j + 1) ∧ sσ kb L = [.ent kb, .dead, .dead, .dead, .ent ⟨j, some 2, 34, zm L, .cells⟩]) := by
 cases L with
 | nil => exact .inl ⟨rfl, rfl, rfl⟩
 | cons x L => exact .inr ⟨L.length, rfl, rfl, rfl⟩
theorem zTO (kb : Ent) (L : List (Int × Int)) (x : Int × Int) : sD (L ++ [x]) = .ref 4 L.length (L.length + 1) ∧ sσ kb (L ++ [x]) = [.ent kb, .dead, .dead, .dead, .ent ⟨L.length, some 2, 34, zm L ++ [.v (.int .i64 x.1), .v (.int .i64 x.2)], .cells⟩] := by
 have hl : (L ++ [x]).length = L.length + 1 := by simp
 unfold sD sσ
 rw [hl, zII]
 exact ⟨rfl, rfl⟩
theorem zSQ (kb : Ent) (L : List (Int × Int)) : 1 ≤ (sσ kb L).length := by
 rcases zJU kb L with ⟨_, _, h⟩ | ⟨j, _, _, h⟩ <;> rw [h] <;> simp
theorem zRI {kb : Ent} (hk : ∀ m, kb.cells.map (ren m) = kb.cells) (L : List (Int × Int)) : zCc (sσ kb L) := by
 refine zr ?_
 rcases zJU kb L with ⟨_, _, h⟩ | ⟨j, _, _, h⟩
 all_goals
  rw [h]
  simp only [List.map_cons, List.map_nil, zT, hk, zu]
theorem zHb (f g fa : Bool) (ns : List ByteArray) (us : List Nat) (o : Nat) (a : List (Int × Int)) (hu : U32 us) (ho : o ≤ 1000) (hb : a.length ≤ 1000) (hxo : ∀ x ∈ a, zn us.length x.2 = false) :
  Fn Tryz.prog 260 [.agg [.sl f 1 (zM ns), .sl g 1 (zL us)], .v (.int .i64 (o : Int)), .sl fa 2 (zR a)] [] (.sl (a.filter (zAh us o)).isEmpty 2 (zR (a.filter (zAh us o)))) [] := by
 refine Fn.of (fn := Tryz.f260) (by kernel_rfl) rfl (by kernel_rfl) ⟨[.agg [.sl f 1 (zM ns), .sl g 1 (zL us)], .v (.int .i64 (o : Int)), .sl fa 2 (zR a), .v undef, .v undef, .v undef, .v undef, .v undef, .v undef, .v undef, .v undef, .v undef, .v undef, .v undef, .v undef, .v undef, .v undef, .v undef, .v undef, .v undef, .v undef, .v undef, .v undef, .v undef, .v undef, .v undef, .v undef, .v undef], []⟩ rfl ?_
 repeat' first | (with_reducible first | refine zA ?_ | refine zB ?_ | refine zS ?_ | refine zX ?_ | refine zO ?_ | refine zg ?_ | refine zW ?_ | refine zFW rfl ?_ | refine zI ?_ | refine zJ ?_ | refine zQ ?_ | refine zG ?_) | ((with_reducible refine And.intro ?_ ?_); · exact Sq) | ((first | with_reducible refine zC fun KC J hJ hKC => ?_ | with_reducible refine zU rfl fun KC J hJ hKC => ?_ | (refine' hKC _ _ _ _ _ (zD (zz _ _ _ _ _ _ ?_ ?_ ?_) rfl rfl rfl ?_ ?_); (rotate_left 9); (· exact Lq); (rotate_left 1); (iterate 3 (· exact Hq)))); simp (maxSteps := 9999999) only [push_cast, seval, ↓reduceIte]) | ((first | with_reducible refine hJ _ _ ?_ | (with_reducible refine hJ _ _ ?_ ?_; · kernel_rfl)); clear hJ hKC KC J) | ((with_reducible refine zF ?_ ?_); · rfl) | ((with_reducible refine zH ?_ ?_); · rfl) | ((with_reducible refine zAo (fun hs => ?_) (fun hs => ?_)) <;> (try simp only [Bool.not_eq_true, Bool.not_eq_false, Bool.not_eq_true', Bool.not_eq_false', Decidable.not_not, decide_eq_true_eq, decide_eq_false_iff_not] at hs) <;> (try simp (maxSteps := 9999999) only [push_cast, seval, ↓reduceIte, hs])) | (refine zs rfl (fun h => ?_) (fun h => ?_) <;> try simp only [decide_eq_true_eq, decide_eq_false_iff_not, Bool.not_eq_true', Bool.not_eq_false', beq_iff_eq, bne_iff_ne, ne_eq, Bool.not_eq_true, Bool.or_eq_true, Bool.and_eq_true, Bool.or_eq_false_iff, Bool.and_eq_false_imp, beq_eq_false_iff_ne, bne_eq_false_iff_eq] at h)
 refine zCR 1 (γ := {i : Nat // i ≤ a.length}) (fun i => ⟨[.any, .v (.int .i64 (o : Int)), .any, .ptr 0 0 0, .any, .any, .any, sD ((a.take i.1).filter (zAh us o)), .any, .any, .any, .sl fa 2 (zR a), .v (.int .i64 a.length), .v (.int .i64 i.1), .any, .any, .any, .any, .any, .any, .any, .any, .any, .any, .any, .any, .any, .any], sσ ⟨0, none, 25, [.sl f 1 (zM ns), .sl g 1 (zL us)], .cells⟩ ((a.take i.1).filter (zAh us o))⟩) (fun i => a.length - i.1) ⟨0, by omega⟩ rfl (fun i => zSQ _ _) (fun i => zRI (fun m => rfl) _) (fun i => ?_) ⟨?_, ?_⟩ ?_
 ·rcases zJU ⟨0, none, 25, [.sl f 1 (zM ns), .sl g 1 (zL us)], .cells⟩ ((a.take i.1).filter (zAh us o)) with ⟨_, hD, hσ⟩ | ⟨j, _, hD, hσ⟩
  all_goals
   simp only [hD, hσ]
   rfl
 ·simp only [List.take_zero, List.filter_nil, sD]
  exact Lq
 ·simp only [List.take_zero, List.filter_nil, sσ]
  exact Fq
 rintro ⟨i, hi⟩
 by_cases hlt : (i : Int) < (a.length : Int)
 ·have hx : a[i]? = some a[i] := List.getElem?_eq_getElem (by omega)
  obtain ⟨x, hx0⟩ : ∃ x, a[i] = x := ⟨_, rfl⟩
  obtain ⟨c, hc, hcn⟩ := zAP (hxo x (by rw [← hx0]; exact List.getElem_mem (by omega)))
  rw [hx0] at hx
  have hst : (a.take (i + 1)).filter (zAh us o) = (a.take i).filter (zAh us o) ++ (if zAh us o x = true then [x] else []) := by
   rw [List.take_succ_eq_append_getElem (by omega), List.filter_append, hx0]
   by_cases h : zAh us o x = true <;> simp [h]
  have hbl : ((a.take i).filter (zAh us o)).length ≤ 1000 := by
   have := List.length_filter_le (zAh us o) (a.take i)
   simp at this; omega
  obtain ⟨L, hL⟩ : ∃ L, (a.take i).filter (zAh us o) = L := ⟨_, rfl⟩
  rw [hL] at hst hbl
  simp only [hL]
  obtain ⟨v, l⟩ := x
  simp only at hc
  subst hc
  have h1 := zz f g ns us o c hu hcn ho
  have hk : zAh us o (v, (c : Int)) = fl us c o := by rw [zAh, Int.toNat_natCast]
  obtain ⟨z, hz⟩ : ∃ z, fl us c o = z := ⟨_, rfl⟩
  rw [hk, hz] at hst
  rw [hz] at h1
  cases z with
  | true =>
   rw [if_pos rfl] at hst
   obtain ⟨hD1, hσ1⟩ := zTO ⟨0, none, 25, [.sl f 1 (zM ns), .sl g 1 (zL us)], .cells⟩ L (v, (c : Int))
   rcases zJU ⟨0, none, 25, [.sl f 1 (zM ns), .sl g 1 (zL us)], .cells⟩ L with ⟨hL0, hD, hσ⟩ | ⟨q, hL0, hD, hσ⟩
   ·subst hL0
    repeat' first | (with_reducible first | refine zA ?_ | refine zB ?_ | refine zS ?_ | refine zX ?_ | refine zO ?_ | refine zg ?_ | refine zW ?_ | refine zFW rfl ?_ | refine zI ?_ | refine zJ ?_ | refine zQ ?_ | refine zG ?_) | ((with_reducible refine And.intro ?_ ?_); · exact Sq) | ((first | with_reducible refine zC fun KC J hJ hKC => ?_ | with_reducible refine zU rfl fun KC J hJ hKC => ?_ | (refine' hKC _ _ _ _ _ (zD (zz _ _ _ _ _ _ ?_ ?_ ?_) rfl rfl rfl ?_ ?_); (rotate_left 9); (· exact Lq); (rotate_left 1); (iterate 3 (· exact Hq))) | (refine hKC _ _ _ _ _ (zD (h1) rfl rfl rfl ?_ ?_); (· exact Lq))); simp (maxSteps := 9999999) only [push_cast, seval, ↓reduceIte, hlt, hD, hσ, zAK hx, hz, zb (i := i) (n := a.length) (by omega) (by omega)]) | ((first | with_reducible refine hJ _ _ ?_ | (with_reducible refine hJ _ _ ?_ ?_; · kernel_rfl)); clear hJ hKC KC J) | ((with_reducible refine zF ?_ ?_); · rfl) | ((with_reducible refine zH ?_ ?_); · rfl) | ((with_reducible refine zAo (fun hs => ?_) (fun hs => ?_)) <;> (try simp only [Bool.not_eq_true, Bool.not_eq_false, Bool.not_eq_true', Bool.not_eq_false', Decidable.not_not, decide_eq_true_eq, decide_eq_false_iff_not] at hs) <;> (try simp (maxSteps := 9999999) only [push_cast, seval, ↓reduceIte, hs, hlt, hD, hσ, zAK hx, hz, zb (i := i) (n := a.length) (by omega) (by omega)])) | (refine zs rfl (fun h => ?_) (fun h => ?_) <;> try simp only [decide_eq_true_eq, decide_eq_false_iff_not, Bool.not_eq_true', Bool.not_eq_false', beq_iff_eq, bne_iff_ne, ne_eq, Bool.not_eq_true, Bool.or_eq_true, Bool.and_eq_true, Bool.or_eq_false_iff, Bool.and_eq_false_imp, beq_eq_false_iff_ne, bne_eq_false_iff_eq] at h)
    refine ⟨⟨i + 1, by omega⟩, by simp only; omega, ?_, ?_⟩
    ·simp only [hst, hD1]
     exact Lq
    ·simp only [hst, hσ1]
     exact ⟨[_, _, _, _, _], _, rfl, .inr (.inl rfl), .inl rfl, .inl rfl, .inl rfl, .inr (.inl rfl), trivial⟩
   ·have hlC : (zm L).length = (q + 1) * 2 := by rw [zBm, hL0]
    have htC : (zm L).take ((q + 1) * 2) = zm L := List.take_of_length_le (by omega)
    have hbm : Nat.beq q q = true := Nat.beq_refl q
    rw [hL0] at hD1 hσ1
    repeat' first | (with_reducible first | refine zA ?_ | refine zB ?_ | refine zS ?_ | refine zX ?_ | refine zO ?_ | refine zg ?_ | refine zW ?_ | refine zFW rfl ?_ | refine zI ?_ | refine zJ ?_ | refine zQ ?_ | refine zG ?_) | ((with_reducible refine And.intro ?_ ?_); · exact Sq) | ((first | with_reducible refine zC fun KC J hJ hKC => ?_ | with_reducible refine zU rfl fun KC J hJ hKC => ?_ | (refine' hKC _ _ _ _ _ (zD (zz _ _ _ _ _ _ ?_ ?_ ?_) rfl rfl rfl ?_ ?_); (rotate_left 9); (· exact Lq); (rotate_left 1); (iterate 3 (· exact Hq))) | (refine hKC _ _ _ _ _ (zD (h1) rfl rfl rfl ?_ ?_); (· exact Lq))); simp (maxSteps := 9999999) only [push_cast, seval, ↓reduceIte, hlt, hD, hσ, zAK hx, hz, hlC, htC, hbm, zb (i := i) (n := a.length) (by omega) (by omega)]) | ((first | with_reducible refine hJ _ _ ?_ | (with_reducible refine hJ _ _ ?_ ?_; · kernel_rfl)); clear hJ hKC KC J) | ((with_reducible refine zF ?_ ?_); · rfl) | ((with_reducible refine zH ?_ ?_); · rfl) | ((with_reducible refine zAo (fun hs => ?_) (fun hs => ?_)) <;> (try simp only [Bool.not_eq_true, Bool.not_eq_false, Bool.not_eq_true', Bool.not_eq_false', Decidable.not_not, decide_eq_true_eq, decide_eq_false_iff_not] at hs) <;> (try simp (maxSteps := 9999999) only [push_cast, seval, ↓reduceIte, hs, hlt, hD, hσ, zAK hx, hz, hlC, htC, hbm, zb (i := i) (n := a.length) (by omega) (by omega)])) | (refine zs rfl (fun h => ?_) (fun h => ?_) <;> try simp only [decide_eq_true_eq, decide_eq_false_iff_not, Bool.not_eq_true', Bool.not_eq_false', beq_iff_eq, bne_iff_ne, ne_eq, Bool.not_eq_true, Bool.or_eq_true, Bool.and_eq_true, Bool.or_eq_false_iff, Bool.and_eq_false_imp, beq_eq_false_iff_ne, bne_eq_false_iff_eq] at h)
    refine ⟨⟨i + 1, by omega⟩, by simp only; omega, ?_, ?_⟩
    ·simp only [hst, hD1]
     exact Lq
    ·simp only [hst, hσ1]
     exact ⟨[_, _, _, _, _], _, rfl, .inr (.inl rfl), .inl rfl, .inl rfl, .inl rfl, .inr (.inl rfl), trivial⟩
  | false =>
   rw [if_neg (by simp), List.append_nil] at hst
   rcases zJU ⟨0, none, 25, [.sl f 1 (zM ns), .sl g 1 (zL us)], .cells⟩ L with ⟨hL0, hD, hσ⟩ | ⟨q, hL0, hD, hσ⟩
   all_goals
    repeat' first | (with_reducible first | refine zA ?_ | refine zB ?_ | refine zS ?_ | refine zX ?_ | refine zO ?_ | refine zg ?_ | refine zW ?_ | refine zFW rfl ?_ | refine zI ?_ | refine zJ ?_ | refine zQ ?_ | refine zG ?_) | ((with_reducible refine And.intro ?_ ?_); · exact Sq) | ((first | with_reducible refine zC fun KC J hJ hKC => ?_ | with_reducible refine zU rfl fun KC J hJ hKC => ?_ | (refine' hKC _ _ _ _ _ (zD (zz _ _ _ _ _ _ ?_ ?_ ?_) rfl rfl rfl ?_ ?_); (rotate_left 9); (· exact Lq); (rotate_left 1); (iterate 3 (· exact Hq))) | (refine hKC _ _ _ _ _ (zD (h1) rfl rfl rfl ?_ ?_); (· exact Lq))); simp (maxSteps := 9999999) only [push_cast, seval, ↓reduceIte, hlt, hD, hσ, zAK hx, hz, zb (i := i) (n := a.length) (by omega) (by omega)]) | ((first | with_reducible refine hJ _ _ ?_ | (with_reducible refine hJ _ _ ?_ ?_; · kernel_rfl)); clear hJ hKC KC J) | ((with_reducible refine zF ?_ ?_); · rfl) | ((with_reducible refine zH ?_ ?_); · rfl) | ((with_reducible refine zAo (fun hs => ?_) (fun hs => ?_)) <;> (try simp only [Bool.not_eq_true, Bool.not_eq_false, Bool.not_eq_true', Bool.not_eq_false', Decidable.not_not, decide_eq_true_eq, decide_eq_false_iff_not] at hs) <;> (try simp (maxSteps := 9999999) only [push_cast, seval, ↓reduceIte, hs, hlt, hD, hσ, zAK hx, hz, zb (i := i) (n := a.length) (by omega) (by omega)])) | (refine zs rfl (fun h => ?_) (fun h => ?_) <;> try simp only [decide_eq_true_eq, decide_eq_false_iff_not, Bool.not_eq_true', Bool.not_eq_false', beq_iff_eq, bne_iff_ne, ne_eq, Bool.not_eq_true, Bool.or_eq_true, Bool.and_eq_true, Bool.or_eq_false_iff, Bool.and_eq_false_imp, beq_eq_false_iff_ne, bne_eq_false_iff_eq] at h)
    refine ⟨⟨i + 1, by omega⟩, by simp only; omega, ?_, ?_⟩
    ·simp only [hst, hD]
     exact Lq
    ·simp only [hst, hσ]
     first
      | exact ⟨[_], _, rfl, .inr (.inl rfl), trivial⟩
      | exact ⟨[_, _, _, _, _], _, rfl, .inr (.inl rfl), .inl rfl, .inl rfl, .inl rfl, .inr (.inl rfl), trivial⟩
 have hin : i = a.length := by omega
 subst hin
 rw [List.take_length]
 obtain ⟨L, hL⟩ : ∃ L, a.filter (zAh us o) = L := ⟨_, rfl⟩
 rw [hL]
 rcases zJU ⟨0, none, 25, [.sl f 1 (zM ns), .sl g 1 (zL us)], .cells⟩ L with ⟨hL0, hD, hσ⟩ | ⟨q, hL0, hD, hσ⟩
 ·subst hL0
  repeat' first | (with_reducible first | refine zA ?_ | refine zB ?_ | refine zS ?_ | refine zX ?_ | refine zO ?_ | refine zg ?_ | refine zW ?_ | refine zFW rfl ?_ | refine zI ?_ | refine zJ ?_ | refine zQ ?_ | refine zG ?_) | ((with_reducible refine And.intro ?_ ?_); · exact Sq) | ((first | with_reducible refine zC fun KC J hJ hKC => ?_ | with_reducible refine zU rfl fun KC J hJ hKC => ?_ | (refine' hKC _ _ _ _ _ (zD (zz _ _ _ _ _ _ ?_ ?_ ?_) rfl rfl rfl ?_ ?_); (rotate_left 9); (· exact Lq); (rotate_left 1); (iterate 3 (· exact Hq)))); simp (maxSteps := 9999999) only [push_cast, seval, ↓reduceIte, hlt, hD, hσ]) | ((first | with_reducible refine hJ _ _ ?_ | (with_reducible refine hJ _ _ ?_ ?_; · kernel_rfl)); clear hJ hKC KC J) | ((with_reducible refine zF ?_ ?_); · rfl) | ((with_reducible refine zH ?_ ?_); · rfl) | ((with_reducible refine zAo (fun hs => ?_) (fun hs => ?_)) <;> (try simp only [Bool.not_eq_true, Bool.not_eq_false, Bool.not_eq_true', Bool.not_eq_false', Decidable.not_not, decide_eq_true_eq, decide_eq_false_iff_not] at hs) <;> (try simp (maxSteps := 9999999) only [push_cast, seval, ↓reduceIte, hs, hlt, hD, hσ])) | (refine zs rfl (fun h => ?_) (fun h => ?_) <;> try simp only [decide_eq_true_eq, decide_eq_false_iff_not, Bool.not_eq_true', Bool.not_eq_false', beq_iff_eq, bne_iff_ne, ne_eq, Bool.not_eq_true, Bool.or_eq_true, Bool.and_eq_true, Bool.or_eq_false_iff, Bool.and_eq_false_imp, beq_eq_false_iff_ne, bne_eq_false_iff_eq] at h)
  refine zE ?_
  simp (maxSteps := 9999999) only [push_cast, seval, ↓reduceIte, show Tryz.f260.results = #[(.tmp 6)] from rfl]
  exact Lq
 ·have hbm : Nat.beq q q = true := Nat.beq_refl q
  have hlC : (zm L).length = (q + 1) * 2 := by rw [zBm, hL0]
  have hcS : zBF 2 (q + 1) (zm L) = zR L := by rw [← hL0]; exact zKV L
  have hem : L.isEmpty = false := by cases L with | nil => simp at hL0 | cons _ _ => rfl
  repeat' first | (with_reducible first | refine zA ?_ | refine zB ?_ | refine zS ?_ | refine zX ?_ | refine zO ?_ | refine zg ?_ | refine zW ?_ | refine zFW rfl ?_ | refine zJ ?_ | refine zQ ?_ | refine zG ?_) | ((with_reducible refine And.intro ?_ ?_); · exact Sq) | ((first | with_reducible refine zC fun KC J hJ hKC => ?_ | with_reducible refine zU rfl fun KC J hJ hKC => ?_ | (refine' hKC _ _ _ _ _ (zD (zz _ _ _ _ _ _ ?_ ?_ ?_) rfl rfl rfl ?_ ?_); (rotate_left 9); (· exact Lq); (rotate_left 1); (iterate 3 (· exact Hq)))); simp (maxSteps := 9999999) only [push_cast, seval, ↓reduceIte, hlt, hD, hσ]) | ((first | with_reducible refine hJ _ _ ?_ | (with_reducible refine hJ _ _ ?_ ?_; · kernel_rfl)); clear hJ hKC KC J) | ((with_reducible refine zF ?_ ?_); · rfl) | ((with_reducible refine zH ?_ ?_); · rfl) | ((with_reducible refine zAo (fun hs => ?_) (fun hs => ?_)) <;> (try simp only [Bool.not_eq_true, Bool.not_eq_false, Bool.not_eq_true', Bool.not_eq_false', Decidable.not_not, decide_eq_true_eq, decide_eq_false_iff_not] at hs) <;> (try simp (maxSteps := 9999999) only [push_cast, seval, ↓reduceIte, hs, hlt, hD, hσ])) | (refine zs rfl (fun h => ?_) (fun h => ?_) <;> try simp only [decide_eq_true_eq, decide_eq_false_iff_not, Bool.not_eq_true', Bool.not_eq_false', beq_iff_eq, bne_iff_ne, ne_eq, Bool.not_eq_true, Bool.or_eq_true, Bool.and_eq_true, Bool.or_eq_false_iff, Bool.and_eq_false_imp, beq_eq_false_iff_ne, bne_eq_false_iff_eq] at h)
  refine zt 4 rfl (by simp (maxSteps := 9999999) only [push_cast, seval, ↓reduceIte]) ?_
  simp (maxSteps := 9999999) only [push_cast, seval, ↓reduceIte, zAH, zd, fr3, fr2, fr1, fr0, zl, zj, hbm, hlC, hcS]
  refine zI ?_
  refine zE ?_
  simp (maxSteps := 9999999) only [push_cast, seval, ↓reduceIte, show Tryz.f260.results = #[(.tmp 6)] from rfl, hem]
  exact Lq
theorem zCp (f g fa fb : Bool) (ns : List ByteArray) (us : List Nat) (o : Nat) (a b : List (Int × Int)) (hu : U32 us) (ho : o ≤ 1000) (ha : a.length ≤ 1000) (hb : b.length ≤ 1000) (hxo : ∀ x ∈ a, zn us.length x.2 = false) (hyo : ∀ x ∈ b, zn us.length x.2 = false) :
  Fn Tryz.prog 184 [.agg [.sl f 1 (zM ns), .sl g 1 (zL us)], .v (.int .i64 (o : Int)), .sl fa 2 (zR a), .sl fb 2 (zR b)] [] (.v (.bool (decide (a.filter (zAh us o) = b.filter (zAh us o))))) [] := by
 have h1 := zHb f g fa ns us o a hu ho ha hxo
 have h2 := zHb f g fb ns us o b hu ho hb hyo
 obtain ⟨A, hA⟩ : ∃ A, a.filter (zAh us o) = A := ⟨_, rfl⟩
 obtain ⟨B, hB⟩ : ∃ B, b.filter (zAh us o) = B := ⟨_, rfl⟩
 have hAl : A.length ≤ 1000 := by rw [← hA]; exact Nat.le_trans (List.length_filter_le _ _) ha
 rw [hA] at h1
 rw [hB] at h2
 rw [hA, hB]
 refine Fn.of (fn := Tryz.f184) (by kernel_rfl) rfl (by kernel_rfl) ⟨[.agg [.sl f 1 (zM ns), .sl g 1 (zL us)], .v (.int .i64 (o : Int)), .sl fa 2 (zR a), .sl fb 2 (zR b), .v undef, .v undef, .v undef, .v undef, .v undef, .v undef, .v undef, .v undef, .v undef, .v undef, .v undef, .v undef, .v undef, .v undef], []⟩ rfl ?_
 repeat' first | (with_reducible first | refine zA ?_ | refine zB ?_ | refine zS ?_ | refine zX ?_ | refine zO ?_ | refine zg ?_ | refine zW ?_ | refine zFW rfl ?_ | refine zI ?_ | refine zJ ?_ | refine zQ ?_ | refine zG ?_) | ((with_reducible refine And.intro ?_ ?_); · exact Sq) | ((first | with_reducible refine zC fun KC J hJ hKC => ?_ | with_reducible refine zU rfl fun KC J hJ hKC => ?_ | (refine' hKC _ _ _ _ _ (zD (zHb _ _ _ _ _ _ _ ?_ ?_ ?_ ?_) rfl rfl rfl ?_ ?_); (rotate_left 11); (· exact Lq); (rotate_left 1); (iterate 4 (· exact Hq))) | (refine' hKC _ _ _ _ _ (zD (zJE _ _ _ _ ?_) rfl rfl rfl ?_ ?_); (rotate_left 5); (· exact Lq); (rotate_left 1); (iterate 1 (· exact Hq))) | (refine hKC _ _ _ _ _ (zD (h1) rfl rfl rfl ?_ ?_); (· exact Lq)) | (refine hKC _ _ _ _ _ (zD (h2) rfl rfl rfl ?_ ?_); (· exact Lq))); simp (maxSteps := 9999999) only [push_cast, seval, ↓reduceIte, hA, hB]) | ((first | with_reducible refine hJ _ _ ?_ | (with_reducible refine hJ _ _ ?_ ?_; · kernel_rfl)); clear hJ hKC KC J) | ((with_reducible refine zF ?_ ?_); · rfl) | ((with_reducible refine zH ?_ ?_); · rfl) | ((with_reducible refine zAo (fun hs => ?_) (fun hs => ?_)) <;> (try simp only [Bool.not_eq_true, Bool.not_eq_false, Bool.not_eq_true', Bool.not_eq_false', Decidable.not_not, decide_eq_true_eq, decide_eq_false_iff_not] at hs) <;> (try simp (maxSteps := 9999999) only [push_cast, seval, ↓reduceIte, hs, hA, hB])) | (refine zs rfl (fun h => ?_) (fun h => ?_) <;> try simp only [decide_eq_true_eq, decide_eq_false_iff_not, Bool.not_eq_true', Bool.not_eq_false', beq_iff_eq, bne_iff_ne, ne_eq, Bool.not_eq_true, Bool.or_eq_true, Bool.and_eq_true, Bool.or_eq_false_iff, Bool.and_eq_false_imp, beq_eq_false_iff_ne, bne_eq_false_iff_eq] at h)
 refine zE ?_
 simp (maxSteps := 9999999) only [push_cast, seval, ↓reduceIte, show Tryz.f184.results = #[(.tmp 8)] from rfl]
 exact zN _
def zDr (s : List (Bool × Int × Int)) : List Int := s.map (·.2.2)
theorem zJd (f : Bool) (s : List (Bool × Int × Int)) : zAe [(f, s)] = zDr s := by simp [zAe, zDr]
def zMF (ns : List ByteArray) (us : List Nat) (o : Int) (s : List (Bool × Int × Int)) : Int := zEB ns us (zDr s ++ [o])
def zNt (ns : List ByteArray) (us : List Nat) (o : Int) (s : List (Bool × Int × Int)) : List (Bool × Int × Int) := if zMF ns us o s = 0 then zAV us o.toNat s else []
theorem zQx {ns : List ByteArray} {us : List Nat} {L : List Int} (h : zEB ns us L = 0) : zq ns us = 0 ∧ ∀ x ∈ L, zn us.length x = false := by
 unfold zEB at h
 split at h
 ·rename_i hc
  split at h
  ·cases h
  ·rename_i ha
   have ha' : L.any (zn us.length) = false := by simpa using ha
   rw [List.any_eq_false] at ha'
   exact ⟨hc, fun x hx => by simpa using ha' x hx⟩
 ·rename_i hc; exact absurd h hc
set_option maxHeartbeats 4000000 in
theorem zMP (f g fa : Bool) (ns : List ByteArray) (us : List Nat) (o : Int) (s : List (Bool × Int × Int)) (hs : Szs ns) (hu : U32 us) (hl : s.length ≤ 100) :
  Fn Tryz.prog 178 [.agg [.sl f 1 (zM ns), .sl g 1 (zL us)], .v (.int .i64 o), .sl fa 3 (zc s)] [] (.tup [.sl false 3 (zc (zNt ns us o s)), .v (.int .i64 (zMF ns us o s))]) [] := by
 have hlab := zHk true [(fa, s)] (by rw [zJd]; simp [zDr]; omega) (by simp) (by intro r hr; simp at hr; subst hr; simp; omega)
 rw [zJd] at hlab
 have hLl : (zDr s).length ≤ 200 := by simp [zDr]; omega
 have hrow : zEO [(fa, s)] = [[.sl fa 3 (zc s)]] := rfl
 rw [hrow] at hlab
 obtain ⟨m, hm⟩ : ∃ m, zMF ns us o s = m := ⟨_, rfl⟩
 have hcr : m = 0 → Fn Tryz.prog 114 [.agg [.sl f 1 (zM ns), .sl g 1 (zL us), .v (.int .i64 o)], .sl fa 3 (zc s)] [] (.sl false 3 (zc (zAV us o.toNat s))) [] := fun h0 => by
  obtain ⟨h1, h2⟩ := zQx (hm.trans h0)
  obtain ⟨b, rfl, hb⟩ := zAP (h2 o (by simp))
  rw [Int.toNat_natCast]
  exact zHO f g fa ns us b s hs hu h1 hb (by omega) (fun x hx => h2 _ (List.mem_append_left _ (List.mem_map_of_mem hx)))
 have hm' : zEB ns us (zDr s ++ [o]) = m := hm
 rw [zNt, hm]
 obtain ⟨L, hL⟩ : ∃ L, zDr s = L := ⟨_, rfl⟩
 rw [hL] at hlab hLl hm'
 have hmk : ∀ ge, Fn Tryz.prog 108 [.agg [.sl f 1 (zM ns), .sl g 1 (zL us)], .ref 0 ge (L.length + 1)] [.ent ⟨ge, some 1, 3, zY L ++ [.v (.int .i64 o)], .cells⟩] (.v (.int .i64 m)) [.dead] := fun ge => by
  have := zRG f g ns us (L ++ [o]) ge (L.length + 1) (by simp) hs hu (by simp; omega)
  rw [zAB, hm'] at this
  exact this
 refine Fn.of (fn := Tryz.f178) (by kernel_rfl) rfl (by kernel_rfl) ⟨[.agg [.sl f 1 (zM ns), .sl g 1 (zL us)], .v (.int .i64 o), .sl fa 3 (zc s), .v undef, .v undef, .v undef, .v undef, .v undef, .v undef, .v undef, .v undef, .v undef, .v undef, .v undef, .v undef, .v undef, .v undef, .v undef, .v undef, .v undef, .v undef, .v undef, .v undef, .v undef, .v undef, .v undef], []⟩ rfl ?_
 obtain ⟨z, hz⟩ : ∃ z, (m != 0) = z := ⟨_, rfl⟩
 have hz0 : z = false → m = 0 := fun h => by rw [h] at hz; simpa using hz
 have hz1 : z = true → ¬ m = 0 := fun h => by rw [h] at hz; simpa using hz
 rcases Nat.eq_zero_or_pos L.length with h0 | h0
 ·have hL0 : L = [] := List.eq_nil_of_length_eq_zero h0
  subst hL0
  have e1 : lD [] = .v (.slice none 0 0) := rfl
  have e2 : zFI [] = [] := rfl
  rw [e1, e2] at hlab
  cases z
  case false =>
   have hcr := hcr (hz0 rfl)
   have hm0 := hz0 rfl
   rw [if_pos hm0]
   repeat' first | (with_reducible first | refine zA ?_ | refine zB ?_ | refine zI ?_ | refine zJ ?_) | ((first | with_reducible refine zC fun KC J hJ hKC => ?_ | with_reducible refine zU rfl fun KC J hJ hKC => ?_ | (refine' hKC _ _ _ _ _ (zD (zBI) rfl rfl rfl ?_ ?_); (· exact Lq)) | (refine hKC _ _ _ _ _ (zD hlab rfl rfl rfl ⟨zN _, zN _, trivial⟩ ?_)) | (refine hKC _ _ _ _ _ (zw [5] (hmk 0) rfl rfl rfl (by decide) (by simp) rfl (by simp only [push_cast, pick, mOf, idx, zT]; rfl) (by simp only [push_cast, mOf, idx]; exact ⟨zN _, zN _, trivial⟩) ?_)) | (refine hKC _ _ _ _ _ (zD (hcr) rfl rfl rfl ?_ ?_); (· exact Lq))); simp (maxSteps := 9999999) only [push_cast, seval, ↓reduceIte, hz, zy, zf, zT, pick, mOf, idx]) | ((first | with_reducible refine hJ _ _ ?_ | (with_reducible refine hJ _ _ ?_ ?_; · kernel_rfl)); clear hJ hKC KC J) | ((with_reducible refine zH ?_ ?_); · rfl)
   refine zE ?_
   simp (maxSteps := 9999999) only [push_cast, seval, ↓reduceIte, show Tryz.f178.results = #[(.tmp 6), (.tmp 7)] from rfl]
   rw [hm0]
   exact Lq
  rw [if_neg (hz1 rfl)]
  repeat' first | (with_reducible first | refine zA ?_ | refine zB ?_ | refine zS ?_ | refine zI ?_) | ((first | with_reducible refine zC fun KC J hJ hKC => ?_ | with_reducible refine zU rfl fun KC J hJ hKC => ?_ | (refine' hKC _ _ _ _ _ (zD (zBI) rfl rfl rfl ?_ ?_); (· exact Lq)) | (refine hKC _ _ _ _ _ (zD hlab rfl rfl rfl ⟨zN _, zN _, trivial⟩ ?_)) | (refine hKC _ _ _ _ _ (zw [5] (hmk 0) rfl rfl rfl (by decide) (by simp) rfl (by simp only [push_cast, pick, mOf, idx, zT]; rfl) (by simp only [push_cast, mOf, idx]; exact ⟨zN _, zN _, trivial⟩) ?_))); simp (maxSteps := 9999999) only [push_cast, seval, ↓reduceIte, hz, zy, zf, zT, pick, mOf, idx]) | ((first | with_reducible refine hJ _ _ ?_ | (with_reducible refine hJ _ _ ?_ ?_; · kernel_rfl)); clear hJ hKC KC J) | ((with_reducible refine zF ?_ ?_); · rfl)
  refine zE ?_
  simp (maxSteps := 9999999) only [push_cast, seval, ↓reduceIte, show Tryz.f178.results = #[(.tmp 6), (.tmp 7)] from rfl]
  exact Lq
 obtain ⟨q, hq⟩ : ∃ q, L.length = q + 1 := ⟨L.length - 1, by omega⟩
 have e1 : lD L = .ref 0 q (q + 1) := by unfold lD; rw [hq]; rfl
 have e2 : zFI L = [.ent ⟨q, some 1, 3, zY L, .cells⟩] := by unfold zFI; rw [hq]; rfl
 rw [e1, e2] at hlab
 rw [hq] at hmk
 have hlC : (zY L).length = q + 1 := by rw [zZ, hq]
 have htC := zGK hlC
 have htC' : (zY L).take (q + 1) = zY L := List.take_of_length_le (by omega)
 have hbm : Nat.beq q q = true := Nat.beq_refl q
 cases z
 case false =>
  have hcr := hcr (hz0 rfl)
  have hm0 := hz0 rfl
  rw [if_pos hm0]
  repeat' first | (with_reducible first | refine zA ?_ | refine zB ?_ | refine zI ?_ | refine zJ ?_) | ((with_reducible refine And.intro ?_ ?_); · exact Sq) | ((first | with_reducible refine zC fun KC J hJ hKC => ?_ | with_reducible refine zU rfl fun KC J hJ hKC => ?_ | (refine' hKC _ _ _ _ _ (zD (zBI) rfl rfl rfl ?_ ?_); (· exact Lq)) | (refine hKC _ _ _ _ _ (zDz [] hlab rfl rfl rfl (by simp) (fun _ h => by cases h) rfl rfl rfl ⟨zN _, zN _, trivial⟩ ?_)) | (refine hKC _ _ _ _ _ (zw [3] (hmk (q + 1)) rfl rfl rfl (by decide) (by simp) rfl (by simp only [push_cast, pick, mOf, idx, zT, zAL, List.map_append]) (by simp only [push_cast, mOf, idx]; exact ⟨zN _, zN _, trivial⟩) ?_)) | (refine hKC _ _ _ _ _ (zD (hcr) rfl rfl rfl ?_ ?_); (· exact Lq))); simp (maxSteps := 9999999) only [push_cast, seval, ↓reduceIte, hz, zy, zf, zT, pick, mOf, idx, hlC, htC, htC', hbm, zAL]) | ((first | with_reducible refine hJ _ _ ?_ | (with_reducible refine hJ _ _ ?_ ?_; · kernel_rfl)); clear hJ hKC KC J) | ((with_reducible refine zH ?_ ?_); · rfl)
  refine zE ?_
  simp (maxSteps := 9999999) only [push_cast, seval, ↓reduceIte, show Tryz.f178.results = #[(.tmp 6), (.tmp 7)] from rfl]
  rw [hm0]
  exact Lq
 rw [if_neg (hz1 rfl)]
 repeat' first | (with_reducible first | refine zA ?_ | refine zB ?_ | refine zS ?_ | refine zI ?_) | ((with_reducible refine And.intro ?_ ?_); · exact Sq) | ((first | with_reducible refine zC fun KC J hJ hKC => ?_ | with_reducible refine zU rfl fun KC J hJ hKC => ?_ | (refine' hKC _ _ _ _ _ (zD (zBI) rfl rfl rfl ?_ ?_); (· exact Lq)) | (refine hKC _ _ _ _ _ (zDz [] hlab rfl rfl rfl (by simp) (fun _ h => by cases h) rfl rfl rfl ⟨zN _, zN _, trivial⟩ ?_)) | (refine hKC _ _ _ _ _ (zw [3] (hmk (q + 1)) rfl rfl rfl (by decide) (by simp) rfl (by simp only [push_cast, pick, mOf, idx, zT, zAL, List.map_append]) (by simp only [push_cast, mOf, idx]; exact ⟨zN _, zN _, trivial⟩) ?_))); simp (maxSteps := 9999999) only [push_cast, seval, ↓reduceIte, hz, zy, zf, zT, pick, mOf, idx, hlC, htC, htC', hbm, zAL]) | ((first | with_reducible refine hJ _ _ ?_ | (with_reducible refine hJ _ _ ?_ ?_; · kernel_rfl)); clear hJ hKC KC J) | ((with_reducible refine zF ?_ ?_); · rfl)
 refine zE ?_
 simp (maxSteps := 9999999) only [push_cast, seval, ↓reduceIte, show Tryz.f178.results = #[(.tmp 6), (.tmp 7)] from rfl]
 exact Lq
def zCX (us : List Nat) (o : Nat) (a b : Sta) : Bool :=
 zCG (alI us o) a.code b.code && (zCM (alA us o) a.mem b.mem && (decide (a.out.filter (zAh us o) = b.out.filter (zAh us o)) &&
  match fl us a.l.toNat o with
  | true => fl us b.l.toNat o && ((a.v == b.v && a.l == b.l) && zCV (alS us o) a.stack b.stack)
  | false => !fl us b.l.toNat o && zCV (alS us o) (zAV us o a.stack) (zAV us o b.stack)))
def zGz (o : Int) (a b : Sta) : List (Bool × List Int) := [(true, [o, a.l, b.l]), (false, zAm [(false, a.code), (false, b.code)]), (false, zAk [(false, a.mem), (false, b.mem), (false, a.out), (false, b.out)]), (false, zAe [(false, a.stack), (false, b.stack)])]
theorem zRR (n : Nat) (l : List Int) : okL n l = !l.any (zn n) := by
 rw [okL, List.all_eq_not_any_not]; simp
theorem zOu (ns : List ByteArray) (us : List Nat) (o : Int) (a b : Sta) : zEB ns us (zAf (zGz o a b)) = zBz ns us o a b := by
 unfold zBz zEB
 by_cases hc : zq ns us = 0
 ·rw [if_pos hc, if_pos hc]
  simp only [zAf, zGz, List.flatMap_cons, List.flatMap_nil, zOB, zRR, List.any_append, List.any_cons, List.any_nil, zAm, zAk, zAe, List.map_append, List.append_nil, Bool.or_false, Bool.false_or]
  cases zn us.length o <;> cases zn us.length a.l <;> cases zn us.length b.l <;> cases (a.code.map _).any (zn us.length) <;> cases (b.code.map _).any (zn us.length) <;> cases (a.mem.map _).any (zn us.length) <;> cases (b.mem.map _).any (zn us.length) <;> cases (a.stack.map _).any (zn us.length) <;> cases (b.stack.map _).any (zn us.length) <;> cases (a.out.map _).any (zn us.length) <;> cases (b.out.map _).any (zn us.length) <;> rfl
 ·rw [if_neg hc, if_neg hc]
structure OkT (ns : List ByteArray) (us : List Nat) (o : Int) (a b : Sta) : Prop where
 chk : zq ns us = 0
 ob : zn us.length o = false
 la : zn us.length a.l = false
 lb : zn us.length b.l = false
 ca : ∀ x ∈ a.code, zn us.length x.2.2 = false
 cb : ∀ x ∈ b.code, zn us.length x.2.2 = false
 ma : ∀ x ∈ a.mem, zn us.length x.2 = false
 mb : ∀ x ∈ b.mem, zn us.length x.2 = false
 sa : ∀ x ∈ a.stack, zn us.length x.2.2 = false
 sb : ∀ x ∈ b.stack, zn us.length x.2.2 = false
 oa : ∀ x ∈ a.out, zn us.length x.2 = false
 oo : ∀ x ∈ b.out, zn us.length x.2 = false
theorem zHc {ns : List ByteArray} {us : List Nat} {o : Int} {a b : Sta} (h : zBz ns us o a b = 0) : OkT ns us o a b := by
 unfold zBz at h
 split at h
 ·rename_i hc
  split at h
  ·rename_i hh
   simp only [zOB, okL, Bool.and_eq_true, Bool.not_eq_true', List.all_eq_true, List.mem_map, forall_exists_index, and_imp, forall_apply_eq_imp_iff₂] at hh
   obtain ⟨h0, ⟨h1, h2, h3, h4, h5⟩, ⟨g1, g2, g3, g4, g5⟩⟩ := hh
   exact ⟨hc, h0, h5, g5, h1, g1, h2, g2, h3, g3, h4, g4⟩
  ·cases h
 ·rename_i hc; exact absurd h hc
theorem zIb (x y : List (Int × Int × Int)) : (zAm [(false, x), (false, y)]).length = x.length + y.length := by simp [zAm]
theorem zIg (x y : List (Bool × Int × Int)) : (zAe [(false, x), (false, y)]).length = x.length + y.length := by simp [zAe]
theorem zIp (x y z w : List (Int × Int)) : (zAk [(false, x), (false, y), (false, z), (false, w)]).length = x.length + (y.length + (z.length + w.length)) := by simp [zAk]
theorem zLb (o : Int) (a b : Sta) : (zAf (zGz o a b)).length = 3 + (a.code.length + b.code.length) + (a.mem.length + (b.mem.length + (a.out.length + b.out.length))) + (a.stack.length + b.stack.length) := by
 simp only [zAf, zGz, List.flatMap_cons, List.flatMap_nil, List.length_append, List.length_cons, List.length_nil, zIb, zIg, zIp]
 omega
set_option maxHeartbeats 8000000 in
theorem zKb (ns : List ByteArray) (us : List Nat) (o : Int) (a b : Sta) (hs : Szs ns) (hu : U32 us) (ha : Sml15 a) (hb : Sml15 b) :
  Fn Tryz.prog 49 [.agg [.sl false 1 (zM ns), .sl false 1 (zL us)], .v (.int .i64 o), .agg (zAN false false false false a), .agg (zAN false false false false b)] [] (.tup [.v (.bool (decide (zBz ns us o a b = 0) && zCX us o.toNat a b)), .v (.int .i64 (zBz ns us o a b))]) [] := by
 obtain ⟨ha1, ha2, ha3, ha4⟩ := ha
 obtain ⟨hb1, hb2, hb3, hb4⟩ := hb
 have l1 := zLK true [(false, a.code), (false, b.code)] (by rw [zIb]; omega) (by simp) (by intro r hr; simp at hr; rcases hr with rfl | rfl <;> simp <;> omega)
 have l2 := zLA true [(false, a.mem), (false, b.mem), (false, a.out), (false, b.out)] (by rw [zIp]; omega) (by simp) (by intro r hr; simp at hr; rcases hr with rfl | rfl | rfl | rfl <;> simp <;> omega)
 have l3 := zLh true [(false, a.stack), (false, b.stack)] (by rw [zIg]; omega) (by simp) (by intro r hr; simp at hr; rcases hr with rfl | rfl <;> simp <;> omega)
 have hfl := zLb o a b
 have hcc := zGa true (zGz o a b) (by omega) (by omega) (by simp [zGz])
 have hmm := zOu ns us o a b
 obtain ⟨m, hm⟩ : ∃ m, zBz ns us o a b = m := ⟨_, rfl⟩
 rw [hm] at hmm ⊢
 obtain ⟨L, hL⟩ : ∃ L, zAf (zGz o a b) = L := ⟨_, rfl⟩
 have hLl : L.length ≤ 1000 := by rw [← hL]; omega
 rw [hL] at hmm hcc
 have hmy := zRz false false false ns us L hs hu hLl
 rw [hmm] at hmy
 have e1 : zEv [(false, a.code), (false, b.code)] = [[.sl false 3 (zh a.code)], [.sl false 3 (zh b.code)]] := rfl
 have e2 : zEw [(false, a.mem), (false, b.mem), (false, a.out), (false, b.out)] = [[.sl false 2 (zR a.mem)], [.sl false 2 (zR b.mem)], [.sl false 2 (zR a.out)], [.sl false 2 (zR b.out)]] := rfl
 have e3 : zEO [(false, a.stack), (false, b.stack)] = [[.sl false 3 (zc a.stack)], [.sl false 3 (zc b.stack)]] := rfl
 rw [e1] at l1
 rw [e2] at l2
 rw [e3] at l3
 have e4 : zDX (zGz o a b) = [[.sl true 1 [[.v (.int .i64 o)], [.v (.int .i64 a.l)], [.v (.int .i64 b.l)]]], [.sl false 1 (zK (zAm [(false, a.code), (false, b.code)]))], [.sl false 1 (zK (zAk [(false, a.mem), (false, b.mem), (false, a.out), (false, b.out)]))], [.sl false 1 (zK (zAe [(false, a.stack), (false, b.stack)]))]] := rfl
 rw [e4] at hcc
 obtain ⟨L1, hL1⟩ : ∃ L1, zAm [(false, a.code), (false, b.code)] = L1 := ⟨_, rfl⟩
 obtain ⟨L2, hL2⟩ : ∃ L2, zAk [(false, a.mem), (false, b.mem), (false, a.out), (false, b.out)] = L2 := ⟨_, rfl⟩
 obtain ⟨L3, hL3⟩ : ∃ L3, zAe [(false, a.stack), (false, b.stack)] = L3 := ⟨_, rfl⟩
 rw [hL1] at l1 hcc
 rw [hL2] at l2 hcc
 rw [hL3] at l3 hcc
 clear hL1 hL2 hL3 hfl e1 e2 e3 e4
 by_cases h0 : m = 0
 ·have hk := zHc (hm.trans h0)
  obtain ⟨hc, ob, la, lb, ca, cb, ma, mb, sa, sb, oa, oo⟩ := hk
  obtain ⟨va, la', code, mem, stack, out⟩ := a
  obtain ⟨vb, lb', code2, mem2, stack2, out2⟩ := b
  obtain ⟨p, rfl, hp⟩ := zAP ob
  simp only at *
  obtain ⟨x, rfl, hx⟩ := zAP la
  obtain ⟨y, rfl, hy⟩ := zAP lb
  subst h0
  have f1 := zBk false false false false ns us p code code2 hs hu hc hp (by omega) ca
  have f2 := zCE false false false false ns us p mem mem2 hs hu hc hp (by omega) ma
  have f3 := zDp false false false false ns us p out out2 hs hu hc hp (by omega) (by omega) oa oo
  have f4 := zAy false false ns us x p hs hu hc hx hp
  have f5 := zAy false false ns us y p hs hu hc hy hp
  have f6 := zGe false false false false ns us p stack stack2 hs hu hc hp (by omega) sa
  have hcl : ∀ s, (zAV us p s).length ≤ s.length := fun s => by rw [zAV, List.length_take]; exact Nat.min_le_right _ _
  have f7 := zHO false false false ns us p stack hs hu hc hp (by omega) sa
  have f8 := zHO false false false ns us p stack2 hs hu hc hp (by omega) sb
  have f9 := zGe false false false false ns us p (zAV us p stack) (zAV us p stack2) hs hu hc hp (by have := hcl stack; omega) (fun z hz => sa z (List.mem_of_mem_take hz))
  simp only [zCX, Int.toNat_natCast]
  obtain ⟨c1, hc1⟩ : ∃ c, zCG (alI us p) code code2 = c := ⟨_, rfl⟩
  obtain ⟨c2, hc2⟩ : ∃ c, zCM (alA us p) mem mem2 = c := ⟨_, rfl⟩
  obtain ⟨c3, hc3⟩ : ∃ c, decide (out.filter (zAh us p) = out2.filter (zAh us p)) = c := ⟨_, rfl⟩
  obtain ⟨c4, hc4⟩ : ∃ c, fl us x p = c := ⟨_, rfl⟩
  obtain ⟨c5, hc5⟩ : ∃ c, fl us y p = c := ⟨_, rfl⟩
  obtain ⟨c6, hc6⟩ : ∃ c, (va == vb && (x : Int) == (y : Int)) = c := ⟨_, rfl⟩
  rw [hc1, hc2, hc3, hc4, hc5, hc6]
  rw [hc1] at f1
  rw [hc2] at f2
  rw [hc3] at f3
  rw [hc4] at f4
  rw [hc5] at f5
  refine Fn.of (fn := Tryz.f49) (by kernel_rfl) rfl (by kernel_rfl) ⟨[.agg [.sl false 1 (zM ns), .sl false 1 (zL us)], .v (.int .i64 (p : Int)), .agg (zAN false false false false ⟨va, (x : Int), code, mem, stack, out⟩), .agg (zAN false false false false ⟨vb, (y : Int), code2, mem2, stack2, out2⟩), .v undef, .v undef, .v undef, .v undef, .v undef, .v undef, .v undef, .v undef, .v undef, .v undef, .v undef, .v undef, .v undef, .v undef, .v undef, .v undef, .v undef, .v undef, .v undef, .v undef, .v undef, .v undef, .v undef, .v undef, .v undef, .v undef, .v undef, .v undef, .v undef, .v undef, .v undef, .v undef, .v undef, .v undef, .v undef, .v undef, .v undef, .v undef, .v undef, .v undef, .v undef, .v undef, .v undef, .v undef, .v undef, .v undef, .v undef, .v undef, .v undef, .v undef, .v undef, .v undef, .v undef, .v undef, .v undef, .v undef, .v undef, .v undef, .v undef, .v undef, .v undef, .v undef, .v undef, .v undef, .v undef, .v undef, .v undef, .v undef, .v undef, .v undef, .v undef, .v undef, .v undef, .v undef, .v undef, .v undef, .v undef, .v undef, .v undef, .v undef, .v undef, .v undef, .v undef, .v undef, .v undef, .v undef, .v undef, .v undef, .v undef, .v undef, .v undef, .v undef, .v undef, .v undef, .v undef, .v undef, .v undef, .v undef, .v undef, .v undef, .v undef, .v undef, .v undef, .v undef, .v undef, .v undef, .v undef, .v undef, .v undef, .v undef, .v undef, .v undef, .v undef, .v undef, .v undef, .v undef, .v undef, .v undef, .v undef, .v undef, .v undef, .v undef, .v undef], []⟩ rfl ?_
  simp only [zAN]
  cases c1
  case false =>
   repeat' first | (with_reducible first | refine zA ?_ | refine zB ?_ | refine zS ?_ | refine zI ?_ | refine zJ ?_) | ((first | with_reducible refine zC fun KC J hJ hKC => ?_ | with_reducible refine zU rfl fun KC J hJ hKC => ?_ | (refine' hKC _ _ _ _ _ (zD (zCO) rfl rfl rfl ?_ ?_); (· exact Lq)) | (refine' hKC _ _ _ _ _ (zD (zCJ) rfl rfl rfl ?_ ?_); (· exact Lq)) | (refine' hKC _ _ _ _ _ (zD (zBI) rfl rfl rfl ?_ ?_); (· exact Lq)) | (refine' hKC _ _ _ _ _ (zD (zBk _ _ _ _ _ _ _ _ _ ?_ ?_ ?_ ?_ ?_ ?_) rfl rfl rfl ?_ ?_); (rotate_left 15); (· exact Lq); (rotate_left 1); (iterate 6 (· exact Hq))) | (refine hKC _ _ _ _ _ (zD (l1) rfl rfl rfl ?_ ?_); (· exact Lq)) | (refine hKC _ _ _ _ _ (zD (l2) rfl rfl rfl ?_ ?_); (· exact Lq)) | (refine hKC _ _ _ _ _ (zD (l3) rfl rfl rfl ?_ ?_); (· exact Lq)) | (refine hKC _ _ _ _ _ (zD (hcc) rfl rfl rfl ?_ ?_); (· exact Lq)) | (refine hKC _ _ _ _ _ (zD (hmy) rfl rfl rfl ?_ ?_); (· exact Lq))); simp (maxSteps := 9999999) only [push_cast, seval, ↓reduceIte, hmm, hc1, undef]) | ((first | with_reducible refine hJ _ _ ?_ | (with_reducible refine hJ _ _ ?_ ?_; · kernel_rfl)); clear hJ hKC KC J) | ((with_reducible refine zF ?_ ?_); · rfl) | ((with_reducible refine zH ?_ ?_); · rfl)
   refine zE ?_
   simp (maxSteps := 9999999) only [push_cast, seval, ↓reduceIte, show Tryz.f49.results = #[(.tmp 8), (.tmp 9)] from rfl]
   exact Lq
  cases c2
  case false =>
   repeat' first | (with_reducible first | refine zA ?_ | refine zB ?_ | refine zS ?_ | refine zI ?_ | refine zJ ?_) | ((first | with_reducible refine zC fun KC J hJ hKC => ?_ | with_reducible refine zU rfl fun KC J hJ hKC => ?_ | (refine' hKC _ _ _ _ _ (zD (zCO) rfl rfl rfl ?_ ?_); (· exact Lq)) | (refine' hKC _ _ _ _ _ (zD (zCJ) rfl rfl rfl ?_ ?_); (· exact Lq)) | (refine' hKC _ _ _ _ _ (zD (zBI) rfl rfl rfl ?_ ?_); (· exact Lq)) | (refine' hKC _ _ _ _ _ (zD (zBk _ _ _ _ _ _ _ _ _ ?_ ?_ ?_ ?_ ?_ ?_) rfl rfl rfl ?_ ?_); (rotate_left 15); (· exact Lq); (rotate_left 1); (iterate 6 (· exact Hq))) | (refine' hKC _ _ _ _ _ (zD (zCE _ _ _ _ _ _ _ _ _ ?_ ?_ ?_ ?_ ?_ ?_) rfl rfl rfl ?_ ?_); (rotate_left 15); (· exact Lq); (rotate_left 1); (iterate 6 (· exact Hq))) | (refine hKC _ _ _ _ _ (zD (l1) rfl rfl rfl ?_ ?_); (· exact Lq)) | (refine hKC _ _ _ _ _ (zD (l2) rfl rfl rfl ?_ ?_); (· exact Lq)) | (refine hKC _ _ _ _ _ (zD (l3) rfl rfl rfl ?_ ?_); (· exact Lq)) | (refine hKC _ _ _ _ _ (zD (hcc) rfl rfl rfl ?_ ?_); (· exact Lq)) | (refine hKC _ _ _ _ _ (zD (hmy) rfl rfl rfl ?_ ?_); (· exact Lq))); simp (maxSteps := 9999999) only [push_cast, seval, ↓reduceIte, hmm, hc1, hc2, undef]) | ((first | with_reducible refine hJ _ _ ?_ | (with_reducible refine hJ _ _ ?_ ?_; · kernel_rfl)); clear hJ hKC KC J) | ((with_reducible refine zF ?_ ?_); · rfl) | ((with_reducible refine zH ?_ ?_); · rfl)
   refine zE ?_
   simp (maxSteps := 9999999) only [push_cast, seval, ↓reduceIte, show Tryz.f49.results = #[(.tmp 8), (.tmp 9)] from rfl]
   exact Lq
  cases c3
  case false =>
   repeat' first | (with_reducible first | refine zA ?_ | refine zB ?_ | refine zS ?_ | refine zI ?_ | refine zJ ?_) | ((first | with_reducible refine zC fun KC J hJ hKC => ?_ | with_reducible refine zU rfl fun KC J hJ hKC => ?_ | (refine' hKC _ _ _ _ _ (zD (zCO) rfl rfl rfl ?_ ?_); (· exact Lq)) | (refine' hKC _ _ _ _ _ (zD (zCJ) rfl rfl rfl ?_ ?_); (· exact Lq)) | (refine' hKC _ _ _ _ _ (zD (zBI) rfl rfl rfl ?_ ?_); (· exact Lq)) | (refine' hKC _ _ _ _ _ (zD (zBk _ _ _ _ _ _ _ _ _ ?_ ?_ ?_ ?_ ?_ ?_) rfl rfl rfl ?_ ?_); (rotate_left 15); (· exact Lq); (rotate_left 1); (iterate 6 (· exact Hq))) | (refine' hKC _ _ _ _ _ (zD (zCE _ _ _ _ _ _ _ _ _ ?_ ?_ ?_ ?_ ?_ ?_) rfl rfl rfl ?_ ?_); (rotate_left 15); (· exact Lq); (rotate_left 1); (iterate 6 (· exact Hq))) | (refine' hKC _ _ _ _ _ (zD (zDp _ _ _ _ _ _ _ _ _ ?_ ?_ ?_ ?_ ?_ ?_ ?_ ?_) rfl rfl rfl ?_ ?_); (rotate_left 17); (· exact Lq); (rotate_left 1); (iterate 8 (· exact Hq))) | (refine hKC _ _ _ _ _ (zD (l1) rfl rfl rfl ?_ ?_); (· exact Lq)) | (refine hKC _ _ _ _ _ (zD (l2) rfl rfl rfl ?_ ?_); (· exact Lq)) | (refine hKC _ _ _ _ _ (zD (l3) rfl rfl rfl ?_ ?_); (· exact Lq)) | (refine hKC _ _ _ _ _ (zD (hcc) rfl rfl rfl ?_ ?_); (· exact Lq)) | (refine hKC _ _ _ _ _ (zD (hmy) rfl rfl rfl ?_ ?_); (· exact Lq))); simp (maxSteps := 9999999) only [push_cast, seval, ↓reduceIte, hmm, hc1, hc2, hc3, undef]) | ((first | with_reducible refine hJ _ _ ?_ | (with_reducible refine hJ _ _ ?_ ?_; · kernel_rfl)); clear hJ hKC KC J) | ((with_reducible refine zF ?_ ?_); · rfl) | ((with_reducible refine zH ?_ ?_); · rfl)
   refine zE ?_
   simp (maxSteps := 9999999) only [push_cast, seval, ↓reduceIte, show Tryz.f49.results = #[(.tmp 8), (.tmp 9)] from rfl]
   exact Lq
  cases c4
  case false =>
   cases c5
   case true =>
    repeat' first | (with_reducible first | refine zA ?_ | refine zB ?_ | refine zS ?_ | refine zg ?_ | refine zI ?_ | refine zJ ?_ | refine zG ?_) | ((first | with_reducible refine zC fun KC J hJ hKC => ?_ | with_reducible refine zU rfl fun KC J hJ hKC => ?_ | (refine' hKC _ _ _ _ _ (zD (zCO) rfl rfl rfl ?_ ?_); (· exact Lq)) | (refine' hKC _ _ _ _ _ (zD (zCJ) rfl rfl rfl ?_ ?_); (· exact Lq)) | (refine' hKC _ _ _ _ _ (zD (zBI) rfl rfl rfl ?_ ?_); (· exact Lq)) | (refine' hKC _ _ _ _ _ (zD (zBk _ _ _ _ _ _ _ _ _ ?_ ?_ ?_ ?_ ?_ ?_) rfl rfl rfl ?_ ?_); (rotate_left 15); (· exact Lq); (rotate_left 1); (iterate 6 (· exact Hq))) | (refine' hKC _ _ _ _ _ (zD (zCE _ _ _ _ _ _ _ _ _ ?_ ?_ ?_ ?_ ?_ ?_) rfl rfl rfl ?_ ?_); (rotate_left 15); (· exact Lq); (rotate_left 1); (iterate 6 (· exact Hq))) | (refine' hKC _ _ _ _ _ (zD (zDp _ _ _ _ _ _ _ _ _ ?_ ?_ ?_ ?_ ?_ ?_ ?_ ?_) rfl rfl rfl ?_ ?_); (rotate_left 17); (· exact Lq); (rotate_left 1); (iterate 8 (· exact Hq))) | (refine' hKC _ _ _ _ _ (zD (zAy _ _ _ _ _ _ ?_ ?_ ?_ ?_ ?_) rfl rfl rfl ?_ ?_); (rotate_left 11); (· exact Lq); (rotate_left 1); (iterate 5 (· exact Hq))) | (refine hKC _ _ _ _ _ (zD (l1) rfl rfl rfl ?_ ?_); (· exact Lq)) | (refine hKC _ _ _ _ _ (zD (l2) rfl rfl rfl ?_ ?_); (· exact Lq)) | (refine hKC _ _ _ _ _ (zD (l3) rfl rfl rfl ?_ ?_); (· exact Lq)) | (refine hKC _ _ _ _ _ (zD (hcc) rfl rfl rfl ?_ ?_); (· exact Lq)) | (refine hKC _ _ _ _ _ (zD (hmy) rfl rfl rfl ?_ ?_); (· exact Lq))); simp (maxSteps := 9999999) only [push_cast, seval, ↓reduceIte, hmm, hc1, hc2, hc3, hc4, hc5, undef]) | ((first | with_reducible refine hJ _ _ ?_ | (with_reducible refine hJ _ _ ?_ ?_; · kernel_rfl)); clear hJ hKC KC J) | ((with_reducible refine zF ?_ ?_); · rfl) | ((with_reducible refine zH ?_ ?_); · rfl)
    refine zE ?_
    simp (maxSteps := 9999999) only [push_cast, seval, ↓reduceIte, show Tryz.f49.results = #[(.tmp 8), (.tmp 9)] from rfl]
    exact Lq
   repeat' first | (with_reducible first | refine zA ?_ | refine zB ?_ | refine zO ?_ | refine zI ?_ | refine zJ ?_ | refine zG ?_) | ((first | with_reducible refine zC fun KC J hJ hKC => ?_ | with_reducible refine zU rfl fun KC J hJ hKC => ?_ | (refine' hKC _ _ _ _ _ (zD (zCO) rfl rfl rfl ?_ ?_); (· exact Lq)) | (refine' hKC _ _ _ _ _ (zD (zCJ) rfl rfl rfl ?_ ?_); (· exact Lq)) | (refine' hKC _ _ _ _ _ (zD (zBI) rfl rfl rfl ?_ ?_); (· exact Lq)) | (refine' hKC _ _ _ _ _ (zD (zBk _ _ _ _ _ _ _ _ _ ?_ ?_ ?_ ?_ ?_ ?_) rfl rfl rfl ?_ ?_); (rotate_left 15); (· exact Lq); (rotate_left 1); (iterate 6 (· exact Hq))) | (refine' hKC _ _ _ _ _ (zD (zCE _ _ _ _ _ _ _ _ _ ?_ ?_ ?_ ?_ ?_ ?_) rfl rfl rfl ?_ ?_); (rotate_left 15); (· exact Lq); (rotate_left 1); (iterate 6 (· exact Hq))) | (refine' hKC _ _ _ _ _ (zD (zDp _ _ _ _ _ _ _ _ _ ?_ ?_ ?_ ?_ ?_ ?_ ?_ ?_) rfl rfl rfl ?_ ?_); (rotate_left 17); (· exact Lq); (rotate_left 1); (iterate 8 (· exact Hq))) | (refine' hKC _ _ _ _ _ (zD (zAy _ _ _ _ _ _ ?_ ?_ ?_ ?_ ?_) rfl rfl rfl ?_ ?_); (rotate_left 11); (· exact Lq); (rotate_left 1); (iterate 5 (· exact Hq))) | (refine' hKC _ _ _ _ _ (zD (zHO _ _ _ _ _ _ _ ?_ ?_ ?_ ?_ ?_ ?_) rfl rfl rfl ?_ ?_); (rotate_left 13); (· exact Lq); (rotate_left 1); (iterate 6 (· exact Hq))) | (refine hKC _ _ _ _ _ (zD (l1) rfl rfl rfl ?_ ?_); (· exact Lq)) | (refine hKC _ _ _ _ _ (zD (l2) rfl rfl rfl ?_ ?_); (· exact Lq)) | (refine hKC _ _ _ _ _ (zD (l3) rfl rfl rfl ?_ ?_); (· exact Lq)) | (refine hKC _ _ _ _ _ (zD (hcc) rfl rfl rfl ?_ ?_); (· exact Lq)) | (refine hKC _ _ _ _ _ (zD (hmy) rfl rfl rfl ?_ ?_); (· exact Lq)) | (refine hKC _ _ _ _ _ (zD (f9) rfl rfl rfl ?_ ?_); (· exact Lq))); simp (maxSteps := 9999999) only [push_cast, seval, ↓reduceIte, hmm, hc1, hc2, hc3, hc4, hc5, undef]) | ((first | with_reducible refine hJ _ _ ?_ | (with_reducible refine hJ _ _ ?_ ?_; · kernel_rfl)); clear hJ hKC KC J) | ((with_reducible refine zH ?_ ?_); · rfl)
   refine zE ?_
   simp (maxSteps := 9999999) only [push_cast, seval, ↓reduceIte, show Tryz.f49.results = #[(.tmp 8), (.tmp 9)] from rfl]
   exact Lq
  cases c5
  case false =>
   repeat' first | (with_reducible first | refine zA ?_ | refine zB ?_ | refine zS ?_ | refine zg ?_ | refine zI ?_ | refine zJ ?_ | refine zG ?_) | ((first | with_reducible refine zC fun KC J hJ hKC => ?_ | with_reducible refine zU rfl fun KC J hJ hKC => ?_ | (refine' hKC _ _ _ _ _ (zD (zCO) rfl rfl rfl ?_ ?_); (· exact Lq)) | (refine' hKC _ _ _ _ _ (zD (zCJ) rfl rfl rfl ?_ ?_); (· exact Lq)) | (refine' hKC _ _ _ _ _ (zD (zBI) rfl rfl rfl ?_ ?_); (· exact Lq)) | (refine' hKC _ _ _ _ _ (zD (zBk _ _ _ _ _ _ _ _ _ ?_ ?_ ?_ ?_ ?_ ?_) rfl rfl rfl ?_ ?_); (rotate_left 15); (· exact Lq); (rotate_left 1); (iterate 6 (· exact Hq))) | (refine' hKC _ _ _ _ _ (zD (zCE _ _ _ _ _ _ _ _ _ ?_ ?_ ?_ ?_ ?_ ?_) rfl rfl rfl ?_ ?_); (rotate_left 15); (· exact Lq); (rotate_left 1); (iterate 6 (· exact Hq))) | (refine' hKC _ _ _ _ _ (zD (zDp _ _ _ _ _ _ _ _ _ ?_ ?_ ?_ ?_ ?_ ?_ ?_ ?_) rfl rfl rfl ?_ ?_); (rotate_left 17); (· exact Lq); (rotate_left 1); (iterate 8 (· exact Hq))) | (refine' hKC _ _ _ _ _ (zD (zAy _ _ _ _ _ _ ?_ ?_ ?_ ?_ ?_) rfl rfl rfl ?_ ?_); (rotate_left 11); (· exact Lq); (rotate_left 1); (iterate 5 (· exact Hq))) | (refine hKC _ _ _ _ _ (zD (l1) rfl rfl rfl ?_ ?_); (· exact Lq)) | (refine hKC _ _ _ _ _ (zD (l2) rfl rfl rfl ?_ ?_); (· exact Lq)) | (refine hKC _ _ _ _ _ (zD (l3) rfl rfl rfl ?_ ?_); (· exact Lq)) | (refine hKC _ _ _ _ _ (zD (hcc) rfl rfl rfl ?_ ?_); (· exact Lq)) | (refine hKC _ _ _ _ _ (zD (hmy) rfl rfl rfl ?_ ?_); (· exact Lq))); simp (maxSteps := 9999999) only [push_cast, seval, ↓reduceIte, hmm, hc1, hc2, hc3, hc4, hc5, undef]) | ((first | with_reducible refine hJ _ _ ?_ | (with_reducible refine hJ _ _ ?_ ?_; · kernel_rfl)); clear hJ hKC KC J) | ((with_reducible refine zF ?_ ?_); · rfl) | ((with_reducible refine zH ?_ ?_); · rfl)
   refine zE ?_
   simp (maxSteps := 9999999) only [push_cast, seval, ↓reduceIte, show Tryz.f49.results = #[(.tmp 8), (.tmp 9)] from rfl]
   exact Lq
  cases c6
  case false =>
   repeat' first | (with_reducible first | refine zA ?_ | refine zB ?_ | refine zS ?_ | refine zg ?_ | refine zI ?_ | refine zJ ?_ | refine zG ?_) | ((first | with_reducible refine zC fun KC J hJ hKC => ?_ | with_reducible refine zU rfl fun KC J hJ hKC => ?_ | (refine' hKC _ _ _ _ _ (zD (zCO) rfl rfl rfl ?_ ?_); (· exact Lq)) | (refine' hKC _ _ _ _ _ (zD (zCJ) rfl rfl rfl ?_ ?_); (· exact Lq)) | (refine' hKC _ _ _ _ _ (zD (zBI) rfl rfl rfl ?_ ?_); (· exact Lq)) | (refine' hKC _ _ _ _ _ (zD (zBk _ _ _ _ _ _ _ _ _ ?_ ?_ ?_ ?_ ?_ ?_) rfl rfl rfl ?_ ?_); (rotate_left 15); (· exact Lq); (rotate_left 1); (iterate 6 (· exact Hq))) | (refine' hKC _ _ _ _ _ (zD (zCE _ _ _ _ _ _ _ _ _ ?_ ?_ ?_ ?_ ?_ ?_) rfl rfl rfl ?_ ?_); (rotate_left 15); (· exact Lq); (rotate_left 1); (iterate 6 (· exact Hq))) | (refine' hKC _ _ _ _ _ (zD (zDp _ _ _ _ _ _ _ _ _ ?_ ?_ ?_ ?_ ?_ ?_ ?_ ?_) rfl rfl rfl ?_ ?_); (rotate_left 17); (· exact Lq); (rotate_left 1); (iterate 8 (· exact Hq))) | (refine' hKC _ _ _ _ _ (zD (zAy _ _ _ _ _ _ ?_ ?_ ?_ ?_ ?_) rfl rfl rfl ?_ ?_); (rotate_left 11); (· exact Lq); (rotate_left 1); (iterate 5 (· exact Hq))) | (refine hKC _ _ _ _ _ (zD (l1) rfl rfl rfl ?_ ?_); (· exact Lq)) | (refine hKC _ _ _ _ _ (zD (l2) rfl rfl rfl ?_ ?_); (· exact Lq)) | (refine hKC _ _ _ _ _ (zD (l3) rfl rfl rfl ?_ ?_); (· exact Lq)) | (refine hKC _ _ _ _ _ (zD (hcc) rfl rfl rfl ?_ ?_); (· exact Lq)) | (refine hKC _ _ _ _ _ (zD (hmy) rfl rfl rfl ?_ ?_); (· exact Lq))); simp (maxSteps := 9999999) only [push_cast, seval, ↓reduceIte, hmm, hc1, hc2, hc3, hc4, hc5, hc6, undef]) | ((first | with_reducible refine hJ _ _ ?_ | (with_reducible refine hJ _ _ ?_ ?_; · kernel_rfl)); clear hJ hKC KC J) | ((with_reducible refine zF ?_ ?_); · rfl) | ((with_reducible refine zH ?_ ?_); · rfl)
   refine zE ?_
   simp (maxSteps := 9999999) only [push_cast, seval, ↓reduceIte, show Tryz.f49.results = #[(.tmp 8), (.tmp 9)] from rfl]
   exact Lq
  repeat' first | (with_reducible first | refine zA ?_ | refine zB ?_ | refine zS ?_ | refine zg ?_ | refine zI ?_ | refine zJ ?_ | refine zG ?_) | ((first | with_reducible refine zC fun KC J hJ hKC => ?_ | with_reducible refine zU rfl fun KC J hJ hKC => ?_ | (refine' hKC _ _ _ _ _ (zD (zCO) rfl rfl rfl ?_ ?_); (· exact Lq)) | (refine' hKC _ _ _ _ _ (zD (zCJ) rfl rfl rfl ?_ ?_); (· exact Lq)) | (refine' hKC _ _ _ _ _ (zD (zBI) rfl rfl rfl ?_ ?_); (· exact Lq)) | (refine' hKC _ _ _ _ _ (zD (zBk _ _ _ _ _ _ _ _ _ ?_ ?_ ?_ ?_ ?_ ?_) rfl rfl rfl ?_ ?_); (rotate_left 15); (· exact Lq); (rotate_left 1); (iterate 6 (· exact Hq))) | (refine' hKC _ _ _ _ _ (zD (zCE _ _ _ _ _ _ _ _ _ ?_ ?_ ?_ ?_ ?_ ?_) rfl rfl rfl ?_ ?_); (rotate_left 15); (· exact Lq); (rotate_left 1); (iterate 6 (· exact Hq))) | (refine' hKC _ _ _ _ _ (zD (zDp _ _ _ _ _ _ _ _ _ ?_ ?_ ?_ ?_ ?_ ?_ ?_ ?_) rfl rfl rfl ?_ ?_); (rotate_left 17); (· exact Lq); (rotate_left 1); (iterate 8 (· exact Hq))) | (refine' hKC _ _ _ _ _ (zD (zAy _ _ _ _ _ _ ?_ ?_ ?_ ?_ ?_) rfl rfl rfl ?_ ?_); (rotate_left 11); (· exact Lq); (rotate_left 1); (iterate 5 (· exact Hq))) | (refine' hKC _ _ _ _ _ (zD (zGe _ _ _ _ _ _ _ _ _ ?_ ?_ ?_ ?_ ?_ ?_) rfl rfl rfl ?_ ?_); (rotate_left 15); (· exact Lq); (rotate_left 1); (iterate 6 (· exact Hq))) | (refine hKC _ _ _ _ _ (zD (l1) rfl rfl rfl ?_ ?_); (· exact Lq)) | (refine hKC _ _ _ _ _ (zD (l2) rfl rfl rfl ?_ ?_); (· exact Lq)) | (refine hKC _ _ _ _ _ (zD (l3) rfl rfl rfl ?_ ?_); (· exact Lq)) | (refine hKC _ _ _ _ _ (zD (hcc) rfl rfl rfl ?_ ?_); (· exact Lq)) | (refine hKC _ _ _ _ _ (zD (hmy) rfl rfl rfl ?_ ?_); (· exact Lq))); simp (maxSteps := 9999999) only [push_cast, seval, ↓reduceIte, hmm, hc1, hc2, hc3, hc4, hc5, hc6, undef]) | ((first | with_reducible refine hJ _ _ ?_ | (with_reducible refine hJ _ _ ?_ ?_; · kernel_rfl)); clear hJ hKC KC J) | ((with_reducible refine zF ?_ ?_); · rfl) | ((with_reducible refine zH ?_ ?_); · rfl)
  refine zE ?_
  simp (maxSteps := 9999999) only [push_cast, seval, ↓reduceIte, show Tryz.f49.results = #[(.tmp 8), (.tmp 9)] from rfl]
  exact Lq
 ·have hz : (m != 0) = true := by simpa using h0
  rw [decide_eq_false h0, Bool.false_and]
  refine Fn.of (fn := Tryz.f49) (by kernel_rfl) rfl (by kernel_rfl) ⟨[.agg [.sl false 1 (zM ns), .sl false 1 (zL us)], .v (.int .i64 o), .agg (zAN false false false false a), .agg (zAN false false false false b), .v undef, .v undef, .v undef, .v undef, .v undef, .v undef, .v undef, .v undef, .v undef, .v undef, .v undef, .v undef, .v undef, .v undef, .v undef, .v undef, .v undef, .v undef, .v undef, .v undef, .v undef, .v undef, .v undef, .v undef, .v undef, .v undef, .v undef, .v undef, .v undef, .v undef, .v undef, .v undef, .v undef, .v undef, .v undef, .v undef, .v undef, .v undef, .v undef, .v undef, .v undef, .v undef, .v undef, .v undef, .v undef, .v undef, .v undef, .v undef, .v undef, .v undef, .v undef, .v undef, .v undef, .v undef, .v undef, .v undef, .v undef, .v undef, .v undef, .v undef, .v undef, .v undef, .v undef, .v undef, .v undef, .v undef, .v undef, .v undef, .v undef, .v undef, .v undef, .v undef, .v undef, .v undef, .v undef, .v undef, .v undef, .v undef, .v undef, .v undef, .v undef, .v undef, .v undef, .v undef, .v undef, .v undef, .v undef, .v undef, .v undef, .v undef, .v undef, .v undef, .v undef, .v undef, .v undef, .v undef, .v undef, .v undef, .v undef, .v undef, .v undef, .v undef, .v undef, .v undef, .v undef, .v undef, .v undef, .v undef, .v undef, .v undef, .v undef, .v undef, .v undef, .v undef, .v undef, .v undef, .v undef, .v undef, .v undef, .v undef, .v undef, .v undef, .v undef], []⟩ rfl ?_
  simp only [zAN]
  repeat' first | (with_reducible first | refine zA ?_ | refine zB ?_ | refine zS ?_ | refine zI ?_) | ((first | with_reducible refine zC fun KC J hJ hKC => ?_ | with_reducible refine zU rfl fun KC J hJ hKC => ?_ | (refine' hKC _ _ _ _ _ (zD (zCO) rfl rfl rfl ?_ ?_); (· exact Lq)) | (refine' hKC _ _ _ _ _ (zD (zCJ) rfl rfl rfl ?_ ?_); (· exact Lq)) | (refine' hKC _ _ _ _ _ (zD (zBI) rfl rfl rfl ?_ ?_); (· exact Lq)) | (refine hKC _ _ _ _ _ (zD (l1) rfl rfl rfl ?_ ?_); (· exact Lq)) | (refine hKC _ _ _ _ _ (zD (l2) rfl rfl rfl ?_ ?_); (· exact Lq)) | (refine hKC _ _ _ _ _ (zD (l3) rfl rfl rfl ?_ ?_); (· exact Lq)) | (refine hKC _ _ _ _ _ (zD (hcc) rfl rfl rfl ?_ ?_); (· exact Lq)) | (refine hKC _ _ _ _ _ (zD (hmy) rfl rfl rfl ?_ ?_); (· exact Lq))); simp (maxSteps := 9999999) only [push_cast, seval, ↓reduceIte, hmm, hz]) | ((first | with_reducible refine hJ _ _ ?_ | (with_reducible refine hJ _ _ ?_ ?_; · kernel_rfl)); clear hJ hKC KC J) | ((with_reducible refine zF ?_ ?_); · rfl)
  refine zE ?_
  simp (maxSteps := 9999999) only [push_cast, seval, ↓reduceIte, show Tryz.f49.results = #[(.tmp 8), (.tmp 9)] from rfl]
  exact Lq
set_option maxHeartbeats 8000000 in
theorem zMa (ns : List ByteArray) (us : List Nat) (o : Int) (a b : Sta) (hu : U32 us) (ha : Sml15 a) (hb : Sml15 b) (hul : us.length ≤ 100) (h0 : zBz ns us o a b = 0) :
  Fn Tryz.prog 86 [.agg [.sl false 1 (zM ns), .sl false 1 (zL us)], .v (.int .i64 o), .agg (zAN false false false false a), .agg (zAN false false false false b)] [] (.v (.bool (zCX us o.toNat a b))) [] := by
 obtain ⟨ha1, ha2, ha3, ha4⟩ := ha
 obtain ⟨hb1, hb2, hb3, hb4⟩ := hb
 have hk := zHc h0
 obtain ⟨hc, ob, la, lb, ca, cb, ma, mb, sa, sb, oa, oo⟩ := hk
 obtain ⟨va, la', code, mem, stack, out⟩ := a
 obtain ⟨vb, lb', code2, mem2, stack2, out2⟩ := b
 obtain ⟨p, rfl, hp⟩ := zAP ob
 simp only at *
 obtain ⟨x, rfl, hx⟩ := zAP la
 obtain ⟨y, rfl, hy⟩ := zAP lb
 have f1 := zBi false false false false ns us p code code2 hu (by omega) (by omega) ca
 have f2 := zCF false false false false ns us p mem mem2 hu (by omega) (by omega) ma
 have f3 := zCp false false false false ns us p out out2 hu (by omega) (by omega) (by omega) oa oo
 have f4 := zz false false ns us p x hu hx (by omega)
 have f5 := zz false false ns us p y hu hy (by omega)
 have f6 := zFU false false false false ns us p stack stack2 hu (by omega) (by omega) sa
 have hcl : ∀ s, (zAV us p s).length ≤ s.length := fun s => by rw [zAV, List.length_take]; exact Nat.min_le_right _ _
 have f7 := zFq false false false ns us p stack hu (by omega) (by omega) sa
 have f8 := zFq false false false ns us p stack2 hu (by omega) (by omega) sb
 have f9 := zFU false false false false ns us p (zAV us p stack) (zAV us p stack2) hu (by omega) (by have := hcl stack; omega) (fun z hz => sa z (List.mem_of_mem_take hz))
 simp only [zCX, Int.toNat_natCast]
 obtain ⟨c1, hc1⟩ : ∃ c, zCG (alI us p) code code2 = c := ⟨_, rfl⟩
 obtain ⟨c2, hc2⟩ : ∃ c, zCM (alA us p) mem mem2 = c := ⟨_, rfl⟩
 obtain ⟨c3, hc3⟩ : ∃ c, decide (out.filter (zAh us p) = out2.filter (zAh us p)) = c := ⟨_, rfl⟩
 obtain ⟨c4, hc4⟩ : ∃ c, fl us x p = c := ⟨_, rfl⟩
 obtain ⟨c5, hc5⟩ : ∃ c, fl us y p = c := ⟨_, rfl⟩
 obtain ⟨c6, hc6⟩ : ∃ c, (va == vb && (x : Int) == (y : Int)) = c := ⟨_, rfl⟩
 rw [hc1, hc2, hc3, hc4, hc5, hc6]
 rw [hc1] at f1
 rw [hc2] at f2
 rw [hc3] at f3
 rw [hc4] at f4
 rw [hc5] at f5
 refine Fn.of (fn := Tryz.f86) (by kernel_rfl) rfl (by kernel_rfl) ⟨[.agg [.sl false 1 (zM ns), .sl false 1 (zL us)], .v (.int .i64 (p : Int)), .agg (zAN false false false false ⟨va, (x : Int), code, mem, stack, out⟩), .agg (zAN false false false false ⟨vb, (y : Int), code2, mem2, stack2, out2⟩), .v undef, .v undef, .v undef, .v undef, .v undef, .v undef, .v undef, .v undef, .v undef, .v undef, .v undef, .v undef, .v undef, .v undef, .v undef, .v undef, .v undef, .v undef, .v undef, .v undef, .v undef, .v undef, .v undef, .v undef, .v undef, .v undef, .v undef, .v undef, .v undef, .v undef, .v undef, .v undef, .v undef, .v undef, .v undef, .v undef, .v undef, .v undef, .v undef, .v undef, .v undef, .v undef, .v undef, .v undef, .v undef, .v undef, .v undef, .v undef, .v undef, .v undef, .v undef, .v undef, .v undef, .v undef, .v undef, .v undef, .v undef, .v undef, .v undef, .v undef, .v undef, .v undef, .v undef, .v undef, .v undef, .v undef, .v undef, .v undef, .v undef, .v undef, .v undef, .v undef, .v undef, .v undef, .v undef, .v undef, .v undef, .v undef, .v undef, .v undef, .v undef, .v undef, .v undef, .v undef, .v undef, .v undef, .v undef, .v undef], []⟩ rfl ?_
 simp only [zAN]
 cases c1
 case false =>
  repeat' first | (with_reducible first | refine zA ?_ | refine zB ?_ | refine zS ?_ | refine zI ?_) | ((first | with_reducible refine zC fun KC J hJ hKC => ?_ | (refine' hKC _ _ _ _ _ (zD (zBi _ _ _ _ _ _ _ _ _ ?_ ?_ ?_ ?_) rfl rfl rfl ?_ ?_); (rotate_left 13); (· exact Lq); (rotate_left 1); (iterate 4 (· exact Hq)))); simp (maxSteps := 9999999) only [push_cast, seval, ↓reduceIte, hc1, undef]) | ((with_reducible refine hJ _ _ ?_); clear hJ hKC KC J) | ((with_reducible refine zF ?_ ?_); · rfl)
  refine zE ?_
  simp (maxSteps := 9999999) only [push_cast, seval, ↓reduceIte, show Tryz.f86.results = #[(.tmp 8)] from rfl]
  exact Lq
 cases c2
 case false =>
  repeat' first | (with_reducible first | refine zA ?_ | refine zB ?_ | refine zS ?_ | refine zI ?_) | ((first | with_reducible refine zC fun KC J hJ hKC => ?_ | (refine' hKC _ _ _ _ _ (zD (zBi _ _ _ _ _ _ _ _ _ ?_ ?_ ?_ ?_) rfl rfl rfl ?_ ?_); (rotate_left 13); (· exact Lq); (rotate_left 1); (iterate 4 (· exact Hq))) | (refine' hKC _ _ _ _ _ (zD (zCF _ _ _ _ _ _ _ _ _ ?_ ?_ ?_ ?_) rfl rfl rfl ?_ ?_); (rotate_left 13); (· exact Lq); (rotate_left 1); (iterate 4 (· exact Hq)))); simp (maxSteps := 9999999) only [push_cast, seval, ↓reduceIte, hc1, hc2, undef]) | ((with_reducible refine hJ _ _ ?_); clear hJ hKC KC J) | ((with_reducible refine zF ?_ ?_); · rfl)
  refine zE ?_
  simp (maxSteps := 9999999) only [push_cast, seval, ↓reduceIte, show Tryz.f86.results = #[(.tmp 8)] from rfl]
  exact Lq
 cases c3
 case false =>
  repeat' first | (with_reducible first | refine zA ?_ | refine zB ?_ | refine zS ?_ | refine zI ?_) | ((first | with_reducible refine zC fun KC J hJ hKC => ?_ | (refine' hKC _ _ _ _ _ (zD (zBi _ _ _ _ _ _ _ _ _ ?_ ?_ ?_ ?_) rfl rfl rfl ?_ ?_); (rotate_left 13); (· exact Lq); (rotate_left 1); (iterate 4 (· exact Hq))) | (refine' hKC _ _ _ _ _ (zD (zCF _ _ _ _ _ _ _ _ _ ?_ ?_ ?_ ?_) rfl rfl rfl ?_ ?_); (rotate_left 13); (· exact Lq); (rotate_left 1); (iterate 4 (· exact Hq))) | (refine' hKC _ _ _ _ _ (zD (zCp _ _ _ _ _ _ _ _ _ ?_ ?_ ?_ ?_ ?_ ?_) rfl rfl rfl ?_ ?_); (rotate_left 15); (· exact Lq); (rotate_left 1); (iterate 6 (· exact Hq)))); simp (maxSteps := 9999999) only [push_cast, seval, ↓reduceIte, hc1, hc2, hc3, undef]) | ((with_reducible refine hJ _ _ ?_); clear hJ hKC KC J) | ((with_reducible refine zF ?_ ?_); · rfl)
  refine zE ?_
  simp (maxSteps := 9999999) only [push_cast, seval, ↓reduceIte, show Tryz.f86.results = #[(.tmp 8)] from rfl]
  exact Lq
 cases c4
 case false =>
  cases c5
  case true =>
   repeat' first | (with_reducible first | refine zA ?_ | refine zB ?_ | refine zS ?_ | refine zI ?_ | refine zJ ?_) | ((first | with_reducible refine zC fun KC J hJ hKC => ?_ | (refine' hKC _ _ _ _ _ (zD (zBi _ _ _ _ _ _ _ _ _ ?_ ?_ ?_ ?_) rfl rfl rfl ?_ ?_); (rotate_left 13); (· exact Lq); (rotate_left 1); (iterate 4 (· exact Hq))) | (refine' hKC _ _ _ _ _ (zD (zCF _ _ _ _ _ _ _ _ _ ?_ ?_ ?_ ?_) rfl rfl rfl ?_ ?_); (rotate_left 13); (· exact Lq); (rotate_left 1); (iterate 4 (· exact Hq))) | (refine' hKC _ _ _ _ _ (zD (zCp _ _ _ _ _ _ _ _ _ ?_ ?_ ?_ ?_ ?_ ?_) rfl rfl rfl ?_ ?_); (rotate_left 15); (· exact Lq); (rotate_left 1); (iterate 6 (· exact Hq))) | (refine' hKC _ _ _ _ _ (zD (zz _ _ _ _ _ _ ?_ ?_ ?_) rfl rfl rfl ?_ ?_); (rotate_left 9); (· exact Lq); (rotate_left 1); (iterate 3 (· exact Hq)))); simp (maxSteps := 9999999) only [push_cast, seval, ↓reduceIte, hc1, hc2, hc3, hc4, hc5, undef]) | ((with_reducible refine hJ _ _ ?_); clear hJ hKC KC J) | ((with_reducible refine zF ?_ ?_); · rfl) | ((with_reducible refine zH ?_ ?_); · rfl)
   refine zE ?_
   simp (maxSteps := 9999999) only [push_cast, seval, ↓reduceIte, show Tryz.f86.results = #[(.tmp 8)] from rfl]
   exact Lq
  repeat' first | (with_reducible first | refine zA ?_ | refine zB ?_ | refine zI ?_ | refine zJ ?_) | ((first | with_reducible refine zC fun KC J hJ hKC => ?_ | with_reducible refine zU rfl fun KC J hJ hKC => ?_ | (refine' hKC _ _ _ _ _ (zD (zBi _ _ _ _ _ _ _ _ _ ?_ ?_ ?_ ?_) rfl rfl rfl ?_ ?_); (rotate_left 13); (· exact Lq); (rotate_left 1); (iterate 4 (· exact Hq))) | (refine' hKC _ _ _ _ _ (zD (zCF _ _ _ _ _ _ _ _ _ ?_ ?_ ?_ ?_) rfl rfl rfl ?_ ?_); (rotate_left 13); (· exact Lq); (rotate_left 1); (iterate 4 (· exact Hq))) | (refine' hKC _ _ _ _ _ (zD (zCp _ _ _ _ _ _ _ _ _ ?_ ?_ ?_ ?_ ?_ ?_) rfl rfl rfl ?_ ?_); (rotate_left 15); (· exact Lq); (rotate_left 1); (iterate 6 (· exact Hq))) | (refine' hKC _ _ _ _ _ (zD (zz _ _ _ _ _ _ ?_ ?_ ?_) rfl rfl rfl ?_ ?_); (rotate_left 9); (· exact Lq); (rotate_left 1); (iterate 3 (· exact Hq))) | (refine' hKC _ _ _ _ _ (zD (zFq _ _ _ _ _ _ _ ?_ ?_ ?_ ?_) rfl rfl rfl ?_ ?_); (rotate_left 11); (· exact Lq); (rotate_left 1); (iterate 4 (· exact Hq))) | (refine hKC _ _ _ _ _ (zD (f9) rfl rfl rfl ?_ ?_); (· exact Lq))); simp (maxSteps := 9999999) only [push_cast, seval, ↓reduceIte, hc1, hc2, hc3, hc4, hc5, undef]) | ((first | with_reducible refine hJ _ _ ?_ | (with_reducible refine hJ _ _ ?_ ?_; · kernel_rfl)); clear hJ hKC KC J) | ((with_reducible refine zH ?_ ?_); · rfl)
  refine zE ?_
  simp (maxSteps := 9999999) only [push_cast, seval, ↓reduceIte, show Tryz.f86.results = #[(.tmp 8)] from rfl]
  exact Lq
 cases c5
 case false =>
  repeat' first | (with_reducible first | refine zA ?_ | refine zB ?_ | refine zS ?_ | refine zI ?_ | refine zJ ?_) | ((first | with_reducible refine zC fun KC J hJ hKC => ?_ | (refine' hKC _ _ _ _ _ (zD (zBi _ _ _ _ _ _ _ _ _ ?_ ?_ ?_ ?_) rfl rfl rfl ?_ ?_); (rotate_left 13); (· exact Lq); (rotate_left 1); (iterate 4 (· exact Hq))) | (refine' hKC _ _ _ _ _ (zD (zCF _ _ _ _ _ _ _ _ _ ?_ ?_ ?_ ?_) rfl rfl rfl ?_ ?_); (rotate_left 13); (· exact Lq); (rotate_left 1); (iterate 4 (· exact Hq))) | (refine' hKC _ _ _ _ _ (zD (zCp _ _ _ _ _ _ _ _ _ ?_ ?_ ?_ ?_ ?_ ?_) rfl rfl rfl ?_ ?_); (rotate_left 15); (· exact Lq); (rotate_left 1); (iterate 6 (· exact Hq))) | (refine' hKC _ _ _ _ _ (zD (zz _ _ _ _ _ _ ?_ ?_ ?_) rfl rfl rfl ?_ ?_); (rotate_left 9); (· exact Lq); (rotate_left 1); (iterate 3 (· exact Hq)))); simp (maxSteps := 9999999) only [push_cast, seval, ↓reduceIte, hc1, hc2, hc3, hc4, hc5, undef]) | ((with_reducible refine hJ _ _ ?_); clear hJ hKC KC J) | ((with_reducible refine zF ?_ ?_); · rfl) | ((with_reducible refine zH ?_ ?_); · rfl)
  refine zE ?_
  simp (maxSteps := 9999999) only [push_cast, seval, ↓reduceIte, show Tryz.f86.results = #[(.tmp 8)] from rfl]
  exact Lq
 cases c6
 case false =>
  repeat' first | (with_reducible first | refine zA ?_ | refine zB ?_ | refine zS ?_ | refine zI ?_ | refine zJ ?_) | ((first | with_reducible refine zC fun KC J hJ hKC => ?_ | (refine' hKC _ _ _ _ _ (zD (zBi _ _ _ _ _ _ _ _ _ ?_ ?_ ?_ ?_) rfl rfl rfl ?_ ?_); (rotate_left 13); (· exact Lq); (rotate_left 1); (iterate 4 (· exact Hq))) | (refine' hKC _ _ _ _ _ (zD (zCF _ _ _ _ _ _ _ _ _ ?_ ?_ ?_ ?_) rfl rfl rfl ?_ ?_); (rotate_left 13); (· exact Lq); (rotate_left 1); (iterate 4 (· exact Hq))) | (refine' hKC _ _ _ _ _ (zD (zCp _ _ _ _ _ _ _ _ _ ?_ ?_ ?_ ?_ ?_ ?_) rfl rfl rfl ?_ ?_); (rotate_left 15); (· exact Lq); (rotate_left 1); (iterate 6 (· exact Hq))) | (refine' hKC _ _ _ _ _ (zD (zz _ _ _ _ _ _ ?_ ?_ ?_) rfl rfl rfl ?_ ?_); (rotate_left 9); (· exact Lq); (rotate_left 1); (iterate 3 (· exact Hq)))); simp (maxSteps := 9999999) only [push_cast, seval, ↓reduceIte, hc1, hc2, hc3, hc4, hc5, hc6, undef]) | ((with_reducible refine hJ _ _ ?_); clear hJ hKC KC J) | ((with_reducible refine zF ?_ ?_); · rfl) | ((with_reducible refine zH ?_ ?_); · rfl)
  refine zE ?_
  simp (maxSteps := 9999999) only [push_cast, seval, ↓reduceIte, show Tryz.f86.results = #[(.tmp 8)] from rfl]
  exact Lq
 repeat' first | (with_reducible first | refine zA ?_ | refine zB ?_ | refine zS ?_ | refine zI ?_ | refine zJ ?_) | ((first | with_reducible refine zC fun KC J hJ hKC => ?_ | (refine' hKC _ _ _ _ _ (zD (zBi _ _ _ _ _ _ _ _ _ ?_ ?_ ?_ ?_) rfl rfl rfl ?_ ?_); (rotate_left 13); (· exact Lq); (rotate_left 1); (iterate 4 (· exact Hq))) | (refine' hKC _ _ _ _ _ (zD (zCF _ _ _ _ _ _ _ _ _ ?_ ?_ ?_ ?_) rfl rfl rfl ?_ ?_); (rotate_left 13); (· exact Lq); (rotate_left 1); (iterate 4 (· exact Hq))) | (refine' hKC _ _ _ _ _ (zD (zCp _ _ _ _ _ _ _ _ _ ?_ ?_ ?_ ?_ ?_ ?_) rfl rfl rfl ?_ ?_); (rotate_left 15); (· exact Lq); (rotate_left 1); (iterate 6 (· exact Hq))) | (refine' hKC _ _ _ _ _ (zD (zz _ _ _ _ _ _ ?_ ?_ ?_) rfl rfl rfl ?_ ?_); (rotate_left 9); (· exact Lq); (rotate_left 1); (iterate 3 (· exact Hq))) | (refine' hKC _ _ _ _ _ (zD (zFU _ _ _ _ _ _ _ _ _ ?_ ?_ ?_ ?_) rfl rfl rfl ?_ ?_); (rotate_left 13); (· exact Lq); (rotate_left 1); (iterate 4 (· exact Hq)))); simp (maxSteps := 9999999) only [push_cast, seval, ↓reduceIte, hc1, hc2, hc3, hc4, hc5, hc6, undef]) | ((with_reducible refine hJ _ _ ?_); clear hJ hKC KC J) | ((with_reducible refine zF ?_ ?_); · rfl) | ((with_reducible refine zH ?_ ?_); · rfl)
 refine zE ?_
 simp (maxSteps := 9999999) only [push_cast, seval, ↓reduceIte, show Tryz.f86.results = #[(.tmp 8)] from rfl]
 exact Lq
section
namespace Cp
variable {α β : Type}
def map (f : α → Cp α) : List α → Cp (List α)
 | [] => .ret []
 | x :: xs => (f x).bind fun y => (map f xs).bind fun ys => .ret (y :: ys)
def Each (p : α → α → Prop) : List α → List α → Prop
 | [], [] => True
 | x :: xs, y :: ys => p x y ∧ Each p xs ys
 | _, _ => False
theorem Each.length {p : α → α → Prop} : ∀ {xs ys : List α}, Each p xs ys → xs.length = ys.length
 | [], [], _ => rfl
 | _ :: _, _ :: _, h => by simp [Each.length h.2]
theorem Each.mem {p : α → α → Prop} : ∀ {xs ys : List α}, Each p xs ys → ∀ y ∈ ys, ∃ x ∈ xs, p x y
 | [], [], _, y, hy => by cases hy
 | x :: xs, z :: ys, h, y, hy => by
  rcases List.mem_cons.1 hy with rfl | hy
  ·exact ⟨x, List.mem_cons_self, h.1⟩
  ·obtain ⟨w, hw, hp⟩ := Each.mem h.2 y hy
   exact ⟨w, List.mem_cons_of_mem _ hw, hp⟩
end Cp
def hid (us : List Nat) (o : Nat) (l : Int) : Bool := !fl us l.toNat o
def vVC (sp : Sp) (r : Bool) : Cp Int := if r = true then zRt 13 else zTN sp.val
def zBp (us : List Nat) (o : Nat) : List Int := ((List.range us.length).map (fun a : Nat => (a : Int))).filter (hid us o)
end
theorem Each.of {α : Type} {p q : α → α → Prop} (h : ∀ x y, p x y → q x y) : ∀ {xs ys : List α}, Cp.Each p xs ys → Cp.Each q xs ys
 | [], [], _ => trivial
 | _ :: _, _ :: _, hh => ⟨h _ _ hh.1, Each.of h hh.2⟩
structure InSp (n : Nat) (sp : Sp) (s : Sta) : Prop where
 v : 0 ≤ s.v ∧ s.v ≤ 12
 l : zn n s.l = false
 cl : (s.code.length : Int) ≤ sp.code
 ml : (s.mem.length : Int) ≤ sp.mem
 sl : (s.stack.length : Int) ≤ sp.stack
 out : s.out = []
 c : ∀ x ∈ s.code, zBR n x = true ∧ zBE sp x = true
 m : ∀ x ∈ s.mem, zBL n x = true ∧ inB (-sp.val) sp.val x.1 = true
 s : ∀ x ∈ s.stack, zCC n x = true ∧ (x.1 || inB (-sp.val) sp.val x.2.1) = true
theorem zKx {n : Nat} {sp : Sp} (h : SpOk sp) {s : Sta} : zDE n sp s = true ↔ InSp n sp s := by
 have h1 := h.c1
 have h2 := h.m1
 have h3 := h.s1
 simp only [zDE, zEs, zDL, Bool.and_eq_true, decide_eq_true_eq, List.all_eq_true, zGF, Bool.not_eq_true']
 constructor
 ·rintro ⟨⟨⟨a1, a2⟩, a3, a4, a5, a6, a7, a8, a9, a10⟩, b1, b2, b3, b4, b5, b6, b7⟩
  exact ⟨a3, a4, b1, b2, b3, List.length_eq_zero_iff.1 b4, fun x hx => ⟨a1 x hx, b5 x hx⟩, fun x hx => ⟨a5 x hx, zGF.2 (b6 x hx)⟩, fun x hx => ⟨a7 x hx, b7 x hx⟩⟩
 ·rintro ⟨a3, a4, b1, b2, b3, b4, c, m, s'⟩
  rw [b4]
  exact ⟨⟨⟨fun x hx => (c x hx).1, by omega⟩, a3, a4, fun x hx => (m x hx).1, by omega, fun x hx => (s' x hx).1, by omega, fun x hx => (by cases hx), Nat.zero_le _⟩, b1, b2, b3, rfl, fun x hx => (c x hx).2, fun x hx => zGF.1 (m x hx).2, fun x hx => (s' x hx).2⟩
theorem zPl (f : Bool) (ws : List Int) (i : Int) (hb : ws.length ≤ 9223372036854775807) : Fn Tryz.prog 257 [.sl f 1 (zK ws), .v (.int .i64 i)] [] (.tup [.v (.int .i64 (zCx ws i).1), .v (.int .i64 (zCx ws i).2)]) [] := by
 refine Fn.of (fn := Tryz.f257) (by kernel_rfl) rfl (by kernel_rfl) ⟨[.sl f 1 (zK ws), .v (.int .i64 i), .v undef, .v undef, .v undef, .v undef, .v undef, .v undef, .v undef, .v undef, .v undef, .v undef, .v undef, .v undef, .v undef, .v undef, .v undef, .v undef, .v undef, .v undef, .v undef, .v undef, .v undef, .v undef, .v undef, .v undef, .v undef, .v undef, .v undef, .v undef, .v undef, .v undef, .v undef, .v undef, .v undef, .v undef, .v undef, .v undef, .v undef, .v undef, .v undef], []⟩ rfl ?_
 by_cases hw : zAI ws = true
 ·obtain ⟨h1, h2, h3, h4⟩ := zCa hw
  have hs : zCx ws i = if i < 0 ∨ ws.length ≤ i ∨ ws.getD i.toNat 0 = 0 then (0, 9) else ((ws.take i.toNat).sum, 0) := if_neg (by simp [hw])
  rw [hs]
  by_cases hi0 : i < 0
  ·skip
   repeat' first | (with_reducible first | refine zA ?_ | refine zB ?_ | refine zS ?_ | refine zg ?_ | refine zI ?_ | refine zG ?_) | ((first | with_reducible refine zC fun KC J hJ hKC => ?_ | (refine' hKC _ _ _ _ _ (zD (zBw _ _ ?_) rfl rfl rfl ?_ ?_); (rotate_left 3); (· exact Lq); (rotate_left 1); (iterate 1 (· exact Hq)))); simp (maxSteps := 9999999) only [push_cast, seval, ↓reduceIte, hw, hi0]) | ((with_reducible refine hJ _ _ ?_); clear hJ hKC KC J) | ((with_reducible refine zF ?_ ?_); · rfl) | ((with_reducible refine zH ?_ ?_); · rfl)
   refine zE ?_
   simp (maxSteps := 9999999) only [push_cast, seval, ↓reduceIte, show Tryz.f257.results = #[(.cell 4 3), (.cell 5 40)] from rfl]
   rw [if_pos (.inl hi0)]
   exact Lq
  by_cases hi1 : (ws.length : Int) ≤ i
  ·skip
   repeat' first | (with_reducible first | refine zA ?_ | refine zB ?_ | refine zS ?_ | refine zg ?_ | refine zI ?_ | refine zG ?_) | ((first | with_reducible refine zC fun KC J hJ hKC => ?_ | (refine' hKC _ _ _ _ _ (zD (zBw _ _ ?_) rfl rfl rfl ?_ ?_); (rotate_left 3); (· exact Lq); (rotate_left 1); (iterate 1 (· exact Hq)))); simp (maxSteps := 9999999) only [push_cast, seval, ↓reduceIte, hw, hi0, hi1]) | ((with_reducible refine hJ _ _ ?_); clear hJ hKC KC J) | ((with_reducible refine zF ?_ ?_); · rfl) | ((with_reducible refine zH ?_ ?_); · rfl)
   refine zE ?_
   simp (maxSteps := 9999999) only [push_cast, seval, ↓reduceIte, show Tryz.f257.results = #[(.cell 4 3), (.cell 5 40)] from rfl]
   rw [if_pos (.inr (.inl hi1))]
   exact Lq
  have hx : ws[i.toNat]? = some (ws.getD i.toNat 0) := by rw [List.getD_eq_getElem?_getD, List.getElem?_eq_getElem (by omega)]; rfl
  by_cases hi2 : ws.getD i.toNat 0 = 0
  ·have hx' := hx
   rw [hi2] at hx'
   repeat' first | (with_reducible first | refine zA ?_ | refine zB ?_ | refine zS ?_ | refine zg ?_ | refine zI ?_ | refine zG ?_) | ((with_reducible refine And.intro ?_ ?_); · exact Sq) | ((first | with_reducible refine zC fun KC J hJ hKC => ?_ | (refine' hKC _ _ _ _ _ (zD (zBw _ _ ?_) rfl rfl rfl ?_ ?_); (rotate_left 3); (· exact Lq); (rotate_left 1); (iterate 1 (· exact Hq)))); simp (maxSteps := 9999999) only [push_cast, seval, ↓reduceIte, hw, hi0, hi1, zo hx']) | ((with_reducible refine hJ _ _ ?_); clear hJ hKC KC J) | ((with_reducible refine zF ?_ ?_); · rfl) | ((with_reducible refine zH ?_ ?_); · rfl)
   refine zE ?_
   simp (maxSteps := 9999999) only [push_cast, seval, ↓reduceIte, show Tryz.f257.results = #[(.cell 4 3), (.cell 5 40)] from rfl]
   rw [if_pos (.inr (.inr hi2))]
   exact Lq
  have hi2' : (ws.getD i.toNat 0 == 0) = false := by simpa using hi2
  rw [if_neg (by omega)]
  repeat' first | (with_reducible first | refine zA ?_ | refine zB ?_ | refine zO ?_ | refine zJ ?_ | refine zG ?_) | ((with_reducible refine And.intro ?_ ?_); · exact Sq) | ((first | with_reducible refine zC fun KC J hJ hKC => ?_ | (refine' hKC _ _ _ _ _ (zD (zBw _ _ ?_) rfl rfl rfl ?_ ?_); (rotate_left 3); (· exact Lq); (rotate_left 1); (iterate 1 (· exact Hq))) | (refine' hKC _ _ _ _ _ (zD (zKZ _ _) rfl rfl rfl ?_ ?_); (rotate_left 2); (· exact Lq))); simp (maxSteps := 9999999) only [push_cast, seval, ↓reduceIte, hw, hi0, hi1, zo hx, hi2']) | ((with_reducible refine hJ _ _ ?_); clear hJ hKC KC J) | ((with_reducible refine zH ?_ ?_); · rfl)
  refine zKj ([.sl f 1 (zK ws), .v (.int .i64 i), .ptr 0 0 0, .ptr 1 0 0, .ptr 2 0 0, .ptr 3 0 0, .any, .any, .any, .any, .any, .any, .any, .any, .any, .any, .any, .any, .any, .any, .any, .any, .any, .any, .any, .any, .any, .any, .any, .fn 297 [.fad [.sl f 1 (zK ws)]], .any, .any, .any, .any, .any, .any, .any, .any, .any, .any, .any]) (by exact Lq) ?_
  refine zDl (f := 297) rfl rfl (zKm f ws h3 (by omega)) (fun i hi => rfl) 6 rfl rfl
   (fun _ => [.ent ⟨0, none, 26, [.sl f 1 (zK ws)], .cells⟩, .ent ⟨0, none, 3, [.v (.int .i64 i)], .cells⟩, .ent ⟨0, none, 3, [.v (.int .i64 0)], .cells⟩, .ent ⟨0, none, 40, [.v (.int .i64 0)], .cells⟩, .free, .free]) (fun _ => [.ent ⟨0, none, 26, [.sl f 1 (zK ws)], .cells⟩, .ent ⟨0, none, 3, [.v (.int .i64 i)], .cells⟩, .ent ⟨0, none, 3, [.v (.int .i64 (ws.take i.toNat).sum)], .cells⟩, .ent ⟨0, none, 40, [.v (.int .i64 0)], .cells⟩, .free, .free])
   rfl (fun i => ⟨rfl, rfl⟩) (fun i => ⟨rfl, rfl⟩) (fun i => ⟨rfl, rfl⟩) (fun k => decide (¬ (k : Int) = i)) .ret .ret rfl
   (fun k => [.sl f 1 (zK ws), .v (.int .i64 i), .ptr 0 0 0, .ptr 1 0 0, .ptr 2 0 0, .ptr 3 0 0, .v (.int .i64 (k : Int)), .v (.int .i64 (ws.take (k + 1)).sum), .any, .any, .any, .any, .any, .any, .any, .any, .any, .any, .any, .any, .any, .any, .any, .any, .any, .any, .any, .any, .any, .fn 297 [.fad [.sl f 1 (zK ws)]], .v (.int .i64 (k : Int)), .v (.int .i64 (ws.take (k + 1)).sum), .any, .any, .any, .any, .any, .any, .any, .any, .any])
   (fun l' k r σ hk => ?_) (fun i => rfl) (fun l' k hk hb' => ?_) (fun hall => ?_) (fun k hk hkf hkb => ?_)
  ·skip
   repeat' first | (with_reducible first | refine zA ?_ | refine zB ?_) | ((with_reducible refine And.intro ?_ ?_); · exact Sq) | ((with_reducible refine zC fun KC J hJ hKC => ?_); simp (maxSteps := 9999999) only [push_cast, seval, ↓reduceIte]) | ((with_reducible refine hJ _ _ ?_); clear hJ hKC KC J)
   exact rfl
  ·by_cases hki : (k : Int) = i
   ·have hk' : i.toNat = k := by omega
    have htk := zBU hk
    have hxk : ws.getD i.toNat 0 = ws[k] := by rw [hk']; simp [hk]
    have hbk := zBg h3 (k + 1)
    have hwk := h3 ws[k] (List.getElem_mem _)
    have hsub : IntKind.i64.wrap ((ws.take (k + 1)).sum - ws.getD i.toNat 0) = (ws.take i.toNat).sum := by rw [hxk, hk', zCP (by omega) (by omega)]; omega
    have hki' : ((k : Int) == i) = true := by simpa using hki
    repeat' first | (with_reducible first | refine zA ?_ | refine zB ?_ | refine zg ?_ | refine zI ?_ | refine zG ?_) | ((with_reducible refine And.intro ?_ ?_); · exact Sq) | ((with_reducible refine zC fun KC J hJ hKC => ?_); simp (maxSteps := 9999999) only [push_cast, seval, ↓reduceIte, hki', zo hx, hsub]) | ((with_reducible refine hJ _ _ ?_); clear hJ hKC KC J) | ((with_reducible refine zF ?_ ?_); · rfl)
    exact .inr ⟨by simp [hki], rfl, zP (k := 0) rfl rfl rfl⟩
   ·have hki' : ((k : Int) == i) = false := by simpa using hki
    repeat' first | (with_reducible first | refine zA ?_ | refine zB ?_ | refine zO ?_ | refine zJ ?_ | refine zG ?_) | ((with_reducible refine zC fun KC J hJ hKC => ?_); simp (maxSteps := 9999999) only [push_cast, seval, ↓reduceIte, hki']) | ((with_reducible refine hJ _ _ ?_); clear hJ hKC KC J) | ((with_reducible refine zH ?_ ?_); · rfl)
    exact .inl ⟨by simp [hki], rfl, zP (k := 0) rfl rfl rfl⟩
  ·have := hall i.toNat (by omega)
   simp at this
   omega
  ·skip
   repeat' first | (with_reducible first | refine zS ?_ | refine zg ?_)
   refine zE ?_
   simp (maxSteps := 9999999) only [push_cast, seval, ↓reduceIte, show Tryz.f257.results = #[(.cell 4 3), (.cell 5 40)] from rfl]
   exact Lq
 ·have hw' : zAI ws = false := by simpa using hw
  repeat' first | (with_reducible first | refine zA ?_ | refine zB ?_ | refine zS ?_ | refine zg ?_ | refine zI ?_ | refine zG ?_) | ((first | with_reducible refine zC fun KC J hJ hKC => ?_ | (refine' hKC _ _ _ _ _ (zD (zBw _ _ ?_) rfl rfl rfl ?_ ?_); (rotate_left 3); (· exact Lq); (rotate_left 1); (iterate 1 (· exact Hq)))); simp (maxSteps := 9999999) only [push_cast, seval, ↓reduceIte, hw']) | ((with_reducible refine hJ _ _ ?_); clear hJ hKC KC J) | ((with_reducible refine zF ?_ ?_); · rfl)
  refine zE ?_
  simp (maxSteps := 9999999) only [push_cast, seval, ↓reduceIte, show Tryz.f257.results = #[(.cell 4 3), (.cell 5 40)] from rfl]
  rw [show zCx ws i = (0, 1) from if_pos hw']
  exact Lq
def zCN (sp : Sp) (v : Int) : Int := (zBC sp.val v).1
def opU (sp : Sp) (i : Int) : Int := (zCx sp.ws i).1
def zCl (sp : Sp) (x : Bool × Int × Int) : Int := if x.1 = true then x.2.1 else zCN sp x.2.1
def zFM (x : Bool × Int × Int) : Int := if x.1 = true then 1 else 0
def zAz (sp : Sp) (x : Int × Int × Int) : List Int := if x.1 = 1 then [opU sp 1, zCN sp x.2.1, x.2.2] else if x.1 = 8 ∨ x.1 = 9 ∨ x.1 = 10 then [opU sp x.1, x.2.1] else [opU sp x.1]
def zBb (sp : Sp) (x : Int × Int) : List Int := [zCN sp x.1, x.2]
def zBc (sp : Sp) (x : Bool × Int × Int) : List Int := [zFM x, zCl sp x, x.2.2]
def zBY (sp : Sp) (s : Sta) : List Int :=
 ((s.code.length : Int) :: s.code.flatMap (zAz sp)) ++ (((s.mem.length : Int) :: s.mem.flatMap (zBb sp)) ++ (((s.stack.length : Int) :: s.stack.flatMap (zBc sp)) ++ [s.v, s.l]))
def vIL (sp : Sp) (us : List Nat) (o : Nat) (x : Int × Int × Int) : List Int := if x.1 = 1 ∧ hid us o x.2.2 = true then [zCN sp x.2.1] else []
def vAL (sp : Sp) (us : List Nat) (o : Nat) (x : Int × Int) : List Int := if hid us o x.2 = true then [zCN sp x.1] else []
def vSL (sp : Sp) (us : List Nat) (o : Nat) (x : Bool × Int × Int) : List Int := if hid us o x.2.2 = true then [zCl sp x] else []
def zBZ (sp : Sp) (x : Bool × Int × Int) : List Int := [zFM x, x.2.2, zCl sp x]
def zDR (us : List Nat) (o : Nat) (l : Int) : Nat := (((List.range l.toNat).map (fun a : Nat => (a : Int))).filter (hid us o)).length
def zAa (sp : Sp) (us : List Nat) (o : Nat) (a b : Sta) : List Int :=
 b.code.flatMap (vIL sp us o) ++ (b.mem.flatMap (vAL sp us o) ++
  if hid us o a.l = true then (zAV us o b.stack).flatMap (vSL sp us o) ++ (((b.stack.length : Int) - ((zAV us o b.stack).length : Int)) :: (b.stack.drop (zAV us o b.stack).length).flatMap (zBZ sp) ++ [b.v, (zDR us o b.l : Int)])
  else b.stack.flatMap (vSL sp us o))
theorem zJe {us : List Nat} {o : Nat} {l : Int} (h1 : zn us.length l = false) (h2 : hid us o l = true) : (zDR us o l : Int) < ((zBp us o).length : Int) ∧ (zBp us o).getD (zDR us o l) 0 = l := by
 obtain ⟨l, rfl, hl⟩ := zAP h1
 unfold zDR zBp
 rw [Int.toNat_natCast]
 obtain ⟨k, hk⟩ : ∃ k, us.length = l + (k + 1) := ⟨us.length - l - 1, by omega⟩
 rw [hk, List.range_add, List.map_append, List.filter_append, List.range_succ_eq_map]
 simp only [List.map_cons, List.filter_cons, Nat.add_zero, h2, if_true, List.length_append, List.length_cons]
 refine ⟨by omega, ?_⟩
 rw [List.getD_eq_getElem?_getD, List.getElem?_append_right (Nat.le_refl _), Nat.sub_self]
 rfl
def bel (us : List Nat) (b a : Nat) : Bool := !(b == a) && fl us b a
def zOr (us : List Nat) (h : Nat → Nat) (a : Nat) : Nat → Nat
 | 0 => 0
 | b + 1 => if bel us b a = true then max (zOr us h a b) (1 + h b) else zOr us h a b
def zSN (us : List Nat) : Nat → Nat → Nat
 | 0, _ => 0
 | k + 1, a => zOr us (zSN us k) a us.length
theorem zNS {us : List Nat} {h : Nat → Nat} {k : Nat} (hh : ∀ b, h b ≤ k) (a : Nat) : ∀ n, zOr us h a n ≤ k + 1
 | 0 => by simp [zOr]
 | n + 1 => by
  have := zNS (us := us) hh a n
  have := hh n
  unfold zOr; split <;> omega
theorem zNl (us : List Nat) : ∀ k a, zSN us k a ≤ k
 | 0, _ => Nat.le_refl _
 | k + 1, a => zNS (zNl us k) a _
def hgt (us : List Nat) (a : Nat) : Nat := zSN us 8 a
theorem zSM (us : List Nat) (a : Nat) : hgt us a ≤ 8 := zNl us 8 a
def zRf (v : Int) : Int := if v < 0 then -v else v
theorem zQu {v : Int} (h0 : -20 ≤ v) (h1 : v ≤ 20) : 0 ≤ zRf v ∧ zRf v ≤ 20 := by unfold zRf; split <;> omega
def zSq (us : List Nat) (z : Int × Int × Int) (v l : Int) : Int × Int × Int := (z.1, z.2.1 + zRf v, z.2.2 + ((hgt us l.toNat : Nat) : Int))
def Bz (k : Nat) (z : Int × Int × Int) : Prop := 0 ≤ z.1 ∧ z.1 ≤ 100 * (k : Int) ∧ 0 ≤ z.2.1 ∧ z.2.1 ≤ 100 * (k : Int) ∧ 0 ≤ z.2.2 ∧ z.2.2 ≤ 100 * (k : Int)
theorem Bz.add {us : List Nat} {k : Nat} {z : Int × Int × Int} (h : Bz k z) {v l : Int} (h0 : -20 ≤ v) (h1 : v ≤ 20) : Bz (k + 1) (zSq us z v l) := by
 have := zQu h0 h1
 have := zSM us l.toNat
 simp only [Bz, zSq] at h ⊢
 omega
structure StaN (n : Nat) (s : Sta) : Prop where
 code : ∀ x ∈ s.code, -20 ≤ x.2.1 ∧ x.2.1 ≤ 20 ∧ (x.1 = 1 → zn n x.2.2 = false)
 mem : ∀ x ∈ s.mem, -20 ≤ x.1 ∧ x.1 ≤ 20 ∧ zn n x.2 = false
 stack : ∀ x ∈ s.stack, -20 ≤ x.2.1 ∧ x.2.1 ≤ 20 ∧ zn n x.2.2 = false
 out : ∀ x ∈ s.out, -20 ≤ x.1 ∧ x.1 ≤ 20 ∧ zn n x.2 = false
 codeL : s.code.length ≤ 12
 memL : s.mem.length ≤ 6
 stackL : s.stack.length ≤ 12
 outL : s.out.length ≤ 8
 v0 : -20 ≤ s.v
 v1 : s.v ≤ 20
 l : zn n s.l = false
@[push_cast] theorem zXK : tyI Tryz.prog 142 = some ⟨TypeDesc.func #[3] #[4] false, 1, 8, Value.nilFunc⟩ := by kernel_rfl
abbrev inD (a b : Int) : D := .fn 299 [.fad [.v (.int .i64 a)], .fad [.v (.int .i64 b)]]
theorem zEj (a b n : Int) : Fn Tryz.prog 299 [.v (.int .i64 n), .fad [.v (.int .i64 a)], .fad [.v (.int .i64 b)]] [] (.v (.bool (inB a b n))) [] := by
 obtain ⟨x, hx⟩ : ∃ x, decide (a ≤ n) = x := ⟨_, rfl⟩
 rw [inB, hx]
 refine Fn.of (fn := Tryz.f299) (by kernel_rfl) rfl (by kernel_rfl) ⟨[.v (.int .i64 n), .fad [.v (.int .i64 a)], .fad [.v (.int .i64 b)], .v undef, .v undef, .v undef, .v undef, .v undef, .v undef, .v undef, .v undef, .v undef, .v undef], []⟩ rfl ?_
 cases x
 all_goals
  repeat' first | (with_reducible first | refine zA ?_ | refine zB ?_ | refine zI ?_) | ((with_reducible refine zC fun KC J hJ hKC => ?_); simp (maxSteps := 9999999) only [push_cast, seval, ↓reduceIte, hx, undef]) | ((with_reducible refine hJ _ _ ?_); clear hJ hKC KC J)
  refine zE ?_
  simp (maxSteps := 9999999) only [push_cast, seval, ↓reduceIte, show Tryz.f299.results = #[(.tmp 4)] from rfl]
  exact Lq
theorem zHN (a b : Int) : Fn Tryz.prog 298 [.v (.int .i64 a), .v (.int .i64 b)] [] (inD a b) [] := by
 refine Fn.of (fn := Tryz.f298) (by kernel_rfl) rfl (by kernel_rfl) ⟨[.v (.int .i64 a), .v (.int .i64 b), .v undef, .v undef, .v undef, .v undef], []⟩ rfl ?_
 repeat' first | (with_reducible first | refine zA ?_ | refine zB ?_) | ((with_reducible refine zC fun KC J hJ hKC => ?_); simp (maxSteps := 9999999) only [push_cast, seval, ↓reduceIte]) | ((with_reducible refine hJ _ _ ?_); clear hJ hKC KC J)
 refine zt 0 rfl (by simp (maxSteps := 9999999) only [push_cast, seval, ↓reduceIte]) ?_
 simp (maxSteps := 9999999) only [push_cast, seval, ↓reduceIte, zAH, zd, fr3, fr2, fr1, fr0, zl, zj]
 refine zt 1 rfl (by simp (maxSteps := 9999999) only [push_cast, seval, ↓reduceIte]) ?_
 simp (maxSteps := 9999999) only [push_cast, seval, ↓reduceIte, zAH, zd, fr3, fr2, fr1, fr0, zl, zj]
 refine zI ?_
 refine zE ?_
 simp (maxSteps := 9999999) only [push_cast, seval, ↓reduceIte, show Tryz.f298.results = #[(.tmp 4)] from rfl]
 exact Lq
abbrev zSR : Ent := ⟨0, none, 304, [inD (-20) 20, inD 0 12, inD 0 3, inD 0 1], .map [.int .i64 1, .int .i64 8, .int .i64 9, .int .i64 10]⟩
theorem zPI : Fn Tryz.prog 292 [] [] (.kref true 0 0) [.ent zSR] := by
 have h1 := zHN (-20) 20
 have h2 := zHN 0 12
 have h3 := zHN 0 3
 have h4 := zHN 0 1
 refine Fn.of (fn := Tryz.f292) (by kernel_rfl) rfl (by kernel_rfl) ⟨[.v undef, .v undef, .v undef, .v undef, .v undef, .v undef, .v undef, .v undef, .v undef, .v undef, .v undef, .v undef], []⟩ rfl ?_
 repeat' first | (with_reducible first | refine zA ?_ | refine zB ?_) | ((first | with_reducible refine zC fun KC J hJ hKC => ?_ | (refine hKC _ _ _ _ _ (zD (h1) rfl rfl rfl ?_ ?_); (· exact Lq)) | (refine hKC _ _ _ _ _ (zD (h2) rfl rfl rfl ?_ ?_); (· exact Lq)) | (refine hKC _ _ _ _ _ (zD (h3) rfl rfl rfl ?_ ?_); (· exact Lq)) | (refine hKC _ _ _ _ _ (zD (h4) rfl rfl rfl ?_ ?_); (· exact Lq))); simp (maxSteps := 9999999) only [push_cast, seval, ↓reduceIte]) | ((with_reducible refine hJ _ _ ?_); clear hJ hKC KC J)
 refine zI ?_
 refine zEb [0] ?_ (by simp) ?_
 ·simp (maxSteps := 9999999) only [push_cast, seval, ↓reduceIte, show Tryz.f292.results = #[.tmp 0] from rfl, pick, mOf, idx]
  exact ⟨rfl, zN _⟩
 ·intro k hk
  exact absurd hk (by simp)
theorem zKO (n : Nat) (x : Int × Int × Int) : Fn Tryz.prog 270 [.v (.int .i64 n), .agg [.v (.int .i64 x.1), .v (.int .i64 x.2.1), .v (.int .i64 x.2.2)]] [] (.v (.bool (zBR n x))) [] := by
 obtain ⟨o, v, l⟩ := x
 have hsp := zPI
 simp only [zBR]
 obtain ⟨a1, ha1⟩ : ∃ b, decide (o < 0) = b := ⟨_, rfl⟩
 cases a1
 case true =>
  have ho := of_decide_eq_true ha1
  rw [if_neg (by omega), show inB 0 12 o = false by simp [inB]; omega]
  refine Fn.of (fn := Tryz.f270) (by kernel_rfl) rfl (by kernel_rfl) ⟨[.v (.int .i64 n), .agg [.v (.int .i64 o), .v (.int .i64 v), .v (.int .i64 l)], .v undef, .v undef, .v undef, .v undef, .v undef, .v undef, .v undef, .v undef, .v undef, .v undef, .v undef, .v undef, .v undef, .v undef, .v undef, .v undef, .v undef, .v undef, .v undef, .v undef, .v undef, .v undef, .v undef, .v undef, .v undef, .v undef, .v undef, .v undef, .v undef, .v undef, .v undef, .v undef, .v undef, .v undef, .v undef, .v undef, .v undef, .v undef, .v undef, .v undef, .v undef, .v undef, .v undef, .v undef, .v undef, .v undef, .v undef, .v undef, .v undef, .v undef, .v undef, .v undef], []⟩ rfl ?_
  repeat' first | (with_reducible first | refine zA ?_ | refine zB ?_ | refine zS ?_ | refine zI ?_) | ((with_reducible refine zC fun KC J hJ hKC => ?_); simp (maxSteps := 9999999) only [push_cast, seval, ↓reduceIte, ha1, undef]) | ((with_reducible refine hJ _ _ ?_); clear hJ hKC KC J) | ((with_reducible refine zF ?_ ?_); · rfl)
  refine zE ?_
  simp (maxSteps := 9999999) only [push_cast, seval, ↓reduceIte, show Tryz.f270.results = #[(.tmp 4)] from rfl]
  exact Lq
 have ho := of_decide_eq_false ha1
 obtain ⟨a2, ha2⟩ : ∃ b, decide (13 ≤ o) = b := ⟨_, rfl⟩
 cases a2
 case true =>
  have ho2 := of_decide_eq_true ha2
  rw [if_neg (by omega), show inB 0 12 o = false by simp [inB]; omega]
  refine Fn.of (fn := Tryz.f270) (by kernel_rfl) rfl (by kernel_rfl) ⟨[.v (.int .i64 n), .agg [.v (.int .i64 o), .v (.int .i64 v), .v (.int .i64 l)], .v undef, .v undef, .v undef, .v undef, .v undef, .v undef, .v undef, .v undef, .v undef, .v undef, .v undef, .v undef, .v undef, .v undef, .v undef, .v undef, .v undef, .v undef, .v undef, .v undef, .v undef, .v undef, .v undef, .v undef, .v undef, .v undef, .v undef, .v undef, .v undef, .v undef, .v undef, .v undef, .v undef, .v undef, .v undef, .v undef, .v undef, .v undef, .v undef, .v undef, .v undef, .v undef, .v undef, .v undef, .v undef, .v undef, .v undef, .v undef, .v undef, .v undef, .v undef, .v undef], []⟩ rfl ?_
  repeat' first | (with_reducible first | refine zA ?_ | refine zB ?_ | refine zS ?_ | refine zI ?_) | ((with_reducible refine zC fun KC J hJ hKC => ?_); simp (maxSteps := 9999999) only [push_cast, seval, ↓reduceIte, ha1, ha2, undef]) | ((with_reducible refine hJ _ _ ?_); clear hJ hKC KC J) | ((with_reducible refine zF ?_ ?_); · rfl)
  refine zE ?_
  simp (maxSteps := 9999999) only [push_cast, seval, ↓reduceIte, show Tryz.f270.results = #[(.tmp 4)] from rfl]
  exact Lq
 have ho2 := of_decide_eq_false ha2
 have hin : inB 0 12 o = true := by simp [inB]; omega
 by_cases e1 : o = 1
 ·subst e1
  have h1 := zEj (-20) 20 v
  rw [if_pos rfl]
  obtain ⟨b1, hb1⟩ : ∃ b, inB (-20) 20 v = b := ⟨_, rfl⟩
  obtain ⟨b2, hb2⟩ : ∃ b, decide (0 ≤ l) = b := ⟨_, rfl⟩
  have hod : (!zn n l) = (b2 && decide (l < (n : Int))) := by
   rw [← hb2, Bool.eq_iff_iff]; simp [zn]
  rw [hod, hb1]
  rw [hb1] at h1
  cases b1 <;> cases b2
  all_goals
   refine Fn.of (fn := Tryz.f270) (by kernel_rfl) rfl (by kernel_rfl) ⟨[.v (.int .i64 n), .agg [.v (.int .i64 1), .v (.int .i64 v), .v (.int .i64 l)], .v undef, .v undef, .v undef, .v undef, .v undef, .v undef, .v undef, .v undef, .v undef, .v undef, .v undef, .v undef, .v undef, .v undef, .v undef, .v undef, .v undef, .v undef, .v undef, .v undef, .v undef, .v undef, .v undef, .v undef, .v undef, .v undef, .v undef, .v undef, .v undef, .v undef, .v undef, .v undef, .v undef, .v undef, .v undef, .v undef, .v undef, .v undef, .v undef, .v undef, .v undef, .v undef, .v undef, .v undef, .v undef, .v undef, .v undef, .v undef, .v undef, .v undef, .v undef, .v undef], []⟩ rfl ?_
   repeat' first | (with_reducible first | refine zA ?_ | refine zB ?_ | refine zS ?_ | refine zI ?_ | refine zJ ?_) | ((first | with_reducible refine zC fun KC J hJ hKC => ?_ | with_reducible refine zU rfl fun KC J hJ hKC => ?_ | (refine hKC _ _ _ _ _ (zDz [] hsp rfl rfl rfl (by simp) (fun _ h => by cases h) rfl rfl rfl zCL ?_)) | (refine hKC _ _ _ _ _ (zD (h1) rfl rfl rfl ?_ ?_); (· exact Lq))); simp (maxSteps := 9999999) only [push_cast, seval, ↓reduceIte, hb2, undef, zy, zf, zT, pick, mOf, idx, ren, ren2, ren1, ren0]) | ((first | with_reducible refine hJ _ _ ?_ | (with_reducible refine hJ _ _ ?_ ?_; · kernel_rfl)); clear hJ hKC KC J) | ((with_reducible refine zF ?_ ?_); · rfl) | ((with_reducible refine zH ?_ ?_); · rfl)
   refine zE ?_
   simp (maxSteps := 9999999) only [push_cast, seval, ↓reduceIte, show Tryz.f270.results = #[(.tmp 4)] from rfl]
   exact Lq
 rw [if_neg e1, hin]
 have e1' : (o == 1) = false := by simpa using e1
 have hl0 : decide (l = 0) = (l == 0) := by rw [Bool.eq_iff_iff]; simp
 rw [hl0]
 obtain ⟨c1, hc1⟩ : ∃ b, (l == 0) = b := ⟨_, rfl⟩
 rw [hc1]
 by_cases e8 : o = 8
 ·subst e8
  have h1 := zEj 0 12 v
  rw [if_pos rfl]
  obtain ⟨b1, hb1⟩ : ∃ b, inB 0 12 v = b := ⟨_, rfl⟩
  rw [hb1] at h1 ⊢
  cases b1
  all_goals
   refine Fn.of (fn := Tryz.f270) (by kernel_rfl) rfl (by kernel_rfl) ⟨[.v (.int .i64 n), .agg [.v (.int .i64 8), .v (.int .i64 v), .v (.int .i64 l)], .v undef, .v undef, .v undef, .v undef, .v undef, .v undef, .v undef, .v undef, .v undef, .v undef, .v undef, .v undef, .v undef, .v undef, .v undef, .v undef, .v undef, .v undef, .v undef, .v undef, .v undef, .v undef, .v undef, .v undef, .v undef, .v undef, .v undef, .v undef, .v undef, .v undef, .v undef, .v undef, .v undef, .v undef, .v undef, .v undef, .v undef, .v undef, .v undef, .v undef, .v undef, .v undef, .v undef, .v undef, .v undef, .v undef, .v undef, .v undef, .v undef, .v undef, .v undef, .v undef], []⟩ rfl ?_
   repeat' first | (with_reducible first | refine zA ?_ | refine zB ?_ | refine zS ?_ | refine zI ?_ | refine zJ ?_) | ((first | with_reducible refine zC fun KC J hJ hKC => ?_ | with_reducible refine zU rfl fun KC J hJ hKC => ?_ | (refine hKC _ _ _ _ _ (zDz [] hsp rfl rfl rfl (by simp) (fun _ h => by cases h) rfl rfl rfl zCL ?_)) | (refine hKC _ _ _ _ _ (zD (h1) rfl rfl rfl ?_ ?_); (· exact Lq))); simp (maxSteps := 9999999) only [push_cast, seval, ↓reduceIte, hc1, undef, zy, zf, zT, pick, mOf, idx, ren, ren2, ren1, ren0]) | ((first | with_reducible refine hJ _ _ ?_ | (with_reducible refine hJ _ _ ?_ ?_; · kernel_rfl)); clear hJ hKC KC J) | ((with_reducible refine zF ?_ ?_); · rfl) | ((with_reducible refine zH ?_ ?_); · rfl)
   refine zE ?_
   simp (maxSteps := 9999999) only [push_cast, seval, ↓reduceIte, show Tryz.f270.results = #[(.tmp 4)] from rfl]
   first | exact Lq | (simp only [Bool.true_and, Bool.and_true, Bool.and_false]; exact Lq)
 rw [if_neg e8]
 by_cases e9 : o = 9
 ·subst e9
  have h1 := zEj 0 3 v
  rw [if_pos rfl]
  obtain ⟨b1, hb1⟩ : ∃ b, inB 0 3 v = b := ⟨_, rfl⟩
  rw [hb1] at h1 ⊢
  cases b1
  all_goals
   refine Fn.of (fn := Tryz.f270) (by kernel_rfl) rfl (by kernel_rfl) ⟨[.v (.int .i64 n), .agg [.v (.int .i64 9), .v (.int .i64 v), .v (.int .i64 l)], .v undef, .v undef, .v undef, .v undef, .v undef, .v undef, .v undef, .v undef, .v undef, .v undef, .v undef, .v undef, .v undef, .v undef, .v undef, .v undef, .v undef, .v undef, .v undef, .v undef, .v undef, .v undef, .v undef, .v undef, .v undef, .v undef, .v undef, .v undef, .v undef, .v undef, .v undef, .v undef, .v undef, .v undef, .v undef, .v undef, .v undef, .v undef, .v undef, .v undef, .v undef, .v undef, .v undef, .v undef, .v undef, .v undef, .v undef, .v undef, .v undef, .v undef, .v undef, .v undef], []⟩ rfl ?_
   repeat' first | (with_reducible first | refine zA ?_ | refine zB ?_ | refine zS ?_ | refine zI ?_ | refine zJ ?_) | ((first | with_reducible refine zC fun KC J hJ hKC => ?_ | with_reducible refine zU rfl fun KC J hJ hKC => ?_ | (refine hKC _ _ _ _ _ (zDz [] hsp rfl rfl rfl (by simp) (fun _ h => by cases h) rfl rfl rfl zCL ?_)) | (refine hKC _ _ _ _ _ (zD (h1) rfl rfl rfl ?_ ?_); (· exact Lq))); simp (maxSteps := 9999999) only [push_cast, seval, ↓reduceIte, hc1, undef, zy, zf, zT, pick, mOf, idx, ren, ren2, ren1, ren0]) | ((first | with_reducible refine hJ _ _ ?_ | (with_reducible refine hJ _ _ ?_ ?_; · kernel_rfl)); clear hJ hKC KC J) | ((with_reducible refine zF ?_ ?_); · rfl) | ((with_reducible refine zH ?_ ?_); · rfl)
   refine zE ?_
   simp (maxSteps := 9999999) only [push_cast, seval, ↓reduceIte, show Tryz.f270.results = #[(.tmp 4)] from rfl]
   first | exact Lq | (simp only [Bool.true_and, Bool.and_true, Bool.and_false]; exact Lq)
 rw [if_neg e9]
 by_cases e10 : o = 10
 ·subst e10
  have h1 := zEj 0 1 v
  rw [if_pos rfl]
  obtain ⟨b1, hb1⟩ : ∃ b, inB 0 1 v = b := ⟨_, rfl⟩
  rw [hb1] at h1 ⊢
  cases b1
  all_goals
   refine Fn.of (fn := Tryz.f270) (by kernel_rfl) rfl (by kernel_rfl) ⟨[.v (.int .i64 n), .agg [.v (.int .i64 10), .v (.int .i64 v), .v (.int .i64 l)], .v undef, .v undef, .v undef, .v undef, .v undef, .v undef, .v undef, .v undef, .v undef, .v undef, .v undef, .v undef, .v undef, .v undef, .v undef, .v undef, .v undef, .v undef, .v undef, .v undef, .v undef, .v undef, .v undef, .v undef, .v undef, .v undef, .v undef, .v undef, .v undef, .v undef, .v undef, .v undef, .v undef, .v undef, .v undef, .v undef, .v undef, .v undef, .v undef, .v undef, .v undef, .v undef, .v undef, .v undef, .v undef, .v undef, .v undef, .v undef, .v undef, .v undef, .v undef, .v undef], []⟩ rfl ?_
   repeat' first | (with_reducible first | refine zA ?_ | refine zB ?_ | refine zS ?_ | refine zI ?_ | refine zJ ?_) | ((first | with_reducible refine zC fun KC J hJ hKC => ?_ | with_reducible refine zU rfl fun KC J hJ hKC => ?_ | (refine hKC _ _ _ _ _ (zDz [] hsp rfl rfl rfl (by simp) (fun _ h => by cases h) rfl rfl rfl zCL ?_)) | (refine hKC _ _ _ _ _ (zD (h1) rfl rfl rfl ?_ ?_); (· exact Lq))); simp (maxSteps := 9999999) only [push_cast, seval, ↓reduceIte, hc1, undef, zy, zf, zT, pick, mOf, idx, ren, ren2, ren1, ren0]) | ((first | with_reducible refine hJ _ _ ?_ | (with_reducible refine hJ _ _ ?_ ?_; · kernel_rfl)); clear hJ hKC KC J) | ((with_reducible refine zF ?_ ?_); · rfl) | ((with_reducible refine zH ?_ ?_); · rfl)
   refine zE ?_
   simp (maxSteps := 9999999) only [push_cast, seval, ↓reduceIte, show Tryz.f270.results = #[(.tmp 4)] from rfl]
   first | exact Lq | (simp only [Bool.true_and, Bool.and_true, Bool.and_false]; exact Lq)
 rw [if_neg e10]
 have e8' : (o == 8) = false := by simpa using e8
 have e9' : (o == 9) = false := by simpa using e9
 have e10' : (o == 10) = false := by simpa using e10
 obtain ⟨d1, hd1⟩ : ∃ b, (v != 0) = b := ⟨_, rfl⟩
 have hv0 : decide (v = 0) = !d1 := by rw [← hd1, Bool.eq_iff_iff]; simp
 rw [hv0]
 cases d1
 all_goals
  refine Fn.of (fn := Tryz.f270) (by kernel_rfl) rfl (by kernel_rfl) ⟨[.v (.int .i64 n), .agg [.v (.int .i64 o), .v (.int .i64 v), .v (.int .i64 l)], .v undef, .v undef, .v undef, .v undef, .v undef, .v undef, .v undef, .v undef, .v undef, .v undef, .v undef, .v undef, .v undef, .v undef, .v undef, .v undef, .v undef, .v undef, .v undef, .v undef, .v undef, .v undef, .v undef, .v undef, .v undef, .v undef, .v undef, .v undef, .v undef, .v undef, .v undef, .v undef, .v undef, .v undef, .v undef, .v undef, .v undef, .v undef, .v undef, .v undef, .v undef, .v undef, .v undef, .v undef, .v undef, .v undef, .v undef, .v undef, .v undef, .v undef, .v undef, .v undef], []⟩ rfl ?_
  repeat' first | (with_reducible first | refine zA ?_ | refine zB ?_ | refine zS ?_ | refine zI ?_ | refine zJ ?_) | ((first | with_reducible refine zC fun KC J hJ hKC => ?_ | with_reducible refine zU rfl fun KC J hJ hKC => ?_ | (refine hKC _ _ _ _ _ (zDz [] hsp rfl rfl rfl (by simp) (fun _ h => by cases h) rfl rfl rfl zCL ?_))); simp (maxSteps := 9999999) only [push_cast, seval, ↓reduceIte, ha1, ha2, e1', e8', e9', e10', hc1, hd1, undef, zy, zf, zT, pick, mOf, idx, ren, ren2, ren1, ren0]) | ((first | with_reducible refine hJ _ _ ?_ | (with_reducible refine hJ _ _ ?_ ?_; · kernel_rfl)); clear hJ hKC KC J) | ((with_reducible refine zF ?_ ?_); · rfl) | ((with_reducible refine zH ?_ ?_); · rfl)
  refine zE ?_
  simp (maxSteps := 9999999) only [push_cast, seval, ↓reduceIte, show Tryz.f270.results = #[(.tmp 4)] from rfl]
  first | exact Lq | (simp only [Bool.true_and, Bool.and_true, Bool.and_false, Bool.not_false, Bool.not_true]; exact Lq)
def spF (f : Bool) (sp : Sp) : List D := [.v (.int .i64 sp.code), .v (.int .i64 sp.mem), .v (.int .i64 sp.stack), .v (.int .i64 sp.val), .sl f 1 (zK sp.ws)]
theorem zFi (n b : Int) : Fn Tryz.prog 268 [.v (.int .i64 n), .v (.int .i64 b)] [] (.v (.bool (inB 0 b n))) [] := by
 obtain ⟨x, hx⟩ : ∃ x, decide (0 ≤ n) = x := ⟨_, rfl⟩
 rw [inB, hx]
 refine Fn.of (fn := Tryz.f268) (by kernel_rfl) rfl (by kernel_rfl) ⟨[.v (.int .i64 n), .v (.int .i64 b), .v undef, .v undef, .v undef, .v undef, .v undef, .v undef, .v undef, .v undef, .v undef, .v undef], []⟩ rfl ?_
 cases x
 all_goals
  repeat' first | (with_reducible first | refine zA ?_ | refine zB ?_ | refine zI ?_) | ((with_reducible refine zC fun KC J hJ hKC => ?_); simp (maxSteps := 9999999) only [push_cast, seval, ↓reduceIte, hx, undef]) | ((with_reducible refine hJ _ _ ?_); clear hJ hKC KC J)
  refine zE ?_
  simp (maxSteps := 9999999) only [push_cast, seval, ↓reduceIte, show Tryz.f268.results = #[(.tmp 4)] from rfl]
  exact Lq
theorem zFo (n b : Int) : Fn Tryz.prog 133 [.v (.int .i64 n), .v (.int .i64 b)] [] (.v (.bool (inB 0 b n))) [] := by
 obtain ⟨x, hx⟩ : ∃ x, decide (0 ≤ n) = x := ⟨_, rfl⟩
 rw [inB, hx]
 refine Fn.of (fn := Tryz.f133) (by kernel_rfl) rfl (by kernel_rfl) ⟨[.v (.int .i64 n), .v (.int .i64 b), .v undef, .v undef, .v undef, .v undef, .v undef, .v undef, .v undef, .v undef, .v undef, .v undef], []⟩ rfl ?_
 cases x
 all_goals
  repeat' first | (with_reducible first | refine zA ?_ | refine zB ?_ | refine zI ?_) | ((with_reducible refine zC fun KC J hJ hKC => ?_); simp (maxSteps := 9999999) only [push_cast, seval, ↓reduceIte, hx, undef]) | ((with_reducible refine hJ _ _ ?_); clear hJ hKC KC J)
  refine zE ?_
  simp (maxSteps := 9999999) only [push_cast, seval, ↓reduceIte, show Tryz.f133.results = #[(.tmp 4)] from rfl]
  exact Lq
theorem zKa (ws : List Int) : (zCQ ⟨[], 0, []⟩ ws).2.2 = if zAI ws = true then 0 else 1 := by
 unfold zCQ
 cases h : zAI ws with
 | false => simp
 | true =>
  have hw := zCa h
  rw [if_neg (by simp), zOv (by omega) (by simp) (by omega)]
  simp
theorem zLl (f : Bool) (sp : Sp) (hw : sp.ws.length ≤ 1000) : Fn Tryz.prog 189 [.agg (spF f sp)] [] (.v (.bool (spB sp))) [] := by
 obtain ⟨c, mm, s, v, ws⟩ := sp
 simp only [spB, spF] at *
 obtain ⟨c1, hc1⟩ : ∃ x, inB 0 12 c = x := ⟨_, rfl⟩
 obtain ⟨c2, hc2⟩ : ∃ x, inB 0 6 mm = x := ⟨_, rfl⟩
 obtain ⟨c3, hc3⟩ : ∃ x, inB 0 12 s = x := ⟨_, rfl⟩
 obtain ⟨c4, hc4⟩ : ∃ x, inB 0 20 v = x := ⟨_, rfl⟩
 obtain ⟨c5, hc5⟩ : ∃ x, decide (ws.length = 13) = x := ⟨_, rfl⟩
 obtain ⟨c6, hc6⟩ : ∃ x, zAI ws = x := ⟨_, rfl⟩
 have hc5' : ((ws.length : Int) == 13) = c5 := by rw [← hc5, Bool.eq_iff_iff]; simp; omega
 rw [hc1, hc2, hc3, hc4, hc5, hc6]
 have i1 := zFi c 12
 have i2 := zFi mm 6
 have i3 := zFi s 12
 have i4 := zFi v 20
 have h0 := zQG false []
 have h1 := zLo false false f [] [] ws 0 (Nat.le_trans hw (by omega))
 have hm := zKa ws
 have hm' : ((if c6 = true then (0 : Int) else 1) == 0) = c6 := by cases c6 <;> rfl
 rw [hc6] at hm
 simp only [zFy, hm] at h1
 refine Fn.of (fn := Tryz.f189) (by kernel_rfl) rfl (by kernel_rfl) ⟨[.agg [.v (.int .i64 c), .v (.int .i64 mm), .v (.int .i64 s), .v (.int .i64 v), .sl f 1 (zK ws)], .v undef, .v undef, .v undef, .v undef, .v undef, .v undef, .v undef, .v undef, .v undef, .v undef, .v undef, .v undef, .v undef, .v undef, .v undef, .v undef, .v undef, .v undef, .v undef, .v undef, .v undef, .v undef, .v undef, .v undef, .v undef, .v undef, .v undef, .v undef, .v undef, .v undef, .v undef, .v undef, .v undef, .v undef, .v undef, .v undef, .v undef, .v undef, .v undef, .v undef, .v undef], []⟩ rfl ?_
 cases c1
 case false =>
  repeat' first | (with_reducible first | refine zA ?_ | refine zB ?_ | refine zI ?_) | ((first | with_reducible refine zC fun KC J hJ hKC => ?_ | with_reducible refine zU rfl fun KC J hJ hKC => ?_ | (refine hKC _ _ _ _ _ (zD (h0) rfl rfl rfl ?_ ?_); (· exact Lq)) | (refine hKC _ _ _ _ _ (zD (h1) rfl rfl rfl ?_ ?_); (· exact Lq)) | (refine hKC _ _ _ _ _ (zD (i1) rfl rfl rfl ?_ ?_); (· exact Lq))); simp (maxSteps := 9999999) only [push_cast, seval, ↓reduceIte, hc1, hm', undef]) | ((first | with_reducible refine hJ _ _ ?_ | (with_reducible refine hJ _ _ ?_ ?_; · kernel_rfl)); clear hJ hKC KC J)
  refine zE ?_
  simp (maxSteps := 9999999) only [push_cast, seval, ↓reduceIte, show Tryz.f189.results = #[(.tmp 2)] from rfl]
  exact Lq
 cases c2
 case false =>
  repeat' first | (with_reducible first | refine zA ?_ | refine zB ?_ | refine zI ?_) | ((first | with_reducible refine zC fun KC J hJ hKC => ?_ | with_reducible refine zU rfl fun KC J hJ hKC => ?_ | (refine hKC _ _ _ _ _ (zD (h0) rfl rfl rfl ?_ ?_); (· exact Lq)) | (refine hKC _ _ _ _ _ (zD (h1) rfl rfl rfl ?_ ?_); (· exact Lq)) | (refine hKC _ _ _ _ _ (zD (i1) rfl rfl rfl ?_ ?_); (· exact Lq)) | (refine hKC _ _ _ _ _ (zD (i2) rfl rfl rfl ?_ ?_); (· exact Lq))); simp (maxSteps := 9999999) only [push_cast, seval, ↓reduceIte, hc1, hc2, hm', undef]) | ((first | with_reducible refine hJ _ _ ?_ | (with_reducible refine hJ _ _ ?_ ?_; · kernel_rfl)); clear hJ hKC KC J)
  refine zE ?_
  simp (maxSteps := 9999999) only [push_cast, seval, ↓reduceIte, show Tryz.f189.results = #[(.tmp 2)] from rfl]
  exact Lq
 cases c3
 case false =>
  repeat' first | (with_reducible first | refine zA ?_ | refine zB ?_ | refine zI ?_) | ((first | with_reducible refine zC fun KC J hJ hKC => ?_ | with_reducible refine zU rfl fun KC J hJ hKC => ?_ | (refine hKC _ _ _ _ _ (zD (h0) rfl rfl rfl ?_ ?_); (· exact Lq)) | (refine hKC _ _ _ _ _ (zD (h1) rfl rfl rfl ?_ ?_); (· exact Lq)) | (refine hKC _ _ _ _ _ (zD (i1) rfl rfl rfl ?_ ?_); (· exact Lq)) | (refine hKC _ _ _ _ _ (zD (i2) rfl rfl rfl ?_ ?_); (· exact Lq)) | (refine hKC _ _ _ _ _ (zD (i3) rfl rfl rfl ?_ ?_); (· exact Lq))); simp (maxSteps := 9999999) only [push_cast, seval, ↓reduceIte, hc1, hc2, hc3, hm', undef]) | ((first | with_reducible refine hJ _ _ ?_ | (with_reducible refine hJ _ _ ?_ ?_; · kernel_rfl)); clear hJ hKC KC J)
  refine zE ?_
  simp (maxSteps := 9999999) only [push_cast, seval, ↓reduceIte, show Tryz.f189.results = #[(.tmp 2)] from rfl]
  exact Lq
 cases c4
 case false =>
  repeat' first | (with_reducible first | refine zA ?_ | refine zB ?_ | refine zI ?_) | ((first | with_reducible refine zC fun KC J hJ hKC => ?_ | with_reducible refine zU rfl fun KC J hJ hKC => ?_ | (refine hKC _ _ _ _ _ (zD (h0) rfl rfl rfl ?_ ?_); (· exact Lq)) | (refine hKC _ _ _ _ _ (zD (h1) rfl rfl rfl ?_ ?_); (· exact Lq)) | (refine hKC _ _ _ _ _ (zD (i1) rfl rfl rfl ?_ ?_); (· exact Lq)) | (refine hKC _ _ _ _ _ (zD (i2) rfl rfl rfl ?_ ?_); (· exact Lq)) | (refine hKC _ _ _ _ _ (zD (i3) rfl rfl rfl ?_ ?_); (· exact Lq)) | (refine hKC _ _ _ _ _ (zD (i4) rfl rfl rfl ?_ ?_); (· exact Lq))); simp (maxSteps := 9999999) only [push_cast, seval, ↓reduceIte, hc1, hc2, hc3, hc4, hm', undef]) | ((first | with_reducible refine hJ _ _ ?_ | (with_reducible refine hJ _ _ ?_ ?_; · kernel_rfl)); clear hJ hKC KC J)
  refine zE ?_
  simp (maxSteps := 9999999) only [push_cast, seval, ↓reduceIte, show Tryz.f189.results = #[(.tmp 2)] from rfl]
  exact Lq
 cases c5
 case false =>
  repeat' first | (with_reducible first | refine zA ?_ | refine zB ?_ | refine zI ?_) | ((first | with_reducible refine zC fun KC J hJ hKC => ?_ | with_reducible refine zU rfl fun KC J hJ hKC => ?_ | (refine hKC _ _ _ _ _ (zD (h0) rfl rfl rfl ?_ ?_); (· exact Lq)) | (refine hKC _ _ _ _ _ (zD (h1) rfl rfl rfl ?_ ?_); (· exact Lq)) | (refine hKC _ _ _ _ _ (zD (i1) rfl rfl rfl ?_ ?_); (· exact Lq)) | (refine hKC _ _ _ _ _ (zD (i2) rfl rfl rfl ?_ ?_); (· exact Lq)) | (refine hKC _ _ _ _ _ (zD (i3) rfl rfl rfl ?_ ?_); (· exact Lq)) | (refine hKC _ _ _ _ _ (zD (i4) rfl rfl rfl ?_ ?_); (· exact Lq))); simp (maxSteps := 9999999) only [push_cast, seval, ↓reduceIte, hc1, hc2, hc3, hc4, hc5', hm', undef]) | ((first | with_reducible refine hJ _ _ ?_ | (with_reducible refine hJ _ _ ?_ ?_; · kernel_rfl)); clear hJ hKC KC J)
  refine zE ?_
  simp (maxSteps := 9999999) only [push_cast, seval, ↓reduceIte, show Tryz.f189.results = #[(.tmp 2)] from rfl]
  exact Lq
 repeat' first | (with_reducible first | refine zA ?_ | refine zB ?_ | refine zI ?_) | ((first | with_reducible refine zC fun KC J hJ hKC => ?_ | with_reducible refine zU rfl fun KC J hJ hKC => ?_ | (refine hKC _ _ _ _ _ (zD (h0) rfl rfl rfl ?_ ?_); (· exact Lq)) | (refine hKC _ _ _ _ _ (zD (h1) rfl rfl rfl ?_ ?_); (· exact Lq)) | (refine hKC _ _ _ _ _ (zD (i1) rfl rfl rfl ?_ ?_); (· exact Lq)) | (refine hKC _ _ _ _ _ (zD (i2) rfl rfl rfl ?_ ?_); (· exact Lq)) | (refine hKC _ _ _ _ _ (zD (i3) rfl rfl rfl ?_ ?_); (· exact Lq)) | (refine hKC _ _ _ _ _ (zD (i4) rfl rfl rfl ?_ ?_); (· exact Lq))); simp (maxSteps := 9999999) only [push_cast, seval, ↓reduceIte, hc1, hc2, hc3, hc4, hc5', hm', undef]) | ((first | with_reducible refine hJ _ _ ?_ | (with_reducible refine hJ _ _ ?_ ?_; · kernel_rfl)); clear hJ hKC KC J)
 refine zE ?_
 simp (maxSteps := 9999999) only [push_cast, seval, ↓reduceIte, show Tryz.f189.results = #[(.tmp 2)] from rfl]
 exact Lq
theorem zLR (f : Bool) (sp : Sp) (hw : sp.ws.length ≤ 1000) : Fn Tryz.prog 57 [.agg (spF f sp)] [] (.v (.bool (spB sp))) [] := by
 obtain ⟨c, mm, s, v, ws⟩ := sp
 simp only [spB, spF] at *
 obtain ⟨c1, hc1⟩ : ∃ x, inB 0 12 c = x := ⟨_, rfl⟩
 obtain ⟨c2, hc2⟩ : ∃ x, inB 0 6 mm = x := ⟨_, rfl⟩
 obtain ⟨c3, hc3⟩ : ∃ x, inB 0 12 s = x := ⟨_, rfl⟩
 obtain ⟨c4, hc4⟩ : ∃ x, inB 0 20 v = x := ⟨_, rfl⟩
 obtain ⟨c5, hc5⟩ : ∃ x, decide (ws.length = 13) = x := ⟨_, rfl⟩
 obtain ⟨c6, hc6⟩ : ∃ x, zAI ws = x := ⟨_, rfl⟩
 have hc5' : ((ws.length : Int) == 13) = c5 := by rw [← hc5, Bool.eq_iff_iff]; simp; omega
 rw [hc1, hc2, hc3, hc4, hc5, hc6]
 have i1 := zFo c 12
 have i2 := zFo mm 6
 have i3 := zFo s 12
 have i4 := zFo v 20
 have h1 := zEN f ws (Nat.le_trans hw (by omega))
 rw [hc6] at h1
 refine Fn.of (fn := Tryz.f57) (by kernel_rfl) rfl (by kernel_rfl) ⟨[.agg [.v (.int .i64 c), .v (.int .i64 mm), .v (.int .i64 s), .v (.int .i64 v), .sl f 1 (zK ws)], .v undef, .v undef, .v undef, .v undef, .v undef, .v undef, .v undef, .v undef, .v undef, .v undef, .v undef, .v undef, .v undef, .v undef, .v undef, .v undef, .v undef, .v undef, .v undef, .v undef, .v undef, .v undef, .v undef, .v undef, .v undef, .v undef, .v undef, .v undef, .v undef, .v undef, .v undef], []⟩ rfl ?_
 cases c1
 case false =>
  repeat' first | (with_reducible first | refine zA ?_ | refine zB ?_ | refine zI ?_) | ((first | with_reducible refine zC fun KC J hJ hKC => ?_ | (refine hKC _ _ _ _ _ (zD (i1) rfl rfl rfl ?_ ?_); (· exact Lq))); simp (maxSteps := 9999999) only [push_cast, seval, ↓reduceIte, hc1, undef]) | ((with_reducible refine hJ _ _ ?_); clear hJ hKC KC J)
  refine zE ?_
  simp (maxSteps := 9999999) only [push_cast, seval, ↓reduceIte, show Tryz.f57.results = #[(.tmp 2)] from rfl]
  exact Lq
 cases c2
 case false =>
  repeat' first | (with_reducible first | refine zA ?_ | refine zB ?_ | refine zI ?_) | ((first | with_reducible refine zC fun KC J hJ hKC => ?_ | (refine hKC _ _ _ _ _ (zD (i1) rfl rfl rfl ?_ ?_); (· exact Lq)) | (refine hKC _ _ _ _ _ (zD (i2) rfl rfl rfl ?_ ?_); (· exact Lq))); simp (maxSteps := 9999999) only [push_cast, seval, ↓reduceIte, hc1, hc2, undef]) | ((with_reducible refine hJ _ _ ?_); clear hJ hKC KC J)
  refine zE ?_
  simp (maxSteps := 9999999) only [push_cast, seval, ↓reduceIte, show Tryz.f57.results = #[(.tmp 2)] from rfl]
  exact Lq
 cases c3
 case false =>
  repeat' first | (with_reducible first | refine zA ?_ | refine zB ?_ | refine zI ?_) | ((first | with_reducible refine zC fun KC J hJ hKC => ?_ | (refine hKC _ _ _ _ _ (zD (i1) rfl rfl rfl ?_ ?_); (· exact Lq)) | (refine hKC _ _ _ _ _ (zD (i2) rfl rfl rfl ?_ ?_); (· exact Lq)) | (refine hKC _ _ _ _ _ (zD (i3) rfl rfl rfl ?_ ?_); (· exact Lq))); simp (maxSteps := 9999999) only [push_cast, seval, ↓reduceIte, hc1, hc2, hc3, undef]) | ((with_reducible refine hJ _ _ ?_); clear hJ hKC KC J)
  refine zE ?_
  simp (maxSteps := 9999999) only [push_cast, seval, ↓reduceIte, show Tryz.f57.results = #[(.tmp 2)] from rfl]
  exact Lq
 cases c4
 case false =>
  repeat' first | (with_reducible first | refine zA ?_ | refine zB ?_ | refine zI ?_) | ((first | with_reducible refine zC fun KC J hJ hKC => ?_ | (refine hKC _ _ _ _ _ (zD (i1) rfl rfl rfl ?_ ?_); (· exact Lq)) | (refine hKC _ _ _ _ _ (zD (i2) rfl rfl rfl ?_ ?_); (· exact Lq)) | (refine hKC _ _ _ _ _ (zD (i3) rfl rfl rfl ?_ ?_); (· exact Lq)) | (refine hKC _ _ _ _ _ (zD (i4) rfl rfl rfl ?_ ?_); (· exact Lq))); simp (maxSteps := 9999999) only [push_cast, seval, ↓reduceIte, hc1, hc2, hc3, hc4, undef]) | ((with_reducible refine hJ _ _ ?_); clear hJ hKC KC J)
  refine zE ?_
  simp (maxSteps := 9999999) only [push_cast, seval, ↓reduceIte, show Tryz.f57.results = #[(.tmp 2)] from rfl]
  exact Lq
 cases c5
 case false =>
  repeat' first | (with_reducible first | refine zA ?_ | refine zB ?_ | refine zI ?_) | ((first | with_reducible refine zC fun KC J hJ hKC => ?_ | (refine hKC _ _ _ _ _ (zD (i1) rfl rfl rfl ?_ ?_); (· exact Lq)) | (refine hKC _ _ _ _ _ (zD (i2) rfl rfl rfl ?_ ?_); (· exact Lq)) | (refine hKC _ _ _ _ _ (zD (i3) rfl rfl rfl ?_ ?_); (· exact Lq)) | (refine hKC _ _ _ _ _ (zD (i4) rfl rfl rfl ?_ ?_); (· exact Lq))); simp (maxSteps := 9999999) only [push_cast, seval, ↓reduceIte, hc1, hc2, hc3, hc4, hc5', undef]) | ((with_reducible refine hJ _ _ ?_); clear hJ hKC KC J)
  refine zE ?_
  simp (maxSteps := 9999999) only [push_cast, seval, ↓reduceIte, show Tryz.f57.results = #[(.tmp 2)] from rfl]
  exact Lq
 repeat' first | (with_reducible first | refine zA ?_ | refine zB ?_ | refine zI ?_) | ((first | with_reducible refine zC fun KC J hJ hKC => ?_ | (refine hKC _ _ _ _ _ (zD (h1) rfl rfl rfl ?_ ?_); (· exact Lq)) | (refine hKC _ _ _ _ _ (zD (i1) rfl rfl rfl ?_ ?_); (· exact Lq)) | (refine hKC _ _ _ _ _ (zD (i2) rfl rfl rfl ?_ ?_); (· exact Lq)) | (refine hKC _ _ _ _ _ (zD (i3) rfl rfl rfl ?_ ?_); (· exact Lq)) | (refine hKC _ _ _ _ _ (zD (i4) rfl rfl rfl ?_ ?_); (· exact Lq))); simp (maxSteps := 9999999) only [push_cast, seval, ↓reduceIte, hc1, hc2, hc3, hc4, hc5', undef]) | ((with_reducible refine hJ _ _ ?_); clear hJ hKC KC J)
 refine zE ?_
 simp (maxSteps := 9999999) only [push_cast, seval, ↓reduceIte, show Tryz.f57.results = #[(.tmp 2)] from rfl]
 exact Lq
def zCb (ns : List ByteArray) (us : List Nat) (sp : Sp) : Int := if zq ns us = 0 then if spB sp = true then 0 else 1 else zq ns us
theorem zOE (f g h : Bool) (ns : List ByteArray) (us : List Nat) (sp : Sp) (hs : Szs ns) (hu : U32 us) (hw : sp.ws.length ≤ 1000) :
  Fn Tryz.prog 93 [.agg [.sl f 1 (zM ns), .sl g 1 (zL us)], .agg (spF h sp)] [] (.v (.int .i64 (zCb ns us sp))) [] := by
 have h1 := zBP f g ns us hs hu
 have h2 := zLl h sp hw
 unfold zCb
 obtain ⟨c, hc⟩ : ∃ c, zq ns us = c := ⟨_, rfl⟩
 obtain ⟨b, hb⟩ : ∃ b, spB sp = b := ⟨_, rfl⟩
 rw [hc] at h1 ⊢
 rw [hb] at h2 ⊢
 simp only [spF] at h2 ⊢
 refine Fn.of (fn := Tryz.f93) (by kernel_rfl) rfl (by kernel_rfl) ⟨[.agg [.sl f 1 (zM ns), .sl g 1 (zL us)], .agg [.v (.int .i64 sp.code), .v (.int .i64 sp.mem), .v (.int .i64 sp.stack), .v (.int .i64 sp.val), .sl h 1 (zK sp.ws)], .v undef, .v undef, .v undef, .v undef, .v undef, .v undef, .v undef, .v undef, .v undef, .v undef, .v undef, .v undef], []⟩ rfl ?_
 by_cases h0 : c = 0
 ·subst h0
  cases b
  all_goals
   repeat' first | (with_reducible first | refine zA ?_ | refine zB ?_ | refine zS ?_ | refine zI ?_ | refine zJ ?_) | ((first | with_reducible refine zC fun KC J hJ hKC => ?_ | (refine hKC _ _ _ _ _ (zD (h1) rfl rfl rfl ?_ ?_); (· exact Lq)) | (refine hKC _ _ _ _ _ (zD (h2) rfl rfl rfl ?_ ?_); (· exact Lq))); simp (maxSteps := 9999999) only [push_cast, seval, ↓reduceIte, bne_self_eq_false]) | ((with_reducible refine hJ _ _ ?_); clear hJ hKC KC J) | ((with_reducible refine zF ?_ ?_); · rfl) | ((with_reducible refine zH ?_ ?_); · rfl)
   refine zE ?_
   simp (maxSteps := 9999999) only [push_cast, seval, ↓reduceIte, show Tryz.f93.results = #[(.tmp 4)] from rfl]
   exact Lq
 ·have h0' : (c != 0) = true := by simpa using h0
  rw [if_neg h0]
  repeat' first | (with_reducible first | refine zA ?_ | refine zB ?_ | refine zS ?_ | refine zI ?_) | ((first | with_reducible refine zC fun KC J hJ hKC => ?_ | (refine hKC _ _ _ _ _ (zD (h1) rfl rfl rfl ?_ ?_); (· exact Lq))); simp (maxSteps := 9999999) only [push_cast, seval, ↓reduceIte, h0']) | ((with_reducible refine hJ _ _ ?_); clear hJ hKC KC J) | ((with_reducible refine zF ?_ ?_); · rfl)
  refine zE ?_
  simp (maxSteps := 9999999) only [push_cast, seval, ↓reduceIte, show Tryz.f93.results = #[(.tmp 4)] from rfl]
  exact Lq
theorem zJO (f g h : Bool) (ns : List ByteArray) (us : List Nat) (sp : Sp) (hs : Szs ns) (hu : U32 us) (hw : sp.ws.length ≤ 1000) :
  Fn Tryz.prog 16 [.agg [.sl f 1 (zM ns), .sl g 1 (zL us)], .agg (spF h sp)] [] (.v (.int .i64 (zCb ns us sp))) [] := by
 have h1 := zOx f g ns us hs hu
 have h2 := zLR h sp hw
 unfold zCb
 obtain ⟨c, hc⟩ : ∃ c, zq ns us = c := ⟨_, rfl⟩
 obtain ⟨b, hb⟩ : ∃ b, spB sp = b := ⟨_, rfl⟩
 rw [hc] at h1 ⊢
 rw [hb] at h2 ⊢
 simp only [spF] at h2 ⊢
 refine Fn.of (fn := Tryz.f16) (by kernel_rfl) rfl (by kernel_rfl) ⟨[.agg [.sl f 1 (zM ns), .sl g 1 (zL us)], .agg [.v (.int .i64 sp.code), .v (.int .i64 sp.mem), .v (.int .i64 sp.stack), .v (.int .i64 sp.val), .sl h 1 (zK sp.ws)], .v undef, .v undef, .v undef, .v undef, .v undef, .v undef, .v undef, .v undef, .v undef, .v undef, .v undef, .v undef, .v undef, .v undef], []⟩ rfl ?_
 by_cases h0 : c = 0
 ·subst h0
  cases b
  all_goals
   repeat' first | (with_reducible first | refine zA ?_ | refine zB ?_ | refine zS ?_ | refine zI ?_ | refine zJ ?_) | ((first | with_reducible refine zC fun KC J hJ hKC => ?_ | (refine hKC _ _ _ _ _ (zD (h1) rfl rfl rfl ?_ ?_); (· exact Lq)) | (refine hKC _ _ _ _ _ (zD (h2) rfl rfl rfl ?_ ?_); (· exact Lq))); simp (maxSteps := 9999999) only [push_cast, seval, ↓reduceIte, beq_self_eq_true, undef]) | ((with_reducible refine hJ _ _ ?_); clear hJ hKC KC J) | ((with_reducible refine zF ?_ ?_); · rfl) | ((with_reducible refine zH ?_ ?_); · rfl)
   refine zE ?_
   simp (maxSteps := 9999999) only [push_cast, seval, ↓reduceIte, show Tryz.f16.results = #[(.tmp 4)] from rfl]
   exact Lq
 ·have h0' : (c == 0) = false := by simpa using h0
  rw [if_neg h0]
  repeat' first | (with_reducible first | refine zA ?_ | refine zB ?_ | refine zI ?_ | refine zJ ?_) | ((first | with_reducible refine zC fun KC J hJ hKC => ?_ | (refine hKC _ _ _ _ _ (zD (h1) rfl rfl rfl ?_ ?_); (· exact Lq))); simp (maxSteps := 9999999) only [push_cast, seval, ↓reduceIte, h0', undef]) | ((with_reducible refine hJ _ _ ?_); clear hJ hKC KC J) | ((with_reducible refine zH ?_ ?_); · rfl)
  refine zE ?_
  simp (maxSteps := 9999999) only [push_cast, seval, ↓reduceIte, show Tryz.f16.results = #[(.tmp 4)] from rfl]
  exact Lq
section
variable {P : Program} {ro : Option Nat} {st : St} {K : Exit → St → Prop} {c c2 : Code}
end
def Rle (a b : D) : Prop := ∀ w fz tb U u, Rep w fz tb U a u → Rep w fz tb U b u
theorem Rle.refl (a : D) : Rle a a := fun _ _ _ _ _ h => h
theorem Rle.full (sz : Nat) (xs : List (List D)) : Rle (.sl true sz xs) (.sl false sz xs) := fun w fz tb U u h => by
 refine .fro _ _ ?_
 have h1 := h.sl_inv
 generalize hx : D.sl true sz xs = d at h1
 cases h1 with
 | sl0 full sz' A cap h0 => cases hx; exact .sl0 false _ A cap (fun h => by cases h)
 | sl full sz' xs' b o cap n g hn h0 hc hf hb hw hcell hr => cases hx; exact .sl false _ _ b o cap n g hn h0 hc (fun h => by cases h) hb hw hcell hr
 | any x => cases hx
 | v x => cases hx
 | agg ds cs h hr => cases hx
 | tup ds cs h hr => cases hx
 | fn f caps cs h hr => cases hx
 | bnd f caps cs h hr => cases hx
 | fad ds b o g hb hc hr => cases hx
inductive RleF : List D → List D → Prop
 | nil : RleF [] []
 | cons {a b : D} {l m : List D} (h : Rle a b) (hs : RleF l m) : RleF (a :: l) (b :: m)
theorem RleF.get {l m : List D} (h : RleF l m) : l.length = m.length ∧ ∀ (j : Nat) (a b : D), l[j]? = some a → m[j]? = some b → Rle a b := by
 induction h with
 | nil => exact ⟨rfl, fun j a b h => by simp at h⟩
 | cons h hs ih =>
  refine ⟨by simp [ih.1], fun j a b ha hb => ?_⟩
  cases j with
  | zero => simp at ha hb; subst ha; subst hb; exact h
  | succ j => simp at ha hb; exact ih.2 j a b ha hb
theorem RleF.refl : ∀ l, RleF l l
 | [] => .nil
 | a :: l => .cons (.refl a) (RleF.refl l)
theorem Rle.agg {ds es : List D} (h : RleF ds es) : Rle (.agg ds) (.agg es) := fun w fz tb U u hu => by
 obtain ⟨cs, rfl, hl, hr⟩ := hu.agg_inv
 obtain ⟨h1, h2⟩ := h.get
 refine .agg es cs (by omega) (fun j d v hd hv => ?_)
 have hj : j < ds.length := by rw [h1]; exact (List.getElem?_eq_some_iff.1 hd).1
 exact h2 j ds[j] d (List.getElem?_eq_getElem hj) hd _ _ _ _ _ (hr j ds[j] v (List.getElem?_eq_getElem hj) hv)
theorem Fn.pre {P : Program} {f : Nat} {args args' : List D} {ext : List Slot} {res : D} {out : List Slot} (h : Fn P f args' ext res out) (hle : RleF args args') : Fn P f args ext res out where
 enter := h.enter
 spec := fun N0 ρ w vs hp hs hr => h.spec N0 ρ w vs hp (by rw [hs]; exact hle.get.1) (fun j d u hd hu => by
  have hj : j < args.length := by rw [hle.get.1]; exact (List.getElem?_eq_some_iff.1 hd).1
  exact hle.get.2 j args[j] d (List.getElem?_eq_getElem hj) hd _ _ _ _ _ (hr j args[j] u (List.getElem?_eq_getElem hj) hu))
theorem zIw (f : Bool) (xs : List (Int × Int × Int)) (cf : Nat) (caps : List D) (p : Int × Int × Int → Bool) (hb : xs.length ≤ 1000) (hc : zk caps = true)
  (hp : ∀ x ∈ xs, Fn Tryz.prog cf (.agg [.v (.int .i64 x.1), .v (.int .i64 x.2.1), .v (.int .i64 x.2.2)] :: caps) [] (.v (.bool (p x))) []) : Fn Tryz.prog 196 [.sl f 3 (zh xs), .fn cf caps] [] (.v (.int .i64 (zDQ p xs))) [] := by
 refine Fn.of (fn := Tryz.f196) (by kernel_rfl) rfl (by kernel_rfl) ⟨[.sl f 3 (zh xs), .fn cf caps, .v undef, .v undef, .v undef, .v undef, .v undef, .v undef, .v undef, .v undef, .v undef, .v undef, .v undef, .v undef, .v undef, .v undef, .v undef, .v undef, .v undef], []⟩ rfl ?_
 repeat' first | (with_reducible first | refine zA ?_ | refine zB ?_ | refine zG ?_) | ((with_reducible refine zC fun KC J hJ hKC => ?_); simp (maxSteps := 9999999) only [push_cast, seval, ↓reduceIte]) | ((with_reducible refine hJ _ _ ?_); clear hJ hKC KC J)
 refine ze (γ := {i : Nat // i ≤ xs.length ∧ ∀ (j : Nat) (hj : j < xs.length), j < i → p xs[j] = false}) (fun i => ⟨[.sl f 3 (zh xs), .fn cf caps, .any, .any, .any, .any, .any, .v (.int .i64 xs.length), .v (.int .i64 i.1), .any, .any, .any, .any, .any, .any, .any, .any, .any, .any], []⟩) (fun i => xs.length - i.1) ⟨0, by simp⟩ ⟨?_, Fq⟩ ?_
 ·exact Lq
 ·rintro ⟨i, hi, hn⟩
  by_cases hlt : (i : Int) < (xs.length : Int)
  ·have hx : xs[i]? = some xs[i] := List.getElem?_eq_getElem (by omega)
   have hfn := hp xs[i] (List.getElem_mem (by omega))
   repeat' first | (with_reducible first | refine zA ?_ | refine zB ?_ | refine zS ?_ | refine zO ?_ | refine zg ?_ | refine zI ?_ | refine zJ ?_ | refine zG ?_) | ((with_reducible refine And.intro ?_ ?_); · exact Sq) | ((first | with_reducible refine zC fun KC J hJ hKC => ?_ | (refine hKC _ _ _ _ _ (zD (hfn) rfl rfl rfl ?_ ?_); (· exact Lq))); simp (maxSteps := 9999999) only [push_cast, seval, ↓reduceIte, hlt, zAp hx, zb (i := i) (n := xs.length) (by omega) (by omega)]) | ((with_reducible refine hJ _ _ ?_); clear hJ hKC KC J) | ((with_reducible refine zF ?_ ?_); · rfl) | (refine zs rfl (fun h => ?_) (fun h => ?_) <;> try simp only [decide_eq_true_eq, decide_eq_false_iff_not, Bool.not_eq_true', Bool.not_eq_false', beq_iff_eq, bne_iff_ne, ne_eq, Bool.not_eq_true, Bool.or_eq_true, Bool.and_eq_true, Bool.or_eq_false_iff, Bool.and_eq_false_imp, beq_eq_false_iff_ne, bne_eq_false_iff_eq] at h)
   ·refine zE ?_
    simp (maxSteps := 9999999) only [push_cast, seval, ↓reduceIte, show Tryz.f196.results = #[(.tmp 4)] from rfl]
    exact zAF (by rw [zBt (by omega) h hn])
   ·refine ⟨⟨i + 1, by omega, fun j hj hji => ?_⟩, by simp only; omega, ?_, Fq⟩
    ·by_cases he : j = i
     ·subst he; exact h
     ·exact hn j hj (by omega)
    ·exact Lq
  ·skip
   repeat' first | (with_reducible first | refine zA ?_ | refine zB ?_ | refine zX ?_ | refine zW ?_ | refine zI ?_ | refine zQ ?_) | ((with_reducible refine zC fun KC J hJ hKC => ?_); simp (maxSteps := 9999999) only [push_cast, seval, ↓reduceIte, hlt]) | ((with_reducible refine hJ _ _ ?_); clear hJ hKC KC J) | ((with_reducible refine zH ?_ ?_); · rfl)
   refine zE ?_
   simp (maxSteps := 9999999) only [push_cast, seval, ↓reduceIte, show Tryz.f196.results = #[(.tmp 4)] from rfl]
   exact zAF (by rw [zBB (fun j hj => hn j hj (by omega))])
theorem zDb (f : Bool) (xs : List (Int × Int × Int)) (cf : Nat) (caps : List D) (p : Int × Int × Int → Bool) (hb : xs.length ≤ 1000) (hc : zk caps = true)
  (hp : ∀ x ∈ xs, Fn Tryz.prog cf (.agg [.v (.int .i64 x.1), .v (.int .i64 x.2.1), .v (.int .i64 x.2.2)] :: caps) [] (.v (.bool (p x))) []) : Fn Tryz.prog 97 [.sl f 3 (zh xs), .fn cf caps] [] (.v (.bool (xs.any p))) [] := by
 have hfn := zIw f xs cf caps p hb hc hp
 refine Fn.of (fn := Tryz.f97) (by kernel_rfl) rfl (by kernel_rfl) ⟨[.sl f 3 (zh xs), .fn cf caps, .v undef, .v undef, .v undef, .v undef, .v undef, .v undef, .v undef], []⟩ rfl ?_
 repeat' first | (with_reducible first | refine zA ?_ | refine zB ?_ | refine zI ?_) | ((first | with_reducible refine zC fun KC J hJ hKC => ?_ | (refine hKC _ _ _ _ _ (zD (hfn) rfl rfl rfl ?_ ?_); (· exact Lq))); simp (maxSteps := 9999999) only [push_cast, seval, ↓reduceIte, zDd]) | ((with_reducible refine hJ _ _ ?_); clear hJ hKC KC J)
 refine zE ?_
 simp (maxSteps := 9999999) only [push_cast, seval, ↓reduceIte, show Tryz.f97.results = #[(.tmp 4)] from rfl]
 exact zN _
theorem zIe (f : Bool) (xs : List (Int × Int)) (cf : Nat) (caps : List D) (p : Int × Int → Bool) (hb : xs.length ≤ 1000) (hc : zk caps = true)
  (hp : ∀ x ∈ xs, Fn Tryz.prog cf (.agg [.v (.int .i64 x.1), .v (.int .i64 x.2)] :: caps) [] (.v (.bool (p x))) []) : Fn Tryz.prog 197 [.sl f 2 (zR xs), .fn cf caps] [] (.v (.int .i64 (zDQ p xs))) [] := by
 refine Fn.of (fn := Tryz.f197) (by kernel_rfl) rfl (by kernel_rfl) ⟨[.sl f 2 (zR xs), .fn cf caps, .v undef, .v undef, .v undef, .v undef, .v undef, .v undef, .v undef, .v undef, .v undef, .v undef, .v undef, .v undef, .v undef, .v undef, .v undef, .v undef, .v undef], []⟩ rfl ?_
 repeat' first | (with_reducible first | refine zA ?_ | refine zB ?_ | refine zG ?_) | ((with_reducible refine zC fun KC J hJ hKC => ?_); simp (maxSteps := 9999999) only [push_cast, seval, ↓reduceIte]) | ((with_reducible refine hJ _ _ ?_); clear hJ hKC KC J)
 refine ze (γ := {i : Nat // i ≤ xs.length ∧ ∀ (j : Nat) (hj : j < xs.length), j < i → p xs[j] = false}) (fun i => ⟨[.sl f 2 (zR xs), .fn cf caps, .any, .any, .any, .any, .any, .v (.int .i64 xs.length), .v (.int .i64 i.1), .any, .any, .any, .any, .any, .any, .any, .any, .any, .any], []⟩) (fun i => xs.length - i.1) ⟨0, by simp⟩ ⟨?_, Fq⟩ ?_
 ·exact Lq
 ·rintro ⟨i, hi, hn⟩
  by_cases hlt : (i : Int) < (xs.length : Int)
  ·have hx : xs[i]? = some xs[i] := List.getElem?_eq_getElem (by omega)
   have hfn := hp xs[i] (List.getElem_mem (by omega))
   repeat' first | (with_reducible first | refine zA ?_ | refine zB ?_ | refine zS ?_ | refine zO ?_ | refine zg ?_ | refine zI ?_ | refine zJ ?_ | refine zG ?_) | ((with_reducible refine And.intro ?_ ?_); · exact Sq) | ((first | with_reducible refine zC fun KC J hJ hKC => ?_ | (refine hKC _ _ _ _ _ (zD (hfn) rfl rfl rfl ?_ ?_); (· exact Lq))); simp (maxSteps := 9999999) only [push_cast, seval, ↓reduceIte, hlt, zAK hx, zb (i := i) (n := xs.length) (by omega) (by omega)]) | ((with_reducible refine hJ _ _ ?_); clear hJ hKC KC J) | ((with_reducible refine zF ?_ ?_); · rfl) | (refine zs rfl (fun h => ?_) (fun h => ?_) <;> try simp only [decide_eq_true_eq, decide_eq_false_iff_not, Bool.not_eq_true', Bool.not_eq_false', beq_iff_eq, bne_iff_ne, ne_eq, Bool.not_eq_true, Bool.or_eq_true, Bool.and_eq_true, Bool.or_eq_false_iff, Bool.and_eq_false_imp, beq_eq_false_iff_ne, bne_eq_false_iff_eq] at h)
   ·refine zE ?_
    simp (maxSteps := 9999999) only [push_cast, seval, ↓reduceIte, show Tryz.f197.results = #[(.tmp 4)] from rfl]
    exact zAF (by rw [zBt (by omega) h hn])
   ·refine ⟨⟨i + 1, by omega, fun j hj hji => ?_⟩, by simp only; omega, ?_, Fq⟩
    ·by_cases he : j = i
     ·subst he; exact h
     ·exact hn j hj (by omega)
    ·exact Lq
  ·skip
   repeat' first | (with_reducible first | refine zA ?_ | refine zB ?_ | refine zX ?_ | refine zW ?_ | refine zI ?_ | refine zQ ?_) | ((with_reducible refine zC fun KC J hJ hKC => ?_); simp (maxSteps := 9999999) only [push_cast, seval, ↓reduceIte, hlt]) | ((with_reducible refine hJ _ _ ?_); clear hJ hKC KC J) | ((with_reducible refine zH ?_ ?_); · rfl)
   refine zE ?_
   simp (maxSteps := 9999999) only [push_cast, seval, ↓reduceIte, show Tryz.f197.results = #[(.tmp 4)] from rfl]
   exact zAF (by rw [zBB (fun j hj => hn j hj (by omega))])
theorem zCU (f : Bool) (xs : List (Int × Int)) (cf : Nat) (caps : List D) (p : Int × Int → Bool) (hb : xs.length ≤ 1000) (hc : zk caps = true)
  (hp : ∀ x ∈ xs, Fn Tryz.prog cf (.agg [.v (.int .i64 x.1), .v (.int .i64 x.2)] :: caps) [] (.v (.bool (p x))) []) : Fn Tryz.prog 98 [.sl f 2 (zR xs), .fn cf caps] [] (.v (.bool (xs.any p))) [] := by
 have hfn := zIe f xs cf caps p hb hc hp
 refine Fn.of (fn := Tryz.f98) (by kernel_rfl) rfl (by kernel_rfl) ⟨[.sl f 2 (zR xs), .fn cf caps, .v undef, .v undef, .v undef, .v undef, .v undef, .v undef, .v undef], []⟩ rfl ?_
 repeat' first | (with_reducible first | refine zA ?_ | refine zB ?_ | refine zI ?_) | ((first | with_reducible refine zC fun KC J hJ hKC => ?_ | (refine hKC _ _ _ _ _ (zD (hfn) rfl rfl rfl ?_ ?_); (· exact Lq))); simp (maxSteps := 9999999) only [push_cast, seval, ↓reduceIte, zDd]) | ((with_reducible refine hJ _ _ ?_); clear hJ hKC KC J)
 refine zE ?_
 simp (maxSteps := 9999999) only [push_cast, seval, ↓reduceIte, show Tryz.f98.results = #[(.tmp 4)] from rfl]
 exact zN _
theorem zJH (f : Bool) (xs : List (Bool × Int × Int)) (cf : Nat) (caps : List D) (p : Bool × Int × Int → Bool) (hb : xs.length ≤ 1000) (hc : zk caps = true)
  (hp : ∀ x ∈ xs, Fn Tryz.prog cf (.agg [.v (.bool x.1), .v (.int .i64 x.2.1), .v (.int .i64 x.2.2)] :: caps) [] (.v (.bool (p x))) []) : Fn Tryz.prog 198 [.sl f 3 (zc xs), .fn cf caps] [] (.v (.int .i64 (zDQ p xs))) [] := by
 refine Fn.of (fn := Tryz.f198) (by kernel_rfl) rfl (by kernel_rfl) ⟨[.sl f 3 (zc xs), .fn cf caps, .v undef, .v undef, .v undef, .v undef, .v undef, .v undef, .v undef, .v undef, .v undef, .v undef, .v undef, .v undef, .v undef, .v undef, .v undef, .v undef, .v undef], []⟩ rfl ?_
 repeat' first | (with_reducible first | refine zA ?_ | refine zB ?_ | refine zG ?_) | ((with_reducible refine zC fun KC J hJ hKC => ?_); simp (maxSteps := 9999999) only [push_cast, seval, ↓reduceIte]) | ((with_reducible refine hJ _ _ ?_); clear hJ hKC KC J)
 refine ze (γ := {i : Nat // i ≤ xs.length ∧ ∀ (j : Nat) (hj : j < xs.length), j < i → p xs[j] = false}) (fun i => ⟨[.sl f 3 (zc xs), .fn cf caps, .any, .any, .any, .any, .any, .v (.int .i64 xs.length), .v (.int .i64 i.1), .any, .any, .any, .any, .any, .any, .any, .any, .any, .any], []⟩) (fun i => xs.length - i.1) ⟨0, by simp⟩ ⟨?_, Fq⟩ ?_
 ·exact Lq
 ·rintro ⟨i, hi, hn⟩
  by_cases hlt : (i : Int) < (xs.length : Int)
  ·have hx : xs[i]? = some xs[i] := List.getElem?_eq_getElem (by omega)
   have hfn := hp xs[i] (List.getElem_mem (by omega))
   repeat' first | (with_reducible first | refine zA ?_ | refine zB ?_ | refine zS ?_ | refine zO ?_ | refine zg ?_ | refine zI ?_ | refine zJ ?_ | refine zG ?_) | ((with_reducible refine And.intro ?_ ?_); · exact Sq) | ((first | with_reducible refine zC fun KC J hJ hKC => ?_ | (refine hKC _ _ _ _ _ (zD (hfn) rfl rfl rfl ?_ ?_); (· exact Lq))); simp (maxSteps := 9999999) only [push_cast, seval, ↓reduceIte, hlt, zAJ hx, zb (i := i) (n := xs.length) (by omega) (by omega)]) | ((with_reducible refine hJ _ _ ?_); clear hJ hKC KC J) | ((with_reducible refine zF ?_ ?_); · rfl) | (refine zs rfl (fun h => ?_) (fun h => ?_) <;> try simp only [decide_eq_true_eq, decide_eq_false_iff_not, Bool.not_eq_true', Bool.not_eq_false', beq_iff_eq, bne_iff_ne, ne_eq, Bool.not_eq_true, Bool.or_eq_true, Bool.and_eq_true, Bool.or_eq_false_iff, Bool.and_eq_false_imp, beq_eq_false_iff_ne, bne_eq_false_iff_eq] at h)
   ·refine zE ?_
    simp (maxSteps := 9999999) only [push_cast, seval, ↓reduceIte, show Tryz.f198.results = #[(.tmp 4)] from rfl]
    exact zAF (by rw [zBt (by omega) h hn])
   ·refine ⟨⟨i + 1, by omega, fun j hj hji => ?_⟩, by simp only; omega, ?_, Fq⟩
    ·by_cases he : j = i
     ·subst he; exact h
     ·exact hn j hj (by omega)
    ·exact Lq
  ·skip
   repeat' first | (with_reducible first | refine zA ?_ | refine zB ?_ | refine zX ?_ | refine zW ?_ | refine zI ?_ | refine zQ ?_) | ((with_reducible refine zC fun KC J hJ hKC => ?_); simp (maxSteps := 9999999) only [push_cast, seval, ↓reduceIte, hlt]) | ((with_reducible refine hJ _ _ ?_); clear hJ hKC KC J) | ((with_reducible refine zH ?_ ?_); · rfl)
   refine zE ?_
   simp (maxSteps := 9999999) only [push_cast, seval, ↓reduceIte, show Tryz.f198.results = #[(.tmp 4)] from rfl]
   exact zAF (by rw [zBB (fun j hj => hn j hj (by omega))])
theorem zDV (f : Bool) (xs : List (Bool × Int × Int)) (cf : Nat) (caps : List D) (p : Bool × Int × Int → Bool) (hb : xs.length ≤ 1000) (hc : zk caps = true)
  (hp : ∀ x ∈ xs, Fn Tryz.prog cf (.agg [.v (.bool x.1), .v (.int .i64 x.2.1), .v (.int .i64 x.2.2)] :: caps) [] (.v (.bool (p x))) []) : Fn Tryz.prog 100 [.sl f 3 (zc xs), .fn cf caps] [] (.v (.bool (xs.any p))) [] := by
 have hfn := zJH f xs cf caps p hb hc hp
 refine Fn.of (fn := Tryz.f100) (by kernel_rfl) rfl (by kernel_rfl) ⟨[.sl f 3 (zc xs), .fn cf caps, .v undef, .v undef, .v undef, .v undef, .v undef, .v undef, .v undef], []⟩ rfl ?_
 repeat' first | (with_reducible first | refine zA ?_ | refine zB ?_ | refine zI ?_) | ((first | with_reducible refine zC fun KC J hJ hKC => ?_ | (refine hKC _ _ _ _ _ (zD (hfn) rfl rfl rfl ?_ ?_); (· exact Lq))); simp (maxSteps := 9999999) only [push_cast, seval, ↓reduceIte, zDd]) | ((with_reducible refine hJ _ _ ?_); clear hJ hKC KC J)
 refine zE ?_
 simp (maxSteps := 9999999) only [push_cast, seval, ↓reduceIte, show Tryz.f100.results = #[(.tmp 4)] from rfl]
 exact zN _
theorem zFz {α : Type} (p : α → Bool) (l : List α) : (!l.any fun x => !p x) = l.all p := by rw [List.all_eq_not_any_not]
theorem zJF (f g : Bool) (ns : List ByteArray) (us : List Nat) (x : Int × Int × Int) : Fn Tryz.prog 269 [.agg [.v (.int .i64 x.1), .v (.int .i64 x.2.1), .v (.int .i64 x.2.2)], .fad [.sl f 1 (zM ns), .sl g 1 (zL us)]] [] (.v (.bool (!zBR us.length x))) [] := by
 have h1 := zKO us.length x
 refine Fn.of (fn := Tryz.f269) (by kernel_rfl) rfl (by kernel_rfl) ⟨[.agg [.v (.int .i64 x.1), .v (.int .i64 x.2.1), .v (.int .i64 x.2.2)], .fad [.sl f 1 (zM ns), .sl g 1 (zL us)], .v undef, .v undef, .v undef, .v undef, .v undef, .v undef, .v undef, .v undef], []⟩ rfl ?_
 repeat' first | (with_reducible first | refine zA ?_ | refine zB ?_ | refine zI ?_) | ((first | with_reducible refine zC fun KC J hJ hKC => ?_ | (refine hKC _ _ _ _ _ (zD (h1) rfl rfl rfl ?_ ?_); (· exact Lq))); simp (maxSteps := 9999999) only [push_cast, seval, ↓reduceIte]) | ((with_reducible refine hJ _ _ ?_); clear hJ hKC KC J)
 refine zE ?_
 simp (maxSteps := 9999999) only [push_cast, seval, ↓reduceIte, show Tryz.f269.results = #[(.tmp 3)] from rfl]
 exact Lq
theorem zMJ (f g h : Bool) (ns : List ByteArray) (us : List Nat) (c : List (Int × Int × Int)) (hs : Szs ns) (hu : U32 us) (hc : zq ns us = 0) (hl : c.length ≤ 1000) :
  Fn Tryz.prog 195 [.agg [.sl f 1 (zM ns), .sl g 1 (zL us)], .sl h 3 (zh c)] [] (.v (.bool (zDL us.length c))) [] := by
 have h1 := zBP f g ns us hs hu
 have h2 := zDb h c 269 [.fad [.sl f 1 (zM ns), .sl g 1 (zL us)]] (fun x => !zBR us.length x) hl rfl (fun x _ => zJF f g ns us x)
 rw [hc] at h1
 rw [zDL, Bool.and_comm, ← zFz]
 obtain ⟨a, ha⟩ : ∃ a, (c.any fun x => !zBR us.length x) = a := ⟨_, rfl⟩
 rw [ha] at h2 ⊢
 obtain ⟨b, hb⟩ : ∃ b, decide (c.length ≤ 12) = b := ⟨_, rfl⟩
 have hb' : decide ((c.length : Int) ≤ 12) = b := by rw [← hb]; exact decide_eq_decide.2 (by omega)
 rw [hb]
 refine Fn.of (fn := Tryz.f195) (by kernel_rfl) rfl (by kernel_rfl) ⟨[.agg [.sl f 1 (zM ns), .sl g 1 (zL us)], .sl h 3 (zh c), .v undef, .v undef, .v undef, .v undef, .v undef, .v undef, .v undef, .v undef, .v undef, .v undef, .v undef, .v undef, .v undef, .v undef, .v undef, .v undef, .v undef, .v undef, .v undef], []⟩ rfl ?_
 cases b
 all_goals
  repeat' first | (refine zV 1 0 rfl (by (simp (maxSteps := 9999999) only [push_cast, seval, ↓reduceIte]) <;> rfl) ?_; simp (maxSteps := 9999999) only [push_cast, seval, ↓reduceIte, zAH, zd, fr3, fr2, fr1, fr0, zl, zj, hb', undef]) | (with_reducible first | refine zA ?_ | refine zB ?_ | refine zI ?_) | ((first | with_reducible refine zC fun KC J hJ hKC => ?_ | (refine hKC _ _ _ _ _ (zD (h1) rfl rfl rfl ?_ ?_); (· exact Lq)) | (refine hKC _ _ _ _ _ (zD (h2) rfl rfl rfl ?_ ?_); (· exact Lq))); simp (maxSteps := 9999999) only [push_cast, seval, ↓reduceIte, hb', undef]) | ((with_reducible refine hJ _ _ ?_); clear hJ hKC KC J)
  refine zE ?_
  simp (maxSteps := 9999999) only [push_cast, seval, ↓reduceIte, show Tryz.f195.results = #[(.tmp 4)] from rfl]
  exact Lq
theorem zFT (f g : Bool) (ns : List ByteArray) (us : List Nat) (a : Int) : Fn Tryz.prog 190 [.v (.int .i64 a), .fad [.sl f 1 (zM ns), .sl g 1 (zL us)]] [] (.v (.bool (!zn us.length a))) [] := by
 obtain ⟨x, hx⟩ : ∃ x, decide (0 ≤ a) = x := ⟨_, rfl⟩
 have ho : (!zn us.length a) = (x && decide (a < (us.length : Int))) := by
  rw [← hx, Bool.eq_iff_iff]; simp [zn]
 rw [ho]
 refine Fn.of (fn := Tryz.f190) (by kernel_rfl) rfl (by kernel_rfl) ⟨[.v (.int .i64 a), .fad [.sl f 1 (zM ns), .sl g 1 (zL us)], .v undef, .v undef, .v undef, .v undef, .v undef, .v undef, .v undef, .v undef, .v undef, .v undef, .v undef], []⟩ rfl ?_
 cases x
 all_goals
  repeat' first | (with_reducible first | refine zA ?_ | refine zB ?_ | refine zI ?_) | ((with_reducible refine zC fun KC J hJ hKC => ?_); simp (maxSteps := 9999999) only [push_cast, seval, ↓reduceIte, hx, undef]) | ((with_reducible refine hJ _ _ ?_); clear hJ hKC KC J)
  refine zE ?_
  simp (maxSteps := 9999999) only [push_cast, seval, ↓reduceIte, show Tryz.f190.results = #[(.tmp 3)] from rfl]
  exact Lq
theorem zIs (n : Int) : Fn Tryz.prog 192 [.v (.int .i64 n)] [] (.v (.bool (inB (-20) 20 n))) [] := by
 obtain ⟨x, hx⟩ : ∃ x, decide (-20 ≤ n) = x := ⟨_, rfl⟩
 rw [inB, hx]
 refine Fn.of (fn := Tryz.f192) (by kernel_rfl) rfl (by kernel_rfl) ⟨[.v (.int .i64 n), .v undef, .v undef, .v undef, .v undef, .v undef, .v undef, .v undef, .v undef], []⟩ rfl ?_
 cases x
 all_goals
  repeat' first | (with_reducible first | refine zA ?_ | refine zB ?_ | refine zI ?_) | ((with_reducible refine zC fun KC J hJ hKC => ?_); simp (maxSteps := 9999999) only [push_cast, seval, ↓reduceIte, hx, undef]) | ((with_reducible refine hJ _ _ ?_); clear hJ hKC KC J)
  refine zE ?_
  simp (maxSteps := 9999999) only [push_cast, seval, ↓reduceIte, show Tryz.f192.results = #[(.tmp 2)] from rfl]
  exact Lq
theorem zHz (n : Int) : Fn Tryz.prog 194 [.v (.int .i64 n)] [] (.v (.bool (inB (0) 12 n))) [] := by
 obtain ⟨x, hx⟩ : ∃ x, decide (0 ≤ n) = x := ⟨_, rfl⟩
 rw [inB, hx]
 refine Fn.of (fn := Tryz.f194) (by kernel_rfl) rfl (by kernel_rfl) ⟨[.v (.int .i64 n), .v undef, .v undef, .v undef, .v undef, .v undef, .v undef, .v undef, .v undef], []⟩ rfl ?_
 cases x
 all_goals
  repeat' first | (with_reducible first | refine zA ?_ | refine zB ?_ | refine zI ?_) | ((with_reducible refine zC fun KC J hJ hKC => ?_); simp (maxSteps := 9999999) only [push_cast, seval, ↓reduceIte, hx, undef]) | ((with_reducible refine hJ _ _ ?_); clear hJ hKC KC J)
  refine zE ?_
  simp (maxSteps := 9999999) only [push_cast, seval, ↓reduceIte, show Tryz.f194.results = #[(.tmp 2)] from rfl]
  exact Lq
theorem zJa (f g : Bool) (ns : List ByteArray) (us : List Nat) (x : Int × Int) : Fn Tryz.prog 191 [.agg [.v (.int .i64 x.1), .v (.int .i64 x.2)], .fad [.fn 190 [.fad [.sl f 1 (zM ns), .sl g 1 (zL us)]]]] [] (.v (.bool (!zBL us.length x))) [] := by
 have h1 := zIs x.1
 have h2 := zFT f g ns us x.2
 unfold zBL
 obtain ⟨a, ha⟩ : ∃ a, inB (-20) 20 x.1 = a := ⟨_, rfl⟩
 obtain ⟨b, hb⟩ : ∃ b, (!zn us.length x.2) = b := ⟨_, rfl⟩
 rw [ha] at h1 ⊢
 rw [hb] at h2 ⊢
 refine Fn.of (fn := Tryz.f191) (by kernel_rfl) rfl (by kernel_rfl) ⟨[.agg [.v (.int .i64 x.1), .v (.int .i64 x.2)], .fad [.fn 190 [.fad [.sl f 1 (zM ns), .sl g 1 (zL us)]]], .v undef, .v undef, .v undef, .v undef, .v undef, .v undef, .v undef, .v undef, .v undef, .v undef, .v undef, .v undef, .v undef], []⟩ rfl ?_
 cases a
 all_goals
  repeat' first | (with_reducible first | refine zA ?_ | refine zB ?_ | refine zI ?_) | ((first | with_reducible refine zC fun KC J hJ hKC => ?_ | (refine hKC _ _ _ _ _ (zD (h1) rfl rfl rfl ?_ ?_); (· exact Lq)) | (refine hKC _ _ _ _ _ (zD (h2) rfl rfl rfl ?_ ?_); (· exact Lq))); simp (maxSteps := 9999999) only [push_cast, seval, ↓reduceIte, undef]) | ((with_reducible refine hJ _ _ ?_); clear hJ hKC KC J)
  refine zE ?_
  simp (maxSteps := 9999999) only [push_cast, seval, ↓reduceIte, show Tryz.f191.results = #[(.tmp 3)] from rfl]
  exact Lq
theorem zOI (f g : Bool) (ns : List ByteArray) (us : List Nat) (x : Bool × Int × Int) : Fn Tryz.prog 193 [.agg [.v (.bool x.1), .v (.int .i64 x.2.1), .v (.int .i64 x.2.2)], .fad [.fn 190 [.fad [.sl f 1 (zM ns), .sl g 1 (zL us)]]]] [] (.v (.bool (!zCC us.length x))) [] := by
 obtain ⟨r, v, l⟩ := x
 have h1 := zIs v
 have h3 := zHz v
 have h2 := zFT f g ns us l
 simp only [zCC]
 obtain ⟨a, ha⟩ : ∃ a, inB (-20) 20 v = a := ⟨_, rfl⟩
 obtain ⟨c, hc⟩ : ∃ c, inB 0 12 v = c := ⟨_, rfl⟩
 obtain ⟨b, hb⟩ : ∃ b, (!zn us.length l) = b := ⟨_, rfl⟩
 rw [ha] at h1 ⊢
 rw [hc] at h3 ⊢
 rw [hb] at h2 ⊢
 cases b
 case false =>
  refine Fn.of (fn := Tryz.f193) (by kernel_rfl) rfl (by kernel_rfl) ⟨[.agg [.v (.bool r), .v (.int .i64 v), .v (.int .i64 l)], .fad [.fn 190 [.fad [.sl f 1 (zM ns), .sl g 1 (zL us)]]], .v undef, .v undef, .v undef, .v undef, .v undef, .v undef, .v undef, .v undef, .v undef, .v undef, .v undef, .v undef, .v undef, .v undef, .v undef, .v undef, .v undef, .v undef, .v undef, .v undef, .v undef, .v undef, .v undef, .v undef, .v undef, .v undef, .v undef, .v undef], []⟩ rfl ?_
  repeat' first | (with_reducible first | refine zA ?_ | refine zB ?_ | refine zI ?_) | ((first | with_reducible refine zC fun KC J hJ hKC => ?_ | (refine hKC _ _ _ _ _ (zD (h2) rfl rfl rfl ?_ ?_); (· exact Lq))); simp (maxSteps := 9999999) only [push_cast, seval, ↓reduceIte, undef]) | ((with_reducible refine hJ _ _ ?_); clear hJ hKC KC J)
  refine zE ?_
  simp (maxSteps := 9999999) only [push_cast, seval, ↓reduceIte, show Tryz.f193.results = #[(.tmp 3)] from rfl]
  exact Lq
 cases r
 case false =>
  cases a
  all_goals
   refine Fn.of (fn := Tryz.f193) (by kernel_rfl) rfl (by kernel_rfl) ⟨[.agg [.v (.bool false), .v (.int .i64 v), .v (.int .i64 l)], .fad [.fn 190 [.fad [.sl f 1 (zM ns), .sl g 1 (zL us)]]], .v undef, .v undef, .v undef, .v undef, .v undef, .v undef, .v undef, .v undef, .v undef, .v undef, .v undef, .v undef, .v undef, .v undef, .v undef, .v undef, .v undef, .v undef, .v undef, .v undef, .v undef, .v undef, .v undef, .v undef, .v undef, .v undef, .v undef, .v undef], []⟩ rfl ?_
   repeat' first | (with_reducible first | refine zA ?_ | refine zB ?_ | refine zI ?_) | ((first | with_reducible refine zC fun KC J hJ hKC => ?_ | (refine hKC _ _ _ _ _ (zD (h1) rfl rfl rfl ?_ ?_); (· exact Lq)) | (refine hKC _ _ _ _ _ (zD (h2) rfl rfl rfl ?_ ?_); (· exact Lq))); simp (maxSteps := 9999999) only [push_cast, seval, ↓reduceIte, undef]) | ((with_reducible refine hJ _ _ ?_); clear hJ hKC KC J)
   refine zE ?_
   simp (maxSteps := 9999999) only [push_cast, seval, ↓reduceIte, show Tryz.f193.results = #[(.tmp 3)] from rfl]
   exact Lq
 cases c
 all_goals
  refine Fn.of (fn := Tryz.f193) (by kernel_rfl) rfl (by kernel_rfl) ⟨[.agg [.v (.bool true), .v (.int .i64 v), .v (.int .i64 l)], .fad [.fn 190 [.fad [.sl f 1 (zM ns), .sl g 1 (zL us)]]], .v undef, .v undef, .v undef, .v undef, .v undef, .v undef, .v undef, .v undef, .v undef, .v undef, .v undef, .v undef, .v undef, .v undef, .v undef, .v undef, .v undef, .v undef, .v undef, .v undef, .v undef, .v undef, .v undef, .v undef, .v undef, .v undef, .v undef, .v undef], []⟩ rfl ?_
  repeat' first | (with_reducible first | refine zA ?_ | refine zB ?_ | refine zI ?_) | ((first | with_reducible refine zC fun KC J hJ hKC => ?_ | (refine hKC _ _ _ _ _ (zD (h2) rfl rfl rfl ?_ ?_); (· exact Lq)) | (refine hKC _ _ _ _ _ (zD (h3) rfl rfl rfl ?_ ?_); (· exact Lq))); simp (maxSteps := 9999999) only [push_cast, seval, ↓reduceIte, undef]) | ((with_reducible refine hJ _ _ ?_); clear hJ hKC KC J)
  refine zE ?_
  simp (maxSteps := 9999999) only [push_cast, seval, ↓reduceIte, show Tryz.f193.results = #[(.tmp 3)] from rfl]
  exact Lq
theorem zQv (n : Nat) (s : Sta) : zEs n s = (zDL n s.code && (inB 0 12 s.v && (!zn n s.l && ((decide (s.mem.length ≤ 6) && (decide (s.stack.length ≤ 12) && decide (s.out.length ≤ 8))) && (s.mem.all (zBL n) && (s.stack.all (zCC n) && s.out.all (zBL n))))))) := by
 unfold zEs
 cases zDL n s.code <;> cases inB 0 12 s.v <;> cases zn n s.l <;> cases s.mem.all (zBL n) <;> cases decide (s.mem.length ≤ 6) <;> cases s.stack.all (zCC n) <;> cases decide (s.stack.length ≤ 12) <;> cases s.out.all (zBL n) <;> cases decide (s.out.length ≤ 8) <;> rfl
set_option maxHeartbeats 8000000 in
theorem zNA (f g : Bool) (ns : List ByteArray) (us : List Nat) (s : Sta) (hs : Szs ns) (hu : U32 us) (hc : zq ns us = 0) (hl : Sml s) :
  Fn Tryz.prog 96 [.agg [.sl f 1 (zM ns), .sl g 1 (zL us)], .agg (zAN false false false false s)] [] (.v (.bool (zEs us.length s))) [] := by
 obtain ⟨l1, l2, l3, l4⟩ := hl
 have h1 := zMJ f g false ns us s.code hs hu hc l1
 have h2 := zHz s.v
 have h3 := zFT f g ns us s.l
 have h4 := zCU false s.mem 191 [.fad [.fn 190 [.fad [.sl f 1 (zM ns), .sl g 1 (zL us)]]]] (fun x => !zBL us.length x) l2 rfl (fun x _ => zJa f g ns us x)
 have h5 := zDV false s.stack 193 [.fad [.fn 190 [.fad [.sl f 1 (zM ns), .sl g 1 (zL us)]]]] (fun x => !zCC us.length x) l3 rfl (fun x _ => zOI f g ns us x)
 have h6 := zCU false s.out 191 [.fad [.fn 190 [.fad [.sl f 1 (zM ns), .sl g 1 (zL us)]]]] (fun x => !zBL us.length x) l4 rfl (fun x _ => zJa f g ns us x)
 rw [zQv, ← zFz, ← zFz, ← zFz]
 obtain ⟨c1, hc1⟩ : ∃ x, zDL us.length s.code = x := ⟨_, rfl⟩
 obtain ⟨c2, hc2⟩ : ∃ x, inB 0 12 s.v = x := ⟨_, rfl⟩
 obtain ⟨c3, hc3⟩ : ∃ x, (!zn us.length s.l) = x := ⟨_, rfl⟩
 obtain ⟨d1, hd1⟩ : ∃ x, decide (s.mem.length ≤ 6) = x := ⟨_, rfl⟩
 obtain ⟨d2, hd2⟩ : ∃ x, decide (s.stack.length ≤ 12) = x := ⟨_, rfl⟩
 obtain ⟨d3, hd3⟩ : ∃ x, decide (s.out.length ≤ 8) = x := ⟨_, rfl⟩
 obtain ⟨c5, hc5⟩ : ∃ x, (s.mem.any fun x => !zBL us.length x) = x := ⟨_, rfl⟩
 obtain ⟨c6, hc6⟩ : ∃ x, (s.stack.any fun x => !zCC us.length x) = x := ⟨_, rfl⟩
 obtain ⟨c7, hc7⟩ : ∃ x, (s.out.any fun x => !zBL us.length x) = x := ⟨_, rfl⟩
 have hd1' : decide ((s.mem.length : Int) ≤ 6) = d1 := by rw [← hd1]; exact decide_eq_decide.2 (by omega)
 have hd2' : decide ((s.stack.length : Int) ≤ 12) = d2 := by rw [← hd2]; exact decide_eq_decide.2 (by omega)
 have hd3' : decide ((s.out.length : Int) ≤ 8) = d3 := by rw [← hd3]; exact decide_eq_decide.2 (by omega)
 rw [hc1] at h1 ⊢
 rw [hc2] at h2 ⊢
 rw [hc3] at h3 ⊢
 rw [hc5] at h4 ⊢
 rw [hc6] at h5 ⊢
 rw [hc7] at h6 ⊢
 rw [hd1, hd2, hd3]
 simp only [zAN]
 refine Fn.of (fn := Tryz.f96) (by kernel_rfl) rfl (by kernel_rfl) ⟨[.agg [.sl f 1 (zM ns), .sl g 1 (zL us)], .agg [.v (.int .i64 s.v), .v (.int .i64 s.l), .sl false 3 (zh s.code), .sl false 2 (zR s.mem), .sl false 3 (zc s.stack), .sl false 2 (zR s.out)], .v undef, .v undef, .v undef, .v undef, .v undef, .v undef, .v undef, .v undef, .v undef, .v undef, .v undef, .v undef, .v undef, .v undef, .v undef, .v undef, .v undef, .v undef, .v undef, .v undef, .v undef, .v undef, .v undef, .v undef, .v undef, .v undef, .v undef, .v undef, .v undef, .v undef, .v undef, .v undef, .v undef, .v undef, .v undef, .v undef, .v undef, .v undef, .v undef, .v undef, .v undef, .v undef, .v undef, .v undef, .v undef, .v undef, .v undef, .v undef, .v undef, .v undef, .v undef, .v undef, .v undef, .v undef, .v undef, .v undef, .v undef, .v undef, .v undef, .v undef, .v undef, .v undef, .v undef, .v undef, .v undef, .v undef, .v undef], []⟩ rfl ?_
 cases c1
 case false =>
  cases d1 <;> cases d2
  all_goals
   repeat' first | (refine zV 1 0 rfl (by (simp (maxSteps := 9999999) only [push_cast, seval, ↓reduceIte]) <;> rfl) ?_; simp (maxSteps := 9999999) only [push_cast, seval, ↓reduceIte, zAH, zd, fr3, fr2, fr1, fr0, zl, zj, hd1', hd2', hd3', undef]) | (refine zV 2 2 rfl (by (simp (maxSteps := 9999999) only [push_cast, seval, ↓reduceIte]) <;> rfl) ?_; simp (maxSteps := 9999999) only [push_cast, seval, ↓reduceIte, zAH, zd, fr3, fr2, fr1, fr0, zl, zj, hd1', hd2', hd3', undef]) | (with_reducible first | refine zA ?_ | refine zB ?_ | refine zI ?_) | ((first | with_reducible refine zC fun KC J hJ hKC => ?_ | (refine hKC _ _ _ _ _ (zD (h1) rfl rfl rfl ?_ ?_); (· exact Lq))); simp (maxSteps := 9999999) only [push_cast, seval, ↓reduceIte, hd1', hd2', hd3', undef]) | ((with_reducible refine hJ _ _ ?_); clear hJ hKC KC J)
   refine zE ?_
   simp (maxSteps := 9999999) only [push_cast, seval, ↓reduceIte, show Tryz.f96.results = #[(.tmp 4)] from rfl]
   exact Lq
 cases c2
 case false =>
  cases d1 <;> cases d2
  all_goals
   repeat' first | (refine zV 1 0 rfl (by (simp (maxSteps := 9999999) only [push_cast, seval, ↓reduceIte]) <;> rfl) ?_; simp (maxSteps := 9999999) only [push_cast, seval, ↓reduceIte, zAH, zd, fr3, fr2, fr1, fr0, zl, zj, hd1', hd2', hd3', undef]) | (refine zV 2 2 rfl (by (simp (maxSteps := 9999999) only [push_cast, seval, ↓reduceIte]) <;> rfl) ?_; simp (maxSteps := 9999999) only [push_cast, seval, ↓reduceIte, zAH, zd, fr3, fr2, fr1, fr0, zl, zj, hd1', hd2', hd3', undef]) | (with_reducible first | refine zA ?_ | refine zB ?_ | refine zI ?_) | ((first | with_reducible refine zC fun KC J hJ hKC => ?_ | (refine hKC _ _ _ _ _ (zD (h1) rfl rfl rfl ?_ ?_); (· exact Lq)) | (refine hKC _ _ _ _ _ (zD (h2) rfl rfl rfl ?_ ?_); (· exact Lq))); simp (maxSteps := 9999999) only [push_cast, seval, ↓reduceIte, hd1', hd2', hd3', undef]) | ((with_reducible refine hJ _ _ ?_); clear hJ hKC KC J)
   refine zE ?_
   simp (maxSteps := 9999999) only [push_cast, seval, ↓reduceIte, show Tryz.f96.results = #[(.tmp 4)] from rfl]
   exact Lq
 cases c3
 case false =>
  cases d1 <;> cases d2
  all_goals
   repeat' first | (refine zV 1 0 rfl (by (simp (maxSteps := 9999999) only [push_cast, seval, ↓reduceIte]) <;> rfl) ?_; simp (maxSteps := 9999999) only [push_cast, seval, ↓reduceIte, zAH, zd, fr3, fr2, fr1, fr0, zl, zj, hd1', hd2', hd3', undef]) | (refine zV 2 2 rfl (by (simp (maxSteps := 9999999) only [push_cast, seval, ↓reduceIte]) <;> rfl) ?_; simp (maxSteps := 9999999) only [push_cast, seval, ↓reduceIte, zAH, zd, fr3, fr2, fr1, fr0, zl, zj, hd1', hd2', hd3', undef]) | (with_reducible first | refine zA ?_ | refine zB ?_ | refine zI ?_) | ((first | with_reducible refine zC fun KC J hJ hKC => ?_ | (refine hKC _ _ _ _ _ (zD (h1) rfl rfl rfl ?_ ?_); (· exact Lq)) | (refine hKC _ _ _ _ _ (zD (h2) rfl rfl rfl ?_ ?_); (· exact Lq)) | (refine hKC _ _ _ _ _ (zD (h3) rfl rfl rfl ?_ ?_); (· exact Lq))); simp (maxSteps := 9999999) only [push_cast, seval, ↓reduceIte, hd1', hd2', hd3', undef]) | ((with_reducible refine hJ _ _ ?_); clear hJ hKC KC J)
   refine zE ?_
   simp (maxSteps := 9999999) only [push_cast, seval, ↓reduceIte, show Tryz.f96.results = #[(.tmp 4)] from rfl]
   exact Lq
 cases d1
 case false =>
  repeat' first | (refine zV 1 0 rfl (by (simp (maxSteps := 9999999) only [push_cast, seval, ↓reduceIte]) <;> rfl) ?_; simp (maxSteps := 9999999) only [push_cast, seval, ↓reduceIte, zAH, zd, fr3, fr2, fr1, fr0, zl, zj, hd1', hd2', hd3', undef]) | (refine zV 2 2 rfl (by (simp (maxSteps := 9999999) only [push_cast, seval, ↓reduceIte]) <;> rfl) ?_; simp (maxSteps := 9999999) only [push_cast, seval, ↓reduceIte, zAH, zd, fr3, fr2, fr1, fr0, zl, zj, hd1', hd2', hd3', undef]) | (with_reducible first | refine zA ?_ | refine zB ?_ | refine zI ?_) | ((first | with_reducible refine zC fun KC J hJ hKC => ?_ | (refine hKC _ _ _ _ _ (zD (h1) rfl rfl rfl ?_ ?_); (· exact Lq)) | (refine hKC _ _ _ _ _ (zD (h2) rfl rfl rfl ?_ ?_); (· exact Lq)) | (refine hKC _ _ _ _ _ (zD (h3) rfl rfl rfl ?_ ?_); (· exact Lq))); simp (maxSteps := 9999999) only [push_cast, seval, ↓reduceIte, hd1', hd2', hd3', undef]) | ((with_reducible refine hJ _ _ ?_); clear hJ hKC KC J)
  refine zE ?_
  simp (maxSteps := 9999999) only [push_cast, seval, ↓reduceIte, show Tryz.f96.results = #[(.tmp 4)] from rfl]
  exact Lq
 cases d2
 case false =>
  repeat' first | (refine zV 1 0 rfl (by (simp (maxSteps := 9999999) only [push_cast, seval, ↓reduceIte]) <;> rfl) ?_; simp (maxSteps := 9999999) only [push_cast, seval, ↓reduceIte, zAH, zd, fr3, fr2, fr1, fr0, zl, zj, hd1', hd2', hd3', undef]) | (refine zV 2 2 rfl (by (simp (maxSteps := 9999999) only [push_cast, seval, ↓reduceIte]) <;> rfl) ?_; simp (maxSteps := 9999999) only [push_cast, seval, ↓reduceIte, zAH, zd, fr3, fr2, fr1, fr0, zl, zj, hd1', hd2', hd3', undef]) | (with_reducible first | refine zA ?_ | refine zB ?_ | refine zI ?_) | ((first | with_reducible refine zC fun KC J hJ hKC => ?_ | (refine hKC _ _ _ _ _ (zD (h1) rfl rfl rfl ?_ ?_); (· exact Lq)) | (refine hKC _ _ _ _ _ (zD (h2) rfl rfl rfl ?_ ?_); (· exact Lq)) | (refine hKC _ _ _ _ _ (zD (h3) rfl rfl rfl ?_ ?_); (· exact Lq))); simp (maxSteps := 9999999) only [push_cast, seval, ↓reduceIte, hd1', hd2', hd3', undef]) | ((with_reducible refine hJ _ _ ?_); clear hJ hKC KC J)
  refine zE ?_
  simp (maxSteps := 9999999) only [push_cast, seval, ↓reduceIte, show Tryz.f96.results = #[(.tmp 4)] from rfl]
  exact Lq
 cases d3
 case false =>
  repeat' first | (refine zV 1 0 rfl (by (simp (maxSteps := 9999999) only [push_cast, seval, ↓reduceIte]) <;> rfl) ?_; simp (maxSteps := 9999999) only [push_cast, seval, ↓reduceIte, zAH, zd, fr3, fr2, fr1, fr0, zl, zj, hd1', hd2', hd3', undef]) | (refine zV 2 2 rfl (by (simp (maxSteps := 9999999) only [push_cast, seval, ↓reduceIte]) <;> rfl) ?_; simp (maxSteps := 9999999) only [push_cast, seval, ↓reduceIte, zAH, zd, fr3, fr2, fr1, fr0, zl, zj, hd1', hd2', hd3', undef]) | (with_reducible first | refine zA ?_ | refine zB ?_ | refine zI ?_) | ((first | with_reducible refine zC fun KC J hJ hKC => ?_ | (refine hKC _ _ _ _ _ (zD (h1) rfl rfl rfl ?_ ?_); (· exact Lq)) | (refine hKC _ _ _ _ _ (zD (h2) rfl rfl rfl ?_ ?_); (· exact Lq)) | (refine hKC _ _ _ _ _ (zD (h3) rfl rfl rfl ?_ ?_); (· exact Lq))); simp (maxSteps := 9999999) only [push_cast, seval, ↓reduceIte, hd1', hd2', hd3', undef]) | ((with_reducible refine hJ _ _ ?_); clear hJ hKC KC J)
  refine zE ?_
  simp (maxSteps := 9999999) only [push_cast, seval, ↓reduceIte, show Tryz.f96.results = #[(.tmp 4)] from rfl]
  exact Lq
 cases c5
 case true =>
  repeat' first | (refine zV 1 0 rfl (by (simp (maxSteps := 9999999) only [push_cast, seval, ↓reduceIte]) <;> rfl) ?_; simp (maxSteps := 9999999) only [push_cast, seval, ↓reduceIte, zAH, zd, fr3, fr2, fr1, fr0, zl, zj, hd1', hd2', hd3', undef]) | (refine zV 2 2 rfl (by (simp (maxSteps := 9999999) only [push_cast, seval, ↓reduceIte]) <;> rfl) ?_; simp (maxSteps := 9999999) only [push_cast, seval, ↓reduceIte, zAH, zd, fr3, fr2, fr1, fr0, zl, zj, hd1', hd2', hd3', undef]) | (with_reducible first | refine zA ?_ | refine zB ?_ | refine zI ?_) | ((first | with_reducible refine zC fun KC J hJ hKC => ?_ | (refine hKC _ _ _ _ _ (zD (h1) rfl rfl rfl ?_ ?_); (· exact Lq)) | (refine hKC _ _ _ _ _ (zD (h2) rfl rfl rfl ?_ ?_); (· exact Lq)) | (refine hKC _ _ _ _ _ (zD (h3) rfl rfl rfl ?_ ?_); (· exact Lq)) | (refine hKC _ _ _ _ _ (zD (h4) rfl rfl rfl ?_ ?_); (· exact Lq))); simp (maxSteps := 9999999) only [push_cast, seval, ↓reduceIte, hd1', hd2', hd3', undef]) | ((with_reducible refine hJ _ _ ?_); clear hJ hKC KC J)
  refine zE ?_
  simp (maxSteps := 9999999) only [push_cast, seval, ↓reduceIte, show Tryz.f96.results = #[(.tmp 4)] from rfl]
  exact Lq
 cases c6
 case true =>
  repeat' first | (refine zV 1 0 rfl (by (simp (maxSteps := 9999999) only [push_cast, seval, ↓reduceIte]) <;> rfl) ?_; simp (maxSteps := 9999999) only [push_cast, seval, ↓reduceIte, zAH, zd, fr3, fr2, fr1, fr0, zl, zj, hd1', hd2', hd3', undef]) | (refine zV 2 2 rfl (by (simp (maxSteps := 9999999) only [push_cast, seval, ↓reduceIte]) <;> rfl) ?_; simp (maxSteps := 9999999) only [push_cast, seval, ↓reduceIte, zAH, zd, fr3, fr2, fr1, fr0, zl, zj, hd1', hd2', hd3', undef]) | (with_reducible first | refine zA ?_ | refine zB ?_ | refine zI ?_) | ((first | with_reducible refine zC fun KC J hJ hKC => ?_ | (refine hKC _ _ _ _ _ (zD (h1) rfl rfl rfl ?_ ?_); (· exact Lq)) | (refine hKC _ _ _ _ _ (zD (h2) rfl rfl rfl ?_ ?_); (· exact Lq)) | (refine hKC _ _ _ _ _ (zD (h3) rfl rfl rfl ?_ ?_); (· exact Lq)) | (refine hKC _ _ _ _ _ (zD (h4) rfl rfl rfl ?_ ?_); (· exact Lq)) | (refine hKC _ _ _ _ _ (zD (h5) rfl rfl rfl ?_ ?_); (· exact Lq))); simp (maxSteps := 9999999) only [push_cast, seval, ↓reduceIte, hd1', hd2', hd3', undef]) | ((with_reducible refine hJ _ _ ?_); clear hJ hKC KC J)
  refine zE ?_
  simp (maxSteps := 9999999) only [push_cast, seval, ↓reduceIte, show Tryz.f96.results = #[(.tmp 4)] from rfl]
  exact Lq
 repeat' first | (refine zV 1 0 rfl (by (simp (maxSteps := 9999999) only [push_cast, seval, ↓reduceIte]) <;> rfl) ?_; simp (maxSteps := 9999999) only [push_cast, seval, ↓reduceIte, zAH, zd, fr3, fr2, fr1, fr0, zl, zj, hd1', hd2', hd3', undef]) | (refine zV 2 2 rfl (by (simp (maxSteps := 9999999) only [push_cast, seval, ↓reduceIte]) <;> rfl) ?_; simp (maxSteps := 9999999) only [push_cast, seval, ↓reduceIte, zAH, zd, fr3, fr2, fr1, fr0, zl, zj, hd1', hd2', hd3', undef]) | (with_reducible first | refine zA ?_ | refine zB ?_ | refine zI ?_) | ((first | with_reducible refine zC fun KC J hJ hKC => ?_ | (refine hKC _ _ _ _ _ (zD (h1) rfl rfl rfl ?_ ?_); (· exact Lq)) | (refine hKC _ _ _ _ _ (zD (h2) rfl rfl rfl ?_ ?_); (· exact Lq)) | (refine hKC _ _ _ _ _ (zD (h3) rfl rfl rfl ?_ ?_); (· exact Lq)) | (refine hKC _ _ _ _ _ (zD (h4) rfl rfl rfl ?_ ?_); (· exact Lq)) | (refine hKC _ _ _ _ _ (zD (h5) rfl rfl rfl ?_ ?_); (· exact Lq)) | (refine hKC _ _ _ _ _ (zD (h6) rfl rfl rfl ?_ ?_); (· exact Lq))); simp (maxSteps := 9999999) only [push_cast, seval, ↓reduceIte, hd1', hd2', hd3', undef]) | ((with_reducible refine hJ _ _ ?_); clear hJ hKC KC J)
 refine zE ?_
 simp (maxSteps := 9999999) only [push_cast, seval, ↓reduceIte, show Tryz.f96.results = #[(.tmp 4)] from rfl]
 exact Lq
def zRp (l : List (Bool × List (Int × Int))) : List (List D) := l.map fun r => [.sl r.1 2 (zR r.2)]
@[push_cast] theorem zRc (l : List (Bool × List (Int × Int))) : (zRp l).length = l.length := by simp [zRp]
def hN (us : List Nat) (l : Int) : Int := if 0 ≤ l then ((hgt us l.toNat : Nat) : Int) else 0
theorem Fn.post {P : Program} {f : Nat} {args : List D} {ext : List Slot} {res res' : D} {out : List Slot} (h : Fn P f args ext res out) (hle : Rle res res') : Fn P f args ext res' out where
 enter := h.enter
 spec := fun N0 ρ w vs hp hs hr => (h.spec N0 ρ w vs hp hs hr).mono fun e w' he => by
  obtain ⟨v, ρ', h1, h2, h3⟩ := he
  exact ⟨v, ρ', h1, h2, hle _ _ _ _ _ h3⟩
structure VQ where
 f : Bool
 g : Bool
 ns : List ByteArray
 us : List Nat
 sp : Sp
 o : Nat
structure VOk (q : VQ) : Prop where
 szs : Szs q.ns
 u32 : U32 q.us
 chk : zq q.ns q.us = 0
 lab : q.o < q.us.length
def zNC (q : VQ) (r : Bool) (m : M3) : M3 := if r = true then zPS m 13 else zRW m q.sp.val
end Go.Proofs.YtabliglgeiajlaaGreat.AM
