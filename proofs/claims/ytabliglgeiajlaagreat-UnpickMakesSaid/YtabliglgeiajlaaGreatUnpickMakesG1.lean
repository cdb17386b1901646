/- Walks and plain laws, put together: part 1. -/
import Derived.Test.YtabliglgeiajlaaGreatUnpickMakesG0
import Derived.Test.YtabliglgeiajlaaGreatMc
set_option linter.unusedSimpArgs false
set_option linter.unusedVariables false
namespace Go.Proofs.YtabliglgeiajlaaGreat.AM
open Go Go.RowKit Go.Proofs
set_option maxRecDepth 100000
set_option maxHeartbeats 4000000
def zAO (fc fm fs fo : Bool) (s : Sta) : List D := [.v (.int .i64 s.v), .v (.int .i64 s.l), .sl fc 3 (zo s.code), .sl fm 2 (za s.mem), .sl fs 3 (zg s.stack), .sl fo 2 (za s.out)]
structure Sml (s : Sta) : Prop where
 code : s.code.length ≤ 1000
 mem : s.mem.length ≤ 1000
 stack : s.stack.length ≤ 1000
 out : s.out.length ≤ 1000
structure Sml15 (s : Sta) : Prop where
 code : s.code.length ≤ 15
 mem : s.mem.length ≤ 15
 stack : s.stack.length ≤ 15
 out : s.out.length ≤ 15
theorem Sml15.sml {s : Sta} (h : Sml15 s) : Sml s := ⟨by have := h.code; omega, by have := h.mem; omega, by have := h.stack; omega, by have := h.out; omega⟩
def zDs (s : Sta) : Sta := ⟨s.v, s.l, s.code.take 15, s.mem.take 15, s.stack.take 15, s.out.take 15⟩
theorem zOO (s : Sta) : (zDs s).code.length ≤ 15 ∧ (zDs s).mem.length ≤ 15 ∧ (zDs s).stack.length ≤ 15 ∧ (zDs s).out.length ≤ 15 := by
 simp [zDs]; omega
theorem zKT (s : Sta) : Sml15 (zDs s) := let ⟨h1, h2, h3, h4⟩ := zOO s; ⟨h1, h2, h3, h4⟩
theorem zBd (f g : Bool) (xs ys : List (Int × Int)) (hb : xs.length ≤ 9223372036854775807) : Fn Tryz.prog 59 [.sl f 2 (za xs), .sl g 2 (za ys)] [] (.v (.bool (decide (xs = ys)))) [] := by
 refine Fn.of (fn := Tryz.f59) (by kernel_rfl) rfl (by kernel_rfl) ⟨[.sl f 2 (za xs), .sl g 2 (za ys), .v undef, .v undef, .v undef, .v undef, .v undef, .v undef, .v undef, .v undef, .v undef, .v undef, .v undef, .v undef, .v undef, .v undef, .v undef, .v undef, .v undef, .v undef, .v undef, .v undef, .v undef, .v undef, .v undef, .v undef], []⟩ rfl ?_
 by_cases hl : xs.length = ys.length
 ·have hl' : ((xs.length : Int) != (ys.length : Int)) = false := by simp [hl]
  repeat' first | (with_reducible first | refine zA ?_ | refine zB ?_ | refine zJ ?_ | refine zI ?_) | ((with_reducible refine zC fun KC J hJ hKC => ?_); simp (maxSteps := 9999999) only [push_cast, seval, ↓reduceIte, hl']) | ((with_reducible refine hJ _ _ ?_); clear hJ hKC KC J) | ((with_reducible refine zH ?_ ?_); · rfl)
  refine zAJ (γ := {i : Nat // i ≤ xs.length ∧ ∀ j, j < i → xs[j]? = ys[j]?}) (fun i => ⟨[.sl f 2 (za xs), .sl g 2 (za ys), .any, .any, .any, .any, .any, .any, .any, .any, .any, .any, .v (.int .i64 xs.length), .v (.int .i64 i.1), .any, .any, .any, .any, .any, .any, .any, .any, .any, .any, .any, .any], []⟩) (fun i => xs.length - i.1) ⟨0, by simp⟩ ⟨?_, Fq⟩ ?_
  ·exact Lq
  ·rintro ⟨i, hi, hn⟩
   by_cases hlt : (i : Int) < (xs.length : Int)
   ·have hx : xs[i]? = some xs[i] := List.getElem?_eq_getElem (by omega)
    have hy : ys[i]? = some ys[i] := List.getElem?_eq_getElem (by omega)
    obtain ⟨a, ha⟩ : ∃ a, xs[i] = a := ⟨_, rfl⟩
    obtain ⟨b, hb2⟩ : ∃ b, ys[i] = b := ⟨_, rfl⟩
    rw [ha] at hx
    rw [hb2] at hy
    by_cases he : a = b
    ·have he' : decide (a = b) = true := decide_eq_true he
     repeat' first | (with_reducible first | refine zA ?_ | refine zB ?_ | refine zP ?_ | refine zJ ?_ | refine zI ?_) | ((with_reducible refine And.intro ?_ ?_); · exact Sq) | ((first | with_reducible refine zC fun KC J hJ hKC => ?_ | with_reducible refine zY rfl fun KC J hJ hKC => ?_); simp (maxSteps := 9999999) only [push_cast, seval, ↓reduceIte, hlt, zBh hx, zBh hy, zHu, he', zp (i := i) (n := xs.length) (by omega) hb]) | ((first | with_reducible refine hJ _ _ ?_ | (with_reducible refine hJ _ _ ?_ ?_; · kernel_rfl)); clear hJ hKC KC J) | ((with_reducible refine zG ?_ ?_); · rfl) | ((with_reducible refine zH ?_ ?_); · rfl)
     refine ⟨⟨i + 1, by omega, fun j hj => ?_⟩, by simp only; omega, ?_, Fq⟩
     ·by_cases hji : j = i
      ·rw [hji, hx, hy, he]
      ·exact hn j (by omega)
     ·exact Lq
    ·have he' : decide (a = b) = false := decide_eq_false he
     repeat' first | (with_reducible first | refine zA ?_ | refine zB ?_ | refine zb ?_ | refine zAC ?_ | refine zF ?_ | refine zJ ?_ | refine zI ?_) | ((with_reducible refine And.intro ?_ ?_); · exact Sq) | ((first | with_reducible refine zC fun KC J hJ hKC => ?_ | with_reducible refine zY rfl fun KC J hJ hKC => ?_); simp (maxSteps := 9999999) only [push_cast, seval, ↓reduceIte, hlt, zBh hx, zBh hy, zHu, he']) | ((first | with_reducible refine hJ _ _ ?_ | (with_reducible refine hJ _ _ ?_ ?_; · kernel_rfl)); clear hJ hKC KC J) | ((with_reducible refine zG ?_ ?_); · rfl)
     refine zE ?_
     simp (maxSteps := 9999999) only [push_cast, seval, ↓reduceIte, show Tryz.f59.results = #[(.tmp 4)] from rfl]
     rw [decide_eq_false (fun h => he (by rw [h, hy] at hx; exact (Option.some.inj hx).symm))]
     exact zK _
   ·skip
    repeat' first | (with_reducible first | refine zA ?_ | refine zB ?_ | refine zm ?_ | refine zl ?_ | refine zF ?_ | refine zZ ?_) | ((with_reducible refine zC fun KC J hJ hKC => ?_); simp (maxSteps := 9999999) only [push_cast, seval, ↓reduceIte, hlt]) | ((with_reducible refine hJ _ _ ?_); clear hJ hKC KC J) | ((with_reducible refine zH ?_ ?_); · rfl)
    refine zE ?_
    simp (maxSteps := 9999999) only [push_cast, seval, ↓reduceIte, show Tryz.f59.results = #[(.tmp 4)] from rfl]
    rw [decide_eq_true (zEQ hl fun j hj => hn j (by omega))]
    exact zK _
 ·have hl' : ((xs.length : Int) != (ys.length : Int)) = true := by simp; omega
  repeat' first | (with_reducible first | refine zA ?_ | refine zB ?_ | refine zb ?_ | refine zF ?_) | ((with_reducible refine zC fun KC J hJ hKC => ?_); simp (maxSteps := 9999999) only [push_cast, seval, ↓reduceIte, hl']) | ((with_reducible refine hJ _ _ ?_); clear hJ hKC KC J) | ((with_reducible refine zG ?_ ?_); · rfl)
  refine zE ?_
  simp (maxSteps := 9999999) only [push_cast, seval, ↓reduceIte, show Tryz.f59.results = #[(.tmp 4)] from rfl]
  rw [decide_eq_false (fun h => hl (by rw [h]))]
  exact zK _
def zKZ (a b : Sta) : Bool := !(!(a.v == b.v && a.l == b.l) || (!decide (a.code = b.code) || (!decide (a.mem = b.mem) || !decide (a.out = b.out)))) && decide (a.stack = b.stack)
theorem zKN {a b : Sta} : zKZ a b = true ↔ a = b := by
 obtain ⟨v, l, c, m, s, o⟩ := a
 obtain ⟨v', l', c', m', s', o'⟩ := b
 simp [zKZ]
 constructor
 ·rintro ⟨⟨⟨h1, h2⟩, h3, h4, h5⟩, h6⟩; exact ⟨h1, h2, h3, h4, h6, h5⟩
 ·rintro ⟨h1, h2, h3, h4, h5, h6⟩; exact ⟨⟨⟨h1, h2⟩, h3, h4, h6⟩, h5⟩
theorem zBc (f g : Bool) (xs ys : List (Int × Int × Int)) (hb : xs.length ≤ 1000) : Fn Tryz.prog 58 [.sl f 3 (zo xs), .sl g 3 (zo ys)] [] (.v (.bool (decide (xs = ys)))) [] := by
 refine Fn.of (fn := Tryz.f58) (by kernel_rfl) rfl (by kernel_rfl) ⟨[.sl f 3 (zo xs), .sl g 3 (zo ys), .v undef, .v undef, .v undef, .v undef, .v undef, .v undef, .v undef, .v undef, .v undef, .v undef, .v undef, .v undef, .v undef, .v undef, .v undef, .v undef, .v undef, .v undef, .v undef, .v undef, .v undef, .v undef, .v undef, .v undef], []⟩ rfl ?_
 by_cases hl : xs.length = ys.length
 ·have hl' : ((xs.length : Int) != (ys.length : Int)) = false := by simp [hl]
  repeat' first | (with_reducible first | refine zA ?_ | refine zB ?_ | refine zJ ?_ | refine zI ?_) | ((with_reducible refine zC fun KC J hJ hKC => ?_); simp (maxSteps := 9999999) only [push_cast, seval, ↓reduceIte, hl']) | ((with_reducible refine hJ _ _ ?_); clear hJ hKC KC J) | ((with_reducible refine zH ?_ ?_); · rfl)
  refine zAJ (γ := {i : Nat // i ≤ xs.length ∧ ∀ j, j < i → xs[j]? = ys[j]?}) (fun i => ⟨[.sl f 3 (zo xs), .sl g 3 (zo ys), .any, .any, .any, .any, .any, .any, .any, .any, .any, .any, .v (.int .i64 xs.length), .v (.int .i64 i.1), .any, .any, .any, .any, .any, .any, .any, .any, .any, .any, .any, .any], []⟩) (fun i => xs.length - i.1) ⟨0, by simp⟩ ⟨?_, Fq⟩ ?_
  ·exact Lq
  ·rintro ⟨i, hi, hn⟩
   by_cases hlt : (i : Int) < (xs.length : Int)
   ·have hx : xs[i]? = some xs[i] := List.getElem?_eq_getElem (by omega)
    have hy : ys[i]? = some ys[i] := List.getElem?_eq_getElem (by omega)
    obtain ⟨⟨a1, a2, a3⟩, ha⟩ : ∃ a, xs[i] = a := ⟨_, rfl⟩
    obtain ⟨⟨b1, b2, b3⟩, hb2⟩ : ∃ b, ys[i] = b := ⟨_, rfl⟩
    rw [ha] at hx
    rw [hb2] at hy
    by_cases he : (a1, a2, a3) = (b1, b2, b3)
    ·cases he
     repeat' first | (with_reducible first | refine zA ?_ | refine zB ?_ | refine zP ?_ | refine zJ ?_ | refine zI ?_) | ((with_reducible refine And.intro ?_ ?_); · exact Sq) | ((first | with_reducible refine zC fun KC J hJ hKC => ?_ | with_reducible refine zY rfl fun KC J hJ hKC => ?_); simp (maxSteps := 9999999) only [push_cast, seval, ↓reduceIte, hlt, zCj hx, zCj hy, beq_self_eq_true, Bool.and_self, Bool.not_true, bne_self_eq_false, zp (i := i) (n := xs.length) (by omega) (by omega)]) | ((first | with_reducible refine hJ _ _ ?_ | (with_reducible refine hJ _ _ ?_ ?_; · kernel_rfl)); clear hJ hKC KC J) | ((with_reducible refine zG ?_ ?_); · rfl) | ((with_reducible refine zH ?_ ?_); · rfl)
     refine ⟨⟨i + 1, by omega, fun j hj => ?_⟩, by simp only; omega, ?_, Fq⟩
     ·by_cases hji : j = i
      ·rw [hji, hx, hy]
      ·exact hn j (by omega)
     ·exact Lq
    ·have he' : (a1 == b1 && (a2 == b2 && a3 == b3)) = false := by
      cases h : (a1 == b1 && (a2 == b2 && a3 == b3)) with
      | false => rfl
      | true =>
       simp only [Bool.and_eq_true, beq_iff_eq] at h
       exact absurd (by rw [h.1, h.2.1, h.2.2]) he
     repeat' first | (with_reducible first | refine zA ?_ | refine zB ?_ | refine zb ?_ | refine zAC ?_ | refine zF ?_ | refine zJ ?_ | refine zI ?_) | ((with_reducible refine And.intro ?_ ?_); · exact Sq) | ((first | with_reducible refine zC fun KC J hJ hKC => ?_ | with_reducible refine zY rfl fun KC J hJ hKC => ?_); simp (maxSteps := 9999999) only [push_cast, seval, ↓reduceIte, hlt, zCj hx, zCj hy, he']) | ((first | with_reducible refine hJ _ _ ?_ | (with_reducible refine hJ _ _ ?_ ?_; · kernel_rfl)); clear hJ hKC KC J) | ((with_reducible refine zG ?_ ?_); · rfl)
     refine zE ?_
     simp (maxSteps := 9999999) only [push_cast, seval, ↓reduceIte, show Tryz.f58.results = #[(.tmp 4)] from rfl]
     rw [decide_eq_false (fun h => he (by rw [h, hy] at hx; exact (Option.some.inj hx).symm))]
     exact zK _
   ·skip
    repeat' first | (with_reducible first | refine zA ?_ | refine zB ?_ | refine zm ?_ | refine zl ?_ | refine zF ?_ | refine zZ ?_) | ((with_reducible refine zC fun KC J hJ hKC => ?_); simp (maxSteps := 9999999) only [push_cast, seval, ↓reduceIte, hlt]) | ((with_reducible refine hJ _ _ ?_); clear hJ hKC KC J) | ((with_reducible refine zH ?_ ?_); · rfl)
    refine zE ?_
    simp (maxSteps := 9999999) only [push_cast, seval, ↓reduceIte, show Tryz.f58.results = #[(.tmp 4)] from rfl]
    rw [decide_eq_true (zEQ hl fun j hj => hn j (by omega))]
    exact zK _
 ·have hl' : ((xs.length : Int) != (ys.length : Int)) = true := by simp; omega
  repeat' first | (with_reducible first | refine zA ?_ | refine zB ?_ | refine zb ?_ | refine zF ?_) | ((with_reducible refine zC fun KC J hJ hKC => ?_); simp (maxSteps := 9999999) only [push_cast, seval, ↓reduceIte, hl']) | ((with_reducible refine hJ _ _ ?_); clear hJ hKC KC J) | ((with_reducible refine zG ?_ ?_); · rfl)
  refine zE ?_
  simp (maxSteps := 9999999) only [push_cast, seval, ↓reduceIte, show Tryz.f58.results = #[(.tmp 4)] from rfl]
  rw [decide_eq_false (fun h => hl (by rw [h]))]
  exact zK _
set_option maxHeartbeats 4000000 in
theorem zKb (a b : Sta) (ha : Sml15 a) (hb : Sml15 b) : Fn Tryz.prog 20 [.agg (zAO false false false false a), .agg (zAO false false false false b)] [] (.v (.bool (zKZ a b))) [] := by
 obtain ⟨ha1, ha2, ha3, ha4⟩ := ha
 obtain ⟨hb1, hb2, hb3, hb4⟩ := hb
 obtain ⟨v, l, c, m, s, o⟩ := a
 obtain ⟨v', l', c', m', s', o'⟩ := b
 simp only at *
 have f1 := zBc false false c c' (by omega)
 have f2 := zBd false false m m' (by omega)
 have f3 := zBd false false o o' (by omega)
 simp only [zKZ]
 obtain ⟨c1, hc1⟩ : ∃ x, (v == v' && l == l') = x := ⟨_, rfl⟩
 obtain ⟨c2, hc2⟩ : ∃ x, decide (c = c') = x := ⟨_, rfl⟩
 obtain ⟨c3, hc3⟩ : ∃ x, decide (m = m') = x := ⟨_, rfl⟩
 obtain ⟨c4, hc4⟩ : ∃ x, decide (o = o') = x := ⟨_, rfl⟩
 rw [hc1, hc2, hc3, hc4]
 rw [hc2] at f1
 rw [hc3] at f2
 rw [hc4] at f3
 refine Fn.of (fn := Tryz.f20) (by kernel_rfl) rfl (by kernel_rfl) ⟨[.agg (zAO false false false false ⟨v, l, c, m, s, o⟩), .agg (zAO false false false false ⟨v', l', c', m', s', o'⟩), .v undef, .v undef, .v undef, .v undef, .v undef, .v undef, .v undef, .v undef, .v undef, .v undef, .v undef, .v undef, .v undef, .v undef, .v undef, .v undef, .v undef, .v undef, .v undef, .v undef, .v undef, .v undef, .v undef, .v undef, .v undef, .v undef, .v undef, .v undef, .v undef, .v undef, .v undef, .v undef, .v undef, .v undef, .v undef, .v undef, .v undef, .v undef, .v undef, .v undef, .v undef, .v undef, .v undef, .v undef, .v undef, .v undef, .v undef, .v undef, .v undef, .v undef, .v undef, .v undef, .v undef, .v undef, .v undef, .v undef, .v undef, .v undef, .v undef, .v undef], []⟩ rfl ?_
 simp only [zAO]
 cases c1
 case false =>
  repeat' first | (with_reducible first | refine zA ?_ | refine zB ?_ | refine zb ?_ | refine zF ?_) | ((with_reducible refine zC fun KC J hJ hKC => ?_); simp (maxSteps := 9999999) only [push_cast, seval, ↓reduceIte, hc1, undef]) | ((with_reducible refine hJ _ _ ?_); clear hJ hKC KC J) | ((with_reducible refine zG ?_ ?_); · rfl)
  refine zE ?_
  simp (maxSteps := 9999999) only [push_cast, seval, ↓reduceIte, show Tryz.f20.results = #[(.tmp 4)] from rfl]
  exact Lq
 cases c2
 case false =>
  repeat' first | (with_reducible first | refine zA ?_ | refine zB ?_ | refine zb ?_ | refine zF ?_) | ((first | with_reducible refine zC fun KC J hJ hKC => ?_ | (refine' hKC _ _ _ _ _ (zD (zBc _ _ _ _ ?_) rfl rfl rfl ?_ ?_); (rotate_left 5); (· exact Lq); (rotate_left 1); (iterate 1 (· exact Hq)))); simp (maxSteps := 9999999) only [push_cast, seval, ↓reduceIte, hc1, hc2, undef]) | ((with_reducible refine hJ _ _ ?_); clear hJ hKC KC J) | ((with_reducible refine zG ?_ ?_); · rfl)
  refine zE ?_
  simp (maxSteps := 9999999) only [push_cast, seval, ↓reduceIte, show Tryz.f20.results = #[(.tmp 4)] from rfl]
  exact Lq
 cases c3
 case false =>
  repeat' first | (with_reducible first | refine zA ?_ | refine zB ?_ | refine zb ?_ | refine zF ?_) | ((first | with_reducible refine zC fun KC J hJ hKC => ?_ | (refine' hKC _ _ _ _ _ (zD (zBc _ _ _ _ ?_) rfl rfl rfl ?_ ?_); (rotate_left 5); (· exact Lq); (rotate_left 1); (iterate 1 (· exact Hq))) | (refine' hKC _ _ _ _ _ (zD (zBd _ _ _ _ ?_) rfl rfl rfl ?_ ?_); (rotate_left 5); (· exact Lq); (rotate_left 1); (iterate 1 (· exact Hq)))); simp (maxSteps := 9999999) only [push_cast, seval, ↓reduceIte, hc1, hc2, hc3, undef]) | ((with_reducible refine hJ _ _ ?_); clear hJ hKC KC J) | ((with_reducible refine zG ?_ ?_); · rfl)
  refine zE ?_
  simp (maxSteps := 9999999) only [push_cast, seval, ↓reduceIte, show Tryz.f20.results = #[(.tmp 4)] from rfl]
  exact Lq
 cases c4
 case false =>
  repeat' first | (with_reducible first | refine zA ?_ | refine zB ?_ | refine zb ?_ | refine zF ?_) | ((first | with_reducible refine zC fun KC J hJ hKC => ?_ | (refine' hKC _ _ _ _ _ (zD (zBc _ _ _ _ ?_) rfl rfl rfl ?_ ?_); (rotate_left 5); (· exact Lq); (rotate_left 1); (iterate 1 (· exact Hq))) | (refine' hKC _ _ _ _ _ (zD (zBd _ _ _ _ ?_) rfl rfl rfl ?_ ?_); (rotate_left 5); (· exact Lq); (rotate_left 1); (iterate 1 (· exact Hq)))); simp (maxSteps := 9999999) only [push_cast, seval, ↓reduceIte, hc1, hc2, hc3, hc4, undef]) | ((with_reducible refine hJ _ _ ?_); clear hJ hKC KC J) | ((with_reducible refine zG ?_ ?_); · rfl)
  refine zE ?_
  simp (maxSteps := 9999999) only [push_cast, seval, ↓reduceIte, show Tryz.f20.results = #[(.tmp 4)] from rfl]
  exact Lq
 by_cases hl : s.length = s'.length
 ·have hl' : ((s.length : Int) != (s'.length : Int)) = false := by simp [hl]
  repeat' first | (with_reducible first | refine zA ?_ | refine zB ?_ | refine zJ ?_ | refine zI ?_) | ((first | with_reducible refine zC fun KC J hJ hKC => ?_ | (refine' hKC _ _ _ _ _ (zD (zBc _ _ _ _ ?_) rfl rfl rfl ?_ ?_); (rotate_left 5); (· exact Lq); (rotate_left 1); (iterate 1 (· exact Hq))) | (refine' hKC _ _ _ _ _ (zD (zBd _ _ _ _ ?_) rfl rfl rfl ?_ ?_); (rotate_left 5); (· exact Lq); (rotate_left 1); (iterate 1 (· exact Hq)))); simp (maxSteps := 9999999) only [push_cast, seval, ↓reduceIte, hc1, hc2, hc3, hc4, hl', undef]) | ((with_reducible refine hJ _ _ ?_); clear hJ hKC KC J) | ((with_reducible refine zH ?_ ?_); · rfl)
  refine zw 2 (γ := {i : Nat // i ≤ s.length ∧ ∀ j, j < i → s[j]? = s'[j]?}) (fun i => ⟨[.any, .any, .ptr 0 0 0, .ptr 1 0 0, .any, .any, .any, .any, .any, .any, .any, .any, .any, .any, .any, .any, .any, .any, .any, .any, .any, .any, .any, .any, .any, .any, .any, .any, .any, .any, .any, .any, .any, .any, .any, .any, .any, .any, .any, .any, .any, .any, .any, .any, .any, .any, .v (.int .i64 s.length), .v (.int .i64 i.1), .any, .any, .any, .any, .any, .any, .any, .any, .any, .any, .any, .any, .any, .any], [.ent ⟨0, none, 39, zAO false false false false ⟨v, l, c, m, s, o⟩, .cells⟩, .ent ⟨0, none, 39, zAO false false false false ⟨v', l', c', m', s', o'⟩, .cells⟩]⟩) (fun i => s.length - i.1) ⟨0, by simp⟩ (fun i => rfl) (fun i => zAF rfl) (fun i => rfl) ⟨?_, Fq⟩ ?_
  ·exact Lq
  ·rintro ⟨i, hi, hn⟩
   simp only [zAO]
   by_cases hlt : (i : Int) < (s.length : Int)
   ·have hx : s[i]? = some s[i] := List.getElem?_eq_getElem (by omega)
    have hy : s'[i]? = some s'[i] := List.getElem?_eq_getElem (by omega)
    obtain ⟨⟨a1, a2, a3⟩, ha⟩ : ∃ a, s[i] = a := ⟨_, rfl⟩
    obtain ⟨⟨b1, b2, b3⟩, hb2⟩ : ∃ b, s'[i] = b := ⟨_, rfl⟩
    rw [ha] at hx
    rw [hb2] at hy
    by_cases he : (a1, a2, a3) = (b1, b2, b3)
    ·cases he
     repeat' first | (with_reducible first | refine zA ?_ | refine zB ?_ | refine zP ?_ | refine zJ ?_ | refine zI ?_) | ((with_reducible refine And.intro ?_ ?_); · exact Sq) | ((first | with_reducible refine zC fun KC J hJ hKC => ?_ | with_reducible refine zY rfl fun KC J hJ hKC => ?_); simp (maxSteps := 9999999) only [push_cast, seval, ↓reduceIte, hlt, zBi hx, zBi hy, beq_self_eq_true, Bool.and_self, Bool.not_true, bne_self_eq_false, zp (i := i) (n := s.length) (by omega) (by omega)]) | ((first | with_reducible refine hJ _ _ ?_ | (with_reducible refine hJ _ _ ?_ ?_; · kernel_rfl)); clear hJ hKC KC J) | ((with_reducible refine zG ?_ ?_); · rfl) | ((with_reducible refine zH ?_ ?_); · rfl)
     refine ⟨⟨i + 1, by omega, fun j hj => ?_⟩, by simp only; omega, ?_, ⟨_, rfl⟩⟩
     ·by_cases hji : j = i
      ·rw [hji, hx, hy]
      ·exact hn j (by omega)
     ·exact Lq
    ·have he' : (a1 == b1 && (a2 == b2 && a3 == b3)) = false := by
      cases h : (a1 == b1 && (a2 == b2 && a3 == b3)) with
      | false => rfl
      | true =>
       simp only [Bool.and_eq_true, beq_iff_eq] at h
       exact absurd (by rw [h.1, h.2.1, h.2.2]) he
     repeat' first | (with_reducible first | refine zA ?_ | refine zB ?_ | refine zb ?_ | refine zAC ?_ | refine zF ?_ | refine zJ ?_ | refine zI ?_) | ((with_reducible refine And.intro ?_ ?_); · exact Sq) | ((first | with_reducible refine zC fun KC J hJ hKC => ?_ | with_reducible refine zY rfl fun KC J hJ hKC => ?_); simp (maxSteps := 9999999) only [push_cast, seval, ↓reduceIte, hlt, zBi hx, zBi hy, he']) | ((first | with_reducible refine hJ _ _ ?_ | (with_reducible refine hJ _ _ ?_ ?_; · kernel_rfl)); clear hJ hKC KC J) | ((with_reducible refine zG ?_ ?_); · rfl)
     refine zE ?_
     simp (maxSteps := 9999999) only [push_cast, seval, ↓reduceIte, show Tryz.f20.results = #[(.tmp 4)] from rfl]
     rw [decide_eq_false (fun h => he (by rw [h, hy] at hx; exact (Option.some.inj hx).symm))]
     exact zK _
   ·skip
    repeat' first | (with_reducible first | refine zA ?_ | refine zB ?_ | refine zm ?_ | refine zl ?_ | refine zF ?_ | refine zZ ?_) | ((with_reducible refine zC fun KC J hJ hKC => ?_); simp (maxSteps := 9999999) only [push_cast, seval, ↓reduceIte, hlt]) | ((with_reducible refine hJ _ _ ?_); clear hJ hKC KC J) | ((with_reducible refine zH ?_ ?_); · rfl)
    refine zE ?_
    simp (maxSteps := 9999999) only [push_cast, seval, ↓reduceIte, show Tryz.f20.results = #[(.tmp 4)] from rfl]
    rw [decide_eq_true (zEQ hl fun j hj => hn j (by omega))]
    exact zK _
 ·have hl' : ((s.length : Int) != (s'.length : Int)) = true := by simp; omega
  repeat' first | (with_reducible first | refine zA ?_ | refine zB ?_ | refine zb ?_ | refine zF ?_) | ((first | with_reducible refine zC fun KC J hJ hKC => ?_ | (refine' hKC _ _ _ _ _ (zD (zBc _ _ _ _ ?_) rfl rfl rfl ?_ ?_); (rotate_left 5); (· exact Lq); (rotate_left 1); (iterate 1 (· exact Hq))) | (refine' hKC _ _ _ _ _ (zD (zBd _ _ _ _ ?_) rfl rfl rfl ?_ ?_); (rotate_left 5); (· exact Lq); (rotate_left 1); (iterate 1 (· exact Hq)))); simp (maxSteps := 9999999) only [push_cast, seval, ↓reduceIte, hc1, hc2, hc3, hc4, hl', undef]) | ((with_reducible refine hJ _ _ ?_); clear hJ hKC KC J) | ((with_reducible refine zG ?_ ?_); · rfl)
  refine zE ?_
  simp (maxSteps := 9999999) only [push_cast, seval, ↓reduceIte, show Tryz.f20.results = #[(.tmp 4)] from rfl]
  rw [decide_eq_false (fun h => hl (by rw [h]))]
  exact zK _
def bel (us : List Nat) (b a : Nat) : Bool := !(b == a) && fl us b a
def zPJ (us : List Nat) (h : Nat → Nat) (a : Nat) : Nat → Nat
 | 0 => 0
 | b + 1 => if bel us b a = true then max (zPJ us h a b) (1 + h b) else zPJ us h a b
def zUX (us : List Nat) : Nat → Nat → Nat
 | 0, _ => 0
 | k + 1, a => zPJ us (zUX us k) a us.length
theorem zOk {us : List Nat} {h : Nat → Nat} {k : Nat} (hh : ∀ b, h b ≤ k) (a : Nat) : ∀ n, zPJ us h a n ≤ k + 1
 | 0 => by simp [zPJ]
 | n + 1 => by
  have := zOk (us := us) hh a n
  have := hh n
  unfold zPJ; split <;> omega
theorem zOX (us : List Nat) : ∀ k a, zUX us k a ≤ k
 | 0, _ => Nat.le_refl _
 | k + 1, a => zOk (zOX us k) a _
def hgt (us : List Nat) (a : Nat) : Nat := zUX us 8 a
theorem zUi (us : List Nat) (a : Nat) : hgt us a ≤ 8 := zOX us 8 a
def zSh (v : Int) : Int := if v < 0 then -v else v
theorem zSg {v : Int} (h0 : -20 ≤ v) (h1 : v ≤ 20) : 0 ≤ zSh v ∧ zSh v ≤ 20 := by unfold zSh; split <;> omega
def zVD (us : List Nat) (z : Int × Int × Int) (v l : Int) : Int × Int × Int := (z.1, z.2.1 + zSh v, z.2.2 + ((hgt us l.toNat : Nat) : Int))
def Bz (k : Nat) (z : Int × Int × Int) : Prop := 0 ≤ z.1 ∧ z.1 ≤ 100 * (k : Int) ∧ 0 ≤ z.2.1 ∧ z.2.1 ≤ 100 * (k : Int) ∧ 0 ≤ z.2.2 ∧ z.2.2 ≤ 100 * (k : Int)
theorem Bz.add {us : List Nat} {k : Nat} {z : Int × Int × Int} (h : Bz k z) {v l : Int} (h0 : -20 ≤ v) (h1 : v ≤ 20) : Bz (k + 1) (zVD us z v l) := by
 have := zSg h0 h1
 have := zUi us l.toNat
 simp only [Bz, zVD] at h ⊢
 omega
structure StaN (n : Nat) (s : Sta) : Prop where
 code : ∀ x ∈ s.code, -20 ≤ x.2.1 ∧ x.2.1 ≤ 20 ∧ (x.1 = 1 → zx n x.2.2 = false)
 mem : ∀ x ∈ s.mem, -20 ≤ x.1 ∧ x.1 ≤ 20 ∧ zx n x.2 = false
 stack : ∀ x ∈ s.stack, -20 ≤ x.2.1 ∧ x.2.1 ≤ 20 ∧ zx n x.2.2 = false
 out : ∀ x ∈ s.out, -20 ≤ x.1 ∧ x.1 ≤ 20 ∧ zx n x.2 = false
 codeL : s.code.length ≤ 12
 memL : s.mem.length ≤ 6
 stackL : s.stack.length ≤ 12
 outL : s.out.length ≤ 8
 v0 : -20 ≤ s.v
 v1 : s.v ≤ 20
 l : zx n s.l = false
@[push_cast] theorem zZB : tyI Tryz.prog 142 = some ⟨TypeDesc.func #[3] #[4] false, 1, 8, Value.nilFunc⟩ := by kernel_rfl
abbrev inD (a b : Int) : D := .fn 299 [.fad [.v (.int .i64 a)], .fad [.v (.int .i64 b)]]
theorem zFV (a b n : Int) : Fn Tryz.prog 299 [.v (.int .i64 n), .fad [.v (.int .i64 a)], .fad [.v (.int .i64 b)]] [] (.v (.bool (inB a b n))) [] := by
 obtain ⟨x, hx⟩ : ∃ x, decide (a ≤ n) = x := ⟨_, rfl⟩
 rw [inB, hx]
 refine Fn.of (fn := Tryz.f299) (by kernel_rfl) rfl (by kernel_rfl) ⟨[.v (.int .i64 n), .fad [.v (.int .i64 a)], .fad [.v (.int .i64 b)], .v undef, .v undef, .v undef, .v undef, .v undef, .v undef, .v undef, .v undef, .v undef, .v undef], []⟩ rfl ?_
 cases x
 all_goals
  repeat' first | (with_reducible first | refine zA ?_ | refine zB ?_ | refine zF ?_) | ((with_reducible refine zC fun KC J hJ hKC => ?_); simp (maxSteps := 9999999) only [push_cast, seval, ↓reduceIte, hx, undef]) | ((with_reducible refine hJ _ _ ?_); clear hJ hKC KC J)
  refine zE ?_
  simp (maxSteps := 9999999) only [push_cast, seval, ↓reduceIte, show Tryz.f299.results = #[(.tmp 4)] from rfl]
  exact Lq
theorem zHq (a b : Int) : Fn Tryz.prog 298 [.v (.int .i64 a), .v (.int .i64 b)] [] (inD a b) [] := by
 refine Fn.of (fn := Tryz.f298) (by kernel_rfl) rfl (by kernel_rfl) ⟨[.v (.int .i64 a), .v (.int .i64 b), .v undef, .v undef, .v undef, .v undef], []⟩ rfl ?_
 repeat' first | (with_reducible first | refine zA ?_ | refine zB ?_) | ((with_reducible refine zC fun KC J hJ hKC => ?_); simp (maxSteps := 9999999) only [push_cast, seval, ↓reduceIte]) | ((with_reducible refine hJ _ _ ?_); clear hJ hKC KC J)
 refine zAe 0 rfl (by simp (maxSteps := 9999999) only [push_cast, seval, ↓reduceIte]) ?_
 simp (maxSteps := 9999999) only [push_cast, seval, ↓reduceIte, zAK, zi, fr3, fr2, fr1, fr0, zq, zn]
 refine zAe 1 rfl (by simp (maxSteps := 9999999) only [push_cast, seval, ↓reduceIte]) ?_
 simp (maxSteps := 9999999) only [push_cast, seval, ↓reduceIte, zAK, zi, fr3, fr2, fr1, fr0, zq, zn]
 refine zF ?_
 refine zE ?_
 simp (maxSteps := 9999999) only [push_cast, seval, ↓reduceIte, show Tryz.f298.results = #[(.tmp 4)] from rfl]
 exact Lq
abbrev zUK : Ent := ⟨0, none, 304, [inD (-20) 20, inD 0 12, inD 0 3, inD 0 1], .map [.int .i64 1, .int .i64 8, .int .i64 9, .int .i64 10]⟩
theorem zRX : Fn Tryz.prog 292 [] [] (.kref true 0 0) [.ent zUK] := by
 have h1 := zHq (-20) 20
 have h2 := zHq 0 12
 have h3 := zHq 0 3
 have h4 := zHq 0 1
 refine Fn.of (fn := Tryz.f292) (by kernel_rfl) rfl (by kernel_rfl) ⟨[.v undef, .v undef, .v undef, .v undef, .v undef, .v undef, .v undef, .v undef, .v undef, .v undef, .v undef, .v undef], []⟩ rfl ?_
 repeat' first | (with_reducible first | refine zA ?_ | refine zB ?_) | ((first | with_reducible refine zC fun KC J hJ hKC => ?_ | (refine hKC _ _ _ _ _ (zD (h1) rfl rfl rfl ?_ ?_); (· exact Lq)) | (refine hKC _ _ _ _ _ (zD (h2) rfl rfl rfl ?_ ?_); (· exact Lq)) | (refine hKC _ _ _ _ _ (zD (h3) rfl rfl rfl ?_ ?_); (· exact Lq)) | (refine hKC _ _ _ _ _ (zD (h4) rfl rfl rfl ?_ ?_); (· exact Lq))); simp (maxSteps := 9999999) only [push_cast, seval, ↓reduceIte]) | ((with_reducible refine hJ _ _ ?_); clear hJ hKC KC J)
 refine zF ?_
 refine zCv [0] ?_ (by simp) ?_
 ·simp (maxSteps := 9999999) only [push_cast, seval, ↓reduceIte, show Tryz.f292.results = #[.tmp 0] from rfl, pick, mOf, idx]
  exact ⟨rfl, zK _⟩
 ·intro k hk
  exact absurd hk (by simp)
theorem zKs (n : Nat) (x : Int × Int × Int) : Fn Tryz.prog 270 [.v (.int .i64 n), .agg [.v (.int .i64 x.1), .v (.int .i64 x.2.1), .v (.int .i64 x.2.2)]] [] (.v (.bool (zBR n x))) [] := by
 obtain ⟨o, v, l⟩ := x
 have hsp := zRX
 simp only [zBR]
 obtain ⟨a1, ha1⟩ : ∃ b, decide (o < 0) = b := ⟨_, rfl⟩
 cases a1
 case true =>
  have ho := of_decide_eq_true ha1
  rw [if_neg (by omega), show inB 0 12 o = false by simp [inB]; omega]
  refine Fn.of (fn := Tryz.f270) (by kernel_rfl) rfl (by kernel_rfl) ⟨[.v (.int .i64 n), .agg [.v (.int .i64 o), .v (.int .i64 v), .v (.int .i64 l)], .v undef, .v undef, .v undef, .v undef, .v undef, .v undef, .v undef, .v undef, .v undef, .v undef, .v undef, .v undef, .v undef, .v undef, .v undef, .v undef, .v undef, .v undef, .v undef, .v undef, .v undef, .v undef, .v undef, .v undef, .v undef, .v undef, .v undef, .v undef, .v undef, .v undef, .v undef, .v undef, .v undef, .v undef, .v undef, .v undef, .v undef, .v undef, .v undef, .v undef, .v undef, .v undef, .v undef, .v undef, .v undef, .v undef, .v undef, .v undef, .v undef, .v undef, .v undef, .v undef], []⟩ rfl ?_
  repeat' first | (with_reducible first | refine zA ?_ | refine zB ?_ | refine zb ?_ | refine zF ?_) | ((with_reducible refine zC fun KC J hJ hKC => ?_); simp (maxSteps := 9999999) only [push_cast, seval, ↓reduceIte, ha1, undef]) | ((with_reducible refine hJ _ _ ?_); clear hJ hKC KC J) | ((with_reducible refine zG ?_ ?_); · rfl)
  refine zE ?_
  simp (maxSteps := 9999999) only [push_cast, seval, ↓reduceIte, show Tryz.f270.results = #[(.tmp 4)] from rfl]
  exact Lq
 have ho := of_decide_eq_false ha1
 obtain ⟨a2, ha2⟩ : ∃ b, decide (13 ≤ o) = b := ⟨_, rfl⟩
 cases a2
 case true =>
  have ho2 := of_decide_eq_true ha2
  rw [if_neg (by omega), show inB 0 12 o = false by simp [inB]; omega]
  refine Fn.of (fn := Tryz.f270) (by kernel_rfl) rfl (by kernel_rfl) ⟨[.v (.int .i64 n), .agg [.v (.int .i64 o), .v (.int .i64 v), .v (.int .i64 l)], .v undef, .v undef, .v undef, .v undef, .v undef, .v undef, .v undef, .v undef, .v undef, .v undef, .v undef, .v undef, .v undef, .v undef, .v undef, .v undef, .v undef, .v undef, .v undef, .v undef, .v undef, .v undef, .v undef, .v undef, .v undef, .v undef, .v undef, .v undef, .v undef, .v undef, .v undef, .v undef, .v undef, .v undef, .v undef, .v undef, .v undef, .v undef, .v undef, .v undef, .v undef, .v undef, .v undef, .v undef, .v undef, .v undef, .v undef, .v undef, .v undef, .v undef, .v undef, .v undef], []⟩ rfl ?_
  repeat' first | (with_reducible first | refine zA ?_ | refine zB ?_ | refine zb ?_ | refine zF ?_) | ((with_reducible refine zC fun KC J hJ hKC => ?_); simp (maxSteps := 9999999) only [push_cast, seval, ↓reduceIte, ha1, ha2, undef]) | ((with_reducible refine hJ _ _ ?_); clear hJ hKC KC J) | ((with_reducible refine zG ?_ ?_); · rfl)
  refine zE ?_
  simp (maxSteps := 9999999) only [push_cast, seval, ↓reduceIte, show Tryz.f270.results = #[(.tmp 4)] from rfl]
  exact Lq
 have ho2 := of_decide_eq_false ha2
 have hin : inB 0 12 o = true := by simp [inB]; omega
 by_cases e1 : o = 1
 ·subst e1
  have h1 := zFV (-20) 20 v
  rw [if_pos rfl]
  obtain ⟨b1, hb1⟩ : ∃ b, inB (-20) 20 v = b := ⟨_, rfl⟩
  obtain ⟨b2, hb2⟩ : ∃ b, decide (0 ≤ l) = b := ⟨_, rfl⟩
  have hod : (!zx n l) = (b2 && decide (l < (n : Int))) := by
   rw [← hb2, Bool.eq_iff_iff]; simp [zx]
  rw [hod, hb1]
  rw [hb1] at h1
  cases b1 <;> cases b2
  all_goals
   refine Fn.of (fn := Tryz.f270) (by kernel_rfl) rfl (by kernel_rfl) ⟨[.v (.int .i64 n), .agg [.v (.int .i64 1), .v (.int .i64 v), .v (.int .i64 l)], .v undef, .v undef, .v undef, .v undef, .v undef, .v undef, .v undef, .v undef, .v undef, .v undef, .v undef, .v undef, .v undef, .v undef, .v undef, .v undef, .v undef, .v undef, .v undef, .v undef, .v undef, .v undef, .v undef, .v undef, .v undef, .v undef, .v undef, .v undef, .v undef, .v undef, .v undef, .v undef, .v undef, .v undef, .v undef, .v undef, .v undef, .v undef, .v undef, .v undef, .v undef, .v undef, .v undef, .v undef, .v undef, .v undef, .v undef, .v undef, .v undef, .v undef, .v undef, .v undef], []⟩ rfl ?_
   repeat' first | (with_reducible first | refine zA ?_ | refine zB ?_ | refine zb ?_ | refine zF ?_ | refine zJ ?_) | ((first | with_reducible refine zC fun KC J hJ hKC => ?_ | with_reducible refine zY rfl fun KC J hJ hKC => ?_ | (refine hKC _ _ _ _ _ (zBb [] hsp rfl rfl rfl (by simp) (fun _ h => by cases h) rfl rfl rfl zCY ?_)) | (refine hKC _ _ _ _ _ (zD (h1) rfl rfl rfl ?_ ?_); (· exact Lq))); simp (maxSteps := 9999999) only [push_cast, seval, ↓reduceIte, hb2, undef, zX, zN, zL, pick, mOf, idx, ren, ren2, ren1, ren0]) | ((first | with_reducible refine hJ _ _ ?_ | (with_reducible refine hJ _ _ ?_ ?_; · kernel_rfl)); clear hJ hKC KC J) | ((with_reducible refine zG ?_ ?_); · rfl) | ((with_reducible refine zH ?_ ?_); · rfl)
   refine zE ?_
   simp (maxSteps := 9999999) only [push_cast, seval, ↓reduceIte, show Tryz.f270.results = #[(.tmp 4)] from rfl]
   exact Lq
 rw [if_neg e1, hin]
 have e1' : (o == 1) = false := by simpa using e1
 have hl0 : decide (l = 0) = (l == 0) := by rw [Bool.eq_iff_iff]; simp
 rw [hl0]
 obtain ⟨c1, hc1⟩ : ∃ b, (l == 0) = b := ⟨_, rfl⟩
 rw [hc1]
 by_cases e8 : o = 8
 ·subst e8
  have h1 := zFV 0 12 v
  rw [if_pos rfl]
  obtain ⟨b1, hb1⟩ : ∃ b, inB 0 12 v = b := ⟨_, rfl⟩
  rw [hb1] at h1 ⊢
  cases b1
  all_goals
   refine Fn.of (fn := Tryz.f270) (by kernel_rfl) rfl (by kernel_rfl) ⟨[.v (.int .i64 n), .agg [.v (.int .i64 8), .v (.int .i64 v), .v (.int .i64 l)], .v undef, .v undef, .v undef, .v undef, .v undef, .v undef, .v undef, .v undef, .v undef, .v undef, .v undef, .v undef, .v undef, .v undef, .v undef, .v undef, .v undef, .v undef, .v undef, .v undef, .v undef, .v undef, .v undef, .v undef, .v undef, .v undef, .v undef, .v undef, .v undef, .v undef, .v undef, .v undef, .v undef, .v undef, .v undef, .v undef, .v undef, .v undef, .v undef, .v undef, .v undef, .v undef, .v undef, .v undef, .v undef, .v undef, .v undef, .v undef, .v undef, .v undef, .v undef, .v undef], []⟩ rfl ?_
   repeat' first | (with_reducible first | refine zA ?_ | refine zB ?_ | refine zb ?_ | refine zF ?_ | refine zJ ?_) | ((first | with_reducible refine zC fun KC J hJ hKC => ?_ | with_reducible refine zY rfl fun KC J hJ hKC => ?_ | (refine hKC _ _ _ _ _ (zBb [] hsp rfl rfl rfl (by simp) (fun _ h => by cases h) rfl rfl rfl zCY ?_)) | (refine hKC _ _ _ _ _ (zD (h1) rfl rfl rfl ?_ ?_); (· exact Lq))); simp (maxSteps := 9999999) only [push_cast, seval, ↓reduceIte, hc1, undef, zX, zN, zL, pick, mOf, idx, ren, ren2, ren1, ren0]) | ((first | with_reducible refine hJ _ _ ?_ | (with_reducible refine hJ _ _ ?_ ?_; · kernel_rfl)); clear hJ hKC KC J) | ((with_reducible refine zG ?_ ?_); · rfl) | ((with_reducible refine zH ?_ ?_); · rfl)
   refine zE ?_
   simp (maxSteps := 9999999) only [push_cast, seval, ↓reduceIte, show Tryz.f270.results = #[(.tmp 4)] from rfl]
   first | exact Lq | (simp only [Bool.true_and, Bool.and_true, Bool.and_false]; exact Lq)
 rw [if_neg e8]
 by_cases e9 : o = 9
 ·subst e9
  have h1 := zFV 0 3 v
  rw [if_pos rfl]
  obtain ⟨b1, hb1⟩ : ∃ b, inB 0 3 v = b := ⟨_, rfl⟩
  rw [hb1] at h1 ⊢
  cases b1
  all_goals
   refine Fn.of (fn := Tryz.f270) (by kernel_rfl) rfl (by kernel_rfl) ⟨[.v (.int .i64 n), .agg [.v (.int .i64 9), .v (.int .i64 v), .v (.int .i64 l)], .v undef, .v undef, .v undef, .v undef, .v undef, .v undef, .v undef, .v undef, .v undef, .v undef, .v undef, .v undef, .v undef, .v undef, .v undef, .v undef, .v undef, .v undef, .v undef, .v undef, .v undef, .v undef, .v undef, .v undef, .v undef, .v undef, .v undef, .v undef, .v undef, .v undef, .v undef, .v undef, .v undef, .v undef, .v undef, .v undef, .v undef, .v undef, .v undef, .v undef, .v undef, .v undef, .v undef, .v undef, .v undef, .v undef, .v undef, .v undef, .v undef, .v undef, .v undef, .v undef], []⟩ rfl ?_
   repeat' first | (with_reducible first | refine zA ?_ | refine zB ?_ | refine zb ?_ | refine zF ?_ | refine zJ ?_) | ((first | with_reducible refine zC fun KC J hJ hKC => ?_ | with_reducible refine zY rfl fun KC J hJ hKC => ?_ | (refine hKC _ _ _ _ _ (zBb [] hsp rfl rfl rfl (by simp) (fun _ h => by cases h) rfl rfl rfl zCY ?_)) | (refine hKC _ _ _ _ _ (zD (h1) rfl rfl rfl ?_ ?_); (· exact Lq))); simp (maxSteps := 9999999) only [push_cast, seval, ↓reduceIte, hc1, undef, zX, zN, zL, pick, mOf, idx, ren, ren2, ren1, ren0]) | ((first | with_reducible refine hJ _ _ ?_ | (with_reducible refine hJ _ _ ?_ ?_; · kernel_rfl)); clear hJ hKC KC J) | ((with_reducible refine zG ?_ ?_); · rfl) | ((with_reducible refine zH ?_ ?_); · rfl)
   refine zE ?_
   simp (maxSteps := 9999999) only [push_cast, seval, ↓reduceIte, show Tryz.f270.results = #[(.tmp 4)] from rfl]
   first | exact Lq | (simp only [Bool.true_and, Bool.and_true, Bool.and_false]; exact Lq)
 rw [if_neg e9]
 by_cases e10 : o = 10
 ·subst e10
  have h1 := zFV 0 1 v
  rw [if_pos rfl]
  obtain ⟨b1, hb1⟩ : ∃ b, inB 0 1 v = b := ⟨_, rfl⟩
  rw [hb1] at h1 ⊢
  cases b1
  all_goals
   refine Fn.of (fn := Tryz.f270) (by kernel_rfl) rfl (by kernel_rfl) ⟨[.v (.int .i64 n), .agg [.v (.int .i64 10), .v (.int .i64 v), .v (.int .i64 l)], .v undef, .v undef, .v undef, .v undef, .v undef, .v undef, .v undef, .v undef, .v undef, .v undef, .v undef, .v undef, .v undef, .v undef, .v undef, .v undef, .v undef, .v undef, .v undef, .v undef, .v undef, .v undef, .v undef, .v undef, .v undef, .v undef, .v undef, .v undef, .v undef, .v undef, .v undef, .v undef, .v undef, .v undef, .v undef, .v undef, .v undef, .v undef, .v undef, .v undef, .v undef, .v undef, .v undef, .v undef, .v undef, .v undef, .v undef, .v undef, .v undef, .v undef, .v undef, .v undef], []⟩ rfl ?_
   repeat' first | (with_reducible first | refine zA ?_ | refine zB ?_ | refine zb ?_ | refine zF ?_ | refine zJ ?_) | ((first | with_reducible refine zC fun KC J hJ hKC => ?_ | with_reducible refine zY rfl fun KC J hJ hKC => ?_ | (refine hKC _ _ _ _ _ (zBb [] hsp rfl rfl rfl (by simp) (fun _ h => by cases h) rfl rfl rfl zCY ?_)) | (refine hKC _ _ _ _ _ (zD (h1) rfl rfl rfl ?_ ?_); (· exact Lq))); simp (maxSteps := 9999999) only [push_cast, seval, ↓reduceIte, hc1, undef, zX, zN, zL, pick, mOf, idx, ren, ren2, ren1, ren0]) | ((first | with_reducible refine hJ _ _ ?_ | (with_reducible refine hJ _ _ ?_ ?_; · kernel_rfl)); clear hJ hKC KC J) | ((with_reducible refine zG ?_ ?_); · rfl) | ((with_reducible refine zH ?_ ?_); · rfl)
   refine zE ?_
   simp (maxSteps := 9999999) only [push_cast, seval, ↓reduceIte, show Tryz.f270.results = #[(.tmp 4)] from rfl]
   first | exact Lq | (simp only [Bool.true_and, Bool.and_true, Bool.and_false]; exact Lq)
 rw [if_neg e10]
 have e8' : (o == 8) = false := by simpa using e8
 have e9' : (o == 9) = false := by simpa using e9
 have e10' : (o == 10) = false := by simpa using e10
 obtain ⟨d1, hd1⟩ : ∃ b, (v != 0) = b := ⟨_, rfl⟩
 have hv0 : decide (v = 0) = !d1 := by rw [← hd1, Bool.eq_iff_iff]; simp
 rw [hv0]
 cases d1
 all_goals
  refine Fn.of (fn := Tryz.f270) (by kernel_rfl) rfl (by kernel_rfl) ⟨[.v (.int .i64 n), .agg [.v (.int .i64 o), .v (.int .i64 v), .v (.int .i64 l)], .v undef, .v undef, .v undef, .v undef, .v undef, .v undef, .v undef, .v undef, .v undef, .v undef, .v undef, .v undef, .v undef, .v undef, .v undef, .v undef, .v undef, .v undef, .v undef, .v undef, .v undef, .v undef, .v undef, .v undef, .v undef, .v undef, .v undef, .v undef, .v undef, .v undef, .v undef, .v undef, .v undef, .v undef, .v undef, .v undef, .v undef, .v undef, .v undef, .v undef, .v undef, .v undef, .v undef, .v undef, .v undef, .v undef, .v undef, .v undef, .v undef, .v undef, .v undef, .v undef], []⟩ rfl ?_
  repeat' first | (with_reducible first | refine zA ?_ | refine zB ?_ | refine zb ?_ | refine zF ?_ | refine zJ ?_) | ((first | with_reducible refine zC fun KC J hJ hKC => ?_ | with_reducible refine zY rfl fun KC J hJ hKC => ?_ | (refine hKC _ _ _ _ _ (zBb [] hsp rfl rfl rfl (by simp) (fun _ h => by cases h) rfl rfl rfl zCY ?_))); simp (maxSteps := 9999999) only [push_cast, seval, ↓reduceIte, ha1, ha2, e1', e8', e9', e10', hc1, hd1, undef, zX, zN, zL, pick, mOf, idx, ren, ren2, ren1, ren0]) | ((first | with_reducible refine hJ _ _ ?_ | (with_reducible refine hJ _ _ ?_ ?_; · kernel_rfl)); clear hJ hKC KC J) | ((with_reducible refine zG ?_ ?_); · rfl) | ((with_reducible refine zH ?_ ?_); · rfl)
  refine zE ?_
  simp (maxSteps := 9999999) only [push_cast, seval, ↓reduceIte, show Tryz.f270.results = #[(.tmp 4)] from rfl]
  first | exact Lq | (simp only [Bool.true_and, Bool.and_true, Bool.and_false, Bool.not_false, Bool.not_true]; exact Lq)
def spF (f : Bool) (sp : Sp) : List D := [.v (.int .i64 sp.code), .v (.int .i64 sp.mem), .v (.int .i64 sp.stack), .v (.int .i64 sp.val), .sl f 1 (zM sp.ws)]
theorem zGB (n b : Int) : Fn Tryz.prog 268 [.v (.int .i64 n), .v (.int .i64 b)] [] (.v (.bool (inB 0 b n))) [] := by
 obtain ⟨x, hx⟩ : ∃ x, decide (0 ≤ n) = x := ⟨_, rfl⟩
 rw [inB, hx]
 refine Fn.of (fn := Tryz.f268) (by kernel_rfl) rfl (by kernel_rfl) ⟨[.v (.int .i64 n), .v (.int .i64 b), .v undef, .v undef, .v undef, .v undef, .v undef, .v undef, .v undef, .v undef, .v undef, .v undef], []⟩ rfl ?_
 cases x
 all_goals
  repeat' first | (with_reducible first | refine zA ?_ | refine zB ?_ | refine zF ?_) | ((with_reducible refine zC fun KC J hJ hKC => ?_); simp (maxSteps := 9999999) only [push_cast, seval, ↓reduceIte, hx, undef]) | ((with_reducible refine hJ _ _ ?_); clear hJ hKC KC J)
  refine zE ?_
  simp (maxSteps := 9999999) only [push_cast, seval, ↓reduceIte, show Tryz.f268.results = #[(.tmp 4)] from rfl]
  exact Lq
theorem zLH (ws : List Int) : (zBP ⟨[], 0, []⟩ ws).2.2 = if zAf ws = true then 0 else 1 := by
 unfold zBP
 cases h : zAf ws with
 | false => simp
 | true =>
  have hw := zDE h
  rw [if_neg (by simp), zPo (by omega) (by simp) (by omega)]
  simp
theorem zLu (f : Bool) (sp : Sp) (hw : sp.ws.length ≤ 1000) : Fn Tryz.prog 189 [.agg (spF f sp)] [] (.v (.bool (spB sp))) [] := by
 obtain ⟨c, mm, s, v, ws⟩ := sp
 simp only [spB, spF] at *
 obtain ⟨c1, hc1⟩ : ∃ x, inB 0 12 c = x := ⟨_, rfl⟩
 obtain ⟨c2, hc2⟩ : ∃ x, inB 0 6 mm = x := ⟨_, rfl⟩
 obtain ⟨c3, hc3⟩ : ∃ x, inB 0 12 s = x := ⟨_, rfl⟩
 obtain ⟨c4, hc4⟩ : ∃ x, inB 0 20 v = x := ⟨_, rfl⟩
 obtain ⟨c5, hc5⟩ : ∃ x, decide (ws.length = 13) = x := ⟨_, rfl⟩
 obtain ⟨c6, hc6⟩ : ∃ x, zAf ws = x := ⟨_, rfl⟩
 have hc5' : ((ws.length : Int) == 13) = c5 := by rw [← hc5, Bool.eq_iff_iff]; simp; omega
 rw [hc1, hc2, hc3, hc4, hc5, hc6]
 have i1 := zGB c 12
 have i2 := zGB mm 6
 have i3 := zGB s 12
 have i4 := zGB v 20
 have h0 := zJV false []
 have h1 := zFA false false f [] [] ws 0 (Nat.le_trans hw (by omega))
 have hm := zLH ws
 have hm' : ((if c6 = true then (0 : Int) else 1) == 0) = c6 := by cases c6 <;> rfl
 rw [hc6] at hm
 simp only [zBC, hm] at h1
 refine Fn.of (fn := Tryz.f189) (by kernel_rfl) rfl (by kernel_rfl) ⟨[.agg [.v (.int .i64 c), .v (.int .i64 mm), .v (.int .i64 s), .v (.int .i64 v), .sl f 1 (zM ws)], .v undef, .v undef, .v undef, .v undef, .v undef, .v undef, .v undef, .v undef, .v undef, .v undef, .v undef, .v undef, .v undef, .v undef, .v undef, .v undef, .v undef, .v undef, .v undef, .v undef, .v undef, .v undef, .v undef, .v undef, .v undef, .v undef, .v undef, .v undef, .v undef, .v undef, .v undef, .v undef, .v undef, .v undef, .v undef, .v undef, .v undef, .v undef, .v undef, .v undef, .v undef], []⟩ rfl ?_
 cases c1
 case false =>
  repeat' first | (with_reducible first | refine zA ?_ | refine zB ?_ | refine zF ?_) | ((first | with_reducible refine zC fun KC J hJ hKC => ?_ | with_reducible refine zY rfl fun KC J hJ hKC => ?_ | (refine hKC _ _ _ _ _ (zD (h0) rfl rfl rfl ?_ ?_); (· exact Lq)) | (refine hKC _ _ _ _ _ (zD (h1) rfl rfl rfl ?_ ?_); (· exact Lq)) | (refine hKC _ _ _ _ _ (zD (i1) rfl rfl rfl ?_ ?_); (· exact Lq))); simp (maxSteps := 9999999) only [push_cast, seval, ↓reduceIte, hc1, hm', undef]) | ((first | with_reducible refine hJ _ _ ?_ | (with_reducible refine hJ _ _ ?_ ?_; · kernel_rfl)); clear hJ hKC KC J)
  refine zE ?_
  simp (maxSteps := 9999999) only [push_cast, seval, ↓reduceIte, show Tryz.f189.results = #[(.tmp 2)] from rfl]
  exact Lq
 cases c2
 case false =>
  repeat' first | (with_reducible first | refine zA ?_ | refine zB ?_ | refine zF ?_) | ((first | with_reducible refine zC fun KC J hJ hKC => ?_ | with_reducible refine zY rfl fun KC J hJ hKC => ?_ | (refine hKC _ _ _ _ _ (zD (h0) rfl rfl rfl ?_ ?_); (· exact Lq)) | (refine hKC _ _ _ _ _ (zD (h1) rfl rfl rfl ?_ ?_); (· exact Lq)) | (refine hKC _ _ _ _ _ (zD (i1) rfl rfl rfl ?_ ?_); (· exact Lq)) | (refine hKC _ _ _ _ _ (zD (i2) rfl rfl rfl ?_ ?_); (· exact Lq))); simp (maxSteps := 9999999) only [push_cast, seval, ↓reduceIte, hc1, hc2, hm', undef]) | ((first | with_reducible refine hJ _ _ ?_ | (with_reducible refine hJ _ _ ?_ ?_; · kernel_rfl)); clear hJ hKC KC J)
  refine zE ?_
  simp (maxSteps := 9999999) only [push_cast, seval, ↓reduceIte, show Tryz.f189.results = #[(.tmp 2)] from rfl]
  exact Lq
 cases c3
 case false =>
  repeat' first | (with_reducible first | refine zA ?_ | refine zB ?_ | refine zF ?_) | ((first | with_reducible refine zC fun KC J hJ hKC => ?_ | with_reducible refine zY rfl fun KC J hJ hKC => ?_ | (refine hKC _ _ _ _ _ (zD (h0) rfl rfl rfl ?_ ?_); (· exact Lq)) | (refine hKC _ _ _ _ _ (zD (h1) rfl rfl rfl ?_ ?_); (· exact Lq)) | (refine hKC _ _ _ _ _ (zD (i1) rfl rfl rfl ?_ ?_); (· exact Lq)) | (refine hKC _ _ _ _ _ (zD (i2) rfl rfl rfl ?_ ?_); (· exact Lq)) | (refine hKC _ _ _ _ _ (zD (i3) rfl rfl rfl ?_ ?_); (· exact Lq))); simp (maxSteps := 9999999) only [push_cast, seval, ↓reduceIte, hc1, hc2, hc3, hm', undef]) | ((first | with_reducible refine hJ _ _ ?_ | (with_reducible refine hJ _ _ ?_ ?_; · kernel_rfl)); clear hJ hKC KC J)
  refine zE ?_
  simp (maxSteps := 9999999) only [push_cast, seval, ↓reduceIte, show Tryz.f189.results = #[(.tmp 2)] from rfl]
  exact Lq
 cases c4
 case false =>
  repeat' first | (with_reducible first | refine zA ?_ | refine zB ?_ | refine zF ?_) | ((first | with_reducible refine zC fun KC J hJ hKC => ?_ | with_reducible refine zY rfl fun KC J hJ hKC => ?_ | (refine hKC _ _ _ _ _ (zD (h0) rfl rfl rfl ?_ ?_); (· exact Lq)) | (refine hKC _ _ _ _ _ (zD (h1) rfl rfl rfl ?_ ?_); (· exact Lq)) | (refine hKC _ _ _ _ _ (zD (i1) rfl rfl rfl ?_ ?_); (· exact Lq)) | (refine hKC _ _ _ _ _ (zD (i2) rfl rfl rfl ?_ ?_); (· exact Lq)) | (refine hKC _ _ _ _ _ (zD (i3) rfl rfl rfl ?_ ?_); (· exact Lq)) | (refine hKC _ _ _ _ _ (zD (i4) rfl rfl rfl ?_ ?_); (· exact Lq))); simp (maxSteps := 9999999) only [push_cast, seval, ↓reduceIte, hc1, hc2, hc3, hc4, hm', undef]) | ((first | with_reducible refine hJ _ _ ?_ | (with_reducible refine hJ _ _ ?_ ?_; · kernel_rfl)); clear hJ hKC KC J)
  refine zE ?_
  simp (maxSteps := 9999999) only [push_cast, seval, ↓reduceIte, show Tryz.f189.results = #[(.tmp 2)] from rfl]
  exact Lq
 cases c5
 case false =>
  repeat' first | (with_reducible first | refine zA ?_ | refine zB ?_ | refine zF ?_) | ((first | with_reducible refine zC fun KC J hJ hKC => ?_ | with_reducible refine zY rfl fun KC J hJ hKC => ?_ | (refine hKC _ _ _ _ _ (zD (h0) rfl rfl rfl ?_ ?_); (· exact Lq)) | (refine hKC _ _ _ _ _ (zD (h1) rfl rfl rfl ?_ ?_); (· exact Lq)) | (refine hKC _ _ _ _ _ (zD (i1) rfl rfl rfl ?_ ?_); (· exact Lq)) | (refine hKC _ _ _ _ _ (zD (i2) rfl rfl rfl ?_ ?_); (· exact Lq)) | (refine hKC _ _ _ _ _ (zD (i3) rfl rfl rfl ?_ ?_); (· exact Lq)) | (refine hKC _ _ _ _ _ (zD (i4) rfl rfl rfl ?_ ?_); (· exact Lq))); simp (maxSteps := 9999999) only [push_cast, seval, ↓reduceIte, hc1, hc2, hc3, hc4, hc5', hm', undef]) | ((first | with_reducible refine hJ _ _ ?_ | (with_reducible refine hJ _ _ ?_ ?_; · kernel_rfl)); clear hJ hKC KC J)
  refine zE ?_
  simp (maxSteps := 9999999) only [push_cast, seval, ↓reduceIte, show Tryz.f189.results = #[(.tmp 2)] from rfl]
  exact Lq
 repeat' first | (with_reducible first | refine zA ?_ | refine zB ?_ | refine zF ?_) | ((first | with_reducible refine zC fun KC J hJ hKC => ?_ | with_reducible refine zY rfl fun KC J hJ hKC => ?_ | (refine hKC _ _ _ _ _ (zD (h0) rfl rfl rfl ?_ ?_); (· exact Lq)) | (refine hKC _ _ _ _ _ (zD (h1) rfl rfl rfl ?_ ?_); (· exact Lq)) | (refine hKC _ _ _ _ _ (zD (i1) rfl rfl rfl ?_ ?_); (· exact Lq)) | (refine hKC _ _ _ _ _ (zD (i2) rfl rfl rfl ?_ ?_); (· exact Lq)) | (refine hKC _ _ _ _ _ (zD (i3) rfl rfl rfl ?_ ?_); (· exact Lq)) | (refine hKC _ _ _ _ _ (zD (i4) rfl rfl rfl ?_ ?_); (· exact Lq))); simp (maxSteps := 9999999) only [push_cast, seval, ↓reduceIte, hc1, hc2, hc3, hc4, hc5', hm', undef]) | ((first | with_reducible refine hJ _ _ ?_ | (with_reducible refine hJ _ _ ?_ ?_; · kernel_rfl)); clear hJ hKC KC J)
 refine zE ?_
 simp (maxSteps := 9999999) only [push_cast, seval, ↓reduceIte, show Tryz.f189.results = #[(.tmp 2)] from rfl]
 exact Lq
def zCs (ns : List ByteArray) (us : List Nat) (sp : Sp) : Int := if zAA ns us = 0 then if spB sp = true then 0 else 1 else zAA ns us
theorem zKR (f g h : Bool) (ns : List ByteArray) (us : List Nat) (sp : Sp) (hs : Szs ns) (hu : U32 us) (hw : sp.ws.length ≤ 1000) :
  Fn Tryz.prog 93 [.agg [.sl f 1 (zS ns), .sl g 1 (zQ us)], .agg (spF h sp)] [] (.v (.int .i64 (zCs ns us sp))) [] := by
 have h1 := zBX f g ns us hs hu
 have h2 := zLu h sp hw
 unfold zCs
 obtain ⟨c, hc⟩ : ∃ c, zAA ns us = c := ⟨_, rfl⟩
 obtain ⟨b, hb⟩ : ∃ b, spB sp = b := ⟨_, rfl⟩
 rw [hc] at h1 ⊢
 rw [hb] at h2 ⊢
 simp only [spF] at h2 ⊢
 refine Fn.of (fn := Tryz.f93) (by kernel_rfl) rfl (by kernel_rfl) ⟨[.agg [.sl f 1 (zS ns), .sl g 1 (zQ us)], .agg [.v (.int .i64 sp.code), .v (.int .i64 sp.mem), .v (.int .i64 sp.stack), .v (.int .i64 sp.val), .sl h 1 (zM sp.ws)], .v undef, .v undef, .v undef, .v undef, .v undef, .v undef, .v undef, .v undef, .v undef, .v undef, .v undef, .v undef], []⟩ rfl ?_
 by_cases h0 : c = 0
 ·subst h0
  cases b
  all_goals
   repeat' first | (with_reducible first | refine zA ?_ | refine zB ?_ | refine zb ?_ | refine zF ?_ | refine zJ ?_) | ((first | with_reducible refine zC fun KC J hJ hKC => ?_ | (refine hKC _ _ _ _ _ (zD (h1) rfl rfl rfl ?_ ?_); (· exact Lq)) | (refine hKC _ _ _ _ _ (zD (h2) rfl rfl rfl ?_ ?_); (· exact Lq))); simp (maxSteps := 9999999) only [push_cast, seval, ↓reduceIte, bne_self_eq_false]) | ((with_reducible refine hJ _ _ ?_); clear hJ hKC KC J) | ((with_reducible refine zG ?_ ?_); · rfl) | ((with_reducible refine zH ?_ ?_); · rfl)
   refine zE ?_
   simp (maxSteps := 9999999) only [push_cast, seval, ↓reduceIte, show Tryz.f93.results = #[(.tmp 4)] from rfl]
   exact Lq
 ·have h0' : (c != 0) = true := by simpa using h0
  rw [if_neg h0]
  repeat' first | (with_reducible first | refine zA ?_ | refine zB ?_ | refine zb ?_ | refine zF ?_) | ((first | with_reducible refine zC fun KC J hJ hKC => ?_ | (refine hKC _ _ _ _ _ (zD (h1) rfl rfl rfl ?_ ?_); (· exact Lq))); simp (maxSteps := 9999999) only [push_cast, seval, ↓reduceIte, h0']) | ((with_reducible refine hJ _ _ ?_); clear hJ hKC KC J) | ((with_reducible refine zG ?_ ?_); · rfl)
  refine zE ?_
  simp (maxSteps := 9999999) only [push_cast, seval, ↓reduceIte, show Tryz.f93.results = #[(.tmp 4)] from rfl]
  exact Lq
section
variable {P : Program} {ro : Option Nat} {st : St} {K : Exit → St → Prop} {c c2 : Code}
theorem zHc (id : Nat) (h : zPe (AWP P ro (.block id c) st K)) : AWP P ro (.block id c) st K := by unfold zPe at h; exact h
theorem zCz (n : Nat) (t : St) (h0 : ∃ (p : List Slot) (k : Nat), st.σ = p ++ List.replicate k .free ∧ p.length = n) (h1 : AWP P ro c st (fun e s => (e = .normal ∧ zNA n s t) ∨ (e ≠ .normal ∧ K e s))) (h2 : AWP P ro c2 t K) : zPe (AWP P ro c st (zFI (fun s => AWP P ro c2 s K) K)) := by
 unfold zPe
 intro B a w hr Q hQ
 obtain ⟨p, k, hp, hl⟩ := h0
 have hr0 : Rel B ⟨st.fr, p ++ List.replicate k .free⟩ a w := by rw [← hp]; exact hr
 have hlt := hr0.unroom.used_lt
 simp only [hl] at hlt
 refine h1 B a w hr Q (fun e s a' w' hK hr' => ?_)
 rcases hK with ⟨rfl, hw⟩ | ⟨hne, hK⟩
 ·exact hQ .normal t a' w' h2 (hr'.weak hw hlt)
 ·cases e with
  | normal => exact absurd rfl hne
  | exit id => exact hQ _ _ _ _ hK hr'
  | goto l => exact hQ _ _ _ _ hK hr'
  | ret => exact hQ _ _ _ _ hK hr'
  | panic c => exact hQ _ _ _ _ hK hr'
  | outgrown => exact hQ _ _ _ _ hK hr'
end
def Rle (a b : D) : Prop := ∀ w fz tb U u, Rep w fz tb U a u → Rep w fz tb U b u
theorem Rle.refl (a : D) : Rle a a := fun _ _ _ _ _ h => h
theorem Rle.full (sz : Nat) (xs : List (List D)) : Rle (.sl true sz xs) (.sl false sz xs) := fun w fz tb U u h => by
 refine .fro _ _ ?_
 have h1 := h.sl_inv
 generalize hx : D.sl true sz xs = d at h1
 cases h1 with
 | sl0 full sz' A cap h0 => cases hx; exact .sl0 false _ A cap (fun h => by cases h)
 | sl full sz' xs' b o cap n g hn h0 hc hf hb hw hcell hr => cases hx; exact .sl false _ _ b o cap n g hn h0 hc (fun h => by cases h) hb hw hcell hr
 | any x => cases hx
 | v x => cases hx
 | agg ds cs h hr => cases hx
 | tup ds cs h hr => cases hx
 | fn f caps cs h hr => cases hx
 | bnd f caps cs h hr => cases hx
 | fad ds b o g hb hc hr => cases hx
inductive RleF : List D → List D → Prop
 | nil : RleF [] []
 | cons {a b : D} {l m : List D} (h : Rle a b) (hs : RleF l m) : RleF (a :: l) (b :: m)
theorem RleF.get {l m : List D} (h : RleF l m) : l.length = m.length ∧ ∀ (j : Nat) (a b : D), l[j]? = some a → m[j]? = some b → Rle a b := by
 induction h with
 | nil => exact ⟨rfl, fun j a b h => by simp at h⟩
 | cons h hs ih =>
  refine ⟨by simp [ih.1], fun j a b ha hb => ?_⟩
  cases j with
  | zero => simp at ha hb; subst ha; subst hb; exact h
  | succ j => simp at ha hb; exact ih.2 j a b ha hb
theorem RleF.refl : ∀ l, RleF l l
 | [] => .nil
 | a :: l => .cons (.refl a) (RleF.refl l)
theorem Rle.agg {ds es : List D} (h : RleF ds es) : Rle (.agg ds) (.agg es) := fun w fz tb U u hu => by
 obtain ⟨cs, rfl, hl, hr⟩ := hu.agg_inv
 obtain ⟨h1, h2⟩ := h.get
 refine .agg es cs (by omega) (fun j d v hd hv => ?_)
 have hj : j < ds.length := by rw [h1]; exact (List.getElem?_eq_some_iff.1 hd).1
 exact h2 j ds[j] d (List.getElem?_eq_getElem hj) hd _ _ _ _ _ (hr j ds[j] v (List.getElem?_eq_getElem hj) hv)
theorem Fn.pre {P : Program} {f : Nat} {args args' : List D} {ext : List Slot} {res : D} {out : List Slot} (h : Fn P f args' ext res out) (hle : RleF args args') : Fn P f args ext res out where
 enter := h.enter
 spec := fun N0 ρ w vs hp hs hr => h.spec N0 ρ w vs hp (by rw [hs]; exact hle.get.1) (fun j d u hd hu => by
  have hj : j < args.length := by rw [hle.get.1]; exact (List.getElem?_eq_some_iff.1 hd).1
  exact hle.get.2 j args[j] d (List.getElem?_eq_getElem hj) hd _ _ _ _ _ (hr j args[j] u (List.getElem?_eq_getElem hj) hu))
theorem zJs (f : Bool) (xs : List (Int × Int × Int)) (cf : Nat) (caps : List D) (p : Int × Int × Int → Bool) (hb : xs.length ≤ 1000) (hc : zr caps = true)
  (hp : ∀ x ∈ xs, Fn Tryz.prog cf (.agg [.v (.int .i64 x.1), .v (.int .i64 x.2.1), .v (.int .i64 x.2.2)] :: caps) [] (.v (.bool (p x))) []) : Fn Tryz.prog 196 [.sl f 3 (zo xs), .fn cf caps] [] (.v (.int .i64 (zDt p xs))) [] := by
 refine Fn.of (fn := Tryz.f196) (by kernel_rfl) rfl (by kernel_rfl) ⟨[.sl f 3 (zo xs), .fn cf caps, .v undef, .v undef, .v undef, .v undef, .v undef, .v undef, .v undef, .v undef, .v undef, .v undef, .v undef, .v undef, .v undef, .v undef, .v undef, .v undef, .v undef], []⟩ rfl ?_
 repeat' first | (with_reducible first | refine zA ?_ | refine zB ?_ | refine zI ?_) | ((with_reducible refine zC fun KC J hJ hKC => ?_); simp (maxSteps := 9999999) only [push_cast, seval, ↓reduceIte]) | ((with_reducible refine hJ _ _ ?_); clear hJ hKC KC J)
 refine zAJ (γ := {i : Nat // i ≤ xs.length ∧ ∀ (j : Nat) (hj : j < xs.length), j < i → p xs[j] = false}) (fun i => ⟨[.sl f 3 (zo xs), .fn cf caps, .any, .any, .any, .any, .any, .v (.int .i64 xs.length), .v (.int .i64 i.1), .any, .any, .any, .any, .any, .any, .any, .any, .any, .any], []⟩) (fun i => xs.length - i.1) ⟨0, by simp⟩ ⟨?_, Fq⟩ ?_
 ·exact Lq
 ·rintro ⟨i, hi, hn⟩
  by_cases hlt : (i : Int) < (xs.length : Int)
  ·have hx : xs[i]? = some xs[i] := List.getElem?_eq_getElem (by omega)
   have hfn := hp xs[i] (List.getElem_mem (by omega))
   repeat' first | (with_reducible first | refine zA ?_ | refine zB ?_ | refine zb ?_ | refine zP ?_ | refine zAC ?_ | refine zF ?_ | refine zJ ?_ | refine zI ?_) | ((with_reducible refine And.intro ?_ ?_); · exact Sq) | ((first | with_reducible refine zC fun KC J hJ hKC => ?_ | (refine hKC _ _ _ _ _ (zD (hfn) rfl rfl rfl ?_ ?_); (· exact Lq))); simp (maxSteps := 9999999) only [push_cast, seval, ↓reduceIte, hlt, zCj hx, zp (i := i) (n := xs.length) (by omega) (by omega)]) | ((with_reducible refine hJ _ _ ?_); clear hJ hKC KC J) | ((with_reducible refine zG ?_ ?_); · rfl) | (refine zAa rfl (fun h => ?_) (fun h => ?_) <;> try simp only [decide_eq_true_eq, decide_eq_false_iff_not, Bool.not_eq_true', Bool.not_eq_false', beq_iff_eq, bne_iff_ne, ne_eq, Bool.not_eq_true, Bool.or_eq_true, Bool.and_eq_true, Bool.or_eq_false_iff, Bool.and_eq_false_imp, beq_eq_false_iff_ne, bne_eq_false_iff_eq] at h)
   ·refine zE ?_
    simp (maxSteps := 9999999) only [push_cast, seval, ↓reduceIte, show Tryz.f196.results = #[(.tmp 4)] from rfl]
    exact zAk (by rw [zCt (by omega) h hn])
   ·refine ⟨⟨i + 1, by omega, fun j hj hji => ?_⟩, by simp only; omega, ?_, Fq⟩
    ·by_cases he : j = i
     ·subst he; exact h
     ·exact hn j hj (by omega)
    ·exact Lq
  ·skip
   repeat' first | (with_reducible first | refine zA ?_ | refine zB ?_ | refine zm ?_ | refine zl ?_ | refine zF ?_ | refine zZ ?_) | ((with_reducible refine zC fun KC J hJ hKC => ?_); simp (maxSteps := 9999999) only [push_cast, seval, ↓reduceIte, hlt]) | ((with_reducible refine hJ _ _ ?_); clear hJ hKC KC J) | ((with_reducible refine zH ?_ ?_); · rfl)
   refine zE ?_
   simp (maxSteps := 9999999) only [push_cast, seval, ↓reduceIte, show Tryz.f196.results = #[(.tmp 4)] from rfl]
   exact zAk (by rw [zBf (fun j hj => hn j hj (by omega))])
theorem zEA (f : Bool) (xs : List (Int × Int × Int)) (cf : Nat) (caps : List D) (p : Int × Int × Int → Bool) (hb : xs.length ≤ 1000) (hc : zr caps = true)
  (hp : ∀ x ∈ xs, Fn Tryz.prog cf (.agg [.v (.int .i64 x.1), .v (.int .i64 x.2.1), .v (.int .i64 x.2.2)] :: caps) [] (.v (.bool (p x))) []) : Fn Tryz.prog 97 [.sl f 3 (zo xs), .fn cf caps] [] (.v (.bool (xs.any p))) [] := by
 have hfn := zJs f xs cf caps p hb hc hp
 refine Fn.of (fn := Tryz.f97) (by kernel_rfl) rfl (by kernel_rfl) ⟨[.sl f 3 (zo xs), .fn cf caps, .v undef, .v undef, .v undef, .v undef, .v undef, .v undef, .v undef], []⟩ rfl ?_
 repeat' first | (with_reducible first | refine zA ?_ | refine zB ?_ | refine zF ?_) | ((first | with_reducible refine zC fun KC J hJ hKC => ?_ | (refine hKC _ _ _ _ _ (zD (hfn) rfl rfl rfl ?_ ?_); (· exact Lq))); simp (maxSteps := 9999999) only [push_cast, seval, ↓reduceIte, zEK]) | ((with_reducible refine hJ _ _ ?_); clear hJ hKC KC J)
 refine zE ?_
 simp (maxSteps := 9999999) only [push_cast, seval, ↓reduceIte, show Tryz.f97.results = #[(.tmp 4)] from rfl]
 exact zK _
theorem zIy (f : Bool) (xs : List (Int × Int)) (cf : Nat) (caps : List D) (p : Int × Int → Bool) (hb : xs.length ≤ 1000) (hc : zr caps = true)
  (hp : ∀ x ∈ xs, Fn Tryz.prog cf (.agg [.v (.int .i64 x.1), .v (.int .i64 x.2)] :: caps) [] (.v (.bool (p x))) []) : Fn Tryz.prog 197 [.sl f 2 (za xs), .fn cf caps] [] (.v (.int .i64 (zDt p xs))) [] := by
 refine Fn.of (fn := Tryz.f197) (by kernel_rfl) rfl (by kernel_rfl) ⟨[.sl f 2 (za xs), .fn cf caps, .v undef, .v undef, .v undef, .v undef, .v undef, .v undef, .v undef, .v undef, .v undef, .v undef, .v undef, .v undef, .v undef, .v undef, .v undef, .v undef, .v undef], []⟩ rfl ?_
 repeat' first | (with_reducible first | refine zA ?_ | refine zB ?_ | refine zI ?_) | ((with_reducible refine zC fun KC J hJ hKC => ?_); simp (maxSteps := 9999999) only [push_cast, seval, ↓reduceIte]) | ((with_reducible refine hJ _ _ ?_); clear hJ hKC KC J)
 refine zAJ (γ := {i : Nat // i ≤ xs.length ∧ ∀ (j : Nat) (hj : j < xs.length), j < i → p xs[j] = false}) (fun i => ⟨[.sl f 2 (za xs), .fn cf caps, .any, .any, .any, .any, .any, .v (.int .i64 xs.length), .v (.int .i64 i.1), .any, .any, .any, .any, .any, .any, .any, .any, .any, .any], []⟩) (fun i => xs.length - i.1) ⟨0, by simp⟩ ⟨?_, Fq⟩ ?_
 ·exact Lq
 ·rintro ⟨i, hi, hn⟩
  by_cases hlt : (i : Int) < (xs.length : Int)
  ·have hx : xs[i]? = some xs[i] := List.getElem?_eq_getElem (by omega)
   have hfn := hp xs[i] (List.getElem_mem (by omega))
   repeat' first | (with_reducible first | refine zA ?_ | refine zB ?_ | refine zb ?_ | refine zP ?_ | refine zAC ?_ | refine zF ?_ | refine zJ ?_ | refine zI ?_) | ((with_reducible refine And.intro ?_ ?_); · exact Sq) | ((first | with_reducible refine zC fun KC J hJ hKC => ?_ | (refine hKC _ _ _ _ _ (zD (hfn) rfl rfl rfl ?_ ?_); (· exact Lq))); simp (maxSteps := 9999999) only [push_cast, seval, ↓reduceIte, hlt, zBh hx, zp (i := i) (n := xs.length) (by omega) (by omega)]) | ((with_reducible refine hJ _ _ ?_); clear hJ hKC KC J) | ((with_reducible refine zG ?_ ?_); · rfl) | (refine zAa rfl (fun h => ?_) (fun h => ?_) <;> try simp only [decide_eq_true_eq, decide_eq_false_iff_not, Bool.not_eq_true', Bool.not_eq_false', beq_iff_eq, bne_iff_ne, ne_eq, Bool.not_eq_true, Bool.or_eq_true, Bool.and_eq_true, Bool.or_eq_false_iff, Bool.and_eq_false_imp, beq_eq_false_iff_ne, bne_eq_false_iff_eq] at h)
   ·refine zE ?_
    simp (maxSteps := 9999999) only [push_cast, seval, ↓reduceIte, show Tryz.f197.results = #[(.tmp 4)] from rfl]
    exact zAk (by rw [zCt (by omega) h hn])
   ·refine ⟨⟨i + 1, by omega, fun j hj hji => ?_⟩, by simp only; omega, ?_, Fq⟩
    ·by_cases he : j = i
     ·subst he; exact h
     ·exact hn j hj (by omega)
    ·exact Lq
  ·skip
   repeat' first | (with_reducible first | refine zA ?_ | refine zB ?_ | refine zm ?_ | refine zl ?_ | refine zF ?_ | refine zZ ?_) | ((with_reducible refine zC fun KC J hJ hKC => ?_); simp (maxSteps := 9999999) only [push_cast, seval, ↓reduceIte, hlt]) | ((with_reducible refine hJ _ _ ?_); clear hJ hKC KC J) | ((with_reducible refine zH ?_ ?_); · rfl)
   refine zE ?_
   simp (maxSteps := 9999999) only [push_cast, seval, ↓reduceIte, show Tryz.f197.results = #[(.tmp 4)] from rfl]
   exact zAk (by rw [zBf (fun j hj => hn j hj (by omega))])
theorem zCr (f : Bool) (xs : List (Int × Int)) (cf : Nat) (caps : List D) (p : Int × Int → Bool) (hb : xs.length ≤ 1000) (hc : zr caps = true)
  (hp : ∀ x ∈ xs, Fn Tryz.prog cf (.agg [.v (.int .i64 x.1), .v (.int .i64 x.2)] :: caps) [] (.v (.bool (p x))) []) : Fn Tryz.prog 98 [.sl f 2 (za xs), .fn cf caps] [] (.v (.bool (xs.any p))) [] := by
 have hfn := zIy f xs cf caps p hb hc hp
 refine Fn.of (fn := Tryz.f98) (by kernel_rfl) rfl (by kernel_rfl) ⟨[.sl f 2 (za xs), .fn cf caps, .v undef, .v undef, .v undef, .v undef, .v undef, .v undef, .v undef], []⟩ rfl ?_
 repeat' first | (with_reducible first | refine zA ?_ | refine zB ?_ | refine zF ?_) | ((first | with_reducible refine zC fun KC J hJ hKC => ?_ | (refine hKC _ _ _ _ _ (zD (hfn) rfl rfl rfl ?_ ?_); (· exact Lq))); simp (maxSteps := 9999999) only [push_cast, seval, ↓reduceIte, zEK]) | ((with_reducible refine hJ _ _ ?_); clear hJ hKC KC J)
 refine zE ?_
 simp (maxSteps := 9999999) only [push_cast, seval, ↓reduceIte, show Tryz.f98.results = #[(.tmp 4)] from rfl]
 exact zK _
theorem zJv (f : Bool) (xs : List (Bool × Int × Int)) (cf : Nat) (caps : List D) (p : Bool × Int × Int → Bool) (hb : xs.length ≤ 1000) (hc : zr caps = true)
  (hp : ∀ x ∈ xs, Fn Tryz.prog cf (.agg [.v (.bool x.1), .v (.int .i64 x.2.1), .v (.int .i64 x.2.2)] :: caps) [] (.v (.bool (p x))) []) : Fn Tryz.prog 198 [.sl f 3 (zg xs), .fn cf caps] [] (.v (.int .i64 (zDt p xs))) [] := by
 refine Fn.of (fn := Tryz.f198) (by kernel_rfl) rfl (by kernel_rfl) ⟨[.sl f 3 (zg xs), .fn cf caps, .v undef, .v undef, .v undef, .v undef, .v undef, .v undef, .v undef, .v undef, .v undef, .v undef, .v undef, .v undef, .v undef, .v undef, .v undef, .v undef, .v undef], []⟩ rfl ?_
 repeat' first | (with_reducible first | refine zA ?_ | refine zB ?_ | refine zI ?_) | ((with_reducible refine zC fun KC J hJ hKC => ?_); simp (maxSteps := 9999999) only [push_cast, seval, ↓reduceIte]) | ((with_reducible refine hJ _ _ ?_); clear hJ hKC KC J)
 refine zAJ (γ := {i : Nat // i ≤ xs.length ∧ ∀ (j : Nat) (hj : j < xs.length), j < i → p xs[j] = false}) (fun i => ⟨[.sl f 3 (zg xs), .fn cf caps, .any, .any, .any, .any, .any, .v (.int .i64 xs.length), .v (.int .i64 i.1), .any, .any, .any, .any, .any, .any, .any, .any, .any, .any], []⟩) (fun i => xs.length - i.1) ⟨0, by simp⟩ ⟨?_, Fq⟩ ?_
 ·exact Lq
 ·rintro ⟨i, hi, hn⟩
  by_cases hlt : (i : Int) < (xs.length : Int)
  ·have hx : xs[i]? = some xs[i] := List.getElem?_eq_getElem (by omega)
   have hfn := hp xs[i] (List.getElem_mem (by omega))
   repeat' first | (with_reducible first | refine zA ?_ | refine zB ?_ | refine zb ?_ | refine zP ?_ | refine zAC ?_ | refine zF ?_ | refine zJ ?_ | refine zI ?_) | ((with_reducible refine And.intro ?_ ?_); · exact Sq) | ((first | with_reducible refine zC fun KC J hJ hKC => ?_ | (refine hKC _ _ _ _ _ (zD (hfn) rfl rfl rfl ?_ ?_); (· exact Lq))); simp (maxSteps := 9999999) only [push_cast, seval, ↓reduceIte, hlt, zBi hx, zp (i := i) (n := xs.length) (by omega) (by omega)]) | ((with_reducible refine hJ _ _ ?_); clear hJ hKC KC J) | ((with_reducible refine zG ?_ ?_); · rfl) | (refine zAa rfl (fun h => ?_) (fun h => ?_) <;> try simp only [decide_eq_true_eq, decide_eq_false_iff_not, Bool.not_eq_true', Bool.not_eq_false', beq_iff_eq, bne_iff_ne, ne_eq, Bool.not_eq_true, Bool.or_eq_true, Bool.and_eq_true, Bool.or_eq_false_iff, Bool.and_eq_false_imp, beq_eq_false_iff_ne, bne_eq_false_iff_eq] at h)
   ·refine zE ?_
    simp (maxSteps := 9999999) only [push_cast, seval, ↓reduceIte, show Tryz.f198.results = #[(.tmp 4)] from rfl]
    exact zAk (by rw [zCt (by omega) h hn])
   ·refine ⟨⟨i + 1, by omega, fun j hj hji => ?_⟩, by simp only; omega, ?_, Fq⟩
    ·by_cases he : j = i
     ·subst he; exact h
     ·exact hn j hj (by omega)
    ·exact Lq
  ·skip
   repeat' first | (with_reducible first | refine zA ?_ | refine zB ?_ | refine zm ?_ | refine zl ?_ | refine zF ?_ | refine zZ ?_) | ((with_reducible refine zC fun KC J hJ hKC => ?_); simp (maxSteps := 9999999) only [push_cast, seval, ↓reduceIte, hlt]) | ((with_reducible refine hJ _ _ ?_); clear hJ hKC KC J) | ((with_reducible refine zH ?_ ?_); · rfl)
   refine zE ?_
   simp (maxSteps := 9999999) only [push_cast, seval, ↓reduceIte, show Tryz.f198.results = #[(.tmp 4)] from rfl]
   exact zAk (by rw [zBf (fun j hj => hn j hj (by omega))])
theorem zEE (f : Bool) (xs : List (Bool × Int × Int)) (cf : Nat) (caps : List D) (p : Bool × Int × Int → Bool) (hb : xs.length ≤ 1000) (hc : zr caps = true)
  (hp : ∀ x ∈ xs, Fn Tryz.prog cf (.agg [.v (.bool x.1), .v (.int .i64 x.2.1), .v (.int .i64 x.2.2)] :: caps) [] (.v (.bool (p x))) []) : Fn Tryz.prog 100 [.sl f 3 (zg xs), .fn cf caps] [] (.v (.bool (xs.any p))) [] := by
 have hfn := zJv f xs cf caps p hb hc hp
 refine Fn.of (fn := Tryz.f100) (by kernel_rfl) rfl (by kernel_rfl) ⟨[.sl f 3 (zg xs), .fn cf caps, .v undef, .v undef, .v undef, .v undef, .v undef, .v undef, .v undef], []⟩ rfl ?_
 repeat' first | (with_reducible first | refine zA ?_ | refine zB ?_ | refine zF ?_) | ((first | with_reducible refine zC fun KC J hJ hKC => ?_ | (refine hKC _ _ _ _ _ (zD (hfn) rfl rfl rfl ?_ ?_); (· exact Lq))); simp (maxSteps := 9999999) only [push_cast, seval, ↓reduceIte, zEK]) | ((with_reducible refine hJ _ _ ?_); clear hJ hKC KC J)
 refine zE ?_
 simp (maxSteps := 9999999) only [push_cast, seval, ↓reduceIte, show Tryz.f100.results = #[(.tmp 4)] from rfl]
 exact zK _
theorem zGG {α : Type} (p : α → Bool) (l : List α) : (!l.any fun x => !p x) = l.all p := by rw [List.all_eq_not_any_not]
theorem zJz (f g : Bool) (ns : List ByteArray) (us : List Nat) (x : Int × Int × Int) : Fn Tryz.prog 269 [.agg [.v (.int .i64 x.1), .v (.int .i64 x.2.1), .v (.int .i64 x.2.2)], .fad [.sl f 1 (zS ns), .sl g 1 (zQ us)]] [] (.v (.bool (!zBR us.length x))) [] := by
 have h1 := zKs us.length x
 refine Fn.of (fn := Tryz.f269) (by kernel_rfl) rfl (by kernel_rfl) ⟨[.agg [.v (.int .i64 x.1), .v (.int .i64 x.2.1), .v (.int .i64 x.2.2)], .fad [.sl f 1 (zS ns), .sl g 1 (zQ us)], .v undef, .v undef, .v undef, .v undef, .v undef, .v undef, .v undef, .v undef], []⟩ rfl ?_
 repeat' first | (with_reducible first | refine zA ?_ | refine zB ?_ | refine zF ?_) | ((first | with_reducible refine zC fun KC J hJ hKC => ?_ | (refine hKC _ _ _ _ _ (zD (h1) rfl rfl rfl ?_ ?_); (· exact Lq))); simp (maxSteps := 9999999) only [push_cast, seval, ↓reduceIte]) | ((with_reducible refine hJ _ _ ?_); clear hJ hKC KC J)
 refine zE ?_
 simp (maxSteps := 9999999) only [push_cast, seval, ↓reduceIte, show Tryz.f269.results = #[(.tmp 3)] from rfl]
 exact Lq
theorem zNV (f g h : Bool) (ns : List ByteArray) (us : List Nat) (c : List (Int × Int × Int)) (hs : Szs ns) (hu : U32 us) (hc : zAA ns us = 0) (hl : c.length ≤ 1000) :
  Fn Tryz.prog 195 [.agg [.sl f 1 (zS ns), .sl g 1 (zQ us)], .sl h 3 (zo c)] [] (.v (.bool (zFd us.length c))) [] := by
 have h1 := zBX f g ns us hs hu
 have h2 := zEA h c 269 [.fad [.sl f 1 (zS ns), .sl g 1 (zQ us)]] (fun x => !zBR us.length x) hl rfl (fun x _ => zJz f g ns us x)
 rw [hc] at h1
 rw [zFd, Bool.and_comm, ← zGG]
 obtain ⟨a, ha⟩ : ∃ a, (c.any fun x => !zBR us.length x) = a := ⟨_, rfl⟩
 rw [ha] at h2 ⊢
 obtain ⟨b, hb⟩ : ∃ b, decide (c.length ≤ 12) = b := ⟨_, rfl⟩
 have hb' : decide ((c.length : Int) ≤ 12) = b := by rw [← hb]; exact decide_eq_decide.2 (by omega)
 rw [hb]
 refine Fn.of (fn := Tryz.f195) (by kernel_rfl) rfl (by kernel_rfl) ⟨[.agg [.sl f 1 (zS ns), .sl g 1 (zQ us)], .sl h 3 (zo c), .v undef, .v undef, .v undef, .v undef, .v undef, .v undef, .v undef, .v undef, .v undef, .v undef, .v undef, .v undef, .v undef, .v undef, .v undef, .v undef, .v undef, .v undef, .v undef], []⟩ rfl ?_
 cases b
 all_goals
  repeat' first | (refine zU 1 0 rfl (by (simp (maxSteps := 9999999) only [push_cast, seval, ↓reduceIte]) <;> rfl) ?_; simp (maxSteps := 9999999) only [push_cast, seval, ↓reduceIte, zAK, zi, fr3, fr2, fr1, fr0, zq, zn, hb', undef]) | (with_reducible first | refine zA ?_ | refine zB ?_ | refine zF ?_) | ((first | with_reducible refine zC fun KC J hJ hKC => ?_ | (refine hKC _ _ _ _ _ (zD (h1) rfl rfl rfl ?_ ?_); (· exact Lq)) | (refine hKC _ _ _ _ _ (zD (h2) rfl rfl rfl ?_ ?_); (· exact Lq))); simp (maxSteps := 9999999) only [push_cast, seval, ↓reduceIte, hb', undef]) | ((with_reducible refine hJ _ _ ?_); clear hJ hKC KC J)
  refine zE ?_
  simp (maxSteps := 9999999) only [push_cast, seval, ↓reduceIte, show Tryz.f195.results = #[(.tmp 4)] from rfl]
  exact Lq
theorem zFz (f g : Bool) (ns : List ByteArray) (us : List Nat) (a : Int) : Fn Tryz.prog 190 [.v (.int .i64 a), .fad [.sl f 1 (zS ns), .sl g 1 (zQ us)]] [] (.v (.bool (!zx us.length a))) [] := by
 obtain ⟨x, hx⟩ : ∃ x, decide (0 ≤ a) = x := ⟨_, rfl⟩
 have ho : (!zx us.length a) = (x && decide (a < (us.length : Int))) := by
  rw [← hx, Bool.eq_iff_iff]; simp [zx]
 rw [ho]
 refine Fn.of (fn := Tryz.f190) (by kernel_rfl) rfl (by kernel_rfl) ⟨[.v (.int .i64 a), .fad [.sl f 1 (zS ns), .sl g 1 (zQ us)], .v undef, .v undef, .v undef, .v undef, .v undef, .v undef, .v undef, .v undef, .v undef, .v undef, .v undef], []⟩ rfl ?_
 cases x
 all_goals
  repeat' first | (with_reducible first | refine zA ?_ | refine zB ?_ | refine zF ?_) | ((with_reducible refine zC fun KC J hJ hKC => ?_); simp (maxSteps := 9999999) only [push_cast, seval, ↓reduceIte, hx, undef]) | ((with_reducible refine hJ _ _ ?_); clear hJ hKC KC J)
  refine zE ?_
  simp (maxSteps := 9999999) only [push_cast, seval, ↓reduceIte, show Tryz.f190.results = #[(.tmp 3)] from rfl]
  exact Lq
theorem zII (n : Int) : Fn Tryz.prog 192 [.v (.int .i64 n)] [] (.v (.bool (inB (-20) 20 n))) [] := by
 obtain ⟨x, hx⟩ : ∃ x, decide (-20 ≤ n) = x := ⟨_, rfl⟩
 rw [inB, hx]
 refine Fn.of (fn := Tryz.f192) (by kernel_rfl) rfl (by kernel_rfl) ⟨[.v (.int .i64 n), .v undef, .v undef, .v undef, .v undef, .v undef, .v undef, .v undef, .v undef], []⟩ rfl ?_
 cases x
 all_goals
  repeat' first | (with_reducible first | refine zA ?_ | refine zB ?_ | refine zF ?_) | ((with_reducible refine zC fun KC J hJ hKC => ?_); simp (maxSteps := 9999999) only [push_cast, seval, ↓reduceIte, hx, undef]) | ((with_reducible refine hJ _ _ ?_); clear hJ hKC KC J)
  refine zE ?_
  simp (maxSteps := 9999999) only [push_cast, seval, ↓reduceIte, show Tryz.f192.results = #[(.tmp 2)] from rfl]
  exact Lq
theorem zJG (n : Int) : Fn Tryz.prog 194 [.v (.int .i64 n)] [] (.v (.bool (inB (0) 12 n))) [] := by
 obtain ⟨x, hx⟩ : ∃ x, decide (0 ≤ n) = x := ⟨_, rfl⟩
 rw [inB, hx]
 refine Fn.of (fn := Tryz.f194) (by kernel_rfl) rfl (by kernel_rfl) ⟨[.v (.int .i64 n), .v undef, .v undef, .v undef, .v undef, .v undef, .v undef, .v undef, .v undef], []⟩ rfl ?_
 cases x
 all_goals
  repeat' first | (with_reducible first | refine zA ?_ | refine zB ?_ | refine zF ?_) | ((with_reducible refine zC fun KC J hJ hKC => ?_); simp (maxSteps := 9999999) only [push_cast, seval, ↓reduceIte, hx, undef]) | ((with_reducible refine hJ _ _ ?_); clear hJ hKC KC J)
  refine zE ?_
  simp (maxSteps := 9999999) only [push_cast, seval, ↓reduceIte, show Tryz.f194.results = #[(.tmp 2)] from rfl]
  exact Lq
theorem zKk (f g : Bool) (ns : List ByteArray) (us : List Nat) (x : Int × Int) : Fn Tryz.prog 191 [.agg [.v (.int .i64 x.1), .v (.int .i64 x.2)], .fad [.fn 190 [.fad [.sl f 1 (zS ns), .sl g 1 (zQ us)]]]] [] (.v (.bool (!zCf us.length x))) [] := by
 have h1 := zII x.1
 have h2 := zFz f g ns us x.2
 unfold zCf
 obtain ⟨a, ha⟩ : ∃ a, inB (-20) 20 x.1 = a := ⟨_, rfl⟩
 obtain ⟨b, hb⟩ : ∃ b, (!zx us.length x.2) = b := ⟨_, rfl⟩
 rw [ha] at h1 ⊢
 rw [hb] at h2 ⊢
 refine Fn.of (fn := Tryz.f191) (by kernel_rfl) rfl (by kernel_rfl) ⟨[.agg [.v (.int .i64 x.1), .v (.int .i64 x.2)], .fad [.fn 190 [.fad [.sl f 1 (zS ns), .sl g 1 (zQ us)]]], .v undef, .v undef, .v undef, .v undef, .v undef, .v undef, .v undef, .v undef, .v undef, .v undef, .v undef, .v undef, .v undef], []⟩ rfl ?_
 cases a
 all_goals
  repeat' first | (with_reducible first | refine zA ?_ | refine zB ?_ | refine zF ?_) | ((first | with_reducible refine zC fun KC J hJ hKC => ?_ | (refine hKC _ _ _ _ _ (zD (h1) rfl rfl rfl ?_ ?_); (· exact Lq)) | (refine hKC _ _ _ _ _ (zD (h2) rfl rfl rfl ?_ ?_); (· exact Lq))); simp (maxSteps := 9999999) only [push_cast, seval, ↓reduceIte, undef]) | ((with_reducible refine hJ _ _ ?_); clear hJ hKC KC J)
  refine zE ?_
  simp (maxSteps := 9999999) only [push_cast, seval, ↓reduceIte, show Tryz.f191.results = #[(.tmp 3)] from rfl]
  exact Lq
theorem zQX (f g : Bool) (ns : List ByteArray) (us : List Nat) (x : Bool × Int × Int) : Fn Tryz.prog 193 [.agg [.v (.bool x.1), .v (.int .i64 x.2.1), .v (.int .i64 x.2.2)], .fad [.fn 190 [.fad [.sl f 1 (zS ns), .sl g 1 (zQ us)]]]] [] (.v (.bool (!zCT us.length x))) [] := by
 obtain ⟨r, v, l⟩ := x
 have h1 := zII v
 have h3 := zJG v
 have h2 := zFz f g ns us l
 simp only [zCT]
 obtain ⟨a, ha⟩ : ∃ a, inB (-20) 20 v = a := ⟨_, rfl⟩
 obtain ⟨c, hc⟩ : ∃ c, inB 0 12 v = c := ⟨_, rfl⟩
 obtain ⟨b, hb⟩ : ∃ b, (!zx us.length l) = b := ⟨_, rfl⟩
 rw [ha] at h1 ⊢
 rw [hc] at h3 ⊢
 rw [hb] at h2 ⊢
 cases b
 case false =>
  refine Fn.of (fn := Tryz.f193) (by kernel_rfl) rfl (by kernel_rfl) ⟨[.agg [.v (.bool r), .v (.int .i64 v), .v (.int .i64 l)], .fad [.fn 190 [.fad [.sl f 1 (zS ns), .sl g 1 (zQ us)]]], .v undef, .v undef, .v undef, .v undef, .v undef, .v undef, .v undef, .v undef, .v undef, .v undef, .v undef, .v undef, .v undef, .v undef, .v undef, .v undef, .v undef, .v undef, .v undef, .v undef, .v undef, .v undef, .v undef, .v undef, .v undef, .v undef, .v undef, .v undef], []⟩ rfl ?_
  repeat' first | (with_reducible first | refine zA ?_ | refine zB ?_ | refine zF ?_) | ((first | with_reducible refine zC fun KC J hJ hKC => ?_ | (refine hKC _ _ _ _ _ (zD (h2) rfl rfl rfl ?_ ?_); (· exact Lq))); simp (maxSteps := 9999999) only [push_cast, seval, ↓reduceIte, undef]) | ((with_reducible refine hJ _ _ ?_); clear hJ hKC KC J)
  refine zE ?_
  simp (maxSteps := 9999999) only [push_cast, seval, ↓reduceIte, show Tryz.f193.results = #[(.tmp 3)] from rfl]
  exact Lq
 cases r
 case false =>
  cases a
  all_goals
   refine Fn.of (fn := Tryz.f193) (by kernel_rfl) rfl (by kernel_rfl) ⟨[.agg [.v (.bool false), .v (.int .i64 v), .v (.int .i64 l)], .fad [.fn 190 [.fad [.sl f 1 (zS ns), .sl g 1 (zQ us)]]], .v undef, .v undef, .v undef, .v undef, .v undef, .v undef, .v undef, .v undef, .v undef, .v undef, .v undef, .v undef, .v undef, .v undef, .v undef, .v undef, .v undef, .v undef, .v undef, .v undef, .v undef, .v undef, .v undef, .v undef, .v undef, .v undef, .v undef, .v undef], []⟩ rfl ?_
   repeat' first | (with_reducible first | refine zA ?_ | refine zB ?_ | refine zF ?_) | ((first | with_reducible refine zC fun KC J hJ hKC => ?_ | (refine hKC _ _ _ _ _ (zD (h1) rfl rfl rfl ?_ ?_); (· exact Lq)) | (refine hKC _ _ _ _ _ (zD (h2) rfl rfl rfl ?_ ?_); (· exact Lq))); simp (maxSteps := 9999999) only [push_cast, seval, ↓reduceIte, undef]) | ((with_reducible refine hJ _ _ ?_); clear hJ hKC KC J)
   refine zE ?_
   simp (maxSteps := 9999999) only [push_cast, seval, ↓reduceIte, show Tryz.f193.results = #[(.tmp 3)] from rfl]
   exact Lq
 cases c
 all_goals
  refine Fn.of (fn := Tryz.f193) (by kernel_rfl) rfl (by kernel_rfl) ⟨[.agg [.v (.bool true), .v (.int .i64 v), .v (.int .i64 l)], .fad [.fn 190 [.fad [.sl f 1 (zS ns), .sl g 1 (zQ us)]]], .v undef, .v undef, .v undef, .v undef, .v undef, .v undef, .v undef, .v undef, .v undef, .v undef, .v undef, .v undef, .v undef, .v undef, .v undef, .v undef, .v undef, .v undef, .v undef, .v undef, .v undef, .v undef, .v undef, .v undef, .v undef, .v undef, .v undef, .v undef], []⟩ rfl ?_
  repeat' first | (with_reducible first | refine zA ?_ | refine zB ?_ | refine zF ?_) | ((first | with_reducible refine zC fun KC J hJ hKC => ?_ | (refine hKC _ _ _ _ _ (zD (h2) rfl rfl rfl ?_ ?_); (· exact Lq)) | (refine hKC _ _ _ _ _ (zD (h3) rfl rfl rfl ?_ ?_); (· exact Lq))); simp (maxSteps := 9999999) only [push_cast, seval, ↓reduceIte, undef]) | ((with_reducible refine hJ _ _ ?_); clear hJ hKC KC J)
  refine zE ?_
  simp (maxSteps := 9999999) only [push_cast, seval, ↓reduceIte, show Tryz.f193.results = #[(.tmp 3)] from rfl]
  exact Lq
theorem zSZ (n : Nat) (s : Sta) : zIl n s = (zFd n s.code && (inB 0 12 s.v && (!zx n s.l && ((decide (s.mem.length ≤ 6) && (decide (s.stack.length ≤ 12) && decide (s.out.length ≤ 8))) && (s.mem.all (zCf n) && (s.stack.all (zCT n) && s.out.all (zCf n))))))) := by
 unfold zIl
 cases zFd n s.code <;> cases inB 0 12 s.v <;> cases zx n s.l <;> cases s.mem.all (zCf n) <;> cases decide (s.mem.length ≤ 6) <;> cases s.stack.all (zCT n) <;> cases decide (s.stack.length ≤ 12) <;> cases s.out.all (zCf n) <;> cases decide (s.out.length ≤ 8) <;> rfl
set_option maxHeartbeats 8000000 in
theorem zOJ (f g : Bool) (ns : List ByteArray) (us : List Nat) (s : Sta) (hs : Szs ns) (hu : U32 us) (hc : zAA ns us = 0) (hl : Sml s) :
  Fn Tryz.prog 96 [.agg [.sl f 1 (zS ns), .sl g 1 (zQ us)], .agg (zAO false false false false s)] [] (.v (.bool (zIl us.length s))) [] := by
 obtain ⟨l1, l2, l3, l4⟩ := hl
 have h1 := zNV f g false ns us s.code hs hu hc l1
 have h2 := zJG s.v
 have h3 := zFz f g ns us s.l
 have h4 := zCr false s.mem 191 [.fad [.fn 190 [.fad [.sl f 1 (zS ns), .sl g 1 (zQ us)]]]] (fun x => !zCf us.length x) l2 rfl (fun x _ => zKk f g ns us x)
 have h5 := zEE false s.stack 193 [.fad [.fn 190 [.fad [.sl f 1 (zS ns), .sl g 1 (zQ us)]]]] (fun x => !zCT us.length x) l3 rfl (fun x _ => zQX f g ns us x)
 have h6 := zCr false s.out 191 [.fad [.fn 190 [.fad [.sl f 1 (zS ns), .sl g 1 (zQ us)]]]] (fun x => !zCf us.length x) l4 rfl (fun x _ => zKk f g ns us x)
 rw [zSZ, ← zGG, ← zGG, ← zGG]
 obtain ⟨c1, hc1⟩ : ∃ x, zFd us.length s.code = x := ⟨_, rfl⟩
 obtain ⟨c2, hc2⟩ : ∃ x, inB 0 12 s.v = x := ⟨_, rfl⟩
 obtain ⟨c3, hc3⟩ : ∃ x, (!zx us.length s.l) = x := ⟨_, rfl⟩
 obtain ⟨d1, hd1⟩ : ∃ x, decide (s.mem.length ≤ 6) = x := ⟨_, rfl⟩
 obtain ⟨d2, hd2⟩ : ∃ x, decide (s.stack.length ≤ 12) = x := ⟨_, rfl⟩
 obtain ⟨d3, hd3⟩ : ∃ x, decide (s.out.length ≤ 8) = x := ⟨_, rfl⟩
 obtain ⟨c5, hc5⟩ : ∃ x, (s.mem.any fun x => !zCf us.length x) = x := ⟨_, rfl⟩
 obtain ⟨c6, hc6⟩ : ∃ x, (s.stack.any fun x => !zCT us.length x) = x := ⟨_, rfl⟩
 obtain ⟨c7, hc7⟩ : ∃ x, (s.out.any fun x => !zCf us.length x) = x := ⟨_, rfl⟩
 have hd1' : decide ((s.mem.length : Int) ≤ 6) = d1 := by rw [← hd1]; exact decide_eq_decide.2 (by omega)
 have hd2' : decide ((s.stack.length : Int) ≤ 12) = d2 := by rw [← hd2]; exact decide_eq_decide.2 (by omega)
 have hd3' : decide ((s.out.length : Int) ≤ 8) = d3 := by rw [← hd3]; exact decide_eq_decide.2 (by omega)
 rw [hc1] at h1 ⊢
 rw [hc2] at h2 ⊢
 rw [hc3] at h3 ⊢
 rw [hc5] at h4 ⊢
 rw [hc6] at h5 ⊢
 rw [hc7] at h6 ⊢
 rw [hd1, hd2, hd3]
 simp only [zAO]
 refine Fn.of (fn := Tryz.f96) (by kernel_rfl) rfl (by kernel_rfl) ⟨[.agg [.sl f 1 (zS ns), .sl g 1 (zQ us)], .agg [.v (.int .i64 s.v), .v (.int .i64 s.l), .sl false 3 (zo s.code), .sl false 2 (za s.mem), .sl false 3 (zg s.stack), .sl false 2 (za s.out)], .v undef, .v undef, .v undef, .v undef, .v undef, .v undef, .v undef, .v undef, .v undef, .v undef, .v undef, .v undef, .v undef, .v undef, .v undef, .v undef, .v undef, .v undef, .v undef, .v undef, .v undef, .v undef, .v undef, .v undef, .v undef, .v undef, .v undef, .v undef, .v undef, .v undef, .v undef, .v undef, .v undef, .v undef, .v undef, .v undef, .v undef, .v undef, .v undef, .v undef, .v undef, .v undef, .v undef, .v undef, .v undef, .v undef, .v undef, .v undef, .v undef, .v undef, .v undef, .v undef, .v undef, .v undef, .v undef, .v undef, .v undef, .v undef, .v undef, .v undef, .v undef, .v undef, .v undef, .v undef, .v undef, .v undef, .v undef], []⟩ rfl ?_
 cases c1
 case false =>
  cases d1 <;> cases d2
  all_goals
   repeat' first | (refine zU 1 0 rfl (by (simp (maxSteps := 9999999) only [push_cast, seval, ↓reduceIte]) <;> rfl) ?_; simp (maxSteps := 9999999) only [push_cast, seval, ↓reduceIte, zAK, zi, fr3, fr2, fr1, fr0, zq, zn, hd1', hd2', hd3', undef]) | (refine zU 2 2 rfl (by (simp (maxSteps := 9999999) only [push_cast, seval, ↓reduceIte]) <;> rfl) ?_; simp (maxSteps := 9999999) only [push_cast, seval, ↓reduceIte, zAK, zi, fr3, fr2, fr1, fr0, zq, zn, hd1', hd2', hd3', undef]) | (with_reducible first | refine zA ?_ | refine zB ?_ | refine zF ?_) | ((first | with_reducible refine zC fun KC J hJ hKC => ?_ | (refine hKC _ _ _ _ _ (zD (h1) rfl rfl rfl ?_ ?_); (· exact Lq))); simp (maxSteps := 9999999) only [push_cast, seval, ↓reduceIte, hd1', hd2', hd3', undef]) | ((with_reducible refine hJ _ _ ?_); clear hJ hKC KC J)
   refine zE ?_
   simp (maxSteps := 9999999) only [push_cast, seval, ↓reduceIte, show Tryz.f96.results = #[(.tmp 4)] from rfl]
   exact Lq
 cases c2
 case false =>
  cases d1 <;> cases d2
  all_goals
   repeat' first | (refine zU 1 0 rfl (by (simp (maxSteps := 9999999) only [push_cast, seval, ↓reduceIte]) <;> rfl) ?_; simp (maxSteps := 9999999) only [push_cast, seval, ↓reduceIte, zAK, zi, fr3, fr2, fr1, fr0, zq, zn, hd1', hd2', hd3', undef]) | (refine zU 2 2 rfl (by (simp (maxSteps := 9999999) only [push_cast, seval, ↓reduceIte]) <;> rfl) ?_; simp (maxSteps := 9999999) only [push_cast, seval, ↓reduceIte, zAK, zi, fr3, fr2, fr1, fr0, zq, zn, hd1', hd2', hd3', undef]) | (with_reducible first | refine zA ?_ | refine zB ?_ | refine zF ?_) | ((first | with_reducible refine zC fun KC J hJ hKC => ?_ | (refine hKC _ _ _ _ _ (zD (h1) rfl rfl rfl ?_ ?_); (· exact Lq)) | (refine hKC _ _ _ _ _ (zD (h2) rfl rfl rfl ?_ ?_); (· exact Lq))); simp (maxSteps := 9999999) only [push_cast, seval, ↓reduceIte, hd1', hd2', hd3', undef]) | ((with_reducible refine hJ _ _ ?_); clear hJ hKC KC J)
   refine zE ?_
   simp (maxSteps := 9999999) only [push_cast, seval, ↓reduceIte, show Tryz.f96.results = #[(.tmp 4)] from rfl]
   exact Lq
 cases c3
 case false =>
  cases d1 <;> cases d2
  all_goals
   repeat' first | (refine zU 1 0 rfl (by (simp (maxSteps := 9999999) only [push_cast, seval, ↓reduceIte]) <;> rfl) ?_; simp (maxSteps := 9999999) only [push_cast, seval, ↓reduceIte, zAK, zi, fr3, fr2, fr1, fr0, zq, zn, hd1', hd2', hd3', undef]) | (refine zU 2 2 rfl (by (simp (maxSteps := 9999999) only [push_cast, seval, ↓reduceIte]) <;> rfl) ?_; simp (maxSteps := 9999999) only [push_cast, seval, ↓reduceIte, zAK, zi, fr3, fr2, fr1, fr0, zq, zn, hd1', hd2', hd3', undef]) | (with_reducible first | refine zA ?_ | refine zB ?_ | refine zF ?_) | ((first | with_reducible refine zC fun KC J hJ hKC => ?_ | (refine hKC _ _ _ _ _ (zD (h1) rfl rfl rfl ?_ ?_); (· exact Lq)) | (refine hKC _ _ _ _ _ (zD (h2) rfl rfl rfl ?_ ?_); (· exact Lq)) | (refine hKC _ _ _ _ _ (zD (h3) rfl rfl rfl ?_ ?_); (· exact Lq))); simp (maxSteps := 9999999) only [push_cast, seval, ↓reduceIte, hd1', hd2', hd3', undef]) | ((with_reducible refine hJ _ _ ?_); clear hJ hKC KC J)
   refine zE ?_
   simp (maxSteps := 9999999) only [push_cast, seval, ↓reduceIte, show Tryz.f96.results = #[(.tmp 4)] from rfl]
   exact Lq
 cases d1
 case false =>
  repeat' first | (refine zU 1 0 rfl (by (simp (maxSteps := 9999999) only [push_cast, seval, ↓reduceIte]) <;> rfl) ?_; simp (maxSteps := 9999999) only [push_cast, seval, ↓reduceIte, zAK, zi, fr3, fr2, fr1, fr0, zq, zn, hd1', hd2', hd3', undef]) | (refine zU 2 2 rfl (by (simp (maxSteps := 9999999) only [push_cast, seval, ↓reduceIte]) <;> rfl) ?_; simp (maxSteps := 9999999) only [push_cast, seval, ↓reduceIte, zAK, zi, fr3, fr2, fr1, fr0, zq, zn, hd1', hd2', hd3', undef]) | (with_reducible first | refine zA ?_ | refine zB ?_ | refine zF ?_) | ((first | with_reducible refine zC fun KC J hJ hKC => ?_ | (refine hKC _ _ _ _ _ (zD (h1) rfl rfl rfl ?_ ?_); (· exact Lq)) | (refine hKC _ _ _ _ _ (zD (h2) rfl rfl rfl ?_ ?_); (· exact Lq)) | (refine hKC _ _ _ _ _ (zD (h3) rfl rfl rfl ?_ ?_); (· exact Lq))); simp (maxSteps := 9999999) only [push_cast, seval, ↓reduceIte, hd1', hd2', hd3', undef]) | ((with_reducible refine hJ _ _ ?_); clear hJ hKC KC J)
  refine zE ?_
  simp (maxSteps := 9999999) only [push_cast, seval, ↓reduceIte, show Tryz.f96.results = #[(.tmp 4)] from rfl]
  exact Lq
 cases d2
 case false =>
  repeat' first | (refine zU 1 0 rfl (by (simp (maxSteps := 9999999) only [push_cast, seval, ↓reduceIte]) <;> rfl) ?_; simp (maxSteps := 9999999) only [push_cast, seval, ↓reduceIte, zAK, zi, fr3, fr2, fr1, fr0, zq, zn, hd1', hd2', hd3', undef]) | (refine zU 2 2 rfl (by (simp (maxSteps := 9999999) only [push_cast, seval, ↓reduceIte]) <;> rfl) ?_; simp (maxSteps := 9999999) only [push_cast, seval, ↓reduceIte, zAK, zi, fr3, fr2, fr1, fr0, zq, zn, hd1', hd2', hd3', undef]) | (with_reducible first | refine zA ?_ | refine zB ?_ | refine zF ?_) | ((first | with_reducible refine zC fun KC J hJ hKC => ?_ | (refine hKC _ _ _ _ _ (zD (h1) rfl rfl rfl ?_ ?_); (· exact Lq)) | (refine hKC _ _ _ _ _ (zD (h2) rfl rfl rfl ?_ ?_); (· exact Lq)) | (refine hKC _ _ _ _ _ (zD (h3) rfl rfl rfl ?_ ?_); (· exact Lq))); simp (maxSteps := 9999999) only [push_cast, seval, ↓reduceIte, hd1', hd2', hd3', undef]) | ((with_reducible refine hJ _ _ ?_); clear hJ hKC KC J)
  refine zE ?_
  simp (maxSteps := 9999999) only [push_cast, seval, ↓reduceIte, show Tryz.f96.results = #[(.tmp 4)] from rfl]
  exact Lq
 cases d3
 case false =>
  repeat' first | (refine zU 1 0 rfl (by (simp (maxSteps := 9999999) only [push_cast, seval, ↓reduceIte]) <;> rfl) ?_; simp (maxSteps := 9999999) only [push_cast, seval, ↓reduceIte, zAK, zi, fr3, fr2, fr1, fr0, zq, zn, hd1', hd2', hd3', undef]) | (refine zU 2 2 rfl (by (simp (maxSteps := 9999999) only [push_cast, seval, ↓reduceIte]) <;> rfl) ?_; simp (maxSteps := 9999999) only [push_cast, seval, ↓reduceIte, zAK, zi, fr3, fr2, fr1, fr0, zq, zn, hd1', hd2', hd3', undef]) | (with_reducible first | refine zA ?_ | refine zB ?_ | refine zF ?_) | ((first | with_reducible refine zC fun KC J hJ hKC => ?_ | (refine hKC _ _ _ _ _ (zD (h1) rfl rfl rfl ?_ ?_); (· exact Lq)) | (refine hKC _ _ _ _ _ (zD (h2) rfl rfl rfl ?_ ?_); (· exact Lq)) | (refine hKC _ _ _ _ _ (zD (h3) rfl rfl rfl ?_ ?_); (· exact Lq))); simp (maxSteps := 9999999) only [push_cast, seval, ↓reduceIte, hd1', hd2', hd3', undef]) | ((with_reducible refine hJ _ _ ?_); clear hJ hKC KC J)
  refine zE ?_
  simp (maxSteps := 9999999) only [push_cast, seval, ↓reduceIte, show Tryz.f96.results = #[(.tmp 4)] from rfl]
  exact Lq
 cases c5
 case true =>
  repeat' first | (refine zU 1 0 rfl (by (simp (maxSteps := 9999999) only [push_cast, seval, ↓reduceIte]) <;> rfl) ?_; simp (maxSteps := 9999999) only [push_cast, seval, ↓reduceIte, zAK, zi, fr3, fr2, fr1, fr0, zq, zn, hd1', hd2', hd3', undef]) | (refine zU 2 2 rfl (by (simp (maxSteps := 9999999) only [push_cast, seval, ↓reduceIte]) <;> rfl) ?_; simp (maxSteps := 9999999) only [push_cast, seval, ↓reduceIte, zAK, zi, fr3, fr2, fr1, fr0, zq, zn, hd1', hd2', hd3', undef]) | (with_reducible first | refine zA ?_ | refine zB ?_ | refine zF ?_) | ((first | with_reducible refine zC fun KC J hJ hKC => ?_ | (refine hKC _ _ _ _ _ (zD (h1) rfl rfl rfl ?_ ?_); (· exact Lq)) | (refine hKC _ _ _ _ _ (zD (h2) rfl rfl rfl ?_ ?_); (· exact Lq)) | (refine hKC _ _ _ _ _ (zD (h3) rfl rfl rfl ?_ ?_); (· exact Lq)) | (refine hKC _ _ _ _ _ (zD (h4) rfl rfl rfl ?_ ?_); (· exact Lq))); simp (maxSteps := 9999999) only [push_cast, seval, ↓reduceIte, hd1', hd2', hd3', undef]) | ((with_reducible refine hJ _ _ ?_); clear hJ hKC KC J)
  refine zE ?_
  simp (maxSteps := 9999999) only [push_cast, seval, ↓reduceIte, show Tryz.f96.results = #[(.tmp 4)] from rfl]
  exact Lq
 cases c6
 case true =>
  repeat' first | (refine zU 1 0 rfl (by (simp (maxSteps := 9999999) only [push_cast, seval, ↓reduceIte]) <;> rfl) ?_; simp (maxSteps := 9999999) only [push_cast, seval, ↓reduceIte, zAK, zi, fr3, fr2, fr1, fr0, zq, zn, hd1', hd2', hd3', undef]) | (refine zU 2 2 rfl (by (simp (maxSteps := 9999999) only [push_cast, seval, ↓reduceIte]) <;> rfl) ?_; simp (maxSteps := 9999999) only [push_cast, seval, ↓reduceIte, zAK, zi, fr3, fr2, fr1, fr0, zq, zn, hd1', hd2', hd3', undef]) | (with_reducible first | refine zA ?_ | refine zB ?_ | refine zF ?_) | ((first | with_reducible refine zC fun KC J hJ hKC => ?_ | (refine hKC _ _ _ _ _ (zD (h1) rfl rfl rfl ?_ ?_); (· exact Lq)) | (refine hKC _ _ _ _ _ (zD (h2) rfl rfl rfl ?_ ?_); (· exact Lq)) | (refine hKC _ _ _ _ _ (zD (h3) rfl rfl rfl ?_ ?_); (· exact Lq)) | (refine hKC _ _ _ _ _ (zD (h4) rfl rfl rfl ?_ ?_); (· exact Lq)) | (refine hKC _ _ _ _ _ (zD (h5) rfl rfl rfl ?_ ?_); (· exact Lq))); simp (maxSteps := 9999999) only [push_cast, seval, ↓reduceIte, hd1', hd2', hd3', undef]) | ((with_reducible refine hJ _ _ ?_); clear hJ hKC KC J)
  refine zE ?_
  simp (maxSteps := 9999999) only [push_cast, seval, ↓reduceIte, show Tryz.f96.results = #[(.tmp 4)] from rfl]
  exact Lq
 repeat' first | (refine zU 1 0 rfl (by (simp (maxSteps := 9999999) only [push_cast, seval, ↓reduceIte]) <;> rfl) ?_; simp (maxSteps := 9999999) only [push_cast, seval, ↓reduceIte, zAK, zi, fr3, fr2, fr1, fr0, zq, zn, hd1', hd2', hd3', undef]) | (refine zU 2 2 rfl (by (simp (maxSteps := 9999999) only [push_cast, seval, ↓reduceIte]) <;> rfl) ?_; simp (maxSteps := 9999999) only [push_cast, seval, ↓reduceIte, zAK, zi, fr3, fr2, fr1, fr0, zq, zn, hd1', hd2', hd3', undef]) | (with_reducible first | refine zA ?_ | refine zB ?_ | refine zF ?_) | ((first | with_reducible refine zC fun KC J hJ hKC => ?_ | (refine hKC _ _ _ _ _ (zD (h1) rfl rfl rfl ?_ ?_); (· exact Lq)) | (refine hKC _ _ _ _ _ (zD (h2) rfl rfl rfl ?_ ?_); (· exact Lq)) | (refine hKC _ _ _ _ _ (zD (h3) rfl rfl rfl ?_ ?_); (· exact Lq)) | (refine hKC _ _ _ _ _ (zD (h4) rfl rfl rfl ?_ ?_); (· exact Lq)) | (refine hKC _ _ _ _ _ (zD (h5) rfl rfl rfl ?_ ?_); (· exact Lq)) | (refine hKC _ _ _ _ _ (zD (h6) rfl rfl rfl ?_ ?_); (· exact Lq))); simp (maxSteps := 9999999) only [push_cast, seval, ↓reduceIte, hd1', hd2', hd3', undef]) | ((with_reducible refine hJ _ _ ?_); clear hJ hKC KC J)
 refine zE ?_
 simp (maxSteps := 9999999) only [push_cast, seval, ↓reduceIte, show Tryz.f96.results = #[(.tmp 4)] from rfl]
 exact Lq
def zTm (l : List (Bool × List (Int × Int))) : List (List D) := l.map fun r => [.sl r.1 2 (za r.2)]
@[push_cast] theorem zTX (l : List (Bool × List (Int × Int))) : (zTm l).length = l.length := by simp [zTm]
theorem zAz (l : List (Int × Int × Int)) : (zs l).length = l.length * 3 := by
 induction l with
 | nil => rfl
 | cons a l ih => simp [zs, zo] at *; omega
theorem zIx (l m : List (Int × Int × Int)) : zs (l ++ m) = zs l ++ zs m := by simp [zs, zo]
@[push_cast] theorem zTs (l : List (Int × Int × Int)) : zAc (zs l) = true := by
 induction l with
 | nil => rfl
 | cons a l ih => simpa [zs, zo, zAc, frz, frz0] using ih
@[push_cast] theorem zUp (k g sz : Nat) (c : List D) (l : List (Int × Int × Int)) : (zs l).map (fr1 k g sz c) = zs l := by
 induction l with
 | nil => rfl
 | cons a l ih => simpa [zs, zo, fr1, fr0] using ih
theorem zLT (l : List (Int × Int × Int)) : zAh 3 l.length (zs l) = zo l := by
 induction l with
 | nil => rfl
 | cons a l ih => simpa [zs, zo, zAh] using ih
theorem zc (m : Nat → Option Nat) (l : List (Int × Int × Int)) : (zs l).map (ren m) = zs l := by
 induction l with
 | nil => rfl
 | cons a l ih => simpa [zs, zo, ren, ren2, ren1, ren0] using ih
theorem zy (l : List (Bool × Int × Int)) : (zj l).length = l.length * 3 := by
 induction l with
 | nil => rfl
 | cons a l ih => simp [zj, zg] at *; omega
theorem zBM (l m : List (Bool × Int × Int)) : zj (l ++ m) = zj l ++ zj m := by simp [zj, zg]
@[push_cast] theorem zUa (l : List (Bool × Int × Int)) : zAc (zj l) = true := by
 induction l with
 | nil => rfl
 | cons a l ih => simpa [zj, zg, zAc, frz, frz0] using ih
@[push_cast] theorem zUl (k g sz : Nat) (c : List D) (l : List (Bool × Int × Int)) : (zj l).map (fr1 k g sz c) = zj l := by
 induction l with
 | nil => rfl
 | cons a l ih => simpa [zj, zg, fr1, fr0] using ih
theorem zEd (l : List (Bool × Int × Int)) : zAh 3 l.length (zj l) = zg l := by
 induction l with
 | nil => rfl
 | cons a l ih => simpa [zj, zg, zAh] using ih
theorem zW (m : Nat → Option Nat) (l : List (Bool × Int × Int)) : (zj l).map (ren m) = zj l := by
 induction l with
 | nil => rfl
 | cons a l ih => simpa [zj, zg, ren, ren2, ren1, ren0] using ih
theorem zBo {l : List D} {n : Nat} (h : l.length = n) : l.take n = l := List.take_of_length_le (by omega)
def eR (k n : Nat) : D := if n = 0 then .v (.slice none 0 0) else .ref k (n - 1) n
def σR (p : List Slot) (dd n sz ty : Nat) (cs : List D) : List Slot := if n = 0 then p else p ++ List.replicate dd .dead ++ [.ent ⟨n - 1, some sz, ty, cs, .cells⟩]
theorem zEk (p : List Slot) (k dd n sz ty : Nat) (cs : List D) : (n = 0 ∧ eR k n = .v (.slice none 0 0) ∧ σR p dd n sz ty cs = p) ∨ (∃ j, n = j + 1 ∧ eR k n = .ref k j (j + 1) ∧ σR p dd n sz ty cs = p ++ List.replicate dd .dead ++ [.ent ⟨j, some sz, ty, cs, .cells⟩]) := by
 cases n with
 | zero => exact .inl ⟨rfl, rfl, rfl⟩
 | succ j => exact .inr ⟨j, rfl, rfl, rfl⟩
theorem σR_le (p : List Slot) (dd n sz ty : Nat) (cs : List D) : p.length ≤ (σR p dd n sz ty cs).length := by
 unfold σR; split
 ·exact Nat.le_refl _
 ·simp
theorem Fn.nilR {P : Program} {f : Nat} {full : Bool} {sz : Nat} {res : D} {out : List Slot} (h : ∀ A cap, Fn P f [.v (.slice A 0 cap)] [] res out) : Fn P f [.sl full sz []] [] res out where
 spec := fun N0 ρ w vs hp hs hr => by
  have h0 : 0 < vs.size := by rw [hs]; simp
  have hv : vs[0]? = some vs[0] := Array.getElem?_eq_getElem h0
  have hrep := (hr 0 _ _ rfl hv).sl_inv
  generalize hu : vs[0] = u at hrep
  cases hrep with
  | sl0 _ _ A cap _ =>
   refine (h A cap).spec N0 ρ w vs hp (by rw [hs]; rfl) fun j d u hd hu' => ?_
   cases j with
   | zero =>
    simp only [List.getElem?_cons_zero, Option.some.injEq] at hd
    rw [hv, hu] at hu'
    cases hu'
    subst hd
    exact .fro _ _ (.v _)
   | succ j => simp at hd
  | sl _ _ _ b o cap n g hn hpos => simp at hn; omega
 enter := (h none 0).enter
theorem zGP (l : List (Int × Int × Int)) (n : Nat) : (zs l).drop (n * 3) = zs (l.drop n) := by
 induction n generalizing l with
 | zero => simp
 | succ n ih =>
  cases l with
  | nil => simp [zs, zo]
  | cons a l =>
   rw [List.drop_succ_cons, ← ih l, show (n + 1) * 3 = n * 3 + 3 by omega]
   simp [zs, zo]
theorem zLN (l : List (Int × Int × Int)) (n : Nat) : (zs l).take (n * 3) = zs (l.take n) := by
 induction n generalizing l with
 | zero => simp [zs, zo]
 | succ n ih =>
  cases l with
  | nil => simp [zs, zo]
  | cons a l =>
   rw [List.take_succ_cons, show (n + 1) * 3 = n * 3 + 3 by omega]
   have := ih l
   simp only [zs, zo, List.map_cons, List.flatten_cons, List.cons_append, List.nil_append] at this ⊢
   rw [← this]; rfl
theorem zLb {l : List (Int × Int × Int)} (h : 0 < l.length) : zCh (zo l) = false := by
 cases l with
 | nil => simp at h
 | cons _ _ => rfl
theorem zLW {l : List (Bool × Int × Int)} (h : 0 < l.length) : zCh (zg l) = false := by
 cases l with
 | nil => simp at h
 | cons _ _ => rfl
theorem zRC (f : Bool) (l : List (Int × Int)) (h0 : 0 < l.length) (hb : l.length ≤ 1000000) : Fn Tryz.prog 216 [.sl f 2 (za l)] [] (.ref 0 0 l.length) [.ent ⟨0, some 2, 34, zk l, .cells⟩] := by
 have hnl := zHZ h0
 have hfl : (za l).flatten = zk l := rfl
 refine Fn.of (fn := Tryz.f216) (by kernel_rfl) rfl (by kernel_rfl) ⟨[.sl f 2 (za l), .v undef, .v undef, .v undef, .v undef, .v undef, .v undef, .v undef], []⟩ rfl ?_
 repeat' first | (with_reducible first | refine zA ?_ | refine zB ?_ | refine zJ ?_) | ((with_reducible refine And.intro ?_ ?_); · exact Sq) | ((with_reducible refine zC fun KC J hJ hKC => ?_); simp (maxSteps := 9999999) only [push_cast, seval, ↓reduceIte, hnl, hfl, Nat.zero_add]) | ((with_reducible refine hJ _ _ ?_); clear hJ hKC KC J) | ((with_reducible refine zH ?_ ?_); · rfl)
 refine zF ?_
 refine zCv [1] ?_ (by simp) ?_
 ·simp (maxSteps := 9999999) only [push_cast, seval, ↓reduceIte, show Tryz.f216.results = #[.tmp 2] from rfl, pick, mOf, idx, zL, zV]
  exact zK _
 ·intro k hk
  exact absurd hk (by simp)
theorem zOZ (f : Bool) : Fn (Tryz.prog) 216 [.sl f 2 []] [] (.sl true 2 []) [] := by
 refine Fn.nilR fun A cap => ?_
 refine Fn.of (fn := Tryz.f216) (by kernel_rfl) rfl (by kernel_rfl) ⟨[.v (.slice A 0 cap), .v undef, .v undef, .v undef, .v undef, .v undef, .v undef, .v undef], []⟩ rfl ?_
 cases A
 all_goals
  repeat' first | (with_reducible first | refine zA ?_ | refine zB ?_ | refine zb ?_ | refine zF ?_ | refine zJ ?_) | ((with_reducible refine zC fun KC J hJ hKC => ?_); simp (maxSteps := 9999999) only [push_cast, seval, ↓reduceIte, Option.isNone_none, Option.isNone_some]) | ((with_reducible refine hJ _ _ ?_); clear hJ hKC KC J) | ((with_reducible refine zG ?_ ?_); · rfl) | ((with_reducible refine zH ?_ ?_); · rfl)
  refine zE ?_
  simp (maxSteps := 9999999) only [push_cast, seval, ↓reduceIte, show Tryz.f216.results = #[(.tmp 2)] from rfl]
  exact Lq
theorem zRE (f : Bool) (l : List (Int × Int × Int)) (h0 : 0 < l.length) (hb : l.length ≤ 1000000) : Fn Tryz.prog 165 [.sl f 3 (zo l)] [] (.ref 0 0 l.length) [.ent ⟨0, some 3, 100, zs l, .cells⟩] := by
 have hnl := zLb h0
 have hfl : (zo l).flatten = zs l := rfl
 refine Fn.of (fn := Tryz.f165) (by kernel_rfl) rfl (by kernel_rfl) ⟨[.sl f 3 (zo l), .v undef, .v undef, .v undef, .v undef, .v undef, .v undef, .v undef], []⟩ rfl ?_
 repeat' first | (with_reducible first | refine zA ?_ | refine zB ?_ | refine zJ ?_) | ((with_reducible refine And.intro ?_ ?_); · exact Sq) | ((with_reducible refine zC fun KC J hJ hKC => ?_); simp (maxSteps := 9999999) only [push_cast, seval, ↓reduceIte, hnl, hfl, Nat.zero_add]) | ((with_reducible refine hJ _ _ ?_); clear hJ hKC KC J) | ((with_reducible refine zH ?_ ?_); · rfl)
 refine zF ?_
 refine zCv [1] ?_ (by simp) ?_
 ·simp (maxSteps := 9999999) only [push_cast, seval, ↓reduceIte, show Tryz.f165.results = #[.tmp 2] from rfl, pick, mOf, idx, zL, zc]
  exact zK _
 ·intro k hk
  exact absurd hk (by simp)
theorem zOp (f : Bool) : Fn (Tryz.prog) 165 [.sl f 3 []] [] (.sl true 3 []) [] := by
 refine Fn.nilR fun A cap => ?_
 refine Fn.of (fn := Tryz.f165) (by kernel_rfl) rfl (by kernel_rfl) ⟨[.v (.slice A 0 cap), .v undef, .v undef, .v undef, .v undef, .v undef, .v undef, .v undef], []⟩ rfl ?_
 cases A
 all_goals
  repeat' first | (with_reducible first | refine zA ?_ | refine zB ?_ | refine zb ?_ | refine zF ?_ | refine zJ ?_) | ((with_reducible refine zC fun KC J hJ hKC => ?_); simp (maxSteps := 9999999) only [push_cast, seval, ↓reduceIte, Option.isNone_none, Option.isNone_some]) | ((with_reducible refine hJ _ _ ?_); clear hJ hKC KC J) | ((with_reducible refine zG ?_ ?_); · rfl) | ((with_reducible refine zH ?_ ?_); · rfl)
  refine zE ?_
  simp (maxSteps := 9999999) only [push_cast, seval, ↓reduceIte, show Tryz.f165.results = #[(.tmp 2)] from rfl]
  exact Lq
theorem zUS (f : Bool) (l : List (Bool × Int × Int)) (h0 : 0 < l.length) (hb : l.length ≤ 1000000) : Fn Tryz.prog 244 [.sl f 3 (zg l)] [] (.ref 0 0 l.length) [.ent ⟨0, some 3, 104, zj l, .cells⟩] := by
 have hnl := zLW h0
 have hfl : (zg l).flatten = zj l := rfl
 refine Fn.of (fn := Tryz.f244) (by kernel_rfl) rfl (by kernel_rfl) ⟨[.sl f 3 (zg l), .v undef, .v undef, .v undef, .v undef, .v undef, .v undef, .v undef], []⟩ rfl ?_
 repeat' first | (with_reducible first | refine zA ?_ | refine zB ?_ | refine zJ ?_) | ((with_reducible refine And.intro ?_ ?_); · exact Sq) | ((with_reducible refine zC fun KC J hJ hKC => ?_); simp (maxSteps := 9999999) only [push_cast, seval, ↓reduceIte, hnl, hfl, Nat.zero_add]) | ((with_reducible refine hJ _ _ ?_); clear hJ hKC KC J) | ((with_reducible refine zH ?_ ?_); · rfl)
 refine zF ?_
 refine zCv [1] ?_ (by simp) ?_
 ·simp (maxSteps := 9999999) only [push_cast, seval, ↓reduceIte, show Tryz.f244.results = #[.tmp 2] from rfl, pick, mOf, idx, zL, zW]
  exact zK _
 ·intro k hk
  exact absurd hk (by simp)
theorem zSY (f : Bool) : Fn (Tryz.prog) 244 [.sl f 3 []] [] (.sl true 3 []) [] := by
 refine Fn.nilR fun A cap => ?_
 refine Fn.of (fn := Tryz.f244) (by kernel_rfl) rfl (by kernel_rfl) ⟨[.v (.slice A 0 cap), .v undef, .v undef, .v undef, .v undef, .v undef, .v undef, .v undef], []⟩ rfl ?_
 cases A
 all_goals
  repeat' first | (with_reducible first | refine zA ?_ | refine zB ?_ | refine zb ?_ | refine zF ?_ | refine zJ ?_) | ((with_reducible refine zC fun KC J hJ hKC => ?_); simp (maxSteps := 9999999) only [push_cast, seval, ↓reduceIte, Option.isNone_none, Option.isNone_some]) | ((with_reducible refine hJ _ _ ?_); clear hJ hKC KC J) | ((with_reducible refine zG ?_ ?_); · rfl) | ((with_reducible refine zH ?_ ?_); · rfl)
  refine zE ?_
  simp (maxSteps := 9999999) only [push_cast, seval, ↓reduceIte, show Tryz.f244.results = #[(.tmp 2)] from rfl]
  exact Lq
theorem zKc {l : List (Int × Int × Int)} {n : Nat} {x : Int × Int × Int} (h : l[n]? = some x) : ((zs l).drop (n * 3)).take 3 = [.v (.int .i64 x.1), .v (.int .i64 x.2.1), .v (.int .i64 x.2.2)] := by
 obtain ⟨hn, rfl⟩ := List.getElem?_eq_some_iff.1 h
 rw [zGP, List.drop_eq_getElem_cons hn]
 rfl
theorem zIF (l : List (Int × Int × Int)) {a : Nat} (x : Int × Int × Int) (h : a < l.length) : zs (l.set a x) = (zs l).take (a * 3) ++ [.v (.int .i64 x.1), .v (.int .i64 x.2.1), .v (.int .i64 x.2.2)] ++ (zs l).drop (a * 3 + 3) := by
 rw [List.set_eq_take_append_cons_drop, if_pos h, zIx, zLN]
 have h2 : a * 3 + 3 = (a + 1) * 3 := by omega
 rw [h2, zGP]
 simp [zs, zo]
def hN (us : List Nat) (l : Int) : Int := if 0 ≤ l then ((hgt us l.toNat : Nat) : Int) else 0
theorem Fn.post {P : Program} {f : Nat} {args : List D} {ext : List Slot} {res res' : D} {out : List Slot} (h : Fn P f args ext res out) (hle : Rle res res') : Fn P f args ext res' out where
 enter := h.enter
 spec := fun N0 ρ w vs hp hs hr => (h.spec N0 ρ w vs hp hs hr).mono fun e w' he => by
  obtain ⟨v, ρ', h1, h2, h3⟩ := he
  exact ⟨v, ρ', h1, h2, hle _ _ _ _ _ h3⟩
theorem zGi (l : List (Bool × Int × Int)) (n : Nat) : (zj l).drop (n * 3) = zj (l.drop n) := by
 induction n generalizing l with
 | zero => simp
 | succ n ih =>
  cases l with
  | nil => simp [zj, zg]
  | cons a l =>
   rw [List.drop_succ_cons, ← ih l, show (n + 1) * 3 = n * 3 + 3 by omega]
   simp [zj, zg]
theorem zKz (l : List (Bool × Int × Int)) (n : Nat) : (zj l).take (n * 3) = zj (l.take n) := by
 induction n generalizing l with
 | zero => simp [zj, zg]
 | succ n ih =>
  cases l with
  | nil => simp [zj, zg]
  | cons a l =>
   rw [List.take_succ_cons, show (n + 1) * 3 = n * 3 + 3 by omega]
   have := ih l
   simp only [zj, zg, List.map_cons, List.flatten_cons, List.cons_append, List.nil_append] at this ⊢
   rw [← this]; rfl
theorem zPT {l : List (Bool × Int × Int)} {n : Nat} {x : Bool × Int × Int} (h : l[n]? = some x) : ((zj l).drop (n * 3)).take 3 = [.v (.bool x.1), .v (.int .i64 x.2.1), .v (.int .i64 x.2.2)] := by
 obtain ⟨hn, rfl⟩ := List.getElem?_eq_some_iff.1 h
 rw [zGi, List.drop_eq_getElem_cons hn]
 rfl
theorem zIb (l : List (Bool × Int × Int)) {a : Nat} (x : Bool × Int × Int) (h : a < l.length) : zj (l.set a x) = (zj l).take (a * 3) ++ [.v (.bool x.1), .v (.int .i64 x.2.1), .v (.int .i64 x.2.2)] ++ (zj l).drop (a * 3 + 3) := by
 rw [List.set_eq_take_append_cons_drop, if_pos h, zBM, zKz]
 have h2 : a * 3 + 3 = (a + 1) * 3 := by omega
 rw [h2, zGi]
 simp [zj, zg]
theorem zPF {A B : List D} {x0 x1 x2 a : D} {n : Nat} (h : A.length = n) : (A ++ [x0, x1, x2] ++ B).set (n + 1) a = A ++ [x0, a, x2] ++ B := by
 subst h; simp [List.set_append_right]
theorem zOl {X : List D} {k : Nat} {a : D} (h : k < X.length) : X.take k ++ [a] ++ X.drop (k + 1) = X.set k a := by
 rw [List.set_eq_take_append_cons_drop, if_pos h]; simp
theorem zOj {l : List (Int × Int × Int)} {n : Nat} {o v w : Int} (v' : Int) (h : l[n]? = some (o, v, w)) : (zs l).take (n * 3 + 1) ++ [D.v (.int .i64 v')] ++ (zs l).drop (n * 3 + 1 + 1) = zs (l.set n (o, v', w)) := by
 obtain ⟨hn, hx⟩ := List.getElem?_eq_some_iff.1 h
 have hl : ((zs l).take (n * 3)).length = n * 3 := by rw [List.length_take, zAz]; omega
 have hl0 := zAz l
 rw [zOl (by omega)]
 have e := zIF l (o, v, w) hn
 rw [show l.set n (o, v, w) = l by rw [← hx]; exact List.set_getElem_self hn] at e
 rw [zIF l _ hn]
 conv => lhs; rw [e]
 rw [zPF hl]
theorem zSo {l : List (Bool × Int × Int)} {n : Nat} {o : Bool} {v w : Int} (v' : Int) (h : l[n]? = some (o, v, w)) : (zj l).take (n * 3 + 1) ++ [D.v (.int .i64 v')] ++ (zj l).drop (n * 3 + 1 + 1) = zj (l.set n (o, v', w)) := by
 obtain ⟨hn, hx⟩ := List.getElem?_eq_some_iff.1 h
 have hl : ((zj l).take (n * 3)).length = n * 3 := by rw [List.length_take, zy]; omega
 have hl0 := zy l
 rw [zOl (by omega)]
 have e := zIb l (o, v, w) hn
 rw [show l.set n (o, v, w) = l by rw [← hx]; exact List.set_getElem_self hn] at e
 rw [zIb l _ hn]
 conv => lhs; rw [e]
 rw [zPF hl]
def eL (L : List Int) : D := if L.length = 0 then .v (.slice none 0 0) else .ref 4 (L.length - 1) L.length
def lσ (kb : Ent) (L : List Int) : List Slot := if L.length = 0 then [.ent kb] else [.ent kb, .dead, .dead, .dead, .ent ⟨L.length - 1, some 1, 3, zt L, .cells⟩]
theorem zCA (kb : Ent) (L : List Int) : (L = [] ∧ eL L = .v (.slice none 0 0) ∧ lσ kb L = [.ent kb]) ∨ (∃ j, L.length = j + 1 ∧ eL L = .ref 4 j (j + 1) ∧ lσ kb L = [.ent kb, .dead, .dead, .dead, .ent ⟨j, some 1, 3, zt L, .cells⟩]) := by
 cases L with
 | nil => exact .inl ⟨rfl, rfl, rfl⟩
 | cons x L => exact .inr ⟨L.length, rfl, rfl, rfl⟩
theorem zTx (kb : Ent) (L : List Int) (x : Int) : eL (L ++ [x]) = .ref 4 L.length (L.length + 1) ∧ lσ kb (L ++ [x]) = [.ent kb, .dead, .dead, .dead, .ent ⟨L.length, some 1, 3, zt L ++ [.v (.int .i64 x)], .cells⟩] := by
 have hl : (L ++ [x]).length = L.length + 1 := by simp
 unfold eL lσ
 rw [hl, zEF]
 exact ⟨rfl, rfl⟩
theorem zLQ (kb : Ent) (L : List Int) : 1 ≤ (lσ kb L).length := by
 rcases zCA kb L with ⟨_, _, h⟩ | ⟨j, _, _, h⟩ <;> rw [h] <;> simp
theorem zRe (kb : Ent) (L M : List Int) : (lσ kb L).length ≤ (lσ kb (L ++ M)).length := by
 rcases zCA kb L with ⟨_, _, h⟩ | ⟨j, hj, _, h⟩
 ·rw [h]; exact zLQ kb _
 ·rcases zCA kb (L ++ M) with ⟨h2, _, _⟩ | ⟨k, _, _, h2⟩
  ·have := congrArg List.length h2
   rw [List.length_append, List.length_nil] at this; omega
  ·rw [h, h2]; exact Nat.le_refl _
theorem zFU {kb : Ent} (hk : ∀ m, kb.cells.map (ren m) = kb.cells) (L : List Int) : zDL (lσ kb L) := by
 refine zAF ?_
 rcases zCA kb L with ⟨_, _, h⟩ | ⟨j, _, _, h⟩
 all_goals
  rw [h]
  simp only [List.map_cons, List.map_nil, zL, hk, zAE]
def lD (L : List Int) : D := if L.length = 0 then .v (.slice none 0 0) else .ref 0 (L.length - 1) L.length
def zFt (L : List Int) : List Slot := if L.length = 0 then [] else [.ent ⟨L.length - 1, some 1, 3, zt L, .cells⟩]
def zBE (rows : List (Bool × List (Int × Int))) : List Int := (rows.flatMap (·.2)).map (·.2)
def zFf (rows : List (Bool × List (Int × Int))) : List (List D) := rows.map fun r => [.sl r.1 2 (za r.2)]
@[push_cast] theorem zSW (l : List (Bool × List (Int × Int))) : (zFf l).length = l.length := by simp [zFf]
theorem zNs {l : List (Bool × List (Int × Int))} {n : Nat} {x : Bool × List (Int × Int)} (h : l[n]? = some x) : zFb (zFf l) n = [.sl x.1 2 (za x.2)] := by unfold zFf; exact zBm _ _ _ _ h
abbrev zEW : List D := [.fn 202 [], .fn 203 [], .fn 204 []]
theorem zCb : Fn Tryz.prog 105 [] [] (.agg zEW) [] := by
 refine Fn.of (fn := Tryz.f105) (by kernel_rfl) rfl (by kernel_rfl) ⟨[.v undef, .v undef], []⟩ rfl ?_
 repeat' first | (with_reducible first | refine zA ?_ | refine zB ?_ | refine zF ?_) | ((with_reducible refine zC fun KC J hJ hKC => ?_); simp (maxSteps := 9999999) only [push_cast, seval, ↓reduceIte]) | ((with_reducible refine hJ _ _ ?_); clear hJ hKC KC J)
 refine zE ?_
 simp (maxSteps := 9999999) only [push_cast, seval, ↓reduceIte, show Tryz.f105.results = #[(.cell 0 159)] from rfl]
 exact Lq
theorem zID (x : Int × Int) : Fn Tryz.prog 203 [.agg [.v (.int .i64 x.1), .v (.int .i64 x.2)]] [] (.v (.int .i64 x.2)) [] := by
 refine Fn.of (fn := Tryz.f203) (by kernel_rfl) rfl (by kernel_rfl) ⟨[.agg [.v (.int .i64 x.1), .v (.int .i64 x.2)], .v undef, .v undef, .v undef, .v undef], []⟩ rfl ?_
 repeat' first | (with_reducible first | refine zA ?_ | refine zB ?_ | refine zF ?_) | ((with_reducible refine zC fun KC J hJ hKC => ?_); simp (maxSteps := 9999999) only [push_cast, seval, ↓reduceIte]) | ((with_reducible refine hJ _ _ ?_); clear hJ hKC KC J)
 refine zE ?_
 simp (maxSteps := 9999999) only [push_cast, seval, ↓reduceIte, show Tryz.f203.results = #[(.tmp 2)] from rfl]
 exact zK _
theorem zJK {rows : List (Bool × List (Int × Int))} {i : Nat} {x : Bool × List (Int × Int)} (h : rows[i]? = some x) : zBE (rows.take (i + 1)) = zBE (rows.take i) ++ x.2.map (·.2) := by
 obtain ⟨hi, rfl⟩ := List.getElem?_eq_some_iff.1 h
 unfold zBE
 rw [List.take_succ_eq_append_getElem hi, List.flatMap_append, List.map_append]
 simp only [List.flatMap_cons, List.flatMap_nil, List.append_nil]
theorem zPX {rows : List (Bool × List (Int × Int))} {i : Nat} {x : Bool × List (Int × Int)} (h : rows[i]? = some x) (j : Nat) : (zBE (rows.take i) ++ (x.2.take j).map (·.2)).length ≤ (zBE rows).length := by
 have h1 : (zBE (rows.take (i + 1))).length ≤ (zBE rows).length := by
  have : zBE rows = zBE (rows.take (i + 1)) ++ zBE (rows.drop (i + 1)) := by
   rw [zBE, zBE, zBE, ← List.map_append, ← List.flatMap_append, List.take_append_drop]
  rw [this]; simp
 rw [zJK h] at h1
 simp at h1 ⊢
 omega
set_option maxHeartbeats 4000000 in
theorem zNJ (f : Bool) (rows : List (Bool × List (Int × Int))) (hb : (zBE rows).length ≤ 1000) (hr : rows.length ≤ 1000) (hrl : ∀ r ∈ rows, r.2.length ≤ 1000) :
  Fn Tryz.prog 104 [.agg zEW, .sl f 1 (zFf rows)] [] (lD (zBE rows)) (zFt (zBE rows)) := by
 refine Fn.of (fn := Tryz.f104) (by kernel_rfl) rfl (by kernel_rfl) ⟨[.agg zEW, .sl f 1 (zFf rows), .v undef, .v undef, .v undef, .v undef, .v undef, .v undef, .v undef, .v undef, .v undef, .v undef, .v undef, .v undef, .v undef, .v undef, .v undef, .v undef, .v undef, .v undef, .v undef, .v undef, .v undef, .v undef, .v undef, .v undef, .v undef, .v undef, .v undef, .v undef, .v undef, .v undef], []⟩ rfl ?_
 repeat' first | (with_reducible first | refine zA ?_ | refine zB ?_ | refine zI ?_) | ((with_reducible refine zC fun KC J hJ hKC => ?_); simp (maxSteps := 9999999) only [push_cast, seval, ↓reduceIte]) | ((with_reducible refine hJ _ _ ?_); clear hJ hKC KC J)
 refine zBu 1 (γ := {i : Nat // i ≤ rows.length}) (fun i => ⟨[.any, .any, .ptr 0 0 0, .any, .any, eL (zBE (rows.take i.1)), .any, .any, .any, .any, .sl f 1 (zFf rows), .v (.int .i64 rows.length), .v (.int .i64 i.1), .any, .any, .any, .any, .any, .any, .any, .any, .any, .any, .any, .any, .any, .any, .any, .any, .any, .any, .any], lσ ⟨0, none, 159, zEW, .cells⟩ (zBE (rows.take i.1))⟩) (fun i => rows.length - i.1) ⟨0, by omega⟩ rfl (fun i => zLQ _ _) (fun i => zFU (fun m => rfl) _) (fun i => ?_) ⟨?_, ?_⟩ ?_
 ·rcases zCA ⟨0, none, 159, zEW, .cells⟩ (zBE (rows.take i.1)) with ⟨_, hD, hσ⟩ | ⟨j, _, hD, hσ⟩
  all_goals
   simp only [hD, hσ]
   rfl
 ·simp only [List.take_zero, zBE, List.flatMap_nil, List.map_nil, eL]
  exact Lq
 ·simp only [List.take_zero, zBE, List.flatMap_nil, List.map_nil, lσ]
  exact Fq
 rintro ⟨i, hi⟩
 by_cases hlt : (i : Int) < (rows.length : Int)
 ·have hx : rows[i]? = some rows[i] := List.getElem?_eq_getElem (by omega)
  obtain ⟨r, hr0⟩ : ∃ r, rows[i] = r := ⟨_, rfl⟩
  rw [hr0] at hx
  have hrn : r.2.length ≤ 1000 := by rw [← hr0]; exact hrl _ (List.getElem_mem (by omega))
  have hst := zJK hx
  have hbd := zPX hx
  obtain ⟨L0, hL0⟩ : ∃ L0, zBE (rows.take i) = L0 := ⟨_, rfl⟩
  rw [hL0] at hst
  simp only [hL0] at hbd ⊢
  rcases zCA ⟨0, none, 159, zEW, .cells⟩ L0 with ⟨hL, hD, hσ⟩ | ⟨q, hL, hD, hσ⟩
  all_goals
   repeat' first | (with_reducible first | refine zA ?_ | refine zB ?_ | refine zJ ?_ | refine zI ?_) | ((with_reducible refine And.intro ?_ ?_); · exact Sq) | ((with_reducible refine zC fun KC J hJ hKC => ?_); simp (maxSteps := 9999999) only [push_cast, seval, ↓reduceIte, hlt, hD, hσ, zNs hx]) | ((with_reducible refine hJ _ _ ?_); clear hJ hKC KC J) | ((with_reducible refine zG ?_ ?_); · rfl)
   refine zBu (lσ ⟨0, none, 159, zEW, .cells⟩ L0).length (γ := {j : Nat // j ≤ r.2.length}) (fun j => ⟨[.any, .any, .ptr 0 0 0, .any, .any, eL (L0 ++ (r.2.take j.1).map (·.2)), .any, .any, .any, .any, .sl f 1 (zFf rows), .v (.int .i64 rows.length), .v (.int .i64 i), .any, .any, .any, .sl r.1 2 (za r.2), .v (.int .i64 r.2.length), .v (.int .i64 j.1), .any, .any, .any, .any, .any, .any, .any, .any, .any, .any, .any, .any, .any], lσ ⟨0, none, 159, zEW, .cells⟩ (L0 ++ (r.2.take j.1).map (·.2))⟩) (fun j => r.2.length - j.1) ⟨0, by omega⟩ (by simp) (fun j => zRe _ _ _) (fun j => zFU (fun m => rfl) _) (fun j => ?_) ⟨?_, ?_⟩ ?_
   ·rcases zCA ⟨0, none, 159, zEW, .cells⟩ (L0 ++ (r.2.take j.1).map (·.2)) with ⟨_, hD, hσ⟩ | ⟨j, _, hD, hσ⟩
    all_goals
     simp only [hD, hσ]
     rfl
   ·simp only [List.take_zero, List.map_nil, List.append_nil, hD]
    exact Lq
   ·simp only [List.take_zero, List.map_nil, List.append_nil, hσ]
    exact Fq
   clear hD hσ hL
   rintro ⟨j, hj⟩
   by_cases hlj : (j : Int) < (r.2.length : Int)
   ·have hy : r.2[j]? = some r.2[j] := List.getElem?_eq_getElem (by omega)
    obtain ⟨y, hy0⟩ : ∃ y, r.2[j] = y := ⟨_, rfl⟩
    rw [hy0] at hy
    have hL1 : L0 ++ (r.2.take (j + 1)).map (·.2) = (L0 ++ (r.2.take j).map (·.2)) ++ [y.2] := by
     rw [List.take_succ_eq_append_getElem (by omega), hy0]; simp
    have hbj := hbd (j + 1)
    rw [hL1, List.length_append] at hbj
    obtain ⟨L, hLL⟩ : ∃ L, L0 ++ (r.2.take j).map (·.2) = L := ⟨_, rfl⟩
    rw [hLL] at hL1 hbj
    simp only [hLL]
    obtain ⟨hD1, hσ1⟩ := zTx ⟨0, none, 159, zEW, .cells⟩ L y.2
    rcases zCA ⟨0, none, 159, zEW, .cells⟩ L with ⟨hL, hD, hσ⟩ | ⟨q, hL, hD, hσ⟩
    ·subst hL
     repeat' first | (with_reducible first | refine zA ?_ | refine zB ?_ | refine zP ?_ | refine zJ ?_ | refine zI ?_) | ((with_reducible refine And.intro ?_ ?_); · exact Sq) | ((first | with_reducible refine zC fun KC J hJ hKC => ?_ | (refine hKC _ _ _ _ _ (zD (zID y) rfl rfl rfl ?_ ?_); (· exact Lq))); simp (maxSteps := 9999999) only [push_cast, seval, ↓reduceIte, hlj, hD, hσ, zBh hy, zp (i := j) (n := r.2.length) (by omega) (by omega)]) | ((with_reducible refine hJ _ _ ?_); clear hJ hKC KC J) | ((with_reducible refine zG ?_ ?_); · rfl)
     refine ⟨⟨j + 1, by omega⟩, by simp only; omega, ?_, ?_⟩
     ·simp only [hL1, hD1]
      exact Lq
     ·simp only [hL1, hσ1]
      exact ⟨[_, _, _, _, _], _, rfl, .inr (.inl rfl), .inl rfl, .inl rfl, .inl rfl, .inr (.inl rfl), trivial⟩
    ·have hlC : (zt L).length = q + 1 := by rw [zAM, hL]
     have htC := zGY hlC
     have htC' : (zt L).take (q + 1) = zt L := List.take_of_length_le (by omega)
     have hbm : Nat.beq q q = true := Nat.beq_refl q
     rw [hL] at hD1 hσ1
     simp only [hL, List.length_cons, List.length_nil] at hbj
     repeat' first | (with_reducible first | refine zA ?_ | refine zB ?_ | refine zP ?_ | refine zJ ?_ | refine zI ?_) | ((with_reducible refine And.intro ?_ ?_); · exact Sq) | ((first | with_reducible refine zC fun KC J hJ hKC => ?_ | (refine hKC _ _ _ _ _ (zD (zID y) rfl rfl rfl ?_ ?_); (· exact Lq))); simp (maxSteps := 9999999) only [push_cast, seval, ↓reduceIte, hlj, hD, hσ, zBh hy, hlC, htC, htC', hbm, zp (i := j) (n := r.2.length) (by omega) (by omega)]) | ((with_reducible refine hJ _ _ ?_); clear hJ hKC KC J) | ((with_reducible refine zG ?_ ?_); · rfl)
     refine ⟨⟨j + 1, by omega⟩, by simp only; omega, ?_, ?_⟩
     ·simp only [hL1, hD1]
      exact Lq
     ·simp only [hL1, hσ1]
      exact ⟨[_, _, _, _, _], _, rfl, .inr (.inl rfl), .inl rfl, .inl rfl, .inl rfl, .inr (.inl rfl), trivial⟩
   ·have hjn : j = r.2.length := by omega
    subst hjn
    rw [List.take_length, ← hst]
    obtain ⟨L, hLL⟩ : ∃ L, zBE (rows.take (i + 1)) = L := ⟨_, rfl⟩
    rw [hLL]
    rcases zCA ⟨0, none, 159, zEW, .cells⟩ L with ⟨hL, hD, hσ⟩ | ⟨q, hL, hD, hσ⟩
    all_goals
     repeat' first | (with_reducible first | refine zA ?_ | refine zB ?_ | refine zm ?_ | refine zP ?_ | refine zl ?_ | refine zZ ?_) | ((with_reducible refine zC fun KC J hJ hKC => ?_); simp (maxSteps := 9999999) only [push_cast, seval, ↓reduceIte, hlj, hD, hσ, zp (i := i) (n := rows.length) (by omega) (by omega)]) | ((with_reducible refine hJ _ _ ?_); clear hJ hKC KC J) | ((with_reducible refine zH ?_ ?_); · rfl)
     refine ⟨⟨i + 1, by omega⟩, by simp only; omega, ?_, ?_⟩
     ·simp only [hLL, hD]
      exact Lq
     ·simp only [hLL, hσ]
      exact ⟨_, [], (List.append_nil _).symm, zAH _⟩
 ·have hin : i = rows.length := by omega
  subst hin
  rw [List.take_length]
  obtain ⟨L, hLL⟩ : ∃ L, zBE rows = L := ⟨_, rfl⟩
  rw [hLL]
  rcases zCA ⟨0, none, 159, zEW, .cells⟩ L with ⟨hL, hD, hσ⟩ | ⟨q, hL, hD, hσ⟩
  ·subst hL
   repeat' first | (with_reducible first | refine zA ?_ | refine zB ?_ | refine zm ?_ | refine zl ?_ | refine zF ?_ | refine zZ ?_) | ((with_reducible refine zC fun KC J hJ hKC => ?_); simp (maxSteps := 9999999) only [push_cast, seval, ↓reduceIte, hlt, hD, hσ]) | ((with_reducible refine hJ _ _ ?_); clear hJ hKC KC J) | ((with_reducible refine zH ?_ ?_); · rfl)
   refine zE ?_
   simp (maxSteps := 9999999) only [push_cast, seval, ↓reduceIte, show Tryz.f104.results = #[(.tmp 4)] from rfl]
   exact zK _
  ·have e1 : lD L = .ref 0 q (q + 1) := by unfold lD; rw [hL]; rfl
   have e2 : zFt L = [.ent ⟨q, some 1, 3, zt L, .cells⟩] := by unfold zFt; rw [hL]; rfl
   rw [e1, e2]
   repeat' first | (with_reducible first | refine zA ?_ | refine zB ?_ | refine zm ?_ | refine zl ?_ | refine zZ ?_) | ((with_reducible refine zC fun KC J hJ hKC => ?_); simp (maxSteps := 9999999) only [push_cast, seval, ↓reduceIte, hlt, hD, hσ]) | ((with_reducible refine hJ _ _ ?_); clear hJ hKC KC J) | ((with_reducible refine zH ?_ ?_); · rfl)
   refine zF ?_
   refine zCv [4] ?_ (by simp) ?_
   ·simp (maxSteps := 9999999) only [push_cast, seval, ↓reduceIte, show Tryz.f104.results = #[.tmp 4] from rfl, pick, mOf, idx, zL, zAE]
    exact zK _
   ·intro k hk
    exact absurd hk (by simp)
def zBB (rows : List (Bool × List (Int × Int × Int))) : List Int := (rows.flatMap (·.2)).map (·.2.2)
def zFh (rows : List (Bool × List (Int × Int × Int))) : List (List D) := rows.map fun r => [.sl r.1 3 (zo r.2)]
@[push_cast] theorem zSv (l : List (Bool × List (Int × Int × Int))) : (zFh l).length = l.length := by simp [zFh]
theorem zNl {l : List (Bool × List (Int × Int × Int))} {n : Nat} {x : Bool × List (Int × Int × Int)} (h : l[n]? = some x) : zFb (zFh l) n = [.sl x.1 3 (zo x.2)] := by unfold zFh; exact zBm _ _ _ _ h
abbrev zEO : List D := [.fn 199 [], .fn 200 [], .fn 201 []]
theorem zCV : Fn Tryz.prog 103 [] [] (.agg zEO) [] := by
 refine Fn.of (fn := Tryz.f103) (by kernel_rfl) rfl (by kernel_rfl) ⟨[.v undef, .v undef], []⟩ rfl ?_
 repeat' first | (with_reducible first | refine zA ?_ | refine zB ?_ | refine zF ?_) | ((with_reducible refine zC fun KC J hJ hKC => ?_); simp (maxSteps := 9999999) only [push_cast, seval, ↓reduceIte]) | ((with_reducible refine hJ _ _ ?_); clear hJ hKC KC J)
 refine zE ?_
 simp (maxSteps := 9999999) only [push_cast, seval, ↓reduceIte, show Tryz.f103.results = #[(.cell 0 153)] from rfl]
 exact Lq
theorem zHv (x : Int × Int × Int) : Fn Tryz.prog 200 [.agg [.v (.int .i64 x.1), .v (.int .i64 x.2.1), .v (.int .i64 x.2.2)]] [] (.v (.int .i64 x.2.2)) [] := by
 refine Fn.of (fn := Tryz.f200) (by kernel_rfl) rfl (by kernel_rfl) ⟨[.agg [.v (.int .i64 x.1), .v (.int .i64 x.2.1), .v (.int .i64 x.2.2)], .v undef, .v undef, .v undef, .v undef], []⟩ rfl ?_
 repeat' first | (with_reducible first | refine zA ?_ | refine zB ?_ | refine zF ?_) | ((with_reducible refine zC fun KC J hJ hKC => ?_); simp (maxSteps := 9999999) only [push_cast, seval, ↓reduceIte]) | ((with_reducible refine hJ _ _ ?_); clear hJ hKC KC J)
 refine zE ?_
 simp (maxSteps := 9999999) only [push_cast, seval, ↓reduceIte, show Tryz.f200.results = #[(.tmp 2)] from rfl]
 exact zK _
theorem zIQ {rows : List (Bool × List (Int × Int × Int))} {i : Nat} {x : Bool × List (Int × Int × Int)} (h : rows[i]? = some x) : zBB (rows.take (i + 1)) = zBB (rows.take i) ++ x.2.map (·.2.2) := by
 obtain ⟨hi, rfl⟩ := List.getElem?_eq_some_iff.1 h
 unfold zBB
 rw [List.take_succ_eq_append_getElem hi, List.flatMap_append, List.map_append]
 simp only [List.flatMap_cons, List.flatMap_nil, List.append_nil]
theorem zQO {rows : List (Bool × List (Int × Int × Int))} {i : Nat} {x : Bool × List (Int × Int × Int)} (h : rows[i]? = some x) (j : Nat) : (zBB (rows.take i) ++ (x.2.take j).map (·.2.2)).length ≤ (zBB rows).length := by
 have h1 : (zBB (rows.take (i + 1))).length ≤ (zBB rows).length := by
  have : zBB rows = zBB (rows.take (i + 1)) ++ zBB (rows.drop (i + 1)) := by
   rw [zBB, zBB, zBB, ← List.map_append, ← List.flatMap_append, List.take_append_drop]
  rw [this]; simp
 rw [zIQ h] at h1
 simp at h1 ⊢
 omega
set_option maxHeartbeats 4000000 in
theorem zOE (f : Bool) (rows : List (Bool × List (Int × Int × Int))) (hb : (zBB rows).length ≤ 1000) (hr : rows.length ≤ 1000) (hrl : ∀ r ∈ rows, r.2.length ≤ 1000) :
  Fn Tryz.prog 102 [.agg zEO, .sl f 1 (zFh rows)] [] (lD (zBB rows)) (zFt (zBB rows)) := by
 refine Fn.of (fn := Tryz.f102) (by kernel_rfl) rfl (by kernel_rfl) ⟨[.agg zEO, .sl f 1 (zFh rows), .v undef, .v undef, .v undef, .v undef, .v undef, .v undef, .v undef, .v undef, .v undef, .v undef, .v undef, .v undef, .v undef, .v undef, .v undef, .v undef, .v undef, .v undef, .v undef, .v undef, .v undef, .v undef, .v undef, .v undef, .v undef, .v undef, .v undef, .v undef, .v undef, .v undef], []⟩ rfl ?_
 repeat' first | (with_reducible first | refine zA ?_ | refine zB ?_ | refine zI ?_) | ((with_reducible refine zC fun KC J hJ hKC => ?_); simp (maxSteps := 9999999) only [push_cast, seval, ↓reduceIte]) | ((with_reducible refine hJ _ _ ?_); clear hJ hKC KC J)
 refine zBu 1 (γ := {i : Nat // i ≤ rows.length}) (fun i => ⟨[.any, .any, .ptr 0 0 0, .any, .any, eL (zBB (rows.take i.1)), .any, .any, .any, .any, .sl f 1 (zFh rows), .v (.int .i64 rows.length), .v (.int .i64 i.1), .any, .any, .any, .any, .any, .any, .any, .any, .any, .any, .any, .any, .any, .any, .any, .any, .any, .any, .any], lσ ⟨0, none, 153, zEO, .cells⟩ (zBB (rows.take i.1))⟩) (fun i => rows.length - i.1) ⟨0, by omega⟩ rfl (fun i => zLQ _ _) (fun i => zFU (fun m => rfl) _) (fun i => ?_) ⟨?_, ?_⟩ ?_
 ·rcases zCA ⟨0, none, 153, zEO, .cells⟩ (zBB (rows.take i.1)) with ⟨_, hD, hσ⟩ | ⟨j, _, hD, hσ⟩
  all_goals
   simp only [hD, hσ]
   rfl
 ·simp only [List.take_zero, zBB, List.flatMap_nil, List.map_nil, eL]
  exact Lq
 ·simp only [List.take_zero, zBB, List.flatMap_nil, List.map_nil, lσ]
  exact Fq
 rintro ⟨i, hi⟩
 by_cases hlt : (i : Int) < (rows.length : Int)
 ·have hx : rows[i]? = some rows[i] := List.getElem?_eq_getElem (by omega)
  obtain ⟨r, hr0⟩ : ∃ r, rows[i] = r := ⟨_, rfl⟩
  rw [hr0] at hx
  have hrn : r.2.length ≤ 1000 := by rw [← hr0]; exact hrl _ (List.getElem_mem (by omega))
  have hst := zIQ hx
  have hbd := zQO hx
  obtain ⟨L0, hL0⟩ : ∃ L0, zBB (rows.take i) = L0 := ⟨_, rfl⟩
  rw [hL0] at hst
  simp only [hL0] at hbd ⊢
  rcases zCA ⟨0, none, 153, zEO, .cells⟩ L0 with ⟨hL, hD, hσ⟩ | ⟨q, hL, hD, hσ⟩
  all_goals
   repeat' first | (with_reducible first | refine zA ?_ | refine zB ?_ | refine zJ ?_ | refine zI ?_) | ((with_reducible refine And.intro ?_ ?_); · exact Sq) | ((with_reducible refine zC fun KC J hJ hKC => ?_); simp (maxSteps := 9999999) only [push_cast, seval, ↓reduceIte, hlt, hD, hσ, zNl hx]) | ((with_reducible refine hJ _ _ ?_); clear hJ hKC KC J) | ((with_reducible refine zG ?_ ?_); · rfl)
   refine zBu (lσ ⟨0, none, 153, zEO, .cells⟩ L0).length (γ := {j : Nat // j ≤ r.2.length}) (fun j => ⟨[.any, .any, .ptr 0 0 0, .any, .any, eL (L0 ++ (r.2.take j.1).map (·.2.2)), .any, .any, .any, .any, .sl f 1 (zFh rows), .v (.int .i64 rows.length), .v (.int .i64 i), .any, .any, .any, .sl r.1 3 (zo r.2), .v (.int .i64 r.2.length), .v (.int .i64 j.1), .any, .any, .any, .any, .any, .any, .any, .any, .any, .any, .any, .any, .any], lσ ⟨0, none, 153, zEO, .cells⟩ (L0 ++ (r.2.take j.1).map (·.2.2))⟩) (fun j => r.2.length - j.1) ⟨0, by omega⟩ (by simp) (fun j => zRe _ _ _) (fun j => zFU (fun m => rfl) _) (fun j => ?_) ⟨?_, ?_⟩ ?_
   ·rcases zCA ⟨0, none, 153, zEO, .cells⟩ (L0 ++ (r.2.take j.1).map (·.2.2)) with ⟨_, hD, hσ⟩ | ⟨j, _, hD, hσ⟩
    all_goals
     simp only [hD, hσ]
     rfl
   ·simp only [List.take_zero, List.map_nil, List.append_nil, hD]
    exact Lq
   ·simp only [List.take_zero, List.map_nil, List.append_nil, hσ]
    exact Fq
   clear hD hσ hL
   rintro ⟨j, hj⟩
   by_cases hlj : (j : Int) < (r.2.length : Int)
   ·have hy : r.2[j]? = some r.2[j] := List.getElem?_eq_getElem (by omega)
    obtain ⟨y, hy0⟩ : ∃ y, r.2[j] = y := ⟨_, rfl⟩
    rw [hy0] at hy
    have hL1 : L0 ++ (r.2.take (j + 1)).map (·.2.2) = (L0 ++ (r.2.take j).map (·.2.2)) ++ [y.2.2] := by
     rw [List.take_succ_eq_append_getElem (by omega), hy0]; simp
    have hbj := hbd (j + 1)
    rw [hL1, List.length_append] at hbj
    obtain ⟨L, hLL⟩ : ∃ L, L0 ++ (r.2.take j).map (·.2.2) = L := ⟨_, rfl⟩
    rw [hLL] at hL1 hbj
    simp only [hLL]
    obtain ⟨hD1, hσ1⟩ := zTx ⟨0, none, 153, zEO, .cells⟩ L y.2.2
    rcases zCA ⟨0, none, 153, zEO, .cells⟩ L with ⟨hL, hD, hσ⟩ | ⟨q, hL, hD, hσ⟩
    ·subst hL
     repeat' first | (with_reducible first | refine zA ?_ | refine zB ?_ | refine zP ?_ | refine zJ ?_ | refine zI ?_) | ((with_reducible refine And.intro ?_ ?_); · exact Sq) | ((first | with_reducible refine zC fun KC J hJ hKC => ?_ | (refine hKC _ _ _ _ _ (zD (zHv y) rfl rfl rfl ?_ ?_); (· exact Lq))); simp (maxSteps := 9999999) only [push_cast, seval, ↓reduceIte, hlj, hD, hσ, zCj hy, zp (i := j) (n := r.2.length) (by omega) (by omega)]) | ((with_reducible refine hJ _ _ ?_); clear hJ hKC KC J) | ((with_reducible refine zG ?_ ?_); · rfl)
     refine ⟨⟨j + 1, by omega⟩, by simp only; omega, ?_, ?_⟩
     ·simp only [hL1, hD1]
      exact Lq
     ·simp only [hL1, hσ1]
      exact ⟨[_, _, _, _, _], _, rfl, .inr (.inl rfl), .inl rfl, .inl rfl, .inl rfl, .inr (.inl rfl), trivial⟩
    ·have hlC : (zt L).length = q + 1 := by rw [zAM, hL]
     have htC := zGY hlC
     have htC' : (zt L).take (q + 1) = zt L := List.take_of_length_le (by omega)
     have hbm : Nat.beq q q = true := Nat.beq_refl q
     rw [hL] at hD1 hσ1
     simp only [hL, List.length_cons, List.length_nil] at hbj
     repeat' first | (with_reducible first | refine zA ?_ | refine zB ?_ | refine zP ?_ | refine zJ ?_ | refine zI ?_) | ((with_reducible refine And.intro ?_ ?_); · exact Sq) | ((first | with_reducible refine zC fun KC J hJ hKC => ?_ | (refine hKC _ _ _ _ _ (zD (zHv y) rfl rfl rfl ?_ ?_); (· exact Lq))); simp (maxSteps := 9999999) only [push_cast, seval, ↓reduceIte, hlj, hD, hσ, zCj hy, hlC, htC, htC', hbm, zp (i := j) (n := r.2.length) (by omega) (by omega)]) | ((with_reducible refine hJ _ _ ?_); clear hJ hKC KC J) | ((with_reducible refine zG ?_ ?_); · rfl)
     refine ⟨⟨j + 1, by omega⟩, by simp only; omega, ?_, ?_⟩
     ·simp only [hL1, hD1]
      exact Lq
     ·simp only [hL1, hσ1]
      exact ⟨[_, _, _, _, _], _, rfl, .inr (.inl rfl), .inl rfl, .inl rfl, .inl rfl, .inr (.inl rfl), trivial⟩
   ·have hjn : j = r.2.length := by omega
    subst hjn
    rw [List.take_length, ← hst]
    obtain ⟨L, hLL⟩ : ∃ L, zBB (rows.take (i + 1)) = L := ⟨_, rfl⟩
    rw [hLL]
    rcases zCA ⟨0, none, 153, zEO, .cells⟩ L with ⟨hL, hD, hσ⟩ | ⟨q, hL, hD, hσ⟩
    all_goals
     repeat' first | (with_reducible first | refine zA ?_ | refine zB ?_ | refine zm ?_ | refine zP ?_ | refine zl ?_ | refine zZ ?_) | ((with_reducible refine zC fun KC J hJ hKC => ?_); simp (maxSteps := 9999999) only [push_cast, seval, ↓reduceIte, hlj, hD, hσ, zp (i := i) (n := rows.length) (by omega) (by omega)]) | ((with_reducible refine hJ _ _ ?_); clear hJ hKC KC J) | ((with_reducible refine zH ?_ ?_); · rfl)
     refine ⟨⟨i + 1, by omega⟩, by simp only; omega, ?_, ?_⟩
     ·simp only [hLL, hD]
      exact Lq
     ·simp only [hLL, hσ]
      exact ⟨_, [], (List.append_nil _).symm, zAH _⟩
 ·have hin : i = rows.length := by omega
  subst hin
  rw [List.take_length]
  obtain ⟨L, hLL⟩ : ∃ L, zBB rows = L := ⟨_, rfl⟩
  rw [hLL]
  rcases zCA ⟨0, none, 153, zEO, .cells⟩ L with ⟨hL, hD, hσ⟩ | ⟨q, hL, hD, hσ⟩
  ·subst hL
   repeat' first | (with_reducible first | refine zA ?_ | refine zB ?_ | refine zm ?_ | refine zl ?_ | refine zF ?_ | refine zZ ?_) | ((with_reducible refine zC fun KC J hJ hKC => ?_); simp (maxSteps := 9999999) only [push_cast, seval, ↓reduceIte, hlt, hD, hσ]) | ((with_reducible refine hJ _ _ ?_); clear hJ hKC KC J) | ((with_reducible refine zH ?_ ?_); · rfl)
   refine zE ?_
   simp (maxSteps := 9999999) only [push_cast, seval, ↓reduceIte, show Tryz.f102.results = #[(.tmp 4)] from rfl]
   exact zK _
  ·have e1 : lD L = .ref 0 q (q + 1) := by unfold lD; rw [hL]; rfl
   have e2 : zFt L = [.ent ⟨q, some 1, 3, zt L, .cells⟩] := by unfold zFt; rw [hL]; rfl
   rw [e1, e2]
   repeat' first | (with_reducible first | refine zA ?_ | refine zB ?_ | refine zm ?_ | refine zl ?_ | refine zZ ?_) | ((with_reducible refine zC fun KC J hJ hKC => ?_); simp (maxSteps := 9999999) only [push_cast, seval, ↓reduceIte, hlt, hD, hσ]) | ((with_reducible refine hJ _ _ ?_); clear hJ hKC KC J) | ((with_reducible refine zH ?_ ?_); · rfl)
   refine zF ?_
   refine zCv [4] ?_ (by simp) ?_
   ·simp (maxSteps := 9999999) only [push_cast, seval, ↓reduceIte, show Tryz.f102.results = #[.tmp 4] from rfl, pick, mOf, idx, zL, zAE]
    exact zK _
   ·intro k hk
    exact absurd hk (by simp)
def zAv (rows : List (Bool × List (Bool × Int × Int))) : List Int := (rows.flatMap (·.2)).map (·.2.2)
def zFE (rows : List (Bool × List (Bool × Int × Int))) : List (List D) := rows.map fun r => [.sl r.1 3 (zg r.2)]
@[push_cast] theorem zTK (l : List (Bool × List (Bool × Int × Int))) : (zFE l).length = l.length := by simp [zFE]
theorem zNu {l : List (Bool × List (Bool × Int × Int))} {n : Nat} {x : Bool × List (Bool × Int × Int)} (h : l[n]? = some x) : zFb (zFE l) n = [.sl x.1 3 (zg x.2)] := by unfold zFE; exact zBm _ _ _ _ h
abbrev zES : List D := [.fn 205 [], .fn 206 [], .fn 207 []]
theorem zBW : Fn Tryz.prog 107 [] [] (.agg zES) [] := by
 refine Fn.of (fn := Tryz.f107) (by kernel_rfl) rfl (by kernel_rfl) ⟨[.v undef, .v undef], []⟩ rfl ?_
 repeat' first | (with_reducible first | refine zA ?_ | refine zB ?_ | refine zF ?_) | ((with_reducible refine zC fun KC J hJ hKC => ?_); simp (maxSteps := 9999999) only [push_cast, seval, ↓reduceIte]) | ((with_reducible refine hJ _ _ ?_); clear hJ hKC KC J)
 refine zE ?_
 simp (maxSteps := 9999999) only [push_cast, seval, ↓reduceIte, show Tryz.f107.results = #[(.cell 0 164)] from rfl]
 exact Lq
theorem zIC (x : Bool × Int × Int) : Fn Tryz.prog 206 [.agg [.v (.bool x.1), .v (.int .i64 x.2.1), .v (.int .i64 x.2.2)]] [] (.v (.int .i64 x.2.2)) [] := by
 refine Fn.of (fn := Tryz.f206) (by kernel_rfl) rfl (by kernel_rfl) ⟨[.agg [.v (.bool x.1), .v (.int .i64 x.2.1), .v (.int .i64 x.2.2)], .v undef, .v undef, .v undef, .v undef], []⟩ rfl ?_
 repeat' first | (with_reducible first | refine zA ?_ | refine zB ?_ | refine zF ?_) | ((with_reducible refine zC fun KC J hJ hKC => ?_); simp (maxSteps := 9999999) only [push_cast, seval, ↓reduceIte]) | ((with_reducible refine hJ _ _ ?_); clear hJ hKC KC J)
 refine zE ?_
 simp (maxSteps := 9999999) only [push_cast, seval, ↓reduceIte, show Tryz.f206.results = #[(.tmp 2)] from rfl]
 exact zK _
theorem zJT {rows : List (Bool × List (Bool × Int × Int))} {i : Nat} {x : Bool × List (Bool × Int × Int)} (h : rows[i]? = some x) : zAv (rows.take (i + 1)) = zAv (rows.take i) ++ x.2.map (·.2.2) := by
 obtain ⟨hi, rfl⟩ := List.getElem?_eq_some_iff.1 h
 unfold zAv
 rw [List.take_succ_eq_append_getElem hi, List.flatMap_append, List.map_append]
 simp only [List.flatMap_cons, List.flatMap_nil, List.append_nil]
theorem zPy {rows : List (Bool × List (Bool × Int × Int))} {i : Nat} {x : Bool × List (Bool × Int × Int)} (h : rows[i]? = some x) (j : Nat) : (zAv (rows.take i) ++ (x.2.take j).map (·.2.2)).length ≤ (zAv rows).length := by
 have h1 : (zAv (rows.take (i + 1))).length ≤ (zAv rows).length := by
  have : zAv rows = zAv (rows.take (i + 1)) ++ zAv (rows.drop (i + 1)) := by
   rw [zAv, zAv, zAv, ← List.map_append, ← List.flatMap_append, List.take_append_drop]
  rw [this]; simp
 rw [zJT h] at h1
 simp at h1 ⊢
 omega
set_option maxHeartbeats 4000000 in
theorem zIv (f : Bool) (rows : List (Bool × List (Bool × Int × Int))) (hb : (zAv rows).length ≤ 1000) (hr : rows.length ≤ 1000) (hrl : ∀ r ∈ rows, r.2.length ≤ 1000) :
  Fn Tryz.prog 106 [.agg zES, .sl f 1 (zFE rows)] [] (lD (zAv rows)) (zFt (zAv rows)) := by
 refine Fn.of (fn := Tryz.f106) (by kernel_rfl) rfl (by kernel_rfl) ⟨[.agg zES, .sl f 1 (zFE rows), .v undef, .v undef, .v undef, .v undef, .v undef, .v undef, .v undef, .v undef, .v undef, .v undef, .v undef, .v undef, .v undef, .v undef, .v undef, .v undef, .v undef, .v undef, .v undef, .v undef, .v undef, .v undef, .v undef, .v undef, .v undef, .v undef, .v undef, .v undef, .v undef, .v undef], []⟩ rfl ?_
 repeat' first | (with_reducible first | refine zA ?_ | refine zB ?_ | refine zI ?_) | ((with_reducible refine zC fun KC J hJ hKC => ?_); simp (maxSteps := 9999999) only [push_cast, seval, ↓reduceIte]) | ((with_reducible refine hJ _ _ ?_); clear hJ hKC KC J)
 refine zBu 1 (γ := {i : Nat // i ≤ rows.length}) (fun i => ⟨[.any, .any, .ptr 0 0 0, .any, .any, eL (zAv (rows.take i.1)), .any, .any, .any, .any, .sl f 1 (zFE rows), .v (.int .i64 rows.length), .v (.int .i64 i.1), .any, .any, .any, .any, .any, .any, .any, .any, .any, .any, .any, .any, .any, .any, .any, .any, .any, .any, .any], lσ ⟨0, none, 164, zES, .cells⟩ (zAv (rows.take i.1))⟩) (fun i => rows.length - i.1) ⟨0, by omega⟩ rfl (fun i => zLQ _ _) (fun i => zFU (fun m => rfl) _) (fun i => ?_) ⟨?_, ?_⟩ ?_
 ·rcases zCA ⟨0, none, 164, zES, .cells⟩ (zAv (rows.take i.1)) with ⟨_, hD, hσ⟩ | ⟨j, _, hD, hσ⟩
  all_goals
   simp only [hD, hσ]
   rfl
 ·simp only [List.take_zero, zAv, List.flatMap_nil, List.map_nil, eL]
  exact Lq
 ·simp only [List.take_zero, zAv, List.flatMap_nil, List.map_nil, lσ]
  exact Fq
 rintro ⟨i, hi⟩
 by_cases hlt : (i : Int) < (rows.length : Int)
 ·have hx : rows[i]? = some rows[i] := List.getElem?_eq_getElem (by omega)
  obtain ⟨r, hr0⟩ : ∃ r, rows[i] = r := ⟨_, rfl⟩
  rw [hr0] at hx
  have hrn : r.2.length ≤ 1000 := by rw [← hr0]; exact hrl _ (List.getElem_mem (by omega))
  have hst := zJT hx
  have hbd := zPy hx
  obtain ⟨L0, hL0⟩ : ∃ L0, zAv (rows.take i) = L0 := ⟨_, rfl⟩
  rw [hL0] at hst
  simp only [hL0] at hbd ⊢
  rcases zCA ⟨0, none, 164, zES, .cells⟩ L0 with ⟨hL, hD, hσ⟩ | ⟨q, hL, hD, hσ⟩
  all_goals
   repeat' first | (with_reducible first | refine zA ?_ | refine zB ?_ | refine zJ ?_ | refine zI ?_) | ((with_reducible refine And.intro ?_ ?_); · exact Sq) | ((with_reducible refine zC fun KC J hJ hKC => ?_); simp (maxSteps := 9999999) only [push_cast, seval, ↓reduceIte, hlt, hD, hσ, zNu hx]) | ((with_reducible refine hJ _ _ ?_); clear hJ hKC KC J) | ((with_reducible refine zG ?_ ?_); · rfl)
   refine zBu (lσ ⟨0, none, 164, zES, .cells⟩ L0).length (γ := {j : Nat // j ≤ r.2.length}) (fun j => ⟨[.any, .any, .ptr 0 0 0, .any, .any, eL (L0 ++ (r.2.take j.1).map (·.2.2)), .any, .any, .any, .any, .sl f 1 (zFE rows), .v (.int .i64 rows.length), .v (.int .i64 i), .any, .any, .any, .sl r.1 3 (zg r.2), .v (.int .i64 r.2.length), .v (.int .i64 j.1), .any, .any, .any, .any, .any, .any, .any, .any, .any, .any, .any, .any, .any], lσ ⟨0, none, 164, zES, .cells⟩ (L0 ++ (r.2.take j.1).map (·.2.2))⟩) (fun j => r.2.length - j.1) ⟨0, by omega⟩ (by simp) (fun j => zRe _ _ _) (fun j => zFU (fun m => rfl) _) (fun j => ?_) ⟨?_, ?_⟩ ?_
   ·rcases zCA ⟨0, none, 164, zES, .cells⟩ (L0 ++ (r.2.take j.1).map (·.2.2)) with ⟨_, hD, hσ⟩ | ⟨j, _, hD, hσ⟩
    all_goals
     simp only [hD, hσ]
     rfl
   ·simp only [List.take_zero, List.map_nil, List.append_nil, hD]
    exact Lq
   ·simp only [List.take_zero, List.map_nil, List.append_nil, hσ]
    exact Fq
   clear hD hσ hL
   rintro ⟨j, hj⟩
   by_cases hlj : (j : Int) < (r.2.length : Int)
   ·have hy : r.2[j]? = some r.2[j] := List.getElem?_eq_getElem (by omega)
    obtain ⟨y, hy0⟩ : ∃ y, r.2[j] = y := ⟨_, rfl⟩
    rw [hy0] at hy
    have hL1 : L0 ++ (r.2.take (j + 1)).map (·.2.2) = (L0 ++ (r.2.take j).map (·.2.2)) ++ [y.2.2] := by
     rw [List.take_succ_eq_append_getElem (by omega), hy0]; simp
    have hbj := hbd (j + 1)
    rw [hL1, List.length_append] at hbj
    obtain ⟨L, hLL⟩ : ∃ L, L0 ++ (r.2.take j).map (·.2.2) = L := ⟨_, rfl⟩
    rw [hLL] at hL1 hbj
    simp only [hLL]
    obtain ⟨hD1, hσ1⟩ := zTx ⟨0, none, 164, zES, .cells⟩ L y.2.2
    rcases zCA ⟨0, none, 164, zES, .cells⟩ L with ⟨hL, hD, hσ⟩ | ⟨q, hL, hD, hσ⟩
    ·subst hL
     repeat' first | (with_reducible first | refine zA ?_ | refine zB ?_ | refine zP ?_ | refine zJ ?_ | refine zI ?_) | ((with_reducible refine And.intro ?_ ?_); · exact Sq) | ((first | with_reducible refine zC fun KC J hJ hKC => ?_ | (refine hKC _ _ _ _ _ (zD (zIC y) rfl rfl rfl ?_ ?_); (· exact Lq))); simp (maxSteps := 9999999) only [push_cast, seval, ↓reduceIte, hlj, hD, hσ, zBi hy, zp (i := j) (n := r.2.length) (by omega) (by omega)]) | ((with_reducible refine hJ _ _ ?_); clear hJ hKC KC J) | ((with_reducible refine zG ?_ ?_); · rfl)
     refine ⟨⟨j + 1, by omega⟩, by simp only; omega, ?_, ?_⟩
     ·simp only [hL1, hD1]
      exact Lq
     ·simp only [hL1, hσ1]
      exact ⟨[_, _, _, _, _], _, rfl, .inr (.inl rfl), .inl rfl, .inl rfl, .inl rfl, .inr (.inl rfl), trivial⟩
    ·have hlC : (zt L).length = q + 1 := by rw [zAM, hL]
     have htC := zGY hlC
     have htC' : (zt L).take (q + 1) = zt L := List.take_of_length_le (by omega)
     have hbm : Nat.beq q q = true := Nat.beq_refl q
     rw [hL] at hD1 hσ1
     simp only [hL, List.length_cons, List.length_nil] at hbj
     repeat' first | (with_reducible first | refine zA ?_ | refine zB ?_ | refine zP ?_ | refine zJ ?_ | refine zI ?_) | ((with_reducible refine And.intro ?_ ?_); · exact Sq) | ((first | with_reducible refine zC fun KC J hJ hKC => ?_ | (refine hKC _ _ _ _ _ (zD (zIC y) rfl rfl rfl ?_ ?_); (· exact Lq))); simp (maxSteps := 9999999) only [push_cast, seval, ↓reduceIte, hlj, hD, hσ, zBi hy, hlC, htC, htC', hbm, zp (i := j) (n := r.2.length) (by omega) (by omega)]) | ((with_reducible refine hJ _ _ ?_); clear hJ hKC KC J) | ((with_reducible refine zG ?_ ?_); · rfl)
     refine ⟨⟨j + 1, by omega⟩, by simp only; omega, ?_, ?_⟩
     ·simp only [hL1, hD1]
      exact Lq
     ·simp only [hL1, hσ1]
      exact ⟨[_, _, _, _, _], _, rfl, .inr (.inl rfl), .inl rfl, .inl rfl, .inl rfl, .inr (.inl rfl), trivial⟩
   ·have hjn : j = r.2.length := by omega
    subst hjn
    rw [List.take_length, ← hst]
    obtain ⟨L, hLL⟩ : ∃ L, zAv (rows.take (i + 1)) = L := ⟨_, rfl⟩
    rw [hLL]
    rcases zCA ⟨0, none, 164, zES, .cells⟩ L with ⟨hL, hD, hσ⟩ | ⟨q, hL, hD, hσ⟩
    all_goals
     repeat' first | (with_reducible first | refine zA ?_ | refine zB ?_ | refine zm ?_ | refine zP ?_ | refine zl ?_ | refine zZ ?_) | ((with_reducible refine zC fun KC J hJ hKC => ?_); simp (maxSteps := 9999999) only [push_cast, seval, ↓reduceIte, hlj, hD, hσ, zp (i := i) (n := rows.length) (by omega) (by omega)]) | ((with_reducible refine hJ _ _ ?_); clear hJ hKC KC J) | ((with_reducible refine zH ?_ ?_); · rfl)
     refine ⟨⟨i + 1, by omega⟩, by simp only; omega, ?_, ?_⟩
     ·simp only [hLL, hD]
      exact Lq
     ·simp only [hLL, hσ]
      exact ⟨_, [], (List.append_nil _).symm, zAH _⟩
 ·have hin : i = rows.length := by omega
  subst hin
  rw [List.take_length]
  obtain ⟨L, hLL⟩ : ∃ L, zAv rows = L := ⟨_, rfl⟩
  rw [hLL]
  rcases zCA ⟨0, none, 164, zES, .cells⟩ L with ⟨hL, hD, hσ⟩ | ⟨q, hL, hD, hσ⟩
  ·subst hL
   repeat' first | (with_reducible first | refine zA ?_ | refine zB ?_ | refine zm ?_ | refine zl ?_ | refine zF ?_ | refine zZ ?_) | ((with_reducible refine zC fun KC J hJ hKC => ?_); simp (maxSteps := 9999999) only [push_cast, seval, ↓reduceIte, hlt, hD, hσ]) | ((with_reducible refine hJ _ _ ?_); clear hJ hKC KC J) | ((with_reducible refine zH ?_ ?_); · rfl)
   refine zE ?_
   simp (maxSteps := 9999999) only [push_cast, seval, ↓reduceIte, show Tryz.f106.results = #[(.tmp 4)] from rfl]
   exact zK _
  ·have e1 : lD L = .ref 0 q (q + 1) := by unfold lD; rw [hL]; rfl
   have e2 : zFt L = [.ent ⟨q, some 1, 3, zt L, .cells⟩] := by unfold zFt; rw [hL]; rfl
   rw [e1, e2]
   repeat' first | (with_reducible first | refine zA ?_ | refine zB ?_ | refine zm ?_ | refine zl ?_ | refine zZ ?_) | ((with_reducible refine zC fun KC J hJ hKC => ?_); simp (maxSteps := 9999999) only [push_cast, seval, ↓reduceIte, hlt, hD, hσ]) | ((with_reducible refine hJ _ _ ?_); clear hJ hKC KC J) | ((with_reducible refine zH ?_ ?_); · rfl)
   refine zF ?_
   refine zCv [4] ?_ (by simp) ?_
   ·simp (maxSteps := 9999999) only [push_cast, seval, ↓reduceIte, show Tryz.f106.results = #[.tmp 4] from rfl, pick, mOf, idx, zL, zAE]
    exact zK _
   ·intro k hk
    exact absurd hk (by simp)
theorem Fn.frozen {P : Program} {f : Nat} {args : List D} {res : D} {e : Ent} (h : Fn P f args [] res [.ent e]) (hk : zEn [.ent e] 0 = .ent e) (hf : zAc e.cells = true) :
  Fn P f args [] (ren (mOf []) (fr3 0 e.gen (zn e) e.cells res)) [] where
 spec := fun N0 ρ w vs hp hs hr => by
  refine Calls.mono (h.spec N0 ρ w vs hp hs hr) ?_
  rintro x w' ⟨v, ρ', rfl, hp', hv⟩
  have R : Rel (zAd w N0 [] ρ) ⟨[res], [.ent e]⟩ ⟨#[v], []⟩ w' := ⟨ρ', hp', ⟨rfl, fun t d hd => by
   cases t with
   | zero => simp only [List.getElem?_cons_zero, Option.some.injEq] at hd; subst hd; exact ⟨v, rfl, hv⟩
   | succ t => simp at hd⟩, ⟨[], rfl, List.nodup_nil, fun D hD => by cases hD⟩⟩
  obtain ⟨ρ2, hp2, ⟨_, hr2⟩, _⟩ := (R.freeze (k := 0) hk hf).pick (ks := []) List.nodup_nil (fun k g hu => by
   obtain ⟨s, hs, _⟩ := hu
   simp [zAd] at hs)
  obtain ⟨u, hu, hrep⟩ := hr2 0 _ rfl
  simp only [List.getElem?_toArray, List.getElem?_cons_zero, Option.some.injEq] at hu
  subst hu
  exact ⟨v, ρ2, rfl, hp2, hrep⟩
 enter := h.enter
theorem Fn.leR {P : Program} {f : Nat} {args : List D} {ext out : List Slot} {res res' : D} (h : Fn P f args ext res out) (hl : leD res res') : Fn P f args ext res' out where
 spec := fun N0 ρ w vs hp hs hr => by
  refine Calls.mono (h.spec N0 ρ w vs hp hs hr) ?_
  rintro x w' ⟨v, ρ', rfl, hp', hv⟩
  exact ⟨v, ρ', rfl, hp', hl.rep hv⟩
 enter := h.enter
theorem Fn.labs {P : Program} {f : Nat} {args : List D} {L : List Int} (h : Fn P f args [] (lD L) (zFt L)) : Fn P f args [] (.sl false 1 (zM L)) [] := by
 rcases Nat.eq_zero_or_pos L.length with h0 | h0
 ·have hL : L = [] := List.eq_nil_of_length_eq_zero h0
  subst hL
  exact Fn.leR h zLR
 ·obtain ⟨q, hq⟩ : ∃ q, L.length = q + 1 := ⟨L.length - 1, by omega⟩
  have e1 : lD L = .ref 0 q (q + 1) := by unfold lD; rw [hq]; rfl
  have e2 : zFt L = [.ent ⟨q, some 1, 3, zt L, .cells⟩] := by unfold zFt; rw [hq]; rfl
  rw [e1, e2] at h
  have hfz := h.frozen rfl (zPx L)
  have hlC : (zt L).length = q + 1 := by rw [zAM, hq]
  have hbm : Nat.beq q q = true := Nat.beq_refl q
  have hcI : zAh 1 (q + 1) (zt L) = zM L := by rw [← hq]; exact zFW L
  have e3 : fr3 0 q 1 (zt L) (.ref 0 q (q + 1)) = .sl false 1 (zM L) := by
   have hsb : zq 0 q 0 q = true := hbm
   have hbl : Nat.ble (q + 1) (q + 1) = true := by rw [Nat.ble_eq]; exact Nat.le_refl _
   simp only [fr3, fr2, fr1, fr0, hsb, Nat.mul_one, hlC, hbl, hcI]
  have e4 : zn ⟨q, some 1, 3, zt L, .cells⟩ = 1 := rfl
  rw [e4] at hfz
  simp only at hfz
  rw [e3] at hfz
  exact hfz
theorem zMI (f : Bool) (rows : List (Bool × List (Int × Int))) (hb : (zBE rows).length ≤ 1000) (hr : rows.length ≤ 1000) (hrl : ∀ r ∈ rows, r.2.length ≤ 1000) : Fn (Tryz.prog) 104 [.agg zEW, .sl f 1 (zFf rows)] [] (.sl false 1 (zM (zBE rows))) [] := (zNJ f rows hb hr hrl).labs
theorem zNC (f : Bool) (rows : List (Bool × List (Int × Int × Int))) (hb : (zBB rows).length ≤ 1000) (hr : rows.length ≤ 1000) (hrl : ∀ r ∈ rows, r.2.length ≤ 1000) : Fn (Tryz.prog) 102 [.agg zEO, .sl f 1 (zFh rows)] [] (.sl false 1 (zM (zBB rows))) [] := (zOE f rows hb hr hrl).labs
theorem zMR (f : Bool) (rows : List (Bool × List (Bool × Int × Int))) (hb : (zAv rows).length ≤ 1000) (hr : rows.length ≤ 1000) (hrl : ∀ r ∈ rows, r.2.length ≤ 1000) : Fn (Tryz.prog) 106 [.agg zES, .sl f 1 (zFE rows)] [] (.sl false 1 (zM (zAv rows))) [] := (zIv f rows hb hr hrl).labs
theorem zTN (n : Nat) (h0 : 0 < n) (hn : n ≤ 10000) : Fn Tryz.prog 91 [.v (.slice none 0 0), .v (.int .i64 (n : Int))] [] (.ref 0 0 0) [.ent ⟨0, some 1, 3, [], .cells⟩] := by
 have h1 : decide ((n : Int) < 0) = false := decide_eq_false (by omega)
 have h2 : IntKind.i64.wrap ((n : Int) - 0) = n := by rw [IntKind.wrap_i64]; omega
 have h3 : decide ((0 : Int) < n) = true := decide_eq_true (by omega)
 refine Fn.of (fn := Tryz.f91) (by kernel_rfl) rfl (by kernel_rfl) ⟨[.v (.slice none 0 0), .v (.int .i64 (n : Int)), .v undef, .v undef, .v undef, .v undef, .v undef, .v undef, .v undef, .v undef, .v undef, .v undef, .v undef, .v undef, .v undef, .v undef, .v undef, .v undef, .v undef, .v undef, .v undef, .v undef, .v undef, .v undef, .v undef, .v undef, .v undef], []⟩ rfl ?_
 have h4 : IntKind.i64.wrap 0 = 0 := by rw [IntKind.wrap_i64]; rfl
 repeat' first | (with_reducible first | refine zA ?_ | refine zB ?_ | refine zJ ?_) | ((with_reducible refine And.intro ?_ ?_); · exact Sq) | ((with_reducible refine zC fun KC J hJ hKC => ?_); simp (maxSteps := 9999999) only [push_cast, seval, ↓reduceIte, h1, h2, h3, h4]) | ((with_reducible refine hJ _ _ ?_); clear hJ hKC KC J) | ((with_reducible refine zG ?_ ?_); · rfl) | ((with_reducible refine zH ?_ ?_); · rfl)
 refine zF ?_
 refine zCv [0] ?_ (by simp) ?_
 ·simp (maxSteps := 9999999) only [push_cast, seval, ↓reduceIte, show Tryz.f91.results = #[.tmp 4] from rfl, pick, mOf, idx, zL]
  exact zK _
 ·intro k hk
  exact absurd hk (by simp)
def zEj (l : List (Bool × List Int)) : List (List D) := l.map fun r => [.sl r.1 1 (zM r.2)]
def zBA (l : List (Bool × List Int)) : List Int := l.flatMap (·.2)
@[push_cast] theorem zSx (l : List (Bool × List Int)) : (zEj l).length = l.length := by simp [zEj]
theorem zFr {l : List (Bool × List Int)} {n : Nat} {x : Bool × List Int} (h : l[n]? = some x) : zFb (zEj l) n = [.sl x.1 1 (zM x.2)] := by unfold zEj; exact zBm _ _ _ _ h
theorem zIR {l : List (Bool × List Int)} {i : Nat} {x : Bool × List Int} (h : l[i]? = some x) : zBA (l.take (i + 1)) = zBA (l.take i) ++ x.2 := by
 obtain ⟨hi, rfl⟩ := List.getElem?_eq_some_iff.1 h
 unfold zBA
 rw [List.take_succ_eq_append_getElem hi, List.flatMap_append]
 simp only [List.flatMap_cons, List.flatMap_nil, List.append_nil]
theorem zMo (l : List (Bool × List Int)) (i : Nat) : (zBA (l.take i)).length ≤ (zBA l).length := by
 have : zBA l = zBA (l.take i) ++ zBA (l.drop i) := by
  rw [zBA, zBA, zBA, ← List.flatMap_append, List.take_append_drop]
 rw [this]; simp
theorem zOH : zM [] = [] := rfl
theorem zJx (a : Int) (l : List Int) : zCh (zM (a :: l)) = false := rfl
theorem zLA (l : List Int) : (zM l).flatten = zt l := zCc l
set_option maxHeartbeats 4000000 in
theorem zKd (f : Bool) (rows : List (Bool × List Int)) (h0 : 0 < (zBA rows).length) (hb : (zBA rows).length ≤ 1000) (hr : rows.length ≤ 1000) :
  Fn Tryz.prog 43 [.sl f 1 (zEj rows)] [] (.sl false 1 (zM (zBA rows))) [] := by
 refine Fn.of (fn := Tryz.f43) (by kernel_rfl) rfl (by kernel_rfl) ⟨[.sl f 1 (zEj rows), .v undef, .v undef, .v undef, .v undef, .v undef, .v undef, .v undef, .v undef, .v undef, .v undef, .v undef, .v undef, .v undef, .v undef, .v undef, .v undef, .v undef, .v undef, .v undef, .v undef, .v undef, .v undef, .v undef, .v undef, .v undef, .v undef, .v undef, .v undef, .v undef, .v undef, .v undef, .v undef, .v undef, .v undef, .v undef], []⟩ rfl ?_
 repeat' first | (with_reducible first | refine zA ?_ | refine zB ?_ | refine zI ?_) | ((with_reducible refine zC fun KC J hJ hKC => ?_); simp (maxSteps := 9999999) only [push_cast, seval, ↓reduceIte]) | ((with_reducible refine hJ _ _ ?_); clear hJ hKC KC J)
 refine zw 0 (γ := {i : Nat // i ≤ rows.length}) (fun i => ⟨[.sl f 1 (zEj rows), .any, .v (.slice none 0 0), .v (.int .i64 (zBA (rows.take i.1)).length), .any, .any, .any, .any, .any, .sl f 1 (zEj rows), .v (.int .i64 rows.length), .v (.int .i64 i.1), .any, .any, .any, .any, .any, .any, .any, .any, .any, .any, .any, .any, .any, .any, .any, .any, .any, .any, .any, .any, .any, .any, .any, .any], []⟩) (fun i => rows.length - i.1) ⟨0, by omega⟩ (fun i => rfl) (fun i => rfl) (fun i => rfl) ⟨?_, Fq⟩ ?_
 ·simp only [List.take_zero, zBA, List.flatMap_nil, List.length_nil]
  exact Lq
 rintro ⟨i, hi⟩
 by_cases hlt : (i : Int) < (rows.length : Int)
 ·have hx : rows[i]? = some rows[i] := List.getElem?_eq_getElem (by omega)
  obtain ⟨r, hr0⟩ : ∃ r, rows[i] = r := ⟨_, rfl⟩
  rw [hr0] at hx
  have hst := zIR hx
  have hbd := zMo rows (i + 1)
  rw [hst, List.length_append] at hbd
  obtain ⟨n, hn⟩ : ∃ n, (zBA (rows.take i)).length = n := ⟨_, rfl⟩
  rw [hn] at hbd
  have hw : IntKind.i64.wrap ((n : Int) + (r.2.length : Int)) = ((n + r.2.length : Nat) : Int) := by rw [IntKind.wrap_i64]; omega
  have hn0 : decide (((n + r.2.length : Nat) : Int) < 0) = false := decide_eq_false (by omega)
  simp only [hn]
  repeat' first | (with_reducible first | refine zA ?_ | refine zB ?_ | refine zP ?_ | refine zJ ?_ | refine zI ?_) | ((with_reducible refine And.intro ?_ ?_); · exact Sq) | ((with_reducible refine zC fun KC J hJ hKC => ?_); simp (maxSteps := 9999999) only [push_cast, seval, ↓reduceIte, hlt, zFr hx, hw, hn0, zp (i := i) (n := rows.length) (by omega) (by omega)]) | ((with_reducible refine hJ _ _ ?_); clear hJ hKC KC J) | ((with_reducible refine zG ?_ ?_); · rfl) | ((with_reducible refine zH ?_ ?_); · rfl)
  refine ⟨⟨i + 1, by omega⟩, by simp only; omega, ?_, ⟨_, rfl⟩⟩
  simp only [hst, List.length_append, hn]
  exact Lq
 ·have hin : i = rows.length := by omega
  subst hin
  rw [List.take_length]
  have hg := zTN (zBA rows).length h0 (by omega)
  repeat' first | (with_reducible first | refine zA ?_ | refine zB ?_ | refine zm ?_ | refine zl ?_ | refine zZ ?_ | refine zI ?_) | ((first | with_reducible refine zC fun KC J hJ hKC => ?_ | (refine hKC _ _ _ _ _ (zBb [] hg rfl rfl rfl (by simp) (fun _ h => by cases h) rfl rfl rfl (zDg (zK _) (zDg (zK _) zCY)) ?_))); simp (maxSteps := 9999999) only [push_cast, seval, ↓reduceIte, hlt, zX, zN, zL, pick, mOf, idx]) | ((with_reducible refine hJ _ _ ?_); clear hJ hKC KC J) | ((with_reducible refine zH ?_ ?_); · rfl)
  refine zw 1 (γ := {p : Nat × Nat // p.1 ≤ rows.length}) (fun p => ⟨[.sl f 1 (zEj rows), .any, .v (.slice none 0 0), .v (.int .i64 (zBA rows).length), .any, .any, .ref 0 p.1.2 (zBA (rows.take p.1.1)).length, .any, .any, .any, .any, .any, .any, .any, .any, .any, .any, .any, .any, .any, .any, .any, .any, .any, .any, .sl f 1 (zEj rows), .v (.int .i64 rows.length), .v (.int .i64 p.1.1), .any, .any, .any, .any, .any, .any, .any, .any], [.ent ⟨p.1.2, some 1, 3, zt (zBA (rows.take p.1.1)), .cells⟩]⟩) (fun p => rows.length - p.1.1) ⟨(0, 0), by omega⟩ (fun p => rfl) (fun p => zAF (by simp only [List.map_cons, List.map_nil, zL, zAE])) (fun p => rfl) ⟨?_, ?_⟩ ?_
  ·simp only [List.take_zero, zBA, List.flatMap_nil, List.length_nil]
   exact Lq
  ·simp only [List.take_zero, zBA, List.flatMap_nil, zt, List.map_nil]
   exact Fq
  rintro ⟨⟨i, g⟩, hi⟩
  simp only at hi ⊢
  by_cases hlt : (i : Int) < (rows.length : Int)
  ·have hx : rows[i]? = some rows[i] := List.getElem?_eq_getElem (by omega)
   obtain ⟨r, hr0⟩ : ∃ r, rows[i] = r := ⟨_, rfl⟩
   rw [hr0] at hx
   have hst := zIR hx
   have hbd := zMo rows (i + 1)
   rw [hst, List.length_append] at hbd
   obtain ⟨L, hL⟩ : ∃ L, zBA (rows.take i) = L := ⟨_, rfl⟩
   rw [hL] at hbd hst ⊢
   have hlC := zAM L
   have htC : (zt L).take L.length = zt L := List.take_of_length_le (by omega)
   have hbm : Nat.beq g g = true := Nat.beq_refl g
   obtain ⟨fr, xr⟩ := r
   cases xr with
   | nil =>
    simp only [List.append_nil] at hst
    repeat' first | (with_reducible first | refine zA ?_ | refine zB ?_ | refine zP ?_ | refine zJ ?_ | refine zI ?_) | ((with_reducible refine And.intro ?_ ?_); · exact Sq) | ((with_reducible refine zC fun KC J hJ hKC => ?_); simp (maxSteps := 9999999) only [push_cast, seval, ↓reduceIte, hlt, zFr hx, zOH, hbm, hlC, htC, zp (i := i) (n := rows.length) (by omega) (by omega)]) | ((with_reducible refine hJ _ _ ?_); clear hJ hKC KC J) | ((with_reducible refine zG ?_ ?_); · rfl)
    refine ⟨⟨(i + 1, g), by omega⟩, by simp only; omega, ?_, ?_⟩
    ·simp only [hst]
     exact Lq
    ·simp only [hst]
     exact ⟨_, rfl⟩
   | cons a xr =>
    have hA := zEF L (a :: xr)
    rw [← zLA (a :: xr)] at hA
    simp only [List.length_cons] at hbd
    repeat' first | (with_reducible first | refine zA ?_ | refine zB ?_ | refine zP ?_ | refine zJ ?_ | refine zI ?_) | ((with_reducible refine And.intro ?_ ?_); · exact Sq) | ((with_reducible refine zC fun KC J hJ hKC => ?_); simp (maxSteps := 9999999) only [push_cast, seval, ↓reduceIte, hlt, zFr hx, zJx, hbm, hlC, htC, zp (i := i) (n := rows.length) (by omega) (by omega)]) | ((with_reducible refine hJ _ _ ?_); clear hJ hKC KC J) | ((with_reducible refine zG ?_ ?_); · rfl)
    refine ⟨⟨(i + 1, g + 1), by omega⟩, by simp only; omega, ?_, ?_⟩
    ·simp only [hst, List.length_append, List.length_cons]
     exact Lq
    ·simp only [hst, hA]
     exact ⟨_, rfl⟩
  ·have hin : i = rows.length := by omega
   subst hin
   rw [List.take_length]
   obtain ⟨L, hL⟩ : ∃ L, zBA rows = L := ⟨_, rfl⟩
   rw [hL] at hb ⊢
   have hlC := zAM L
   have hcI := zFW L
   have hbm : Nat.beq g g = true := Nat.beq_refl g
   repeat' first | (with_reducible first | refine zA ?_ | refine zB ?_ | refine zm ?_ | refine zl ?_ | refine zZ ?_) | ((with_reducible refine zC fun KC J hJ hKC => ?_); simp (maxSteps := 9999999) only [push_cast, seval, ↓reduceIte, hlt]) | ((with_reducible refine hJ _ _ ?_); clear hJ hKC KC J) | ((with_reducible refine zH ?_ ?_); · rfl)
   refine zAe 0 rfl (by simp (maxSteps := 9999999) only [push_cast, seval, ↓reduceIte]) ?_
   simp (maxSteps := 9999999) only [push_cast, seval, ↓reduceIte, zAK, zi, fr3, fr2, fr1, fr0, zq, zn, hbm, hlC, hcI]
   refine zF ?_
   refine zE ?_
   simp (maxSteps := 9999999) only [push_cast, seval, ↓reduceIte, show Tryz.f43.results = #[(.tmp 2)] from rfl]
   exact zK _
def zOy (x y : Bool × Int × Int) : Bool := (x.1 == y.1)
def zOt (x y : Bool × Int × Int) : Bool := (x.2.1 == y.2.1)
theorem zQn (x y : Bool × Int × Int) : Fn Tryz.prog 205 [.agg [.v (.bool x.1), .v (.int .i64 x.2.1), .v (.int .i64 x.2.2)], .agg [.v (.bool y.1), .v (.int .i64 y.2.1), .v (.int .i64 y.2.2)]] [] (.v (.bool (zOy x y))) [] := by
 refine Fn.of (fn := Tryz.f205) (by kernel_rfl) rfl (by kernel_rfl) ⟨[.agg [.v (.bool x.1), .v (.int .i64 x.2.1), .v (.int .i64 x.2.2)], .agg [.v (.bool y.1), .v (.int .i64 y.2.1), .v (.int .i64 y.2.2)], .v undef, .v undef, .v undef, .v undef, .v undef, .v undef, .v undef, .v undef], []⟩ rfl ?_
 repeat' first | (with_reducible first | refine zA ?_ | refine zB ?_ | refine zF ?_) | ((with_reducible refine zC fun KC J hJ hKC => ?_); simp (maxSteps := 9999999) only [push_cast, seval, ↓reduceIte]) | ((with_reducible refine hJ _ _ ?_); clear hJ hKC KC J)
 refine zE ?_
 simp (maxSteps := 9999999) only [push_cast, seval, ↓reduceIte, show Tryz.f205.results = #[(.tmp 4)] from rfl]
 exact zK _
theorem zQk (x y : Bool × Int × Int) : Fn Tryz.prog 207 [.agg [.v (.bool x.1), .v (.int .i64 x.2.1), .v (.int .i64 x.2.2)], .agg [.v (.bool y.1), .v (.int .i64 y.2.1), .v (.int .i64 y.2.2)]] [] (.v (.bool (zOt x y))) [] := by
 refine Fn.of (fn := Tryz.f207) (by kernel_rfl) rfl (by kernel_rfl) ⟨[.agg [.v (.bool x.1), .v (.int .i64 x.2.1), .v (.int .i64 x.2.2)], .agg [.v (.bool y.1), .v (.int .i64 y.2.1), .v (.int .i64 y.2.2)], .v undef, .v undef, .v undef, .v undef, .v undef, .v undef, .v undef, .v undef], []⟩ rfl ?_
 repeat' first | (with_reducible first | refine zA ?_ | refine zB ?_ | refine zF ?_) | ((with_reducible refine zC fun KC J hJ hKC => ?_); simp (maxSteps := 9999999) only [push_cast, seval, ↓reduceIte]) | ((with_reducible refine hJ _ _ ?_); clear hJ hKC KC J)
 refine zE ?_
 simp (maxSteps := 9999999) only [push_cast, seval, ↓reduceIte, show Tryz.f207.results = #[(.tmp 4)] from rfl]
 exact zK _
def alS (us : List Nat) (o : Nat) (x y : Bool × Int × Int) : Bool := zOy x y && (x.2.2 == y.2.2 && (!fl us x.2.2.toNat o || zOt x y))
theorem zNg (f g : Bool) (ns : List ByteArray) (us : List Nat) (o a : Nat) (x y : Bool × Int × Int) (hs : Szs ns) (hu : U32 us) (hc : zAA ns us = 0) (hx : x.2.2 = (a : Int)) (ha : a < us.length) (ho : o < us.length) :
  Fn Tryz.prog 219 [.agg [.v (.bool x.1), .v (.int .i64 x.2.1), .v (.int .i64 x.2.2)], .agg [.v (.bool y.1), .v (.int .i64 y.2.1), .v (.int .i64 y.2.2)], .fad zES, .fad [.sl f 1 (zS ns), .sl g 1 (zQ us), .v (.int .i64 (o : Int))]] [] (.v (.bool (alS us o x y))) [] := by
 have h1 := zQn x y
 have h2 := zIC x
 have h3 := zIC y
 have h4 := zQk x y
 have h5 := zBO f g ns us a o hs hu hc ha ho
 rw [hx] at h1 h2 h4
 obtain ⟨p, hp⟩ : ∃ p, zOy x y = p := ⟨_, rfl⟩
 obtain ⟨q, hq⟩ : ∃ q, ((a : Int) == y.2.2) = q := ⟨_, rfl⟩
 obtain ⟨z, hz⟩ : ∃ z, fl us a o = z := ⟨_, rfl⟩
 have hal : alS us o x y = (p && (q && (!z || zOt x y))) := by rw [alS, hp, hx, hq, Int.toNat_natCast, hz]
 rw [hal]
 rw [hp] at h1
 rw [hz] at h5
 rw [hx]
 refine Fn.of (fn := Tryz.f219) (by kernel_rfl) rfl (by kernel_rfl) ⟨[.agg [.v (.bool x.1), .v (.int .i64 x.2.1), .v (.int .i64 (a : Int))], .agg [.v (.bool y.1), .v (.int .i64 y.2.1), .v (.int .i64 y.2.2)], .fad zES, .fad [.sl f 1 (zS ns), .sl g 1 (zQ us), .v (.int .i64 (o : Int))], .v undef, .v undef, .v undef, .v undef, .v undef, .v undef, .v undef, .v undef, .v undef, .v undef, .v undef, .v undef, .v undef, .v undef, .v undef, .v undef, .v undef, .v undef, .v undef, .v undef, .v undef, .v undef, .v undef, .v undef, .v undef, .v undef, .v undef, .v undef, .v undef, .v undef, .v undef, .v undef, .v undef, .v undef, .v undef], []⟩ rfl ?_
 rcases p with _ | _
 rotate_left
 rcases q with _ | _
 rotate_left
 rcases z with _ | _
 all_goals
  repeat' first | (with_reducible first | refine zA ?_ | refine zB ?_ | refine zF ?_) | ((first | with_reducible refine zC fun KC J hJ hKC => ?_ | with_reducible refine zY rfl fun KC J hJ hKC => ?_ | (refine' hKC _ _ _ _ _ (zD (zBO _ _ _ _ _ _ ?_ ?_ ?_ ?_ ?_) rfl rfl rfl ?_ ?_); (rotate_left 11); (· exact Lq); (rotate_left 1); (iterate 5 (· exact Hq))) | (refine hKC _ _ _ _ _ (zD (h1) rfl rfl rfl ?_ ?_); (· exact Lq)) | (refine hKC _ _ _ _ _ (zD (h2) rfl rfl rfl ?_ ?_); (· exact Lq)) | (refine hKC _ _ _ _ _ (zD (h3) rfl rfl rfl ?_ ?_); (· exact Lq)) | (refine hKC _ _ _ _ _ (zD (h4) rfl rfl rfl ?_ ?_); (· exact Lq))); simp (maxSteps := 9999999) only [push_cast, seval, ↓reduceIte, hq, hz, undef]) | ((first | with_reducible refine hJ _ _ ?_ | (with_reducible refine hJ _ _ ?_ ?_; · kernel_rfl)); clear hJ hKC KC J)
  refine zE ?_
  simp (maxSteps := 9999999) only [push_cast, seval, ↓reduceIte, show Tryz.f219.results = #[(.tmp 6)] from rfl]
  exact zK _
def zCZ (p : Bool × Int × Int → Bool × Int × Int → Bool) : List (Bool × Int × Int) → List (Bool × Int × Int) → Bool
 | [], [] => true
 | x :: xs, y :: ys => p x y && zCZ p xs ys
 | _, _ => false
theorem zIT {p : Bool × Int × Int → Bool × Int × Int → Bool} : ∀ {xs ys : List (Bool × Int × Int)}, ¬ xs.length = ys.length → zCZ p xs ys = false
 | [], [], h => absurd rfl h
 | [], _ :: _, _ => rfl
 | _ :: _, [], _ => rfl
 | _ :: xs, _ :: ys, h => by rw [zCZ, zIT (fun e => h (by simp [e]))]; simp
theorem zIc {p : Bool × Int × Int → Bool × Int × Int → Bool} : ∀ {xs ys : List (Bool × Int × Int)}, xs.length = ys.length → (∀ (j : Nat) (x y : Bool × Int × Int), xs[j]? = some x → ys[j]? = some y → p x y = true) → zCZ p xs ys = true
 | [], [], _, _ => rfl
 | [], _ :: _, h, _ => by simp at h
 | _ :: _, [], h, _ => by simp at h
 | x :: xs, y :: ys, h, hp => by
  rw [zCZ, hp 0 x y rfl rfl, zIc (by simpa using h) (fun j a b ha hb => hp (j + 1) a b (by simpa using ha) (by simpa using hb))]; rfl
theorem zKU {p : Bool × Int × Int → Bool × Int × Int → Bool} : ∀ {xs ys : List (Bool × Int × Int)} {j : Nat} {x y : Bool × Int × Int}, xs[j]? = some x → ys[j]? = some y → p x y = false → zCZ p xs ys = false
 | [], _, j, x, y, h, _, _ => by simp at h
 | _ :: _, [], j, x, y, _, h, _ => by simp at h
 | a :: xs, b :: ys, 0, x, y, h1, h2, h3 => by simp at h1 h2; rw [zCZ, h1, h2, h3]; rfl
 | a :: xs, b :: ys, j + 1, x, y, h1, h2, h3 => by rw [zCZ, zKU (by simpa using h1) (by simpa using h2) h3]; simp
theorem zJy (f g : Bool) (xs ys : List (Bool × Int × Int)) (cf : Nat) (caps : List D) (p : Bool × Int × Int → Bool × Int × Int → Bool) (hb : xs.length ≤ 9223372036854775807) (hc : zr caps = true)
  (hp : ∀ x ∈ xs, ∀ y, Fn Tryz.prog cf (.agg [.v (.bool x.1), .v (.int .i64 x.2.1), .v (.int .i64 x.2.2)] :: .agg [.v (.bool y.1), .v (.int .i64 y.2.1), .v (.int .i64 y.2.2)] :: caps) [] (.v (.bool (p x y))) []) : Fn Tryz.prog 218 [.sl f 3 (zg xs), .sl g 3 (zg ys), .fn cf caps] [] (.v (.bool (zCZ p xs ys))) [] := by
 refine Fn.of (fn := Tryz.f218) (by kernel_rfl) rfl (by kernel_rfl) ⟨[.sl f 3 (zg xs), .sl g 3 (zg ys), .fn cf caps, .v undef, .v undef, .v undef, .v undef, .v undef, .v undef, .v undef, .v undef, .v undef, .v undef, .v undef, .v undef, .v undef, .v undef, .v undef, .v undef, .v undef, .v undef, .v undef, .v undef, .v undef, .v undef, .v undef, .v undef, .v undef, .v undef, .v undef, .v undef, .v undef], []⟩ rfl ?_
 by_cases hl : xs.length = ys.length
 ·have hl' : ((xs.length : Int) != (ys.length : Int)) = false := by simp [hl]
  repeat' first | (with_reducible first | refine zA ?_ | refine zB ?_ | refine zJ ?_ | refine zI ?_) | ((with_reducible refine zC fun KC J hJ hKC => ?_); simp (maxSteps := 9999999) only [push_cast, seval, ↓reduceIte, hl']) | ((with_reducible refine hJ _ _ ?_); clear hJ hKC KC J) | ((with_reducible refine zH ?_ ?_); · rfl)
  refine zw 0 (γ := {i : Nat // i ≤ xs.length ∧ ∀ (j : Nat) (x y : Bool × Int × Int), j < i → xs[j]? = some x → ys[j]? = some y → p x y = true}) (fun i => ⟨[.sl f 3 (zg xs), .sl g 3 (zg ys), .fn cf caps, .any, .any, .any, .any, .any, .any, .any, .any, .any, .any, .any, .any, .sl f 3 (zg xs), .v (.int .i64 xs.length), .v (.int .i64 i.1), .any, .any, .any, .any, .any, .any, .any, .any, .any, .any, .any, .any, .any, .any], []⟩) (fun i => xs.length - i.1) ⟨0, by simp⟩ (fun i => rfl) (fun i => rfl) (fun i => ?_) ⟨?_, Fq⟩ ?_
  ·simp only [List.map_cons, List.map_nil, show ren (mOf (List.range 0)) (.fn cf caps) = .fn cf caps from by show D.fn cf (caps.map _) = _; rw [zDH (fun d hd => zEJ hd) hc]]
   rfl
  ·exact Lq
  ·rintro ⟨i, hi, hn⟩
   by_cases hlt : (i : Int) < (xs.length : Int)
   ·have hx : xs[i]? = some xs[i] := List.getElem?_eq_getElem (by omega)
    have hy : ys[i]? = some ys[i] := List.getElem?_eq_getElem (by omega)
    have hfn := hp xs[i] (List.getElem_mem (by omega)) ys[i]
    obtain ⟨a, ha⟩ : ∃ a, xs[i] = a := ⟨_, rfl⟩
    obtain ⟨b, hb2⟩ : ∃ b, ys[i] = b := ⟨_, rfl⟩
    rw [ha] at hx
    rw [hb2] at hy
    rw [ha, hb2] at hfn
    cases hpv : p a b with
    | true =>
     rw [hpv] at hfn
     repeat' first | (with_reducible first | refine zA ?_ | refine zB ?_ | refine zP ?_ | refine zJ ?_ | refine zI ?_) | ((with_reducible refine And.intro ?_ ?_); · exact Sq) | ((first | with_reducible refine zC fun KC J hJ hKC => ?_ | (refine hKC _ _ _ _ _ (zD (hfn) rfl rfl rfl ?_ ?_); (· exact Lq))); simp (maxSteps := 9999999) only [push_cast, seval, ↓reduceIte, hlt, zBi hx, zBi hy, zp (i := i) (n := xs.length) (by omega) hb]) | ((with_reducible refine hJ _ _ ?_); clear hJ hKC KC J) | ((with_reducible refine zG ?_ ?_); · rfl) | ((with_reducible refine zH ?_ ?_); · rfl)
     refine ⟨⟨i + 1, by omega, fun j x y hj h1 h2 => ?_⟩, by simp only; omega, ?_, ⟨_, rfl⟩⟩
     ·by_cases hji : j = i
      ·rw [hji] at h1 h2
       rw [hx] at h1; rw [hy] at h2
       cases h1; cases h2; exact hpv
      ·exact hn j x y (by omega) h1 h2
     ·exact Lq
    | false =>
     rw [hpv] at hfn
     repeat' first | (with_reducible first | refine zA ?_ | refine zB ?_ | refine zb ?_ | refine zAC ?_ | refine zF ?_ | refine zJ ?_ | refine zI ?_) | ((with_reducible refine And.intro ?_ ?_); · exact Sq) | ((first | with_reducible refine zC fun KC J hJ hKC => ?_ | (refine hKC _ _ _ _ _ (zD (hfn) rfl rfl rfl ?_ ?_); (· exact Lq))); simp (maxSteps := 9999999) only [push_cast, seval, ↓reduceIte, hlt, zBi hx, zBi hy]) | ((with_reducible refine hJ _ _ ?_); clear hJ hKC KC J) | ((with_reducible refine zG ?_ ?_); · rfl)
     refine zE ?_
     simp (maxSteps := 9999999) only [push_cast, seval, ↓reduceIte, show Tryz.f218.results = #[(.tmp 6)] from rfl]
     rw [zKU hx hy hpv]
     exact zK _
   ·skip
    repeat' first | (with_reducible first | refine zA ?_ | refine zB ?_ | refine zm ?_ | refine zl ?_ | refine zF ?_ | refine zZ ?_) | ((with_reducible refine zC fun KC J hJ hKC => ?_); simp (maxSteps := 9999999) only [push_cast, seval, ↓reduceIte, hlt]) | ((with_reducible refine hJ _ _ ?_); clear hJ hKC KC J) | ((with_reducible refine zH ?_ ?_); · rfl)
    refine zE ?_
    simp (maxSteps := 9999999) only [push_cast, seval, ↓reduceIte, show Tryz.f218.results = #[(.tmp 6)] from rfl]
    rw [zIc hl (fun j x y h1 h2 => hn j x y (by have := (List.getElem?_eq_some_iff.1 h1).1; omega) h1 h2)]
    exact zK _
 ·have hl' : ((xs.length : Int) != (ys.length : Int)) = true := by simp; omega
  repeat' first | (with_reducible first | refine zA ?_ | refine zB ?_ | refine zb ?_ | refine zF ?_) | ((with_reducible refine zC fun KC J hJ hKC => ?_); simp (maxSteps := 9999999) only [push_cast, seval, ↓reduceIte, hl']) | ((with_reducible refine hJ _ _ ?_); clear hJ hKC KC J) | ((with_reducible refine zG ?_ ?_); · rfl)
  refine zE ?_
  simp (maxSteps := 9999999) only [push_cast, seval, ↓reduceIte, show Tryz.f218.results = #[(.tmp 6)] from rfl]
  rw [zIT hl]
  exact zK _
theorem zGw (f g fa fb : Bool) (ns : List ByteArray) (us : List Nat) (o : Nat) (xs ys : List (Bool × Int × Int)) (hs : Szs ns) (hu : U32 us) (hc : zAA ns us = 0) (ho : o < us.length) (hb : xs.length ≤ 1000) (hx : ∀ x ∈ xs, zx us.length x.2.2 = false) :
  Fn Tryz.prog 113 [.agg [.sl f 1 (zS ns), .sl g 1 (zQ us), .v (.int .i64 (o : Int))], .agg zES, .sl fa 3 (zg xs), .sl fb 3 (zg ys)] [] (.v (.bool (zCZ (alS us o) xs ys))) [] := by
 have hcf := zJy fa fb xs ys 219 [.fad zES, .fad [.sl f 1 (zS ns), .sl g 1 (zQ us), .v (.int .i64 (o : Int))]] (alS us o) (by omega) rfl (fun x hm y => by
  obtain ⟨a, ha, hl⟩ := zBU (hx x hm)
  exact zNg f g ns us o a x y hs hu hc ha hl ho)
 refine Fn.of (fn := Tryz.f113) (by kernel_rfl) rfl (by kernel_rfl) ⟨[.agg [.sl f 1 (zS ns), .sl g 1 (zQ us), .v (.int .i64 (o : Int))], .agg zES, .sl fa 3 (zg xs), .sl fb 3 (zg ys), .v undef, .v undef, .v undef, .v undef, .v undef, .v undef, .v undef, .v undef, .v undef], []⟩ rfl ?_
 repeat' first | (refine zU 1 0 rfl (by (simp (maxSteps := 9999999) only [push_cast, seval, ↓reduceIte]) <;> rfl) ?_; simp (maxSteps := 9999999) only [push_cast, seval, ↓reduceIte, zAK, zi, fr3, fr2, fr1, fr0, zq, zn, zr, Bool.and_self]) | (refine zU 1 1 rfl (by (simp (maxSteps := 9999999) only [push_cast, seval, ↓reduceIte]) <;> rfl) ?_; simp (maxSteps := 9999999) only [push_cast, seval, ↓reduceIte, zAK, zi, fr3, fr2, fr1, fr0, zq, zn, zr, Bool.and_self]) | (with_reducible first | refine zA ?_ | refine zB ?_ | refine zF ?_) | ((first | with_reducible refine zC fun KC J hJ hKC => ?_ | (refine hKC _ _ _ _ _ (zD (hcf) rfl rfl rfl ?_ ?_); (· exact Lq))); simp (maxSteps := 9999999) only [push_cast, seval, ↓reduceIte, zr, Bool.and_self]) | ((with_reducible refine hJ _ _ ?_); clear hJ hKC KC J)
 refine zE ?_
 simp (maxSteps := 9999999) only [push_cast, seval, ↓reduceIte, show Tryz.f113.results = #[(.tmp 8)] from rfl]
 exact zK _
end Go.Proofs.YtabliglgeiajlaaGreat.AM
