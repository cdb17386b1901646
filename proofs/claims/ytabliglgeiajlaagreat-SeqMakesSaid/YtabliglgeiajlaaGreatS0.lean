/- States, when two are the same. -/
import Derived.Test.YtabliglgeiajlaaGreatQ1
import Derived.Test.YtabliglgeiajlaaGreatW0
set_option linter.unusedSimpArgs false
set_option linter.unusedVariables false
namespace Go.Proofs.YtabliglgeiajlaaGreat.AM
open Go Go.RowKit Go.Proofs
set_option maxRecDepth 100000
set_option maxHeartbeats 1000000

/-- A state, as it is handed in. -/
def staF (fc fm fs fo : Bool) (s : Sta) : List D := [.v (.int .i64 s.v), .v (.int .i64 s.l), .sl fc 3 (tRow s.code), .sl fm 2 (pRow s.mem), .sl fs 3 (sRow s.stack), .sl fo 2 (pRow s.out)]
structure Sml (s : Sta) : Prop where
  code : s.code.length ≤ 1000
  mem : s.mem.length ≤ 1000
  stack : s.stack.length ≤ 1000
  out : s.out.length ≤ 1000
structure Sml15 (s : Sta) : Prop where
  code : s.code.length ≤ 15
  mem : s.mem.length ≤ 15
  stack : s.stack.length ≤ 15
  out : s.out.length ≤ 15
theorem Sml15.sml {s : Sta} (h : Sml15 s) : Sml s := ⟨by have := h.code; omega, by have := h.mem; omega, by have := h.stack; omega, by have := h.out; omega⟩
def cutSta (s : Sta) : Sta := ⟨s.v, s.l, s.code.take 15, s.mem.take 15, s.stack.take 15, s.out.take 15⟩
theorem cutSta_sml (s : Sta) : (cutSta s).code.length ≤ 15 ∧ (cutSta s).mem.length ≤ 15 ∧ (cutSta s).stack.length ≤ 15 ∧ (cutSta s).out.length ≤ 15 := by
  simp [cutSta]; omega
theorem cutSta_15 (s : Sta) : Sml15 (cutSta s) := let ⟨h1, h2, h3, h4⟩ := cutSta_sml s; ⟨h1, h2, h3, h4⟩
theorem rAtomsSame_fn (f g : Bool) (xs ys : List (Int × Int)) (hb : xs.length ≤ 9223372036854775807) : Fn Tryz.prog 59 [.sl f 2 (pRow xs), .sl g 2 (pRow ys)] [] (.v (.bool (decide (xs = ys)))) [] := by
  refine Fn.of (fn := Tryz.f59) (by kernel_rfl) rfl (by kernel_rfl) ⟨[.sl f 2 (pRow xs), .sl g 2 (pRow ys), .v undef, .v undef, .v undef, .v undef, .v undef, .v undef, .v undef, .v undef, .v undef, .v undef, .v undef, .v undef, .v undef, .v undef, .v undef, .v undef, .v undef, .v undef, .v undef, .v undef, .v undef, .v undef, .v undef, .v undef], []⟩ rfl ?_
  by_cases hl : xs.length = ys.length
  · have hl' : ((xs.length : Int) != (ys.length : Int)) = false := by simp [hl]
    repeat' first | (with_reducible first | refine AWP_seq' ?_ | refine k_normal ?_ | refine AWP_skip ?_ | refine AWP_block ?_) | ((with_reducible refine AWP_reg fun KC J hJ hKC => ?_); simp (maxSteps := 10000000) only [push_cast, seval, ↓reduceIte, hl']) | ((with_reducible refine hJ _ _ ?_); clear hJ hKC KC J) | ((with_reducible refine AWP_condF ?_ ?_); · rfl)
    refine AWP_loopF (γ := {i : Nat // i ≤ xs.length ∧ ∀ j, j < i → xs[j]? = ys[j]?}) (fun i => ⟨[.sl f 2 (pRow xs), .sl g 2 (pRow ys), .any, .any, .any, .any, .any, .any, .any, .any, .any, .any, .v (.int .i64 xs.length), .v (.int .i64 i.1), .any, .any, .any, .any, .any, .any, .any, .any, .any, .any, .any, .any], []⟩) (fun i => xs.length - i.1) ⟨0, by simp⟩ ⟨?_, Fq⟩ ?_
    · exact Lq
    · rintro ⟨i, hi, hn⟩
      by_cases hlt : (i : Int) < (xs.length : Int)
      · have hx : xs[i]? = some xs[i] := List.getElem?_eq_getElem (by omega)
        have hy : ys[i]? = some ys[i] := List.getElem?_eq_getElem (by omega)
        obtain ⟨a, ha⟩ : ∃ a, xs[i] = a := ⟨_, rfl⟩
        obtain ⟨b, hb2⟩ : ∃ b, ys[i] = b := ⟨_, rfl⟩
        rw [ha] at hx
        rw [hb2] at hy
        by_cases he : a = b
        · have he' : decide (a = b) = true := decide_eq_true he
          repeat' first | (with_reducible first | refine AWP_seq' ?_ | refine k_normal ?_ | refine b_normal ?_ | refine AWP_skip ?_ | refine AWP_block ?_) | ((with_reducible first | refine AWP_reg fun KC J hJ hKC => ?_ | refine AWP_regD rfl fun KC J hJ hKC => ?_); simp (maxSteps := 10000000) only [push_cast, seval, ↓reduceIte, hlt, getE_p hx, getE_p hy, pair_eq, he', wrapN (i := i) (n := xs.length) (by omega) hb]) | ((with_reducible refine And.intro ?_ ?_); · exact Sq) | ((first | with_reducible refine hJ _ _ ?_ | (with_reducible refine hJ _ _ ?_ ?_; · kernel_rfl)); clear hJ hKC KC J) | ((with_reducible refine AWP_condT ?_ ?_); · rfl) | ((with_reducible refine AWP_condF ?_ ?_); · rfl)
          refine ⟨⟨i + 1, by omega, fun j hj => ?_⟩, by simp only; omega, ?_, Fq⟩
          · by_cases hji : j = i
            · rw [hji, hx, hy, he]
            · exact hn j (by omega)
          · exact Lq
        · have he' : decide (a = b) = false := decide_eq_false he
          repeat' first | (with_reducible first | refine AWP_seq' ?_ | refine k_normal ?_ | refine k_ret ?_ | refine b_ret ?_ | refine AWP_ret ?_ | refine AWP_skip ?_ | refine AWP_block ?_) | ((with_reducible first | refine AWP_reg fun KC J hJ hKC => ?_ | refine AWP_regD rfl fun KC J hJ hKC => ?_); simp (maxSteps := 10000000) only [push_cast, seval, ↓reduceIte, hlt, getE_p hx, getE_p hy, pair_eq, he']) | ((with_reducible refine And.intro ?_ ?_); · exact Sq) | ((first | with_reducible refine hJ _ _ ?_ | (with_reducible refine hJ _ _ ?_ ?_; · kernel_rfl)); clear hJ hKC KC J) | ((with_reducible refine AWP_condT ?_ ?_); · rfl)
          refine ret_plain ?_
          simp (maxSteps := 10000000) only [push_cast, seval, ↓reduceIte, show Tryz.f59.results = #[(.tmp 4)] from rfl]
          rw [decide_eq_false (fun h => he (by rw [h, hy] at hx; exact (Option.some.inj hx).symm))]
          exact leD_refl _
      · skip
        repeat' first | (with_reducible first | refine AWP_seq' ?_ | refine k_normal ?_ | refine k_exit ?_ | refine b_exit ?_ | refine AWP_ret ?_ | refine AWP_exit ?_) | ((with_reducible refine AWP_reg fun KC J hJ hKC => ?_); simp (maxSteps := 10000000) only [push_cast, seval, ↓reduceIte, hlt]) | ((with_reducible refine hJ _ _ ?_); clear hJ hKC KC J) | ((with_reducible refine AWP_condF ?_ ?_); · rfl)
        refine ret_plain ?_
        simp (maxSteps := 10000000) only [push_cast, seval, ↓reduceIte, show Tryz.f59.results = #[(.tmp 4)] from rfl]
        rw [decide_eq_true (list_eq_of hl fun j hj => hn j (by omega))]
        exact leD_refl _
  · have hl' : ((xs.length : Int) != (ys.length : Int)) = true := by simp; omega
    repeat' first | (with_reducible first | refine AWP_seq' ?_ | refine k_normal ?_ | refine k_ret ?_ | refine AWP_ret ?_) | ((with_reducible refine AWP_reg fun KC J hJ hKC => ?_); simp (maxSteps := 10000000) only [push_cast, seval, ↓reduceIte, hl']) | ((with_reducible refine hJ _ _ ?_); clear hJ hKC KC J) | ((with_reducible refine AWP_condT ?_ ?_); · rfl)
    refine ret_plain ?_
    simp (maxSteps := 10000000) only [push_cast, seval, ↓reduceIte, show Tryz.f59.results = #[(.tmp 4)] from rfl]
    rw [decide_eq_false (fun h => hl (by rw [h]))]
    exact leD_refl _
/-- Two are the same. -/
def sameT (a b : Sta) : Bool := !(!(a.v == b.v && a.l == b.l) || (!decide (a.code = b.code) || (!decide (a.mem = b.mem) || !decide (a.out = b.out)))) && decide (a.stack = b.stack)
theorem sameT_iff {a b : Sta} : sameT a b = true ↔ a = b := by
  obtain ⟨v, l, c, m, s, o⟩ := a
  obtain ⟨v', l', c', m', s', o'⟩ := b
  simp [sameT]
  constructor
  · rintro ⟨⟨⟨h1, h2⟩, h3, h4, h5⟩, h6⟩; exact ⟨h1, h2, h3, h4, h6, h5⟩
  · rintro ⟨h1, h2, h3, h4, h5, h6⟩; exact ⟨⟨⟨h1, h2⟩, h3, h4, h6⟩, h5⟩
theorem rCodesSame_fn (f g : Bool) (xs ys : List (Int × Int × Int)) (hb : xs.length ≤ 1000) : Fn Tryz.prog 58 [.sl f 3 (tRow xs), .sl g 3 (tRow ys)] [] (.v (.bool (decide (xs = ys)))) [] := by
  refine Fn.of (fn := Tryz.f58) (by kernel_rfl) rfl (by kernel_rfl) ⟨[.sl f 3 (tRow xs), .sl g 3 (tRow ys), .v undef, .v undef, .v undef, .v undef, .v undef, .v undef, .v undef, .v undef, .v undef, .v undef, .v undef, .v undef, .v undef, .v undef, .v undef, .v undef, .v undef, .v undef, .v undef, .v undef, .v undef, .v undef, .v undef, .v undef], []⟩ rfl ?_
  by_cases hl : xs.length = ys.length
  · have hl' : ((xs.length : Int) != (ys.length : Int)) = false := by simp [hl]
    repeat' first | (with_reducible first | refine AWP_seq' ?_ | refine k_normal ?_ | refine AWP_skip ?_ | refine AWP_block ?_) | ((with_reducible refine AWP_reg fun KC J hJ hKC => ?_); simp (maxSteps := 10000000) only [push_cast, seval, ↓reduceIte, hl']) | ((with_reducible refine hJ _ _ ?_); clear hJ hKC KC J) | ((with_reducible refine AWP_condF ?_ ?_); · rfl)
    refine AWP_loopF (γ := {i : Nat // i ≤ xs.length ∧ ∀ j, j < i → xs[j]? = ys[j]?}) (fun i => ⟨[.sl f 3 (tRow xs), .sl g 3 (tRow ys), .any, .any, .any, .any, .any, .any, .any, .any, .any, .any, .v (.int .i64 xs.length), .v (.int .i64 i.1), .any, .any, .any, .any, .any, .any, .any, .any, .any, .any, .any, .any], []⟩) (fun i => xs.length - i.1) ⟨0, by simp⟩ ⟨?_, Fq⟩ ?_
    · exact Lq
    · rintro ⟨i, hi, hn⟩
      by_cases hlt : (i : Int) < (xs.length : Int)
      · have hx : xs[i]? = some xs[i] := List.getElem?_eq_getElem (by omega)
        have hy : ys[i]? = some ys[i] := List.getElem?_eq_getElem (by omega)
        obtain ⟨⟨a1, a2, a3⟩, ha⟩ : ∃ a, xs[i] = a := ⟨_, rfl⟩
        obtain ⟨⟨b1, b2, b3⟩, hb2⟩ : ∃ b, ys[i] = b := ⟨_, rfl⟩
        rw [ha] at hx
        rw [hb2] at hy
        by_cases he : (a1, a2, a3) = (b1, b2, b3)
        · cases he
          repeat' first | (with_reducible first | refine AWP_seq' ?_ | refine k_normal ?_ | refine b_normal ?_ | refine AWP_skip ?_ | refine AWP_block ?_) | ((with_reducible first | refine AWP_reg fun KC J hJ hKC => ?_ | refine AWP_regD rfl fun KC J hJ hKC => ?_); simp (maxSteps := 10000000) only [push_cast, seval, ↓reduceIte, hlt, getE_t hx, getE_t hy, beq_self_eq_true, Bool.and_self, Bool.not_true, bne_self_eq_false, wrapN (i := i) (n := xs.length) (by omega) (by omega)]) | ((with_reducible refine And.intro ?_ ?_); · exact Sq) | ((first | with_reducible refine hJ _ _ ?_ | (with_reducible refine hJ _ _ ?_ ?_; · kernel_rfl)); clear hJ hKC KC J) | ((with_reducible refine AWP_condT ?_ ?_); · rfl) | ((with_reducible refine AWP_condF ?_ ?_); · rfl)
          refine ⟨⟨i + 1, by omega, fun j hj => ?_⟩, by simp only; omega, ?_, Fq⟩
          · by_cases hji : j = i
            · rw [hji, hx, hy]
            · exact hn j (by omega)
          · exact Lq
        · have he' : (a1 == b1 && (a2 == b2 && a3 == b3)) = false := by
            cases h : (a1 == b1 && (a2 == b2 && a3 == b3)) with
            | false => rfl
            | true =>
              simp only [Bool.and_eq_true, beq_iff_eq] at h
              exact absurd (by rw [h.1, h.2.1, h.2.2]) he
          repeat' first | (with_reducible first | refine AWP_seq' ?_ | refine k_normal ?_ | refine k_ret ?_ | refine b_ret ?_ | refine AWP_ret ?_ | refine AWP_skip ?_ | refine AWP_block ?_) | ((with_reducible first | refine AWP_reg fun KC J hJ hKC => ?_ | refine AWP_regD rfl fun KC J hJ hKC => ?_); simp (maxSteps := 10000000) only [push_cast, seval, ↓reduceIte, hlt, getE_t hx, getE_t hy, he']) | ((with_reducible refine And.intro ?_ ?_); · exact Sq) | ((first | with_reducible refine hJ _ _ ?_ | (with_reducible refine hJ _ _ ?_ ?_; · kernel_rfl)); clear hJ hKC KC J) | ((with_reducible refine AWP_condT ?_ ?_); · rfl)
          refine ret_plain ?_
          simp (maxSteps := 10000000) only [push_cast, seval, ↓reduceIte, show Tryz.f58.results = #[(.tmp 4)] from rfl]
          rw [decide_eq_false (fun h => he (by rw [h, hy] at hx; exact (Option.some.inj hx).symm))]
          exact leD_refl _
      · skip
        repeat' first | (with_reducible first | refine AWP_seq' ?_ | refine k_normal ?_ | refine k_exit ?_ | refine b_exit ?_ | refine AWP_ret ?_ | refine AWP_exit ?_) | ((with_reducible refine AWP_reg fun KC J hJ hKC => ?_); simp (maxSteps := 10000000) only [push_cast, seval, ↓reduceIte, hlt]) | ((with_reducible refine hJ _ _ ?_); clear hJ hKC KC J) | ((with_reducible refine AWP_condF ?_ ?_); · rfl)
        refine ret_plain ?_
        simp (maxSteps := 10000000) only [push_cast, seval, ↓reduceIte, show Tryz.f58.results = #[(.tmp 4)] from rfl]
        rw [decide_eq_true (list_eq_of hl fun j hj => hn j (by omega))]
        exact leD_refl _
  · have hl' : ((xs.length : Int) != (ys.length : Int)) = true := by simp; omega
    repeat' first | (with_reducible first | refine AWP_seq' ?_ | refine k_normal ?_ | refine k_ret ?_ | refine AWP_ret ?_) | ((with_reducible refine AWP_reg fun KC J hJ hKC => ?_); simp (maxSteps := 10000000) only [push_cast, seval, ↓reduceIte, hl']) | ((with_reducible refine hJ _ _ ?_); clear hJ hKC KC J) | ((with_reducible refine AWP_condT ?_ ?_); · rfl)
    refine ret_plain ?_
    simp (maxSteps := 10000000) only [push_cast, seval, ↓reduceIte, show Tryz.f58.results = #[(.tmp 4)] from rfl]
    rw [decide_eq_false (fun h => hl (by rw [h]))]
    exact leD_refl _
set_option maxHeartbeats 4000000 in
theorem rSame9_fn (a b : Sta) (ha : Sml15 a) (hb : Sml15 b) : Fn Tryz.prog 20 [.agg (staF false false false false a), .agg (staF false false false false b)] [] (.v (.bool (sameT a b))) [] := by
  obtain ⟨ha1, ha2, ha3, ha4⟩ := ha
  obtain ⟨hb1, hb2, hb3, hb4⟩ := hb
  obtain ⟨v, l, c, m, s, o⟩ := a
  obtain ⟨v', l', c', m', s', o'⟩ := b
  simp only at *
  have f1 := rCodesSame_fn false false c c' (by omega)
  have f2 := rAtomsSame_fn false false m m' (by omega)
  have f3 := rAtomsSame_fn false false o o' (by omega)
  simp only [sameT]
  obtain ⟨c1, hc1⟩ : ∃ x, (v == v' && l == l') = x := ⟨_, rfl⟩
  obtain ⟨c2, hc2⟩ : ∃ x, decide (c = c') = x := ⟨_, rfl⟩
  obtain ⟨c3, hc3⟩ : ∃ x, decide (m = m') = x := ⟨_, rfl⟩
  obtain ⟨c4, hc4⟩ : ∃ x, decide (o = o') = x := ⟨_, rfl⟩
  rw [hc1, hc2, hc3, hc4]
  rw [hc2] at f1
  rw [hc3] at f2
  rw [hc4] at f3
  refine Fn.of (fn := Tryz.f20) (by kernel_rfl) rfl (by kernel_rfl) ⟨[.agg (staF false false false false ⟨v, l, c, m, s, o⟩), .agg (staF false false false false ⟨v', l', c', m', s', o'⟩), .v undef, .v undef, .v undef, .v undef, .v undef, .v undef, .v undef, .v undef, .v undef, .v undef, .v undef, .v undef, .v undef, .v undef, .v undef, .v undef, .v undef, .v undef, .v undef, .v undef, .v undef, .v undef, .v undef, .v undef, .v undef, .v undef, .v undef, .v undef, .v undef, .v undef, .v undef, .v undef, .v undef, .v undef, .v undef, .v undef, .v undef, .v undef, .v undef, .v undef, .v undef, .v undef, .v undef, .v undef, .v undef, .v undef, .v undef, .v undef, .v undef, .v undef, .v undef, .v undef, .v undef, .v undef, .v undef, .v undef, .v undef, .v undef, .v undef, .v undef], []⟩ rfl ?_
  simp only [staF]
  cases c1
  case false =>
    repeat' first | (with_reducible first | refine AWP_seq' ?_ | refine k_normal ?_ | refine k_ret ?_ | refine AWP_ret ?_) | ((with_reducible refine AWP_reg fun KC J hJ hKC => ?_); simp (maxSteps := 10000000) only [push_cast, seval, ↓reduceIte, hc1, undef]) | ((with_reducible refine hJ _ _ ?_); clear hJ hKC KC J) | ((with_reducible refine AWP_condT ?_ ?_); · rfl)
    refine ret_plain ?_
    simp (maxSteps := 10000000) only [push_cast, seval, ↓reduceIte, show Tryz.f20.results = #[(.tmp 4)] from rfl]
    exact Lq
  cases c2
  case false =>
    repeat' first | (with_reducible first | refine AWP_seq' ?_ | refine k_normal ?_ | refine k_ret ?_ | refine AWP_ret ?_) | ((with_reducible refine AWP_reg fun KC J hJ hKC => ?_); simp (maxSteps := 10000000) only [push_cast, seval, ↓reduceIte, hc1, hc2, undef]) | (refine' hKC _ _ _ _ _ (callV0 (rCodesSame_fn _ _ _ _ ?_) rfl rfl rfl ?_ ?_); (rotate_left 5); (· exact Lq); (rotate_left 1); (iterate 1 (· exact Hq)); simp (maxSteps := 10000000) only [push_cast, seval, ↓reduceIte, hc1, hc2, undef]) | ((with_reducible refine hJ _ _ ?_); clear hJ hKC KC J) | ((with_reducible refine AWP_condT ?_ ?_); · rfl)
    refine ret_plain ?_
    simp (maxSteps := 10000000) only [push_cast, seval, ↓reduceIte, show Tryz.f20.results = #[(.tmp 4)] from rfl]
    exact Lq
  cases c3
  case false =>
    repeat' first | (with_reducible first | refine AWP_seq' ?_ | refine k_normal ?_ | refine k_ret ?_ | refine AWP_ret ?_) | ((with_reducible refine AWP_reg fun KC J hJ hKC => ?_); simp (maxSteps := 10000000) only [push_cast, seval, ↓reduceIte, hc1, hc2, hc3, undef]) | (refine' hKC _ _ _ _ _ (callV0 (rCodesSame_fn _ _ _ _ ?_) rfl rfl rfl ?_ ?_); (rotate_left 5); (· exact Lq); (rotate_left 1); (iterate 1 (· exact Hq)); simp (maxSteps := 10000000) only [push_cast, seval, ↓reduceIte, hc1, hc2, hc3, undef]) | (refine' hKC _ _ _ _ _ (callV0 (rAtomsSame_fn _ _ _ _ ?_) rfl rfl rfl ?_ ?_); (rotate_left 5); (· exact Lq); (rotate_left 1); (iterate 1 (· exact Hq)); simp (maxSteps := 10000000) only [push_cast, seval, ↓reduceIte, hc1, hc2, hc3, undef]) | ((with_reducible refine hJ _ _ ?_); clear hJ hKC KC J) | ((with_reducible refine AWP_condT ?_ ?_); · rfl)
    refine ret_plain ?_
    simp (maxSteps := 10000000) only [push_cast, seval, ↓reduceIte, show Tryz.f20.results = #[(.tmp 4)] from rfl]
    exact Lq
  cases c4
  case false =>
    repeat' first | (with_reducible first | refine AWP_seq' ?_ | refine k_normal ?_ | refine k_ret ?_ | refine AWP_ret ?_) | ((with_reducible refine AWP_reg fun KC J hJ hKC => ?_); simp (maxSteps := 10000000) only [push_cast, seval, ↓reduceIte, hc1, hc2, hc3, hc4, undef]) | (refine' hKC _ _ _ _ _ (callV0 (rCodesSame_fn _ _ _ _ ?_) rfl rfl rfl ?_ ?_); (rotate_left 5); (· exact Lq); (rotate_left 1); (iterate 1 (· exact Hq)); simp (maxSteps := 10000000) only [push_cast, seval, ↓reduceIte, hc1, hc2, hc3, hc4, undef]) | (refine' hKC _ _ _ _ _ (callV0 (rAtomsSame_fn _ _ _ _ ?_) rfl rfl rfl ?_ ?_); (rotate_left 5); (· exact Lq); (rotate_left 1); (iterate 1 (· exact Hq)); simp (maxSteps := 10000000) only [push_cast, seval, ↓reduceIte, hc1, hc2, hc3, hc4, undef]) | ((with_reducible refine hJ _ _ ?_); clear hJ hKC KC J) | ((with_reducible refine AWP_condT ?_ ?_); · rfl)
    refine ret_plain ?_
    simp (maxSteps := 10000000) only [push_cast, seval, ↓reduceIte, show Tryz.f20.results = #[(.tmp 4)] from rfl]
    exact Lq
  by_cases hl : s.length = s'.length
  · have hl' : ((s.length : Int) != (s'.length : Int)) = false := by simp [hl]
    repeat' first | (with_reducible first | refine AWP_seq' ?_ | refine k_normal ?_ | refine AWP_skip ?_ | refine AWP_block ?_) | ((with_reducible refine AWP_reg fun KC J hJ hKC => ?_); simp (maxSteps := 10000000) only [push_cast, seval, ↓reduceIte, hc1, hc2, hc3, hc4, hl', undef]) | (refine' hKC _ _ _ _ _ (callV0 (rCodesSame_fn _ _ _ _ ?_) rfl rfl rfl ?_ ?_); (rotate_left 5); (· exact Lq); (rotate_left 1); (iterate 1 (· exact Hq)); simp (maxSteps := 10000000) only [push_cast, seval, ↓reduceIte, hc1, hc2, hc3, hc4, hl', undef]) | (refine' hKC _ _ _ _ _ (callV0 (rAtomsSame_fn _ _ _ _ ?_) rfl rfl rfl ?_ ?_); (rotate_left 5); (· exact Lq); (rotate_left 1); (iterate 1 (· exact Hq)); simp (maxSteps := 10000000) only [push_cast, seval, ↓reduceIte, hc1, hc2, hc3, hc4, hl', undef]) | ((with_reducible refine hJ _ _ ?_); clear hJ hKC KC J) | ((with_reducible refine AWP_condF ?_ ?_); · rfl)
    refine AWP_loopD 2 (γ := {i : Nat // i ≤ s.length ∧ ∀ j, j < i → s[j]? = s'[j]?}) (fun i => ⟨[.any, .any, .ptr 0 0 0, .ptr 1 0 0, .any, .any, .any, .any, .any, .any, .any, .any, .any, .any, .any, .any, .any, .any, .any, .any, .any, .any, .any, .any, .any, .any, .any, .any, .any, .any, .any, .any, .any, .any, .any, .any, .any, .any, .any, .any, .any, .any, .any, .any, .any, .any, .v (.int .i64 s.length), .v (.int .i64 i.1), .any, .any, .any, .any, .any, .any, .any, .any, .any, .any, .any, .any, .any, .any], [.ent ⟨0, none, 39, staF false false false false ⟨v, l, c, m, s, o⟩, .cells⟩, .ent ⟨0, none, 39, staF false false false false ⟨v', l', c', m', s', o'⟩, .cells⟩]⟩) (fun i => s.length - i.1) ⟨0, by simp⟩ (fun i => rfl) (fun i => clsd_all rfl) (fun i => rfl) ⟨?_, Fq⟩ ?_
    · exact Lq
    · rintro ⟨i, hi, hn⟩
      simp only [staF]
      by_cases hlt : (i : Int) < (s.length : Int)
      · have hx : s[i]? = some s[i] := List.getElem?_eq_getElem (by omega)
        have hy : s'[i]? = some s'[i] := List.getElem?_eq_getElem (by omega)
        obtain ⟨⟨a1, a2, a3⟩, ha⟩ : ∃ a, s[i] = a := ⟨_, rfl⟩
        obtain ⟨⟨b1, b2, b3⟩, hb2⟩ : ∃ b, s'[i] = b := ⟨_, rfl⟩
        rw [ha] at hx
        rw [hb2] at hy
        by_cases he : (a1, a2, a3) = (b1, b2, b3)
        · cases he
          repeat' first | (with_reducible first | refine AWP_seq' ?_ | refine k_normal ?_ | refine b_normal ?_ | refine AWP_skip ?_ | refine AWP_block ?_) | ((with_reducible first | refine AWP_reg fun KC J hJ hKC => ?_ | refine AWP_regD rfl fun KC J hJ hKC => ?_); simp (maxSteps := 10000000) only [push_cast, seval, ↓reduceIte, hlt, getE_s hx, getE_s hy, beq_self_eq_true, Bool.and_self, Bool.not_true, bne_self_eq_false, wrapN (i := i) (n := s.length) (by omega) (by omega)]) | ((with_reducible refine And.intro ?_ ?_); · exact Sq) | ((first | with_reducible refine hJ _ _ ?_ | (with_reducible refine hJ _ _ ?_ ?_; · kernel_rfl)); clear hJ hKC KC J) | ((with_reducible refine AWP_condT ?_ ?_); · rfl) | ((with_reducible refine AWP_condF ?_ ?_); · rfl)
          refine ⟨⟨i + 1, by omega, fun j hj => ?_⟩, by simp only; omega, ?_, ⟨_, rfl⟩⟩
          · by_cases hji : j = i
            · rw [hji, hx, hy]
            · exact hn j (by omega)
          · exact Lq
        · have he' : (a1 == b1 && (a2 == b2 && a3 == b3)) = false := by
            cases h : (a1 == b1 && (a2 == b2 && a3 == b3)) with
            | false => rfl
            | true =>
              simp only [Bool.and_eq_true, beq_iff_eq] at h
              exact absurd (by rw [h.1, h.2.1, h.2.2]) he
          repeat' first | (with_reducible first | refine AWP_seq' ?_ | refine k_normal ?_ | refine k_ret ?_ | refine b_ret ?_ | refine AWP_ret ?_ | refine AWP_skip ?_ | refine AWP_block ?_) | ((with_reducible first | refine AWP_reg fun KC J hJ hKC => ?_ | refine AWP_regD rfl fun KC J hJ hKC => ?_); simp (maxSteps := 10000000) only [push_cast, seval, ↓reduceIte, hlt, getE_s hx, getE_s hy, he']) | ((with_reducible refine And.intro ?_ ?_); · exact Sq) | ((first | with_reducible refine hJ _ _ ?_ | (with_reducible refine hJ _ _ ?_ ?_; · kernel_rfl)); clear hJ hKC KC J) | ((with_reducible refine AWP_condT ?_ ?_); · rfl)
          refine ret_plain ?_
          simp (maxSteps := 10000000) only [push_cast, seval, ↓reduceIte, show Tryz.f20.results = #[(.tmp 4)] from rfl]
          rw [decide_eq_false (fun h => he (by rw [h, hy] at hx; exact (Option.some.inj hx).symm))]
          exact leD_refl _
      · skip
        repeat' first | (with_reducible first | refine AWP_seq' ?_ | refine k_normal ?_ | refine k_exit ?_ | refine b_exit ?_ | refine AWP_ret ?_ | refine AWP_exit ?_) | ((with_reducible refine AWP_reg fun KC J hJ hKC => ?_); simp (maxSteps := 10000000) only [push_cast, seval, ↓reduceIte, hlt]) | ((with_reducible refine hJ _ _ ?_); clear hJ hKC KC J) | ((with_reducible refine AWP_condF ?_ ?_); · rfl)
        refine ret_plain ?_
        simp (maxSteps := 10000000) only [push_cast, seval, ↓reduceIte, show Tryz.f20.results = #[(.tmp 4)] from rfl]
        rw [decide_eq_true (list_eq_of hl fun j hj => hn j (by omega))]
        exact leD_refl _
  · have hl' : ((s.length : Int) != (s'.length : Int)) = true := by simp; omega
    repeat' first | (with_reducible first | refine AWP_seq' ?_ | refine k_normal ?_ | refine k_ret ?_ | refine AWP_ret ?_) | ((with_reducible refine AWP_reg fun KC J hJ hKC => ?_); simp (maxSteps := 10000000) only [push_cast, seval, ↓reduceIte, hc1, hc2, hc3, hc4, hl', undef]) | (refine' hKC _ _ _ _ _ (callV0 (rCodesSame_fn _ _ _ _ ?_) rfl rfl rfl ?_ ?_); (rotate_left 5); (· exact Lq); (rotate_left 1); (iterate 1 (· exact Hq)); simp (maxSteps := 10000000) only [push_cast, seval, ↓reduceIte, hc1, hc2, hc3, hc4, hl', undef]) | (refine' hKC _ _ _ _ _ (callV0 (rAtomsSame_fn _ _ _ _ ?_) rfl rfl rfl ?_ ?_); (rotate_left 5); (· exact Lq); (rotate_left 1); (iterate 1 (· exact Hq)); simp (maxSteps := 10000000) only [push_cast, seval, ↓reduceIte, hc1, hc2, hc3, hc4, hl', undef]) | ((with_reducible refine hJ _ _ ?_); clear hJ hKC KC J) | ((with_reducible refine AWP_condT ?_ ?_); · rfl)
    refine ret_plain ?_
    simp (maxSteps := 10000000) only [push_cast, seval, ↓reduceIte, show Tryz.f20.results = #[(.tmp 4)] from rfl]
    rw [decide_eq_false (fun h => hl (by rw [h]))]
    exact leD_refl _
end Go.Proofs.YtabliglgeiajlaaGreat.AM
