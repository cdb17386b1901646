/- Labels that may be looked at. -/
import Derived.Test.YtabliglgeiajlaaGreatQ1
set_option linter.unusedSimpArgs false
set_option linter.unusedVariables false
namespace Go.Proofs.YtabliglgeiajlaaGreat.AM
open Go Go.RowKit Go.Proofs
set_option maxRecDepth 100000
set_option maxHeartbeats 1000000

theorem indexFuncI_fn (f : Bool) (xs : List Int) (cf : Nat) (caps : List D) (p : Int → Bool) (hb : xs.length ≤ 9223372036854775807) (hc : frz0All caps = true)
    (hp : ∀ x ∈ xs, Fn Tryz.prog cf (.v (.int .i64 x) :: caps) [] (.v (.bool (p x))) []) : Fn Tryz.prog 271 [.sl f 1 (intRow xs), .fn cf caps] [] (.v (.int .i64 (idxF p xs))) [] := by
  refine Fn.of (fn := Tryz.f271) (by kernel_rfl) rfl (by kernel_rfl) ⟨[.sl f 1 (intRow xs), .fn cf caps, .v undef, .v undef, .v undef, .v undef, .v undef, .v undef, .v undef, .v undef, .v undef, .v undef, .v undef, .v undef, .v undef, .v undef, .v undef, .v undef, .v undef], []⟩ rfl ?_
  repeat' first | (with_reducible first | refine AWP_seq' ?_ | refine k_normal ?_ | refine AWP_block ?_) | ((with_reducible refine AWP_reg fun KC J hJ hKC => ?_); simp (maxSteps := 10000000) only [push_cast, seval, ↓reduceIte]) | ((with_reducible refine hJ _ _ ?_); clear hJ hKC KC J)
  refine AWP_loopF (γ := {i : Nat // i ≤ xs.length ∧ ∀ (j : Nat) (hj : j < xs.length), j < i → p xs[j] = false}) (fun i => ⟨[.sl f 1 (intRow xs), .fn cf caps, .any, .any, .any, .any, .any, .v (.int .i64 xs.length), .v (.int .i64 i.1), .any, .any, .any, .any, .any, .any, .any, .any, .any, .any], []⟩) (fun i => xs.length - i.1) ⟨0, by simp⟩ ⟨?_, Fq⟩ ?_
  · exact Lq
  · rintro ⟨i, hi, hn⟩
    by_cases hlt : (i : Int) < (xs.length : Int)
    · have hx : xs[i]? = some xs[i] := List.getElem?_eq_getElem (by omega)
      have hfn := hp xs[i] (List.getElem_mem (by omega))
      repeat' first | (with_reducible first | refine AWP_seq' ?_ | refine k_normal ?_ | refine k_ret ?_ | refine b_normal ?_ | refine b_ret ?_ | refine AWP_ret ?_ | refine AWP_skip ?_ | refine AWP_block ?_) | ((with_reducible refine AWP_reg fun KC J hJ hKC => ?_); simp (maxSteps := 10000000) only [push_cast, seval, ↓reduceIte, hlt, getE_intRow hx, wrapN (i := i) (n := xs.length) (by omega) hb]) | ((with_reducible refine And.intro ?_ ?_); · exact Sq) | (refine hKC _ _ _ _ _ (callV0 (hfn) rfl rfl rfl ?_ ?_); (· exact Lq); simp (maxSteps := 10000000) only [push_cast, seval, ↓reduceIte, hlt, getE_intRow hx, wrapN (i := i) (n := xs.length) (by omega) hb]) | ((with_reducible refine hJ _ _ ?_); clear hJ hKC KC J) | ((with_reducible refine AWP_condT ?_ ?_); · rfl) | (refine AWP_cond rfl (fun h => ?_) (fun h => ?_) <;> try simp only [decide_eq_true_eq, decide_eq_false_iff_not, Bool.not_eq_true', Bool.not_eq_false', beq_iff_eq, bne_iff_ne, ne_eq, Bool.not_eq_true, Bool.or_eq_true, Bool.and_eq_true, Bool.or_eq_false_iff, Bool.and_eq_false_imp, beq_eq_false_iff_ne, bne_eq_false_iff_eq] at h)
      · refine ret_plain ?_
        simp (maxSteps := 10000000) only [push_cast, seval, ↓reduceIte, show Tryz.f271.results = #[(.tmp 4)] from rfl]
        exact leD_v (by rw [idxF_at (by omega) h hn])
      · refine ⟨⟨i + 1, by omega, fun j hj hji => ?_⟩, by simp only; omega, ?_, Fq⟩
        · by_cases he : j = i
          · subst he; exact h
          · exact hn j hj (by omega)
        · exact Lq
    · skip
      repeat' first | (with_reducible first | refine AWP_seq' ?_ | refine k_normal ?_ | refine k_exit ?_ | refine b_exit ?_ | refine AWP_ret ?_ | refine AWP_exit ?_) | ((with_reducible refine AWP_reg fun KC J hJ hKC => ?_); simp (maxSteps := 10000000) only [push_cast, seval, ↓reduceIte, hlt]) | ((with_reducible refine hJ _ _ ?_); clear hJ hKC KC J) | ((with_reducible refine AWP_condF ?_ ?_); · rfl)
      refine ret_plain ?_
      simp (maxSteps := 10000000) only [push_cast, seval, ↓reduceIte, show Tryz.f271.results = #[(.tmp 4)] from rfl]
      exact leD_v (by rw [idxF_none (fun j hj => hn j hj (by omega))])
theorem containsFuncI_fn (f : Bool) (xs : List Int) (cf : Nat) (caps : List D) (p : Int → Bool) (hb : xs.length ≤ 9223372036854775807) (hc : frz0All caps = true)
    (hp : ∀ x ∈ xs, Fn Tryz.prog cf (.v (.int .i64 x) :: caps) [] (.v (.bool (p x))) []) : Fn Tryz.prog 208 [.sl f 1 (intRow xs), .fn cf caps] [] (.v (.bool (xs.any p))) [] := by
  have hfn := indexFuncI_fn f xs cf caps p hb hc hp
  refine Fn.of (fn := Tryz.f208) (by kernel_rfl) rfl (by kernel_rfl) ⟨[.sl f 1 (intRow xs), .fn cf caps, .v undef, .v undef, .v undef, .v undef, .v undef, .v undef, .v undef], []⟩ rfl ?_
  repeat' first | (with_reducible first | refine AWP_seq' ?_ | refine k_normal ?_ | refine AWP_ret ?_) | ((with_reducible refine AWP_reg fun KC J hJ hKC => ?_); simp (maxSteps := 10000000) only [push_cast, seval, ↓reduceIte, idxF_any]) | (refine hKC _ _ _ _ _ (callV0 (hfn) rfl rfl rfl ?_ ?_); (· exact Lq); simp (maxSteps := 10000000) only [push_cast, seval, ↓reduceIte, idxF_any]) | ((with_reducible refine hJ _ _ ?_); clear hJ hKC KC J)
  refine ret_plain ?_
  simp (maxSteps := 10000000) only [push_cast, seval, ↓reduceIte, show Tryz.f208.results = #[(.tmp 4)] from rfl]
  exact leD_refl _
def oddL (n : Nat) (a : Int) : Bool := decide (a < 0) || decide ((n : Int) ≤ a)
theorem oddL_no {n : Nat} {a : Int} (h : oddL n a = false) : ∃ b : Nat, a = (b : Int) ∧ b < n := by
  simp only [oddL, Bool.or_eq_false_iff, decide_eq_false_iff_not] at h
  exact ⟨a.toNat, by omega, by omega⟩
theorem may1_fn (f g : Bool) (ns : List ByteArray) (us : List Nat) (a : Int) : Fn Tryz.prog 209 [.v (.int .i64 a), .fad [.sl f 1 (strRow ns), .sl g 1 (u32Row us)]] [] (.v (.bool (oddL us.length a))) [] := by
  refine Fn.of (fn := Tryz.f209) (by kernel_rfl) rfl (by kernel_rfl) ⟨[.v (.int .i64 a), .fad [.sl f 1 (strRow ns), .sl g 1 (u32Row us)], .v undef, .v undef, .v undef, .v undef, .v undef, .v undef, .v undef, .v undef, .v undef, .v undef, .v undef], []⟩ rfl ?_
  obtain ⟨x, hx⟩ : ∃ x, decide (a < 0) = x := ⟨_, rfl⟩
  rw [oddL, hx]
  cases x
  all_goals
    repeat' first | (with_reducible first | refine AWP_seq' ?_ | refine k_normal ?_ | refine AWP_ret ?_) | ((with_reducible refine AWP_reg fun KC J hJ hKC => ?_); simp (maxSteps := 10000000) only [push_cast, seval, ↓reduceIte, hx, undef]) | ((with_reducible refine hJ _ _ ?_); clear hJ hKC KC J)
    refine ret_plain ?_
    simp (maxSteps := 10000000) only [push_cast, seval, ↓reduceIte, show Tryz.f209.results = #[(.tmp 3)] from rfl]
    exact leD_refl _
theorem there1_fn (f g : Bool) (ns : List ByteArray) (us : List Nat) (a : Int) : Fn Tryz.prog 220 [.v (.int .i64 a), .fad [.sl f 1 (strRow ns), .sl g 1 (u32Row us)]] [] (.v (.bool (oddL us.length a))) [] := by
  refine Fn.of (fn := Tryz.f220) (by kernel_rfl) rfl (by kernel_rfl) ⟨[.v (.int .i64 a), .fad [.sl f 1 (strRow ns), .sl g 1 (u32Row us)], .v undef, .v undef, .v undef, .v undef, .v undef, .v undef, .v undef, .v undef, .v undef, .v undef, .v undef], []⟩ rfl ?_
  obtain ⟨x, hx⟩ : ∃ x, decide (a < 0) = x := ⟨_, rfl⟩
  rw [oddL, hx]
  cases x
  all_goals
    repeat' first | (with_reducible first | refine AWP_seq' ?_ | refine k_normal ?_ | refine AWP_ret ?_) | ((with_reducible refine AWP_reg fun KC J hJ hKC => ?_); simp (maxSteps := 10000000) only [push_cast, seval, ↓reduceIte, hx, undef]) | ((with_reducible refine hJ _ _ ?_); clear hJ hKC KC J)
    refine ret_plain ?_
    simp (maxSteps := 10000000) only [push_cast, seval, ↓reduceIte, show Tryz.f220.results = #[(.tmp 3)] from rfl]
    exact leD_refl _
def mayF (ns : List ByteArray) (us : List Nat) (L : List Int) : Int := if checkF ns us = 0 then if L.any (oddL us.length) = true then 9 else 0 else checkF ns us
theorem may_fn (f g h : Bool) (ns : List ByteArray) (us : List Nat) (L : List Int) (hs : Szs ns) (hu : U32 us) (hl : L.length ≤ 1000) :
    Fn Tryz.prog 108 [.agg [.sl f 1 (strRow ns), .sl g 1 (u32Row us)], .sl h 1 (intRow L)] [] (.v (.int .i64 (mayF ns us L))) [] := by
  have hcf := containsFuncI_fn h L 209 [.fad [.sl f 1 (strRow ns), .sl g 1 (u32Row us)]] (oddL us.length) (by omega) rfl (fun x _ => may1_fn f g ns us x)
  refine Fn.of (fn := Tryz.f108) (by kernel_rfl) rfl (by kernel_rfl) ⟨[.agg [.sl f 1 (strRow ns), .sl g 1 (u32Row us)], .sl h 1 (intRow L), .v undef, .v undef, .v undef, .v undef, .v undef, .v undef, .v undef, .v undef, .v undef, .v undef, .v undef, .v undef], []⟩ rfl ?_
  by_cases hc : checkF ns us = 0
  · obtain ⟨x, hx⟩ : ∃ x, L.any (oddL us.length) = x := ⟨_, rfl⟩
    rw [mayF, if_pos hc, hx]
    cases x
    all_goals
      repeat' first | (refine AWP_freezeR 4 0 rfl (by (simp (maxSteps := 10000000) only [push_cast, seval, ↓reduceIte]) <;> rfl) ?_; simp (maxSteps := 10000000) only [push_cast, seval, ↓reduceIte, frSt, frSlot, fr3, fr2, fr1, fr0, sameB, arrOf, hc, hx]) | (with_reducible first | refine AWP_seq' ?_ | refine k_normal ?_ | refine k_ret ?_ | refine AWP_ret ?_ | refine AWP_skip ?_) | ((with_reducible refine AWP_reg fun KC J hJ hKC => ?_); simp (maxSteps := 10000000) only [push_cast, seval, ↓reduceIte, hc, hx]) | (refine' hKC _ _ _ _ _ (callV0 (latCheck_fn _ _ _ _ ?_ ?_) rfl rfl rfl ?_ ?_); (rotate_left 6); (· exact Lq); (rotate_left 1); (iterate 2 (· exact Hq)); simp (maxSteps := 10000000) only [push_cast, seval, ↓reduceIte, hc, hx]) | (refine hKC _ _ _ _ _ (callV0 (hcf) rfl rfl rfl ?_ ?_); (· exact Lq); simp (maxSteps := 10000000) only [push_cast, seval, ↓reduceIte, hc, hx]) | ((with_reducible refine hJ _ _ ?_); clear hJ hKC KC J) | ((with_reducible refine AWP_condT ?_ ?_); · rfl) | ((with_reducible refine AWP_condF ?_ ?_); · rfl)
      refine ret_plain ?_
      simp (maxSteps := 10000000) only [push_cast, seval, ↓reduceIte, show Tryz.f108.results = #[(.tmp 4)] from rfl]
      exact Lq
  · have hc' : (checkF ns us != 0) = true := by simpa using hc
    rw [mayF, if_neg hc]
    repeat' first | (with_reducible first | refine AWP_seq' ?_ | refine k_normal ?_ | refine k_ret ?_ | refine AWP_ret ?_) | ((with_reducible refine AWP_reg fun KC J hJ hKC => ?_); simp (maxSteps := 10000000) only [push_cast, seval, ↓reduceIte, hc']) | (refine' hKC _ _ _ _ _ (callV0 (latCheck_fn _ _ _ _ ?_ ?_) rfl rfl rfl ?_ ?_); (rotate_left 6); (· exact Lq); (rotate_left 1); (iterate 2 (· exact Hq)); simp (maxSteps := 10000000) only [push_cast, seval, ↓reduceIte, hc']) | ((with_reducible refine hJ _ _ ?_); clear hJ hKC KC J) | ((with_reducible refine AWP_condT ?_ ?_); · rfl)
    refine ret_plain ?_
    simp (maxSteps := 10000000) only [push_cast, seval, ↓reduceIte, show Tryz.f108.results = #[(.tmp 4)] from rfl]
    exact Lq
theorem there_fn (f g h : Bool) (ns : List ByteArray) (us : List Nat) (L : List Int) (hs : Szs ns) (hu : U32 us) (hl : L.length ≤ 1000) :
    Fn Tryz.prog 115 [.agg [.sl f 1 (strRow ns), .sl g 1 (u32Row us)], .sl h 1 (intRow L)] [] (.v (.int .i64 (mayF ns us L))) [] := by
  have hcf := containsFuncI_fn h L 220 [.fad [.sl f 1 (strRow ns), .sl g 1 (u32Row us)]] (oddL us.length) (by omega) rfl (fun x _ => there1_fn f g ns us x)
  refine Fn.of (fn := Tryz.f115) (by kernel_rfl) rfl (by kernel_rfl) ⟨[.agg [.sl f 1 (strRow ns), .sl g 1 (u32Row us)], .sl h 1 (intRow L), .v undef, .v undef, .v undef, .v undef, .v undef, .v undef, .v undef, .v undef, .v undef, .v undef, .v undef, .v undef], []⟩ rfl ?_
  by_cases hc : checkF ns us = 0
  · obtain ⟨x, hx⟩ : ∃ x, L.any (oddL us.length) = x := ⟨_, rfl⟩
    rw [mayF, if_pos hc, hx]
    cases x
    all_goals
      repeat' first | (refine AWP_freezeR 4 0 rfl (by (simp (maxSteps := 10000000) only [push_cast, seval, ↓reduceIte]) <;> rfl) ?_; simp (maxSteps := 10000000) only [push_cast, seval, ↓reduceIte, frSt, frSlot, fr3, fr2, fr1, fr0, sameB, arrOf, hc, hx]) | (with_reducible first | refine AWP_seq' ?_ | refine k_normal ?_ | refine k_ret ?_ | refine AWP_ret ?_ | refine AWP_skip ?_) | ((with_reducible refine AWP_reg fun KC J hJ hKC => ?_); simp (maxSteps := 10000000) only [push_cast, seval, ↓reduceIte, hc, hx]) | (refine' hKC _ _ _ _ _ (callV0 (latCheck_fn _ _ _ _ ?_ ?_) rfl rfl rfl ?_ ?_); (rotate_left 6); (· exact Lq); (rotate_left 1); (iterate 2 (· exact Hq)); simp (maxSteps := 10000000) only [push_cast, seval, ↓reduceIte, hc, hx]) | (refine hKC _ _ _ _ _ (callV0 (hcf) rfl rfl rfl ?_ ?_); (· exact Lq); simp (maxSteps := 10000000) only [push_cast, seval, ↓reduceIte, hc, hx]) | ((with_reducible refine hJ _ _ ?_); clear hJ hKC KC J) | ((with_reducible refine AWP_condT ?_ ?_); · rfl) | ((with_reducible refine AWP_condF ?_ ?_); · rfl)
      refine ret_plain ?_
      simp (maxSteps := 10000000) only [push_cast, seval, ↓reduceIte, show Tryz.f115.results = #[(.tmp 4)] from rfl]
      exact Lq
  · have hc' : (checkF ns us != 0) = true := by simpa using hc
    rw [mayF, if_neg hc]
    repeat' first | (with_reducible first | refine AWP_seq' ?_ | refine k_normal ?_ | refine k_ret ?_ | refine AWP_ret ?_) | ((with_reducible refine AWP_reg fun KC J hJ hKC => ?_); simp (maxSteps := 10000000) only [push_cast, seval, ↓reduceIte, hc']) | (refine' hKC _ _ _ _ _ (callV0 (latCheck_fn _ _ _ _ ?_ ?_) rfl rfl rfl ?_ ?_); (rotate_left 6); (· exact Lq); (rotate_left 1); (iterate 2 (· exact Hq)); simp (maxSteps := 10000000) only [push_cast, seval, ↓reduceIte, hc']) | ((with_reducible refine hJ _ _ ?_); clear hJ hKC KC J) | ((with_reducible refine AWP_condT ?_ ?_); · rfl)
    refine ret_plain ?_
    simp (maxSteps := 10000000) only [push_cast, seval, ↓reduceIte, show Tryz.f115.results = #[(.tmp 4)] from rfl]
    exact Lq
theorem flowsE_fn (f g : Bool) (ns : List ByteArray) (us : List Nat) (a b : Nat) (hs : Szs ns) (hu : U32 us) (hc : checkF ns us = 0) (ha : a < us.length) (hb : b < us.length) :
    Fn Tryz.prog 217 [.agg [.sl f 1 (strRow ns), .sl g 1 (u32Row us)], .v (.int .i64 (a : Int)), .v (.int .i64 (b : Int))] [] (.tup [.v (.bool (fl us a b)), .v (.int .i64 0)]) [] := by
  have hm : mayF ns us [(a : Int), (b : Int)] = 0 := by
    rw [mayF, if_pos hc, if_neg]
    simp [oddL]
    omega
  have hth := there_fn f g true ns us [(a : Int), (b : Int)] hs hu (by simp)
  rw [hm] at hth
  refine Fn.of (fn := Tryz.f217) (by kernel_rfl) rfl (by kernel_rfl) ⟨[.agg [.sl f 1 (strRow ns), .sl g 1 (u32Row us)], .v (.int .i64 (a : Int)), .v (.int .i64 (b : Int)), .v undef, .v undef, .v undef, .v undef, .v undef, .v undef, .v undef, .v undef, .v undef, .v undef, .v undef, .v undef, .v undef, .v undef, .v undef, .v undef, .v undef, .v undef], []⟩ rfl ?_
  repeat' first | (with_reducible first | refine AWP_seq' ?_ | refine k_normal ?_ | refine AWP_ret ?_ | refine AWP_skip ?_) | ((with_reducible refine AWP_reg fun KC J hJ hKC => ?_); simp (maxSteps := 10000000) only [push_cast, seval, ↓reduceIte]) | (refine' hKC _ _ _ _ _ (callV0 (flows_fn _ _ _ _ _ _ ?_ ?_) rfl rfl rfl ?_ ?_); (rotate_left 8); (· exact Lq); (rotate_left 1); (iterate 2 (· exact Hq)); simp (maxSteps := 10000000) only [push_cast, seval, ↓reduceIte]) | (refine hKC _ _ _ _ _ (callV0 (hth) rfl rfl rfl ?_ ?_); (· exact Lq); simp (maxSteps := 10000000) only [push_cast, seval, ↓reduceIte]) | ((with_reducible refine hJ _ _ ?_); clear hJ hKC KC J) | ((with_reducible refine AWP_condF ?_ ?_); · rfl)
  refine ret_plain ?_
  simp (maxSteps := 10000000) only [push_cast, seval, ↓reduceIte, show Tryz.f217.results = #[(.tmp 6), (.tmp 7)] from rfl]
  exact Lq
theorem sees_fn (f g : Bool) (ns : List ByteArray) (us : List Nat) (a o : Nat) (hs : Szs ns) (hu : U32 us) (hc : checkF ns us = 0) (ha : a < us.length) (ho : o < us.length) :
    Fn Tryz.prog 112 [.agg [.sl f 1 (strRow ns), .sl g 1 (u32Row us), .v (.int .i64 (o : Int))], .v (.int .i64 (a : Int))] [] (.v (.bool (fl us a o))) [] := by
  refine Fn.of (fn := Tryz.f112) (by kernel_rfl) rfl (by kernel_rfl) ⟨[.agg [.sl f 1 (strRow ns), .sl g 1 (u32Row us), .v (.int .i64 (o : Int))], .v (.int .i64 (a : Int)), .v undef, .v undef, .v undef, .v undef, .v undef, .v undef, .v undef, .v undef, .v undef, .v undef, .v undef, .v undef, .v undef, .v undef, .v undef], []⟩ rfl ?_
  repeat' first | (with_reducible first | refine AWP_seq' ?_ | refine k_normal ?_ | refine AWP_ret ?_) | ((with_reducible refine AWP_reg fun KC J hJ hKC => ?_); simp (maxSteps := 10000000) only [push_cast, seval, ↓reduceIte]) | (refine' hKC _ _ _ _ _ (callV0 (flowsE_fn _ _ _ _ _ _ ?_ ?_ ?_ ?_ ?_) rfl rfl rfl ?_ ?_); (rotate_left 11); (· exact Lq); (rotate_left 1); (iterate 5 (· exact Hq)); simp (maxSteps := 10000000) only [push_cast, seval, ↓reduceIte]) | ((with_reducible refine hJ _ _ ?_); clear hJ hKC KC J)
  refine ret_plain ?_
  simp (maxSteps := 10000000) only [push_cast, seval, ↓reduceIte, show Tryz.f112.results = #[(.tmp 4)] from rfl]
  exact leD_refl _
/-- A row of numbers of one's own, that grows. -/
def cellI (l : List Int) : List D := l.map fun x => .v (.int .i64 x)
theorem cellI_length (l : List Int) : (cellI l).length = l.length := by simp [cellI]
theorem ren_cellI (m : Nat → Option Nat) (l : List Int) : (cellI l).map (ren m) = cellI l := by simp [cellI, ren, ren2, ren1, ren0]
@[push_cast] theorem frz_cellI (l : List Int) : frzAll (cellI l) = true := by induction l with | nil => rfl | cons a l ih => simpa [cellI, frzAll, frz, frz0] using ih
@[push_cast] theorem fr_cellI (k g sz : Nat) (c : List D) (l : List Int) : (cellI l).map (fr1 k g sz c) = cellI l := by simp [cellI, fr1, fr0]
theorem chunk_i (l : List Int) : chunk 1 l.length (cellI l) = intRow l := chunk_one (fun x : Int => (.v (.int .i64 x) : D)) l
theorem cellI_app (l m : List Int) : cellI (l ++ m) = cellI l ++ cellI m := by simp [cellI]
/-- The same, of a row of one's own, that is handed over. -/
theorem mayK_fn (f g : Bool) (ns : List ByteArray) (us : List Nat) (L : List Int) (ge n : Nat) (hn : L.length = n) (hs : Szs ns) (hu : U32 us) (hl : L.length ≤ 1000) :
    Fn Tryz.prog 108 [.agg [.sl f 1 (strRow ns), .sl g 1 (u32Row us)], .ref 0 ge n] [.ent ⟨ge, some 1, 3, cellI L, .cells⟩] (.v (.int .i64 (mayF ns us L))) [.dead] := by
  have hcf := containsFuncI_fn false L 209 [.fad [.sl f 1 (strRow ns), .sl g 1 (u32Row us)]] (oddL us.length) (by omega) rfl (fun x _ => may1_fn f g ns us x)
  have hbm : Nat.beq ge ge = true := Nat.beq_refl ge
  have hlC : (cellI L).length = n := by rw [cellI_length, hn]
  have hcI : chunk 1 n (cellI L) = intRow L := by rw [← hn]; exact chunk_i L
  refine Fn.of (fn := Tryz.f108) (by kernel_rfl) rfl (by kernel_rfl) ⟨[.agg [.sl f 1 (strRow ns), .sl g 1 (u32Row us)], .ref 0 ge n, .v undef, .v undef, .v undef, .v undef, .v undef, .v undef, .v undef, .v undef, .v undef, .v undef, .v undef, .v undef], [.ent ⟨ge, some 1, 3, cellI L, .cells⟩]⟩ rfl ?_
  refine AWP_freeze 0 rfl (by simp (maxSteps := 10000000) only [push_cast, seval, ↓reduceIte]) ?_
  simp (maxSteps := 10000000) only [push_cast, seval, ↓reduceIte, frSt, frSlot, fr3, fr2, fr1, fr0, sameB, arrOf, hbm, hlC, hcI]
  by_cases hc : checkF ns us = 0
  · obtain ⟨x, hx⟩ : ∃ x, L.any (oddL us.length) = x := ⟨_, rfl⟩
    rw [mayF, if_pos hc, hx]
    cases x
    all_goals
      repeat' first | (refine AWP_freezeR 4 1 rfl (by (simp (maxSteps := 10000000) only [push_cast, seval, ↓reduceIte]) <;> rfl) ?_; simp (maxSteps := 10000000) only [push_cast, seval, ↓reduceIte, frSt, frSlot, fr3, fr2, fr1, fr0, sameB, arrOf, hc, hx]) | (with_reducible first | refine AWP_seq' ?_ | refine k_normal ?_ | refine k_ret ?_ | refine AWP_ret ?_ | refine AWP_skip ?_) | ((with_reducible refine AWP_reg fun KC J hJ hKC => ?_); simp (maxSteps := 10000000) only [push_cast, seval, ↓reduceIte, hc, hx]) | (refine' hKC _ _ _ _ _ (callV0 (latCheck_fn _ _ _ _ ?_ ?_) rfl rfl rfl ?_ ?_); (rotate_left 6); (· exact Lq); (rotate_left 1); (iterate 2 (· exact Hq)); simp (maxSteps := 10000000) only [push_cast, seval, ↓reduceIte, hc, hx]) | (refine hKC _ _ _ _ _ (callV0 (hcf) rfl rfl rfl ?_ ?_); (· exact Lq); simp (maxSteps := 10000000) only [push_cast, seval, ↓reduceIte, hc, hx]) | ((with_reducible refine hJ _ _ ?_); clear hJ hKC KC J) | ((with_reducible refine AWP_condT ?_ ?_); · rfl) | ((with_reducible refine AWP_condF ?_ ?_); · rfl)
      refine ret_keys ?_
      simp (maxSteps := 10000000) only [push_cast, seval, ↓reduceIte, show Tryz.f108.results = #[(.tmp 4)] from rfl]
      exact ⟨rfl, leD_refl _⟩
  · have hc' : (checkF ns us != 0) = true := by simpa using hc
    rw [mayF, if_neg hc]
    repeat' first | (with_reducible first | refine AWP_seq' ?_ | refine k_normal ?_ | refine k_ret ?_ | refine AWP_ret ?_) | ((with_reducible refine AWP_reg fun KC J hJ hKC => ?_); simp (maxSteps := 10000000) only [push_cast, seval, ↓reduceIte, hc']) | (refine' hKC _ _ _ _ _ (callV0 (latCheck_fn _ _ _ _ ?_ ?_) rfl rfl rfl ?_ ?_); (rotate_left 6); (· exact Lq); (rotate_left 1); (iterate 2 (· exact Hq)); simp (maxSteps := 10000000) only [push_cast, seval, ↓reduceIte, hc']) | ((with_reducible refine hJ _ _ ?_); clear hJ hKC KC J) | ((with_reducible refine AWP_condT ?_ ?_); · rfl)
    refine ret_keys ?_
    simp (maxSteps := 10000000) only [push_cast, seval, ↓reduceIte, show Tryz.f108.results = #[(.tmp 4)] from rfl]
    exact ⟨rfl, leD_refl _⟩
end Go.Proofs.YtabliglgeiajlaaGreat.AM
