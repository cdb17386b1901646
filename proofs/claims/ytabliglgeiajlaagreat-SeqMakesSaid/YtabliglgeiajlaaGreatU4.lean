/- Weights. -/
import Derived.Test.YtabliglgeiajlaaGreatU3
import Derived.Test.YtabliglgeiajlaaGreatU0
set_option linter.unusedSimpArgs false
set_option linter.unusedVariables false
namespace Go.Proofs.YtabliglgeiajlaaGreat.AM
open Go Go.RowKit Go.Proofs
set_option maxRecDepth 100000
set_option maxHeartbeats 400000

theorem indexFuncInt_fn (f : Bool) (xs : List Int) (cf : Nat) (caps : List D) (p : Int → Bool) (hb : xs.length ≤ 9223372036854775807) (hc : frz0All caps = true)
    (hp : ∀ x ∈ xs, Fn Tryz.prog cf (.v (.int .i64 x) :: caps) [] (.v (.bool (p x))) []) : Fn Tryz.prog 271 [.sl f 1 (intRow xs), .fn cf caps] [] (.v (.int .i64 (idxF p xs))) [] := by
  refine Fn.of (fn := Tryz.f271) (by kernel_rfl) rfl (by kernel_rfl) ⟨[.sl f 1 (intRow xs), .fn cf caps, .v undef, .v undef, .v undef, .v undef, .v undef, .v undef, .v undef, .v undef, .v undef, .v undef, .v undef, .v undef, .v undef, .v undef, .v undef, .v undef, .v undef], []⟩ rfl ?_
  repeat' first | (with_reducible first | refine AWP_seq' ?_ | refine k_normal ?_ | refine AWP_block ?_) | ((with_reducible refine AWP_reg fun KC J hJ hKC => ?_); simp (maxSteps := 10000000) only [push_cast, seval, ↓reduceIte]) | ((with_reducible refine hJ _ _ ?_); clear hJ hKC KC J)
  refine AWP_loopF (γ := {i : Nat // i ≤ xs.length ∧ ∀ (j : Nat) (hj : j < xs.length), j < i → p xs[j] = false}) (fun i => ⟨[.sl f 1 (intRow xs), .fn cf caps, .any, .any, .any, .any, .any, .v (.int .i64 xs.length), .v (.int .i64 i.1), .any, .any, .any, .any, .any, .any, .any, .any, .any, .any], []⟩) (fun i => xs.length - i.1) ⟨0, by simp⟩ ⟨?_, Fq⟩ ?_
  · exact Lq
  · rintro ⟨i, hi, hn⟩
    by_cases hlt : (i : Int) < (xs.length : Int)
    · have hx : xs[i]? = some xs[i] := List.getElem?_eq_getElem (by omega)
      have hfn := hp xs[i] (List.getElem_mem (by omega))
      repeat' first | (with_reducible first | refine AWP_seq' ?_ | refine k_normal ?_ | refine k_ret ?_ | refine b_normal ?_ | refine b_ret ?_ | refine AWP_ret ?_ | refine AWP_skip ?_ | refine AWP_block ?_) | ((with_reducible refine AWP_reg fun KC J hJ hKC => ?_); simp (maxSteps := 10000000) only [push_cast, seval, ↓reduceIte, hlt, getE_intRow hx, wrapN (i := i) (n := xs.length) (by omega) hb]) | ((with_reducible refine And.intro ?_ ?_); · exact Sq) | (refine hKC _ _ _ _ _ (callV0 (hfn) rfl rfl rfl ?_ ?_); (· exact Lq); simp (maxSteps := 10000000) only [push_cast, seval, ↓reduceIte, hlt, getE_intRow hx, wrapN (i := i) (n := xs.length) (by omega) hb]) | ((with_reducible refine hJ _ _ ?_); clear hJ hKC KC J) | ((with_reducible refine AWP_condT ?_ ?_); · rfl) | (refine AWP_cond rfl (fun h => ?_) (fun h => ?_) <;> try simp only [decide_eq_true_eq, decide_eq_false_iff_not, Bool.not_eq_true', Bool.not_eq_false', beq_iff_eq, bne_iff_ne, ne_eq, Bool.not_eq_true, Bool.or_eq_true, Bool.and_eq_true, Bool.or_eq_false_iff, Bool.and_eq_false_imp, beq_eq_false_iff_ne, bne_eq_false_iff_eq] at h)
      · refine ret_plain ?_
        simp (maxSteps := 10000000) only [push_cast, seval, ↓reduceIte, show Tryz.f271.results = #[(.tmp 4)] from rfl]
        exact leD_v (by rw [idxF_at (by omega) h hn])
      · refine ⟨⟨i + 1, by omega, fun j hj hji => ?_⟩, by simp only; omega, ?_, Fq⟩
        · by_cases he : j = i
          · subst he; exact h
          · exact hn j hj (by omega)
        · exact Lq
    · skip
      repeat' first | (with_reducible first | refine AWP_seq' ?_ | refine k_normal ?_ | refine k_exit ?_ | refine b_exit ?_ | refine AWP_ret ?_ | refine AWP_exit ?_) | ((with_reducible refine AWP_reg fun KC J hJ hKC => ?_); simp (maxSteps := 10000000) only [push_cast, seval, ↓reduceIte, hlt]) | ((with_reducible refine hJ _ _ ?_); clear hJ hKC KC J) | ((with_reducible refine AWP_condF ?_ ?_); · rfl)
      refine ret_plain ?_
      simp (maxSteps := 10000000) only [push_cast, seval, ↓reduceIte, show Tryz.f271.results = #[(.tmp 4)] from rfl]
      exact leD_v (by rw [idxF_none (fun j hj => hn j hj (by omega))])
theorem containsFuncInt_fn (f : Bool) (xs : List Int) (cf : Nat) (caps : List D) (p : Int → Bool) (hb : xs.length ≤ 9223372036854775807) (hc : frz0All caps = true)
    (hp : ∀ x ∈ xs, Fn Tryz.prog cf (.v (.int .i64 x) :: caps) [] (.v (.bool (p x))) []) : Fn Tryz.prog 208 [.sl f 1 (intRow xs), .fn cf caps] [] (.v (.bool (xs.any p))) [] := by
  refine Fn.of (fn := Tryz.f208) (by kernel_rfl) rfl (by kernel_rfl) ⟨[.sl f 1 (intRow xs), .fn cf caps, .v undef, .v undef, .v undef, .v undef, .v undef, .v undef, .v undef], []⟩ rfl ?_
  repeat' first | (with_reducible first | refine AWP_seq' ?_ | refine k_normal ?_ | refine AWP_ret ?_) | ((with_reducible refine AWP_reg fun KC J hJ hKC => ?_); simp (maxSteps := 10000000) only [push_cast, seval, ↓reduceIte]) | (refine hKC _ _ _ _ _ (callV0 (indexFuncInt_fn f xs cf caps p hb hc hp) rfl rfl rfl ?_ ?_); (· exact Lq); simp (maxSteps := 10000000) only [push_cast, seval, ↓reduceIte]) | ((with_reducible refine hJ _ _ ?_); clear hJ hKC KC J)
  refine ret_plain ?_
  simp (maxSteps := 10000000) only [push_cast, seval, ↓reduceIte, show Tryz.f208.results = #[(.tmp 4)] from rfl]
  exact leD_v (by rw [idxF_any])
theorem pickOdd_fn (x : Int) : Fn Tryz.prog 295 [.v (.int .i64 x)] [] (.v (.bool (decide (x < 0 ∨ 100 < x)))) [] := by
  refine Fn.of (fn := Tryz.f295) (by kernel_rfl) rfl (by kernel_rfl) ⟨[.v (.int .i64 x), .v undef, .v undef, .v undef, .v undef, .v undef, .v undef, .v undef, .v undef], []⟩ rfl ?_
  repeat' first | (with_reducible first | refine AWP_seq' ?_ | refine k_normal ?_ | refine AWP_ret ?_) | ((with_reducible refine AWP_reg fun KC J hJ hKC => ?_); simp (maxSteps := 10000000) only [push_cast, seval, ↓reduceIte]) | ((with_reducible refine hJ _ _ ?_); clear hJ hKC KC J) | ((with_reducible refine ite_intro (fun hs => ?_) (fun hs => ?_)) <;> (try simp only [Bool.not_eq_true, Bool.not_eq_false, Bool.not_eq_true', Bool.not_eq_false', Decidable.not_not, decide_eq_true_eq, decide_eq_false_iff_not] at hs) <;> (try simp (maxSteps := 10000000) only [push_cast, seval, ↓reduceIte, hs]))
  all_goals
    refine ret_plain ?_
    simp (maxSteps := 10000000) only [push_cast, seval, ↓reduceIte, show Tryz.f295.results = #[(.tmp 2)] from rfl]
    refine leD_v (congrArg Value.bool (Bool.eq_iff_iff.2 ?_))
    simp
    omega
def mxI (a b : Int) : Int := if a < b then b else a
def maxL : List Int → Int
  | [] => 0
  | x :: xs => xs.foldl mxI x
theorem maxL_take {ws : List Int} {i : Nat} (h0 : 0 < i) (h : i < ws.length) : maxL (ws.take (i + 1)) = mxI (maxL (ws.take i)) ws[i] := by
  cases ws with
  | nil => simp at h
  | cons x xs =>
    obtain ⟨i, rfl⟩ : ∃ k, i = k + 1 := ⟨i - 1, by omega⟩
    have h' : i < xs.length := by simpa using h
    simp only [List.take_succ_cons, maxL, List.getElem_cons_succ]
    rw [List.take_succ_eq_append_getElem h', List.foldl_append]
    rfl
theorem max_fn (f : Bool) (ws : List Int) (hl : 1 ≤ ws.length) (hb : ws.length ≤ 9223372036854775807) : Fn Tryz.prog 296 [.sl f 1 (intRow ws)] [] (.v (.int .i64 (maxL ws))) [] := by
  have hx : ws[0]? = some ws[0] := List.getElem?_eq_getElem (by omega)
  have hn : ¬ (ws.length : Int) < 1 := by omega
  refine Fn.of (fn := Tryz.f296) (by kernel_rfl) rfl (by kernel_rfl) ⟨[.sl f 1 (intRow ws), .v undef, .v undef, .v undef, .v undef, .v undef, .v undef, .v undef, .v undef, .v undef, .v undef, .v undef, .v undef, .v undef, .v undef, .v undef, .v undef, .v undef, .v undef, .v undef, .v undef, .v undef, .v undef, .v undef, .v undef], []⟩ rfl ?_
  repeat' first | (with_reducible first | refine AWP_seq' ?_ | refine k_normal ?_ | refine AWP_skip ?_ | refine AWP_block ?_) | ((with_reducible refine AWP_reg fun KC J hJ hKC => ?_); simp (maxSteps := 10000000) only [push_cast, seval, ↓reduceIte, hn, getE_intRow hx]) | ((with_reducible refine And.intro ?_ ?_); · exact Sq) | ((with_reducible refine hJ _ _ ?_); clear hJ hKC KC J) | ((with_reducible refine AWP_condF ?_ ?_); · rfl)
  refine AWP_loopF (γ := {i : Nat // 1 ≤ i ∧ i ≤ ws.length}) (fun i => ⟨[.sl f 1 (intRow ws), .any, .any, .v (.int .i64 (maxL (ws.take i.1))), .v (.int .i64 i.1), .any, .any, .any, .any, .any, .any, .any, .any, .any, .any, .any, .any, .any, .any, .any, .any, .any, .any, .any, .any], []⟩) (fun i => ws.length - i.1) ⟨1, by omega⟩ ⟨?_, Fq⟩ ?_
  · have e : ws.take 1 = [ws[0]] := by
      cases ws with
      | nil => simp at hl
      | cons x xs => simp
    simp only [e, maxL, List.foldl_nil]
    exact Lq
  · rintro ⟨i, h0, hi⟩
    by_cases hlt : (i : Int) < (ws.length : Int)
    · have hx : ws[i]? = some ws[i] := List.getElem?_eq_getElem (by omega)
      have hm := maxL_take (by omega : 0 < i) (by omega : i < ws.length)
      unfold mxI at hm
      repeat' first | (with_reducible first | refine AWP_seq' ?_ | refine k_normal ?_ | refine b_normal ?_ | refine AWP_skip ?_ | refine AWP_block ?_) | ((with_reducible refine AWP_reg fun KC J hJ hKC => ?_); simp (maxSteps := 10000000) only [push_cast, seval, ↓reduceIte, hlt, getE_intRow hx, wrapN (i := i) (n := ws.length) (by omega) hb, gt_iff_lt, ← hm]) | ((with_reducible refine And.intro ?_ ?_); · exact Sq) | ((with_reducible refine hJ _ _ ?_); clear hJ hKC KC J) | ((with_reducible refine AWP_condT ?_ ?_); · rfl)
      refine ⟨⟨i + 1, by omega⟩, by simp only; omega, ?_, Fq⟩
      exact Lq
    · have e : ws.take i = ws := List.take_of_length_le (by omega)
      repeat' first | (with_reducible first | refine AWP_seq' ?_ | refine k_normal ?_ | refine k_exit ?_ | refine b_exit ?_ | refine AWP_ret ?_ | refine AWP_exit ?_) | ((with_reducible refine AWP_reg fun KC J hJ hKC => ?_); simp (maxSteps := 10000000) only [push_cast, seval, ↓reduceIte, hlt]) | ((with_reducible refine hJ _ _ ?_); clear hJ hKC KC J) | ((with_reducible refine AWP_condF ?_ ?_); · rfl)
      refine ret_plain ?_
      simp (maxSteps := 10000000) only [push_cast, seval, ↓reduceIte, show Tryz.f296.results = #[(.tmp 2)] from rfl]
      rw [e]
      exact leD_refl _
def weightsB (ws : List Int) : Bool := decide (1 ≤ ws.length ∧ ws.length ≤ 20 ∧ (∀ w ∈ ws, 0 ≤ w ∧ w ≤ 100) ∧ 0 < ws.sum)
theorem maxL_pos : ∀ {ws : List Int} (x : Int), (∀ w ∈ ws, 0 ≤ w) → 0 ≤ x → (0 < ws.foldl mxI x ↔ 0 < x + ws.sum) ∧ 0 ≤ ws.sum
  | [], x, _, hx => by simp
  | w :: ws, x, h, hx => by
    have hw := h w (by simp)
    have ih := maxL_pos (ws := ws) (mxI x w) (fun v hv => h v (by simp [hv])) (by unfold mxI; split <;> omega)
    simp only [List.foldl_cons, List.sum_cons]
    refine ⟨ih.1.trans ?_, by omega⟩
    unfold mxI
    split <;> omega
theorem maxL_sum {ws : List Int} (h : ∀ w ∈ ws, 0 ≤ w) : 0 < maxL ws ↔ 0 < ws.sum := by
  cases ws with
  | nil => simp [maxL]
  | cons x xs =>
    have := (maxL_pos (ws := xs) x (fun v hv => h v (by simp [hv])) (h x (by simp))).1
    simpa [maxL] using this
theorem pickMay_fn (f : Bool) (ws : List Int) (hb : ws.length ≤ 9223372036854775807) : Fn Tryz.prog 287 [.sl f 1 (intRow ws)] [] (.v (.bool (weightsB ws))) [] := by
  have hcf := containsFuncInt_fn f ws 295 [] (fun x => decide (x < 0 ∨ 100 < x)) hb rfl (fun x _ => pickOdd_fn x)
  refine Fn.of (fn := Tryz.f287) (by kernel_rfl) rfl (by kernel_rfl) ⟨[.sl f 1 (intRow ws), .v undef, .v undef, .v undef, .v undef, .v undef, .v undef, .v undef, .v undef, .v undef, .v undef, .v undef, .v undef, .v undef, .v undef, .v undef, .v undef, .v undef, .v undef, .v undef, .v undef, .v undef, .v undef], []⟩ rfl ?_
  by_cases h1 : (1 : Int) ≤ ws.length
  · have hmx := max_fn f ws (by omega) hb
    repeat' first | (with_reducible first | refine AWP_seq' ?_ | refine k_normal ?_ | refine AWP_ret ?_) | ((with_reducible refine AWP_reg fun KC J hJ hKC => ?_); simp (maxSteps := 10000000) only [push_cast, seval, ↓reduceIte, h1]) | (refine' hKC _ _ _ _ _ (callV0 (max_fn _ _ ?_ ?_) rfl rfl rfl ?_ ?_); (rotate_left 4); (· exact Lq); (rotate_left 1); (iterate 2 (· exact Hq)); simp (maxSteps := 10000000) only [push_cast, seval, ↓reduceIte, h1]) | (refine hKC _ _ _ _ _ (callV0 (hcf) rfl rfl rfl ?_ ?_); (· exact Lq); simp (maxSteps := 10000000) only [push_cast, seval, ↓reduceIte, h1]) | ((with_reducible refine hJ _ _ ?_); clear hJ hKC KC J) | ((with_reducible refine ite_intro (fun hs => ?_) (fun hs => ?_)) <;> (try simp only [Bool.not_eq_true, Bool.not_eq_false, Bool.not_eq_true', Bool.not_eq_false', Decidable.not_not, decide_eq_true_eq, decide_eq_false_iff_not] at hs) <;> (try simp (maxSteps := 10000000) only [push_cast, seval, ↓reduceIte, hs, h1]))
    all_goals
      refine ret_plain ?_
      simp (maxSteps := 10000000) only [push_cast, seval, ↓reduceIte, show Tryz.f287.results = #[(.tmp 2)] from rfl]
      refine leD_v (congrArg Value.bool (Bool.eq_iff_iff.2 ?_))
      simp only [weightsB, decide_eq_true_eq, Bool.false_eq_true, false_iff]
    · have ha : ∀ w ∈ ws, 0 ≤ w ∧ w ≤ 100 := by
        intro w hw
        have := List.any_eq_false.1 hs w hw
        simp at this
        omega
      have := maxL_sum (fun w hw => (ha w hw).1)
      exact ⟨fun hm => ⟨by omega, by omega, ha, this.1 hm⟩, fun hm => this.2 hm.2.2.2⟩
    · rintro ⟨_, _, ha, _⟩
      obtain ⟨w, hw, h2⟩ := List.any_eq_true.1 hs
      have := ha w hw
      simp at h2
      omega
    · omega
  · skip
    repeat' first | (with_reducible first | refine AWP_seq' ?_ | refine k_normal ?_ | refine AWP_ret ?_) | ((with_reducible refine AWP_reg fun KC J hJ hKC => ?_); simp (maxSteps := 10000000) only [push_cast, seval, ↓reduceIte, h1]) | ((with_reducible refine hJ _ _ ?_); clear hJ hKC KC J)
    refine ret_plain ?_
    simp (maxSteps := 10000000) only [push_cast, seval, ↓reduceIte, show Tryz.f287.results = #[(.tmp 2)] from rfl]
    refine leD_v (congrArg Value.bool (Bool.eq_iff_iff.2 ?_))
    simp only [weightsB, decide_eq_true_eq, Bool.false_eq_true, false_iff]
    omega
/-! ### The weights' sums -/
theorem take_nonneg {ws : List Int} (h : ∀ w ∈ ws, 0 ≤ w ∧ w ≤ 100) (i : Nat) : 0 ≤ (ws.take i).sum ∧ (ws.take i).sum ≤ 100 * i := by
  induction i generalizing ws with
  | zero => simp
  | succ i ih =>
    cases ws with
    | nil => simp; omega
    | cons w ws =>
      have := h w (by simp)
      have := ih (ws := ws) (fun v hv => h v (by simp [hv]))
      simp only [List.take_succ_cons, List.sum_cons]
      omega
theorem take_sum_succ {ws : List Int} {i : Nat} (h : i < ws.length) : (ws.take (i + 1)).sum = (ws.take i).sum + ws[i] := by
  rw [List.take_succ_eq_append_getElem h, List.sum_append]; simp
theorem sums_fn (f : Bool) (ws : List Int) : Fn Tryz.prog 288 [.sl f 1 (intRow ws)] [] (.fn 297 [.fad [.sl f 1 (intRow ws)]]) [] := by
  refine Fn.of (fn := Tryz.f288) (by kernel_rfl) rfl (by kernel_rfl) ⟨[.sl f 1 (intRow ws), .v undef, .v undef, .v undef], []⟩ rfl ?_
  repeat' first | (with_reducible first | refine AWP_seq' ?_ | refine k_normal ?_) | ((with_reducible refine AWP_reg fun KC J hJ hKC => ?_); simp (maxSteps := 10000000) only [push_cast, seval, ↓reduceIte]) | ((with_reducible refine hJ _ _ ?_); clear hJ hKC KC J)
  refine AWP_freeze 0 rfl (by simp (maxSteps := 10000000) only [push_cast, seval, ↓reduceIte]) ?_
  simp (maxSteps := 10000000) only [push_cast, seval, ↓reduceIte, frSt, frSlot, fr3, fr2, fr1, fr0, sameB, arrOf, List.drop_zero]
  refine AWP_ret ?_
  refine ret_plain ?_
  simp (maxSteps := 10000000) only [push_cast, seval, ↓reduceIte, show Tryz.f288.results = #[(.tmp 2)] from rfl]
  exact Lq
theorem sums_it (f : Bool) (ws : List Int) (hw : ∀ w ∈ ws, 0 ≤ w ∧ w ≤ 100) (hl : ws.length ≤ 1000) :
    ItFn Tryz.prog 297 [.fad [.sl f 1 (intRow ws)]] ws.length (fun i => [.v (.int .i64 (i : Int)), .v (.int .i64 (ws.take (i + 1)).sum)]) := by
  intro m inv ok frr rr hrec hcl hlen hy n hn
  refine Fn.of (fn := Tryz.f297) (by kernel_rfl) rfl (by kernel_rfl) ⟨[.kref false m 0, .fad [.sl f 1 (intRow ws)], .v undef, .v undef, .v undef, .v undef, .v undef, .v undef, .v undef, .v undef, .v undef, .v undef, .v undef, .v undef, .v undef, .v undef, .v undef, .v undef, .v undef, .v undef, .v undef, .v undef], inv 0⟩ rfl ?_
  repeat' first | (with_reducible first | refine AWP_seq' ?_ | refine k_normal ?_ | refine AWP_block ?_) | ((with_reducible refine AWP_reg fun KC J hJ hKC => ?_); simp (maxSteps := 10000000) only [push_cast, seval, ↓reduceIte]) | ((with_reducible refine hJ _ _ ?_); clear hJ hKC KC J)
  refine AWP_loopF (γ := {i : Nat // i ≤ ws.length ∧ ∀ j, j < i → ok j = true}) (fun i => ⟨[.kref false m 0, .fad [.sl f 1 (intRow ws)], .any, .v (.int .i64 (ws.take i.1).sum), .any, .any, .sl f 1 (intRow ws), .v (.int .i64 ws.length), .v (.int .i64 i.1), .any, .any, .any, .any, .any, .any, .any, .any, .any, .any, .any, .any, .any], inv i.1⟩) (fun i => ws.length - i.1) ⟨0, by simp⟩ ⟨?_, Fq⟩ ?_
  · exact Lq
  · rintro ⟨i, hi, hok⟩
    by_cases hlt : (i : Int) < (ws.length : Int)
    · have hx : ws[i]? = some ws[i] := List.getElem?_eq_getElem (by omega)
      have hb := take_nonneg hw i
      have hwi := hw ws[i] (List.getElem_mem _)
      have hs : IntKind.i64.wrap ((ws.take i).sum + ws[i]) = (ws.take (i + 1)).sum := by rw [take_sum_succ (by omega), wrapI (by omega) (by omega)]
      have hyi := hy i (by omega) hok
      have hL : (inv (i + 1)).length = (inv i).length := by rw [hlen, hlen]
      have hset := setsF_pre (rest := [Slot.free]) hL
      have hj1 : ok i = true → ∀ j, j < i + 1 → ok j = true := fun h j hj => by
        by_cases he : j = i
        · rw [he]; exact h
        · exact hok j (by omega)
      cases hoki : ok i with
      | true =>
        rw [hoki] at hyi
        repeat' first | (with_reducible first | refine AWP_seq' ?_ | refine k_normal ?_ | refine b_normal ?_ | refine AWP_skip ?_ | refine AWP_block ?_) | ((with_reducible refine AWP_reg fun KC J hJ hKC => ?_); simp (maxSteps := 10000000) only [push_cast, seval, ↓reduceIte, hlt, getE_intRow hx, hs, hset, wrapN (i := i) (n := ws.length) (by omega) (by omega)]) | ((with_reducible refine And.intro ?_ ?_); · exact Sq) | (refine hKC _ _ _ _ _ (callY hyi (hrec i) (hcl i) (hcl (i + 1)) hL rfl (Nat.le_refl _) rfl rfl rfl rfl ?_); simp (maxSteps := 10000000) only [push_cast, seval, ↓reduceIte, hlt, getE_intRow hx, hs, hset, wrapN (i := i) (n := ws.length) (by omega) (by omega)]) | ((with_reducible refine hJ _ _ ?_); clear hJ hKC KC J) | ((with_reducible refine AWP_condT ?_ ?_); · rfl) | ((with_reducible refine AWP_condF ?_ ?_); · rfl)
        refine ⟨⟨i + 1, by omega, hj1 hoki⟩, by simp only; omega, ?_, Fq⟩
        exact Lq
      | false =>
        rw [hoki] at hyi
        repeat' first | (with_reducible first | refine AWP_seq' ?_ | refine k_normal ?_ | refine k_ret ?_ | refine b_ret ?_ | refine AWP_ret ?_ | refine AWP_skip ?_ | refine AWP_block ?_) | ((with_reducible refine AWP_reg fun KC J hJ hKC => ?_); simp (maxSteps := 10000000) only [push_cast, seval, ↓reduceIte, hlt, getE_intRow hx, hs, hset, wrapN (i := i) (n := ws.length) (by omega) (by omega)]) | ((with_reducible refine And.intro ?_ ?_); · exact Sq) | (refine hKC _ _ _ _ _ (callY hyi (hrec i) (hcl i) (hcl (i + 1)) hL rfl (Nat.le_refl _) rfl rfl rfl rfl ?_); simp (maxSteps := 10000000) only [push_cast, seval, ↓reduceIte, hlt, getE_intRow hx, hs, hset, wrapN (i := i) (n := ws.length) (by omega) (by omega)]) | ((with_reducible refine hJ _ _ ?_); clear hJ hKC KC J) | ((with_reducible refine AWP_condT ?_ ?_); · rfl)
        have hni : n = i + 1 := by
          rcases hn with ⟨h1, h2⟩ | ⟨k, h1, h2, h3, h4⟩
          · have := h2 i (by omega); rw [hoki] at this; cases this
          · rcases Nat.lt_trichotomy k i with h | h | h
            · have := hok k h; rw [h3] at this; cases this
            · omega
            · have := h4 i h; rw [hoki] at this; cases this
        rw [hni]
        exact ret_it 1 (.inr rfl) rfl rfl (hcl _) (by rw [hlen, hlen])
    · have hni : n = i := by
        rcases hn with ⟨h1, h2⟩ | ⟨k, h1, h2, h3, h4⟩
        · omega
        · have := hok k (by omega); rw [h3] at this; cases this
      repeat' first | (with_reducible first | refine AWP_seq' ?_ | refine k_normal ?_ | refine k_exit ?_ | refine b_exit ?_ | refine AWP_exit ?_) | ((with_reducible refine AWP_reg fun KC J hJ hKC => ?_); simp (maxSteps := 10000000) only [push_cast, seval, ↓reduceIte, hlt]) | ((with_reducible refine hJ _ _ ?_); clear hJ hKC KC J) | ((with_reducible refine AWP_condF ?_ ?_); · rfl)
      rw [hni]
      exact ret_it 0 (.inl rfl) rfl (by simp) (hcl _) (by rw [hlen, hlen])
end Go.Proofs.YtabliglgeiajlaaGreat.AM
