/- What edges make: order.Of. -/
import Derived.Test.YtabliglgeiajlaaX1
import Derived.Test.YtabliglgeiajlaaR1
import Derived.Test.YtabliglgeiajlaaAmS
set_option linter.unusedSimpArgs false
set_option linter.unusedVariables false
namespace Go.Proofs.Ytabliglgeiajlaa.AM
open Go Go.RowKit Go.Proofs
set_option maxRecDepth 100000
set_option maxHeartbeats 1000000

def oddB (n : Nat) (e : Int × Int) : Bool := decide (e.1 < 0) || (decide ((n : Int) ≤ e.1) || (decide (e.2 < 0) || decide ((n : Int) ≤ e.2)))
theorem oddB_no {n : Nat} {e : Int × Int} (h : oddB n e = false) : ∃ a b : Nat, e = ((a : Int), (b : Int)) ∧ a < n ∧ b < n := by
  simp only [oddB, Bool.or_eq_false_iff, decide_eq_false_iff_not] at h
  obtain ⟨h1, h2, h3, h4⟩ := h
  refine ⟨e.1.toNat, e.2.toNat, ?_, by omega, by omega⟩
  rw [Int.toNat_of_nonneg (by omega), Int.toNat_of_nonneg (by omega)]
def natE (l : List (Int × Int)) : List (Nat × Nat) := l.map fun e => (e.1.toNat, e.2.toNat)
noncomputable def ofF (ns : List ByteArray) (l : List (Int × Int)) : List ByteArray × List Nat × Int :=
  if ¬ (1 ≤ ns.length ∧ ns.length ≤ 8) then ([], [], 1) else if 64 < l.length then ([], [], 8) else if l.any (oddB ns.length) = true then ([], [], 9)
  else if checkF ns (closU ns.length (natE l)) = 0 then (ns, closU ns.length (natE l), 0) else ([], [], checkF ns (closU ns.length (natE l)))
theorem odd_fn (n : Nat) (e : Int × Int) : Fn Try.prog 117 [.agg [.v (.int .i64 e.1), .v (.int .i64 e.2)], .fad [.v (.int .i64 (n : Int))]] [] (.v (.bool (oddB n e))) [] := by
  refine Fn.of (fn := Try.f117) (by kernel_rfl) rfl (by kernel_rfl) ⟨[.agg [.v (.int .i64 e.1), .v (.int .i64 e.2)], .fad [.v (.int .i64 (n : Int))], .v undef, .v undef, .v undef, .v undef, .v undef, .v undef, .v undef, .v undef, .v undef, .v undef, .v undef, .v undef, .v undef, .v undef, .v undef, .v undef, .v undef, .v undef, .v undef, .v undef, .v undef, .v undef], []⟩ rfl ?_
  obtain ⟨x, hx⟩ : ∃ x, decide (e.1 < 0) = x := ⟨_, rfl⟩
  obtain ⟨y, hy⟩ : ∃ x, decide ((n : Int) ≤ e.1) = x := ⟨_, rfl⟩
  obtain ⟨z, hz⟩ : ∃ x, decide (e.2 < 0) = x := ⟨_, rfl⟩
  rw [oddB, hx, hy, hz]
  rcases x with _ | _
  rcases y with _ | _
  rcases z with _ | _
  all_goals
    repeat' first
      | with_reducible first | refine AWP_seq' ?_ | refine k_normal ?_ | refine k_ret ?_ | refine k_exit ?_ | refine b_normal ?_ | refine b_ret ?_ | refine b_exit ?_ | refine b_pass rfl ?_ | refine AWP_ret ?_ | refine AWP_skip ?_ | refine AWP_exit ?_ | refine AWP_block ?_
      | ((with_reducible first | refine AWP_reg fun KC J hJ hKC => ?_ | refine AWP_regD rfl fun KC J hJ hKC => ?_); simp (maxSteps := 10000000) only [push_cast, seval, ↓reduceIte, hx, hy, hz, undef])
      | ((with_reducible refine And.intro ?_ ?_); · first | trivial | omega | assumption | (simp; done) | (simp; omega))
      | ((first | with_reducible refine hJ _ _ ?_ | (with_reducible refine hJ _ _ ?_ ?_; · kernel_rfl)); clear hJ hKC KC J)
      | ((with_reducible refine AWP_condT ?_ ?_); · rfl)
      | ((with_reducible refine AWP_condF ?_ ?_); · rfl)
      | ((with_reducible refine ite_intro (fun hs => ?_) (fun hs => ?_)) <;> (try simp only [Bool.not_eq_true, Bool.not_eq_false, Bool.not_eq_true', Bool.not_eq_false', Decidable.not_not, decide_eq_true_eq, decide_eq_false_iff_not] at hs) <;> (try simp (maxSteps := 10000000) only [push_cast, seval, ↓reduceIte, hs, hx, hy, hz, undef]))
      | (refine AWP_cond rfl (fun h => ?_) (fun h => ?_) <;> try simp only [decide_eq_true_eq, decide_eq_false_iff_not, Bool.not_eq_true', Bool.not_eq_false', beq_iff_eq, bne_iff_ne, ne_eq, Bool.not_eq_true, Bool.or_eq_true, Bool.and_eq_true, Bool.or_eq_false_iff, Bool.and_eq_false_imp, beq_eq_false_iff_ne, bne_eq_false_iff_eq] at h)
    refine ret_plain ?_
    simp (maxSteps := 10000000) only [push_cast, seval, ↓reduceIte, show Try.f117.results = #[(.tmp 3)] from rfl]
    exact leD_refl _
theorem indexFuncE_fn (f : Bool) (xs : List (Int × Int)) (cf : Nat) (caps : List D) (p : Int × Int → Bool) (hb : xs.length ≤ 9223372036854775807) (hc : frz0All caps = true)
    (hp : ∀ x ∈ xs, Fn Try.prog cf (.agg [.v (.int .i64 x.1), .v (.int .i64 x.2)] :: caps) [] (.v (.bool (p x))) []) : Fn Try.prog 209 [.sl f 2 (pRow xs), .fn cf caps] [] (.v (.int .i64 (idxF p xs))) [] := by
  refine Fn.of (fn := Try.f209) (by kernel_rfl) rfl (by kernel_rfl) ⟨[.sl f 2 (pRow xs), .fn cf caps, .v undef, .v undef, .v undef, .v undef, .v undef, .v undef, .v undef, .v undef, .v undef, .v undef, .v undef, .v undef, .v undef, .v undef, .v undef, .v undef, .v undef], []⟩ rfl ?_
  repeat' first
    | with_reducible first | refine AWP_seq' ?_ | refine k_normal ?_ | refine k_ret ?_ | refine k_exit ?_ | refine b_normal ?_ | refine b_ret ?_ | refine b_exit ?_ | refine b_pass rfl ?_ | refine AWP_ret ?_ | refine AWP_skip ?_ | refine AWP_exit ?_ | refine AWP_block ?_
    | ((with_reducible first | refine AWP_reg fun KC J hJ hKC => ?_ | refine AWP_regD rfl fun KC J hJ hKC => ?_); simp (maxSteps := 10000000) only [push_cast, seval, ↓reduceIte])
    | ((with_reducible refine And.intro ?_ ?_); · first | trivial | omega | assumption | (simp; done) | (simp; omega))
    | ((first | with_reducible refine hJ _ _ ?_ | (with_reducible refine hJ _ _ ?_ ?_; · kernel_rfl)); clear hJ hKC KC J)
    | ((with_reducible refine AWP_condT ?_ ?_); · rfl)
    | ((with_reducible refine AWP_condF ?_ ?_); · rfl)
    | ((with_reducible refine ite_intro (fun hs => ?_) (fun hs => ?_)) <;> (try simp only [Bool.not_eq_true, Bool.not_eq_false, Bool.not_eq_true', Bool.not_eq_false', Decidable.not_not, decide_eq_true_eq, decide_eq_false_iff_not] at hs) <;> (try simp (maxSteps := 10000000) only [push_cast, seval, ↓reduceIte, hs]))
    | (refine AWP_cond rfl (fun h => ?_) (fun h => ?_) <;> try simp only [decide_eq_true_eq, decide_eq_false_iff_not, Bool.not_eq_true', Bool.not_eq_false', beq_iff_eq, bne_iff_ne, ne_eq, Bool.not_eq_true, Bool.or_eq_true, Bool.and_eq_true, Bool.or_eq_false_iff, Bool.and_eq_false_imp, beq_eq_false_iff_ne, bne_eq_false_iff_eq] at h)
  refine AWP_loopF (γ := {i : Nat // i ≤ xs.length ∧ ∀ (j : Nat) (hj : j < xs.length), j < i → p xs[j] = false}) (fun i => ⟨[.sl f 2 (pRow xs), .fn cf caps, .any, .any, .any, .any, .any, .v (.int .i64 xs.length), .v (.int .i64 i.1), .any, .any, .any, .any, .any, .any, .any, .any, .any, .any], []⟩) (fun i => xs.length - i.1) ⟨0, by simp⟩ ⟨?_, (by first | exact ⟨0, (List.append_nil _).symm⟩ | exact ⟨1, rfl⟩ | exact ⟨2, rfl⟩ | exact ⟨3, rfl⟩ | exact ⟨4, rfl⟩ | exact ⟨5, rfl⟩ | exact ⟨6, rfl⟩ | exact ⟨7, rfl⟩ | exact ⟨8, rfl⟩)⟩ ?_
  · repeat' first | exact leF_nil | refine leD_tup ?_ | refine leF1_cons ?_ ?_ | exact leF1_nil | exact leD1_refl _ | refine leD1_agg ?_ | refine leF_cons ?_ ?_ | exact leD_refl _ | exact leD_nil | exact leD_any | exact .inl leD0_nil | exact leF_caps (by assumption) | exact leD_fn (by assumption) | refine leD_agg ?_ | refine leF0_cons ?_ ?_ | exact leF0_nil | exact leD0_refl _ | exact leD0_nil | exact leD0_any
  · rintro ⟨i, hi, hn⟩
    by_cases hlt : (i : Int) < (xs.length : Int)
    · have hx : xs[i]? = some xs[i] := List.getElem?_eq_getElem (by omega)
      have hfn := hp xs[i] (List.getElem_mem (by omega))
      repeat' first
        | with_reducible first | refine AWP_seq' ?_ | refine k_normal ?_ | refine k_ret ?_ | refine k_exit ?_ | refine b_normal ?_ | refine b_ret ?_ | refine b_exit ?_ | refine b_pass rfl ?_ | refine AWP_ret ?_ | refine AWP_skip ?_ | refine AWP_exit ?_ | refine AWP_block ?_
        | ((with_reducible first | refine AWP_reg fun KC J hJ hKC => ?_ | refine AWP_regD rfl fun KC J hJ hKC => ?_); simp (maxSteps := 10000000) only [push_cast, seval, ↓reduceIte, hlt, getE_p hx, wrapN (i := i) (n := xs.length) (by omega) hb])
        | ((with_reducible refine And.intro ?_ ?_); · first | trivial | omega | assumption | (simp; done) | (simp; omega))
        | first | (refine hKC _ _ _ _ _ (callV0 (hfn) rfl rfl rfl ?_ ?_); (· (repeat' first | exact leF_nil | refine leD_tup ?_ | refine leF1_cons ?_ ?_ | exact leF1_nil | exact leD1_refl _ | refine leD1_agg ?_ | refine leF_cons ?_ ?_ | exact leD_refl _ | exact leD_nil | exact leD_any | exact .inl leD0_nil | exact leF_caps (by assumption) | exact leD_fn (by assumption) | refine leD_agg ?_ | refine leF0_cons ?_ ?_ | exact leF0_nil | exact leD0_refl _ | exact leD0_nil | exact leD0_any)); simp (maxSteps := 10000000) only [push_cast, seval, ↓reduceIte, hlt, getE_p hx, wrapN (i := i) (n := xs.length) (by omega) hb])
        | ((first | with_reducible refine hJ _ _ ?_ | (with_reducible refine hJ _ _ ?_ ?_; · kernel_rfl)); clear hJ hKC KC J)
        | ((with_reducible refine AWP_condT ?_ ?_); · rfl)
        | ((with_reducible refine AWP_condF ?_ ?_); · rfl)
        | ((with_reducible refine ite_intro (fun hs => ?_) (fun hs => ?_)) <;> (try simp only [Bool.not_eq_true, Bool.not_eq_false, Bool.not_eq_true', Bool.not_eq_false', Decidable.not_not, decide_eq_true_eq, decide_eq_false_iff_not] at hs) <;> (try simp (maxSteps := 10000000) only [push_cast, seval, ↓reduceIte, hs, hlt, getE_p hx, wrapN (i := i) (n := xs.length) (by omega) hb]))
        | (refine AWP_cond rfl (fun h => ?_) (fun h => ?_) <;> try simp only [decide_eq_true_eq, decide_eq_false_iff_not, Bool.not_eq_true', Bool.not_eq_false', beq_iff_eq, bne_iff_ne, ne_eq, Bool.not_eq_true, Bool.or_eq_true, Bool.and_eq_true, Bool.or_eq_false_iff, Bool.and_eq_false_imp, beq_eq_false_iff_ne, bne_eq_false_iff_eq] at h)
      · refine ret_plain ?_
        simp (maxSteps := 10000000) only [push_cast, seval, ↓reduceIte, show Try.f209.results = #[(.tmp 4)] from rfl]
        exact leD_v (by rw [idxF_at (by omega) h hn])
      · refine ⟨⟨i + 1, by omega, fun j hj hji => ?_⟩, by simp only; omega, ?_, (by first | exact ⟨0, (List.append_nil _).symm⟩ | exact ⟨1, rfl⟩ | exact ⟨2, rfl⟩ | exact ⟨3, rfl⟩ | exact ⟨4, rfl⟩ | exact ⟨5, rfl⟩ | exact ⟨6, rfl⟩ | exact ⟨7, rfl⟩ | exact ⟨8, rfl⟩)⟩
        · by_cases he : j = i
          · subst he; exact h
          · exact hn j hj (by omega)
        · repeat' first | exact leF_nil | refine leD_tup ?_ | refine leF1_cons ?_ ?_ | exact leF1_nil | exact leD1_refl _ | refine leD1_agg ?_ | refine leF_cons ?_ ?_ | exact leD_refl _ | exact leD_nil | exact leD_any | exact .inl leD0_nil | exact leF_caps (by assumption) | exact leD_fn (by assumption) | refine leD_agg ?_ | refine leF0_cons ?_ ?_ | exact leF0_nil | exact leD0_refl _ | exact leD0_nil | exact leD0_any
    · skip
      repeat' first
        | with_reducible first | refine AWP_seq' ?_ | refine k_normal ?_ | refine k_ret ?_ | refine k_exit ?_ | refine b_normal ?_ | refine b_ret ?_ | refine b_exit ?_ | refine b_pass rfl ?_ | refine AWP_ret ?_ | refine AWP_skip ?_ | refine AWP_exit ?_ | refine AWP_block ?_
        | ((with_reducible first | refine AWP_reg fun KC J hJ hKC => ?_ | refine AWP_regD rfl fun KC J hJ hKC => ?_); simp (maxSteps := 10000000) only [push_cast, seval, ↓reduceIte, hlt])
        | ((with_reducible refine And.intro ?_ ?_); · first | trivial | omega | assumption | (simp; done) | (simp; omega))
        | ((first | with_reducible refine hJ _ _ ?_ | (with_reducible refine hJ _ _ ?_ ?_; · kernel_rfl)); clear hJ hKC KC J)
        | ((with_reducible refine AWP_condT ?_ ?_); · rfl)
        | ((with_reducible refine AWP_condF ?_ ?_); · rfl)
        | ((with_reducible refine ite_intro (fun hs => ?_) (fun hs => ?_)) <;> (try simp only [Bool.not_eq_true, Bool.not_eq_false, Bool.not_eq_true', Bool.not_eq_false', Decidable.not_not, decide_eq_true_eq, decide_eq_false_iff_not] at hs) <;> (try simp (maxSteps := 10000000) only [push_cast, seval, ↓reduceIte, hs, hlt]))
        | (refine AWP_cond rfl (fun h => ?_) (fun h => ?_) <;> try simp only [decide_eq_true_eq, decide_eq_false_iff_not, Bool.not_eq_true', Bool.not_eq_false', beq_iff_eq, bne_iff_ne, ne_eq, Bool.not_eq_true, Bool.or_eq_true, Bool.and_eq_true, Bool.or_eq_false_iff, Bool.and_eq_false_imp, beq_eq_false_iff_ne, bne_eq_false_iff_eq] at h)
      refine ret_plain ?_
      simp (maxSteps := 10000000) only [push_cast, seval, ↓reduceIte, show Try.f209.results = #[(.tmp 4)] from rfl]
      exact leD_v (by rw [idxF_none (fun j hj => hn j hj (by omega))])
theorem containsFuncE_fn (f : Bool) (xs : List (Int × Int)) (cf : Nat) (caps : List D) (p : Int × Int → Bool) (hb : xs.length ≤ 9223372036854775807) (hc : frz0All caps = true)
    (hp : ∀ x ∈ xs, Fn Try.prog cf (.agg [.v (.int .i64 x.1), .v (.int .i64 x.2)] :: caps) [] (.v (.bool (p x))) []) : Fn Try.prog 118 [.sl f 2 (pRow xs), .fn cf caps] [] (.v (.bool (xs.any p))) [] := by
  have hfn := indexFuncE_fn f xs cf caps p hb hc hp
  refine Fn.of (fn := Try.f118) (by kernel_rfl) rfl (by kernel_rfl) ⟨[.sl f 2 (pRow xs), .fn cf caps, .v undef, .v undef, .v undef, .v undef, .v undef, .v undef, .v undef], []⟩ rfl ?_
  repeat' first
    | with_reducible first | refine AWP_seq' ?_ | refine k_normal ?_ | refine k_ret ?_ | refine k_exit ?_ | refine b_normal ?_ | refine b_ret ?_ | refine b_exit ?_ | refine b_pass rfl ?_ | refine AWP_ret ?_ | refine AWP_skip ?_ | refine AWP_exit ?_ | refine AWP_block ?_
    | ((with_reducible first | refine AWP_reg fun KC J hJ hKC => ?_ | refine AWP_regD rfl fun KC J hJ hKC => ?_); simp (maxSteps := 10000000) only [push_cast, seval, ↓reduceIte, idxF_any])
    | ((with_reducible refine And.intro ?_ ?_); · first | trivial | omega | assumption | (simp; done) | (simp; omega))
    | first | (refine hKC _ _ _ _ _ (callV0 (hfn) rfl rfl rfl ?_ ?_); (· (repeat' first | exact leF_nil | refine leD_tup ?_ | refine leF1_cons ?_ ?_ | exact leF1_nil | exact leD1_refl _ | refine leD1_agg ?_ | refine leF_cons ?_ ?_ | exact leD_refl _ | exact leD_nil | exact leD_any | exact .inl leD0_nil | exact leF_caps (by assumption) | exact leD_fn (by assumption) | refine leD_agg ?_ | refine leF0_cons ?_ ?_ | exact leF0_nil | exact leD0_refl _ | exact leD0_nil | exact leD0_any)); simp (maxSteps := 10000000) only [push_cast, seval, ↓reduceIte, idxF_any])
    | ((first | with_reducible refine hJ _ _ ?_ | (with_reducible refine hJ _ _ ?_ ?_; · kernel_rfl)); clear hJ hKC KC J)
    | ((with_reducible refine AWP_condT ?_ ?_); · rfl)
    | ((with_reducible refine AWP_condF ?_ ?_); · rfl)
    | ((with_reducible refine ite_intro (fun hs => ?_) (fun hs => ?_)) <;> (try simp only [Bool.not_eq_true, Bool.not_eq_false, Bool.not_eq_true', Bool.not_eq_false', Decidable.not_not, decide_eq_true_eq, decide_eq_false_iff_not] at hs) <;> (try simp (maxSteps := 10000000) only [push_cast, seval, ↓reduceIte, hs, idxF_any]))
    | (refine AWP_cond rfl (fun h => ?_) (fun h => ?_) <;> try simp only [decide_eq_true_eq, decide_eq_false_iff_not, Bool.not_eq_true', Bool.not_eq_false', beq_iff_eq, bne_iff_ne, ne_eq, Bool.not_eq_true, Bool.or_eq_true, Bool.and_eq_true, Bool.or_eq_false_iff, Bool.and_eq_false_imp, beq_eq_false_iff_ne, bne_eq_false_iff_eq] at h)
  refine ret_plain ?_
  simp (maxSteps := 10000000) only [push_cast, seval, ↓reduceIte, show Try.f118.results = #[(.tmp 4)] from rfl]
  exact leD_refl _
/-! ### Each label flows to itself -/
def oneL : Nat → List Nat
  | 0 => []
  | i + 1 => oneL i ++ [1 <<< i]
theorem oneL_length (i : Nat) : (oneL i).length = i := by induction i with | zero => rfl | succ i ih => simp [oneL, ih]
theorem oneL_get : ∀ (k a : Nat), a < k → (oneL k).getD a 0 = 1 <<< a
  | k + 1, a, h => by
    rw [oneL, List.getD_eq_getElem?_getD]
    by_cases e : a = k
    · subst e
      rw [List.getElem?_append_right (by rw [oneL_length]; omega), oneL_length]; simp
    · rw [List.getElem?_append_left (by rw [oneL_length]; omega), ← List.getD_eq_getElem?_getD]
      exact oneL_get k a (by omega)
theorem cellU_length (l : List Nat) : (cellU l).length = l.length := by simp [cellU]
theorem cellU_set (l : List Nat) {a : Nat} (v : Nat) (h : a < l.length) : cellU (l.set a v) = (cellU l).take a ++ [.v (.int .u32 (uv v))] ++ (cellU l).drop (a + 1) := by
  rw [List.set_eq_take_append_cons_drop, if_pos h]
  simp [cellU, List.map_take, List.map_drop]
theorem getF_cellU {l : List Nat} {a : Nat} (h : a < l.length) : getF (cellU l) a = .v (.int .u32 (uv (l.getD a 0))) := getF_map _ l a _ (getD_of 0 h)
/-! ### What rises -/
def room (c : Nat) (us : List Nat) : Nat := (us.map fun u => c - u).sum
theorem room_lt : ∀ {us : List Nat} {a v c : Nat}, a < us.length → us.getD a 0 < v → v ≤ c → room c (us.set a v) < room c us
  | u :: us, 0, v, c, _, h2, h3 => by simp [room] at *; omega
  | u :: us, a + 1, v, c, h1, h2, h3 => by
    have := room_lt (us := us) (a := a) (v := v) (c := c) (by simpa using h1) (by simpa using h2) h3
    simp [room] at *
    omega
structure Inv (n : Nat) (es : List (Nat × Nat)) (us : List Nat) : Prop where
  len : us.length = n
  low : ∀ a, a < n → us.getD a 0 < 2 ^ n
  self : ∀ a, a < n → fl us a a = true
  sound : ∀ a, a < n → ∀ b, fl us a b = true → Reach es a b
theorem Inv.u32 {n : Nat} {es : List (Nat × Nat)} {us : List Nat} (h : Inv n es us) (hn : n ≤ 8) : U32 us := by
  intro u hu
  obtain ⟨a, ha, rfl⟩ := List.mem_iff_getElem.1 hu
  have := h.low a (by rw [← h.len]; exact ha)
  rw [← get_getD ha] at this
  exact Nat.lt_of_lt_of_le this (Nat.pow_le_pow_right (by decide) (by omega))
theorem inv_one (n : Nat) (es : List (Nat × Nat)) : Inv n es (oneL n) := by
  refine ⟨oneL_length n, fun a ha => ?_, fun a ha => ?_, fun a ha b hb => ?_⟩
  · rw [oneL_get n a ha, Nat.one_shiftLeft]; exact Nat.pow_lt_pow_right (by decide) ha
  · rw [fl, oneL_get n a ha, Nat.one_shiftLeft, Nat.testBit_two_pow_self]
  · rw [fl, oneL_get n a ha, Nat.one_shiftLeft, Nat.testBit_two_pow] at hb
    have : a = b := by simpa using hb
    subst this; exact .refl
theorem setD (us : List Nat) {a b : Nat} (v : Nat) (h : a < us.length) : (us.set a v).getD b 0 = if b = a then v else us.getD b 0 := by
  simp only [List.getD_eq_getElem?_getD, List.getElem?_set]
  by_cases e : a = b
  · subst e; simp [h]
  · have e' : ¬ b = a := fun h => e h.symm
    simp [e, e']
theorem or_gt {x y : Nat} (hx : x < 2 ^ 32) (hy : y < 2 ^ 32) (h : ¬ anB y x = 0) : x < x ||| anB y x := by
  refine Nat.lt_of_le_of_ne Nat.left_le_or fun e => h ?_
  refine Nat.eq_of_testBit_eq fun i => ?_
  rw [Nat.zero_testBit, anB_bit hy hx]
  have hb : x.testBit i = (x.testBit i || (anB y x).testBit i) := by rw [← Nat.testBit_or, ← e]
  rw [anB_bit hy hx] at hb
  revert hb
  cases x.testBit i <;> cases y.testBit i <;> simp
theorem Inv.step {n : Nat} {es : List (Nat × Nat)} {us : List Nat} (h : Inv n es us) (hn : n ≤ 8) {a b : Nat} (ha : a < n) (hb : b < n) (he : (a, b) ∈ es) (hm : ¬ anB (us.getD b 0) (us.getD a 0) = 0) :
    Inv n es (us.set a (us.getD a 0 ||| anB (us.getD b 0) (us.getD a 0))) ∧ room (2 ^ n) (us.set a (us.getD a 0 ||| anB (us.getD b 0) (us.getD a 0))) < room (2 ^ n) us := by
  have hu := h.u32 hn
  have hal : a < us.length := by rw [h.len]; exact ha
  have hbl : b < us.length := by rw [h.len]; exact hb
  have hlow : us.getD a 0 ||| anB (us.getD b 0) (us.getD a 0) < 2 ^ n := Nat.or_lt_two_pow (h.low a ha) (Nat.lt_of_le_of_lt Nat.and_le_left (h.low b hb))
  refine ⟨⟨by rw [List.length_set]; exact h.len, fun c hc => ?_, fun c hc => ?_, fun c hc d hd => ?_⟩, room_lt hal (or_gt (hu.get hal) (hu.get hbl) hm) (by omega)⟩
  · rw [setD us _ hal]
    split
    · exact hlow
    · exact h.low c hc
  · rw [fl, setD us _ hal]
    split
    · rename_i e
      subst e
      rw [Nat.testBit_or]
      have := h.self c hc
      rw [fl] at this
      rw [this]; rfl
    · exact h.self c hc
  · rw [fl, setD us _ hal] at hd
    split at hd
    · rename_i e
      subst e
      rw [Nat.testBit_or, Bool.or_eq_true] at hd
      rcases hd with hd | hd
      · exact h.sound c hc d hd
      · rw [anB_bit (hu.get hbl) (hu.get hal)] at hd
        simp only [Bool.and_eq_true] at hd
        exact Reach.front he (h.sound b hb d hd.1)
    · exact h.sound c hc d hd
theorem Inv.done {n : Nat} {es : List (Nat × Nat)} {us : List Nat} (h : Inv n es us) (hn : n ≤ 8) (hes : InN n es) (hall : ∀ e ∈ es, anB (us.getD e.2 0) (us.getD e.1 0) = 0) : us = closU n es := by
  have hu := h.u32 hn
  refine clo_eq hes h.len h.low h.self h.sound fun e he c hc => ?_
  have h1 := hes e he
  exact (anB_zero (hu.get (by rw [h.len]; exact h1.2)) (hu.get (by rw [h.len]; exact h1.1))).1 (hall e he) c hc
theorem natE_in {n : Nat} {l : List (Int × Int)} (h : l.any (oddB n) = false) : InN n (natE l) := by
  intro e he
  obtain ⟨x, hx, rfl⟩ := List.mem_map.1 he
  rw [List.any_eq_false] at h
  obtain ⟨a, b, rfl, ha, hb⟩ := oddB_no (by simpa using h x hx)
  exact ⟨by simpa using ha, by simpa using hb⟩
theorem ren_cellU (m : Nat → Option Nat) (l : List Nat) : (cellU l).map (ren m) = cellU l := by simp [cellU, ren, ren2, ren1, ren0]
theorem chunk_u (l : List Nat) : chunk 1 l.length (cellU l) = u32Row l := chunk_one (fun n : Nat => (.v (.int .u32 (uv n)) : D)) l
/-- The store of order.Of: ahead of round i, and then. -/
def oσ (e0 : Ent) (nm : D) : Nat → List Slot
  | 0 => [.ent e0, .dead, .free, .ent ⟨0, none, 25, [nm, .v (.slice none 0 0)], .cells⟩]
  | i + 1 => [.ent e0, .dead, .free, .ent ⟨0, none, 25, [nm, .ref 5 i (i + 1)], .cells⟩, .free, .ent ⟨i, some 1, 143, cellU (oneL (i + 1)), .cells⟩]
theorem oσ_zero (e0 : Ent) (nm : D) : oσ e0 nm 0 = [.ent e0, .dead, .free, .ent ⟨0, none, 25, [nm, .v (.slice none 0 0)], .cells⟩] := rfl
theorem oσ_pos (e0 : Ent) (nm : D) {i j : Nat} (h : i = j + 1) : oσ e0 nm i = [.ent e0, .dead, .free, .ent ⟨0, none, 25, [nm, .ref 5 j i], .cells⟩, .free, .ent ⟨j, some 1, 143, cellU (oneL i), .cells⟩] := by subst h; rfl
theorem oσ_one (e0 : Ent) (nm : D) : oσ e0 nm (0 + 1) = [.ent e0, .dead, .free, .ent ⟨0, none, 25, [nm, .ref 5 0 1], .cells⟩, .free, .ent ⟨0, some 1, 143, [.v (.int .u32 (uv (1 <<< 0)))], .cells⟩] := rfl
theorem oσ_succ (e0 : Ent) (nm : D) {i j : Nat} (h : i = j + 1) : oσ e0 nm (i + 1) = [.ent e0, .dead, .free, .ent ⟨0, none, 25, [nm, .ref 5 (j + 1) (i + 1)], .cells⟩, .free, .ent ⟨j + 1, some 1, 143, cellU (oneL i) ++ [.v (.int .u32 (uv (1 <<< i)))], .cells⟩] := by
  subst h
  simp [oσ, cellU, oneL]
theorem of_fn (g : Bool) (ns : List ByteArray) (l : List (Int × Int)) (hs : Szs ns) (hl : l.length ≤ 1000) :
    Fn Try.prog 46 [.sl false 1 (strRow ns), .sl g 2 (pRow l)] [] (.tup [.agg [.sl false 1 (strRow (ofF ns l).1), .sl false 1 (u32Row (ofF ns l).2.1)], .v (.int .i64 (ofF ns l).2.2)]) [] := by
  have hcf := containsFuncE_fn g l 117 [.fad [.v (.int .i64 (ns.length : Int))]] (oddB ns.length) (by omega) rfl (fun e _ => odd_fn ns.length e)
  refine Fn.of (fn := Try.f46) (by kernel_rfl) rfl (by kernel_rfl) ⟨[.sl false 1 (strRow ns), .sl g 2 (pRow l), .v undef, .v undef, .v undef, .v undef, .v undef, .v undef, .v undef, .v undef, .v undef, .v undef, .v undef, .v undef, .v undef, .v undef, .v undef, .v undef, .v undef, .v undef, .v undef, .v undef, .v undef, .v undef, .v undef, .v undef, .v undef, .v undef, .v undef, .v undef, .v undef, .v undef, .v undef, .v undef, .v undef, .v undef, .v undef, .v undef, .v undef, .v undef, .v undef, .v undef, .v undef, .v undef, .v undef, .v undef, .v undef, .v undef, .v undef, .v undef, .v undef, .v undef, .v undef, .v undef, .v undef, .v undef, .v undef, .v undef, .v undef, .v undef, .v undef, .v undef, .v undef, .v undef, .v undef, .v undef, .v undef, .v undef, .v undef, .v undef, .v undef, .v undef, .v undef, .v undef, .v undef, .v undef, .v undef, .v undef, .v undef, .v undef, .v undef, .v undef, .v undef, .v undef, .v undef, .v undef, .v undef], []⟩ rfl ?_
  by_cases hn : 1 ≤ ns.length ∧ ns.length ≤ 8
  case neg =>
    rw [show ofF ns l = ([], [], 1) by rw [ofF, if_pos hn]]
    by_cases h1 : (ns.length : Int) < 1
    · have h1' : decide ((ns.length : Int) < 1) = true := decide_eq_true h1
      repeat' first
        | with_reducible first | refine AWP_seq' ?_ | refine k_normal ?_ | refine k_ret ?_ | refine k_exit ?_ | refine b_normal ?_ | refine b_ret ?_ | refine b_exit ?_ | refine b_pass rfl ?_ | refine AWP_ret ?_ | refine AWP_skip ?_ | refine AWP_exit ?_ | refine AWP_block ?_ | refine AWP_scope ?_ | refine AWP_label ?_ | refine s_normal ?_ | refine s_ret ?_ | refine s_exit ?_
        | ((with_reducible first | refine AWP_reg fun KC J hJ hKC => ?_ | refine AWP_regD rfl fun KC J hJ hKC => ?_); simp (maxSteps := 10000000) only [push_cast, seval, ↓reduceIte, h1', h1, undef])
        | ((with_reducible refine And.intro ?_ ?_); · first | trivial | omega | assumption | (simp; done) | (simp; omega))
        | first | (refine' hKC _ _ _ _ _ (callV0 (latCheck_fn _ _ _ _ ?_ ?_) rfl rfl rfl ?_ ?_); (rotate_left 6); (· (repeat' first | exact leF_nil | refine leD_tup ?_ | refine leF1_cons ?_ ?_ | exact leF1_nil | exact leD1_refl _ | refine leD1_agg ?_ | refine leF_cons ?_ ?_ | exact leD_refl _ | exact leD_nil | exact leD_any | exact .inl leD0_nil | exact leF_caps (by assumption) | exact leD_fn (by assumption) | refine leD_agg ?_ | refine leF0_cons ?_ ?_ | exact leF0_nil | exact leD0_refl _ | exact leD0_nil | exact leD0_any)); (rotate_left 1); (iterate 2 (· first | assumption | omega | trivial | (simp; done) | (simp; omega))); simp (maxSteps := 10000000) only [push_cast, seval, ↓reduceIte, h1', h1, undef])
        | ((first | with_reducible refine hJ _ _ ?_ | (with_reducible refine hJ _ _ ?_ ?_; · kernel_rfl)); clear hJ hKC KC J)
        | ((with_reducible refine AWP_condT ?_ ?_); · rfl)
        | ((with_reducible refine AWP_condF ?_ ?_); · rfl)
        | ((with_reducible refine ite_intro (fun hs => ?_) (fun hs => ?_)) <;> (try simp only [Bool.not_eq_true, Bool.not_eq_false, Bool.not_eq_true', Bool.not_eq_false', Decidable.not_not, decide_eq_true_eq, decide_eq_false_iff_not] at hs) <;> (try simp (maxSteps := 10000000) only [push_cast, seval, ↓reduceIte, hs, h1', h1, undef]))
        | (refine AWP_cond rfl (fun h => ?_) (fun h => ?_) <;> try simp only [decide_eq_true_eq, decide_eq_false_iff_not, Bool.not_eq_true', Bool.not_eq_false', beq_iff_eq, bne_iff_ne, ne_eq, Bool.not_eq_true, Bool.or_eq_true, Bool.and_eq_true, Bool.or_eq_false_iff, Bool.and_eq_false_imp, beq_eq_false_iff_ne, bne_eq_false_iff_eq] at h)
      refine ret_plain ?_
      simp (maxSteps := 10000000) only [push_cast, seval, ↓reduceIte, show Try.f46.results = #[(.cell 4 25), (.tmp 5)] from rfl]
      repeat' first | exact leF_nil | refine leD_tup ?_ | refine leF1_cons ?_ ?_ | exact leF1_nil | exact leD1_refl _ | refine leD1_agg ?_ | refine leF_cons ?_ ?_ | exact leD_refl _ | exact leD_nil | exact leD_any | exact .inl leD0_nil | exact leF_caps (by assumption) | exact leD_fn (by assumption) | refine leD_agg ?_ | refine leF0_cons ?_ ?_ | exact leF0_nil | exact leD0_refl _ | exact leD0_nil | exact leD0_any
    · have h1' : decide ((ns.length : Int) < 1) = false := decide_eq_false h1
      have h2 : (8 : Int) < ns.length := by omega
      repeat' first
        | with_reducible first | refine AWP_seq' ?_ | refine k_normal ?_ | refine k_ret ?_ | refine k_exit ?_ | refine b_normal ?_ | refine b_ret ?_ | refine b_exit ?_ | refine b_pass rfl ?_ | refine AWP_ret ?_ | refine AWP_skip ?_ | refine AWP_exit ?_ | refine AWP_block ?_ | refine AWP_scope ?_ | refine AWP_label ?_ | refine s_normal ?_ | refine s_ret ?_ | refine s_exit ?_
        | ((with_reducible first | refine AWP_reg fun KC J hJ hKC => ?_ | refine AWP_regD rfl fun KC J hJ hKC => ?_); simp (maxSteps := 10000000) only [push_cast, seval, ↓reduceIte, h1', h1, h2, undef])
        | ((with_reducible refine And.intro ?_ ?_); · first | trivial | omega | assumption | (simp; done) | (simp; omega))
        | first | (refine' hKC _ _ _ _ _ (callV0 (latCheck_fn _ _ _ _ ?_ ?_) rfl rfl rfl ?_ ?_); (rotate_left 6); (· (repeat' first | exact leF_nil | refine leD_tup ?_ | refine leF1_cons ?_ ?_ | exact leF1_nil | exact leD1_refl _ | refine leD1_agg ?_ | refine leF_cons ?_ ?_ | exact leD_refl _ | exact leD_nil | exact leD_any | exact .inl leD0_nil | exact leF_caps (by assumption) | exact leD_fn (by assumption) | refine leD_agg ?_ | refine leF0_cons ?_ ?_ | exact leF0_nil | exact leD0_refl _ | exact leD0_nil | exact leD0_any)); (rotate_left 1); (iterate 2 (· first | assumption | omega | trivial | (simp; done) | (simp; omega))); simp (maxSteps := 10000000) only [push_cast, seval, ↓reduceIte, h1', h1, h2, undef])
        | ((first | with_reducible refine hJ _ _ ?_ | (with_reducible refine hJ _ _ ?_ ?_; · kernel_rfl)); clear hJ hKC KC J)
        | ((with_reducible refine AWP_condT ?_ ?_); · rfl)
        | ((with_reducible refine AWP_condF ?_ ?_); · rfl)
        | ((with_reducible refine ite_intro (fun hs => ?_) (fun hs => ?_)) <;> (try simp only [Bool.not_eq_true, Bool.not_eq_false, Bool.not_eq_true', Bool.not_eq_false', Decidable.not_not, decide_eq_true_eq, decide_eq_false_iff_not] at hs) <;> (try simp (maxSteps := 10000000) only [push_cast, seval, ↓reduceIte, hs, h1', h1, h2, undef]))
        | (refine AWP_cond rfl (fun h => ?_) (fun h => ?_) <;> try simp only [decide_eq_true_eq, decide_eq_false_iff_not, Bool.not_eq_true', Bool.not_eq_false', beq_iff_eq, bne_iff_ne, ne_eq, Bool.not_eq_true, Bool.or_eq_true, Bool.and_eq_true, Bool.or_eq_false_iff, Bool.and_eq_false_imp, beq_eq_false_iff_ne, bne_eq_false_iff_eq] at h)
      refine ret_plain ?_
      simp (maxSteps := 10000000) only [push_cast, seval, ↓reduceIte, show Try.f46.results = #[(.cell 4 25), (.tmp 5)] from rfl]
      repeat' first | exact leF_nil | refine leD_tup ?_ | refine leF1_cons ?_ ?_ | exact leF1_nil | exact leD1_refl _ | refine leD1_agg ?_ | refine leF_cons ?_ ?_ | exact leD_refl _ | exact leD_nil | exact leD_any | exact .inl leD0_nil | exact leF_caps (by assumption) | exact leD_fn (by assumption) | refine leD_agg ?_ | refine leF0_cons ?_ ?_ | exact leF0_nil | exact leD0_refl _ | exact leD0_nil | exact leD0_any
  have h1 : ¬ (ns.length : Int) < 1 := by omega
  have h1' : decide ((ns.length : Int) < 1) = false := decide_eq_false h1
  have h2 : ¬ (8 : Int) < ns.length := by omega
  by_cases hm : (64 : Int) < l.length
  · rw [show ofF ns l = ([], [], 8) by rw [ofF, if_neg (by simpa using hn), if_pos (by omega)]]
    repeat' first
      | with_reducible first | refine AWP_seq' ?_ | refine k_normal ?_ | refine k_ret ?_ | refine k_exit ?_ | refine b_normal ?_ | refine b_ret ?_ | refine b_exit ?_ | refine b_pass rfl ?_ | refine AWP_ret ?_ | refine AWP_skip ?_ | refine AWP_exit ?_ | refine AWP_block ?_ | refine AWP_scope ?_ | refine AWP_label ?_ | refine s_normal ?_ | refine s_ret ?_ | refine s_exit ?_
      | ((with_reducible first | refine AWP_reg fun KC J hJ hKC => ?_ | refine AWP_regD rfl fun KC J hJ hKC => ?_); simp (maxSteps := 10000000) only [push_cast, seval, ↓reduceIte, h1', h1, h2, hm, undef])
      | ((with_reducible refine And.intro ?_ ?_); · first | trivial | omega | assumption | (simp; done) | (simp; omega))
      | first | (refine' hKC _ _ _ _ _ (callV0 (latCheck_fn _ _ _ _ ?_ ?_) rfl rfl rfl ?_ ?_); (rotate_left 6); (· (repeat' first | exact leF_nil | refine leD_tup ?_ | refine leF1_cons ?_ ?_ | exact leF1_nil | exact leD1_refl _ | refine leD1_agg ?_ | refine leF_cons ?_ ?_ | exact leD_refl _ | exact leD_nil | exact leD_any | exact .inl leD0_nil | exact leF_caps (by assumption) | exact leD_fn (by assumption) | refine leD_agg ?_ | refine leF0_cons ?_ ?_ | exact leF0_nil | exact leD0_refl _ | exact leD0_nil | exact leD0_any)); (rotate_left 1); (iterate 2 (· first | assumption | omega | trivial | (simp; done) | (simp; omega))); simp (maxSteps := 10000000) only [push_cast, seval, ↓reduceIte, h1', h1, h2, hm, undef])
      | ((first | with_reducible refine hJ _ _ ?_ | (with_reducible refine hJ _ _ ?_ ?_; · kernel_rfl)); clear hJ hKC KC J)
      | ((with_reducible refine AWP_condT ?_ ?_); · rfl)
      | ((with_reducible refine AWP_condF ?_ ?_); · rfl)
      | ((with_reducible refine ite_intro (fun hs => ?_) (fun hs => ?_)) <;> (try simp only [Bool.not_eq_true, Bool.not_eq_false, Bool.not_eq_true', Bool.not_eq_false', Decidable.not_not, decide_eq_true_eq, decide_eq_false_iff_not] at hs) <;> (try simp (maxSteps := 10000000) only [push_cast, seval, ↓reduceIte, hs, h1', h1, h2, hm, undef]))
      | (refine AWP_cond rfl (fun h => ?_) (fun h => ?_) <;> try simp only [decide_eq_true_eq, decide_eq_false_iff_not, Bool.not_eq_true', Bool.not_eq_false', beq_iff_eq, bne_iff_ne, ne_eq, Bool.not_eq_true, Bool.or_eq_true, Bool.and_eq_true, Bool.or_eq_false_iff, Bool.and_eq_false_imp, beq_eq_false_iff_ne, bne_eq_false_iff_eq] at h)
    refine ret_plain ?_
    simp (maxSteps := 10000000) only [push_cast, seval, ↓reduceIte, show Try.f46.results = #[(.cell 4 25), (.tmp 5)] from rfl]
    repeat' first | exact leF_nil | refine leD_tup ?_ | refine leF1_cons ?_ ?_ | exact leF1_nil | exact leD1_refl _ | refine leD1_agg ?_ | refine leF_cons ?_ ?_ | exact leD_refl _ | exact leD_nil | exact leD_any | exact .inl leD0_nil | exact leF_caps (by assumption) | exact leD_fn (by assumption) | refine leD_agg ?_ | refine leF0_cons ?_ ?_ | exact leF0_nil | exact leD0_refl _ | exact leD0_nil | exact leD0_any
  by_cases ho : l.any (oddB ns.length) = true
  · rw [show ofF ns l = ([], [], 9) by rw [ofF, if_neg (by simpa using hn), if_neg (by omega), if_pos ho]]
    repeat' first
      | (refine AWP_freezeR 7 1 rfl (by simp (maxSteps := 10000000) only [push_cast, seval, ↓reduceIte]) ?_; simp (maxSteps := 10000000) only [push_cast, seval, ↓reduceIte, frSt, frSlot, fr3, fr2, fr1, fr0, sameB, arrOf, h1', h1, h2, hm, ho, undef])
      | with_reducible first | refine AWP_seq' ?_ | refine k_normal ?_ | refine k_ret ?_ | refine k_exit ?_ | refine b_normal ?_ | refine b_ret ?_ | refine b_exit ?_ | refine b_pass rfl ?_ | refine AWP_ret ?_ | refine AWP_skip ?_ | refine AWP_exit ?_ | refine AWP_block ?_ | refine AWP_scope ?_ | refine AWP_label ?_ | refine s_normal ?_ | refine s_ret ?_ | refine s_exit ?_
      | ((with_reducible first | refine AWP_reg fun KC J hJ hKC => ?_ | refine AWP_regD rfl fun KC J hJ hKC => ?_); simp (maxSteps := 10000000) only [push_cast, seval, ↓reduceIte, h1', h1, h2, hm, ho, undef])
      | ((with_reducible refine And.intro ?_ ?_); · first | trivial | omega | assumption | (simp; done) | (simp; omega))
      | first | (refine' hKC _ _ _ _ _ (callV0 (latCheck_fn _ _ _ _ ?_ ?_) rfl rfl rfl ?_ ?_); (rotate_left 6); (· (repeat' first | exact leF_nil | refine leD_tup ?_ | refine leF1_cons ?_ ?_ | exact leF1_nil | exact leD1_refl _ | refine leD1_agg ?_ | refine leF_cons ?_ ?_ | exact leD_refl _ | exact leD_nil | exact leD_any | exact .inl leD0_nil | exact leF_caps (by assumption) | exact leD_fn (by assumption) | refine leD_agg ?_ | refine leF0_cons ?_ ?_ | exact leF0_nil | exact leD0_refl _ | exact leD0_nil | exact leD0_any)); (rotate_left 1); (iterate 2 (· first | assumption | omega | trivial | (simp; done) | (simp; omega))); simp (maxSteps := 10000000) only [push_cast, seval, ↓reduceIte, h1', h1, h2, hm, ho, undef]) | (refine hKC _ _ _ _ _ (callV0 (hcf) rfl rfl rfl ?_ ?_); (· (repeat' first | exact leF_nil | refine leD_tup ?_ | refine leF1_cons ?_ ?_ | exact leF1_nil | exact leD1_refl _ | refine leD1_agg ?_ | refine leF_cons ?_ ?_ | exact leD_refl _ | exact leD_nil | exact leD_any | exact .inl leD0_nil | exact leF_caps (by assumption) | exact leD_fn (by assumption) | refine leD_agg ?_ | refine leF0_cons ?_ ?_ | exact leF0_nil | exact leD0_refl _ | exact leD0_nil | exact leD0_any)); simp (maxSteps := 10000000) only [push_cast, seval, ↓reduceIte, h1', h1, h2, hm, ho, undef])
      | ((first | with_reducible refine hJ _ _ ?_ | (with_reducible refine hJ _ _ ?_ ?_; · kernel_rfl)); clear hJ hKC KC J)
      | ((with_reducible refine AWP_condT ?_ ?_); · rfl)
      | ((with_reducible refine AWP_condF ?_ ?_); · rfl)
      | ((with_reducible refine ite_intro (fun hs => ?_) (fun hs => ?_)) <;> (try simp only [Bool.not_eq_true, Bool.not_eq_false, Bool.not_eq_true', Bool.not_eq_false', Decidable.not_not, decide_eq_true_eq, decide_eq_false_iff_not] at hs) <;> (try simp (maxSteps := 10000000) only [push_cast, seval, ↓reduceIte, hs, h1', h1, h2, hm, ho, undef]))
      | (refine AWP_cond rfl (fun h => ?_) (fun h => ?_) <;> try simp only [decide_eq_true_eq, decide_eq_false_iff_not, Bool.not_eq_true', Bool.not_eq_false', beq_iff_eq, bne_iff_ne, ne_eq, Bool.not_eq_true, Bool.or_eq_true, Bool.and_eq_true, Bool.or_eq_false_iff, Bool.and_eq_false_imp, beq_eq_false_iff_ne, bne_eq_false_iff_eq] at h)
    refine ret_plain ?_
    simp (maxSteps := 10000000) only [push_cast, seval, ↓reduceIte, show Try.f46.results = #[(.cell 4 25), (.tmp 5)] from rfl]
    repeat' first | exact leF_nil | refine leD_tup ?_ | refine leF1_cons ?_ ?_ | exact leF1_nil | exact leD1_refl _ | refine leD1_agg ?_ | refine leF_cons ?_ ?_ | exact leD_refl _ | exact leD_nil | exact leD_any | exact .inl leD0_nil | exact leF_caps (by assumption) | exact leD_fn (by assumption) | refine leD_agg ?_ | refine leF0_cons ?_ ?_ | exact leF0_nil | exact leD0_refl _ | exact leD0_nil | exact leD0_any
  have ho' : l.any (oddB ns.length) = false := by simpa using ho
  have hof : ofF ns l = if checkF ns (closU ns.length (natE l)) = 0 then (ns, closU ns.length (natE l), 0) else ([], [], checkF ns (closU ns.length (natE l))) := by rw [ofF, if_neg (by simpa using hn), if_neg (by omega), if_neg ho]
  rw [hof]
  repeat' first
    | (refine AWP_freezeR 7 1 rfl (by simp (maxSteps := 10000000) only [push_cast, seval, ↓reduceIte]) ?_; simp (maxSteps := 10000000) only [push_cast, seval, ↓reduceIte, frSt, frSlot, fr3, fr2, fr1, fr0, sameB, arrOf, h1', h1, h2, hm, ho', undef])
    | with_reducible first | refine AWP_seq' ?_ | refine k_normal ?_ | refine k_ret ?_ | refine k_exit ?_ | refine b_normal ?_ | refine b_ret ?_ | refine b_exit ?_ | refine b_pass rfl ?_ | refine AWP_ret ?_ | refine AWP_skip ?_ | refine AWP_exit ?_ | refine AWP_block ?_ | refine AWP_scope ?_ | refine AWP_label ?_ | refine s_normal ?_ | refine s_ret ?_ | refine s_exit ?_
    | ((with_reducible first | refine AWP_reg fun KC J hJ hKC => ?_ | refine AWP_regD rfl fun KC J hJ hKC => ?_); simp (maxSteps := 10000000) only [push_cast, seval, ↓reduceIte, h1', h1, h2, hm, ho', undef])
    | ((with_reducible refine And.intro ?_ ?_); · first | trivial | omega | assumption | (simp; done) | (simp; omega))
    | first | (refine' hKC _ _ _ _ _ (callV0 (latCheck_fn _ _ _ _ ?_ ?_) rfl rfl rfl ?_ ?_); (rotate_left 6); (· (repeat' first | exact leF_nil | refine leD_tup ?_ | refine leF1_cons ?_ ?_ | exact leF1_nil | exact leD1_refl _ | refine leD1_agg ?_ | refine leF_cons ?_ ?_ | exact leD_refl _ | exact leD_nil | exact leD_any | exact .inl leD0_nil | exact leF_caps (by assumption) | exact leD_fn (by assumption) | refine leD_agg ?_ | refine leF0_cons ?_ ?_ | exact leF0_nil | exact leD0_refl _ | exact leD0_nil | exact leD0_any)); (rotate_left 1); (iterate 2 (· first | assumption | omega | trivial | (simp; done) | (simp; omega))); simp (maxSteps := 10000000) only [push_cast, seval, ↓reduceIte, h1', h1, h2, hm, ho', undef]) | (refine hKC _ _ _ _ _ (callV0 (hcf) rfl rfl rfl ?_ ?_); (· (repeat' first | exact leF_nil | refine leD_tup ?_ | refine leF1_cons ?_ ?_ | exact leF1_nil | exact leD1_refl _ | refine leD1_agg ?_ | refine leF_cons ?_ ?_ | exact leD_refl _ | exact leD_nil | exact leD_any | exact .inl leD0_nil | exact leF_caps (by assumption) | exact leD_fn (by assumption) | refine leD_agg ?_ | refine leF0_cons ?_ ?_ | exact leF0_nil | exact leD0_refl _ | exact leD0_nil | exact leD0_any)); simp (maxSteps := 10000000) only [push_cast, seval, ↓reduceIte, h1', h1, h2, hm, ho', undef])
    | ((first | with_reducible refine hJ _ _ ?_ | (with_reducible refine hJ _ _ ?_ ?_; · kernel_rfl)); clear hJ hKC KC J)
    | ((with_reducible refine AWP_condT ?_ ?_); · rfl)
    | ((with_reducible refine AWP_condF ?_ ?_); · rfl)
    | ((with_reducible refine ite_intro (fun hs => ?_) (fun hs => ?_)) <;> (try simp only [Bool.not_eq_true, Bool.not_eq_false, Bool.not_eq_true', Bool.not_eq_false', Decidable.not_not, decide_eq_true_eq, decide_eq_false_iff_not] at hs) <;> (try simp (maxSteps := 10000000) only [push_cast, seval, ↓reduceIte, hs, h1', h1, h2, hm, ho', undef]))
    | (refine AWP_cond rfl (fun h => ?_) (fun h => ?_) <;> try simp only [decide_eq_true_eq, decide_eq_false_iff_not, Bool.not_eq_true', Bool.not_eq_false', beq_iff_eq, bne_iff_ne, ne_eq, Bool.not_eq_true, Bool.or_eq_true, Bool.and_eq_true, Bool.or_eq_false_iff, Bool.and_eq_false_imp, beq_eq_false_iff_ne, bne_eq_false_iff_eq] at h)
  obtain ⟨m, hm1⟩ : ∃ m, ns.length = m + 1 := ⟨ns.length - 1, by omega⟩
  have hbm : ∀ j : Nat, Nat.beq j j = true := fun j => Nat.beq_refl j
  obtain ⟨e0, he0⟩ : ∃ e0 : Ent, ⟨0, none, 25, [.v (.slice none 0 0), .v (.slice none 0 0)], .cells⟩ = e0 := ⟨_, rfl⟩
  refine AWP_loopF (γ := {a : Nat // a ≤ ns.length}) (fun a => ⟨[.sl false 1 (strRow ns), .sl g 2 (pRow l), .any, .any, .ptr 0 0 0, .any, .any, .any, .ptr 3 0 0, .any, .any, .any, .any, .any, .any, .any, .any, .any, .any, .any, .any, .any, .any, .any, .any, .any, .any, .any, .any, .any, .any, .any, .any, .any, .any, .any, .any, .v (.int .i64 ns.length), .v (.int .i64 a.1), .any, .any, .any, .any, .any, .any, .any, .any, .any, .any, .any, .any, .any, .any, .any, .any, .any, .any, .any, .any, .any, .any, .any, .any, .any, .any, .any, .any, .any, .any, .any, .any, .any, .any, .any, .any, .any, .any, .any, .any, .any, .any, .any, .any, .any, .any, .any, .any], oσ e0 (.sl false 1 (strRow ns)) a.1⟩) (fun a => ns.length - a.1) ⟨0, by simp⟩ ⟨?_, ?_⟩ ?_
  · repeat' first | exact leF_nil | refine leD_tup ?_ | refine leF1_cons ?_ ?_ | exact leF1_nil | exact leD1_refl _ | refine leD1_agg ?_ | refine leF_cons ?_ ?_ | exact leD_refl _ | exact leD_nil | exact leD_any | exact .inl leD0_nil | exact leF_caps (by assumption) | exact leD_fn (by assumption) | refine leD_agg ?_ | refine leF0_cons ?_ ?_ | exact leF0_nil | exact leD0_refl _ | exact leD0_nil | exact leD0_any
  · simp only [oσ, ← he0]
    exact (by first | exact ⟨0, (List.append_nil _).symm⟩ | exact ⟨1, rfl⟩ | exact ⟨2, rfl⟩ | exact ⟨3, rfl⟩ | exact ⟨4, rfl⟩ | exact ⟨5, rfl⟩ | exact ⟨6, rfl⟩ | exact ⟨7, rfl⟩ | exact ⟨8, rfl⟩)
  rintro ⟨a, ha⟩
  by_cases hlt : (a : Int) < (ns.length : Int)
  · rcases Nat.eq_zero_or_pos a with rfl | hpos
    · have hσ := oσ_zero e0 (.sl false 1 (strRow ns))
      have hσ1 := oσ_one e0 (.sl false 1 (strRow ns))
      have hlt0 : (0 : Int) < ns.length := hlt
      have hsh : ishl .u32 1 0 = uv (1 <<< 0) := uv_shl1 (b := 0) (by omega)
      subst he0
      repeat' first
        | with_reducible first | refine AWP_seq' ?_ | refine k_normal ?_ | refine k_ret ?_ | refine k_exit ?_ | refine b_normal ?_ | refine b_ret ?_ | refine b_exit ?_ | refine b_pass rfl ?_ | refine AWP_ret ?_ | refine AWP_skip ?_ | refine AWP_exit ?_ | refine AWP_block ?_ | refine AWP_scope ?_ | refine AWP_label ?_ | refine s_normal ?_ | refine s_ret ?_ | refine s_exit ?_
        | ((with_reducible first | refine AWP_reg fun KC J hJ hKC => ?_ | refine AWP_regD rfl fun KC J hJ hKC => ?_); simp (maxSteps := 10000000) only [push_cast, seval, ↓reduceIte, hlt0, hσ, hsh])
        | ((with_reducible refine And.intro ?_ ?_); · first | trivial | omega | assumption | (simp; done) | (simp; omega))
        | first | (refine' hKC _ _ _ _ _ (callV0 (latCheck_fn _ _ _ _ ?_ ?_) rfl rfl rfl ?_ ?_); (rotate_left 6); (· (repeat' first | exact leF_nil | refine leD_tup ?_ | refine leF1_cons ?_ ?_ | exact leF1_nil | exact leD1_refl _ | refine leD1_agg ?_ | refine leF_cons ?_ ?_ | exact leD_refl _ | exact leD_nil | exact leD_any | exact .inl leD0_nil | exact leF_caps (by assumption) | exact leD_fn (by assumption) | refine leD_agg ?_ | refine leF0_cons ?_ ?_ | exact leF0_nil | exact leD0_refl _ | exact leD0_nil | exact leD0_any)); (rotate_left 1); (iterate 2 (· first | assumption | omega | trivial | (simp; done) | (simp; omega))); simp (maxSteps := 10000000) only [push_cast, seval, ↓reduceIte, hlt0, hσ, hsh])
        | ((first | with_reducible refine hJ _ _ ?_ | (with_reducible refine hJ _ _ ?_ ?_; · kernel_rfl)); clear hJ hKC KC J)
        | ((with_reducible refine AWP_condT ?_ ?_); · rfl)
        | ((with_reducible refine AWP_condF ?_ ?_); · rfl)
        | ((with_reducible refine ite_intro (fun hs => ?_) (fun hs => ?_)) <;> (try simp only [Bool.not_eq_true, Bool.not_eq_false, Bool.not_eq_true', Bool.not_eq_false', Decidable.not_not, decide_eq_true_eq, decide_eq_false_iff_not] at hs) <;> (try simp (maxSteps := 10000000) only [push_cast, seval, ↓reduceIte, hs, hlt0, hσ, hsh]))
        | (refine AWP_cond rfl (fun h => ?_) (fun h => ?_) <;> try simp only [decide_eq_true_eq, decide_eq_false_iff_not, Bool.not_eq_true', Bool.not_eq_false', beq_iff_eq, bne_iff_ne, ne_eq, Bool.not_eq_true, Bool.or_eq_true, Bool.and_eq_true, Bool.or_eq_false_iff, Bool.and_eq_false_imp, beq_eq_false_iff_ne, bne_eq_false_iff_eq] at h)
      refine ⟨⟨0 + 1, by omega⟩, by simp only; omega, ?_, ?_⟩
      · repeat' first | exact leF_nil | refine leD_tup ?_ | refine leF1_cons ?_ ?_ | exact leF1_nil | exact leD1_refl _ | refine leD1_agg ?_ | refine leF_cons ?_ ?_ | exact leD_refl _ | exact leD_nil | exact leD_any | exact .inl leD0_nil | exact leF_caps (by assumption) | exact leD_fn (by assumption) | refine leD_agg ?_ | refine leF0_cons ?_ ?_ | exact leF0_nil | exact leD0_refl _ | exact leD0_nil | exact leD0_any
      · simp only [hσ1]
        exact (by first | exact ⟨0, (List.append_nil _).symm⟩ | exact ⟨1, rfl⟩ | exact ⟨2, rfl⟩ | exact ⟨3, rfl⟩ | exact ⟨4, rfl⟩ | exact ⟨5, rfl⟩ | exact ⟨6, rfl⟩ | exact ⟨7, rfl⟩ | exact ⟨8, rfl⟩)
    · obtain ⟨j, hj⟩ : ∃ j, a = j + 1 := ⟨a - 1, by omega⟩
      have hσ := oσ_pos e0 (.sl false 1 (strRow ns)) hj
      have hσ1 := oσ_succ e0 (.sl false 1 (strRow ns)) hj
      have hlS : (cellU (oneL a)).length = a := by rw [cellU_length, oneL_length]
      have htS := take_of hlS
      have htS' : (cellU (oneL a)).take a = cellU (oneL a) := List.take_of_length_le (by omega)
      subst he0
      repeat' first
        | with_reducible first | refine AWP_seq' ?_ | refine k_normal ?_ | refine k_ret ?_ | refine k_exit ?_ | refine b_normal ?_ | refine b_ret ?_ | refine b_exit ?_ | refine b_pass rfl ?_ | refine AWP_ret ?_ | refine AWP_skip ?_ | refine AWP_exit ?_ | refine AWP_block ?_ | refine AWP_scope ?_ | refine AWP_label ?_ | refine s_normal ?_ | refine s_ret ?_ | refine s_exit ?_
        | ((with_reducible first | refine AWP_reg fun KC J hJ hKC => ?_ | refine AWP_regD rfl fun KC J hJ hKC => ?_); simp (maxSteps := 10000000) only [push_cast, seval, ↓reduceIte, hlt, hσ, hbm j, hlS, htS, htS', uv_shl1 (b := a) (by omega), wrapN (i := a) (n := ns.length) (by omega) (by omega)])
        | ((with_reducible refine And.intro ?_ ?_); · first | trivial | omega | assumption | (simp; done) | (simp; omega))
        | first | (refine' hKC _ _ _ _ _ (callV0 (latCheck_fn _ _ _ _ ?_ ?_) rfl rfl rfl ?_ ?_); (rotate_left 6); (· (repeat' first | exact leF_nil | refine leD_tup ?_ | refine leF1_cons ?_ ?_ | exact leF1_nil | exact leD1_refl _ | refine leD1_agg ?_ | refine leF_cons ?_ ?_ | exact leD_refl _ | exact leD_nil | exact leD_any | exact .inl leD0_nil | exact leF_caps (by assumption) | exact leD_fn (by assumption) | refine leD_agg ?_ | refine leF0_cons ?_ ?_ | exact leF0_nil | exact leD0_refl _ | exact leD0_nil | exact leD0_any)); (rotate_left 1); (iterate 2 (· first | assumption | omega | trivial | (simp; done) | (simp; omega))); simp (maxSteps := 10000000) only [push_cast, seval, ↓reduceIte, hlt, hσ, hbm j, hlS, htS, htS', uv_shl1 (b := a) (by omega), wrapN (i := a) (n := ns.length) (by omega) (by omega)])
        | ((first | with_reducible refine hJ _ _ ?_ | (with_reducible refine hJ _ _ ?_ ?_; · kernel_rfl)); clear hJ hKC KC J)
        | ((with_reducible refine AWP_condT ?_ ?_); · rfl)
        | ((with_reducible refine AWP_condF ?_ ?_); · rfl)
        | ((with_reducible refine ite_intro (fun hs => ?_) (fun hs => ?_)) <;> (try simp only [Bool.not_eq_true, Bool.not_eq_false, Bool.not_eq_true', Bool.not_eq_false', Decidable.not_not, decide_eq_true_eq, decide_eq_false_iff_not] at hs) <;> (try simp (maxSteps := 10000000) only [push_cast, seval, ↓reduceIte, hs, hlt, hσ, hbm j, hlS, htS, htS', uv_shl1 (b := a) (by omega), wrapN (i := a) (n := ns.length) (by omega) (by omega)]))
        | (refine AWP_cond rfl (fun h => ?_) (fun h => ?_) <;> try simp only [decide_eq_true_eq, decide_eq_false_iff_not, Bool.not_eq_true', Bool.not_eq_false', beq_iff_eq, bne_iff_ne, ne_eq, Bool.not_eq_true, Bool.or_eq_true, Bool.and_eq_true, Bool.or_eq_false_iff, Bool.and_eq_false_imp, beq_eq_false_iff_ne, bne_eq_false_iff_eq] at h)
      refine ⟨⟨a + 1, by omega⟩, by simp only; omega, ?_, ?_⟩
      · repeat' first | exact leF_nil | refine leD_tup ?_ | refine leF1_cons ?_ ?_ | exact leF1_nil | exact leD1_refl _ | refine leD1_agg ?_ | refine leF_cons ?_ ?_ | exact leD_refl _ | exact leD_nil | exact leD_any | exact .inl leD0_nil | exact leF_caps (by assumption) | exact leD_fn (by assumption) | refine leD_agg ?_ | refine leF0_cons ?_ ?_ | exact leF0_nil | exact leD0_refl _ | exact leD0_nil | exact leD0_any
      · simp only [hσ1]
        exact (by first | exact ⟨0, (List.append_nil _).symm⟩ | exact ⟨1, rfl⟩ | exact ⟨2, rfl⟩ | exact ⟨3, rfl⟩ | exact ⟨4, rfl⟩ | exact ⟨5, rfl⟩ | exact ⟨6, rfl⟩ | exact ⟨7, rfl⟩ | exact ⟨8, rfl⟩)
  have han : a = ns.length := by omega
  subst han
  have hσ := oσ_pos e0 (.sl false 1 (strRow ns)) hm1
  subst he0
  have hn8 : ns.length ≤ 8 := hn.2
  have hes := natE_in ho'
  repeat' first
    | with_reducible first | refine AWP_seq' ?_ | refine k_normal ?_ | refine k_ret ?_ | refine k_exit ?_ | refine b_normal ?_ | refine b_ret ?_ | refine b_exit ?_ | refine b_pass rfl ?_ | refine AWP_ret ?_ | refine AWP_skip ?_ | refine AWP_exit ?_ | refine AWP_block ?_ | refine AWP_scope ?_ | refine AWP_label ?_ | refine s_normal ?_ | refine s_ret ?_ | refine s_exit ?_
    | ((with_reducible first | refine AWP_reg fun KC J hJ hKC => ?_ | refine AWP_regD rfl fun KC J hJ hKC => ?_); simp (maxSteps := 10000000) only [push_cast, seval, ↓reduceIte, hlt, hσ])
    | ((with_reducible refine And.intro ?_ ?_); · first | trivial | omega | assumption | (simp; done) | (simp; omega))
    | first | (refine' hKC _ _ _ _ _ (callV0 (latCheck_fn _ _ _ _ ?_ ?_) rfl rfl rfl ?_ ?_); (rotate_left 6); (· (repeat' first | exact leF_nil | refine leD_tup ?_ | refine leF1_cons ?_ ?_ | exact leF1_nil | exact leD1_refl _ | refine leD1_agg ?_ | refine leF_cons ?_ ?_ | exact leD_refl _ | exact leD_nil | exact leD_any | exact .inl leD0_nil | exact leF_caps (by assumption) | exact leD_fn (by assumption) | refine leD_agg ?_ | refine leF0_cons ?_ ?_ | exact leF0_nil | exact leD0_refl _ | exact leD0_nil | exact leD0_any)); (rotate_left 1); (iterate 2 (· first | assumption | omega | trivial | (simp; done) | (simp; omega))); simp (maxSteps := 10000000) only [push_cast, seval, ↓reduceIte, hlt, hσ])
    | ((first | with_reducible refine hJ _ _ ?_ | (with_reducible refine hJ _ _ ?_ ?_; · kernel_rfl)); clear hJ hKC KC J)
    | ((with_reducible refine AWP_condT ?_ ?_); · rfl)
    | ((with_reducible refine AWP_condF ?_ ?_); · rfl)
    | ((with_reducible refine ite_intro (fun hs => ?_) (fun hs => ?_)) <;> (try simp only [Bool.not_eq_true, Bool.not_eq_false, Bool.not_eq_true', Bool.not_eq_false', Decidable.not_not, decide_eq_true_eq, decide_eq_false_iff_not] at hs) <;> (try simp (maxSteps := 10000000) only [push_cast, seval, ↓reduceIte, hs, hlt, hσ]))
    | (refine AWP_cond rfl (fun h => ?_) (fun h => ?_) <;> try simp only [decide_eq_true_eq, decide_eq_false_iff_not, Bool.not_eq_true', Bool.not_eq_false', beq_iff_eq, bne_iff_ne, ne_eq, Bool.not_eq_true, Bool.or_eq_true, Bool.and_eq_true, Bool.or_eq_false_iff, Bool.and_eq_false_imp, beq_eq_false_iff_ne, bne_eq_false_iff_eq] at h)
  clear hlt hσ
  refine AWP_loopD 6 (γ := {us : List Nat // Inv ns.length (natE l) us}) (fun us => ⟨[.any, .sl g 2 (pRow l), .any, .any, .ptr 0 0 0, .any, .any, .any, .ptr 3 0 0, .any, .any, .any, .any, .any, .any, .any, .any, .any, .any, .any, .any, .any, .any, .any, .any, .any, .any, .any, .any, .any, .any, .any, .any, .any, .any, .any, .any, .any, .any, .any, .any, .any, .any, .any, .any, .any, .any, .any, .any, .any, .any, .any, .any, .any, .any, .any, .any, .any, .any, .any, .any, .any, .any, .any, .any, .any, .any, .any, .any, .any, .any, .any, .any, .any, .any, .any, .any, .any, .any, .any, .any, .any, .any, .any, .any, .any, .any], [.ent ⟨0, none, 25, [.v (.slice none 0 0), .v (.slice none 0 0)], .cells⟩, .dead, .free, .ent ⟨0, none, 25, [.sl false 1 (strRow ns), .ref 5 m ns.length], .cells⟩, .free, .ent ⟨m, some 1, 143, cellU us.1, .cells⟩]⟩) (fun us => room (2 ^ ns.length) us.1) ⟨oneL ns.length, inv_one _ _⟩ (fun us => rfl) (fun us => ?_) (fun us => rfl) ⟨?_, ?_⟩ ?_
  · refine clsd_all ?_
    simp only [List.map_cons, List.map_nil, renSlot, ren_cellU]
    rfl
  · repeat' first | exact leF_nil | refine leD_tup ?_ | refine leF1_cons ?_ ?_ | exact leF1_nil | exact leD1_refl _ | refine leD1_agg ?_ | refine leF_cons ?_ ?_ | exact leD_refl _ | exact leD_nil | exact leD_any | exact .inl leD0_nil | exact leF_caps (by assumption) | exact leD_fn (by assumption) | refine leD_agg ?_ | refine leF0_cons ?_ ?_ | exact leF0_nil | exact leD0_refl _ | exact leD0_nil | exact leD0_any
  · exact (by first | exact ⟨0, (List.append_nil _).symm⟩ | exact ⟨1, rfl⟩ | exact ⟨2, rfl⟩ | exact ⟨3, rfl⟩ | exact ⟨4, rfl⟩ | exact ⟨5, rfl⟩ | exact ⟨6, rfl⟩ | exact ⟨7, rfl⟩ | exact ⟨8, rfl⟩)
  rintro ⟨us, hi⟩
  have hul : us.length = ns.length := hi.len
  have hlC : (cellU us).length = ns.length := by rw [cellU_length, hul]
  repeat' first
    | with_reducible first | refine AWP_seq' ?_ | refine k_normal ?_ | refine k_ret ?_ | refine k_exit ?_ | refine b_normal ?_ | refine b_ret ?_ | refine b_exit ?_ | refine b_pass rfl ?_ | refine AWP_ret ?_ | refine AWP_skip ?_ | refine AWP_exit ?_ | refine AWP_block ?_ | refine AWP_scope ?_ | refine AWP_label ?_ | refine s_normal ?_ | refine s_ret ?_ | refine s_exit ?_
    | ((with_reducible first | refine AWP_reg fun KC J hJ hKC => ?_ | refine AWP_regD rfl fun KC J hJ hKC => ?_); simp (maxSteps := 10000000) only [push_cast, seval, ↓reduceIte])
    | ((with_reducible refine And.intro ?_ ?_); · first | trivial | omega | assumption | (simp; done) | (simp; omega))
    | first | (refine' hKC _ _ _ _ _ (callV0 (latCheck_fn _ _ _ _ ?_ ?_) rfl rfl rfl ?_ ?_); (rotate_left 6); (· (repeat' first | exact leF_nil | refine leD_tup ?_ | refine leF1_cons ?_ ?_ | exact leF1_nil | exact leD1_refl _ | refine leD1_agg ?_ | refine leF_cons ?_ ?_ | exact leD_refl _ | exact leD_nil | exact leD_any | exact .inl leD0_nil | exact leF_caps (by assumption) | exact leD_fn (by assumption) | refine leD_agg ?_ | refine leF0_cons ?_ ?_ | exact leF0_nil | exact leD0_refl _ | exact leD0_nil | exact leD0_any)); (rotate_left 1); (iterate 2 (· first | assumption | omega | trivial | (simp; done) | (simp; omega))); simp (maxSteps := 10000000) only [push_cast, seval, ↓reduceIte])
    | ((first | with_reducible refine hJ _ _ ?_ | (with_reducible refine hJ _ _ ?_ ?_; · kernel_rfl)); clear hJ hKC KC J)
    | ((with_reducible refine AWP_condT ?_ ?_); · rfl)
    | ((with_reducible refine AWP_condF ?_ ?_); · rfl)
    | ((with_reducible refine ite_intro (fun hs => ?_) (fun hs => ?_)) <;> (try simp only [Bool.not_eq_true, Bool.not_eq_false, Bool.not_eq_true', Bool.not_eq_false', Decidable.not_not, decide_eq_true_eq, decide_eq_false_iff_not] at hs) <;> (try simp (maxSteps := 10000000) only [push_cast, seval, ↓reduceIte, hs]))
    | (refine AWP_cond rfl (fun h => ?_) (fun h => ?_) <;> try simp only [decide_eq_true_eq, decide_eq_false_iff_not, Bool.not_eq_true', Bool.not_eq_false', beq_iff_eq, bne_iff_ne, ne_eq, Bool.not_eq_true, Bool.or_eq_true, Bool.and_eq_true, Bool.or_eq_false_iff, Bool.and_eq_false_imp, beq_eq_false_iff_ne, bne_eq_false_iff_eq] at h)
  refine AWP_loopD 6 (γ := {j : Nat // j ≤ l.length ∧ ∀ e ∈ natE (l.take j), anB (us.getD e.2 0) (us.getD e.1 0) = 0}) (fun j => ⟨[.any, .sl g 2 (pRow l), .any, .any, .ptr 0 0 0, .any, .any, .any, .ptr 3 0 0, .any, .any, .any, .any, .any, .any, .any, .any, .any, .any, .any, .any, .any, .any, .any, .any, .any, .any, .any, .any, .any, .any, .any, .any, .any, .any, .any, .any, .any, .any, .any, .any, .any, .any, .any, .any, .any, .any, .any, .any, .sl g 2 (pRow l), .v (.int .i64 l.length), .v (.int .i64 j.1), .any, .any, .any, .any, .any, .any, .any, .any, .any, .any, .any, .any, .any, .any, .any, .any, .any, .any, .any, .any, .any, .any, .any, .any, .any, .any, .any, .any, .any, .any, .any, .any, .any, .any, .any], [.ent ⟨0, none, 25, [.v (.slice none 0 0), .v (.slice none 0 0)], .cells⟩, .dead, .free, .ent ⟨0, none, 25, [.sl false 1 (strRow ns), .ref 5 m ns.length], .cells⟩, .free, .ent ⟨m, some 1, 143, cellU us, .cells⟩]⟩) (fun j => l.length - j.1) ⟨0, by omega, fun e he => by simp [natE] at he⟩ (fun us => rfl) (fun us => ?_) (fun us => rfl) ⟨?_, ?_⟩ ?_
  · refine clsd_all ?_
    simp only [List.map_cons, List.map_nil, renSlot, ren_cellU]
    rfl
  · repeat' first | exact leF_nil | refine leD_tup ?_ | refine leF1_cons ?_ ?_ | exact leF1_nil | exact leD1_refl _ | refine leD1_agg ?_ | refine leF_cons ?_ ?_ | exact leD_refl _ | exact leD_nil | exact leD_any | exact .inl leD0_nil | exact leF_caps (by assumption) | exact leD_fn (by assumption) | refine leD_agg ?_ | refine leF0_cons ?_ ?_ | exact leF0_nil | exact leD0_refl _ | exact leD0_nil | exact leD0_any
  · exact (by first | exact ⟨0, (List.append_nil _).symm⟩ | exact ⟨1, rfl⟩ | exact ⟨2, rfl⟩ | exact ⟨3, rfl⟩ | exact ⟨4, rfl⟩ | exact ⟨5, rfl⟩ | exact ⟨6, rfl⟩ | exact ⟨7, rfl⟩ | exact ⟨8, rfl⟩)
  rintro ⟨j, hj, hno⟩
  by_cases hlj : (j : Int) < (l.length : Int)
  · have hx : l[j]? = some l[j] := List.getElem?_eq_getElem (by omega)
    have hxm : l[j] ∈ l := List.getElem_mem (by omega)
    obtain ⟨a, b, hab, han, hbn⟩ := oddB_no (n := ns.length) (e := l[j]) (by rw [List.any_eq_false] at ho'; simpa using ho' _ hxm)
    rw [hab] at hx
    have hmem : (a, b) ∈ natE l := List.mem_map.2 ⟨_, hxm, by rw [hab]; simp⟩
    have hau : a < us.length := by omega
    have hbu : b < us.length := by omega
    have hu := hi.u32 hn8
    have hga := getF_cellU hau
    have hgb := getF_cellU hbu
    have hua := hu.get hau
    have hub := hu.get hbu
    by_cases hz : anB (us.getD b 0) (us.getD a 0) = 0
    · skip
      repeat' first
        | with_reducible first | refine AWP_seq' ?_ | refine k_normal ?_ | refine k_ret ?_ | refine k_exit ?_ | refine b_normal ?_ | refine b_ret ?_ | refine b_exit ?_ | refine b_pass rfl ?_ | refine AWP_ret ?_ | refine AWP_skip ?_ | refine AWP_exit ?_ | refine AWP_block ?_ | refine AWP_scope ?_ | refine AWP_label ?_ | refine s_normal ?_ | refine s_ret ?_ | refine s_exit ?_
        | ((with_reducible first | refine AWP_reg fun KC J hJ hKC => ?_ | refine AWP_regD rfl fun KC J hJ hKC => ?_); simp (maxSteps := 10000000) only [push_cast, seval, ↓reduceIte, hlj, getE_p hx, hlC, hbm m, hga, hgb, uv_an hub hua, hz, Nat.mul_one, wrapN (i := j) (n := l.length) (by omega) (by omega)])
        | ((with_reducible refine And.intro ?_ ?_); · first | trivial | omega | assumption | (simp; done) | (simp; omega))
        | first | (refine' hKC _ _ _ _ _ (callV0 (latCheck_fn _ _ _ _ ?_ ?_) rfl rfl rfl ?_ ?_); (rotate_left 6); (· (repeat' first | exact leF_nil | refine leD_tup ?_ | refine leF1_cons ?_ ?_ | exact leF1_nil | exact leD1_refl _ | refine leD1_agg ?_ | refine leF_cons ?_ ?_ | exact leD_refl _ | exact leD_nil | exact leD_any | exact .inl leD0_nil | exact leF_caps (by assumption) | exact leD_fn (by assumption) | refine leD_agg ?_ | refine leF0_cons ?_ ?_ | exact leF0_nil | exact leD0_refl _ | exact leD0_nil | exact leD0_any)); (rotate_left 1); (iterate 2 (· first | assumption | omega | trivial | (simp; done) | (simp; omega))); simp (maxSteps := 10000000) only [push_cast, seval, ↓reduceIte, hlj, getE_p hx, hlC, hbm m, hga, hgb, uv_an hub hua, hz, Nat.mul_one, wrapN (i := j) (n := l.length) (by omega) (by omega)])
        | ((first | with_reducible refine hJ _ _ ?_ | (with_reducible refine hJ _ _ ?_ ?_; · kernel_rfl)); clear hJ hKC KC J)
        | ((with_reducible refine AWP_condT ?_ ?_); · rfl)
        | ((with_reducible refine AWP_condF ?_ ?_); · rfl)
        | ((with_reducible refine ite_intro (fun hs => ?_) (fun hs => ?_)) <;> (try simp only [Bool.not_eq_true, Bool.not_eq_false, Bool.not_eq_true', Bool.not_eq_false', Decidable.not_not, decide_eq_true_eq, decide_eq_false_iff_not] at hs) <;> (try simp (maxSteps := 10000000) only [push_cast, seval, ↓reduceIte, hs, hlj, getE_p hx, hlC, hbm m, hga, hgb, uv_an hub hua, hz, Nat.mul_one, wrapN (i := j) (n := l.length) (by omega) (by omega)]))
        | (refine AWP_cond rfl (fun h => ?_) (fun h => ?_) <;> try simp only [decide_eq_true_eq, decide_eq_false_iff_not, Bool.not_eq_true', Bool.not_eq_false', beq_iff_eq, bne_iff_ne, ne_eq, Bool.not_eq_true, Bool.or_eq_true, Bool.and_eq_true, Bool.or_eq_false_iff, Bool.and_eq_false_imp, beq_eq_false_iff_ne, bne_eq_false_iff_eq] at h)
      refine ⟨⟨j + 1, by omega, fun e he => ?_⟩, by simp only; omega, ?_, ⟨_, rfl⟩⟩
      · have ht : natE (l.take (j + 1)) = natE (l.take j) ++ [(a, b)] := by
          rw [List.take_succ_eq_append_getElem (by omega), hab]; simp [natE]
        rw [ht, List.mem_append] at he
        rcases he with he | he
        · exact hno e he
        · simp at he; subst he; exact hz
      · repeat' first | exact leF_nil | refine leD_tup ?_ | refine leF1_cons ?_ ?_ | exact leF1_nil | exact leD1_refl _ | refine leD1_agg ?_ | refine leF_cons ?_ ?_ | exact leD_refl _ | exact leD_nil | exact leD_any | exact .inl leD0_nil | exact leF_caps (by assumption) | exact leD_fn (by assumption) | refine leD_agg ?_ | refine leF0_cons ?_ ?_ | exact leF0_nil | exact leD0_refl _ | exact leD0_nil | exact leD0_any
    · have hst := hi.step hn8 han hbn hmem hz
      obtain ⟨v, hv⟩ : ∃ v, us.getD a 0 ||| anB (us.getD b 0) (us.getD a 0) = v := ⟨_, rfl⟩
      have hor := uv_or hua (anB_lt (b := us.getD a 0) hub)
      rw [hv] at hst hor
      have hset := cellU_set us v hau
      repeat' first
        | with_reducible first | refine AWP_seq' ?_ | refine k_normal ?_ | refine k_ret ?_ | refine k_exit ?_ | refine b_normal ?_ | refine b_ret ?_ | refine b_exit ?_ | refine b_pass rfl ?_ | refine AWP_ret ?_ | refine AWP_skip ?_ | refine AWP_exit ?_ | refine AWP_block ?_ | refine AWP_scope ?_ | refine AWP_label ?_ | refine s_normal ?_ | refine s_ret ?_ | refine s_exit ?_
        | ((with_reducible first | refine AWP_reg fun KC J hJ hKC => ?_ | refine AWP_regD rfl fun KC J hJ hKC => ?_); simp (maxSteps := 10000000) only [push_cast, seval, ↓reduceIte, hlj, getE_p hx, hlC, hbm m, hga, hgb, uv_an hub hua, hz, hor, Nat.mul_one])
        | ((with_reducible refine And.intro ?_ ?_); · first | trivial | omega | assumption | (simp; done) | (simp; omega))
        | first | (refine' hKC _ _ _ _ _ (callV0 (latCheck_fn _ _ _ _ ?_ ?_) rfl rfl rfl ?_ ?_); (rotate_left 6); (· (repeat' first | exact leF_nil | refine leD_tup ?_ | refine leF1_cons ?_ ?_ | exact leF1_nil | exact leD1_refl _ | refine leD1_agg ?_ | refine leF_cons ?_ ?_ | exact leD_refl _ | exact leD_nil | exact leD_any | exact .inl leD0_nil | exact leF_caps (by assumption) | exact leD_fn (by assumption) | refine leD_agg ?_ | refine leF0_cons ?_ ?_ | exact leF0_nil | exact leD0_refl _ | exact leD0_nil | exact leD0_any)); (rotate_left 1); (iterate 2 (· first | assumption | omega | trivial | (simp; done) | (simp; omega))); simp (maxSteps := 10000000) only [push_cast, seval, ↓reduceIte, hlj, getE_p hx, hlC, hbm m, hga, hgb, uv_an hub hua, hz, hor, Nat.mul_one])
        | ((first | with_reducible refine hJ _ _ ?_ | (with_reducible refine hJ _ _ ?_ ?_; · kernel_rfl)); clear hJ hKC KC J)
        | ((with_reducible refine AWP_condT ?_ ?_); · rfl)
        | ((with_reducible refine AWP_condF ?_ ?_); · rfl)
        | ((with_reducible refine ite_intro (fun hs => ?_) (fun hs => ?_)) <;> (try simp only [Bool.not_eq_true, Bool.not_eq_false, Bool.not_eq_true', Bool.not_eq_false', Decidable.not_not, decide_eq_true_eq, decide_eq_false_iff_not] at hs) <;> (try simp (maxSteps := 10000000) only [push_cast, seval, ↓reduceIte, hs, hlj, getE_p hx, hlC, hbm m, hga, hgb, uv_an hub hua, hz, hor, Nat.mul_one]))
        | (refine AWP_cond rfl (fun h => ?_) (fun h => ?_) <;> try simp only [decide_eq_true_eq, decide_eq_false_iff_not, Bool.not_eq_true', Bool.not_eq_false', beq_iff_eq, bne_iff_ne, ne_eq, Bool.not_eq_true, Bool.or_eq_true, Bool.and_eq_true, Bool.or_eq_false_iff, Bool.and_eq_false_imp, beq_eq_false_iff_ne, bne_eq_false_iff_eq] at h)
      refine ⟨⟨us.set a v, hst.1⟩, hst.2, ?_, ?_⟩
      · repeat' first | exact leF_nil | refine leD_tup ?_ | refine leF1_cons ?_ ?_ | exact leF1_nil | exact leD1_refl _ | refine leD1_agg ?_ | refine leF_cons ?_ ?_ | exact leD_refl _ | exact leD_nil | exact leD_any | exact .inl leD0_nil | exact leF_caps (by assumption) | exact leD_fn (by assumption) | refine leD_agg ?_ | refine leF0_cons ?_ ?_ | exact leF0_nil | exact leD0_refl _ | exact leD0_nil | exact leD0_any
      · simp only [hset]
        exact ⟨_, rfl⟩
  · have hjl : j = l.length := by omega
    subst hjl
    rw [List.take_length] at hno
    have hus := hi.done hn8 hes hno
    rw [← hus]
    have hu := hi.u32 hn8
    have hcU : chunk 1 ns.length (cellU us) = u32Row us := by rw [← hul]; exact chunk_u us
    by_cases hc : checkF ns us = 0
    · skip
      repeat' first
        | (refine AWP_freezeR 22 5 rfl (by simp (maxSteps := 10000000) only [push_cast, seval, ↓reduceIte]) ?_; simp (maxSteps := 10000000) only [push_cast, seval, ↓reduceIte, frSt, frSlot, fr3, fr2, fr1, fr0, sameB, arrOf, hlj, hlC, hbm m, hcU, hc])
        | with_reducible first | refine AWP_seq' ?_ | refine k_normal ?_ | refine k_ret ?_ | refine k_exit ?_ | refine b_normal ?_ | refine b_ret ?_ | refine b_exit ?_ | refine b_pass rfl ?_ | refine AWP_ret ?_ | refine AWP_skip ?_ | refine AWP_exit ?_ | refine AWP_block ?_ | refine AWP_scope ?_ | refine AWP_label ?_ | refine s_normal ?_ | refine s_ret ?_ | refine s_exit ?_
        | ((with_reducible first | refine AWP_reg fun KC J hJ hKC => ?_ | refine AWP_regD rfl fun KC J hJ hKC => ?_); simp (maxSteps := 10000000) only [push_cast, seval, ↓reduceIte, hlj, hlC, hbm m, hcU, hc])
        | ((with_reducible refine And.intro ?_ ?_); · first | trivial | omega | assumption | (simp; done) | (simp; omega))
        | first | (refine' hKC _ _ _ _ _ (callV0 (latCheck_fn _ _ _ _ ?_ ?_) rfl rfl rfl ?_ ?_); (rotate_left 6); (· (repeat' first | exact leF_nil | refine leD_tup ?_ | refine leF1_cons ?_ ?_ | exact leF1_nil | exact leD1_refl _ | refine leD1_agg ?_ | refine leF_cons ?_ ?_ | exact leD_refl _ | exact leD_nil | exact leD_any | exact .inl leD0_nil | exact leF_caps (by assumption) | exact leD_fn (by assumption) | refine leD_agg ?_ | refine leF0_cons ?_ ?_ | exact leF0_nil | exact leD0_refl _ | exact leD0_nil | exact leD0_any)); (rotate_left 1); (iterate 2 (· first | assumption | omega | trivial | (simp; done) | (simp; omega))); simp (maxSteps := 10000000) only [push_cast, seval, ↓reduceIte, hlj, hlC, hbm m, hcU, hc])
        | ((first | with_reducible refine hJ _ _ ?_ | (with_reducible refine hJ _ _ ?_ ?_; · kernel_rfl)); clear hJ hKC KC J)
        | ((with_reducible refine AWP_condT ?_ ?_); · rfl)
        | ((with_reducible refine AWP_condF ?_ ?_); · rfl)
        | ((with_reducible refine ite_intro (fun hs => ?_) (fun hs => ?_)) <;> (try simp only [Bool.not_eq_true, Bool.not_eq_false, Bool.not_eq_true', Bool.not_eq_false', Decidable.not_not, decide_eq_true_eq, decide_eq_false_iff_not] at hs) <;> (try simp (maxSteps := 10000000) only [push_cast, seval, ↓reduceIte, hs, hlj, hlC, hbm m, hcU, hc]))
        | (refine AWP_cond rfl (fun h => ?_) (fun h => ?_) <;> try simp only [decide_eq_true_eq, decide_eq_false_iff_not, Bool.not_eq_true', Bool.not_eq_false', beq_iff_eq, bne_iff_ne, ne_eq, Bool.not_eq_true, Bool.or_eq_true, Bool.and_eq_true, Bool.or_eq_false_iff, Bool.and_eq_false_imp, beq_eq_false_iff_ne, bne_eq_false_iff_eq] at h)
      refine ret_plain ?_
      simp (maxSteps := 10000000) only [push_cast, seval, ↓reduceIte, show Try.f46.results = #[(.cell 4 25), (.tmp 5)] from rfl]
      repeat' first | exact leF_nil | refine leD_tup ?_ | refine leF1_cons ?_ ?_ | exact leF1_nil | exact leD1_refl _ | refine leD1_agg ?_ | refine leF_cons ?_ ?_ | exact leD_refl _ | exact leD_nil | exact leD_any | exact .inl leD0_nil | exact leF_caps (by assumption) | exact leD_fn (by assumption) | refine leD_agg ?_ | refine leF0_cons ?_ ?_ | exact leF0_nil | exact leD0_refl _ | exact leD0_nil | exact leD0_any
    · have hc' : (checkF ns us != 0) = true := by simpa using hc
      repeat' first
        | (refine AWP_freezeR 22 5 rfl (by simp (maxSteps := 10000000) only [push_cast, seval, ↓reduceIte]) ?_; simp (maxSteps := 10000000) only [push_cast, seval, ↓reduceIte, frSt, frSlot, fr3, fr2, fr1, fr0, sameB, arrOf, hlj, hlC, hbm m, hcU, hc'])
        | with_reducible first | refine AWP_seq' ?_ | refine k_normal ?_ | refine k_ret ?_ | refine k_exit ?_ | refine b_normal ?_ | refine b_ret ?_ | refine b_exit ?_ | refine b_pass rfl ?_ | refine AWP_ret ?_ | refine AWP_skip ?_ | refine AWP_exit ?_ | refine AWP_block ?_ | refine AWP_scope ?_ | refine AWP_label ?_ | refine s_normal ?_ | refine s_ret ?_ | refine s_exit ?_
        | ((with_reducible first | refine AWP_reg fun KC J hJ hKC => ?_ | refine AWP_regD rfl fun KC J hJ hKC => ?_); simp (maxSteps := 10000000) only [push_cast, seval, ↓reduceIte, hlj, hlC, hbm m, hcU, hc'])
        | ((with_reducible refine And.intro ?_ ?_); · first | trivial | omega | assumption | (simp; done) | (simp; omega))
        | first | (refine' hKC _ _ _ _ _ (callV0 (latCheck_fn _ _ _ _ ?_ ?_) rfl rfl rfl ?_ ?_); (rotate_left 6); (· (repeat' first | exact leF_nil | refine leD_tup ?_ | refine leF1_cons ?_ ?_ | exact leF1_nil | exact leD1_refl _ | refine leD1_agg ?_ | refine leF_cons ?_ ?_ | exact leD_refl _ | exact leD_nil | exact leD_any | exact .inl leD0_nil | exact leF_caps (by assumption) | exact leD_fn (by assumption) | refine leD_agg ?_ | refine leF0_cons ?_ ?_ | exact leF0_nil | exact leD0_refl _ | exact leD0_nil | exact leD0_any)); (rotate_left 1); (iterate 2 (· first | assumption | omega | trivial | (simp; done) | (simp; omega))); simp (maxSteps := 10000000) only [push_cast, seval, ↓reduceIte, hlj, hlC, hbm m, hcU, hc'])
        | ((first | with_reducible refine hJ _ _ ?_ | (with_reducible refine hJ _ _ ?_ ?_; · kernel_rfl)); clear hJ hKC KC J)
        | ((with_reducible refine AWP_condT ?_ ?_); · rfl)
        | ((with_reducible refine AWP_condF ?_ ?_); · rfl)
        | ((with_reducible refine ite_intro (fun hs => ?_) (fun hs => ?_)) <;> (try simp only [Bool.not_eq_true, Bool.not_eq_false, Bool.not_eq_true', Bool.not_eq_false', Decidable.not_not, decide_eq_true_eq, decide_eq_false_iff_not] at hs) <;> (try simp (maxSteps := 10000000) only [push_cast, seval, ↓reduceIte, hs, hlj, hlC, hbm m, hcU, hc']))
        | (refine AWP_cond rfl (fun h => ?_) (fun h => ?_) <;> try simp only [decide_eq_true_eq, decide_eq_false_iff_not, Bool.not_eq_true', Bool.not_eq_false', beq_iff_eq, bne_iff_ne, ne_eq, Bool.not_eq_true, Bool.or_eq_true, Bool.and_eq_true, Bool.or_eq_false_iff, Bool.and_eq_false_imp, beq_eq_false_iff_ne, bne_eq_false_iff_eq] at h)
      refine ret_plain ?_
      simp (maxSteps := 10000000) only [push_cast, seval, ↓reduceIte, show Try.f46.results = #[(.cell 4 25), (.tmp 5)] from rfl, hc]
      repeat' first | exact leF_nil | refine leD_tup ?_ | refine leF1_cons ?_ ?_ | exact leF1_nil | exact leD1_refl _ | refine leD1_agg ?_ | refine leF_cons ?_ ?_ | exact leD_refl _ | exact leD_nil | exact leD_any | exact .inl leD0_nil | exact leF_caps (by assumption) | exact leD_fn (by assumption) | refine leD_agg ?_ | refine leF0_cons ?_ ?_ | exact leF0_nil | exact leD0_refl _ | exact leD0_nil | exact leD0_any
theorem ofF_le (ns : List ByteArray) (l : List (Int × Int)) : (ofF ns l).1.length ≤ ns.length ∧ (ofF ns l).2.1.length ≤ ns.length := by
  unfold ofF
  split
  · simp
  · split
    · simp
    · split
      · simp
      · split
        · exact ⟨Nat.le_refl _, by rw [closU, upsN_length]; exact Nat.le_refl _⟩
        · simp
end Go.Proofs.Ytabliglgeiajlaa.AM
