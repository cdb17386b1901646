/- What was put out: clone, delete, compare. -/
import Derived.Test.YtabliglgeiajlaaQ2
import Derived.Test.YtabliglgeiajlaaMc
set_option linter.unusedSimpArgs false
set_option linter.unusedVariables false
namespace Go.Proofs.Ytabliglgeiajlaa.AM
open Go Go.RowKit Go.Proofs
set_option maxRecDepth 100000
set_option maxHeartbeats 1000000

/-- Of an empty row it may be asked whether it is nil. -/
theorem Fn.nil1 {P : Program} {f : Nat} {full : Bool} {sz : Nat} {res : D} {out : List Slot} (h : ∀ A cap, Fn P f [.v (.slice A 0 cap)] [] res out) : Fn P f [.sl full sz []] [] res out where
  spec := fun N0 ρ w vs hp hs hr => by
    have h0 : 0 < vs.size := by rw [hs]; simp
    have hv : vs[0]? = some vs[0] := Array.getElem?_eq_getElem h0
    have hrep := (hr 0 _ _ rfl hv).sl_inv
    generalize hu : vs[0] = u at hrep
    cases hrep with
    | sl0 _ _ A cap _ =>
      refine (h A cap).spec N0 ρ w vs hp (by rw [hs]; rfl) fun j d u hd hu' => ?_
      cases j with
      | zero =>
        simp only [List.getElem?_cons_zero, Option.some.injEq] at hd
        rw [hv, hu] at hu'
        cases hu'
        subst hd
        exact .fro _ _ (.v _)
      | succ j => simp at hd
    | sl _ _ _ b o cap n g hn hpos => simp at hn; omega
  enter := (h none 0).enter
theorem cloneA_fn (f : Bool) (l : List (Int × Int)) (h0 : 0 < l.length) (hb : l.length ≤ 1000000) : Fn Try.prog 229 [.sl f 2 (pRow l)] [] (.ref 0 0 l.length) [.ent ⟨0, some 2, 79, pCells l, .cells⟩] := by
  have hnl := isNilL_pRow h0
  have hfl : (pRow l).flatten = pCells l := rfl
  refine Fn.of (fn := Try.f229) (by kernel_rfl) rfl (by kernel_rfl) ⟨[.sl f 2 (pRow l), .v undef, .v undef, .v undef, .v undef, .v undef, .v undef, .v undef], []⟩ rfl ?_
  repeat' first | (with_reducible first | refine AWP_seq' ?_ | refine k_normal ?_ | refine AWP_skip ?_) | ((with_reducible refine AWP_reg fun KC J hJ hKC => ?_); simp (maxSteps := 10000000) only [push_cast, seval, ↓reduceIte, hnl, hfl, Nat.zero_add]) | ((with_reducible refine And.intro ?_ ?_); · exact Sq) | ((with_reducible refine hJ _ _ ?_); clear hJ hKC KC J) | ((with_reducible refine AWP_condF ?_ ?_); · rfl)
  refine AWP_ret ?_
  refine ret_new [1] ?_ (by simp) ?_
  · simp (maxSteps := 10000000) only [push_cast, seval, ↓reduceIte, show Try.f229.results = #[.tmp 2] from rfl, pick, mOf, idx, renSlot, ren_pCells]
    exact leD_refl _
  · intro k hk
    exact absurd hk (by simp)
theorem cloneA_nil (f : Bool) : Fn (Try.prog) 229 [.sl f 2 []] [] (.sl true 2 []) [] := by
  refine Fn.nil1 fun A cap => ?_
  refine Fn.of (fn := Try.f229) (by kernel_rfl) rfl (by kernel_rfl) ⟨[.v (.slice A 0 cap), .v undef, .v undef, .v undef, .v undef, .v undef, .v undef, .v undef], []⟩ rfl ?_
  cases A
  all_goals
    repeat' first | (with_reducible first | refine AWP_seq' ?_ | refine k_normal ?_ | refine k_ret ?_ | refine AWP_ret ?_ | refine AWP_skip ?_) | ((with_reducible refine AWP_reg fun KC J hJ hKC => ?_); simp (maxSteps := 10000000) only [push_cast, seval, ↓reduceIte, Option.isNone_none, Option.isNone_some]) | ((with_reducible refine hJ _ _ ?_); clear hJ hKC KC J) | ((with_reducible refine AWP_condT ?_ ?_); · rfl) | ((with_reducible refine AWP_condF ?_ ?_); · rfl)
    refine ret_plain ?_
    simp (maxSteps := 10000000) only [push_cast, seval, ↓reduceIte, show Try.f229.results = #[(.tmp 2)] from rfl]
    exact Lq
theorem indexFuncA_fn (f : Bool) (xs : List (Int × Int)) (cf : Nat) (caps : List D) (p : Int × Int → Bool) (hb : xs.length ≤ 9223372036854775807) (hc : frz0All caps = true)
    (hp : ∀ x ∈ xs, Fn Try.prog cf (.agg [.v (.int .i64 x.1), .v (.int .i64 x.2)] :: caps) [] (.v (.bool (p x))) []) : Fn Try.prog 247 [.sl f 2 (pRow xs), .fn cf caps] [] (.v (.int .i64 (idxF p xs))) [] := by
  refine Fn.of (fn := Try.f247) (by kernel_rfl) rfl (by kernel_rfl) ⟨[.sl f 2 (pRow xs), .fn cf caps, .v undef, .v undef, .v undef, .v undef, .v undef, .v undef, .v undef, .v undef, .v undef, .v undef, .v undef, .v undef, .v undef, .v undef, .v undef, .v undef, .v undef], []⟩ rfl ?_
  repeat' first | (with_reducible first | refine AWP_seq' ?_ | refine k_normal ?_ | refine AWP_block ?_) | ((with_reducible refine AWP_reg fun KC J hJ hKC => ?_); simp (maxSteps := 10000000) only [push_cast, seval, ↓reduceIte]) | ((with_reducible refine hJ _ _ ?_); clear hJ hKC KC J)
  refine AWP_loopF (γ := {i : Nat // i ≤ xs.length ∧ ∀ (j : Nat) (hj : j < xs.length), j < i → p xs[j] = false}) (fun i => ⟨[.sl f 2 (pRow xs), .fn cf caps, .any, .any, .any, .any, .any, .v (.int .i64 xs.length), .v (.int .i64 i.1), .any, .any, .any, .any, .any, .any, .any, .any, .any, .any], []⟩) (fun i => xs.length - i.1) ⟨0, by simp⟩ ⟨?_, Fq⟩ ?_
  · exact Lq
  · rintro ⟨i, hi, hn⟩
    by_cases hlt : (i : Int) < (xs.length : Int)
    · have hx : xs[i]? = some xs[i] := List.getElem?_eq_getElem (by omega)
      have hfn := hp xs[i] (List.getElem_mem (by omega))
      repeat' first | (with_reducible first | refine AWP_seq' ?_ | refine k_normal ?_ | refine k_ret ?_ | refine b_normal ?_ | refine b_ret ?_ | refine AWP_ret ?_ | refine AWP_skip ?_ | refine AWP_block ?_) | ((with_reducible refine AWP_reg fun KC J hJ hKC => ?_); simp (maxSteps := 10000000) only [push_cast, seval, ↓reduceIte, hlt, getE_p hx, wrapN (i := i) (n := xs.length) (by omega) hb]) | ((with_reducible refine And.intro ?_ ?_); · exact Sq) | (refine hKC _ _ _ _ _ (callV0 (hfn) rfl rfl rfl ?_ ?_); (· exact Lq); simp (maxSteps := 10000000) only [push_cast, seval, ↓reduceIte, hlt, getE_p hx, wrapN (i := i) (n := xs.length) (by omega) hb]) | ((with_reducible refine hJ _ _ ?_); clear hJ hKC KC J) | ((with_reducible refine AWP_condT ?_ ?_); · rfl) | (refine AWP_cond rfl (fun h => ?_) (fun h => ?_) <;> try simp only [decide_eq_true_eq, decide_eq_false_iff_not, Bool.not_eq_true', Bool.not_eq_false', beq_iff_eq, bne_iff_ne, ne_eq, Bool.not_eq_true, Bool.or_eq_true, Bool.and_eq_true, Bool.or_eq_false_iff, Bool.and_eq_false_imp, beq_eq_false_iff_ne, bne_eq_false_iff_eq] at h)
      · refine ret_plain ?_
        simp (maxSteps := 10000000) only [push_cast, seval, ↓reduceIte, show Try.f247.results = #[(.tmp 4)] from rfl]
        exact leD_v (by rw [idxF_at (by omega) h hn])
      · refine ⟨⟨i + 1, by omega, fun j hj hji => ?_⟩, by simp only; omega, ?_, Fq⟩
        · by_cases he : j = i
          · subst he; exact h
          · exact hn j hj (by omega)
        · exact Lq
    · skip
      repeat' first | (with_reducible first | refine AWP_seq' ?_ | refine k_normal ?_ | refine k_exit ?_ | refine b_exit ?_ | refine AWP_ret ?_ | refine AWP_exit ?_) | ((with_reducible refine AWP_reg fun KC J hJ hKC => ?_); simp (maxSteps := 10000000) only [push_cast, seval, ↓reduceIte, hlt]) | ((with_reducible refine hJ _ _ ?_); clear hJ hKC KC J) | ((with_reducible refine AWP_condF ?_ ?_); · rfl)
      refine ret_plain ?_
      simp (maxSteps := 10000000) only [push_cast, seval, ↓reduceIte, show Try.f247.results = #[(.tmp 4)] from rfl]
      exact leD_v (by rw [idxF_none (fun j hj => hn j hj (by omega))])
theorem pCells_at {l : List (Int × Int)} {n : Nat} {x : Int × Int} (h : l[n]? = some x) : ((pCells l).drop (n * 2)).take 2 = [.v (.int .i64 x.1), .v (.int .i64 x.2)] := by
  obtain ⟨hn, rfl⟩ := List.getElem?_eq_some_iff.1 h
  rw [pCells_drop, List.drop_eq_getElem_cons hn]
  rfl
theorem pCells_set (l : List (Int × Int)) {a : Nat} (x : Int × Int) (h : a < l.length) : pCells (l.set a x) = (pCells l).take (a * 2) ++ [.v (.int .i64 x.1), .v (.int .i64 x.2)] ++ (pCells l).drop (a * 2 + 2) := by
  rw [List.set_eq_take_append_cons_drop, if_pos h, pCells_app, pCells_take]
  have h2 : a * 2 + 2 = (a + 1) * 2 := by omega
  rw [h2, pCells_drop]
  simp [pCells, pRow]
/-- The same, in a row of one's own. -/
theorem indexFuncAK_fn (xs : List (Int × Int)) (n : Nat) (hn0 : xs.length = n) (cf : Nat) (caps : List D) (p : Int × Int → Bool) (hb : n ≤ 1000000) (hc : frz0All caps = true)
    (hp : ∀ x ∈ xs, Fn Try.prog cf (.agg [.v (.int .i64 x.1), .v (.int .i64 x.2)] :: caps) [] (.v (.bool (p x))) []) : Fn (Try.prog) 247 [.ref 0 0 n, .fn cf caps] [.ent ⟨0, some 2, 79, pCells xs, .cells⟩] (.v (.int .i64 (idxF p xs))) [.ent ⟨0, some 2, 79, pCells xs, .cells⟩] := by
  have hlC : (pCells xs).length = n * 2 := by rw [pCells_length, hn0]
  refine Fn.of (fn := Try.f247) (by kernel_rfl) rfl (by kernel_rfl) ⟨[.ref 0 0 n, .fn cf caps, .v undef, .v undef, .v undef, .v undef, .v undef, .v undef, .v undef, .v undef, .v undef, .v undef, .v undef, .v undef, .v undef, .v undef, .v undef, .v undef, .v undef], [.ent ⟨0, some 2, 79, pCells xs, .cells⟩]⟩ rfl ?_
  repeat' first | (with_reducible first | refine AWP_seq' ?_ | refine k_normal ?_ | refine AWP_block ?_) | ((with_reducible refine AWP_reg fun KC J hJ hKC => ?_); simp (maxSteps := 10000000) only [push_cast, seval, ↓reduceIte, hlC]) | ((with_reducible refine hJ _ _ ?_); clear hJ hKC KC J)
  refine AWP_loopF (γ := {i : Nat // i ≤ n ∧ ∀ (j : Nat) (hj : j < xs.length), j < i → p xs[j] = false}) (fun i => ⟨[.ref 0 0 n, .fn cf caps, .any, .any, .any, .any, .any, .v (.int .i64 n), .v (.int .i64 i.1), .any, .any, .any, .any, .any, .any, .any, .any, .any, .any], [.ent ⟨0, some 2, 79, pCells xs, .cells⟩]⟩) (fun i => n - i.1) ⟨0, by simp⟩ ⟨?_, Fq⟩ ?_
  · exact Lq
  · rintro ⟨i, hi, hn⟩
    by_cases hlt : (i : Int) < (n : Int)
    · have hx : xs[i]? = some xs[i] := List.getElem?_eq_getElem (by omega)
      have hfn := hp xs[i] (List.getElem_mem (by omega))
      have hat := pCells_at hx
      repeat' first | (with_reducible first | refine AWP_seq' ?_ | refine k_normal ?_ | refine k_ret ?_ | refine b_normal ?_ | refine b_ret ?_ | refine AWP_ret ?_ | refine AWP_skip ?_ | refine AWP_block ?_) | ((with_reducible refine AWP_reg fun KC J hJ hKC => ?_); simp (maxSteps := 10000000) only [push_cast, seval, ↓reduceIte, hlt, hlC, hat, wrapN (i := i) (n := n) (by omega) (by omega)]) | ((with_reducible refine And.intro ?_ ?_); · exact Sq) | (refine hKC _ _ _ _ _ (callV0 (hfn) rfl rfl rfl ?_ ?_); (· exact Lq); simp (maxSteps := 10000000) only [push_cast, seval, ↓reduceIte, hlt, hlC, hat, wrapN (i := i) (n := n) (by omega) (by omega)]) | ((with_reducible refine hJ _ _ ?_); clear hJ hKC KC J) | ((with_reducible refine AWP_condT ?_ ?_); · rfl) | (refine AWP_cond rfl (fun h => ?_) (fun h => ?_) <;> try simp only [decide_eq_true_eq, decide_eq_false_iff_not, Bool.not_eq_true', Bool.not_eq_false', beq_iff_eq, bne_iff_ne, ne_eq, Bool.not_eq_true, Bool.or_eq_true, Bool.and_eq_true, Bool.or_eq_false_iff, Bool.and_eq_false_imp, beq_eq_false_iff_ne, bne_eq_false_iff_eq] at h)
      · refine ret_keys ?_
        simp (maxSteps := 10000000) only [push_cast, seval, ↓reduceIte, show Try.f247.results = #[(.tmp 4)] from rfl]
        exact ⟨(by show List.map _ [0] = _; simp only [List.map_cons, List.map_nil, getS, renSlot, ren_pCells]), leD_v (by rw [idxF_at (by omega) h hn])⟩
      · refine ⟨⟨i + 1, by omega, fun j hj hji => ?_⟩, by simp only; omega, ?_, Fq⟩
        · by_cases he : j = i
          · subst he; exact h
          · exact hn j hj (by omega)
        · exact Lq
    · skip
      repeat' first | (with_reducible first | refine AWP_seq' ?_ | refine k_normal ?_ | refine k_exit ?_ | refine b_exit ?_ | refine AWP_ret ?_ | refine AWP_exit ?_) | ((with_reducible refine AWP_reg fun KC J hJ hKC => ?_); simp (maxSteps := 10000000) only [push_cast, seval, ↓reduceIte, hlt, hlC]) | ((with_reducible refine hJ _ _ ?_); clear hJ hKC KC J) | ((with_reducible refine AWP_condF ?_ ?_); · rfl)
      refine ret_keys ?_
      simp (maxSteps := 10000000) only [push_cast, seval, ↓reduceIte, show Try.f247.results = #[(.tmp 4)] from rfl]
      exact ⟨(by show List.map _ [0] = _; simp only [List.map_cons, List.map_nil, getS, renSlot, ren_pCells]), leD_v (by rw [idxF_none (fun j hj => hn j hj (by omega))])⟩
theorem idxF_cases {α : Type} (p : α → Bool) (xs : List α) : (idxF p xs = -1 ∧ ∀ x ∈ xs, p x = false) ∨ ∃ i, idxF p xs = (i : Nat) ∧ ∃ h : i < xs.length, p xs[i] = true ∧ ∀ (j : Nat) (hj : j < xs.length), j < i → p xs[j] = false := by
  unfold idxF
  cases h : xs.findIdx? p with
  | none =>
    rw [List.findIdx?_eq_none_iff] at h
    exact .inl ⟨rfl, h⟩
  | some i =>
    rw [List.findIdx?_eq_some_iff_getElem] at h
    obtain ⟨h1, h2, h3⟩ := h
    exact .inr ⟨i, rfl, h1, h2, fun j hj hji => by simpa using h3 j hji⟩
theorem deleteFuncA_nil (cf : Nat) (caps : List D) (hc : frz0All caps = true) : Fn (Try.prog) 228 [.sl true 2 [], .fn cf caps] [] (.sl true 2 []) [] := by
  have hif := indexFuncA_fn true [] cf caps (fun _ => false) (by simp) hc (fun x hx => by cases hx)
  refine Fn.of (fn := Try.f228) (by kernel_rfl) rfl (by kernel_rfl) ⟨[.sl true 2 [], .fn cf caps, .v undef, .v undef, .v undef, .v undef, .v undef, .v undef, .v undef, .v undef, .v undef, .v undef, .v undef, .v undef, .v undef, .v undef, .v undef, .v undef, .v undef, .v undef, .v undef, .v undef, .v undef, .v undef, .v undef, .v undef, .v undef, .v undef, .v undef, .v undef, .v undef, .v undef, .v undef, .v undef, .v undef, .v undef, .v undef, .v undef, .v undef, .v undef, .v undef, .v undef], []⟩ rfl ?_
  repeat' first | (with_reducible first | refine AWP_seq' ?_ | refine k_normal ?_ | refine k_ret ?_ | refine AWP_ret ?_) | ((with_reducible refine AWP_reg fun KC J hJ hKC => ?_); simp (maxSteps := 10000000) only [push_cast, seval, ↓reduceIte, (show idxF (fun _ : Int × Int => false) [] = -1 from rfl)]) | (refine hKC _ _ _ _ _ (callV0 (hif) rfl rfl rfl ?_ ?_); (· exact Lq); simp (maxSteps := 10000000) only [push_cast, seval, ↓reduceIte, (show idxF (fun _ : Int × Int => false) [] = -1 from rfl)]) | ((with_reducible refine hJ _ _ ?_); clear hJ hKC KC J) | ((with_reducible refine AWP_condT ?_ ?_); · rfl)
  refine ret_plain ?_
  simp (maxSteps := 10000000) only [push_cast, seval, ↓reduceIte, show Try.f228.results = #[(.tmp 4)] from rfl]
  exact Lq
theorem deleteFuncA_fn (l : List (Int × Int)) (n : Nat) (hn0 : l.length = n) (cf : Nat) (caps : List D) (q : Int × Int → Bool) (hb : n ≤ 1000000) (hc : frz0All caps = true)
    (hp : ∀ x ∈ l, Fn Try.prog cf (.agg [.v (.int .i64 x.1), .v (.int .i64 x.2)] :: caps) [] (.v (.bool (!q x))) []) :
    Fn (Try.prog) 228 [.ref 0 0 n, .fn cf caps] [.ent ⟨0, some 2, 79, pCells l, .cells⟩] (.sl false 2 (pRow (l.filter q))) [.dead] := by
  have hif := indexFuncAK_fn l n hn0 cf caps (fun x => !q x) hb hc hp
  have hlC : ∀ l : List (Int × Int), l.length = n → (pCells l).length = n * 2 := fun l h => by rw [pCells_length, h]
  have hbm : Nat.beq 0 0 = true := rfl
  refine Fn.of (fn := Try.f228) (by kernel_rfl) rfl (by kernel_rfl) ⟨[.ref 0 0 n, .fn cf caps, .v undef, .v undef, .v undef, .v undef, .v undef, .v undef, .v undef, .v undef, .v undef, .v undef, .v undef, .v undef, .v undef, .v undef, .v undef, .v undef, .v undef, .v undef, .v undef, .v undef, .v undef, .v undef, .v undef, .v undef, .v undef, .v undef, .v undef, .v undef, .v undef, .v undef, .v undef, .v undef, .v undef, .v undef, .v undef, .v undef, .v undef, .v undef, .v undef, .v undef], [.ent ⟨0, some 2, 79, pCells l, .cells⟩]⟩ rfl ?_
  rcases idxF_cases (fun x => !q x) l with ⟨hi, hno⟩ | ⟨i, hi, hil, hpi, hno⟩
  · have hfl : l.filter q = l := List.filter_eq_self.2 fun x hx => by simpa using hno x hx
    rw [hfl]
    have hcS : chunk 2 n (pCells l) = pRow l := by rw [← hn0]; exact chunk_p l
    repeat' first | (with_reducible first | refine AWP_seq' ?_ | refine k_normal ?_) | ((with_reducible refine AWP_reg fun KC J hJ hKC => ?_); simp (maxSteps := 10000000) only [push_cast, seval, ↓reduceIte, hi, backOf, callSets, renSlot, pick, mOf, idx, ren_pCells]) | (refine hKC _ _ _ _ _ (callK [0] hif rfl rfl rfl (by decide) (by simp) rfl (by simp only [push_cast, pick, mOf, idx, renSlot, ren_pCells]) (by simp only [push_cast, mOf, idx]; exact ⟨leD_refl _, leD_fn hc, trivial⟩) ?_); simp (maxSteps := 10000000) only [push_cast, seval, ↓reduceIte, hi, backOf, callSets, renSlot, pick, mOf, idx, ren_pCells]) | ((with_reducible refine hJ _ _ ?_); clear hJ hKC KC J) | ((with_reducible refine AWP_condT ?_ ?_); · rfl)
    refine AWP_freeze 0 rfl (by simp (maxSteps := 10000000) only [push_cast, seval, ↓reduceIte]) ?_
    simp (maxSteps := 10000000) only [push_cast, seval, ↓reduceIte, frSt, frSlot, fr3, fr2, fr1, fr0, sameB, arrOf, hbm, hlC l hn0, hcS]
    refine AWP_ret ?_
    refine ret_keys ?_
    simp (maxSteps := 10000000) only [push_cast, seval, ↓reduceIte, show Try.f228.results = #[(.tmp 4)] from rfl]
    exact ⟨rfl, leD_refl _⟩
  · skip
    repeat' first | (with_reducible first | refine AWP_seq' ?_ | refine k_normal ?_ | refine AWP_skip ?_ | refine AWP_block ?_) | ((with_reducible refine AWP_reg fun KC J hJ hKC => ?_); simp (maxSteps := 10000000) only [push_cast, seval, ↓reduceIte, hi, backOf, callSets, renSlot, pick, mOf, idx, ren_pCells]) | (refine hKC _ _ _ _ _ (callK [0] hif rfl rfl rfl (by decide) (by simp) rfl (by simp only [push_cast, pick, mOf, idx, renSlot, ren_pCells]) (by simp only [push_cast, mOf, idx]; exact ⟨leD_refl _, leD_fn hc, trivial⟩) ?_); simp (maxSteps := 10000000) only [push_cast, seval, ↓reduceIte, hi, backOf, callSets, renSlot, pick, mOf, idx, ren_pCells]) | ((with_reducible refine hJ _ _ ?_); clear hJ hKC KC J) | ((with_reducible refine AWP_condF ?_ ?_); · rfl)
    refine AWP_loopD 1 (γ := {s : List (Int × Int) × Nat × Nat // s.1.length = n ∧ s.2.1 ≤ s.2.2 ∧ s.2.2 ≤ n ∧ s.1.take s.2.1 = (l.take s.2.2).filter q ∧ s.1.drop s.2.2 = l.drop s.2.2}) (fun s => ⟨[.ref 0 0 n, .fn cf caps, .any, .any, .any, .v (.int .i64 s.1.2.1), .v (.int .i64 s.1.2.2), .any, .any, .any, .any, .any, .any, .any, .any, .any, .any, .any, .any, .any, .any, .any, .any, .any, .any, .any, .any, .any, .any, .any, .any, .any, .any, .any, .any, .any, .any, .any, .any, .any, .any, .any], [.ent ⟨0, some 2, 79, pCells s.1.1, .cells⟩]⟩) (fun s => n - s.1.2.2) ⟨(l, i, i + 1), hn0, by simp, by simp only; omega, ?_, rfl⟩ (fun s => rfl) (fun s => ?_) (fun s => ?_) ⟨?_, ?_⟩ ?_
    · simp only
      rw [List.take_succ_eq_append_getElem hil, List.filter_append, List.filter_eq_self.2 (fun x hx => ?_)]
      · simp at hpi; simp [hpi]
      · obtain ⟨j, hj, rfl⟩ := List.mem_iff_getElem.1 hx
        have hj2 : j < i := by rw [List.length_take] at hj; omega
        have := hno j (by omega) hj2
        simpa using this
    · refine clsd_all ?_
      simp only [List.map_cons, List.map_nil, renSlot, ren_pCells]
    · simp only [List.map_cons, List.map_nil, show ren (mOf (List.range 1)) (.fn cf caps) = .fn cf caps from by show D.fn cf (caps.map _) = _; rw [map_frz0 (fun d hd => ren0_frz0 hd) hc]]
      rfl
    · simp only [wrapN (i := i) (n := n) (by omega) (by omega)]
      exact Lq
    · exact Fq
    rintro ⟨⟨l', a, b⟩, h1, h2, h3, h4, h5⟩
    simp only at h1 h2 h3 h4 h5 ⊢
    by_cases hlt : (b : Int) < (n : Int)
    · have hbn : b < n := by omega
      have hx : l[b]? = some l[b] := List.getElem?_eq_getElem (by omega)
      have hxm : l[b] ∈ l := List.getElem_mem (by omega)
      obtain ⟨x, hx0⟩ : ∃ x, l[b] = x := ⟨_, rfl⟩
      rw [hx0] at hx hxm
      have hx' : l'[b]? = some x := by
        have := congrArg (fun m => m[0]?) h5
        simp only [List.getElem?_drop, Nat.add_zero] at this
        rw [this, hx]
      have hfn := hp x hxm
      have hat := pCells_at hx'
      have htk : (l.take (b + 1)).filter q = (l.take b).filter q ++ (if q x = true then [x] else []) := by
        rw [List.take_succ_eq_append_getElem (by omega), List.filter_append, hx0]
        by_cases h : q x = true <;> simp [h]
      have hdr : l'.drop (b + 1) = l.drop (b + 1) := by
        have := congrArg (List.drop 1) h5
        simpa [List.drop_drop, Nat.add_comm] using this
      cases hq : q x with
      | true =>
        rw [hq] at hfn
        have hset := pCells_set l' x (a := a) (by omega)
        rw [hq, if_pos rfl] at htk
        repeat' first | (with_reducible first | refine AWP_seq' ?_ | refine k_normal ?_ | refine b_normal ?_ | refine AWP_skip ?_ | refine AWP_block ?_) | ((with_reducible refine AWP_reg fun KC J hJ hKC => ?_); simp (maxSteps := 10000000) only [push_cast, seval, ↓reduceIte, hlt, hlC l' h1, hat, wrapN (i := a) (n := n) (by omega) (by omega), wrapN (i := b) (n := n) (by omega) (by omega)]) | ((with_reducible refine And.intro ?_ ?_); · exact Sq) | (refine hKC _ _ _ _ _ (callV0 (hfn) rfl rfl rfl ?_ ?_); (· exact Lq); simp (maxSteps := 10000000) only [push_cast, seval, ↓reduceIte, hlt, hlC l' h1, hat, wrapN (i := a) (n := n) (by omega) (by omega), wrapN (i := b) (n := n) (by omega) (by omega)]) | ((with_reducible refine hJ _ _ ?_); clear hJ hKC KC J) | ((with_reducible refine AWP_condT ?_ ?_); · rfl)
        refine ⟨⟨(l'.set a x, a + 1, b + 1), by simp [h1], by simp only; omega, by simp only; omega, ?_, ?_⟩, by simp only; omega, ?_, ?_⟩
        · simp only
          rw [htk, ← h4, List.take_succ_eq_append_getElem (by simp; omega), List.getElem_set_self, List.take_set_of_le (Nat.le_refl _)]
        · simp only
          rw [List.drop_set_of_lt (by omega), hdr]
        · exact Lq
        · simp only [hset]
          exact ⟨_, rfl⟩
      | false =>
        rw [hq] at hfn
        rw [hq, if_neg (by simp), List.append_nil] at htk
        repeat' first | (with_reducible first | refine AWP_seq' ?_ | refine k_normal ?_ | refine b_normal ?_ | refine AWP_skip ?_ | refine AWP_block ?_) | ((with_reducible refine AWP_reg fun KC J hJ hKC => ?_); simp (maxSteps := 10000000) only [push_cast, seval, ↓reduceIte, hlt, hlC l' h1, hat, wrapN (i := b) (n := n) (by omega) (by omega)]) | ((with_reducible refine And.intro ?_ ?_); · exact Sq) | (refine hKC _ _ _ _ _ (callV0 (hfn) rfl rfl rfl ?_ ?_); (· exact Lq); simp (maxSteps := 10000000) only [push_cast, seval, ↓reduceIte, hlt, hlC l' h1, hat, wrapN (i := b) (n := n) (by omega) (by omega)]) | ((with_reducible refine hJ _ _ ?_); clear hJ hKC KC J) | ((with_reducible refine AWP_condT ?_ ?_); · rfl) | ((with_reducible refine AWP_condF ?_ ?_); · rfl)
        refine ⟨⟨(l', a, b + 1), h1, by simp only; omega, by simp only; omega, by simp only; rw [htk]; exact h4, hdr⟩, by simp only; omega, ?_, ⟨_, rfl⟩⟩
        exact Lq
    · have hbn : b = n := by omega
      subst hbn
      rw [← hn0, List.take_length] at h4
      have hT : (pCells l').take (a * 2) = pCells (l.filter q) := by rw [pCells_take, h4]
      have hFl : (l.filter q).length = a := by rw [← h4]; simp; omega
      obtain ⟨F, hF⟩ : ∃ F, l.filter q = F := ⟨_, rfl⟩
      rw [hF] at hT hFl ⊢
      have hFC : (pCells F).length = a * 2 := by rw [pCells_length, hFl]
      have hcS : chunk 2 a (pCells F) = pRow F := by rw [← hFl]; exact chunk_p F
      repeat' first | (with_reducible first | refine AWP_seq' ?_ | refine k_normal ?_ | refine k_exit ?_ | refine b_exit ?_ | refine AWP_exit ?_) | ((with_reducible refine AWP_reg fun KC J hJ hKC => ?_); simp (maxSteps := 10000000) only [push_cast, seval, ↓reduceIte, hlt, hlC l' h1, hT]) | ((with_reducible refine And.intro ?_ ?_); · exact Sq) | ((with_reducible refine hJ _ _ ?_); clear hJ hKC KC J) | ((with_reducible refine AWP_condF ?_ ?_); · rfl)
      refine AWP_freeze 0 rfl (by simp (maxSteps := 10000000) only [push_cast, seval, ↓reduceIte]) ?_
      simp (maxSteps := 10000000) only [push_cast, seval, ↓reduceIte, frSt, frSlot, fr3, fr2, fr1, fr0, sameB, arrOf, hbm, hFC, hcS]
      refine AWP_ret ?_
      refine ret_keys ?_
      simp (maxSteps := 10000000) only [push_cast, seval, ↓reduceIte, show Try.f228.results = #[(.tmp 4)] from rfl]
      exact ⟨rfl, leD_refl _⟩
theorem equalA_fn (f g : Bool) (xs ys : List (Int × Int)) (hb : xs.length ≤ 9223372036854775807) : Fn Try.prog 227 [.sl f 2 (pRow xs), .sl g 2 (pRow ys)] [] (.v (.bool (decide (xs = ys)))) [] := by
  refine Fn.of (fn := Try.f227) (by kernel_rfl) rfl (by kernel_rfl) ⟨[.sl f 2 (pRow xs), .sl g 2 (pRow ys), .v undef, .v undef, .v undef, .v undef, .v undef, .v undef, .v undef, .v undef, .v undef, .v undef, .v undef, .v undef, .v undef, .v undef, .v undef, .v undef, .v undef, .v undef, .v undef, .v undef, .v undef, .v undef, .v undef, .v undef], []⟩ rfl ?_
  by_cases hl : xs.length = ys.length
  · have hl' : ((xs.length : Int) != (ys.length : Int)) = false := by simp [hl]
    repeat' first | (with_reducible first | refine AWP_seq' ?_ | refine k_normal ?_ | refine AWP_skip ?_ | refine AWP_block ?_) | ((with_reducible refine AWP_reg fun KC J hJ hKC => ?_); simp (maxSteps := 10000000) only [push_cast, seval, ↓reduceIte, hl']) | ((with_reducible refine hJ _ _ ?_); clear hJ hKC KC J) | ((with_reducible refine AWP_condF ?_ ?_); · rfl)
    refine AWP_loopF (γ := {i : Nat // i ≤ xs.length ∧ ∀ j, j < i → xs[j]? = ys[j]?}) (fun i => ⟨[.sl f 2 (pRow xs), .sl g 2 (pRow ys), .any, .any, .any, .any, .any, .any, .any, .any, .any, .any, .v (.int .i64 xs.length), .v (.int .i64 i.1), .any, .any, .any, .any, .any, .any, .any, .any, .any, .any, .any, .any], []⟩) (fun i => xs.length - i.1) ⟨0, by simp⟩ ⟨?_, Fq⟩ ?_
    · exact Lq
    · rintro ⟨i, hi, hn⟩
      by_cases hlt : (i : Int) < (xs.length : Int)
      · have hx : xs[i]? = some xs[i] := List.getElem?_eq_getElem (by omega)
        have hy : ys[i]? = some ys[i] := List.getElem?_eq_getElem (by omega)
        obtain ⟨a, ha⟩ : ∃ a, xs[i] = a := ⟨_, rfl⟩
        obtain ⟨b, hb2⟩ : ∃ b, ys[i] = b := ⟨_, rfl⟩
        rw [ha] at hx
        rw [hb2] at hy
        by_cases he : a = b
        · have he' : decide (a = b) = true := decide_eq_true he
          repeat' first | (with_reducible first | refine AWP_seq' ?_ | refine k_normal ?_ | refine b_normal ?_ | refine AWP_skip ?_ | refine AWP_block ?_) | ((with_reducible first | refine AWP_reg fun KC J hJ hKC => ?_ | refine AWP_regD rfl fun KC J hJ hKC => ?_); simp (maxSteps := 10000000) only [push_cast, seval, ↓reduceIte, hlt, getE_p hx, getE_p hy, pair_eq, he', wrapN (i := i) (n := xs.length) (by omega) hb]) | ((with_reducible refine And.intro ?_ ?_); · exact Sq) | ((first | with_reducible refine hJ _ _ ?_ | (with_reducible refine hJ _ _ ?_ ?_; · kernel_rfl)); clear hJ hKC KC J) | ((with_reducible refine AWP_condT ?_ ?_); · rfl) | ((with_reducible refine AWP_condF ?_ ?_); · rfl)
          refine ⟨⟨i + 1, by omega, fun j hj => ?_⟩, by simp only; omega, ?_, Fq⟩
          · by_cases hji : j = i
            · rw [hji, hx, hy, he]
            · exact hn j (by omega)
          · exact Lq
        · have he' : decide (a = b) = false := decide_eq_false he
          repeat' first | (with_reducible first | refine AWP_seq' ?_ | refine k_normal ?_ | refine k_ret ?_ | refine b_ret ?_ | refine AWP_ret ?_ | refine AWP_skip ?_ | refine AWP_block ?_) | ((with_reducible first | refine AWP_reg fun KC J hJ hKC => ?_ | refine AWP_regD rfl fun KC J hJ hKC => ?_); simp (maxSteps := 10000000) only [push_cast, seval, ↓reduceIte, hlt, getE_p hx, getE_p hy, pair_eq, he']) | ((with_reducible refine And.intro ?_ ?_); · exact Sq) | ((first | with_reducible refine hJ _ _ ?_ | (with_reducible refine hJ _ _ ?_ ?_; · kernel_rfl)); clear hJ hKC KC J) | ((with_reducible refine AWP_condT ?_ ?_); · rfl)
          refine ret_plain ?_
          simp (maxSteps := 10000000) only [push_cast, seval, ↓reduceIte, show Try.f227.results = #[(.tmp 4)] from rfl]
          rw [decide_eq_false (fun h => he (by rw [h, hy] at hx; exact (Option.some.inj hx).symm))]
          exact leD_refl _
      · skip
        repeat' first | (with_reducible first | refine AWP_seq' ?_ | refine k_normal ?_ | refine k_exit ?_ | refine b_exit ?_ | refine AWP_ret ?_ | refine AWP_exit ?_) | ((with_reducible refine AWP_reg fun KC J hJ hKC => ?_); simp (maxSteps := 10000000) only [push_cast, seval, ↓reduceIte, hlt]) | ((with_reducible refine hJ _ _ ?_); clear hJ hKC KC J) | ((with_reducible refine AWP_condF ?_ ?_); · rfl)
        refine ret_plain ?_
        simp (maxSteps := 10000000) only [push_cast, seval, ↓reduceIte, show Try.f227.results = #[(.tmp 4)] from rfl]
        rw [decide_eq_true (list_eq_of hl fun j hj => hn j (by omega))]
        exact leD_refl _
  · have hl' : ((xs.length : Int) != (ys.length : Int)) = true := by simp; omega
    repeat' first | (with_reducible first | refine AWP_seq' ?_ | refine k_normal ?_ | refine k_ret ?_ | refine AWP_ret ?_) | ((with_reducible refine AWP_reg fun KC J hJ hKC => ?_); simp (maxSteps := 10000000) only [push_cast, seval, ↓reduceIte, hl']) | ((with_reducible refine hJ _ _ ?_); clear hJ hKC KC J) | ((with_reducible refine AWP_condT ?_ ?_); · rfl)
    refine ret_plain ?_
    simp (maxSteps := 10000000) only [push_cast, seval, ↓reduceIte, show Try.f227.results = #[(.tmp 4)] from rfl]
    rw [decide_eq_false (fun h => hl (by rw [h]))]
    exact leD_refl _
/-- What an observer sees of an atom. -/
def keepA (us : List Nat) (o : Nat) (x : Int × Int) : Bool := fl us x.2.toNat o
theorem outs1_fn (f g : Bool) (ns : List ByteArray) (us : List Nat) (o : Nat) (x : Int × Int) (hs : Szs ns) (hu : U32 us) (hc : checkF ns us = 0) (ho : o < us.length) (hx : oddL us.length x.2 = false) :
    Fn Try.prog 226 [.agg [.v (.int .i64 x.1), .v (.int .i64 x.2)], .fad [.sl f 1 (strRow ns), .sl g 1 (u32Row us), .v (.int .i64 (o : Int))]] [] (.v (.bool (!keepA us o x))) [] := by
  obtain ⟨v, l⟩ := x
  obtain ⟨a, ha, hl⟩ := oddL_no hx
  simp only at ha
  subst ha
  have h5 := sees_fn f g ns us a o hs hu hc hl ho
  have hk : keepA us o (v, (a : Int)) = fl us a o := by rw [keepA, Int.toNat_natCast]
  rw [hk]
  refine Fn.of (fn := Try.f226) (by kernel_rfl) rfl (by kernel_rfl) ⟨[.agg [.v (.int .i64 v), .v (.int .i64 (a : Int))], .fad [.sl f 1 (strRow ns), .sl g 1 (u32Row us), .v (.int .i64 (o : Int))], .v undef, .v undef, .v undef, .v undef, .v undef, .v undef, .v undef], []⟩ rfl ?_
  repeat' first | (with_reducible first | refine AWP_seq' ?_ | refine k_normal ?_ | refine AWP_ret ?_) | ((with_reducible refine AWP_reg fun KC J hJ hKC => ?_); simp (maxSteps := 10000000) only [push_cast, seval, ↓reduceIte]) | (refine' hKC _ _ _ _ _ (callV0 (sees_fn _ _ _ _ _ _ ?_ ?_ ?_ ?_ ?_) rfl rfl rfl ?_ ?_); (rotate_left 11); (· exact Lq); (rotate_left 1); (iterate 5 (· exact Hq)); simp (maxSteps := 10000000) only [push_cast, seval, ↓reduceIte]) | ((with_reducible refine hJ _ _ ?_); clear hJ hKC KC J)
  refine ret_plain ?_
  simp (maxSteps := 10000000) only [push_cast, seval, ↓reduceIte, show Try.f226.results = #[(.tmp 3)] from rfl]
  exact leD_refl _
theorem outs_fn (f g fa fb : Bool) (ns : List ByteArray) (us : List Nat) (o : Nat) (a b : List (Int × Int)) (hs : Szs ns) (hu : U32 us) (hc : checkF ns us = 0) (ho : o < us.length) (hal : a.length ≤ 1000) (hbl : b.length ≤ 1000) (ha : ∀ x ∈ a, oddL us.length x.2 = false) (hb : ∀ x ∈ b, oddL us.length x.2 = false) :
    Fn Try.prog 133 [.agg [.sl f 1 (strRow ns), .sl g 1 (u32Row us), .v (.int .i64 (o : Int))], .sl fa 2 (pRow a), .sl fb 2 (pRow b)] [] (.v (.bool (decide (a.filter (keepA us o) = b.filter (keepA us o))))) [] := by
  have hdA : ∀ l : List (Int × Int), l.length ≤ 1000 → (∀ x ∈ l, oddL us.length x.2 = false) → ∀ n, l.length = n → Fn (Try.prog) 228 [.ref 0 0 n, .fn 226 [.fad [.sl f 1 (strRow ns), .sl g 1 (u32Row us), .v (.int .i64 (o : Int))]]] [.ent ⟨0, some 2, 79, pCells l, .cells⟩] (.sl false 2 (pRow (l.filter (keepA us o)))) [.dead] := fun l hl hx n hn =>
    deleteFuncA_fn l n hn 226 [.fad [.sl f 1 (strRow ns), .sl g 1 (u32Row us), .v (.int .i64 (o : Int))]] (keepA us o) (by omega) rfl (fun x hm => outs1_fn f g ns us o x hs hu hc ho (hx x hm))
  have hd0 := deleteFuncA_nil 226 [.fad [.sl f 1 (strRow ns), .sl g 1 (u32Row us), .v (.int .i64 (o : Int))]] rfl
  have hda := hdA a hal ha _ rfl
  have hdb := hdA b hbl hb _ rfl
  obtain ⟨A, hA⟩ : ∃ A, a.filter (keepA us o) = A := ⟨_, rfl⟩
  obtain ⟨B, hB⟩ : ∃ B, b.filter (keepA us o) = B := ⟨_, rfl⟩
  have hAl : A.length ≤ 1000 := by rw [← hA]; exact Nat.le_trans (List.length_filter_le _ _) hal
  rw [hA] at hda
  rw [hB] at hdb
  rw [hA, hB]
  have hca := cloneA_fn fa a
  have hcb := cloneA_fn fb b
  have hc0a := cloneA_nil fa
  have hc0b := cloneA_nil fb
  refine Fn.of (fn := Try.f133) (by kernel_rfl) rfl (by kernel_rfl) ⟨[.agg [.sl f 1 (strRow ns), .sl g 1 (u32Row us), .v (.int .i64 (o : Int))], .sl fa 2 (pRow a), .sl fb 2 (pRow b), .v undef, .v undef, .v undef, .v undef, .v undef, .v undef, .v undef, .v undef, .v undef, .v undef, .v undef, .v undef, .v undef, .v undef, .v undef], []⟩ rfl ?_
  rcases Nat.eq_zero_or_pos a.length with h0a | h0a
  · have ea : a = [] := List.eq_nil_of_length_eq_zero h0a
    subst ea
    have eA : A = [] := by rw [← hA]; rfl
    subst eA
    rcases Nat.eq_zero_or_pos b.length with h0b | h0b
    · have eb : b = [] := List.eq_nil_of_length_eq_zero h0b
      subst eb
      have eB : B = [] := by rw [← hB]; rfl
      subst eB
      have heq := equalA_fn true true [] [] (by simp)
      repeat' first | (refine AWP_freezeR 1 0 rfl (by (simp (maxSteps := 10000000) only [push_cast, seval, ↓reduceIte]) <;> rfl) ?_; simp (maxSteps := 10000000) only [push_cast, seval, ↓reduceIte, frSt, frSlot, fr3, fr2, fr1, fr0, sameB, arrOf, frz0All, Bool.and_self, backOf, callSets, renSlot, pick, mOf, idx, ren_pCells]) | (with_reducible first | refine AWP_seq' ?_ | refine k_normal ?_ | refine AWP_ret ?_) | ((with_reducible refine AWP_reg fun KC J hJ hKC => ?_); simp (maxSteps := 10000000) only [push_cast, seval, ↓reduceIte, frz0All, Bool.and_self, backOf, callSets, renSlot, pick, mOf, idx, ren_pCells]) | (refine hKC _ _ _ _ _ (callV0 (hc0a) rfl rfl rfl ?_ ?_); (· exact Lq); simp (maxSteps := 10000000) only [push_cast, seval, ↓reduceIte, frz0All, Bool.and_self, backOf, callSets, renSlot, pick, mOf, idx, ren_pCells]) | (refine hKC _ _ _ _ _ (callV0 (hc0b) rfl rfl rfl ?_ ?_); (· exact Lq); simp (maxSteps := 10000000) only [push_cast, seval, ↓reduceIte, frz0All, Bool.and_self, backOf, callSets, renSlot, pick, mOf, idx, ren_pCells]) | (refine hKC _ _ _ _ _ (callV0 (hd0) rfl rfl rfl ?_ ?_); (· exact Lq); simp (maxSteps := 10000000) only [push_cast, seval, ↓reduceIte, frz0All, Bool.and_self, backOf, callSets, renSlot, pick, mOf, idx, ren_pCells]) | (refine hKC _ _ _ _ _ (callV0 (heq) rfl rfl rfl ?_ ?_); (· exact Lq); simp (maxSteps := 10000000) only [push_cast, seval, ↓reduceIte, frz0All, Bool.and_self, backOf, callSets, renSlot, pick, mOf, idx, ren_pCells]) | ((with_reducible refine hJ _ _ ?_); clear hJ hKC KC J)
      refine ret_plain ?_
      simp (maxSteps := 10000000) only [push_cast, seval, ↓reduceIte, show Try.f133.results = #[(.tmp 6)] from rfl]
      exact leD_refl _
    · have heq := equalA_fn true false [] B (by simp)
      have hcb := hcb h0b (by omega)
      repeat' first | (refine AWP_freezeR 1 0 rfl (by (simp (maxSteps := 10000000) only [push_cast, seval, ↓reduceIte]) <;> rfl) ?_; simp (maxSteps := 10000000) only [push_cast, seval, ↓reduceIte, frSt, frSlot, fr3, fr2, fr1, fr0, sameB, arrOf, frz0All, Bool.and_self, backOf, callSets, renSlot, pick, mOf, idx, ren_pCells]) | (with_reducible first | refine AWP_seq' ?_ | refine k_normal ?_ | refine AWP_ret ?_) | ((with_reducible refine AWP_reg fun KC J hJ hKC => ?_); simp (maxSteps := 10000000) only [push_cast, seval, ↓reduceIte, frz0All, Bool.and_self, backOf, callSets, renSlot, pick, mOf, idx, ren_pCells]) | (refine hKC _ _ _ _ _ (callN [] hcb rfl rfl rfl (by simp) (fun _ h => by cases h) rfl rfl rfl (leF_cons (leD_refl _) leF_nil) ?_); simp (maxSteps := 10000000) only [push_cast, seval, ↓reduceIte, frz0All, Bool.and_self, backOf, callSets, renSlot, pick, mOf, idx, ren_pCells]) | (refine hKC _ _ _ _ _ (callK [3] hdb rfl rfl rfl (by decide) (by simp) rfl (by simp only [push_cast, pick, mOf, idx, renSlot, ren_pCells]) (by simp only [push_cast, mOf, idx]; exact ⟨leD_refl _, leD_refl _, trivial⟩) ?_); simp (maxSteps := 10000000) only [push_cast, seval, ↓reduceIte, frz0All, Bool.and_self, backOf, callSets, renSlot, pick, mOf, idx, ren_pCells]) | (refine hKC _ _ _ _ _ (callV0 (hc0a) rfl rfl rfl ?_ ?_); (· exact Lq); simp (maxSteps := 10000000) only [push_cast, seval, ↓reduceIte, frz0All, Bool.and_self, backOf, callSets, renSlot, pick, mOf, idx, ren_pCells]) | (refine hKC _ _ _ _ _ (callV0 (hd0) rfl rfl rfl ?_ ?_); (· exact Lq); simp (maxSteps := 10000000) only [push_cast, seval, ↓reduceIte, frz0All, Bool.and_self, backOf, callSets, renSlot, pick, mOf, idx, ren_pCells]) | (refine hKC _ _ _ _ _ (callV0 (heq) rfl rfl rfl ?_ ?_); (· exact Lq); simp (maxSteps := 10000000) only [push_cast, seval, ↓reduceIte, frz0All, Bool.and_self, backOf, callSets, renSlot, pick, mOf, idx, ren_pCells]) | ((with_reducible refine hJ _ _ ?_); clear hJ hKC KC J)
      refine ret_plain ?_
      simp (maxSteps := 10000000) only [push_cast, seval, ↓reduceIte, show Try.f133.results = #[(.tmp 6)] from rfl]
      exact leD_refl _
  · have hca := hca h0a (by omega)
    rcases Nat.eq_zero_or_pos b.length with h0b | h0b
    · have eb : b = [] := List.eq_nil_of_length_eq_zero h0b
      subst eb
      have eB : B = [] := by rw [← hB]; rfl
      subst eB
      have heq := equalA_fn false true A [] (by omega)
      repeat' first | (refine AWP_freezeR 1 0 rfl (by (simp (maxSteps := 10000000) only [push_cast, seval, ↓reduceIte]) <;> rfl) ?_; simp (maxSteps := 10000000) only [push_cast, seval, ↓reduceIte, frSt, frSlot, fr3, fr2, fr1, fr0, sameB, arrOf, frz0All, Bool.and_self, backOf, callSets, renSlot, pick, mOf, idx, ren_pCells]) | (with_reducible first | refine AWP_seq' ?_ | refine k_normal ?_ | refine AWP_ret ?_) | ((with_reducible refine AWP_reg fun KC J hJ hKC => ?_); simp (maxSteps := 10000000) only [push_cast, seval, ↓reduceIte, frz0All, Bool.and_self, backOf, callSets, renSlot, pick, mOf, idx, ren_pCells]) | (refine hKC _ _ _ _ _ (callN [] hca rfl rfl rfl (by simp) (fun _ h => by cases h) rfl rfl rfl (leF_cons (leD_refl _) leF_nil) ?_); simp (maxSteps := 10000000) only [push_cast, seval, ↓reduceIte, frz0All, Bool.and_self, backOf, callSets, renSlot, pick, mOf, idx, ren_pCells]) | (refine hKC _ _ _ _ _ (callK [1] hda rfl rfl rfl (by decide) (by simp) rfl (by simp only [push_cast, pick, mOf, idx, renSlot, ren_pCells]) (by simp only [push_cast, mOf, idx]; exact ⟨leD_refl _, leD_refl _, trivial⟩) ?_); simp (maxSteps := 10000000) only [push_cast, seval, ↓reduceIte, frz0All, Bool.and_self, backOf, callSets, renSlot, pick, mOf, idx, ren_pCells]) | (refine hKC _ _ _ _ _ (callV0 (hc0b) rfl rfl rfl ?_ ?_); (· exact Lq); simp (maxSteps := 10000000) only [push_cast, seval, ↓reduceIte, frz0All, Bool.and_self, backOf, callSets, renSlot, pick, mOf, idx, ren_pCells]) | (refine hKC _ _ _ _ _ (callV0 (hd0) rfl rfl rfl ?_ ?_); (· exact Lq); simp (maxSteps := 10000000) only [push_cast, seval, ↓reduceIte, frz0All, Bool.and_self, backOf, callSets, renSlot, pick, mOf, idx, ren_pCells]) | (refine hKC _ _ _ _ _ (callV0 (heq) rfl rfl rfl ?_ ?_); (· exact Lq); simp (maxSteps := 10000000) only [push_cast, seval, ↓reduceIte, frz0All, Bool.and_self, backOf, callSets, renSlot, pick, mOf, idx, ren_pCells]) | ((with_reducible refine hJ _ _ ?_); clear hJ hKC KC J)
      refine ret_plain ?_
      simp (maxSteps := 10000000) only [push_cast, seval, ↓reduceIte, show Try.f133.results = #[(.tmp 6)] from rfl]
      exact leD_refl _
    · have hcb := hcb h0b (by omega)
      repeat' first | (refine AWP_freezeR 1 0 rfl (by (simp (maxSteps := 10000000) only [push_cast, seval, ↓reduceIte]) <;> rfl) ?_; simp (maxSteps := 10000000) only [push_cast, seval, ↓reduceIte, frSt, frSlot, fr3, fr2, fr1, fr0, sameB, arrOf, frz0All, Bool.and_self, backOf, callSets, renSlot, pick, mOf, idx, ren_pCells]) | (with_reducible first | refine AWP_seq' ?_ | refine k_normal ?_ | refine AWP_ret ?_) | ((with_reducible refine AWP_reg fun KC J hJ hKC => ?_); simp (maxSteps := 10000000) only [push_cast, seval, ↓reduceIte, frz0All, Bool.and_self, backOf, callSets, renSlot, pick, mOf, idx, ren_pCells]) | (refine' hKC _ _ _ _ _ (callV0 (equalA_fn _ _ _ _ ?_) rfl rfl rfl ?_ ?_); (rotate_left 5); (· exact Lq); (rotate_left 1); (iterate 1 (· exact Hq)); simp (maxSteps := 10000000) only [push_cast, seval, ↓reduceIte, frz0All, Bool.and_self, backOf, callSets, renSlot, pick, mOf, idx, ren_pCells]) | (refine hKC _ _ _ _ _ (callN [] hca rfl rfl rfl (by simp) (fun _ h => by cases h) rfl rfl rfl (leF_cons (leD_refl _) leF_nil) ?_); simp (maxSteps := 10000000) only [push_cast, seval, ↓reduceIte, frz0All, Bool.and_self, backOf, callSets, renSlot, pick, mOf, idx, ren_pCells]) | (refine hKC _ _ _ _ _ (callN [] hcb rfl rfl rfl (by simp) (fun _ h => by cases h) rfl rfl rfl (leF_cons (leD_refl _) leF_nil) ?_); simp (maxSteps := 10000000) only [push_cast, seval, ↓reduceIte, frz0All, Bool.and_self, backOf, callSets, renSlot, pick, mOf, idx, ren_pCells]) | (refine hKC _ _ _ _ _ (callK [1] hda rfl rfl rfl (by decide) (by simp) rfl (by simp only [push_cast, pick, mOf, idx, renSlot, ren_pCells]) (by simp only [push_cast, mOf, idx]; exact ⟨leD_refl _, leD_refl _, trivial⟩) ?_); simp (maxSteps := 10000000) only [push_cast, seval, ↓reduceIte, frz0All, Bool.and_self, backOf, callSets, renSlot, pick, mOf, idx, ren_pCells]) | (refine hKC _ _ _ _ _ (callK [3] hdb rfl rfl rfl (by decide) (by simp) rfl (by simp only [push_cast, pick, mOf, idx, renSlot, ren_pCells]) (by simp only [push_cast, mOf, idx]; exact ⟨leD_refl _, leD_refl _, trivial⟩) ?_); simp (maxSteps := 10000000) only [push_cast, seval, ↓reduceIte, frz0All, Bool.and_self, backOf, callSets, renSlot, pick, mOf, idx, ren_pCells]) | ((with_reducible refine hJ _ _ ?_); clear hJ hKC KC J)
      refine ret_plain ?_
      simp (maxSteps := 10000000) only [push_cast, seval, ↓reduceIte, show Try.f133.results = #[(.tmp 6)] from rfl]
      exact leD_refl _
end Go.Proofs.Ytabliglgeiajlaa.AM
