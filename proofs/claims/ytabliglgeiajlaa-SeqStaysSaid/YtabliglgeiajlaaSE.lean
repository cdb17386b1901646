/- Whether instructions are rows of templates: the law's own tester. -/
import Derived.Test.YtabliglgeiajlaaSC
import Derived.Test.YtabliglgeiajlaaHM
set_option linter.unusedSimpArgs false
set_option linter.unusedVariables false
namespace Go.Proofs.Ytabliglgeiajlaa.AM
open Go Go.RowKit Go.Proofs
set_option maxRecDepth 100000
set_option maxHeartbeats 4000000

def lcpN : List Int → List Int → Nat
  | x :: xs, y :: ys => if x = y then lcpN xs ys + 1 else 0
  | _, _ => 0
theorem lcp_le : ∀ a b : List Int, lcpN a b ≤ a.length ∧ lcpN a b ≤ b.length
  | [], _ => by simp [lcpN]
  | _ :: _, [] => by simp [lcpN]
  | x :: xs, y :: ys => by
    have := lcp_le xs ys
    unfold lcpN; split <;> simp <;> omega
theorem lcp_lt : ∀ {a b : List Int} {k : Nat}, k < lcpN a b → ∃ v, a[k]? = some v ∧ b[k]? = some v
  | [], _, k, h => by simp [lcpN] at h
  | _ :: _, [], k, h => by simp [lcpN] at h
  | x :: xs, y :: ys, k, h => by
    unfold lcpN at h
    split at h
    · rename_i e
      cases k with
      | zero => exact ⟨x, rfl, by rw [e]; rfl⟩
      | succ k => simpa using lcp_lt (a := xs) (b := ys) (k := k) (by omega)
    · omega
theorem lcp_at : ∀ {a b : List Int} {x y : Int}, a[lcpN a b]? = some x → b[lcpN a b]? = some y → x ≠ y
  | [], _, x, y, h1, _ => by simp at h1
  | _ :: _, [], x, y, _, h2 => by simp at h2
  | a :: xs, b :: ys, x, y, h1, h2 => by
    unfold lcpN at h1 h2
    split at h1
    · rename_i e
      rw [if_pos e] at h2
      simp at h1 h2
      exact lcp_at h1 h2
    · rename_i e
      rw [if_neg e] at h2
      simp at h1 h2
      rw [← h1, ← h2]; exact e
theorem lcp_prefix : ∀ {a b : List Int}, a <+: b → lcpN a b = a.length
  | [], b, _ => by cases b <;> rfl
  | x :: xs, b, h => by
    obtain ⟨t, rfl⟩ := h
    show (if x = x then lcpN xs (xs ++ t) + 1 else 0) = _
    rw [if_pos rfl, lcp_prefix ⟨t, rfl⟩]; rfl
theorem lcp_prefix' : ∀ {a b : List Int}, b <+: a → lcpN a b = b.length
  | a, [], _ => by cases a <;> rfl
  | a, y :: ys, h => by
    obtain ⟨t, rfl⟩ := h
    show (if y = y then lcpN (ys ++ t) ys + 1 else 0) = _
    rw [if_pos rfl, lcp_prefix' ⟨t, rfl⟩]; rfl
theorem tail_step {r : List Int} (h : Tail r) : ∃ (j : Nat) (t : List Int), tmpls[j]? = some t ∧ (r <+: t ∨ (t <+: r ∧ t.length < r.length ∧ Tail (r.drop t.length))) := by
  obtain ⟨ts, h1, h2⟩ := h
  cases ts with
  | nil => exact ⟨0, [1], rfl, .inl (by simp at h2; rw [h2]; exact List.nil_prefix)⟩
  | cons t ts =>
    obtain ⟨j, hj⟩ := List.mem_iff_getElem?.1 (h1 t List.mem_cons_self)
    refine ⟨j, t, hj, ?_⟩
    rw [List.flatten_cons] at h2
    rcases List.prefix_or_prefix_of_prefix h2 (List.prefix_append t ts.flatten) with h | h
    · exact .inl h
    · by_cases hl : t.length < r.length
      · refine .inr ⟨h, hl, ts, fun u hu => h1 u (List.mem_cons_of_mem _ hu), ?_⟩
        obtain ⟨x, rfl⟩ := h
        rw [List.drop_append_of_le_length (Nat.le_refl _), List.drop_length, List.nil_append]
        exact (List.prefix_append_right_inj t).1 h2
      · have he := h.eq_of_length (by have := h.length_le; omega)
        subst he
        exact .inl List.prefix_rfl
/-- What a template does to a row of marks. -/
theorem mark_ok {r t O : List Int} (hO : O = t) (h : r <+: t ∨ (t <+: r ∧ t.length < r.length ∧ Tail (r.drop t.length))) (hr : ¬ lcpN r O = r.length) : lcpN r O = O.length ∧ t <+: r ∧ t.length < r.length ∧ Tail (r.drop t.length) := by
  subst hO
  rcases h with h | ⟨h1, h2, h3⟩
  · exact absurd (lcp_prefix h) hr
  · exact ⟨lcp_prefix' h1, h1, h2, h3⟩
def bC (l : List Bool) : List D := l.map fun b => .v (.bool b)
theorem bC_length (l : List Bool) : (bC l).length = l.length := by simp [bC]
theorem ren_bC (m : Nat → Option Nat) (l : List Bool) : (bC l).map (ren m) = bC l := by simp [bC, ren, ren2, ren1, ren0]
@[push_cast] theorem frz_bC (l : List Bool) : frzAll (bC l) = true := by induction l with | nil => rfl | cons a l ih => simpa [bC, frzAll, frz, frz0] using ih
theorem bC_app (l m : List Bool) : bC (l ++ m) = bC l ++ bC m := by simp [bC]
def marks (i : Nat) : List Bool := true :: List.replicate i false
theorem marks_succ (i : Nat) : marks (i + 1) = marks i ++ [false] := by
  unfold marks; rw [List.replicate_succ']; rfl
theorem marks_length (i : Nat) : (marks i).length = i + 1 := by simp [marks]
def aD (i : Nat) : D := if i = 0 then .sl true 1 [[.v (.bool true)]] else .ref 1 (i - 1) (i + 1)
def aσ (i : Nat) (cs : List D) : List Slot := if i = 0 then [] else [.dead, .ent ⟨i - 1, some 1, 4, cs, .cells⟩]
theorem aCase (i : Nat) (cs : List D) : (i = 0 ∧ aD i = .sl true 1 [[.v (.bool true)]] ∧ aσ i cs = []) ∨ (∃ j, i = j + 1 ∧ aD i = .ref 1 j (j + 1 + 1) ∧ aσ i cs = [.dead, .ent ⟨j, some 1, 4, cs, .cells⟩]) := by
  cases i with
  | zero => exact .inl ⟨rfl, rfl, rfl⟩
  | succ j => exact .inr ⟨j, rfl, rfl, rfl⟩
theorem whole_fn (f : Bool) (C : List (Int × Int × Int)) (hl : C.length ≤ 100) (ht : Tail (C.map (·.1))) :
    Fn Try.prog 86 [.sl f 3 (tRow C), .sl true 1 tmplRow] [] (.v (.bool true)) [] := by
  have htl := tmplRow_length
  refine Fn.of (fn := Try.f86) (by kernel_rfl) rfl (by kernel_rfl) ⟨[.sl f 3 (tRow C), .sl true 1 tmplRow, .v undef, .v undef, .v undef, .v undef, .v undef, .v undef, .v undef, .v undef, .v undef, .v undef, .v undef, .v undef, .v undef, .v undef, .v undef, .v undef, .v undef, .v undef, .v undef, .v undef, .v undef, .v undef, .v undef, .v undef, .v undef, .v undef, .v undef, .v undef, .v undef, .v undef, .v undef, .v undef, .v undef, .v undef, .v undef, .v undef, .v undef, .v undef, .v undef, .v undef, .v undef, .v undef, .v undef, .v undef, .v undef, .v undef, .v undef, .v undef, .v undef, .v undef, .v undef, .v undef, .v undef, .v undef, .v undef, .v undef, .v undef, .v undef, .v undef, .v undef, .v undef, .v undef, .v undef, .v undef, .v undef, .v undef, .v undef, .v undef, .v undef, .v undef, .v undef, .v undef, .v undef, .v undef, .v undef, .v undef, .v undef, .v undef], []⟩ rfl ?_
  repeat' first | (with_reducible first | refine AWP_seq' ?_ | refine k_normal ?_ | refine k_ret ?_ | refine k_exit ?_ | refine b_normal ?_ | refine b_ret ?_ | refine b_exit ?_ | refine b_pass rfl ?_ | refine AWP_ret ?_ | refine AWP_skip ?_ | refine AWP_exit ?_ | refine AWP_block ?_) | ((with_reducible first | refine AWP_reg fun KC J hJ hKC => ?_ | refine AWP_regD rfl fun KC J hJ hKC => ?_); simp (maxSteps := 10000000) only [push_cast, seval, ↓reduceIte]) | ((with_reducible refine And.intro ?_ ?_); · exact Sq) | ((first | with_reducible refine hJ _ _ ?_ | (with_reducible refine hJ _ _ ?_ ?_; · kernel_rfl)); clear hJ hKC KC J) | ((with_reducible refine AWP_condT ?_ ?_); · rfl) | ((with_reducible refine AWP_condF ?_ ?_); · rfl) | ((with_reducible refine ite_intro (fun hs => ?_) (fun hs => ?_)) <;> (try simp only [Bool.not_eq_true, Bool.not_eq_false, Bool.not_eq_true', Bool.not_eq_false', Decidable.not_not, decide_eq_true_eq, decide_eq_false_iff_not] at hs) <;> (try simp (maxSteps := 10000000) only [push_cast, seval, ↓reduceIte, hs])) | (refine AWP_cond rfl (fun h => ?_) (fun h => ?_) <;> try simp only [decide_eq_true_eq, decide_eq_false_iff_not, Bool.not_eq_true', Bool.not_eq_false', beq_iff_eq, bne_iff_ne, ne_eq, Bool.not_eq_true, Bool.or_eq_true, Bool.and_eq_true, Bool.or_eq_false_iff, Bool.and_eq_false_imp, beq_eq_false_iff_ne, bne_eq_false_iff_eq] at h)
  refine AWP_loopE 0 (γ := {i : Nat // i ≤ C.length}) (fun i => ⟨[.sl f 3 (tRow C), .sl true 1 tmplRow, .any, .any, .any, aD i.1, .any, .any, .any, .any, .any, .any, .v (.int .i64 C.length), .v (.int .i64 i.1), .any, .any, .any, .any, .any, .any, .any, .any, .any, .any, .any, .any, .any, .any, .any, .any, .any, .any, .any, .any, .any, .any, .any, .any, .any, .any, .any, .any, .any, .any, .any, .any, .any, .any, .any, .any, .any, .any, .any, .any, .any, .any, .any, .any, .any, .any, .any, .any, .any, .any, .any, .any, .any, .any, .any, .any, .any, .any, .any, .any, .any, .any, .any, .any, .any, .any], aσ i.1 (bC (marks i.1))⟩) (fun i => C.length - i.1) ⟨0, by omega⟩ rfl (fun i => Nat.zero_le _) (fun i => ?_) (fun i => ?_) ⟨?_, ?_⟩ ?_
  · refine clsd_all ?_
    rcases aCase i.1 (bC (marks i.1)) with ⟨_, hD, hσ⟩ | ⟨j, _, hD, hσ⟩
    all_goals
      simp only [hσ, List.map_cons, List.map_nil, renSlot, ren_bC]
      first | rfl | done
  · rcases aCase i.1 (bC (marks i.1)) with ⟨_, hD, hσ⟩ | ⟨j, _, hD, hσ⟩
    all_goals
      simp only [hD, hσ]
      rfl
  · exact Lq
  · exact Fq
  rintro ⟨i, hi⟩
  by_cases hlt : (i : Int) < (C.length : Int)
  · have hi1 : i + 1 ≤ C.length := by omega
    have wr := wrapN (i := i) (n := C.length) (by omega) (by omega)
    have hml : (bC (marks i)).length = i + 1 := by rw [bC_length, marks_length]
    have hσ1 : aσ (i + 1) (bC (marks (i + 1))) = [.dead, .ent ⟨i, some 1, 4, bC (marks i) ++ [.v (.bool false)], .cells⟩] := by rw [marks_succ, bC_app]; rfl
    have hD1 : aD (i + 1) = .ref 1 i (i + 1 + 1) := rfl
    rcases aCase i (bC (marks i)) with ⟨h0, hD, hσ⟩ | ⟨q, hq, hD, hσ⟩
    · simp only [hD, hσ]
      repeat' first | (with_reducible first | refine AWP_seq' ?_ | refine k_normal ?_ | refine k_ret ?_ | refine k_exit ?_ | refine b_normal ?_ | refine b_ret ?_ | refine b_exit ?_ | refine b_pass rfl ?_ | refine AWP_ret ?_ | refine AWP_skip ?_ | refine AWP_exit ?_ | refine AWP_block ?_) | ((with_reducible first | refine AWP_reg fun KC J hJ hKC => ?_ | refine AWP_regD rfl fun KC J hJ hKC => ?_); simp (maxSteps := 10000000) only [push_cast, seval, ↓reduceIte, hlt, wr]) | ((with_reducible refine And.intro ?_ ?_); · exact Sq) | ((first | with_reducible refine hJ _ _ ?_ | (with_reducible refine hJ _ _ ?_ ?_; · kernel_rfl)); clear hJ hKC KC J) | ((with_reducible refine AWP_condT ?_ ?_); · rfl) | ((with_reducible refine AWP_condF ?_ ?_); · rfl) | ((with_reducible refine ite_intro (fun hs => ?_) (fun hs => ?_)) <;> (try simp only [Bool.not_eq_true, Bool.not_eq_false, Bool.not_eq_true', Bool.not_eq_false', Decidable.not_not, decide_eq_true_eq, decide_eq_false_iff_not] at hs) <;> (try simp (maxSteps := 10000000) only [push_cast, seval, ↓reduceIte, hs, hlt, wr])) | (refine AWP_cond rfl (fun h => ?_) (fun h => ?_) <;> try simp only [decide_eq_true_eq, decide_eq_false_iff_not, Bool.not_eq_true', Bool.not_eq_false', beq_iff_eq, bne_iff_ne, ne_eq, Bool.not_eq_true, Bool.or_eq_true, Bool.and_eq_true, Bool.or_eq_false_iff, Bool.and_eq_false_imp, beq_eq_false_iff_ne, bne_eq_false_iff_eq] at h)
      subst h0
      refine ⟨⟨_, hi1⟩, by simp only; omega, ?_, ?_⟩
      · simp only [hD1]
        exact Lq
      · simp only [hσ1]
        exact ⟨[_, _], _, rfl, .inl rfl, .inr (.inl rfl), trivial⟩
    · have hbm : Nat.beq q q = true := Nat.beq_refl q
      have hml2 := hml.trans (show i + 1 = q + 1 + 1 by omega)
      have htC := take_len hml2
      simp only [hD, hσ]
      repeat' first | (with_reducible first | refine AWP_seq' ?_ | refine k_normal ?_ | refine k_ret ?_ | refine k_exit ?_ | refine b_normal ?_ | refine b_ret ?_ | refine b_exit ?_ | refine b_pass rfl ?_ | refine AWP_ret ?_ | refine AWP_skip ?_ | refine AWP_exit ?_ | refine AWP_block ?_) | ((with_reducible first | refine AWP_reg fun KC J hJ hKC => ?_ | refine AWP_regD rfl fun KC J hJ hKC => ?_); simp (maxSteps := 10000000) only [push_cast, seval, ↓reduceIte, hlt, wr, hml2, htC, hbm]) | ((with_reducible refine And.intro ?_ ?_); · exact Sq) | ((first | with_reducible refine hJ _ _ ?_ | (with_reducible refine hJ _ _ ?_ ?_; · kernel_rfl)); clear hJ hKC KC J) | ((with_reducible refine AWP_condT ?_ ?_); · rfl) | ((with_reducible refine AWP_condF ?_ ?_); · rfl) | ((with_reducible refine ite_intro (fun hs => ?_) (fun hs => ?_)) <;> (try simp only [Bool.not_eq_true, Bool.not_eq_false, Bool.not_eq_true', Bool.not_eq_false', Decidable.not_not, decide_eq_true_eq, decide_eq_false_iff_not] at hs) <;> (try simp (maxSteps := 10000000) only [push_cast, seval, ↓reduceIte, hs, hlt, wr, hml2, htC, hbm])) | (refine AWP_cond rfl (fun h => ?_) (fun h => ?_) <;> try simp only [decide_eq_true_eq, decide_eq_false_iff_not, Bool.not_eq_true', Bool.not_eq_false', beq_iff_eq, bne_iff_ne, ne_eq, Bool.not_eq_true, Bool.or_eq_true, Bool.and_eq_true, Bool.or_eq_false_iff, Bool.and_eq_false_imp, beq_eq_false_iff_ne, bne_eq_false_iff_eq] at h)
      rw [hq] at hσ1 hD1
      subst hq
      refine ⟨⟨_, hi1⟩, by simp only; omega, ?_, ?_⟩
      · simp only [hD1]
        exact Lq
      · simp only [hσ1]
        exact ⟨[_, _], _, rfl, .inl rfl, .inr (.inl rfl), trivial⟩
  have hin : i = C.length := by omega
  subst hin
  rcases aCase C.length (bC (marks C.length)) with ⟨h0, hD, hσ⟩ | ⟨q, hq, hD, hσ⟩
  · have hC : C = [] := List.length_eq_zero_iff.1 h0
    subst hC
    simp only [hD, hσ]
    have hg0 : getE tmplRow 0 = [.sl true 1 (intRow [1])] := rfl
    repeat' first | (with_reducible first | refine AWP_seq' ?_ | refine k_normal ?_ | refine k_ret ?_ | refine k_exit ?_ | refine b_normal ?_ | refine b_ret ?_ | refine b_exit ?_ | refine b_pass rfl ?_ | refine AWP_ret ?_ | refine AWP_skip ?_ | refine AWP_exit ?_ | refine AWP_block ?_) | ((with_reducible first | refine AWP_reg fun KC J hJ hKC => ?_ | refine AWP_regD rfl fun KC J hJ hKC => ?_); simp (maxSteps := 10000000) only [push_cast, seval, ↓reduceIte, hlt]) | ((with_reducible refine And.intro ?_ ?_); · exact Sq) | ((first | with_reducible refine hJ _ _ ?_ | (with_reducible refine hJ _ _ ?_ ?_; · kernel_rfl)); clear hJ hKC KC J) | ((with_reducible refine AWP_condT ?_ ?_); · rfl) | ((with_reducible refine AWP_condF ?_ ?_); · rfl) | ((with_reducible refine ite_intro (fun hs => ?_) (fun hs => ?_)) <;> (try simp only [Bool.not_eq_true, Bool.not_eq_false, Bool.not_eq_true', Bool.not_eq_false', Decidable.not_not, decide_eq_true_eq, decide_eq_false_iff_not] at hs) <;> (try simp (maxSteps := 10000000) only [push_cast, seval, ↓reduceIte, hs, hlt])) | (refine AWP_cond rfl (fun h => ?_) (fun h => ?_) <;> try simp only [decide_eq_true_eq, decide_eq_false_iff_not, Bool.not_eq_true', Bool.not_eq_false', beq_iff_eq, bne_iff_ne, ne_eq, Bool.not_eq_true, Bool.or_eq_true, Bool.and_eq_true, Bool.or_eq_false_iff, Bool.and_eq_false_imp, beq_eq_false_iff_ne, bne_eq_false_iff_eq] at h)
    refine AWP_loopF (γ := Unit) (fun _ => ⟨[.sl f 3 (tRow []), .sl true 1 tmplRow, .any, .any, .any, .sl true 1 [[.v (.bool true)]], .any, .any, .any, .any, .any, .any, .any, .any, .any, .any, .any, .any, .any, .any, .v (.int .i64 1), .v (.int .i64 0), .any, .any, .any, .any, .any, .any, .any, .any, .any, .any, .any, .any, .any, .any, .any, .any, .any, .any, .any, .any, .any, .any, .any, .any, .any, .any, .any, .any, .any, .any, .any, .any, .any, .any, .any, .any, .any, .any, .any, .any, .any, .any, .any, .any, .any, .any, .any, .any, .any, .any, .any, .any, .any, .any, .any, .any, .any, .any], []⟩) (fun _ => 0) () ⟨?_, Fq⟩ ?_
    · exact Lq
    rintro ⟨⟩
    repeat' first | (with_reducible first | refine AWP_seq' ?_ | refine k_normal ?_ | refine k_ret ?_ | refine k_exit ?_ | refine b_normal ?_ | refine b_ret ?_ | refine b_exit ?_ | refine b_pass rfl ?_ | refine AWP_ret ?_ | refine AWP_skip ?_ | refine AWP_exit ?_ | refine AWP_block ?_) | ((with_reducible first | refine AWP_reg fun KC J hJ hKC => ?_ | refine AWP_regD rfl fun KC J hJ hKC => ?_); simp (maxSteps := 10000000) only [push_cast, seval, ↓reduceIte, htl, show getE [[D.v (.bool true)]] 0 = [D.v (.bool true)] from rfl, undef]) | ((with_reducible refine And.intro ?_ ?_); · exact Sq) | ((first | with_reducible refine hJ _ _ ?_ | (with_reducible refine hJ _ _ ?_ ?_; · kernel_rfl)); clear hJ hKC KC J) | ((with_reducible refine AWP_condT ?_ ?_); · rfl) | ((with_reducible refine AWP_condF ?_ ?_); · rfl) | ((with_reducible refine ite_intro (fun hs => ?_) (fun hs => ?_)) <;> (try simp only [Bool.not_eq_true, Bool.not_eq_false, Bool.not_eq_true', Bool.not_eq_false', Decidable.not_not, decide_eq_true_eq, decide_eq_false_iff_not] at hs) <;> (try simp (maxSteps := 10000000) only [push_cast, seval, ↓reduceIte, hs, htl, show getE [[D.v (.bool true)]] 0 = [D.v (.bool true)] from rfl, undef])) | (refine AWP_cond rfl (fun h => ?_) (fun h => ?_) <;> try simp only [decide_eq_true_eq, decide_eq_false_iff_not, Bool.not_eq_true', Bool.not_eq_false', beq_iff_eq, bne_iff_ne, ne_eq, Bool.not_eq_true, Bool.or_eq_true, Bool.and_eq_true, Bool.or_eq_false_iff, Bool.and_eq_false_imp, beq_eq_false_iff_ne, bne_eq_false_iff_eq] at h)
    refine AWP_loopF (γ := Unit) (fun _ => ⟨[.sl f 3 (tRow []), .sl true 1 tmplRow, .any, .any, .any, .sl true 1 [[.v (.bool true)]], .v (.int .i64 0), .any, .any, .any, .any, .any, .any, .any, .any, .any, .any, .any, .any, .any, .any, .any, .any, .any, .any, .any, .any, .any, .any, .sl true 1 tmplRow, .v (.int .i64 11), .v (.int .i64 0), .any, .any, .any, .any, .any, .any, .any, .any, .any, .any, .any, .any, .any, .any, .any, .any, .any, .any, .any, .any, .any, .any, .any, .any, .any, .any, .any, .any, .any, .any, .any, .any, .any, .any, .any, .any, .any, .any, .any, .any, .any, .any, .any, .any, .any, .any, .any, .any], []⟩) (fun _ => 0) () ⟨?_, Fq⟩ ?_
    · exact Lq
    rintro ⟨⟩
    repeat' first | (with_reducible first | refine AWP_seq' ?_ | refine k_normal ?_ | refine k_ret ?_ | refine k_exit ?_ | refine b_normal ?_ | refine b_ret ?_ | refine b_exit ?_ | refine b_pass rfl ?_ | refine AWP_ret ?_ | refine AWP_skip ?_ | refine AWP_exit ?_ | refine AWP_block ?_) | ((with_reducible first | refine AWP_reg fun KC J hJ hKC => ?_ | refine AWP_regD rfl fun KC J hJ hKC => ?_); simp (maxSteps := 10000000) only [push_cast, seval, ↓reduceIte, htl, hg0, undef]) | ((with_reducible refine And.intro ?_ ?_); · exact Sq) | ((first | with_reducible refine hJ _ _ ?_ | (with_reducible refine hJ _ _ ?_ ?_; · kernel_rfl)); clear hJ hKC KC J) | ((with_reducible refine AWP_condT ?_ ?_); · rfl) | ((with_reducible refine AWP_condF ?_ ?_); · rfl) | ((with_reducible refine ite_intro (fun hs => ?_) (fun hs => ?_)) <;> (try simp only [Bool.not_eq_true, Bool.not_eq_false, Bool.not_eq_true', Bool.not_eq_false', Decidable.not_not, decide_eq_true_eq, decide_eq_false_iff_not] at hs) <;> (try simp (maxSteps := 10000000) only [push_cast, seval, ↓reduceIte, hs, htl, hg0, undef])) | (refine AWP_cond rfl (fun h => ?_) (fun h => ?_) <;> try simp only [decide_eq_true_eq, decide_eq_false_iff_not, Bool.not_eq_true', Bool.not_eq_false', beq_iff_eq, bne_iff_ne, ne_eq, Bool.not_eq_true, Bool.or_eq_true, Bool.and_eq_true, Bool.or_eq_false_iff, Bool.and_eq_false_imp, beq_eq_false_iff_ne, bne_eq_false_iff_eq] at h)
    refine AWP_loopF (γ := Unit) (fun _ => ⟨[.sl f 3 (tRow []), .any, .any, .any, .any, .any, .v (.int .i64 0), .any, .sl true 1 (intRow [1]), .v (.int .i64 0), .any, .any, .any, .any, .any, .any, .any, .any, .any, .any, .any, .any, .any, .any, .any, .any, .any, .any, .any, .any, .any, .any, .any, .any, .any, .any, .any, .any, .any, .any, .any, .any, .any, .any, .any, .any, .any, .any, .any, .any, .any, .any, .any, .any, .any, .any, .any, .any, .any, .any, .any, .any, .any, .any, .any, .any, .any, .any, .any, .any, .any, .any, .any, .any, .any, .any, .any, .any, .any, .any], []⟩) (fun _ => 0) () ⟨?_, Fq⟩ ?_
    · exact Lq
    rintro ⟨⟩
    repeat' first | (with_reducible first | refine AWP_seq' ?_ | refine k_normal ?_ | refine k_ret ?_ | refine k_exit ?_ | refine b_normal ?_ | refine b_ret ?_ | refine b_exit ?_ | refine b_pass rfl ?_ | refine AWP_ret ?_ | refine AWP_skip ?_ | refine AWP_exit ?_ | refine AWP_block ?_) | ((with_reducible first | refine AWP_reg fun KC J hJ hKC => ?_ | refine AWP_regD rfl fun KC J hJ hKC => ?_); simp (maxSteps := 10000000) only [push_cast, seval, ↓reduceIte, show IntKind.i64.wrap 0 = 0 by decide, undef]) | ((with_reducible refine And.intro ?_ ?_); · exact Sq) | ((first | with_reducible refine hJ _ _ ?_ | (with_reducible refine hJ _ _ ?_ ?_; · kernel_rfl)); clear hJ hKC KC J) | ((with_reducible refine AWP_condT ?_ ?_); · rfl) | ((with_reducible refine AWP_condF ?_ ?_); · rfl) | ((with_reducible refine ite_intro (fun hs => ?_) (fun hs => ?_)) <;> (try simp only [Bool.not_eq_true, Bool.not_eq_false, Bool.not_eq_true', Bool.not_eq_false', Decidable.not_not, decide_eq_true_eq, decide_eq_false_iff_not] at hs) <;> (try simp (maxSteps := 10000000) only [push_cast, seval, ↓reduceIte, hs, show IntKind.i64.wrap 0 = 0 by decide, undef])) | (refine AWP_cond rfl (fun h => ?_) (fun h => ?_) <;> try simp only [decide_eq_true_eq, decide_eq_false_iff_not, Bool.not_eq_true', Bool.not_eq_false', beq_iff_eq, bne_iff_ne, ne_eq, Bool.not_eq_true, Bool.or_eq_true, Bool.and_eq_true, Bool.or_eq_false_iff, Bool.and_eq_false_imp, beq_eq_false_iff_ne, bne_eq_false_iff_eq] at h)
    refine ret_plain ?_
    simp (maxSteps := 10000000) only [push_cast, seval, ↓reduceIte, show Try.f86.results = #[(.tmp 4)] from rfl]
    exact Lq
  · have hbm : Nat.beq q q = true := Nat.beq_refl q
    simp only [hD, hσ]
    repeat' first | (with_reducible first | refine AWP_seq' ?_ | refine k_normal ?_ | refine k_ret ?_ | refine k_exit ?_ | refine b_normal ?_ | refine b_ret ?_ | refine b_exit ?_ | refine b_pass rfl ?_ | refine AWP_ret ?_ | refine AWP_skip ?_ | refine AWP_exit ?_ | refine AWP_block ?_) | ((with_reducible first | refine AWP_reg fun KC J hJ hKC => ?_ | refine AWP_regD rfl fun KC J hJ hKC => ?_); simp (maxSteps := 10000000) only [push_cast, seval, ↓reduceIte, hlt, hbm]) | ((with_reducible refine And.intro ?_ ?_); · exact Sq) | ((first | with_reducible refine hJ _ _ ?_ | (with_reducible refine hJ _ _ ?_ ?_; · kernel_rfl)); clear hJ hKC KC J) | ((with_reducible refine AWP_condT ?_ ?_); · rfl) | ((with_reducible refine AWP_condF ?_ ?_); · rfl) | ((with_reducible refine ite_intro (fun hs => ?_) (fun hs => ?_)) <;> (try simp only [Bool.not_eq_true, Bool.not_eq_false, Bool.not_eq_true', Bool.not_eq_false', Decidable.not_not, decide_eq_true_eq, decide_eq_false_iff_not] at hs) <;> (try simp (maxSteps := 10000000) only [push_cast, seval, ↓reduceIte, hs, hlt, hbm])) | (refine AWP_cond rfl (fun h => ?_) (fun h => ?_) <;> try simp only [decide_eq_true_eq, decide_eq_false_iff_not, Bool.not_eq_true', Bool.not_eq_false', beq_iff_eq, bne_iff_ne, ne_eq, Bool.not_eq_true, Bool.or_eq_true, Bool.and_eq_true, Bool.or_eq_false_iff, Bool.and_eq_false_imp, beq_eq_false_iff_ne, bne_eq_false_iff_eq] at h)
    refine AWP_loopF (γ := {g : Nat × List Bool × Nat // g.1 ≤ g.2.2 ∧ g.2.2 ≤ C.length ∧ g.2.1.length = C.length + 1 ∧ g.2.1[g.2.2]? = some true ∧ Tail ((C.map (·.1)).drop g.2.2)}) (fun g => ⟨[.sl f 3 (tRow C), .sl true 1 tmplRow, .any, .any, .any, .ref 1 q (q + 1 + 1), .any, .any, .any, .any, .any, .any, .any, .any, .any, .any, .any, .any, .any, .any, .v (.int .i64 ((q : Int) + 1 + 1)), .v (.int .i64 (g.1.1 : Int)), .any, .any, .any, .any, .any, .any, .any, .any, .any, .any, .any, .any, .any, .any, .any, .any, .any, .any, .any, .any, .any, .any, .any, .any, .any, .any, .any, .any, .any, .any, .any, .any, .any, .any, .any, .any, .any, .any, .any, .any, .any, .any, .any, .any, .any, .any, .any, .any, .any, .any, .any, .any, .any, .any, .any, .any, .any, .any], [.dead, .ent ⟨q, some 1, 4, bC g.1.2.1, .cells⟩]⟩) (fun g => C.length + 1 - g.1.1) ⟨(0, marks C.length, 0), by simp, by simp, marks_length _, rfl, by simpa using ht⟩ ⟨?_, Fq⟩ ?_
    · exact Lq
    rintro ⟨⟨i, A, p⟩, h1, h2, h3, h4, h5⟩
    simp only at h1 h2 h3 h4 h5
    have hlt2 : (i : Int) < (q : Int) + 1 + 1 := by omega
    have hiA : i < A.length := by omega
    obtain ⟨b, hb⟩ : ∃ b, A[i] = b := ⟨_, rfl⟩
    have hAi : A[i]? = some b := by rw [List.getElem?_eq_getElem hiA, hb]
    have hbl : (bC A).length = q + 1 + 1 := by rw [bC_length]; omega
    have hgA : getF (bC A) i = .v (.bool b) := getF_map _ A i b hAi
    have wr := wrapN (i := i) (n := C.length + 1) (by omega) (by omega)
    cases b
    case false =>
      have hpi : p ≠ i := fun h => by rw [h, hAi] at h4; cases h4
      repeat' first | (with_reducible first | refine AWP_seq' ?_ | refine k_normal ?_ | refine k_ret ?_ | refine k_exit ?_ | refine b_normal ?_ | refine b_ret ?_ | refine b_exit ?_ | refine b_pass rfl ?_ | refine AWP_ret ?_ | refine AWP_skip ?_ | refine AWP_exit ?_ | refine AWP_block ?_) | ((with_reducible first | refine AWP_reg fun KC J hJ hKC => ?_ | refine AWP_regD rfl fun KC J hJ hKC => ?_); simp (maxSteps := 10000000) only [push_cast, seval, ↓reduceIte, hlt2, hbm, hbl, hgA, wr]) | ((with_reducible refine And.intro ?_ ?_); · exact Sq) | ((first | with_reducible refine hJ _ _ ?_ | (with_reducible refine hJ _ _ ?_ ?_; · kernel_rfl)); clear hJ hKC KC J) | ((with_reducible refine AWP_condT ?_ ?_); · rfl) | ((with_reducible refine AWP_condF ?_ ?_); · rfl) | ((with_reducible refine ite_intro (fun hs => ?_) (fun hs => ?_)) <;> (try simp only [Bool.not_eq_true, Bool.not_eq_false, Bool.not_eq_true', Bool.not_eq_false', Decidable.not_not, decide_eq_true_eq, decide_eq_false_iff_not] at hs) <;> (try simp (maxSteps := 10000000) only [push_cast, seval, ↓reduceIte, hs, hlt2, hbm, hbl, hgA, wr])) | (refine AWP_cond rfl (fun h => ?_) (fun h => ?_) <;> try simp only [decide_eq_true_eq, decide_eq_false_iff_not, Bool.not_eq_true', Bool.not_eq_false', beq_iff_eq, bne_iff_ne, ne_eq, Bool.not_eq_true, Bool.or_eq_true, Bool.and_eq_true, Bool.or_eq_false_iff, Bool.and_eq_false_imp, beq_eq_false_iff_ne, bne_eq_false_iff_eq] at h)
      refine ⟨⟨(i + 1, A, p), by simp only; omega, h2, h3, h4, h5⟩, by simp only; omega, ?_, Fq⟩
      exact Lq
    obtain ⟨r, hr⟩ : ∃ r, (C.map (·.1)).drop i = r := ⟨_, rfl⟩
    have hrl : i + r.length = C.length := by rw [← hr, List.length_drop, List.length_map]; omega
    have hrget : ∀ k v, r[k]? = some v → ∃ c, C[i + k]? = some c ∧ c.1 = v := fun k v h => by
      rw [← hr, List.getElem?_drop, List.getElem?_map] at h
      cases hc : C[i + k]? with
      | none => rw [hc] at h; cases h
      | some c => rw [hc] at h; exact ⟨c, rfl, by simpa using h⟩
    obtain ⟨jt, t, hjt⟩ : ∃ (jt : Nat) (t : List Int), p = i → tmpls[jt]? = some t ∧ (r <+: t ∨ (t <+: r ∧ t.length < r.length ∧ Tail (r.drop t.length))) := by
      by_cases hpi : p = i
      · obtain ⟨jt, t, h⟩ := tail_step (show Tail r by rw [← hr, ← hpi]; exact h5)
        exact ⟨jt, t, fun _ => h⟩
      · exact ⟨0, [], fun h => absurd h hpi⟩
    have htn : p = i → t ≠ [] ∧ jt < 11 := fun h => ⟨(tmpls_ok t (List.mem_of_getElem? (hjt h).1)).1, (List.getElem?_eq_some_iff.1 (hjt h).1).1⟩
    repeat' first | (with_reducible first | refine AWP_seq' ?_ | refine k_normal ?_ | refine k_ret ?_ | refine k_exit ?_ | refine b_normal ?_ | refine b_ret ?_ | refine b_exit ?_ | refine b_pass rfl ?_ | refine AWP_ret ?_ | refine AWP_skip ?_ | refine AWP_exit ?_ | refine AWP_block ?_) | ((with_reducible first | refine AWP_reg fun KC J hJ hKC => ?_ | refine AWP_regD rfl fun KC J hJ hKC => ?_); simp (maxSteps := 10000000) only [push_cast, seval, ↓reduceIte, hlt2, hbm, hbl, hgA, htl]) | ((with_reducible refine And.intro ?_ ?_); · exact Sq) | ((first | with_reducible refine hJ _ _ ?_ | (with_reducible refine hJ _ _ ?_ ?_; · kernel_rfl)); clear hJ hKC KC J) | ((with_reducible refine AWP_condT ?_ ?_); · rfl) | ((with_reducible refine AWP_condF ?_ ?_); · rfl) | ((with_reducible refine ite_intro (fun hs => ?_) (fun hs => ?_)) <;> (try simp only [Bool.not_eq_true, Bool.not_eq_false, Bool.not_eq_true', Bool.not_eq_false', Decidable.not_not, decide_eq_true_eq, decide_eq_false_iff_not] at hs) <;> (try simp (maxSteps := 10000000) only [push_cast, seval, ↓reduceIte, hs, hlt2, hbm, hbl, hgA, htl])) | (refine AWP_cond rfl (fun h => ?_) (fun h => ?_) <;> try simp only [decide_eq_true_eq, decide_eq_false_iff_not, Bool.not_eq_true', Bool.not_eq_false', beq_iff_eq, bne_iff_ne, ne_eq, Bool.not_eq_true, Bool.or_eq_true, Bool.and_eq_true, Bool.or_eq_false_iff, Bool.and_eq_false_imp, beq_eq_false_iff_ne, bne_eq_false_iff_eq] at h)
    refine AWP_loopF (γ := {g : Nat × List Bool // g.1 ≤ 11 ∧ g.2.length = C.length + 1 ∧ g.2[p]? = some true ∧ (p = i → g.1 ≤ jt ∨ (g.2[i + t.length]? = some true ∧ t.length < r.length ∧ Tail (r.drop t.length)))}) (fun g => ⟨[.sl f 3 (tRow C), .sl true 1 tmplRow, .any, .any, .any, .ref 1 q (q + 1 + 1), .v (.int .i64 (i : Int)), .any, .any, .any, .any, .any, .any, .any, .any, .any, .any, .any, .any, .any, .v (.int .i64 ((q : Int) + 1 + 1)), .v (.int .i64 (i : Int)), .any, .any, .any, .any, .any, .any, .any, .sl true 1 tmplRow, .v (.int .i64 11), .v (.int .i64 (g.1.1 : Int)), .any, .any, .any, .any, .any, .any, .any, .any, .any, .any, .any, .any, .any, .any, .any, .any, .any, .any, .any, .any, .any, .any, .any, .any, .any, .any, .any, .any, .any, .any, .any, .any, .any, .any, .any, .any, .any, .any, .any, .any, .any, .any, .any, .any, .any, .any, .any, .any], [.dead, .ent ⟨q, some 1, 4, bC g.1.2, .cells⟩]⟩) (fun g => 11 - g.1.1) ⟨(0, A), by simp, h3, h4, fun _ => .inl (Nat.zero_le _)⟩ ⟨?_, Fq⟩ ?_
    · exact Lq
    clear hgA hAi hb hiA hbl
    rintro ⟨⟨j, A2⟩, g1, g2, g3, g4⟩
    simp only at g1 g2 g3 g4
    have hbl2 : (bC A2).length = q + 1 + 1 := by rw [bC_length]; omega
    have wrj := wrapN (i := j) (n := 12) (by omega) (by omega)
    by_cases hj : j < 11
    · have hjI : (j : Int) < 11 := by omega
      have hjl : j < tmpls.length := hj
      obtain ⟨O, hO⟩ : ∃ O, tmpls[j] = O := ⟨_, rfl⟩
      have hOj : tmpls[j]? = some O := by rw [List.getElem?_eq_getElem hjl, hO]
      have hO3 := (tmpls_ok O (List.mem_of_getElem? hOj)).2.1
      have hgO : getE tmplRow j = [.sl true 1 (intRow O)] := by unfold tmplRow; exact getE_map _ _ _ _ hOj
      obtain ⟨K, hK⟩ : ∃ K, lcpN r O = K := ⟨_, rfl⟩
      have hKle := lcp_le r O
      rw [hK] at hKle
      repeat' first | (with_reducible refine holdB 6 ?_) | (with_reducible first | refine AWP_seq' ?_ | refine k_normal ?_ | refine k_ret ?_ | refine k_exit ?_ | refine b_normal ?_ | refine b_ret ?_ | refine b_exit ?_ | refine b_pass rfl ?_ | refine AWP_ret ?_ | refine AWP_skip ?_ | refine AWP_exit ?_ | refine AWP_block ?_) | ((with_reducible first | refine AWP_reg fun KC J hJ hKC => ?_ | refine AWP_regD rfl fun KC J hJ hKC => ?_); simp (maxSteps := 10000000) only [push_cast, seval, ↓reduceIte, hjI, htl, hgO]) | ((with_reducible refine And.intro ?_ ?_); · exact Sq) | ((first | with_reducible refine hJ _ _ ?_ | (with_reducible refine hJ _ _ ?_ ?_; · kernel_rfl)); clear hJ hKC KC J) | ((with_reducible refine AWP_condT ?_ ?_); · rfl) | ((with_reducible refine AWP_condF ?_ ?_); · rfl) | ((with_reducible refine ite_intro (fun hs => ?_) (fun hs => ?_)) <;> (try simp only [Bool.not_eq_true, Bool.not_eq_false, Bool.not_eq_true', Bool.not_eq_false', Decidable.not_not, decide_eq_true_eq, decide_eq_false_iff_not] at hs) <;> (try simp (maxSteps := 10000000) only [push_cast, seval, ↓reduceIte, hs, hjI, htl, hgO])) | (refine AWP_cond rfl (fun h => ?_) (fun h => ?_) <;> try simp only [decide_eq_true_eq, decide_eq_false_iff_not, Bool.not_eq_true', Bool.not_eq_false', beq_iff_eq, bne_iff_ne, ne_eq, Bool.not_eq_true, Bool.or_eq_true, Bool.and_eq_true, Bool.or_eq_false_iff, Bool.and_eq_false_imp, beq_eq_false_iff_ne, bne_eq_false_iff_eq] at h)
      refine AWP_cutW 2 ⟨[.sl f 3 (tRow C), .sl true 1 tmplRow, .any, .any, .any, .ref 1 q (q + 1 + 1), .v (.int .i64 (i : Int)), .any, .sl true 1 (intRow O), .v (.int .i64 (K : Int)), .any, .any, .any, .any, .any, .any, .any, .any, .any, .any, .v (.int .i64 ((q : Int) + 1 + 1)), .v (.int .i64 (i : Int)), .any, .any, .any, .any, .any, .any, .any, .sl true 1 tmplRow, .v (.int .i64 11), .v (.int .i64 (j : Int)), .any, .any, .any, .any, .any, .any, .any, .any, .any, .any, .any, .any, .any, .any, .any, .any, .any, .any, .any, .any, .any, .any, .any, .any, .any, .any, .any, .any, .any, .any, .any, .any, .any, .any, .any, .any, .any, .any, .any, .any, .any, .any, .any, .any, .any, .any, .any, .any], [.dead, .ent ⟨q, some 1, 4, bC A2, .cells⟩]⟩ ⟨_, 0, (List.append_nil _).symm, rfl⟩ ?_ ?_
      · skip
        repeat' first | (with_reducible first | refine AWP_seq' ?_ | refine k_normal ?_ | refine k_ret ?_ | refine k_exit ?_ | refine b_normal ?_ | refine b_ret ?_ | refine b_exit ?_ | refine b_pass rfl ?_ | refine AWP_ret ?_ | refine AWP_skip ?_ | refine AWP_exit ?_ | refine AWP_block ?_) | ((with_reducible first | refine AWP_reg fun KC J hJ hKC => ?_ | refine AWP_regD rfl fun KC J hJ hKC => ?_); simp (maxSteps := 10000000) only [push_cast, seval, ↓reduceIte]) | ((with_reducible refine And.intro ?_ ?_); · exact Sq) | ((first | with_reducible refine hJ _ _ ?_ | (with_reducible refine hJ _ _ ?_ ?_; · kernel_rfl)); clear hJ hKC KC J) | ((with_reducible refine AWP_condT ?_ ?_); · rfl) | ((with_reducible refine AWP_condF ?_ ?_); · rfl) | ((with_reducible refine ite_intro (fun hs => ?_) (fun hs => ?_)) <;> (try simp only [Bool.not_eq_true, Bool.not_eq_false, Bool.not_eq_true', Bool.not_eq_false', Decidable.not_not, decide_eq_true_eq, decide_eq_false_iff_not] at hs) <;> (try simp (maxSteps := 10000000) only [push_cast, seval, ↓reduceIte, hs])) | (refine AWP_cond rfl (fun h => ?_) (fun h => ?_) <;> try simp only [decide_eq_true_eq, decide_eq_false_iff_not, Bool.not_eq_true', Bool.not_eq_false', beq_iff_eq, bne_iff_ne, ne_eq, Bool.not_eq_true, Bool.or_eq_true, Bool.and_eq_true, Bool.or_eq_false_iff, Bool.and_eq_false_imp, beq_eq_false_iff_ne, bne_eq_false_iff_eq] at h)
        refine AWP_loopF (γ := {k : Nat // k ≤ K}) (fun k => ⟨[.sl f 3 (tRow C), .sl true 1 tmplRow, .any, .any, .any, .ref 1 q (q + 1 + 1), .v (.int .i64 (i : Int)), .any, .sl true 1 (intRow O), .v (.int .i64 (k.1 : Int)), .any, .any, .any, .any, .any, .any, .any, .any, .any, .any, .v (.int .i64 ((q : Int) + 1 + 1)), .v (.int .i64 (i : Int)), .any, .any, .any, .any, .any, .any, .any, .sl true 1 tmplRow, .v (.int .i64 11), .v (.int .i64 (j : Int)), .any, .any, .any, .any, .any, .any, .any, .any, .any, .any, .any, .any, .any, .any, .any, .any, .any, .any, .any, .any, .any, .any, .any, .any, .any, .any, .any, .any, .any, .any, .any, .any, .any, .any, .any, .any, .any, .any, .any, .any, .any, .any, .any, .any, .any, .any, .any, .any], [.dead, .ent ⟨q, some 1, 4, bC A2, .cells⟩]⟩) (fun k => K - k.1) ⟨0, Nat.zero_le _⟩ ⟨?_, Fq⟩ ?_
        · exact Lq
        rintro ⟨k, hk⟩
        have wik : IntKind.i64.wrap ((i : Int) + (k : Int)) = (i : Int) + (k : Int) := wrapI (by omega) (by omega)
        have tik : ((i : Int) + (k : Int)).toNat = i + k := by omega
        by_cases hkK : k < K
        · obtain ⟨v, hv1, hv2⟩ := lcp_lt (a := r) (b := O) (k := k) (by rw [hK]; exact hkK)
          obtain ⟨c, hc, hcv⟩ := hrget k v hv1
          have hk1 : (k : Int) < (O.length : Int) := by omega
          have hk2 : (i : Int) + (k : Int) < (C.length : Int) := by omega
          have wrk := wrapN (i := k) (n := K) (by omega) (by omega)
          repeat' first | (with_reducible first | refine AWP_seq' ?_ | refine k_normal ?_ | refine k_ret ?_ | refine k_exit ?_ | refine b_normal ?_ | refine b_ret ?_ | refine b_exit ?_ | refine b_pass rfl ?_ | refine AWP_ret ?_ | refine AWP_skip ?_ | refine AWP_exit ?_ | refine AWP_block ?_) | ((with_reducible first | refine AWP_reg fun KC J hJ hKC => ?_ | refine AWP_regD rfl fun KC J hJ hKC => ?_); simp (maxSteps := 10000000) only [push_cast, seval, ↓reduceIte, hk1, hk2, wik, tik, getE_t hc, getE_intRow hv2, hcv, wrk, undef]) | ((with_reducible refine And.intro ?_ ?_); · exact Sq) | ((first | with_reducible refine hJ _ _ ?_ | (with_reducible refine hJ _ _ ?_ ?_; · kernel_rfl)); clear hJ hKC KC J) | ((with_reducible refine AWP_condT ?_ ?_); · rfl) | ((with_reducible refine AWP_condF ?_ ?_); · rfl) | ((with_reducible refine ite_intro (fun hs => ?_) (fun hs => ?_)) <;> (try simp only [Bool.not_eq_true, Bool.not_eq_false, Bool.not_eq_true', Bool.not_eq_false', Decidable.not_not, decide_eq_true_eq, decide_eq_false_iff_not] at hs) <;> (try simp (maxSteps := 10000000) only [push_cast, seval, ↓reduceIte, hs, hk1, hk2, wik, tik, getE_t hc, getE_intRow hv2, hcv, wrk, undef])) | (refine AWP_cond rfl (fun h => ?_) (fun h => ?_) <;> try simp only [decide_eq_true_eq, decide_eq_false_iff_not, Bool.not_eq_true', Bool.not_eq_false', beq_iff_eq, bne_iff_ne, ne_eq, Bool.not_eq_true, Bool.or_eq_true, Bool.and_eq_true, Bool.or_eq_false_iff, Bool.and_eq_false_imp, beq_eq_false_iff_ne, bne_eq_false_iff_eq] at h)
          refine ⟨⟨k + 1, by omega⟩, by simp only; omega, ?_, Fq⟩
          exact Lq
        have hkk : k = K := by omega
        subst hkk
        have hend : ∀ (s : St) (fr : List D), leF s.fr fr → fr.map (ren (mOf (List.range 2))) = fr → s.σ = [.dead, .ent ⟨q, some 1, 4, bC A2, .cells⟩] → Weak 2 s ⟨fr, [.dead, .ent ⟨q, some 1, 4, bC A2, .cells⟩]⟩ := fun s fr hle hf hσ => weak_dropS (Nat.le_refl 2) (clsd_all (by simp only [List.map_cons, List.map_nil, renSlot, ren_bC])) hf hle ⟨[_, _], [], by rw [hσ, List.append_nil], .inl rfl, .inr (.inl rfl), trivial⟩
        by_cases hk1 : k = O.length
        · have hk1' : ¬ (k : Int) < (O.length : Int) := by omega
          repeat' first | (with_reducible first | refine AWP_seq' ?_ | refine k_normal ?_ | refine k_ret ?_ | refine k_exit ?_ | refine b_normal ?_ | refine b_ret ?_ | refine b_exit ?_ | refine b_pass rfl ?_ | refine AWP_ret ?_ | refine AWP_skip ?_ | refine AWP_exit ?_ | refine AWP_block ?_) | ((with_reducible first | refine AWP_reg fun KC J hJ hKC => ?_ | refine AWP_regD rfl fun KC J hJ hKC => ?_); simp (maxSteps := 10000000) only [push_cast, seval, ↓reduceIte, hk1', undef]) | ((with_reducible refine And.intro ?_ ?_); · exact Sq) | ((first | with_reducible refine hJ _ _ ?_ | (with_reducible refine hJ _ _ ?_ ?_; · kernel_rfl)); clear hJ hKC KC J) | ((with_reducible refine AWP_condT ?_ ?_); · rfl) | ((with_reducible refine AWP_condF ?_ ?_); · rfl) | ((with_reducible refine ite_intro (fun hs => ?_) (fun hs => ?_)) <;> (try simp only [Bool.not_eq_true, Bool.not_eq_false, Bool.not_eq_true', Bool.not_eq_false', Decidable.not_not, decide_eq_true_eq, decide_eq_false_iff_not] at hs) <;> (try simp (maxSteps := 10000000) only [push_cast, seval, ↓reduceIte, hs, hk1', undef])) | (refine AWP_cond rfl (fun h => ?_) (fun h => ?_) <;> try simp only [decide_eq_true_eq, decide_eq_false_iff_not, Bool.not_eq_true', Bool.not_eq_false', beq_iff_eq, bne_iff_ne, ne_eq, Bool.not_eq_true, Bool.or_eq_true, Bool.and_eq_true, Bool.or_eq_false_iff, Bool.and_eq_false_imp, beq_eq_false_iff_ne, bne_eq_false_iff_eq] at h)
          exact .inl ⟨rfl, hend _ _ Lq rfl rfl⟩
        have hk1' : (k : Int) < (O.length : Int) := by omega
        by_cases hk2 : k = r.length
        · have hk2' : ¬ (i : Int) + (k : Int) < (C.length : Int) := by omega
          repeat' first | (with_reducible first | refine AWP_seq' ?_ | refine k_normal ?_ | refine k_ret ?_ | refine k_exit ?_ | refine b_normal ?_ | refine b_ret ?_ | refine b_exit ?_ | refine b_pass rfl ?_ | refine AWP_ret ?_ | refine AWP_skip ?_ | refine AWP_exit ?_ | refine AWP_block ?_) | ((with_reducible first | refine AWP_reg fun KC J hJ hKC => ?_ | refine AWP_regD rfl fun KC J hJ hKC => ?_); simp (maxSteps := 10000000) only [push_cast, seval, ↓reduceIte, hk1', hk2', wik, undef]) | ((with_reducible refine And.intro ?_ ?_); · exact Sq) | ((first | with_reducible refine hJ _ _ ?_ | (with_reducible refine hJ _ _ ?_ ?_; · kernel_rfl)); clear hJ hKC KC J) | ((with_reducible refine AWP_condT ?_ ?_); · rfl) | ((with_reducible refine AWP_condF ?_ ?_); · rfl) | ((with_reducible refine ite_intro (fun hs => ?_) (fun hs => ?_)) <;> (try simp only [Bool.not_eq_true, Bool.not_eq_false, Bool.not_eq_true', Bool.not_eq_false', Decidable.not_not, decide_eq_true_eq, decide_eq_false_iff_not] at hs) <;> (try simp (maxSteps := 10000000) only [push_cast, seval, ↓reduceIte, hs, hk1', hk2', wik, undef])) | (refine AWP_cond rfl (fun h => ?_) (fun h => ?_) <;> try simp only [decide_eq_true_eq, decide_eq_false_iff_not, Bool.not_eq_true', Bool.not_eq_false', beq_iff_eq, bne_iff_ne, ne_eq, Bool.not_eq_true, Bool.or_eq_true, Bool.and_eq_true, Bool.or_eq_false_iff, Bool.and_eq_false_imp, beq_eq_false_iff_ne, bne_eq_false_iff_eq] at h)
          exact .inl ⟨rfl, hend _ _ Lq rfl rfl⟩
        have hk2' : (i : Int) + (k : Int) < (C.length : Int) := by omega
        have hv1 : r[k]? = some r[k] := List.getElem?_eq_getElem (by omega)
        have hv2 : O[k]? = some O[k] := List.getElem?_eq_getElem (by omega)
        obtain ⟨c, hc, hcv⟩ := hrget k _ hv1
        have hne : (r[k] == O[k]) = false := by
          have := lcp_at (a := r) (b := O) (by rw [hK]; exact hv1) (by rw [hK]; exact hv2)
          simpa using this
        repeat' first | (with_reducible first | refine AWP_seq' ?_ | refine k_normal ?_ | refine k_ret ?_ | refine k_exit ?_ | refine b_normal ?_ | refine b_ret ?_ | refine b_exit ?_ | refine b_pass rfl ?_ | refine AWP_ret ?_ | refine AWP_skip ?_ | refine AWP_exit ?_ | refine AWP_block ?_) | ((with_reducible first | refine AWP_reg fun KC J hJ hKC => ?_ | refine AWP_regD rfl fun KC J hJ hKC => ?_); simp (maxSteps := 10000000) only [push_cast, seval, ↓reduceIte, hk1', hk2', wik, tik, getE_t hc, getE_intRow hv2, hcv, hne, undef]) | ((with_reducible refine And.intro ?_ ?_); · exact Sq) | ((first | with_reducible refine hJ _ _ ?_ | (with_reducible refine hJ _ _ ?_ ?_; · kernel_rfl)); clear hJ hKC KC J) | ((with_reducible refine AWP_condT ?_ ?_); · rfl) | ((with_reducible refine AWP_condF ?_ ?_); · rfl) | ((with_reducible refine ite_intro (fun hs => ?_) (fun hs => ?_)) <;> (try simp only [Bool.not_eq_true, Bool.not_eq_false, Bool.not_eq_true', Bool.not_eq_false', Decidable.not_not, decide_eq_true_eq, decide_eq_false_iff_not] at hs) <;> (try simp (maxSteps := 10000000) only [push_cast, seval, ↓reduceIte, hs, hk1', hk2', wik, tik, getE_t hc, getE_intRow hv2, hcv, hne, undef])) | (refine AWP_cond rfl (fun h => ?_) (fun h => ?_) <;> try simp only [decide_eq_true_eq, decide_eq_false_iff_not, Bool.not_eq_true', Bool.not_eq_false', beq_iff_eq, bne_iff_ne, ne_eq, Bool.not_eq_true, Bool.or_eq_true, Bool.and_eq_true, Bool.or_eq_false_iff, Bool.and_eq_false_imp, beq_eq_false_iff_ne, bne_eq_false_iff_eq] at h)
        exact .inl ⟨rfl, hend _ _ Lq rfl rfl⟩
      have wiK : IntKind.i64.wrap ((i : Int) + (K : Int)) = (i : Int) + (K : Int) := wrapI (by omega) (by omega)
      have tiK : ((i : Int) + (K : Int)).toNat = i + K := by omega
      by_cases hKr : K = r.length
      · have he : ((i : Int) + (K : Int) == (C.length : Int)) = true := by rw [beq_iff_eq]; omega
        repeat' first | (with_reducible first | refine AWP_seq' ?_ | refine k_normal ?_ | refine k_ret ?_ | refine k_exit ?_ | refine b_normal ?_ | refine b_ret ?_ | refine b_exit ?_ | refine b_pass rfl ?_ | refine AWP_ret ?_ | refine AWP_skip ?_ | refine AWP_exit ?_ | refine AWP_block ?_) | ((with_reducible first | refine AWP_reg fun KC J hJ hKC => ?_ | refine AWP_regD rfl fun KC J hJ hKC => ?_); simp (maxSteps := 10000000) only [push_cast, seval, ↓reduceIte, wiK, he]) | ((with_reducible refine And.intro ?_ ?_); · exact Sq) | ((first | with_reducible refine hJ _ _ ?_ | (with_reducible refine hJ _ _ ?_ ?_; · kernel_rfl)); clear hJ hKC KC J) | ((with_reducible refine AWP_condT ?_ ?_); · rfl) | ((with_reducible refine AWP_condF ?_ ?_); · rfl) | ((with_reducible refine ite_intro (fun hs => ?_) (fun hs => ?_)) <;> (try simp only [Bool.not_eq_true, Bool.not_eq_false, Bool.not_eq_true', Bool.not_eq_false', Decidable.not_not, decide_eq_true_eq, decide_eq_false_iff_not] at hs) <;> (try simp (maxSteps := 10000000) only [push_cast, seval, ↓reduceIte, hs, wiK, he])) | (refine AWP_cond rfl (fun h => ?_) (fun h => ?_) <;> try simp only [decide_eq_true_eq, decide_eq_false_iff_not, Bool.not_eq_true', Bool.not_eq_false', beq_iff_eq, bne_iff_ne, ne_eq, Bool.not_eq_true, Bool.or_eq_true, Bool.and_eq_true, Bool.or_eq_false_iff, Bool.and_eq_false_imp, beq_eq_false_iff_ne, bne_eq_false_iff_eq] at h)
        refine ret_plain ?_
        simp (maxSteps := 10000000) only [push_cast, seval, ↓reduceIte, show Try.f86.results = #[(.tmp 4)] from rfl]
        exact Lq
      have he : ((i : Int) + (K : Int) == (C.length : Int)) = false := by
        cases h : ((i : Int) + (K : Int) == (C.length : Int)) with
        | false => rfl
        | true => rw [beq_iff_eq] at h; omega
      have hmk : ∀ h : p = i, j = jt → K = O.length ∧ t.length < r.length ∧ Tail (r.drop t.length) ∧ t.length = O.length := fun h hjj => by
        have h6 := hjt h
        rw [← hjj, hOj] at h6
        have hOt : O = t := Option.some.inj h6.1
        obtain ⟨m1, m2, m3, m4⟩ := mark_ok hOt h6.2 (by rw [hK]; exact hKr)
        exact ⟨by rw [← hK]; exact m1, m3, m4, by rw [hOt]⟩
      by_cases hKO : K = O.length
      · have hq2 : ((K : Int) == (O.length : Int)) = true := by rw [beq_iff_eq]; omega
        have hik1 : (i : Int) + (K : Int) < (q : Int) + 1 + 1 := by omega
        have hik2 : i + K + 1 ≤ (bC A2).length := by rw [hbl2]; omega
        have hset : (bC A2).take (i + K) ++ [D.v (.bool true)] ++ (bC A2).drop (i + K + 1) = bC (A2.set (i + K) true) := by
          unfold bC
          rw [List.map_set, List.set_eq_take_append_cons_drop, if_pos (by rw [List.length_map]; omega)]
          simp
        repeat' first | (with_reducible first | refine AWP_seq' ?_ | refine k_normal ?_ | refine k_ret ?_ | refine k_exit ?_ | refine b_normal ?_ | refine b_ret ?_ | refine b_exit ?_ | refine b_pass rfl ?_ | refine AWP_ret ?_ | refine AWP_skip ?_ | refine AWP_exit ?_ | refine AWP_block ?_) | ((with_reducible first | refine AWP_reg fun KC J hJ hKC => ?_ | refine AWP_regD rfl fun KC J hJ hKC => ?_); simp (maxSteps := 10000000) only [push_cast, seval, ↓reduceIte, wiK, tiK, he, hq2, hbm, hbl2, hik1, hik2, hset, wrj]) | ((with_reducible refine And.intro ?_ ?_); · exact Sq) | ((first | with_reducible refine hJ _ _ ?_ | (with_reducible refine hJ _ _ ?_ ?_; · kernel_rfl)); clear hJ hKC KC J) | ((with_reducible refine AWP_condT ?_ ?_); · rfl) | ((with_reducible refine AWP_condF ?_ ?_); · rfl) | ((with_reducible refine ite_intro (fun hs => ?_) (fun hs => ?_)) <;> (try simp only [Bool.not_eq_true, Bool.not_eq_false, Bool.not_eq_true', Bool.not_eq_false', Decidable.not_not, decide_eq_true_eq, decide_eq_false_iff_not] at hs) <;> (try simp (maxSteps := 10000000) only [push_cast, seval, ↓reduceIte, hs, wiK, tiK, he, hq2, hbm, hbl2, hik1, hik2, hset, wrj])) | (refine AWP_cond rfl (fun h => ?_) (fun h => ?_) <;> try simp only [decide_eq_true_eq, decide_eq_false_iff_not, Bool.not_eq_true', Bool.not_eq_false', beq_iff_eq, bne_iff_ne, ne_eq, Bool.not_eq_true, Bool.or_eq_true, Bool.and_eq_true, Bool.or_eq_false_iff, Bool.and_eq_false_imp, beq_eq_false_iff_ne, bne_eq_false_iff_eq] at h)
        refine ⟨⟨(j + 1, A2.set (i + K) true), by simp only; omega, by simp only [List.length_set]; exact g2, ?_, fun h => ?_⟩, by simp only; omega, ?_, Fq⟩
        · simp only [List.getElem?_set]
          split
          · rename_i hpp
            rw [if_pos (by omega)]
          · exact g3
        · rcases g4 h with h7 | ⟨h7, h8, h9⟩
          · by_cases hjj : j = jt
            · obtain ⟨m1, m2, m3, m4⟩ := hmk h hjj
              refine .inr ⟨?_, m2, m3⟩
              simp only [List.getElem?_set]
              rw [if_pos (by omega), if_pos (by omega)]
            · exact .inl (by simp only; omega)
          · refine .inr ⟨?_, h8, h9⟩
            simp only [List.getElem?_set]
            split
            · rw [if_pos (by omega)]
            · exact h7
        · exact Lq
      · have hq2 : ((K : Int) == (O.length : Int)) = false := by
          cases h : ((K : Int) == (O.length : Int)) with
          | false => rfl
          | true => rw [beq_iff_eq] at h; omega
        repeat' first | (with_reducible first | refine AWP_seq' ?_ | refine k_normal ?_ | refine k_ret ?_ | refine k_exit ?_ | refine b_normal ?_ | refine b_ret ?_ | refine b_exit ?_ | refine b_pass rfl ?_ | refine AWP_ret ?_ | refine AWP_skip ?_ | refine AWP_exit ?_ | refine AWP_block ?_) | ((with_reducible first | refine AWP_reg fun KC J hJ hKC => ?_ | refine AWP_regD rfl fun KC J hJ hKC => ?_); simp (maxSteps := 10000000) only [push_cast, seval, ↓reduceIte, wiK, he, hq2, hbm, hbl2, wrj]) | ((with_reducible refine And.intro ?_ ?_); · exact Sq) | ((first | with_reducible refine hJ _ _ ?_ | (with_reducible refine hJ _ _ ?_ ?_; · kernel_rfl)); clear hJ hKC KC J) | ((with_reducible refine AWP_condT ?_ ?_); · rfl) | ((with_reducible refine AWP_condF ?_ ?_); · rfl) | ((with_reducible refine ite_intro (fun hs => ?_) (fun hs => ?_)) <;> (try simp only [Bool.not_eq_true, Bool.not_eq_false, Bool.not_eq_true', Bool.not_eq_false', Decidable.not_not, decide_eq_true_eq, decide_eq_false_iff_not] at hs) <;> (try simp (maxSteps := 10000000) only [push_cast, seval, ↓reduceIte, hs, wiK, he, hq2, hbm, hbl2, wrj])) | (refine AWP_cond rfl (fun h => ?_) (fun h => ?_) <;> try simp only [decide_eq_true_eq, decide_eq_false_iff_not, Bool.not_eq_true', Bool.not_eq_false', beq_iff_eq, bne_iff_ne, ne_eq, Bool.not_eq_true, Bool.or_eq_true, Bool.and_eq_true, Bool.or_eq_false_iff, Bool.and_eq_false_imp, beq_eq_false_iff_ne, bne_eq_false_iff_eq] at h)
        refine ⟨⟨(j + 1, A2), by simp only; omega, g2, g3, fun h => ?_⟩, by simp only; omega, ?_, Fq⟩
        · rcases g4 h with h7 | h7
          · by_cases hjj : j = jt
            · exact absurd (hmk h hjj).1 hKO
            · exact .inl (by simp only; omega)
          · exact .inr h7
        · exact Lq
    have hj11 : j = 11 := by omega
    subst hj11
    repeat' first | (with_reducible first | refine AWP_seq' ?_ | refine k_normal ?_ | refine k_ret ?_ | refine k_exit ?_ | refine b_normal ?_ | refine b_ret ?_ | refine b_exit ?_ | refine b_pass rfl ?_ | refine AWP_ret ?_ | refine AWP_skip ?_ | refine AWP_exit ?_ | refine AWP_block ?_) | ((with_reducible first | refine AWP_reg fun KC J hJ hKC => ?_ | refine AWP_regD rfl fun KC J hJ hKC => ?_); simp (maxSteps := 10000000) only [push_cast, seval, ↓reduceIte, htl, wr]) | ((with_reducible refine And.intro ?_ ?_); · exact Sq) | ((first | with_reducible refine hJ _ _ ?_ | (with_reducible refine hJ _ _ ?_ ?_; · kernel_rfl)); clear hJ hKC KC J) | ((with_reducible refine AWP_condT ?_ ?_); · rfl) | ((with_reducible refine AWP_condF ?_ ?_); · rfl) | ((with_reducible refine ite_intro (fun hs => ?_) (fun hs => ?_)) <;> (try simp only [Bool.not_eq_true, Bool.not_eq_false, Bool.not_eq_true', Bool.not_eq_false', Decidable.not_not, decide_eq_true_eq, decide_eq_false_iff_not] at hs) <;> (try simp (maxSteps := 10000000) only [push_cast, seval, ↓reduceIte, hs, htl, wr])) | (refine AWP_cond rfl (fun h => ?_) (fun h => ?_) <;> try simp only [decide_eq_true_eq, decide_eq_false_iff_not, Bool.not_eq_true', Bool.not_eq_false', beq_iff_eq, bne_iff_ne, ne_eq, Bool.not_eq_true, Bool.or_eq_true, Bool.and_eq_true, Bool.or_eq_false_iff, Bool.and_eq_false_imp, beq_eq_false_iff_ne, bne_eq_false_iff_eq] at h)
    by_cases hpi : p = i
    · rcases g4 hpi with h7 | ⟨h7, h8, h9⟩
      · have := (htn hpi).2; omega
      · have hpos : 0 < t.length := List.length_pos_iff.2 (htn hpi).1
        refine ⟨⟨(i + 1, A2, i + t.length), by simp only; omega, by simp only; omega, g2, h7, ?_⟩, by simp only; omega, ?_, Fq⟩
        · simp only
          rw [← List.drop_drop, hr]; exact h9
        · exact Lq
    · refine ⟨⟨(i + 1, A2, p), by simp only; omega, h2, g2, g3, h5⟩, by simp only; omega, ?_, Fq⟩
      exact Lq
end Go.Proofs.Ytabliglgeiajlaa.AM
