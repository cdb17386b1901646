/- The reference: labels, what is alike. -/
import Derived.Test.YtabliglgeiajlaaO2
import Derived.Test.YtabliglgeiajlaaTI
import Derived.Test.YtabliglgeiajlaaTS
set_option linter.unusedSimpArgs false
set_option linter.unusedVariables false
namespace Go.Proofs.Ytabliglgeiajlaa.AM
open Go Go.RowKit Go.Proofs
set_option maxRecDepth 100000
set_option maxHeartbeats 1000000

theorem rLabel_fn (f g : Bool) (ns : List ByteArray) (us : List Nat) (a : Int) : Fn Try.prog 134 [.agg [.sl f 1 (strRow ns), .sl g 1 (u32Row us)], .v (.int .i64 a)] [] (.v (.bool (!oddL us.length a))) [] := by
  refine Fn.of (fn := Try.f134) (by kernel_rfl) rfl (by kernel_rfl) ⟨[.agg [.sl f 1 (strRow ns), .sl g 1 (u32Row us)], .v (.int .i64 a), .v undef, .v undef, .v undef, .v undef, .v undef, .v undef, .v undef, .v undef, .v undef, .v undef, .v undef, .v undef], []⟩ rfl ?_
  obtain ⟨x, hx⟩ : ∃ x, decide (0 ≤ a) = x := ⟨_, rfl⟩
  have ho : (!oddL us.length a) = (x && decide (a < (us.length : Int))) := by
    rw [← hx, Bool.eq_iff_iff]; simp [oddL]
  rw [ho]
  cases x
  all_goals
    repeat' first | (with_reducible first | refine AWP_seq' ?_ | refine k_normal ?_ | refine AWP_ret ?_) | ((with_reducible refine AWP_reg fun KC J hJ hKC => ?_); simp (maxSteps := 10000000) only [push_cast, seval, ↓reduceIte, hx, undef]) | ((with_reducible refine hJ _ _ ?_); clear hJ hKC KC J)
    refine ret_plain ?_
    simp (maxSteps := 10000000) only [push_cast, seval, ↓reduceIte, show Try.f134.results = #[(.tmp 4)] from rfl]
    exact leD_refl _
def okL (n : Nat) (l : List Int) : Bool := l.all fun a => !oddL n a
theorem okL_no {n : Nat} {l : List Int} {i : Nat} {x : Int} (h : l[i]? = some x) (ho : oddL n x = true) : okL n l = false := by
  rw [okL, List.all_eq_false]
  exact ⟨x, List.mem_of_getElem? h, by simp [ho]⟩
theorem okL_yes {n : Nat} {l : List Int} (h : ∀ (j : Nat) (x : Int), l[j]? = some x → oddL n x = false) : okL n l = true := by
  rw [okL, List.all_eq_true]
  intro x hx
  obtain ⟨j, hj⟩ := List.mem_iff_getElem?.1 hx
  rw [h j x hj]; rfl
/-- Labels of a state that may be. -/
def labF (n : Nat) (s : Sta) : Bool := okL n (s.code.map (·.2.2)) && (okL n (s.mem.map (·.2)) && (okL n (s.stack.map (·.2.2)) && (okL n (s.out.map (·.2)) && !oddL n s.l)))
/-- A state, as it is handed in. -/
def staF (fc fm fs fo : Bool) (s : Sta) : List D := [.v (.int .i64 s.v), .v (.int .i64 s.l), .sl fc 3 (tRow s.code), .sl fm 2 (pRow s.mem), .sl fs 3 (sRow s.stack), .sl fo 2 (pRow s.out)]
set_option maxHeartbeats 4000000 in
theorem rLabels_fn (f g fc fm fs fo : Bool) (ns : List ByteArray) (us : List Nat) (s : Sta) (h1 : s.code.length ≤ 1000) (h2 : s.mem.length ≤ 1000) (h3 : s.stack.length ≤ 1000) (h4 : s.out.length ≤ 1000) :
    Fn Try.prog 135 [.agg [.sl f 1 (strRow ns), .sl g 1 (u32Row us)], .agg (staF fc fm fs fo s)] [] (.v (.bool (labF us.length s))) [] := by
  obtain ⟨v, l, code, mem, stack, out⟩ := s
  simp only [staF, labF] at *
  refine Fn.of (fn := Try.f135) (by kernel_rfl) rfl (by kernel_rfl) ⟨[.agg [.sl f 1 (strRow ns), .sl g 1 (u32Row us)], .agg [.v (.int .i64 v), .v (.int .i64 l), .sl fc 3 (tRow code), .sl fm 2 (pRow mem), .sl fs 3 (sRow stack), .sl fo 2 (pRow out)], .v undef, .v undef, .v undef, .v undef, .v undef, .v undef, .v undef, .v undef, .v undef, .v undef, .v undef, .v undef, .v undef, .v undef, .v undef, .v undef, .v undef, .v undef, .v undef, .v undef, .v undef, .v undef, .v undef, .v undef, .v undef, .v undef, .v undef, .v undef, .v undef, .v undef, .v undef, .v undef, .v undef, .v undef, .v undef, .v undef, .v undef, .v undef, .v undef, .v undef, .v undef, .v undef, .v undef, .v undef, .v undef, .v undef, .v undef, .v undef, .v undef, .v undef, .v undef, .v undef, .v undef, .v undef, .v undef, .v undef, .v undef, .v undef, .v undef, .v undef, .v undef, .v undef, .v undef, .v undef, .v undef, .v undef, .v undef, .v undef], []⟩ rfl ?_
  repeat' first | (with_reducible first | refine AWP_seq' ?_ | refine k_normal ?_ | refine AWP_block ?_) | ((with_reducible refine AWP_reg fun KC J hJ hKC => ?_); simp (maxSteps := 10000000) only [push_cast, seval, ↓reduceIte]) | ((with_reducible refine hJ _ _ ?_); clear hJ hKC KC J)
  refine AWP_loopD 2 (γ := {i : Nat // i ≤ code.length ∧ ∀ (j : Nat) (x : Int × Int × Int), j < i → code[j]? = some x → oddL us.length x.2.2 = false}) (fun i => ⟨[.any, .any, .ptr 0 0 0, .ptr 1 0 0, .any, .any, .any, .any, .any, .any, .any, .any, .any, .any, .sl fc 3 (tRow code), .v (.int .i64 code.length), .v (.int .i64 i.1), .any, .any, .any, .any, .any, .any, .any, .any, .any, .any, .any, .any, .any, .any, .any, .any, .any, .any, .any, .any, .any, .any, .any, .any, .any, .any, .any, .any, .any, .any, .any, .any, .any, .any, .any, .any, .any, .any, .any, .any, .any, .any, .any, .any, .any, .any, .any, .any, .any, .any, .any, .any, .any], [.ent ⟨0, none, 25, [.sl f 1 (strRow ns), .sl g 1 (u32Row us)], .cells⟩, .ent ⟨0, none, 84, [.v (.int .i64 v), .v (.int .i64 l), .sl fc 3 (tRow code), .sl fm 2 (pRow mem), .sl fs 3 (sRow stack), .sl fo 2 (pRow out)], .cells⟩]⟩) (fun i => code.length - i.1) ⟨0, by omega, fun j x h => by omega⟩ (fun i => rfl) (fun i => rfl) (fun i => rfl) ⟨?_, ?_⟩ ?_
  · exact Lq
  · exact Fq
  rintro ⟨i, hi, hno⟩
  by_cases hlt : (i : Int) < (code.length : Int)
  · have hx : code[i]? = some code[i] := List.getElem?_eq_getElem (by omega)
    obtain ⟨x, hx0⟩ : ∃ x, code[i] = x := ⟨_, rfl⟩
    rw [hx0] at hx
    cases ho : oddL us.length x.2.2 with
    | true =>
      have hf : okL us.length (code.map (·.2.2)) = false := okL_no (i := i) (x := x.2.2) (by rw [List.getElem?_map, hx]; rfl) ho
      repeat' first | (with_reducible first | refine AWP_seq' ?_ | refine k_normal ?_ | refine k_ret ?_ | refine b_ret ?_ | refine AWP_ret ?_ | refine AWP_skip ?_ | refine AWP_block ?_) | ((with_reducible refine AWP_reg fun KC J hJ hKC => ?_); simp (maxSteps := 10000000) only [push_cast, seval, ↓reduceIte, hlt, getE_t hx, ho]) | ((with_reducible refine And.intro ?_ ?_); · exact Sq) | (refine' hKC _ _ _ _ _ (callV0 (rLabel_fn _ _ _ _ _) rfl rfl rfl ?_ ?_); (rotate_left 5); (· exact Lq); simp (maxSteps := 10000000) only [push_cast, seval, ↓reduceIte, hlt, getE_t hx, ho]) | ((with_reducible refine hJ _ _ ?_); clear hJ hKC KC J) | ((with_reducible refine AWP_condT ?_ ?_); · rfl)
      refine ret_plain ?_
      simp (maxSteps := 10000000) only [push_cast, seval, ↓reduceIte, show Try.f135.results = #[(.tmp 4)] from rfl]
      simp only [hf, Bool.true_and, Bool.false_and, Bool.and_false]
      exact leD_refl _
    | false =>
      repeat' first | (with_reducible first | refine AWP_seq' ?_ | refine k_normal ?_ | refine b_normal ?_ | refine AWP_skip ?_ | refine AWP_block ?_) | ((with_reducible refine AWP_reg fun KC J hJ hKC => ?_); simp (maxSteps := 10000000) only [push_cast, seval, ↓reduceIte, hlt, getE_t hx, ho, wrapN (i := i) (n := code.length) (by omega) (by omega)]) | ((with_reducible refine And.intro ?_ ?_); · exact Sq) | (refine' hKC _ _ _ _ _ (callV0 (rLabel_fn _ _ _ _ _) rfl rfl rfl ?_ ?_); (rotate_left 5); (· exact Lq); simp (maxSteps := 10000000) only [push_cast, seval, ↓reduceIte, hlt, getE_t hx, ho, wrapN (i := i) (n := code.length) (by omega) (by omega)]) | ((with_reducible refine hJ _ _ ?_); clear hJ hKC KC J) | ((with_reducible refine AWP_condT ?_ ?_); · rfl) | ((with_reducible refine AWP_condF ?_ ?_); · rfl)
      refine ⟨⟨i + 1, by omega, fun j y hj hy => ?_⟩, by simp only; omega, ?_, ⟨_, rfl⟩⟩
      · by_cases hji : j = i
        · subst hji
          rw [hx] at hy
          cases hy; exact ho
        · exact hno j y (by omega) hy
      · exact Lq
  have hin : i = code.length := by omega
  have ok_code : okL us.length (code.map (·.2.2)) = true := okL_yes fun j y hy => by
    rw [List.getElem?_map] at hy
    cases hz : code[j]? with
    | none => rw [hz] at hy; cases hy
    | some z =>
      rw [hz] at hy
      cases hy
      exact hno j z (by have := (List.getElem?_eq_some_iff.1 hz).1; omega) hz
  repeat' first | (with_reducible first | refine AWP_seq' ?_ | refine k_normal ?_ | refine k_exit ?_ | refine b_exit ?_ | refine AWP_exit ?_ | refine AWP_block ?_) | ((with_reducible refine AWP_reg fun KC J hJ hKC => ?_); simp (maxSteps := 10000000) only [push_cast, seval, ↓reduceIte, hlt]) | ((with_reducible refine hJ _ _ ?_); clear hJ hKC KC J) | ((with_reducible refine AWP_condF ?_ ?_); · rfl)
  clear hlt hno hin hi
  refine AWP_loopD 2 (γ := {i : Nat // i ≤ mem.length ∧ ∀ (j : Nat) (x : Int × Int), j < i → mem[j]? = some x → oddL us.length x.2 = false}) (fun i => ⟨[.any, .any, .ptr 0 0 0, .ptr 1 0 0, .any, .any, .any, .any, .any, .any, .any, .any, .any, .any, .any, .any, .any, .any, .any, .any, .any, .any, .any, .any, .any, .any, .any, .sl fm 2 (pRow mem), .v (.int .i64 mem.length), .v (.int .i64 i.1), .any, .any, .any, .any, .any, .any, .any, .any, .any, .any, .any, .any, .any, .any, .any, .any, .any, .any, .any, .any, .any, .any, .any, .any, .any, .any, .any, .any, .any, .any, .any, .any, .any, .any, .any, .any, .any, .any, .any, .any], [.ent ⟨0, none, 25, [.sl f 1 (strRow ns), .sl g 1 (u32Row us)], .cells⟩, .ent ⟨0, none, 84, [.v (.int .i64 v), .v (.int .i64 l), .sl fc 3 (tRow code), .sl fm 2 (pRow mem), .sl fs 3 (sRow stack), .sl fo 2 (pRow out)], .cells⟩]⟩) (fun i => mem.length - i.1) ⟨0, by omega, fun j x h => by omega⟩ (fun i => rfl) (fun i => rfl) (fun i => rfl) ⟨?_, ?_⟩ ?_
  · exact Lq
  · exact Fq
  rintro ⟨i, hi, hno⟩
  by_cases hlt : (i : Int) < (mem.length : Int)
  · have hx : mem[i]? = some mem[i] := List.getElem?_eq_getElem (by omega)
    obtain ⟨x, hx0⟩ : ∃ x, mem[i] = x := ⟨_, rfl⟩
    rw [hx0] at hx
    cases ho : oddL us.length x.2 with
    | true =>
      have hf : okL us.length (mem.map (·.2)) = false := okL_no (i := i) (x := x.2) (by rw [List.getElem?_map, hx]; rfl) ho
      repeat' first | (with_reducible first | refine AWP_seq' ?_ | refine k_normal ?_ | refine k_ret ?_ | refine b_ret ?_ | refine AWP_ret ?_ | refine AWP_skip ?_ | refine AWP_block ?_) | ((with_reducible refine AWP_reg fun KC J hJ hKC => ?_); simp (maxSteps := 10000000) only [push_cast, seval, ↓reduceIte, hlt, getE_p hx, ho]) | ((with_reducible refine And.intro ?_ ?_); · exact Sq) | (refine' hKC _ _ _ _ _ (callV0 (rLabel_fn _ _ _ _ _) rfl rfl rfl ?_ ?_); (rotate_left 5); (· exact Lq); simp (maxSteps := 10000000) only [push_cast, seval, ↓reduceIte, hlt, getE_p hx, ho]) | ((with_reducible refine hJ _ _ ?_); clear hJ hKC KC J) | ((with_reducible refine AWP_condT ?_ ?_); · rfl)
      refine ret_plain ?_
      simp (maxSteps := 10000000) only [push_cast, seval, ↓reduceIte, show Try.f135.results = #[(.tmp 4)] from rfl]
      simp only [ok_code, hf, Bool.true_and, Bool.false_and, Bool.and_false]
      exact leD_refl _
    | false =>
      repeat' first | (with_reducible first | refine AWP_seq' ?_ | refine k_normal ?_ | refine b_normal ?_ | refine AWP_skip ?_ | refine AWP_block ?_) | ((with_reducible refine AWP_reg fun KC J hJ hKC => ?_); simp (maxSteps := 10000000) only [push_cast, seval, ↓reduceIte, hlt, getE_p hx, ho, wrapN (i := i) (n := mem.length) (by omega) (by omega)]) | ((with_reducible refine And.intro ?_ ?_); · exact Sq) | (refine' hKC _ _ _ _ _ (callV0 (rLabel_fn _ _ _ _ _) rfl rfl rfl ?_ ?_); (rotate_left 5); (· exact Lq); simp (maxSteps := 10000000) only [push_cast, seval, ↓reduceIte, hlt, getE_p hx, ho, wrapN (i := i) (n := mem.length) (by omega) (by omega)]) | ((with_reducible refine hJ _ _ ?_); clear hJ hKC KC J) | ((with_reducible refine AWP_condT ?_ ?_); · rfl) | ((with_reducible refine AWP_condF ?_ ?_); · rfl)
      refine ⟨⟨i + 1, by omega, fun j y hj hy => ?_⟩, by simp only; omega, ?_, ⟨_, rfl⟩⟩
      · by_cases hji : j = i
        · subst hji
          rw [hx] at hy
          cases hy; exact ho
        · exact hno j y (by omega) hy
      · exact Lq
  have hin : i = mem.length := by omega
  have ok_mem : okL us.length (mem.map (·.2)) = true := okL_yes fun j y hy => by
    rw [List.getElem?_map] at hy
    cases hz : mem[j]? with
    | none => rw [hz] at hy; cases hy
    | some z =>
      rw [hz] at hy
      cases hy
      exact hno j z (by have := (List.getElem?_eq_some_iff.1 hz).1; omega) hz
  repeat' first | (with_reducible first | refine AWP_seq' ?_ | refine k_normal ?_ | refine k_exit ?_ | refine b_exit ?_ | refine AWP_exit ?_ | refine AWP_block ?_) | ((with_reducible refine AWP_reg fun KC J hJ hKC => ?_); simp (maxSteps := 10000000) only [push_cast, seval, ↓reduceIte, hlt]) | ((with_reducible refine hJ _ _ ?_); clear hJ hKC KC J) | ((with_reducible refine AWP_condF ?_ ?_); · rfl)
  clear hlt hno hin hi
  refine AWP_loopD 2 (γ := {i : Nat // i ≤ stack.length ∧ ∀ (j : Nat) (x : Bool × Int × Int), j < i → stack[j]? = some x → oddL us.length x.2.2 = false}) (fun i => ⟨[.any, .any, .ptr 0 0 0, .ptr 1 0 0, .any, .any, .any, .any, .any, .any, .any, .any, .any, .any, .any, .any, .any, .any, .any, .any, .any, .any, .any, .any, .any, .any, .any, .any, .any, .any, .any, .any, .any, .any, .any, .any, .any, .any, .any, .any, .sl fs 3 (sRow stack), .v (.int .i64 stack.length), .v (.int .i64 i.1), .any, .any, .any, .any, .any, .any, .any, .any, .any, .any, .any, .any, .any, .any, .any, .any, .any, .any, .any, .any, .any, .any, .any, .any, .any, .any, .any], [.ent ⟨0, none, 25, [.sl f 1 (strRow ns), .sl g 1 (u32Row us)], .cells⟩, .ent ⟨0, none, 84, [.v (.int .i64 v), .v (.int .i64 l), .sl fc 3 (tRow code), .sl fm 2 (pRow mem), .sl fs 3 (sRow stack), .sl fo 2 (pRow out)], .cells⟩]⟩) (fun i => stack.length - i.1) ⟨0, by omega, fun j x h => by omega⟩ (fun i => rfl) (fun i => rfl) (fun i => rfl) ⟨?_, ?_⟩ ?_
  · exact Lq
  · exact Fq
  rintro ⟨i, hi, hno⟩
  by_cases hlt : (i : Int) < (stack.length : Int)
  · have hx : stack[i]? = some stack[i] := List.getElem?_eq_getElem (by omega)
    obtain ⟨x, hx0⟩ : ∃ x, stack[i] = x := ⟨_, rfl⟩
    rw [hx0] at hx
    cases ho : oddL us.length x.2.2 with
    | true =>
      have hf : okL us.length (stack.map (·.2.2)) = false := okL_no (i := i) (x := x.2.2) (by rw [List.getElem?_map, hx]; rfl) ho
      repeat' first | (with_reducible first | refine AWP_seq' ?_ | refine k_normal ?_ | refine k_ret ?_ | refine b_ret ?_ | refine AWP_ret ?_ | refine AWP_skip ?_ | refine AWP_block ?_) | ((with_reducible refine AWP_reg fun KC J hJ hKC => ?_); simp (maxSteps := 10000000) only [push_cast, seval, ↓reduceIte, hlt, getE_s hx, ho]) | ((with_reducible refine And.intro ?_ ?_); · exact Sq) | (refine' hKC _ _ _ _ _ (callV0 (rLabel_fn _ _ _ _ _) rfl rfl rfl ?_ ?_); (rotate_left 5); (· exact Lq); simp (maxSteps := 10000000) only [push_cast, seval, ↓reduceIte, hlt, getE_s hx, ho]) | ((with_reducible refine hJ _ _ ?_); clear hJ hKC KC J) | ((with_reducible refine AWP_condT ?_ ?_); · rfl)
      refine ret_plain ?_
      simp (maxSteps := 10000000) only [push_cast, seval, ↓reduceIte, show Try.f135.results = #[(.tmp 4)] from rfl]
      simp only [ok_code, ok_mem, hf, Bool.true_and, Bool.false_and, Bool.and_false]
      exact leD_refl _
    | false =>
      repeat' first | (with_reducible first | refine AWP_seq' ?_ | refine k_normal ?_ | refine b_normal ?_ | refine AWP_skip ?_ | refine AWP_block ?_) | ((with_reducible refine AWP_reg fun KC J hJ hKC => ?_); simp (maxSteps := 10000000) only [push_cast, seval, ↓reduceIte, hlt, getE_s hx, ho, wrapN (i := i) (n := stack.length) (by omega) (by omega)]) | ((with_reducible refine And.intro ?_ ?_); · exact Sq) | (refine' hKC _ _ _ _ _ (callV0 (rLabel_fn _ _ _ _ _) rfl rfl rfl ?_ ?_); (rotate_left 5); (· exact Lq); simp (maxSteps := 10000000) only [push_cast, seval, ↓reduceIte, hlt, getE_s hx, ho, wrapN (i := i) (n := stack.length) (by omega) (by omega)]) | ((with_reducible refine hJ _ _ ?_); clear hJ hKC KC J) | ((with_reducible refine AWP_condT ?_ ?_); · rfl) | ((with_reducible refine AWP_condF ?_ ?_); · rfl)
      refine ⟨⟨i + 1, by omega, fun j y hj hy => ?_⟩, by simp only; omega, ?_, ⟨_, rfl⟩⟩
      · by_cases hji : j = i
        · subst hji
          rw [hx] at hy
          cases hy; exact ho
        · exact hno j y (by omega) hy
      · exact Lq
  have hin : i = stack.length := by omega
  have ok_stack : okL us.length (stack.map (·.2.2)) = true := okL_yes fun j y hy => by
    rw [List.getElem?_map] at hy
    cases hz : stack[j]? with
    | none => rw [hz] at hy; cases hy
    | some z =>
      rw [hz] at hy
      cases hy
      exact hno j z (by have := (List.getElem?_eq_some_iff.1 hz).1; omega) hz
  repeat' first | (with_reducible first | refine AWP_seq' ?_ | refine k_normal ?_ | refine k_exit ?_ | refine b_exit ?_ | refine AWP_exit ?_ | refine AWP_block ?_) | ((with_reducible refine AWP_reg fun KC J hJ hKC => ?_); simp (maxSteps := 10000000) only [push_cast, seval, ↓reduceIte, hlt]) | ((with_reducible refine hJ _ _ ?_); clear hJ hKC KC J) | ((with_reducible refine AWP_condF ?_ ?_); · rfl)
  clear hlt hno hin hi
  refine AWP_loopD 2 (γ := {i : Nat // i ≤ out.length ∧ ∀ (j : Nat) (x : Int × Int), j < i → out[j]? = some x → oddL us.length x.2 = false}) (fun i => ⟨[.any, .any, .ptr 0 0 0, .ptr 1 0 0, .any, .any, .any, .any, .any, .any, .any, .any, .any, .any, .any, .any, .any, .any, .any, .any, .any, .any, .any, .any, .any, .any, .any, .any, .any, .any, .any, .any, .any, .any, .any, .any, .any, .any, .any, .any, .any, .any, .any, .any, .any, .any, .any, .any, .any, .any, .any, .any, .any, .sl fo 2 (pRow out), .v (.int .i64 out.length), .v (.int .i64 i.1), .any, .any, .any, .any, .any, .any, .any, .any, .any, .any, .any, .any, .any, .any], [.ent ⟨0, none, 25, [.sl f 1 (strRow ns), .sl g 1 (u32Row us)], .cells⟩, .ent ⟨0, none, 84, [.v (.int .i64 v), .v (.int .i64 l), .sl fc 3 (tRow code), .sl fm 2 (pRow mem), .sl fs 3 (sRow stack), .sl fo 2 (pRow out)], .cells⟩]⟩) (fun i => out.length - i.1) ⟨0, by omega, fun j x h => by omega⟩ (fun i => rfl) (fun i => rfl) (fun i => rfl) ⟨?_, ?_⟩ ?_
  · exact Lq
  · exact Fq
  rintro ⟨i, hi, hno⟩
  by_cases hlt : (i : Int) < (out.length : Int)
  · have hx : out[i]? = some out[i] := List.getElem?_eq_getElem (by omega)
    obtain ⟨x, hx0⟩ : ∃ x, out[i] = x := ⟨_, rfl⟩
    rw [hx0] at hx
    cases ho : oddL us.length x.2 with
    | true =>
      have hf : okL us.length (out.map (·.2)) = false := okL_no (i := i) (x := x.2) (by rw [List.getElem?_map, hx]; rfl) ho
      repeat' first | (with_reducible first | refine AWP_seq' ?_ | refine k_normal ?_ | refine k_ret ?_ | refine b_ret ?_ | refine AWP_ret ?_ | refine AWP_skip ?_ | refine AWP_block ?_) | ((with_reducible refine AWP_reg fun KC J hJ hKC => ?_); simp (maxSteps := 10000000) only [push_cast, seval, ↓reduceIte, hlt, getE_p hx, ho]) | ((with_reducible refine And.intro ?_ ?_); · exact Sq) | (refine' hKC _ _ _ _ _ (callV0 (rLabel_fn _ _ _ _ _) rfl rfl rfl ?_ ?_); (rotate_left 5); (· exact Lq); simp (maxSteps := 10000000) only [push_cast, seval, ↓reduceIte, hlt, getE_p hx, ho]) | ((with_reducible refine hJ _ _ ?_); clear hJ hKC KC J) | ((with_reducible refine AWP_condT ?_ ?_); · rfl)
      refine ret_plain ?_
      simp (maxSteps := 10000000) only [push_cast, seval, ↓reduceIte, show Try.f135.results = #[(.tmp 4)] from rfl]
      simp only [ok_code, ok_mem, ok_stack, hf, Bool.true_and, Bool.false_and, Bool.and_false]
      exact leD_refl _
    | false =>
      repeat' first | (with_reducible first | refine AWP_seq' ?_ | refine k_normal ?_ | refine b_normal ?_ | refine AWP_skip ?_ | refine AWP_block ?_) | ((with_reducible refine AWP_reg fun KC J hJ hKC => ?_); simp (maxSteps := 10000000) only [push_cast, seval, ↓reduceIte, hlt, getE_p hx, ho, wrapN (i := i) (n := out.length) (by omega) (by omega)]) | ((with_reducible refine And.intro ?_ ?_); · exact Sq) | (refine' hKC _ _ _ _ _ (callV0 (rLabel_fn _ _ _ _ _) rfl rfl rfl ?_ ?_); (rotate_left 5); (· exact Lq); simp (maxSteps := 10000000) only [push_cast, seval, ↓reduceIte, hlt, getE_p hx, ho, wrapN (i := i) (n := out.length) (by omega) (by omega)]) | ((with_reducible refine hJ _ _ ?_); clear hJ hKC KC J) | ((with_reducible refine AWP_condT ?_ ?_); · rfl) | ((with_reducible refine AWP_condF ?_ ?_); · rfl)
      refine ⟨⟨i + 1, by omega, fun j y hj hy => ?_⟩, by simp only; omega, ?_, ⟨_, rfl⟩⟩
      · by_cases hji : j = i
        · subst hji
          rw [hx] at hy
          cases hy; exact ho
        · exact hno j y (by omega) hy
      · exact Lq
  have hin : i = out.length := by omega
  have ok_out : okL us.length (out.map (·.2)) = true := okL_yes fun j y hy => by
    rw [List.getElem?_map] at hy
    cases hz : out[j]? with
    | none => rw [hz] at hy; cases hy
    | some z =>
      rw [hz] at hy
      cases hy
      exact hno j z (by have := (List.getElem?_eq_some_iff.1 hz).1; omega) hz
  repeat' first | (with_reducible first | refine AWP_seq' ?_ | refine k_normal ?_ | refine k_exit ?_ | refine b_exit ?_ | refine AWP_ret ?_ | refine AWP_exit ?_) | ((with_reducible refine AWP_reg fun KC J hJ hKC => ?_); simp (maxSteps := 10000000) only [push_cast, seval, ↓reduceIte, hlt]) | (refine' hKC _ _ _ _ _ (callV0 (rLabel_fn _ _ _ _ _) rfl rfl rfl ?_ ?_); (rotate_left 5); (· exact Lq); simp (maxSteps := 10000000) only [push_cast, seval, ↓reduceIte, hlt]) | ((with_reducible refine hJ _ _ ?_); clear hJ hKC KC J) | ((with_reducible refine AWP_condF ?_ ?_); · rfl)
  clear hlt hno hin hi
  refine ret_plain ?_
  simp (maxSteps := 10000000) only [push_cast, seval, ↓reduceIte, show Try.f135.results = #[(.tmp 4)] from rfl]
  simp only [ok_code, ok_mem, ok_stack, ok_out, Bool.true_and]
  exact leD_refl _
def may12F (ns : List ByteArray) (us : List Nat) (o : Int) (a b : Sta) : Int := if checkF ns us = 0 then if (!oddL us.length o && (labF us.length a && labF us.length b)) = true then 0 else 9 else checkF ns us
structure Sml (s : Sta) : Prop where
  code : s.code.length ≤ 1000
  mem : s.mem.length ≤ 1000
  stack : s.stack.length ≤ 1000
  out : s.out.length ≤ 1000
theorem rMay12_fn (f g fc fm fs fo fc' fm' fs' fo' : Bool) (ns : List ByteArray) (us : List Nat) (o : Int) (a b : Sta) (hs : Szs ns) (hu : U32 us) (ha : Sml a) (hb : Sml b) :
    Fn Try.prog 57 [.agg [.sl f 1 (strRow ns), .sl g 1 (u32Row us)], .v (.int .i64 o), .agg (staF fc fm fs fo a), .agg (staF fc' fm' fs' fo' b)] [] (.v (.int .i64 (may12F ns us o a b))) [] := by
  have hla := rLabels_fn f g fc fm fs fo ns us a ha.code ha.mem ha.stack ha.out
  have hlb := rLabels_fn f g fc' fm' fs' fo' ns us b hb.code hb.mem hb.stack hb.out
  have hlo := rLabel_fn f g ns us o
  obtain ⟨x, hx⟩ : ∃ x, oddL us.length o = x := ⟨_, rfl⟩
  obtain ⟨y, hy⟩ : ∃ y, labF us.length a = y := ⟨_, rfl⟩
  obtain ⟨z, hz⟩ : ∃ z, labF us.length b = z := ⟨_, rfl⟩
  rw [may12F, hx, hy, hz]
  rw [hx] at hlo
  rw [hy] at hla
  rw [hz] at hlb
  simp only [staF] at hla hlb ⊢
  refine Fn.of (fn := Try.f57) (by kernel_rfl) rfl (by kernel_rfl) ⟨[.agg [.sl f 1 (strRow ns), .sl g 1 (u32Row us)], .v (.int .i64 o), .agg [.v (.int .i64 a.v), .v (.int .i64 a.l), .sl fc 3 (tRow a.code), .sl fm 2 (pRow a.mem), .sl fs 3 (sRow a.stack), .sl fo 2 (pRow a.out)], .agg [.v (.int .i64 b.v), .v (.int .i64 b.l), .sl fc' 3 (tRow b.code), .sl fm' 2 (pRow b.mem), .sl fs' 3 (sRow b.stack), .sl fo' 2 (pRow b.out)], .v undef, .v undef, .v undef, .v undef, .v undef, .v undef, .v undef, .v undef, .v undef, .v undef, .v undef, .v undef, .v undef, .v undef, .v undef, .v undef, .v undef, .v undef, .v undef, .v undef, .v undef, .v undef, .v undef, .v undef, .v undef, .v undef, .v undef], []⟩ rfl ?_
  by_cases hc : checkF ns us = 0
  · rw [if_pos hc]
    rcases x with _ | _
    rcases y with _ | _
    rotate_left
    rcases z with _ | _
    all_goals
      repeat' first | (with_reducible first | refine AWP_seq' ?_ | refine k_normal ?_ | refine k_ret ?_ | refine AWP_ret ?_ | refine AWP_skip ?_) | ((with_reducible refine AWP_reg fun KC J hJ hKC => ?_); simp (maxSteps := 10000000) only [push_cast, seval, ↓reduceIte, hc, hx, hy, hz, undef]) | (refine' hKC _ _ _ _ _ (callV0 (rCheck_fn _ _ _ _ ?_ ?_) rfl rfl rfl ?_ ?_); (rotate_left 6); (· exact Lq); (rotate_left 1); (iterate 2 (· exact Hq)); simp (maxSteps := 10000000) only [push_cast, seval, ↓reduceIte, hc, hx, hy, hz, undef]) | (refine' hKC _ _ _ _ _ (callV0 (rLabel_fn _ _ _ _ _) rfl rfl rfl ?_ ?_); (rotate_left 5); (· exact Lq); simp (maxSteps := 10000000) only [push_cast, seval, ↓reduceIte, hc, hx, hy, hz, undef]) | (refine hKC _ _ _ _ _ (callV0 (hla) rfl rfl rfl ?_ ?_); (· exact Lq); simp (maxSteps := 10000000) only [push_cast, seval, ↓reduceIte, hc, hx, hy, hz, undef]) | (refine hKC _ _ _ _ _ (callV0 (hlb) rfl rfl rfl ?_ ?_); (· exact Lq); simp (maxSteps := 10000000) only [push_cast, seval, ↓reduceIte, hc, hx, hy, hz, undef]) | ((with_reducible refine hJ _ _ ?_); clear hJ hKC KC J) | ((with_reducible refine AWP_condT ?_ ?_); · rfl) | ((with_reducible refine AWP_condF ?_ ?_); · rfl)
      refine ret_plain ?_
      simp (maxSteps := 10000000) only [push_cast, seval, ↓reduceIte, show Try.f57.results = #[(.tmp 8)] from rfl]
      first | exact leD_refl _ | (simp; done)
  · rw [if_neg hc]
    have hc' : (checkF ns us != 0) = true := by simpa using hc
    repeat' first | (with_reducible first | refine AWP_seq' ?_ | refine k_normal ?_ | refine k_ret ?_ | refine AWP_ret ?_) | ((with_reducible refine AWP_reg fun KC J hJ hKC => ?_); simp (maxSteps := 10000000) only [push_cast, seval, ↓reduceIte, hc']) | (refine' hKC _ _ _ _ _ (callV0 (rCheck_fn _ _ _ _ ?_ ?_) rfl rfl rfl ?_ ?_); (rotate_left 6); (· exact Lq); (rotate_left 1); (iterate 2 (· exact Hq)); simp (maxSteps := 10000000) only [push_cast, seval, ↓reduceIte, hc']) | ((with_reducible refine hJ _ _ ?_); clear hJ hKC KC J) | ((with_reducible refine AWP_condT ?_ ?_); · rfl)
    refine ret_plain ?_
    simp (maxSteps := 10000000) only [push_cast, seval, ↓reduceIte, show Try.f57.results = #[(.tmp 8)] from rfl]
    exact leD_refl _
end Go.Proofs.Ytabliglgeiajlaa.AM
