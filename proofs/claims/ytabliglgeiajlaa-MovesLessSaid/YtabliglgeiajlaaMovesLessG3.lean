/- Walks and plain laws, put together: part 3. -/
import Derived.Test.YtabliglgeiajlaaMovesLessG2
import Derived.Test.YtabliglgeiajlaaMovesLessG1
import Derived.Test.YtabliglgeiajlaaMovesLessG0
import Derived.Test.YtabliglgeiajlaaMc
set_option linter.unusedSimpArgs false
set_option linter.unusedVariables false
/- All moves of two states. -/
namespace Go.Proofs.Ytabliglgeiajlaa.AM
open Go Go.RowKit Go.Proofs
set_option maxRecDepth 100000
set_option maxHeartbeats 4000000

/-- The row of moves so far: none yet, or of a generation. -/
def oE (n : Nat) : Option Nat → D
  | none => .v (.slice none 0 0)
  | some g => .ref 5 g n
def oσ (L : List (Mv × Mv)) : Option Nat → List Slot
  | none => [.dead, .dead, .free, .dead, .ent ⟨0, none, 274, [.v (.slice none 0 0)], .cells⟩]
  | some g => [.dead, .dead, .free, .dead, .ent ⟨0, none, 274, [.ref 5 g L.length], .cells⟩, .ent ⟨g, some 2, 275, mvCells L, .cells⟩]
def A1 (s : Sta) (i : Nat) : List (Mv × Mv) := (List.range i).map fun i => (.without i, .without i)
def A2 (s : Sta) (i : Nat) : List (Mv × Mv) := A1 s s.code.length ++ (List.range i).map fun i => (.idle i, .idle i)
def A3 (s : Sta) : List (Mv × Mv) := A2 s s.code.length ++ [(.less, .less)]
def gO : Option Nat → Nat
  | none => 0
  | some g => g + 1
def A4 (s : Sta) : List (Mv × Mv) := A2 s s.code.length ++ [(.less, .less), (.silent, .silent)]
def A5 (s : Sta) (i : Nat) : List (Mv × Mv) := A4 s ++ (List.range i).map fun i => (.pull i, .pull i)
def A6 (s t : Sta) (i : Nat) : List (Mv × Mv) := A5 s (max s.stack.length t.stack.length) ++ ((placesF s).take i).flatMap numM
def A7 (s t : Sta) (b : Int) (i : Nat) : List (Mv × Mv) := A6 s t (placesF s).length ++ ((placesF s).take i).map (botM b)
theorem A1_succ (s : Sta) (i : Nat) : A1 s (i + 1) = A1 s i ++ [(.without i, .without i)] := by unfold A1; rw [List.range_succ, List.map_append]; rfl
theorem A2_succ (s : Sta) (i : Nat) : A2 s (i + 1) = A2 s i ++ [(.idle i, .idle i)] := by unfold A2; rw [List.range_succ, List.map_append, List.append_assoc]; rfl
theorem A5_succ (s : Sta) (i : Nat) : A5 s (i + 1) = A5 s i ++ [(.pull i, .pull i)] := by unfold A5; rw [List.range_succ, List.map_append, List.append_assoc]; rfl
theorem A6_succ {s t : Sta} {i : Nat} {p : Nat × Nat} (h : (placesF s)[i]? = some p) : A6 s t (i + 1) = A6 s t i ++ halfM p 0 ++ halfM p 1 := by
  unfold A6; rw [List.take_add_one, h]; simp [numM]
theorem A7_succ {s t : Sta} {b : Int} {i : Nat} {p : Nat × Nat} (h : (placesF s)[i]? = some p) : A7 s t b (i + 1) = A7 s t b i ++ [botM b p] := by
  unfold A7; rw [List.take_add_one, h]; simp
theorem A4_3 (s : Sta) : A4 s = A3 s ++ [(.silent, .silent)] := by simp [A4, A3]
theorem A5_zero (s : Sta) : A5 s 0 = A4 s := by simp [A5]
theorem A6_zero (s t : Sta) : A6 s t 0 = A5 s (max s.stack.length t.stack.length) := by simp [A6]
theorem A7_zero (s t : Sta) (b : Int) : A7 s t b 0 = A6 s t (placesF s).length := by simp [A7]
def hsM (p : Nat × Nat) (b : Nat) : List (Mv × Mv) := (List.range b).flatMap (halfM p)
theorem hsM_succ (p : Nat × Nat) (b : Nat) : hsM p (b + 1) = hsM p b ++ halfM p b := by unfold hsM; rw [List.range_succ, List.flatMap_append]; simp
theorem A6_hs {s t : Sta} {i : Nat} {p : Nat × Nat} (h : (placesF s)[i]? = some p) : A6 s t i ++ hsM p 2 = A6 s t (i + 1) := by
  rw [A6_succ h, hsM_succ, hsM_succ, show hsM p 0 = [] from rfl]; simp
theorem hsM_le (p : Nat × Nat) {b : Nat} (h : b ≤ 2) : (hsM p b).length ≤ 6 := by
  have : (hsM p b).length = 3 * b := by
    induction b with
    | zero => rfl
    | succ b ih => rw [hsM_succ, List.length_append, ih (by omega)]; simp [halfM]; omega
  omega
theorem getE_cast {L : List (Nat × Nat)} {i : Nat} {p : Nat × Nat} (h : L[i]? = some p) : getE (pRow (castL L)) i = [.v (.int .i64 (p.1 : Int)), .v (.int .i64 (p.2 : Int))] := by
  have : (castL L)[i]? = some ((p.1 : Int), (p.2 : Int)) := by unfold castL; rw [List.getElem?_map, h]; rfl
  exact getE_p this
theorem A2_zero (s : Sta) : A2 s 0 = A1 s s.code.length := by simp [A2]
theorem A1_le (s : Sta) (i : Nat) : (A1 s i).length = i := by simp [A1]
theorem A2_le (s : Sta) (i : Nat) : (A2 s i).length = s.code.length + i := by simp [A2, A1]
theorem A3_le (s : Sta) : (A3 s).length = s.code.length + s.code.length + 1 := by simp [A3, A2_le]
theorem A4_le (s : Sta) : (A4 s).length = s.code.length + s.code.length + 2 := by simp [A4, A2_le]
theorem A5_le (s : Sta) (i : Nat) : (A5 s i).length = s.code.length + s.code.length + 2 + i := by simp [A5, A4_le]
theorem numM_len (p : Nat × Nat) : (numM p).length = 6 := rfl
theorem flat6 (l : List (Nat × Nat)) : (l.flatMap numM).length = 6 * l.length := by
  induction l with
  | nil => rfl
  | cons a l ih => rw [List.flatMap_cons, List.length_append, numM_len, ih, List.length_cons]; omega
theorem placesF_len (s : Sta) : (placesF s).length ≤ s.code.length + s.mem.length + s.stack.length := P3_le s s.stack.length
theorem A6_le (s t : Sta) (i : Nat) : (A6 s t i).length ≤ s.code.length + s.code.length + 2 + max s.stack.length t.stack.length + 6 * (placesF s).length := by
  have : ((placesF s).take i).length ≤ (placesF s).length := List.length_take_le' _ _
  simp only [A6, List.length_append, A5_le, flat6]; omega
theorem A7_le (s t : Sta) (b : Int) (i : Nat) : (A7 s t b i).length ≤ s.code.length + s.code.length + 2 + max s.stack.length t.stack.length + 7 * (placesF s).length := by
  have : ((placesF s).take i).length ≤ (placesF s).length := List.length_take_le' _ _
  have := A6_le s t (placesF s).length
  simp only [A7, List.length_append, List.length_map]; omega
theorem A7_all (s t : Sta) (b : Int) : A7 s t b (placesF s).length = movesL b s t := by
  unfold A7 A6 A5 A4 A2 A1 movesL
  rw [List.take_length]
theorem moves_fn (f g : Bool) (ns : List ByteArray) (us : List Nat) (hs : Szs ns) (hu : U32 us) (hc : checkF ns us = 0) (s t : Sta) (hs1 : Sml15 s) (ht1 : Sml15 t) :
    Fn Try.prog 181 [.agg [.sl f 1 (strRow ns), .sl g 1 (u32Row us)], .agg (encT s t)] [] (.fn 267 [.fad [.sl false 2 (mvRow (movesL (botI us) s t))]]) [] := by
  obtain ⟨l1, l2, l3, l4⟩ := hs1
  obtain ⟨k1, k2, k3, k4⟩ := ht1
  have hbt := bottom_fn f g ns us hs hu hc
  obtain ⟨bt, hbt0⟩ : ∃ b, botI us = b := ⟨_, rfl⟩
  rw [hbt0] at hbt ⊢
  have hpl := placesF_len s
  simp only [encT, staF, List.cons_append, List.nil_append]
  refine Fn.of (fn := Try.f181) (by kernel_rfl) rfl (by kernel_rfl) ⟨[.agg [.sl f 1 (strRow ns), .sl g 1 (u32Row us)], .agg [.v (.int .i64 s.v), .v (.int .i64 s.l), .sl false 3 (tRow s.code), .sl false 2 (pRow s.mem), .sl false 3 (sRow s.stack), .sl false 2 (pRow s.out), .v (.int .i64 t.v), .v (.int .i64 t.l), .sl false 3 (tRow t.code), .sl false 2 (pRow t.mem), .sl false 3 (sRow t.stack), .sl false 2 (pRow t.out)], .v undef, .v undef, .v undef, .v undef, .v undef, .v undef, .v undef, .v undef, .v undef, .v undef, .v undef, .v undef, .v undef, .v undef, .v undef, .v undef, .v undef, .v undef, .v undef, .v undef, .v undef, .v undef, .v undef, .v undef, .v undef, .v undef, .v undef, .v undef, .v undef, .v undef, .v undef, .v undef, .v undef, .v undef, .v undef, .v undef, .v undef, .v undef, .v undef, .v undef, .v undef, .v undef, .v undef, .v undef, .v undef, .v undef, .v undef, .v undef, .v undef, .v undef, .v undef, .v undef, .v undef, .v undef, .v undef, .v undef, .v undef, .v undef, .v undef, .v undef, .v undef, .v undef, .v undef, .v undef, .v undef, .v undef, .v undef, .v undef, .v undef, .v undef, .v undef, .v undef, .v undef, .v undef, .v undef, .v undef, .v undef, .v undef, .v undef, .v undef, .v undef, .v undef, .v undef, .v undef, .v undef, .v undef, .v undef, .v undef, .v undef, .v undef, .v undef, .v undef, .v undef, .v undef, .v undef, .v undef, .v undef, .v undef, .v undef, .v undef, .v undef, .v undef, .v undef, .v undef, .v undef, .v undef, .v undef, .v undef, .v undef, .v undef, .v undef, .v undef, .v undef, .v undef], []⟩ rfl ?_
  repeat' first | (refine AWP_freezeR 4 0 rfl (by (simp (maxSteps := 10000000) only [push_cast, seval, ↓reduceIte]) <;> rfl) ?_; simp (maxSteps := 10000000) only [push_cast, seval, ↓reduceIte, frSt, frSlot, fr3, fr2, fr1, fr0, sameB, arrOf, backOf, callSets, renSlot, pick, mOf, idx, ren_mvCells]) | (refine AWP_freezeR 4 1 rfl (by (simp (maxSteps := 10000000) only [push_cast, seval, ↓reduceIte]) <;> rfl) ?_; simp (maxSteps := 10000000) only [push_cast, seval, ↓reduceIte, frSt, frSlot, fr3, fr2, fr1, fr0, sameB, arrOf, backOf, callSets, renSlot, pick, mOf, idx, ren_mvCells]) | (refine AWP_freezeR 4 3 rfl (by (simp (maxSteps := 10000000) only [push_cast, seval, ↓reduceIte]) <;> rfl) ?_; simp (maxSteps := 10000000) only [push_cast, seval, ↓reduceIte, frSt, frSlot, fr3, fr2, fr1, fr0, sameB, arrOf, backOf, callSets, renSlot, pick, mOf, idx, ren_mvCells]) | (with_reducible first | refine AWP_seq' ?_ | refine k_normal ?_ | refine AWP_block ?_) | ((first | with_reducible refine AWP_reg fun KC J hJ hKC => ?_ | (refine hKC _ _ _ _ _ (callV0 (hbt) rfl rfl rfl ?_ ?_); (· exact Lq))); simp (maxSteps := 10000000) only [push_cast, seval, ↓reduceIte, backOf, callSets, renSlot, pick, mOf, idx, ren_mvCells]) | ((with_reducible refine hJ _ _ ?_); clear hJ hKC KC J)
  refine AWP_loopK (5) (γ := {p : Nat × Option Nat // p.1 ≤ s.code.length ∧ (p.2 = none → A1 s p.1 = [])}) (fun p => ⟨[.any, .any, .any, .fad [.v (.int .i64 s.v), .v (.int .i64 s.l), .sl false 3 (tRow s.code), .sl false 2 (pRow s.mem), .sl false 3 (sRow s.stack), .sl false 2 (pRow s.out), .v (.int .i64 t.v), .v (.int .i64 t.l), .sl false 3 (tRow t.code), .sl false 2 (pRow t.mem), .sl false 3 (sRow t.stack), .sl false 2 (pRow t.out)], .any, .fad [.v (.int .i64 bt)], .any, .ptr 4 0 0, .fn 256 [.ptr 4 0 0], .any, .any, .any, .any, .any, .any, .any, .any, .any, .any, .any, .any, .any, .any, .any, .any, .any, .any, .v (.int .i64 s.code.length), .v (.int .i64 p.1.1), .any, .any, .any, .any, .any, .any, .any, .any, .any, .any, .any, .any, .any, .any, .any, .any, .any, .any, .any, .any, .any, .any, .any, .any, .any, .any, .any, .any, .any, .any, .any, .any, .any, .any, .any, .any, .any, .any, .any, .any, .any, .any, .any, .any, .any, .any, .any, .any, .any, .any, .any, .any, .any, .any, .any, .any, .any, .any, .any, .any, .any, .any, .any, .any, .any, .any, .any, .any, .any, .any, .any, .any, .any, .any, .any, .any, .any, .any, .any, .any, .any, .any, .any, .any, .any, .any, .any], oσ (A1 s p.1.1) p.1.2⟩) (fun p => s.code.length - p.1.1) ⟨(0, none), by simp, fun _ => rfl⟩ rfl ⟨?_, ?_⟩ ?_
  · exact Lq
  · exact Fq
  rintro ⟨⟨i, oA1⟩, hi, hno⟩
  dsimp only at hi hno ⊢
  have hAl := A1_le s i
  by_cases hlt : (i : Int) < (s.code.length : Int)
  · have hst : A1 s (i + 1) = A1 s i ++ [(.without i, .without i)] := A1_succ s i
    have hmk := withoutMk_fn i
    rcases oA1 with _ | gg
    · have hL0 := hno rfl
      rw [hL0, List.nil_append] at hst
      have hb0 := mvBoth0_fn (.without i)
      repeat' first | (with_reducible first | refine AWP_seq' ?_ | refine k_normal ?_ | refine b_normal ?_ | refine AWP_skip ?_ | refine AWP_block ?_) | ((first | with_reducible refine AWP_reg fun KC J hJ hKC => ?_ | (refine hKC _ _ _ _ _ (callN [4] hb0 rfl rfl rfl (by decide) (by simp) rfl rfl (by simp only [push_cast, pick, mOf, idx, renSlot]) (by simp only [push_cast, mOf, idx]; exact Lq) ?_)) | (refine hKC _ _ _ _ _ (callV0 (hmk) rfl rfl rfl ?_ ?_); (· exact Lq))); simp (maxSteps := 10000000) only [push_cast, seval, ↓reduceIte, hlt, oE, oσ, List.cons_append, List.nil_append, List.append_nil, hL0, wrapN (i := i) (n := s.code.length) (by omega) (by omega), backOf, callSets, renSlot, pick, mOf, idx, ren_mvCells]) | ((with_reducible refine hJ _ _ ?_); clear hJ hKC KC J) | ((with_reducible refine AWP_condT ?_ ?_); · rfl)
      refine ⟨⟨(i + 1, some 0), by simp only; omega, (fun h => by cases h)⟩, by simp only; omega, [0, 1, 2, 3, 4, 6], by decide, ?_, ?_, ?_⟩
      · intro k hk
        have hk2 : k < 5 := by omega
        match k, hk2 with
        | 0, _ => rfl
        | 1, _ => rfl
        | 2, _ => rfl
        | 3, _ => rfl
        | 4, _ => rfl
      · simp only [push_cast, mOf, idx]
        exact Lq
      · simp only [oE, oσ, List.cons_append, List.nil_append, List.append_nil, hst, pick, List.map_cons, List.map_nil, getS, renSlot, ren_mvCells, push_cast, mOf, idx]
        exact leS_refl _
    · obtain ⟨n, hn⟩ : ∃ n, (A1 s i).length = n := ⟨_, rfl⟩
      have hbS := mvBothS_fn (.without i) gg n (A1 s i) hn (by omega)
      have hn1 : (A1 s i ++ [((.without i, .without i) : Mv × Mv)]).length = n + 1 := by rw [List.length_append, hn]; rfl
      repeat' first | (with_reducible first | refine AWP_seq' ?_ | refine k_normal ?_ | refine b_normal ?_ | refine AWP_skip ?_ | refine AWP_block ?_) | ((first | with_reducible refine AWP_reg fun KC J hJ hKC => ?_ | (refine hKC _ _ _ _ _ (callK [4, 5] hbS rfl rfl rfl (by decide) (by simp) rfl (by simp only [push_cast, pick, mOf, idx, renSlot, ren_mvCells]) (by simp only [push_cast, mOf, idx]; exact Lq) ?_)) | (refine hKC _ _ _ _ _ (callV0 (hmk) rfl rfl rfl ?_ ?_); (· exact Lq))); simp (maxSteps := 10000000) only [push_cast, seval, ↓reduceIte, hlt, oE, oσ, List.cons_append, List.nil_append, List.append_nil, hn, wrapN (i := i) (n := s.code.length) (by omega) (by omega), backOf, callSets, renSlot, pick, mOf, idx, ren_mvCells]) | ((with_reducible refine hJ _ _ ?_); clear hJ hKC KC J) | ((with_reducible refine AWP_condT ?_ ?_); · rfl)
      refine ⟨⟨(i + 1, some (gg + 1)), by simp only; omega, (fun h => by cases h)⟩, by simp only; omega, [0, 1, 2, 3, 4, 5], by decide, ?_, ?_, ?_⟩
      · intro k hk
        have hk2 : k < 6 := by omega
        match k, hk2 with
        | 0, _ => rfl
        | 1, _ => rfl
        | 2, _ => rfl
        | 3, _ => rfl
        | 4, _ => rfl
        | 5, _ => rfl
      · simp only [push_cast, mOf, idx]
        exact Lq
      · simp only [oE, oσ, List.cons_append, List.nil_append, List.append_nil, hst, hn1, pick, List.map_cons, List.map_nil, getS, renSlot, ren_mvCells, push_cast, mOf, idx]
        exact leS_refl _
  have hin : i = s.code.length := by omega
  subst hin
  have hog : oA1 = none → A1 s s.code.length = [] := hno
  clear hno hAl hi
  obtain ⟨og, hogd⟩ : ∃ o, oA1 = o := ⟨_, rfl⟩
  rw [hogd] at hog ⊢
  repeat' first | (with_reducible refine hold 9 ?_) | (with_reducible first | refine AWP_seq' ?_ | refine k_normal ?_ | refine k_exit ?_ | refine b_exit ?_ | refine AWP_exit ?_) | ((with_reducible refine AWP_reg fun KC J hJ hKC => ?_); simp (maxSteps := 10000000) only [push_cast, seval, ↓reduceIte, hlt]) | ((with_reducible refine hJ _ _ ?_); clear hJ hKC KC J) | ((with_reducible refine AWP_condF ?_ ?_); · rfl)
  refine AWP_cutR ⟨[.any, .any, .any, .fad [.v (.int .i64 s.v), .v (.int .i64 s.l), .sl false 3 (tRow s.code), .sl false 2 (pRow s.mem), .sl false 3 (sRow s.stack), .sl false 2 (pRow s.out), .v (.int .i64 t.v), .v (.int .i64 t.l), .sl false 3 (tRow t.code), .sl false 2 (pRow t.mem), .sl false 3 (sRow t.stack), .sl false 2 (pRow t.out)], .any, .fad [.v (.int .i64 bt)], .any, .ptr 4 0 0, .fn 256 [.ptr 4 0 0], .any, .any, .any, .any, .any, .any, .any, .any, .any, .any, .any, .any, .any, .any, .any, .any, .any, .any, .any, .any, .any, .any, .any, .any, .any, .any, .any, .any, .any, .any, .v (.int .i64 s.code.length), .v (.int .i64 0), .any, .any, .any, .any, .any, .any, .any, .any, .any, .any, .any, .any, .any, .any, .any, .any, .any, .any, .any, .any, .any, .any, .any, .any, .any, .any, .any, .any, .any, .any, .any, .any, .any, .any, .any, .any, .any, .any, .any, .any, .any, .any, .any, .any, .any, .any, .any, .any, .any, .any, .any, .any, .any, .any, .any, .any, .any, .any, .any, .any, .any, .any, .any, .any, .any, .any, .any, .any, .any, .any, .any, .any, .any, .any, .any], oσ (A1 s s.code.length) og⟩ ?_ ?_
  · rcases og with _ | gg
    all_goals
      simp only [oE, oσ, List.cons_append, List.nil_append, List.append_nil]
      repeat' first | ((with_reducible refine AWP_reg fun KC J hJ hKC => ?_); simp (maxSteps := 10000000) only [push_cast, seval, ↓reduceIte]) | ((with_reducible refine hJ _ _ ?_); clear hJ hKC KC J)
      (refine to_of ?_ Fq; (· exact Lq))
  repeat' first | (with_reducible refine AWP_block ?_)
  refine AWP_loopK ((oσ (A1 s s.code.length) og).length) (γ := {p : Nat × Option Nat // p.1 ≤ s.code.length ∧ (p.2 = none → A2 s p.1 = []) ∧ (og ≠ none → p.2 ≠ none)}) (fun p => ⟨[.any, .any, .any, .fad [.v (.int .i64 s.v), .v (.int .i64 s.l), .sl false 3 (tRow s.code), .sl false 2 (pRow s.mem), .sl false 3 (sRow s.stack), .sl false 2 (pRow s.out), .v (.int .i64 t.v), .v (.int .i64 t.l), .sl false 3 (tRow t.code), .sl false 2 (pRow t.mem), .sl false 3 (sRow t.stack), .sl false 2 (pRow t.out)], .any, .fad [.v (.int .i64 bt)], .any, .ptr 4 0 0, .fn 256 [.ptr 4 0 0], .any, .any, .any, .any, .any, .any, .any, .any, .any, .any, .any, .any, .any, .any, .any, .any, .any, .any, .any, .any, .any, .any, .any, .any, .any, .any, .any, .any, .any, .any, .v (.int .i64 s.code.length), .v (.int .i64 p.1.1), .any, .any, .any, .any, .any, .any, .any, .any, .any, .any, .any, .any, .any, .any, .any, .any, .any, .any, .any, .any, .any, .any, .any, .any, .any, .any, .any, .any, .any, .any, .any, .any, .any, .any, .any, .any, .any, .any, .any, .any, .any, .any, .any, .any, .any, .any, .any, .any, .any, .any, .any, .any, .any, .any, .any, .any, .any, .any, .any, .any, .any, .any, .any, .any, .any, .any, .any, .any, .any, .any, .any, .any, .any, .any, .any], oσ (A2 s p.1.1) p.1.2⟩) (fun p => s.code.length - p.1.1) ⟨(0, og), by simp, fun h => by rw [A2_zero]; exact hog h, fun h => h⟩ (by show (oσ (A2 s 0) og).length = _; rw [A2_zero]) ⟨?_, ?_⟩ ?_
  · exact Lq
  · exact (show ∃ k, oσ (A1 s s.code.length) og = oσ (A2 s 0) og ++ List.replicate k .free by rw [A2_zero]; exact Fq)
  rintro ⟨⟨i, oA2⟩, hi, hno, hkeep⟩
  dsimp only at hi hno hkeep ⊢
  have hAl := A2_le s i
  by_cases hlt : (i : Int) < (s.code.length : Int)
  · have hst : A2 s (i + 1) = A2 s i ++ [(.idle i, .idle i)] := A2_succ s i
    have hmk := idleMk_fn i
    rcases oA2 with _ | gg
    · have hL0 := hno rfl
      rw [hL0, List.nil_append] at hst
      have hb0 := mvBoth0_fn (.idle i)
      have hn5 : (oσ (A1 s s.code.length) og).length ≤ 5 := by
        rcases og with _ | q
        · exact Nat.le_refl _
        · exact absurd rfl (hkeep (fun h => by cases h))
      repeat' first | (with_reducible first | refine AWP_seq' ?_ | refine k_normal ?_ | refine b_normal ?_ | refine AWP_skip ?_ | refine AWP_block ?_) | ((first | with_reducible refine AWP_reg fun KC J hJ hKC => ?_ | (refine hKC _ _ _ _ _ (callN [4] hb0 rfl rfl rfl (by decide) (by simp) rfl rfl (by simp only [push_cast, pick, mOf, idx, renSlot]) (by simp only [push_cast, mOf, idx]; exact Lq) ?_)) | (refine hKC _ _ _ _ _ (callV0 (hmk) rfl rfl rfl ?_ ?_); (· exact Lq))); simp (maxSteps := 10000000) only [push_cast, seval, ↓reduceIte, hlt, oE, oσ, List.cons_append, List.nil_append, List.append_nil, hL0, wrapN (i := i) (n := s.code.length) (by omega) (by omega), backOf, callSets, renSlot, pick, mOf, idx, ren_mvCells]) | ((with_reducible refine hJ _ _ ?_); clear hJ hKC KC J) | ((with_reducible refine AWP_condT ?_ ?_); · rfl)
      refine ⟨⟨(i + 1, some 0), by simp only; omega, (fun h => by cases h), fun _ h => by cases h⟩, by simp only; omega, [0, 1, 2, 3, 4, 6], by decide, ?_, ?_, ?_⟩
      · intro k hk
        have hk2 : k < 5 := by omega
        match k, hk2 with
        | 0, _ => rfl
        | 1, _ => rfl
        | 2, _ => rfl
        | 3, _ => rfl
        | 4, _ => rfl
      · simp only [push_cast, mOf, idx]
        exact Lq
      · simp only [oE, oσ, List.cons_append, List.nil_append, List.append_nil, hst, pick, List.map_cons, List.map_nil, getS, renSlot, ren_mvCells, push_cast, mOf, idx]
        exact leS_refl _
    · obtain ⟨n, hn⟩ : ∃ n, (A2 s i).length = n := ⟨_, rfl⟩
      have hbS := mvBothS_fn (.idle i) gg n (A2 s i) hn (by omega)
      have hn1 : (A2 s i ++ [((.idle i, .idle i) : Mv × Mv)]).length = n + 1 := by rw [List.length_append, hn]; rfl
      have hn6 : (oσ (A1 s s.code.length) og).length ≤ 6 := by rcases og with _ | q <;> exact Nat.le_of_ble_eq_true rfl
      repeat' first | (with_reducible first | refine AWP_seq' ?_ | refine k_normal ?_ | refine b_normal ?_ | refine AWP_skip ?_ | refine AWP_block ?_) | ((first | with_reducible refine AWP_reg fun KC J hJ hKC => ?_ | (refine hKC _ _ _ _ _ (callK [4, 5] hbS rfl rfl rfl (by decide) (by simp) rfl (by simp only [push_cast, pick, mOf, idx, renSlot, ren_mvCells]) (by simp only [push_cast, mOf, idx]; exact Lq) ?_)) | (refine hKC _ _ _ _ _ (callV0 (hmk) rfl rfl rfl ?_ ?_); (· exact Lq))); simp (maxSteps := 10000000) only [push_cast, seval, ↓reduceIte, hlt, oE, oσ, List.cons_append, List.nil_append, List.append_nil, hn, wrapN (i := i) (n := s.code.length) (by omega) (by omega), backOf, callSets, renSlot, pick, mOf, idx, ren_mvCells]) | ((with_reducible refine hJ _ _ ?_); clear hJ hKC KC J) | ((with_reducible refine AWP_condT ?_ ?_); · rfl)
      refine ⟨⟨(i + 1, some (gg + 1)), by simp only; omega, (fun h => by cases h), fun _ h => by cases h⟩, by simp only; omega, [0, 1, 2, 3, 4, 5], by decide, ?_, ?_, ?_⟩
      · intro k hk
        have hk2 : k < 6 := by omega
        match k, hk2 with
        | 0, _ => rfl
        | 1, _ => rfl
        | 2, _ => rfl
        | 3, _ => rfl
        | 4, _ => rfl
        | 5, _ => rfl
      · simp only [push_cast, mOf, idx]
        exact Lq
      · simp only [oE, oσ, List.cons_append, List.nil_append, List.append_nil, hst, hn1, pick, List.map_cons, List.map_nil, getS, renSlot, ren_mvCells, push_cast, mOf, idx]
        exact leS_refl _
  have hin : i = s.code.length := by omega
  subst hin
  have hog2 : oA2 = none → A2 s s.code.length = [] := hno
  clear hno hkeep hAl hi
  have hM1 : (if (t.stack.length : Int) > (s.stack.length : Int) then (t.stack.length : Int) else (s.stack.length : Int)) = ((max s.stack.length t.stack.length : Nat) : Int) := by split <;> omega
  have hM2 : (if (s.stack.length : Int) < (t.stack.length : Int) then (t.stack.length : Int) else (s.stack.length : Int)) = ((max s.stack.length t.stack.length : Nat) : Int) := by split <;> omega
  repeat' first | (with_reducible refine hold1 14 ?_) | (with_reducible first | refine AWP_seq' ?_ | refine k_normal ?_ | refine k_exit ?_ | refine b_exit ?_ | refine AWP_exit ?_) | ((with_reducible refine AWP_reg fun KC J hJ hKC => ?_); simp (maxSteps := 10000000) only [push_cast, seval, ↓reduceIte, hlt]) | ((with_reducible refine hJ _ _ ?_); clear hJ hKC KC J) | ((with_reducible refine AWP_condF ?_ ?_); · rfl)
  refine AWP_cutR1 ⟨[.any, .any, .any, .fad [.v (.int .i64 s.v), .v (.int .i64 s.l), .sl false 3 (tRow s.code), .sl false 2 (pRow s.mem), .sl false 3 (sRow s.stack), .sl false 2 (pRow s.out), .v (.int .i64 t.v), .v (.int .i64 t.l), .sl false 3 (tRow t.code), .sl false 2 (pRow t.mem), .sl false 3 (sRow t.stack), .sl false 2 (pRow t.out)], .any, .fad [.v (.int .i64 bt)], .any, .ptr 4 0 0, .fn 256 [.ptr 4 0 0], .any, .any, .any, .any, .any, .any, .any, .any, .any, .any, .any, .any, .any, .any, .any, .any, .any, .any, .any, .any, .any, .any, .any, .any, .any, .any, .any, .any, .any, .any, .any, .any, .any, .any, .any, .any, .any, .any, .any, .any, .any, .any, .any, .any, .any, .any, .any, .any, .any, .any, .any, .any, .any, .any, .any, .any, .any, .any, .any, .any, .any, .any, .any, .any, .any, .any, .any, .any, .any, .any, .any, .any, .any, .any, .any, .any, .any, .any, .any, .any, .any, .any, .any, .any, .any, .any, .any, .any, .any, .any, .any, .any, .any, .any, .any, .any, .any, .any, .any, .any, .any, .any, .any, .any, .any, .any, .any], oσ (A3 s) (some (gO oA2))⟩ ?_ ?_
  · have hb0 := mvBoth0_fn .less
    rcases oA2 with _ | gg
    · have hL0 := hog2 rfl
      have hst : A3 s = [(.less, .less)] := by rw [A3, hL0]; rfl
      simp only [oE, oσ, List.cons_append, List.nil_append, List.append_nil, gO, hst]
      repeat' first | ((first | with_reducible refine AWP_reg fun KC J hJ hKC => ?_ | (refine hKC _ _ _ _ _ (callN [4] hb0 rfl rfl rfl (by decide) (by simp) rfl rfl (by simp only [push_cast, pick, mOf, idx, renSlot]) (by simp only [push_cast, mOf, idx]; exact Lq) ?_))); simp (maxSteps := 10000000) only [push_cast, seval, ↓reduceIte, backOf, callSets, renSlot, pick, mOf, idx, ren_mvCells]) | ((with_reducible refine hJ _ _ ?_); clear hJ hKC KC J)
      (refine to_of ?_ Fq; (· exact Lq))
    · obtain ⟨n, hn⟩ : ∃ n, (A2 s s.code.length).length = n := ⟨_, rfl⟩
      have hbS := mvBothS_fn .less gg n (A2 s s.code.length) hn (by have := A2_le s s.code.length; omega)
      have hn1 : (A3 s).length = n + 1 := by rw [A3, List.length_append, hn]; rfl
      have hst : A3 s = A2 s s.code.length ++ [(.less, .less)] := rfl
      simp only [oE, oσ, List.cons_append, List.nil_append, List.append_nil, gO, hn1, hn]
      simp only [hst]
      repeat' first | ((first | with_reducible refine AWP_reg fun KC J hJ hKC => ?_ | (refine hKC _ _ _ _ _ (callK [4, 5] hbS rfl rfl rfl (by decide) (by simp) rfl (by simp only [push_cast, pick, mOf, idx, renSlot, ren_mvCells]) (by simp only [push_cast, mOf, idx]; exact Lq) ?_))); simp (maxSteps := 10000000) only [push_cast, seval, ↓reduceIte, backOf, callSets, renSlot, pick, mOf, idx, ren_mvCells]) | ((with_reducible refine hJ _ _ ?_); clear hJ hKC KC J)
      (refine to_of ?_ Fq; (· exact Lq))
  obtain ⟨g3, hg3⟩ : ∃ x, gO oA2 = x := ⟨_, rfl⟩
  rw [hg3]
  clear hg3 hog2
  repeat' first | (with_reducible refine hold1 15 ?_)
  refine AWP_cutR1 ⟨[.any, .any, .any, .fad [.v (.int .i64 s.v), .v (.int .i64 s.l), .sl false 3 (tRow s.code), .sl false 2 (pRow s.mem), .sl false 3 (sRow s.stack), .sl false 2 (pRow s.out), .v (.int .i64 t.v), .v (.int .i64 t.l), .sl false 3 (tRow t.code), .sl false 2 (pRow t.mem), .sl false 3 (sRow t.stack), .sl false 2 (pRow t.out)], .any, .fad [.v (.int .i64 bt)], .any, .ptr 4 0 0, .fn 256 [.ptr 4 0 0], .any, .any, .any, .any, .any, .any, .any, .any, .any, .any, .any, .any, .any, .any, .any, .any, .any, .any, .any, .any, .any, .any, .any, .any, .any, .any, .any, .any, .any, .any, .any, .any, .any, .any, .any, .any, .any, .any, .any, .any, .any, .any, .any, .any, .any, .any, .any, .any, .any, .any, .any, .any, .any, .any, .any, .any, .any, .any, .any, .any, .any, .any, .any, .any, .any, .any, .any, .any, .any, .any, .any, .any, .any, .any, .any, .any, .any, .any, .any, .any, .any, .any, .any, .any, .any, .any, .any, .any, .any, .any, .any, .any, .any, .any, .any, .any, .any, .any, .any, .any, .any, .any, .any, .any, .any, .any, .any], oσ (A4 s) (some (g3 + 1))⟩ ?_ ?_
  · obtain ⟨n, hn⟩ : ∃ n, (A3 s).length = n := ⟨_, rfl⟩
    have hbS := mvBothS_fn .silent g3 n (A3 s) hn (by have := A3_le s; omega)
    have hst := A4_3 s
    have hn1 : (A3 s ++ [((.silent, .silent) : Mv × Mv)]).length = n + 1 := by rw [List.length_append, hn]; rfl
    simp only [oE, oσ, List.cons_append, List.nil_append, List.append_nil, hst, hn1, hn]
    repeat' first | ((first | with_reducible refine AWP_reg fun KC J hJ hKC => ?_ | (refine hKC _ _ _ _ _ (callK [4, 5] hbS rfl rfl rfl (by decide) (by simp) rfl (by simp only [push_cast, pick, mOf, idx, renSlot, ren_mvCells]) (by simp only [push_cast, mOf, idx]; exact Lq) ?_))); simp (maxSteps := 10000000) only [push_cast, seval, ↓reduceIte, backOf, callSets, renSlot, pick, mOf, idx, ren_mvCells]) | ((with_reducible refine hJ _ _ ?_); clear hJ hKC KC J)
    (refine to_of ?_ Fq; (· exact Lq))
  obtain ⟨M, hM⟩ : ∃ M, max s.stack.length t.stack.length = M := ⟨_, rfl⟩
  have hMl : M ≤ 15 := by omega
  rw [hM] at hM1 hM2
  have hA5 := A5_le s
  have hA40 : A5 s 0 = A4 s := A5_zero s
  repeat' first | (with_reducible first | refine AWP_seq' ?_ | refine k_normal ?_ | refine AWP_block ?_) | ((with_reducible refine AWP_reg fun KC J hJ hKC => ?_); simp (maxSteps := 10000000) only [push_cast, seval, ↓reduceIte, oE, oσ, List.cons_append, List.nil_append, List.append_nil, hM1, hM2]) | ((with_reducible refine hJ _ _ ?_); clear hJ hKC KC J)
  refine AWP_loopD 6 (γ := {p : Nat × Nat // p.1 ≤ M}) (fun p => ⟨[.any, .any, .any, .fad [.v (.int .i64 s.v), .v (.int .i64 s.l), .sl false 3 (tRow s.code), .sl false 2 (pRow s.mem), .sl false 3 (sRow s.stack), .sl false 2 (pRow s.out), .v (.int .i64 t.v), .v (.int .i64 t.l), .sl false 3 (tRow t.code), .sl false 2 (pRow t.mem), .sl false 3 (sRow t.stack), .sl false 2 (pRow t.out)], .any, .fad [.v (.int .i64 bt)], .any, .ptr 4 0 0, .fn 256 [.ptr 4 0 0], .any, .any, .any, .any, .any, .any, .any, .any, .any, .any, .any, .any, .any, .any, .any, .any, .any, .any, .any, .any, .any, .any, .any, .any, .any, .any, .any, .any, .any, .any, .any, .any, .any, .any, .any, .any, .any, .any, .any, .any, .any, .any, .any, .any, .any, .any, .any, .any, .any, .any, .any, .v (.int .i64 M), .v (.int .i64 p.1.1), .any, .any, .any, .any, .any, .any, .any, .any, .any, .any, .any, .any, .any, .any, .any, .any, .any, .any, .any, .any, .any, .any, .any, .any, .any, .any, .any, .any, .any, .any, .any, .any, .any, .any, .any, .any, .any, .any, .any, .any, .any, .any, .any, .any, .any, .any, .any, .any, .any, .any, .any, .any, .any, .any], oσ (A5 s p.1.1) (some p.1.2)⟩) (fun p => M - p.1.1) ⟨(0, g3 + 1), by omega⟩ (fun p => rfl) (fun p => ?_) (fun p => rfl) ⟨?_, ?_⟩ ?_
  · refine clsd_all ?_
    simp only [oσ, List.map_cons, List.map_nil, List.map_append, renSlot, ren_mvCells]
    rfl
  · exact Lq
  · exact (show ∃ k, oσ (A4 s) (some (g3 + 1)) = oσ (A5 s 0) (some (g3 + 1)) ++ List.replicate k .free by rw [hA40]; exact Fq)
  rintro ⟨⟨i, gg⟩, hi⟩
  dsimp only at hi ⊢
  by_cases hlt : (i : Int) < (M : Int)
  · have hst : A5 s (i + 1) = A5 s i ++ [(.pull i, .pull i)] := A5_succ s i
    have hmk := pullMk_fn i
    obtain ⟨n, hn⟩ : ∃ n, (A5 s i).length = n := ⟨_, rfl⟩
    have hbS := mvBothS_fn (.pull i) gg n (A5 s i) hn (by have := hA5 i; omega)
    have hn1 : (A5 s i ++ [((.pull i, .pull i) : Mv × Mv)]).length = n + 1 := by rw [List.length_append, hn]; rfl
    repeat' first | (with_reducible first | refine AWP_seq' ?_ | refine k_normal ?_ | refine b_normal ?_ | refine AWP_skip ?_ | refine AWP_block ?_) | ((first | with_reducible refine AWP_reg fun KC J hJ hKC => ?_ | (refine hKC _ _ _ _ _ (callK [4, 5] hbS rfl rfl rfl (by decide) (by simp) rfl (by simp only [push_cast, pick, mOf, idx, renSlot, ren_mvCells]) (by simp only [push_cast, mOf, idx]; exact Lq) ?_)) | (refine hKC _ _ _ _ _ (callV0 (hmk) rfl rfl rfl ?_ ?_); (· exact Lq))); simp (maxSteps := 10000000) only [push_cast, seval, ↓reduceIte, hlt, oE, oσ, List.cons_append, List.nil_append, List.append_nil, hn, wrapN (i := i) (n := M) (by omega) (by omega), backOf, callSets, renSlot, pick, mOf, idx, ren_mvCells]) | ((with_reducible refine hJ _ _ ?_); clear hJ hKC KC J) | ((with_reducible refine AWP_condT ?_ ?_); · rfl)
    refine ⟨⟨(i + 1, gg + 1), by simp only; omega⟩, by simp only; omega, ?_, ?_⟩
    · exact Lq
    · simp only [oE, oσ, List.cons_append, List.nil_append, List.append_nil, hst, hn1]
      exact ⟨_, rfl⟩
  have hin : i = M := by omega
  subst hin
  have hpf := places_fn s ⟨l1, l2, l3, l4⟩
  simp only [staF] at hpf
  have hcl : (castL (placesF s)).length = (placesF s).length := castL_length _
  have hA6 := A6_le s t
  have hA60 : A6 s t 0 = A5 s i := by rw [A6_zero, hM]
  obtain ⟨q, hq⟩ : ∃ q, (placesF s).length = q := ⟨_, rfl⟩
  rw [hq] at hcl hpl
  repeat' first | (with_reducible first | refine AWP_seq' ?_ | refine k_normal ?_ | refine k_exit ?_ | refine b_exit ?_ | refine AWP_exit ?_ | refine AWP_block ?_) | ((first | with_reducible refine AWP_reg fun KC J hJ hKC => ?_ | (refine hKC _ _ _ _ _ (callV0 (hpf) rfl rfl rfl ?_ ?_); (· exact Lq))); simp (maxSteps := 10000000) only [push_cast, seval, ↓reduceIte, hlt, hcl, oE, oσ, List.cons_append, List.nil_append, List.append_nil]) | ((with_reducible refine hJ _ _ ?_); clear hJ hKC KC J) | ((with_reducible refine AWP_condF ?_ ?_); · rfl)
  clear hi
  refine AWP_loopD 6 (γ := {p : Nat × Nat // p.1 ≤ q}) (fun p => ⟨[.any, .any, .any, .fad [.v (.int .i64 s.v), .v (.int .i64 s.l), .sl false 3 (tRow s.code), .sl false 2 (pRow s.mem), .sl false 3 (sRow s.stack), .sl false 2 (pRow s.out), .v (.int .i64 t.v), .v (.int .i64 t.l), .sl false 3 (tRow t.code), .sl false 2 (pRow t.mem), .sl false 3 (sRow t.stack), .sl false 2 (pRow t.out)], .any, .fad [.v (.int .i64 bt)], .any, .ptr 4 0 0, .fn 256 [.ptr 4 0 0], .any, .any, .any, .any, .any, .any, .any, .any, .any, .any, .any, .any, .any, .any, .any, .any, .any, .any, .any, .any, .any, .any, .any, .any, .any, .any, .any, .any, .any, .any, .any, .any, .any, .any, .any, .any, .any, .any, .any, .any, .any, .any, .any, .any, .any, .any, .any, .any, .any, .any, .any, .any, .any, .any, .any, .any, .any, .any, .any, .any, .any, .any, .sl false 2 (pRow (castL (placesF s))), .v (.int .i64 q), .v (.int .i64 p.1.1), .any, .any, .any, .any, .any, .any, .any, .any, .any, .any, .any, .any, .any, .any, .any, .any, .any, .any, .any, .any, .any, .any, .any, .any, .any, .any, .any, .any, .any, .any, .any, .any, .any, .any, .any, .any, .any, .any, .any, .any, .any, .any], oσ (A6 s t p.1.1) (some p.1.2)⟩) (fun p => q - p.1.1) ⟨(0, gg), by omega⟩ (fun p => rfl) (fun p => ?_) (fun p => rfl) ⟨?_, ?_⟩ ?_
  · refine clsd_all ?_
    simp only [oσ, List.map_cons, List.map_nil, List.map_append, renSlot, ren_mvCells]
    rfl
  · exact Lq
  · show ∃ k, _ = oσ (A6 s t 0) (some gg) ++ List.replicate k .free
    rw [hA60]; exact Fq
  clear hlt
  rintro ⟨⟨j, g4⟩, hj⟩
  dsimp only at hj ⊢
  by_cases hlt : (j : Int) < (q : Int)
  · have hx : (placesF s)[j]? = some (placesF s)[j] := List.getElem?_eq_getElem (by omega)
    obtain ⟨p, hp⟩ : ∃ p, (placesF s)[j] = p := ⟨_, rfl⟩
    rw [hp] at hx
    have hge := getE_cast hx
    have hA6s := A6_hs (t := t) hx
    have hA6j := hA6 j
    repeat' first | (refine AWP_freezeR 24 6 rfl (by (simp (maxSteps := 10000000) only [push_cast, seval, ↓reduceIte]) <;> rfl) ?_; simp (maxSteps := 10000000) only [push_cast, seval, ↓reduceIte, frSt, frSlot, fr3, fr2, fr1, fr0, sameB, arrOf, hlt, hcl, hge, oE, oσ, List.cons_append, List.nil_append, List.append_nil]) | (with_reducible first | refine AWP_seq' ?_ | refine k_normal ?_ | refine AWP_skip ?_ | refine AWP_block ?_) | ((with_reducible refine And.intro ?_ ?_); · exact Sq) | ((with_reducible refine AWP_reg fun KC J hJ hKC => ?_); simp (maxSteps := 10000000) only [push_cast, seval, ↓reduceIte, hlt, hcl, hge, oE, oσ, List.cons_append, List.nil_append, List.append_nil]) | ((with_reducible refine hJ _ _ ?_); clear hJ hKC KC J) | ((with_reducible refine AWP_condT ?_ ?_); · rfl)
    refine AWP_loopD 7 (γ := {r : Nat × Nat // r.1 ≤ 2}) (fun r => ⟨[.any, .any, .any, .fad [.v (.int .i64 s.v), .v (.int .i64 s.l), .sl false 3 (tRow s.code), .sl false 2 (pRow s.mem), .sl false 3 (sRow s.stack), .sl false 2 (pRow s.out), .v (.int .i64 t.v), .v (.int .i64 t.l), .sl false 3 (tRow t.code), .sl false 2 (pRow t.mem), .sl false 3 (sRow t.stack), .sl false 2 (pRow t.out)], .any, .fad [.v (.int .i64 bt)], .any, .ptr 4 0 0, .fn 256 [.ptr 4 0 0], .any, .any, .any, .any, .fad [.v (.int .i64 (p.1 : Int)), .v (.int .i64 (p.2 : Int))], .any, .any, .any, .any, .any, .any, .any, .any, .any, .any, .any, .any, .any, .any, .any, .any, .any, .any, .any, .any, .any, .any, .any, .any, .any, .any, .any, .any, .any, .any, .any, .any, .any, .any, .any, .any, .any, .any, .any, .any, .any, .any, .any, .any, .any, .any, .any, .any, .any, .any, .any, .any, .any, .any, .any, .any, .any, .sl false 2 (pRow (castL (placesF s))), .v (.int .i64 q), .v (.int .i64 j), .any, .any, .any, .v (.int .i64 r.1.1), .any, .any, .any, .any, .any, .any, .any, .any, .any, .any, .any, .any, .any, .any, .any, .any, .any, .any, .any, .any, .any, .any, .any, .any, .any, .any, .any, .any, .any, .any, .any, .any, .any, .any, .any, .any, .any, .any], oσ (A6 s t j ++ hsM p r.1.1) (some r.1.2) ++ [.dead]⟩) (fun r => 2 - r.1.1) ⟨(0, g4), by omega⟩ (fun r => rfl) (fun r => ?_) (fun r => rfl) ⟨?_, ?_⟩ ?_
    · refine clsd_all ?_
      simp only [oσ, List.map_cons, List.map_nil, List.map_append, renSlot, ren_mvCells]
      rfl
    · exact Lq
    · exact (show ∃ k, oσ (A6 s t j) (some g4) ++ [.dead] = oσ (A6 s t j ++ hsM p 0) (some g4) ++ [.dead] ++ List.replicate k .free by rw [show hsM p 0 = [] from rfl, List.append_nil]; exact Fq)
    rintro ⟨⟨b, g5⟩, hb⟩
    dsimp only at hb ⊢
    by_cases hlb : (b : Int) < 2
    · have hat := atMk_fn p.1 p.2 (.half b)
      have hhs := hsM_le p hb
      have hst : A6 s t j ++ hsM p (b + 1) = (A6 s t j ++ hsM p b) ++ halfM p b := by rw [hsM_succ, List.append_assoc]
      obtain ⟨L, hL⟩ : ∃ L, A6 s t j ++ hsM p b = L := ⟨_, rfl⟩
      rw [hL] at hst ⊢
      obtain ⟨n, hn⟩ : ∃ n, L.length = n := ⟨_, rfl⟩
      have hnl : n ≤ 1000 := by rw [← hn, ← hL, List.length_append]; omega
      have hlC : (mvCells L).length = n * 2 := by rw [mvCells_length, hn]
      have htC := take_len hlC
      have hbm : Nat.beq g5 g5 = true := Nat.beq_refl g5
      have hn3 : (L ++ halfM p b).length = n + 3 := by rw [List.length_append, hn]; rfl
      have hn4 : (A6 s t j).length + (hsM p (b + 1)).length = n + 3 := by rw [← hn3, ← hst, List.length_append]
      have hmc : mvCells (L ++ halfM p b) = mvCells L ++ [mvD (.num p.1 p.2 (.half b)), mvD (.num p.1 p.2 (.half b)), mvD (.num p.1 p.2 (.half b)), mvD .still, mvD .still, mvD (.num p.1 p.2 (.half b))] := by rw [mvCells_app]; rfl
      repeat' first | (refine AWP_freezeR 27 7 rfl (by (simp (maxSteps := 10000000) only [push_cast, seval, ↓reduceIte]) <;> rfl) ?_; simp (maxSteps := 10000000) only [push_cast, seval, ↓reduceIte, frSt, frSlot, fr3, fr2, fr1, fr0, sameB, arrOf, hlb, oE, oσ, List.cons_append, List.nil_append, List.append_nil, hn, hlC, htC, hbm, wrapN (i := b) (n := 2) (by omega) (by omega), backOf, callSets, renSlot, pick, mOf, idx, ren_mvCells]) | (with_reducible first | refine AWP_seq' ?_ | refine k_normal ?_ | refine b_normal ?_ | refine AWP_skip ?_ | refine AWP_block ?_) | ((with_reducible refine And.intro ?_ ?_); · exact Sq) | ((first | with_reducible refine AWP_reg fun KC J hJ hKC => ?_ | (refine hKC _ _ _ _ _ (callV0 (hat) rfl rfl rfl ?_ ?_); (· exact Lq))); simp (maxSteps := 10000000) only [push_cast, seval, ↓reduceIte, hlb, oE, oσ, List.cons_append, List.nil_append, List.append_nil, hn, hlC, htC, hbm, wrapN (i := b) (n := 2) (by omega) (by omega), backOf, callSets, renSlot, pick, mOf, idx, ren_mvCells]) | ((with_reducible refine hJ _ _ ?_); clear hJ hKC KC J) | ((with_reducible refine AWP_condT ?_ ?_); · rfl)
      refine ⟨⟨(b + 1, g5 + 1), by simp only; omega⟩, by simp only; omega, ?_, ?_⟩
      · exact Lq
      · simp only [oE, oσ, List.cons_append, List.nil_append, List.append_nil, hst, hn3, hn4, hmc]
        exact ⟨_, rfl⟩
    have hb2 : b = 2 := by omega
    subst hb2
    rw [hA6s]
    repeat' first | (with_reducible first | refine AWP_seq' ?_ | refine k_normal ?_ | refine k_exit ?_ | refine b_normal ?_ | refine b_exit ?_ | refine AWP_exit ?_) | ((with_reducible refine AWP_reg fun KC J hJ hKC => ?_); simp (maxSteps := 10000000) only [push_cast, seval, ↓reduceIte, hlb, wrapN (i := j) (n := q) (by omega) (by omega), oE, oσ, List.cons_append, List.nil_append, List.append_nil]) | ((with_reducible refine hJ _ _ ?_); clear hJ hKC KC J) | ((with_reducible refine AWP_condF ?_ ?_); · rfl)
    refine ⟨⟨(j + 1, g5), by simp only; omega⟩, by simp only; omega, ?_, ?_⟩
    · exact Lq
    · simp only [oE, oσ, List.cons_append, List.nil_append, List.append_nil]
      exact ⟨_, rfl⟩
  have hjq : j = q := by omega
  subst hjq
  have hA7 := A7_le s t bt
  have hA70 : A7 s t bt 0 = A6 s t j := by rw [A7_zero, hq]
  repeat' first | (with_reducible first | refine AWP_seq' ?_ | refine k_normal ?_ | refine k_exit ?_ | refine b_exit ?_ | refine AWP_exit ?_ | refine AWP_block ?_) | ((first | with_reducible refine AWP_reg fun KC J hJ hKC => ?_ | (refine hKC _ _ _ _ _ (callV0 (hpf) rfl rfl rfl ?_ ?_); (· exact Lq))); simp (maxSteps := 10000000) only [push_cast, seval, ↓reduceIte, hlt, hcl, oE, oσ, List.cons_append, List.nil_append, List.append_nil]) | ((with_reducible refine hJ _ _ ?_); clear hJ hKC KC J) | ((with_reducible refine AWP_condF ?_ ?_); · rfl)
  clear hj
  refine AWP_loopD 6 (γ := {p : Nat × Nat // p.1 ≤ j}) (fun p => ⟨[.any, .any, .any, .fad [.v (.int .i64 s.v), .v (.int .i64 s.l), .sl false 3 (tRow s.code), .sl false 2 (pRow s.mem), .sl false 3 (sRow s.stack), .sl false 2 (pRow s.out), .v (.int .i64 t.v), .v (.int .i64 t.l), .sl false 3 (tRow t.code), .sl false 2 (pRow t.mem), .sl false 3 (sRow t.stack), .sl false 2 (pRow t.out)], .any, .fad [.v (.int .i64 bt)], .any, .ptr 4 0 0, .fn 256 [.ptr 4 0 0], .any, .any, .any, .any, .any, .any, .any, .any, .any, .any, .any, .any, .any, .any, .any, .any, .any, .any, .any, .any, .any, .any, .any, .any, .any, .any, .any, .any, .any, .any, .any, .any, .any, .any, .any, .any, .any, .any, .any, .any, .any, .any, .any, .any, .any, .any, .any, .any, .any, .any, .any, .any, .any, .any, .any, .any, .any, .any, .any, .any, .any, .any, .any, .any, .any, .any, .any, .any, .any, .any, .any, .any, .any, .any, .any, .any, .any, .any, .any, .any, .any, .any, .any, .any, .any, .any, .any, .any, .any, .any, .any, .sl false 2 (pRow (castL (placesF s))), .v (.int .i64 j), .v (.int .i64 p.1.1), .any, .any, .any, .any, .any, .any, .any, .any, .any, .any, .any, .any, .any], oσ (A7 s t bt p.1.1) (some p.1.2)⟩) (fun p => j - p.1.1) ⟨(0, g4), by omega⟩ (fun p => rfl) (fun p => ?_) (fun p => rfl) ⟨?_, ?_⟩ ?_
  · refine clsd_all ?_
    simp only [oσ, List.map_cons, List.map_nil, List.map_append, renSlot, ren_mvCells]
    rfl
  · exact Lq
  · show ∃ k, _ = oσ (A7 s t bt 0) (some g4) ++ List.replicate k .free
    rw [hA70]; exact Fq
  clear hlt
  rintro ⟨⟨k, g6⟩, hk⟩
  dsimp only at hk ⊢
  have hA7k := hA7 k
  obtain ⟨n, hn⟩ : ∃ n, (A7 s t bt k).length = n := ⟨_, rfl⟩
  by_cases hlt : (k : Int) < (j : Int)
  · have hx : (placesF s)[k]? = some (placesF s)[k] := List.getElem?_eq_getElem (by omega)
    obtain ⟨p, hp⟩ : ∃ p, (placesF s)[k] = p := ⟨_, rfl⟩
    rw [hp] at hx
    have hge := getE_cast hx
    have hat := atMk_fn p.1 p.2 (.bot bt)
    have hst : A7 s t bt (k + 1) = A7 s t bt k ++ [(.num p.1 p.2 (.bot bt), .num p.1 p.2 (.bot bt))] := A7_succ hx
    have hbS := mvBothS_fn (.num p.1 p.2 (.bot bt)) g6 n (A7 s t bt k) hn (by omega)
    have hn1 : (A7 s t bt k ++ [((.num p.1 p.2 (.bot bt), .num p.1 p.2 (.bot bt)) : Mv × Mv)]).length = n + 1 := by rw [List.length_append, hn]; rfl
    repeat' first | (refine AWP_freezeR 34 6 rfl (by (simp (maxSteps := 10000000) only [push_cast, seval, ↓reduceIte]) <;> rfl) ?_; simp (maxSteps := 10000000) only [push_cast, seval, ↓reduceIte, frSt, frSlot, fr3, fr2, fr1, fr0, sameB, arrOf, hlt, hcl, hge, oE, oσ, List.cons_append, List.nil_append, List.append_nil, hn, wrapN (i := k) (n := j) (by omega) (by omega), backOf, callSets, renSlot, pick, mOf, idx, ren_mvCells]) | (with_reducible first | refine AWP_seq' ?_ | refine k_normal ?_ | refine b_normal ?_ | refine AWP_skip ?_ | refine AWP_block ?_) | ((with_reducible refine And.intro ?_ ?_); · exact Sq) | ((first | with_reducible refine AWP_reg fun KC J hJ hKC => ?_ | (refine hKC _ _ _ _ _ (callK [4, 5] hbS rfl rfl rfl (by decide) (by simp) rfl (by simp only [push_cast, pick, mOf, idx, renSlot, ren_mvCells]) (by simp only [push_cast, mOf, idx]; exact Lq) ?_)) | (refine hKC _ _ _ _ _ (callV0 (hat) rfl rfl rfl ?_ ?_); (· exact Lq))); simp (maxSteps := 10000000) only [push_cast, seval, ↓reduceIte, hlt, hcl, hge, oE, oσ, List.cons_append, List.nil_append, List.append_nil, hn, wrapN (i := k) (n := j) (by omega) (by omega), backOf, callSets, renSlot, pick, mOf, idx, ren_mvCells]) | ((with_reducible refine hJ _ _ ?_); clear hJ hKC KC J) | ((with_reducible refine AWP_condT ?_ ?_); · rfl)
    refine ⟨⟨(k + 1, g6 + 1), by simp only; omega⟩, by simp only; omega, ?_, ?_⟩
    · exact Lq
    · simp only [oE, oσ, List.cons_append, List.nil_append, List.append_nil, hst, hn1]
      exact ⟨_, rfl⟩
  have hkj : k = j := by omega
  subst hkj
  have hall := A7_all s t bt
  rw [hq] at hall
  rw [hall] at hn ⊢
  obtain ⟨L, hL⟩ : ∃ L, movesL bt s t = L := ⟨_, rfl⟩
  rw [hL] at hn ⊢
  have hlC : (mvCells L).length = n * 2 := by rw [mvCells_length, hn]
  have hcp : chunk 2 n (mvCells L) = mvRow L := by rw [← hn]; exact chunk_mv L
  have hbm : Nat.beq g6 g6 = true := Nat.beq_refl g6
  repeat' first | (refine AWP_freezeR 36 5 rfl (by (simp (maxSteps := 10000000) only [push_cast, seval, ↓reduceIte]) <;> rfl) ?_; simp (maxSteps := 10000000) only [push_cast, seval, ↓reduceIte, frSt, frSlot, fr3, fr2, fr1, fr0, sameB, arrOf, hlt, oE, oσ, List.cons_append, List.nil_append, List.append_nil, hn, hlC, hcp, hbm]) | (refine AWP_freezeR 36 4 rfl (by (simp (maxSteps := 10000000) only [push_cast, seval, ↓reduceIte]) <;> rfl) ?_; simp (maxSteps := 10000000) only [push_cast, seval, ↓reduceIte, frSt, frSlot, fr3, fr2, fr1, fr0, sameB, arrOf, hlt, oE, oσ, List.cons_append, List.nil_append, List.append_nil, hn, hlC, hcp, hbm]) | (with_reducible first | refine AWP_seq' ?_ | refine k_normal ?_ | refine k_exit ?_ | refine b_exit ?_ | refine AWP_ret ?_ | refine AWP_exit ?_) | ((with_reducible refine AWP_reg fun KC J hJ hKC => ?_); simp (maxSteps := 10000000) only [push_cast, seval, ↓reduceIte, hlt, oE, oσ, List.cons_append, List.nil_append, List.append_nil, hn, hlC, hcp, hbm]) | ((with_reducible refine hJ _ _ ?_); clear hJ hKC KC J) | ((with_reducible refine AWP_condF ?_ ?_); · rfl)
  refine ret_plain ?_
  simp (maxSteps := 10000000) only [push_cast, seval, ↓reduceIte, show Try.f181.results = #[(.tmp 4)] from rfl]
  exact Lq
end Go.Proofs.Ytabliglgeiajlaa.AM

/- How large a state is: the walk. -/
namespace Go.Proofs.Ytabliglgeiajlaa.AM
open Go Go.RowKit Go.Proofs
set_option maxRecDepth 100000
set_option maxHeartbeats 4000000

theorem nums_num {n : Nat} {s : Sta} (h : StaN n s) : ∀ p ∈ numsL s, -20 ≤ p.1 ∧ p.1 ≤ 20 ∧ (0 ≤ p.2 → oddL n p.2 = false) := by
  intro p hp
  simp only [numsL, List.mem_cons, List.mem_append, List.mem_map] at hp
  rcases hp with rfl | ⟨x, hx, rfl⟩ | (hp | hp) | ⟨x, hx, rfl⟩
  · exact ⟨h.v0, h.v1, fun _ => h.l⟩
  · obtain ⟨a, b, c⟩ := h.code x hx
    refine ⟨a, b, fun h0 => ?_⟩
    unfold instQ at h0 ⊢
    by_cases h1 : x.1 = 1
    · simp only [if_pos h1]; exact c h1
    · simp only [if_neg h1] at h0; omega
  · exact ⟨(h.mem p hp).1, (h.mem p hp).2.1, fun _ => (h.mem p hp).2.2⟩
  · exact ⟨(h.out p hp).1, (h.out p hp).2.1, fun _ => (h.out p hp).2.2⟩
  · exact ⟨(h.stack x hx).1, (h.stack x hx).2.1, fun _ => (h.stack x hx).2.2⟩
theorem numZ_B {us : List Nat} {k : Nat} {z : Int × Int × Int} (h : Bz k z) {p : Int × Int} (h0 : -20 ≤ p.1) (h1 : p.1 ≤ 20) : Bz (k + 1) (numZ us z p) := by
  have := absI_le h0 h1
  have := hgt_le us p.2.toNat
  simp only [Bz, numZ] at h ⊢
  split <;> omega
theorem foldZ_B {us : List Nat} {n : Nat} {s : Sta} (h : StaN n s) {C : Int} (h0 : 0 ≤ C) (h1 : C ≤ 100) (i : Nat) : Bz (1 + ((numsL s).take i).length) (((numsL s).take i).foldl (numZ us) (C, 0, 0)) :=
  foldl_B (fun x hx k z hh => numZ_B hh (nums_num h x (List.mem_of_mem_take hx)).1 (nums_num h x (List.mem_of_mem_take hx)).2.1) (by simp only [Bz]; omega)
theorem mvSize_fn (f g : Bool) (ns : List ByteArray) (us : List Nat) (hs0 : Szs ns) (hu : U32 us) (hc : checkF ns us = 0) (s : Sta) (hs : StaN us.length s) :
    Fn Try.prog 183 [.agg [.sl f 1 (strRow ns), .sl g 1 (u32Row us)], .agg (staF false false false false s)] [] (.agg (encZ (sizeZ us (0, 0, 0) s))) [] := by
  have hnf := numbers_fn s
  have l1 := hs.codeL
  have l2 := hs.memL
  have l3 := hs.stackL
  have l4 := hs.outL
  have hit := numbers_it s ⟨by omega, by omega, by omega, by omega⟩
  rw [sizeZ_num hs]
  obtain ⟨n, hn⟩ : ∃ n, (s.code.filter deedB).length = n := ⟨_, rfl⟩
  have hnl : n ≤ 12 := by rw [← hn]; exact Nat.le_trans (List.length_filter_le _ _) l1
  have w1 : IntKind.i64.wrap ((s.code.length : Int) + (n : Int)) = (s.code.length : Int) + (n : Int) := wrapI (by omega) (by omega)
  have w2 : IntKind.i64.wrap ((s.code.length : Int) + (n : Int) + (s.mem.length : Int)) = (s.code.length : Int) + (n : Int) + (s.mem.length : Int) := wrapI (by omega) (by omega)
  have w3 : IntKind.i64.wrap ((s.code.length : Int) + (n : Int) + (s.mem.length : Int) + (s.stack.length : Int)) = (s.code.length : Int) + (n : Int) + (s.mem.length : Int) + (s.stack.length : Int) := wrapI (by omega) (by omega)
  obtain ⟨C, hC⟩ : ∃ C : Int, (0 : Int) + ((s.code.length + s.mem.length + s.stack.length + s.out.length + (s.code.filter deedB).length : Nat) : Int) = C := ⟨_, rfl⟩
  rw [hC]
  rw [hn] at hC
  have w4 : IntKind.i64.wrap ((s.code.length : Int) + (n : Int) + (s.mem.length : Int) + (s.stack.length : Int) + (s.out.length : Int)) = C := by rw [wrapI (by omega) (by omega)]; omega
  have hC0 : 0 ≤ C := by omega
  have hC1 : C ≤ 100 := by omega
  simp only [staF] at hnf hit ⊢
  refine Fn.of (fn := Try.f183) (by kernel_rfl) rfl (by kernel_rfl) ⟨[.agg [.sl f 1 (strRow ns), .sl g 1 (u32Row us)], .agg [.v (.int .i64 s.v), .v (.int .i64 s.l), .sl false 3 (tRow s.code), .sl false 2 (pRow s.mem), .sl false 3 (sRow s.stack), .sl false 2 (pRow s.out)], .v undef, .v undef, .v undef, .v undef, .v undef, .v undef, .v undef, .v undef, .v undef, .v undef, .v undef, .v undef, .v undef, .v undef, .v undef, .v undef, .v undef, .v undef, .v undef, .v undef, .v undef, .v undef, .v undef, .v undef, .v undef, .v undef, .v undef, .v undef, .v undef, .v undef, .v undef, .v undef, .v undef, .v undef, .v undef, .v undef, .v undef, .v undef, .v undef, .v undef, .v undef, .v undef, .v undef, .v undef, .v undef, .v undef, .v undef, .v undef, .v undef, .v undef, .v undef, .v undef, .v undef, .v undef, .v undef, .v undef, .v undef, .v undef], []⟩ rfl ?_
  by_cases h0 : 0 < s.code.length
  · have hcl := clT_fn false s.code h0 (by omega)
    have hde := deleteFuncT_fn s.code s.code.length rfl 271 [] deedB (by omega) rfl (fun x _ => noop_fn x)
    repeat' first | (with_reducible first | refine AWP_seq' ?_ | refine k_normal ?_ | refine k_ret ?_ | refine k_exit ?_ | refine b_normal ?_ | refine b_ret ?_ | refine b_exit ?_ | refine b_pass rfl ?_ | refine AWP_ret ?_ | refine AWP_skip ?_ | refine AWP_exit ?_ | refine AWP_block ?_) | ((with_reducible refine And.intro ?_ ?_); · exact Sq) | ((first | with_reducible refine AWP_reg fun KC J hJ hKC => ?_ | with_reducible refine AWP_regD rfl fun KC J hJ hKC => ?_ | (refine hKC _ _ _ _ _ (callN [] hcl rfl rfl rfl (by simp) (fun _ h => by cases h) rfl rfl rfl Lq ?_)) | (refine hKC _ _ _ _ _ (callK [3] hde rfl rfl rfl (by decide) (by simp) rfl (by simp only [push_cast, pick, mOf, idx, renSlot, ren_tCells]) (by simp only [push_cast, mOf, idx]; exact ⟨leD_refl _, leD_refl _, trivial⟩) ?_)) | (refine hKC _ _ _ _ _ (callV0 (hnf) rfl rfl rfl ?_ ?_); (· exact Lq))); simp (maxSteps := 10000000) only [push_cast, seval, ↓reduceIte, hn, w1, w2, w3, w4, backOf, callSets, renSlot, pick, mOf, idx, ren_tCells]) | ((first | with_reducible refine hJ _ _ ?_ | (with_reducible refine hJ _ _ ?_ ?_; · kernel_rfl)); clear hJ hKC KC J) | ((with_reducible refine AWP_condT ?_ ?_); · rfl) | ((with_reducible refine AWP_condF ?_ ?_); · rfl) | ((with_reducible refine ite_intro (fun hs => ?_) (fun hs => ?_)) <;> (try simp only [Bool.not_eq_true, Bool.not_eq_false, Bool.not_eq_true', Bool.not_eq_false', Decidable.not_not, decide_eq_true_eq, decide_eq_false_iff_not] at hs) <;> (try simp (maxSteps := 10000000) only [push_cast, seval, ↓reduceIte, hs, hn, w1, w2, w3, w4, backOf, callSets, renSlot, pick, mOf, idx, ren_tCells])) | (refine AWP_cond rfl (fun h => ?_) (fun h => ?_) <;> try simp only [decide_eq_true_eq, decide_eq_false_iff_not, Bool.not_eq_true', Bool.not_eq_false', beq_iff_eq, bne_iff_ne, ne_eq, Bool.not_eq_true, Bool.or_eq_true, Bool.and_eq_true, Bool.or_eq_false_iff, Bool.and_eq_false_imp, beq_eq_false_iff_ne, bne_eq_false_iff_eq] at h)
    refine AWP_le ([.any, .any, .ptr 0 0 0, .ptr 1 0 0, .ptr 2 0 0, .any, .ptr 5 0 0, .any, .any, .any, .any, .any, .any, .any, .any, .any, .any, .any, .any, .any, .any, .any, .any, .any, .any, .any, .any, .any, .any, .any, .any, .any, .any, .any, .any, .fn 292 [.fad [.v (.int .i64 s.v), .v (.int .i64 s.l), .sl false 3 (tRow s.code), .sl false 2 (pRow s.mem), .sl false 3 (sRow s.stack), .sl false 2 (pRow s.out)]], .any, .any, .any, .any, .any, .any, .any, .any, .any, .any, .any, .any, .any, .any, .any, .any, .any, .any, .any, .any, .any, .any, .any, .any]) (by exact Lq) ?_
    refine AWP_range (f := 292) rfl rfl hit (fun i hi => rfl) 7 rfl rfl
      (fun i => [.ent ⟨0, none, 25, [.sl f 1 (strRow ns), .sl g 1 (u32Row us)], .cells⟩, .ent ⟨0, none, 84, [.v (.int .i64 s.v), .v (.int .i64 s.l), .sl false 3 (tRow s.code), .sl false 2 (pRow s.mem), .sl false 3 (sRow s.stack), .sl false 2 (pRow s.out)], .cells⟩, .ent ⟨0, none, 130, [.v (.int .i64 0), .v (.int .i64 0), .v (.int .i64 0)], .cells⟩, .dead, .free, .ent ⟨0, none, 130, encZ (((numsL s).take i).foldl (numZ us) (C, 0, 0)), .cells⟩, .free])
      (by simp only [List.take_zero, List.foldl_nil, encZ]) (fun i => rfl) (fun i => rfl) (fun i => rfl) (fun _ => true) .ret .ret rfl
      (fun i => [.any, .any, .ptr 0 0 0, .ptr 1 0 0, .ptr 2 0 0, .any, .ptr 5 0 0, .v (.int .i64 ((numsL s).getD i (0, 0)).1), .v (.int .i64 ((numsL s).getD i (0, 0)).2), .any, .any, .any, .any, .any, .any, .any, .any, .any, .any, .any, .any, .any, .any, .any, .any, .any, .any, .any, .any, .any, .any, .any, .any, .any, .any, .fn 292 [.fad [.v (.int .i64 s.v), .v (.int .i64 s.l), .sl false 3 (tRow s.code), .sl false 2 (pRow s.mem), .sl false 3 (sRow s.stack), .sl false 2 (pRow s.out)]], .v (.int .i64 ((numsL s).getD i (0, 0)).1), .v (.int .i64 ((numsL s).getD i (0, 0)).2), .any, .any, .any, .any, .any, .any, .any, .any, .any, .any, .any, .any, .any, .any, .any, .any, .any, .any, .any, .any, .any, .any])
      (fun l' i r hi => ?_) (fun i => rfl) (fun l' i hi _ => ?_) (fun _ => ?_) (fun k hk h _ => by cases h)
    · skip
      repeat' first | (with_reducible first | refine AWP_seq' ?_ | refine k_normal ?_ | refine k_ret ?_ | refine k_exit ?_ | refine b_normal ?_ | refine b_ret ?_ | refine b_exit ?_ | refine b_pass rfl ?_ | refine AWP_ret ?_ | refine AWP_skip ?_ | refine AWP_exit ?_ | refine AWP_block ?_) | ((with_reducible refine And.intro ?_ ?_); · exact Sq) | ((first | with_reducible refine AWP_reg fun KC J hJ hKC => ?_ | with_reducible refine AWP_regD rfl fun KC J hJ hKC => ?_); simp (maxSteps := 10000000) only [push_cast, seval, ↓reduceIte]) | ((first | with_reducible refine hJ _ _ ?_ | (with_reducible refine hJ _ _ ?_ ?_; · kernel_rfl)); clear hJ hKC KC J) | ((with_reducible refine AWP_condT ?_ ?_); · rfl) | ((with_reducible refine AWP_condF ?_ ?_); · rfl) | ((with_reducible refine ite_intro (fun hs => ?_) (fun hs => ?_)) <;> (try simp only [Bool.not_eq_true, Bool.not_eq_false, Bool.not_eq_true', Bool.not_eq_false', Decidable.not_not, decide_eq_true_eq, decide_eq_false_iff_not] at hs) <;> (try simp (maxSteps := 10000000) only [push_cast, seval, ↓reduceIte, hs])) | (refine AWP_cond rfl (fun h => ?_) (fun h => ?_) <;> try simp only [decide_eq_true_eq, decide_eq_false_iff_not, Bool.not_eq_true', Bool.not_eq_false', beq_iff_eq, bne_iff_ne, ne_eq, Bool.not_eq_true, Bool.or_eq_true, Bool.and_eq_true, Bool.or_eq_false_iff, Bool.and_eq_false_imp, beq_eq_false_iff_ne, bne_eq_false_iff_eq] at h)
      exact rfl
    · dsimp only
      have hx : (numsL s)[i]? = some (numsL s)[i] := List.getElem?_eq_getElem hi
      obtain ⟨p, hp⟩ : ∃ p, (numsL s)[i] = p := ⟨_, rfl⟩
      rw [hp] at hx
      have hg : (numsL s).getD i (0, 0) = p := by rw [List.getD_eq_getElem?_getD, hx]; rfl
      have hst : ((numsL s).take (i + 1)).foldl (numZ us) (C, 0, 0) = numZ us (((numsL s).take i).foldl (numZ us) (C, 0, 0)) p := foldl_succ _ _ hx
      have hpn := nums_num hs p (List.mem_of_getElem? hx)
      have hZB := foldZ_B (us := us) hs hC0 hC1 i
      rw [hst]
      obtain ⟨z, hz⟩ : ∃ z, ((numsL s).take i).foldl (numZ us) (C, 0, 0) = z := ⟨_, rfl⟩
      rw [hz] at hZB ⊢
      rw [hg]
      obtain ⟨v, l⟩ := p
      simp only [encZ, numZ] at hpn ⊢
      have wn : IntKind.i64.wrap (0 - v) = 0 - v := wrapI (by omega) (by omega)
      have hm : (if 0 - v > v then 0 - v else v) = absI v := by unfold absI; split <;> split <;> omega
      have hai := absI_le hpn.1 hpn.2.1
      simp only [Bz] at hZB
      have hzl : ((numsL s).take i).length ≤ 39 := Nat.le_trans (List.length_take_le' _ _) (by simp [numsL]; omega)
      have ws : IntKind.i64.wrap (z.2.1 + absI v) = z.2.1 + absI v := wrapI (by omega) (by omega)
      by_cases hl0 : 0 ≤ l
      · have hod := hpn.2.2 hl0
        obtain ⟨a, rfl, ha⟩ := oddL_no hod
        have hh := latHeight_fn f g ns us hs0 hu hc a ha
        have hhl := hgt_le us a
        have wh : IntKind.i64.wrap (z.2.2 + ((hgt us a : Nat) : Int)) = z.2.2 + ((hgt us a : Nat) : Int) := wrapI (by omega) (by omega)
        rw [if_pos hl0, Int.toNat_natCast]
        repeat' first | (with_reducible first | refine AWP_seq' ?_ | refine k_normal ?_ | refine k_ret ?_ | refine k_exit ?_ | refine b_normal ?_ | refine b_ret ?_ | refine b_exit ?_ | refine b_pass rfl ?_ | refine AWP_ret ?_ | refine AWP_skip ?_ | refine AWP_exit ?_ | refine AWP_block ?_) | ((with_reducible refine And.intro ?_ ?_); · exact Sq) | ((first | with_reducible refine AWP_reg fun KC J hJ hKC => ?_ | with_reducible refine AWP_regD rfl fun KC J hJ hKC => ?_ | (refine hKC _ _ _ _ _ (callV0 (hh) rfl rfl rfl ?_ ?_); (· exact Lq))); simp (maxSteps := 10000000) only [push_cast, seval, ↓reduceIte, wn, hm, ws, wh, hl0]) | ((first | with_reducible refine hJ _ _ ?_ | (with_reducible refine hJ _ _ ?_ ?_; · kernel_rfl)); clear hJ hKC KC J) | ((with_reducible refine AWP_condT ?_ ?_); · rfl) | ((with_reducible refine AWP_condF ?_ ?_); · rfl) | ((with_reducible refine ite_intro (fun hs => ?_) (fun hs => ?_)) <;> (try simp only [Bool.not_eq_true, Bool.not_eq_false, Bool.not_eq_true', Bool.not_eq_false', Decidable.not_not, decide_eq_true_eq, decide_eq_false_iff_not] at hs) <;> (try simp (maxSteps := 10000000) only [push_cast, seval, ↓reduceIte, hs, wn, hm, ws, wh, hl0])) | (refine AWP_cond rfl (fun h => ?_) (fun h => ?_) <;> try simp only [decide_eq_true_eq, decide_eq_false_iff_not, Bool.not_eq_true', Bool.not_eq_false', beq_iff_eq, bne_iff_ne, ne_eq, Bool.not_eq_true, Bool.or_eq_true, Bool.and_eq_true, Bool.or_eq_false_iff, Bool.and_eq_false_imp, beq_eq_false_iff_ne, bne_eq_false_iff_eq] at h)
        exact ⟨(by first | exact weakS_free (k := 0) rfl rfl rfl | exact weakS_free (k := 1) rfl rfl rfl | exact weakS_free (k := 2) rfl rfl rfl | exact weakS_free (k := 3) rfl rfl rfl | exact weakS_free (k := 4) rfl rfl rfl | exact weakS_free (k := 5) rfl rfl rfl | exact weakS_free (k := 6) rfl rfl rfl | exact weakS_free (k := 7) rfl rfl rfl | exact weakS_free (k := 8) rfl rfl rfl), rfl⟩
      · rw [if_neg hl0]
        repeat' first | (with_reducible first | refine AWP_seq' ?_ | refine k_normal ?_ | refine k_ret ?_ | refine k_exit ?_ | refine b_normal ?_ | refine b_ret ?_ | refine b_exit ?_ | refine b_pass rfl ?_ | refine AWP_ret ?_ | refine AWP_skip ?_ | refine AWP_exit ?_ | refine AWP_block ?_) | ((with_reducible refine And.intro ?_ ?_); · exact Sq) | ((first | with_reducible refine AWP_reg fun KC J hJ hKC => ?_ | with_reducible refine AWP_regD rfl fun KC J hJ hKC => ?_); simp (maxSteps := 10000000) only [push_cast, seval, ↓reduceIte, wn, hm, ws, hl0]) | ((first | with_reducible refine hJ _ _ ?_ | (with_reducible refine hJ _ _ ?_ ?_; · kernel_rfl)); clear hJ hKC KC J) | ((with_reducible refine AWP_condT ?_ ?_); · rfl) | ((with_reducible refine AWP_condF ?_ ?_); · rfl) | ((with_reducible refine ite_intro (fun hs => ?_) (fun hs => ?_)) <;> (try simp only [Bool.not_eq_true, Bool.not_eq_false, Bool.not_eq_true', Bool.not_eq_false', Decidable.not_not, decide_eq_true_eq, decide_eq_false_iff_not] at hs) <;> (try simp (maxSteps := 10000000) only [push_cast, seval, ↓reduceIte, hs, wn, hm, ws, hl0])) | (refine AWP_cond rfl (fun h => ?_) (fun h => ?_) <;> try simp only [decide_eq_true_eq, decide_eq_false_iff_not, Bool.not_eq_true', Bool.not_eq_false', beq_iff_eq, bne_iff_ne, ne_eq, Bool.not_eq_true, Bool.or_eq_true, Bool.and_eq_true, Bool.or_eq_false_iff, Bool.and_eq_false_imp, beq_eq_false_iff_ne, bne_eq_false_iff_eq] at h)
        exact ⟨(by first | exact weakS_free (k := 0) rfl rfl rfl | exact weakS_free (k := 1) rfl rfl rfl | exact weakS_free (k := 2) rfl rfl rfl | exact weakS_free (k := 3) rfl rfl rfl | exact weakS_free (k := 4) rfl rfl rfl | exact weakS_free (k := 5) rfl rfl rfl | exact weakS_free (k := 6) rfl rfl rfl | exact weakS_free (k := 7) rfl rfl rfl | exact weakS_free (k := 8) rfl rfl rfl), rfl⟩
    · dsimp only
      rw [List.take_length]
      simp only [encZ]
      repeat' first | (with_reducible first | refine AWP_seq' ?_ | refine k_normal ?_ | refine k_ret ?_ | refine k_exit ?_ | refine b_normal ?_ | refine b_ret ?_ | refine b_exit ?_ | refine b_pass rfl ?_ | refine AWP_ret ?_ | refine AWP_skip ?_ | refine AWP_exit ?_ | refine AWP_block ?_) | ((with_reducible refine And.intro ?_ ?_); · exact Sq) | ((first | with_reducible refine AWP_reg fun KC J hJ hKC => ?_ | with_reducible refine AWP_regD rfl fun KC J hJ hKC => ?_); simp (maxSteps := 10000000) only [push_cast, seval, ↓reduceIte]) | ((first | with_reducible refine hJ _ _ ?_ | (with_reducible refine hJ _ _ ?_ ?_; · kernel_rfl)); clear hJ hKC KC J) | ((with_reducible refine AWP_condT ?_ ?_); · rfl) | ((with_reducible refine AWP_condF ?_ ?_); · rfl) | ((with_reducible refine ite_intro (fun hs => ?_) (fun hs => ?_)) <;> (try simp only [Bool.not_eq_true, Bool.not_eq_false, Bool.not_eq_true', Bool.not_eq_false', Decidable.not_not, decide_eq_true_eq, decide_eq_false_iff_not] at hs) <;> (try simp (maxSteps := 10000000) only [push_cast, seval, ↓reduceIte, hs])) | (refine AWP_cond rfl (fun h => ?_) (fun h => ?_) <;> try simp only [decide_eq_true_eq, decide_eq_false_iff_not, Bool.not_eq_true', Bool.not_eq_false', beq_iff_eq, bne_iff_ne, ne_eq, Bool.not_eq_true, Bool.or_eq_true, Bool.and_eq_true, Bool.or_eq_false_iff, Bool.and_eq_false_imp, beq_eq_false_iff_ne, bne_eq_false_iff_eq] at h)
      refine ret_plain ?_
      simp (maxSteps := 10000000) only [push_cast, seval, ↓reduceIte, show Try.f183.results = #[(.cell 4 130)] from rfl]
      exact Lq
  · have he : s.code = [] := List.length_eq_zero_iff.1 (by omega)
    have hcl := clT_nil false
    have hde := deleteFuncT_nil 271 [] rfl
    rw [he] at hn
    rw [he] at w1 w2 w3 w4
    have n0 : n = 0 := by rw [← hn]; rfl
    subst n0
    simp only [List.length_nil] at w1 w2 w3 w4
    simp only [he, show tRow [] = [] from rfl] at hnf hit ⊢
    have w0 : IntKind.i64.wrap 0 = 0 := rfl
    have v2 : IntKind.i64.wrap (0 + (s.mem.length : Int)) = (s.mem.length : Int) := by rw [wrapI (by omega) (by omega)]; omega
    have v3 : IntKind.i64.wrap ((s.mem.length : Int) + (s.stack.length : Int)) = (s.mem.length : Int) + (s.stack.length : Int) := wrapI (by omega) (by omega)
    have v4 : IntKind.i64.wrap ((s.mem.length : Int) + (s.stack.length : Int) + (s.out.length : Int)) = C := by
      rw [he] at hC
      simp only [List.length_nil] at hC
      rw [wrapI (by omega) (by omega)]; omega
    repeat' first | (with_reducible first | refine AWP_seq' ?_ | refine k_normal ?_ | refine k_ret ?_ | refine k_exit ?_ | refine b_normal ?_ | refine b_ret ?_ | refine b_exit ?_ | refine b_pass rfl ?_ | refine AWP_ret ?_ | refine AWP_skip ?_ | refine AWP_exit ?_ | refine AWP_block ?_) | ((with_reducible refine And.intro ?_ ?_); · exact Sq) | ((first | with_reducible refine AWP_reg fun KC J hJ hKC => ?_ | with_reducible refine AWP_regD rfl fun KC J hJ hKC => ?_ | (refine hKC _ _ _ _ _ (callV0 (hcl) rfl rfl rfl ?_ ?_); (· exact Lq)) | (refine hKC _ _ _ _ _ (callV0 (hde) rfl rfl rfl ?_ ?_); (· exact Lq)) | (refine hKC _ _ _ _ _ (callV0 (hnf) rfl rfl rfl ?_ ?_); (· exact Lq))); simp (maxSteps := 10000000) only [push_cast, seval, ↓reduceIte, w0, v2, v3, v4, List.length_nil]) | ((first | with_reducible refine hJ _ _ ?_ | (with_reducible refine hJ _ _ ?_ ?_; · kernel_rfl)); clear hJ hKC KC J) | ((with_reducible refine AWP_condT ?_ ?_); · rfl) | ((with_reducible refine AWP_condF ?_ ?_); · rfl) | ((with_reducible refine ite_intro (fun hs => ?_) (fun hs => ?_)) <;> (try simp only [Bool.not_eq_true, Bool.not_eq_false, Bool.not_eq_true', Bool.not_eq_false', Decidable.not_not, decide_eq_true_eq, decide_eq_false_iff_not] at hs) <;> (try simp (maxSteps := 10000000) only [push_cast, seval, ↓reduceIte, hs, w0, v2, v3, v4, List.length_nil])) | (refine AWP_cond rfl (fun h => ?_) (fun h => ?_) <;> try simp only [decide_eq_true_eq, decide_eq_false_iff_not, Bool.not_eq_true', Bool.not_eq_false', beq_iff_eq, bne_iff_ne, ne_eq, Bool.not_eq_true, Bool.or_eq_true, Bool.and_eq_true, Bool.or_eq_false_iff, Bool.and_eq_false_imp, beq_eq_false_iff_ne, bne_eq_false_iff_eq] at h)
    refine AWP_le ([.any, .any, .ptr 0 0 0, .ptr 1 0 0, .ptr 2 0 0, .any, .ptr 5 0 0, .any, .any, .any, .any, .any, .any, .any, .any, .any, .any, .any, .any, .any, .any, .any, .any, .any, .any, .any, .any, .any, .any, .any, .any, .any, .any, .any, .any, .fn 292 [.fad [.v (.int .i64 s.v), .v (.int .i64 s.l), .sl false 3 ([]), .sl false 2 (pRow s.mem), .sl false 3 (sRow s.stack), .sl false 2 (pRow s.out)]], .any, .any, .any, .any, .any, .any, .any, .any, .any, .any, .any, .any, .any, .any, .any, .any, .any, .any, .any, .any, .any, .any, .any, .any]) (by exact Lq) ?_
    refine AWP_range (f := 292) rfl rfl hit (fun i hi => rfl) 7 rfl rfl
      (fun i => [.ent ⟨0, none, 25, [.sl f 1 (strRow ns), .sl g 1 (u32Row us)], .cells⟩, .ent ⟨0, none, 84, [.v (.int .i64 s.v), .v (.int .i64 s.l), .sl false 3 ([]), .sl false 2 (pRow s.mem), .sl false 3 (sRow s.stack), .sl false 2 (pRow s.out)], .cells⟩, .ent ⟨0, none, 130, [.v (.int .i64 0), .v (.int .i64 0), .v (.int .i64 0)], .cells⟩, .free, .free, .ent ⟨0, none, 130, encZ (((numsL s).take i).foldl (numZ us) (C, 0, 0)), .cells⟩, .free])
      (by simp only [List.take_zero, List.foldl_nil, encZ]) (fun i => rfl) (fun i => rfl) (fun i => rfl) (fun _ => true) .ret .ret rfl
      (fun i => [.any, .any, .ptr 0 0 0, .ptr 1 0 0, .ptr 2 0 0, .any, .ptr 5 0 0, .v (.int .i64 ((numsL s).getD i (0, 0)).1), .v (.int .i64 ((numsL s).getD i (0, 0)).2), .any, .any, .any, .any, .any, .any, .any, .any, .any, .any, .any, .any, .any, .any, .any, .any, .any, .any, .any, .any, .any, .any, .any, .any, .any, .any, .fn 292 [.fad [.v (.int .i64 s.v), .v (.int .i64 s.l), .sl false 3 ([]), .sl false 2 (pRow s.mem), .sl false 3 (sRow s.stack), .sl false 2 (pRow s.out)]], .v (.int .i64 ((numsL s).getD i (0, 0)).1), .v (.int .i64 ((numsL s).getD i (0, 0)).2), .any, .any, .any, .any, .any, .any, .any, .any, .any, .any, .any, .any, .any, .any, .any, .any, .any, .any, .any, .any, .any, .any])
      (fun l' i r hi => ?_) (fun i => rfl) (fun l' i hi _ => ?_) (fun _ => ?_) (fun k hk h _ => by cases h)
    · skip
      repeat' first | (with_reducible first | refine AWP_seq' ?_ | refine k_normal ?_ | refine k_ret ?_ | refine k_exit ?_ | refine b_normal ?_ | refine b_ret ?_ | refine b_exit ?_ | refine b_pass rfl ?_ | refine AWP_ret ?_ | refine AWP_skip ?_ | refine AWP_exit ?_ | refine AWP_block ?_) | ((with_reducible refine And.intro ?_ ?_); · exact Sq) | ((first | with_reducible refine AWP_reg fun KC J hJ hKC => ?_ | with_reducible refine AWP_regD rfl fun KC J hJ hKC => ?_); simp (maxSteps := 10000000) only [push_cast, seval, ↓reduceIte]) | ((first | with_reducible refine hJ _ _ ?_ | (with_reducible refine hJ _ _ ?_ ?_; · kernel_rfl)); clear hJ hKC KC J) | ((with_reducible refine AWP_condT ?_ ?_); · rfl) | ((with_reducible refine AWP_condF ?_ ?_); · rfl) | ((with_reducible refine ite_intro (fun hs => ?_) (fun hs => ?_)) <;> (try simp only [Bool.not_eq_true, Bool.not_eq_false, Bool.not_eq_true', Bool.not_eq_false', Decidable.not_not, decide_eq_true_eq, decide_eq_false_iff_not] at hs) <;> (try simp (maxSteps := 10000000) only [push_cast, seval, ↓reduceIte, hs])) | (refine AWP_cond rfl (fun h => ?_) (fun h => ?_) <;> try simp only [decide_eq_true_eq, decide_eq_false_iff_not, Bool.not_eq_true', Bool.not_eq_false', beq_iff_eq, bne_iff_ne, ne_eq, Bool.not_eq_true, Bool.or_eq_true, Bool.and_eq_true, Bool.or_eq_false_iff, Bool.and_eq_false_imp, beq_eq_false_iff_ne, bne_eq_false_iff_eq] at h)
      exact rfl
    · dsimp only
      have hx : (numsL s)[i]? = some (numsL s)[i] := List.getElem?_eq_getElem hi
      obtain ⟨p, hp⟩ : ∃ p, (numsL s)[i] = p := ⟨_, rfl⟩
      rw [hp] at hx
      have hg : (numsL s).getD i (0, 0) = p := by rw [List.getD_eq_getElem?_getD, hx]; rfl
      have hst : ((numsL s).take (i + 1)).foldl (numZ us) (C, 0, 0) = numZ us (((numsL s).take i).foldl (numZ us) (C, 0, 0)) p := foldl_succ _ _ hx
      have hpn := nums_num hs p (List.mem_of_getElem? hx)
      have hZB := foldZ_B (us := us) hs hC0 hC1 i
      rw [hst]
      obtain ⟨z, hz⟩ : ∃ z, ((numsL s).take i).foldl (numZ us) (C, 0, 0) = z := ⟨_, rfl⟩
      rw [hz] at hZB ⊢
      rw [hg]
      obtain ⟨v, l⟩ := p
      simp only [encZ, numZ] at hpn ⊢
      have wn : IntKind.i64.wrap (0 - v) = 0 - v := wrapI (by omega) (by omega)
      have hm : (if 0 - v > v then 0 - v else v) = absI v := by unfold absI; split <;> split <;> omega
      have hai := absI_le hpn.1 hpn.2.1
      simp only [Bz] at hZB
      have hzl : ((numsL s).take i).length ≤ 39 := Nat.le_trans (List.length_take_le' _ _) (by simp [numsL]; omega)
      have ws : IntKind.i64.wrap (z.2.1 + absI v) = z.2.1 + absI v := wrapI (by omega) (by omega)
      by_cases hl0 : 0 ≤ l
      · have hod := hpn.2.2 hl0
        obtain ⟨a, rfl, ha⟩ := oddL_no hod
        have hh := latHeight_fn f g ns us hs0 hu hc a ha
        have hhl := hgt_le us a
        have wh : IntKind.i64.wrap (z.2.2 + ((hgt us a : Nat) : Int)) = z.2.2 + ((hgt us a : Nat) : Int) := wrapI (by omega) (by omega)
        rw [if_pos hl0, Int.toNat_natCast]
        repeat' first | (with_reducible first | refine AWP_seq' ?_ | refine k_normal ?_ | refine k_ret ?_ | refine k_exit ?_ | refine b_normal ?_ | refine b_ret ?_ | refine b_exit ?_ | refine b_pass rfl ?_ | refine AWP_ret ?_ | refine AWP_skip ?_ | refine AWP_exit ?_ | refine AWP_block ?_) | ((with_reducible refine And.intro ?_ ?_); · exact Sq) | ((first | with_reducible refine AWP_reg fun KC J hJ hKC => ?_ | with_reducible refine AWP_regD rfl fun KC J hJ hKC => ?_ | (refine hKC _ _ _ _ _ (callV0 (hh) rfl rfl rfl ?_ ?_); (· exact Lq))); simp (maxSteps := 10000000) only [push_cast, seval, ↓reduceIte, wn, hm, ws, wh, hl0]) | ((first | with_reducible refine hJ _ _ ?_ | (with_reducible refine hJ _ _ ?_ ?_; · kernel_rfl)); clear hJ hKC KC J) | ((with_reducible refine AWP_condT ?_ ?_); · rfl) | ((with_reducible refine AWP_condF ?_ ?_); · rfl) | ((with_reducible refine ite_intro (fun hs => ?_) (fun hs => ?_)) <;> (try simp only [Bool.not_eq_true, Bool.not_eq_false, Bool.not_eq_true', Bool.not_eq_false', Decidable.not_not, decide_eq_true_eq, decide_eq_false_iff_not] at hs) <;> (try simp (maxSteps := 10000000) only [push_cast, seval, ↓reduceIte, hs, wn, hm, ws, wh, hl0])) | (refine AWP_cond rfl (fun h => ?_) (fun h => ?_) <;> try simp only [decide_eq_true_eq, decide_eq_false_iff_not, Bool.not_eq_true', Bool.not_eq_false', beq_iff_eq, bne_iff_ne, ne_eq, Bool.not_eq_true, Bool.or_eq_true, Bool.and_eq_true, Bool.or_eq_false_iff, Bool.and_eq_false_imp, beq_eq_false_iff_ne, bne_eq_false_iff_eq] at h)
        exact ⟨(by first | exact weakS_free (k := 0) rfl rfl rfl | exact weakS_free (k := 1) rfl rfl rfl | exact weakS_free (k := 2) rfl rfl rfl | exact weakS_free (k := 3) rfl rfl rfl | exact weakS_free (k := 4) rfl rfl rfl | exact weakS_free (k := 5) rfl rfl rfl | exact weakS_free (k := 6) rfl rfl rfl | exact weakS_free (k := 7) rfl rfl rfl | exact weakS_free (k := 8) rfl rfl rfl), rfl⟩
      · rw [if_neg hl0]
        repeat' first | (with_reducible first | refine AWP_seq' ?_ | refine k_normal ?_ | refine k_ret ?_ | refine k_exit ?_ | refine b_normal ?_ | refine b_ret ?_ | refine b_exit ?_ | refine b_pass rfl ?_ | refine AWP_ret ?_ | refine AWP_skip ?_ | refine AWP_exit ?_ | refine AWP_block ?_) | ((with_reducible refine And.intro ?_ ?_); · exact Sq) | ((first | with_reducible refine AWP_reg fun KC J hJ hKC => ?_ | with_reducible refine AWP_regD rfl fun KC J hJ hKC => ?_); simp (maxSteps := 10000000) only [push_cast, seval, ↓reduceIte, wn, hm, ws, hl0]) | ((first | with_reducible refine hJ _ _ ?_ | (with_reducible refine hJ _ _ ?_ ?_; · kernel_rfl)); clear hJ hKC KC J) | ((with_reducible refine AWP_condT ?_ ?_); · rfl) | ((with_reducible refine AWP_condF ?_ ?_); · rfl) | ((with_reducible refine ite_intro (fun hs => ?_) (fun hs => ?_)) <;> (try simp only [Bool.not_eq_true, Bool.not_eq_false, Bool.not_eq_true', Bool.not_eq_false', Decidable.not_not, decide_eq_true_eq, decide_eq_false_iff_not] at hs) <;> (try simp (maxSteps := 10000000) only [push_cast, seval, ↓reduceIte, hs, wn, hm, ws, hl0])) | (refine AWP_cond rfl (fun h => ?_) (fun h => ?_) <;> try simp only [decide_eq_true_eq, decide_eq_false_iff_not, Bool.not_eq_true', Bool.not_eq_false', beq_iff_eq, bne_iff_ne, ne_eq, Bool.not_eq_true, Bool.or_eq_true, Bool.and_eq_true, Bool.or_eq_false_iff, Bool.and_eq_false_imp, beq_eq_false_iff_ne, bne_eq_false_iff_eq] at h)
        exact ⟨(by first | exact weakS_free (k := 0) rfl rfl rfl | exact weakS_free (k := 1) rfl rfl rfl | exact weakS_free (k := 2) rfl rfl rfl | exact weakS_free (k := 3) rfl rfl rfl | exact weakS_free (k := 4) rfl rfl rfl | exact weakS_free (k := 5) rfl rfl rfl | exact weakS_free (k := 6) rfl rfl rfl | exact weakS_free (k := 7) rfl rfl rfl | exact weakS_free (k := 8) rfl rfl rfl), rfl⟩
    · dsimp only
      rw [List.take_length]
      simp only [encZ]
      repeat' first | (with_reducible first | refine AWP_seq' ?_ | refine k_normal ?_ | refine k_ret ?_ | refine k_exit ?_ | refine b_normal ?_ | refine b_ret ?_ | refine b_exit ?_ | refine b_pass rfl ?_ | refine AWP_ret ?_ | refine AWP_skip ?_ | refine AWP_exit ?_ | refine AWP_block ?_) | ((with_reducible refine And.intro ?_ ?_); · exact Sq) | ((first | with_reducible refine AWP_reg fun KC J hJ hKC => ?_ | with_reducible refine AWP_regD rfl fun KC J hJ hKC => ?_); simp (maxSteps := 10000000) only [push_cast, seval, ↓reduceIte]) | ((first | with_reducible refine hJ _ _ ?_ | (with_reducible refine hJ _ _ ?_ ?_; · kernel_rfl)); clear hJ hKC KC J) | ((with_reducible refine AWP_condT ?_ ?_); · rfl) | ((with_reducible refine AWP_condF ?_ ?_); · rfl) | ((with_reducible refine ite_intro (fun hs => ?_) (fun hs => ?_)) <;> (try simp only [Bool.not_eq_true, Bool.not_eq_false, Bool.not_eq_true', Bool.not_eq_false', Decidable.not_not, decide_eq_true_eq, decide_eq_false_iff_not] at hs) <;> (try simp (maxSteps := 10000000) only [push_cast, seval, ↓reduceIte, hs])) | (refine AWP_cond rfl (fun h => ?_) (fun h => ?_) <;> try simp only [decide_eq_true_eq, decide_eq_false_iff_not, Bool.not_eq_true', Bool.not_eq_false', beq_iff_eq, bne_iff_ne, ne_eq, Bool.not_eq_true, Bool.or_eq_true, Bool.and_eq_true, Bool.or_eq_false_iff, Bool.and_eq_false_imp, beq_eq_false_iff_ne, bne_eq_false_iff_eq] at h)
      refine ret_plain ?_
      simp (maxSteps := 10000000) only [push_cast, seval, ↓reduceIte, show Try.f183.results = #[(.cell 4 130)] from rfl]
      exact Lq
end Go.Proofs.Ytabliglgeiajlaa.AM

/- How large two states are: moves.Measure. -/
namespace Go.Proofs.Ytabliglgeiajlaa.AM
open Go Go.RowKit Go.Proofs
set_option maxRecDepth 100000
set_option maxHeartbeats 4000000

theorem sizeZ_B0 {us : List Nat} {n : Nat} {s : Sta} (h : StaN n s) : Bz 40 (sizeZ us (0, 0, 0) s) := by
  have l1 := h.codeL
  have l2 := h.memL
  have l3 := h.stackL
  have l4 := h.outL
  have h1 := List.length_filter_le deedB s.code
  rw [sizeZ_num h]
  have h2 := foldZ_B (us := us) h (C := 0 + ((s.code.length + s.mem.length + s.stack.length + s.out.length + (s.code.filter deedB).length : Nat) : Int)) (by omega) (by omega) (numsL s).length
  rw [List.take_length] at h2
  have h3 : (numsL s).length ≤ 39 := by simp [numsL]; omega
  simp only [Bz] at h2 ⊢
  omega
def measF (ns : List ByteArray) (us : List Nat) (a b : Sta) : Int × Int × Int := if mayT ns us a b = 0 then siz2 us (a, b) else (0, 0, 0)
theorem mayT_ok {ns : List ByteArray} {us : List Nat} {a b : Sta} (h : mayT ns us a b = 0) : checkF ns us = 0 ∧ staB us.length a = true ∧ staB us.length b = true := by
  unfold mayT at h
  split at h
  · split at h
    · rename_i h1 h2; exact ⟨h1, h2⟩
    · cases h
  · rename_i h1; exact absurd h h1
theorem mvMeasure_fn (f g : Bool) (ns : List ByteArray) (us : List Nat) (a b : Sta) (hs : Szs ns) (hu : U32 us) (ha : Sml a) (hb : Sml b) :
    Fn Try.prog 92 [.agg [.sl f 1 (strRow ns), .sl g 1 (u32Row us)], .agg (encT a b)] [] (.tup [.agg (encZ (measF ns us a b)), .v (.int .i64 (mayT ns us a b))]) [] := by
  have h1 := mvMay_fn f g ns us a b hs hu ha hb
  unfold measF
  by_cases hm : mayT ns us a b = 0
  · obtain ⟨hc, hA, hB⟩ := mayT_ok hm
    have h2 := mvSize_fn f g ns us hs hu hc a (sta_num hA)
    have h3 := mvSize_fn f g ns us hs hu hc b (sta_num hB)
    have b2 := sizeZ_B0 (us := us) (sta_num hA)
    have b3 := sizeZ_B0 (us := us) (sta_num hB)
    rw [hm] at h1
    rw [if_pos hm, hm]
    simp only [siz2, addT]
    obtain ⟨⟨x1, x2, x3⟩, hx⟩ : ∃ x, sizeZ us (0, 0, 0) a = x := ⟨_, rfl⟩
    obtain ⟨⟨y1, y2, y3⟩, hy⟩ : ∃ x, sizeZ us (0, 0, 0) b = x := ⟨_, rfl⟩
    rw [hx] at h2 b2
    rw [hy] at h3 b3
    rw [hx, hy]
    simp only [Bz] at b2 b3
    have w1 : IntKind.i64.wrap (x1 + y1) = x1 + y1 := wrapI (by omega) (by omega)
    have w2 : IntKind.i64.wrap (x2 + y2) = x2 + y2 := wrapI (by omega) (by omega)
    have w3 : IntKind.i64.wrap (x3 + y3) = x3 + y3 := wrapI (by omega) (by omega)
    simp only [encT, staF, encZ, List.cons_append, List.nil_append] at h1 h2 h3 ⊢
    refine Fn.of (fn := Try.f92) (by kernel_rfl) rfl (by kernel_rfl) ⟨[.agg [.sl f 1 (strRow ns), .sl g 1 (u32Row us)], .agg [.v (.int .i64 a.v), .v (.int .i64 a.l), .sl false 3 (tRow a.code), .sl false 2 (pRow a.mem), .sl false 3 (sRow a.stack), .sl false 2 (pRow a.out), .v (.int .i64 b.v), .v (.int .i64 b.l), .sl false 3 (tRow b.code), .sl false 2 (pRow b.mem), .sl false 3 (sRow b.stack), .sl false 2 (pRow b.out)], .v undef, .v undef, .v undef, .v undef, .v undef, .v undef, .v undef, .v undef, .v undef, .v undef, .v undef, .v undef, .v undef, .v undef, .v undef, .v undef, .v undef, .v undef, .v undef, .v undef, .v undef, .v undef, .v undef, .v undef, .v undef, .v undef, .v undef, .v undef, .v undef, .v undef, .v undef, .v undef, .v undef, .v undef, .v undef, .v undef, .v undef, .v undef], []⟩ rfl ?_
    repeat' first | (with_reducible first | refine AWP_seq' ?_ | refine k_normal ?_ | refine k_ret ?_ | refine k_exit ?_ | refine b_normal ?_ | refine b_ret ?_ | refine b_exit ?_ | refine b_pass rfl ?_ | refine AWP_ret ?_ | refine AWP_skip ?_ | refine AWP_exit ?_ | refine AWP_block ?_) | ((with_reducible refine And.intro ?_ ?_); · exact Sq) | ((first | with_reducible refine AWP_reg fun KC J hJ hKC => ?_ | with_reducible refine AWP_regD rfl fun KC J hJ hKC => ?_ | (refine hKC _ _ _ _ _ (callV0 (h1) rfl rfl rfl ?_ ?_); (· exact Lq)) | (refine hKC _ _ _ _ _ (callV0 (h2) rfl rfl rfl ?_ ?_); (· exact Lq)) | (refine hKC _ _ _ _ _ (callV0 (h3) rfl rfl rfl ?_ ?_); (· exact Lq))); simp (maxSteps := 10000000) only [push_cast, seval, ↓reduceIte, bne_self_eq_false, w1, w2, w3]) | ((first | with_reducible refine hJ _ _ ?_ | (with_reducible refine hJ _ _ ?_ ?_; · kernel_rfl)); clear hJ hKC KC J) | ((with_reducible refine AWP_condT ?_ ?_); · rfl) | ((with_reducible refine AWP_condF ?_ ?_); · rfl) | ((with_reducible refine ite_intro (fun hs => ?_) (fun hs => ?_)) <;> (try simp only [Bool.not_eq_true, Bool.not_eq_false, Bool.not_eq_true', Bool.not_eq_false', Decidable.not_not, decide_eq_true_eq, decide_eq_false_iff_not] at hs) <;> (try simp (maxSteps := 10000000) only [push_cast, seval, ↓reduceIte, hs, bne_self_eq_false, w1, w2, w3])) | (refine AWP_cond rfl (fun h => ?_) (fun h => ?_) <;> try simp only [decide_eq_true_eq, decide_eq_false_iff_not, Bool.not_eq_true', Bool.not_eq_false', beq_iff_eq, bne_iff_ne, ne_eq, Bool.not_eq_true, Bool.or_eq_true, Bool.and_eq_true, Bool.or_eq_false_iff, Bool.and_eq_false_imp, beq_eq_false_iff_ne, bne_eq_false_iff_eq] at h)
    refine ret_plain ?_
    simp (maxSteps := 10000000) only [push_cast, seval, ↓reduceIte, show Try.f92.results = #[(.cell 4 130), (.tmp 5)] from rfl]
    exact Lq
  · obtain ⟨c, hc⟩ : ∃ c, mayT ns us a b = c := ⟨_, rfl⟩
    rw [hc] at h1 hm ⊢
    rw [if_neg hm]
    have hc' : (c != 0) = true := by simpa using hm
    simp only [encT, staF, encZ, List.cons_append, List.nil_append] at h1 ⊢
    refine Fn.of (fn := Try.f92) (by kernel_rfl) rfl (by kernel_rfl) ⟨[.agg [.sl f 1 (strRow ns), .sl g 1 (u32Row us)], .agg [.v (.int .i64 a.v), .v (.int .i64 a.l), .sl false 3 (tRow a.code), .sl false 2 (pRow a.mem), .sl false 3 (sRow a.stack), .sl false 2 (pRow a.out), .v (.int .i64 b.v), .v (.int .i64 b.l), .sl false 3 (tRow b.code), .sl false 2 (pRow b.mem), .sl false 3 (sRow b.stack), .sl false 2 (pRow b.out)], .v undef, .v undef, .v undef, .v undef, .v undef, .v undef, .v undef, .v undef, .v undef, .v undef, .v undef, .v undef, .v undef, .v undef, .v undef, .v undef, .v undef, .v undef, .v undef, .v undef, .v undef, .v undef, .v undef, .v undef, .v undef, .v undef, .v undef, .v undef, .v undef, .v undef, .v undef, .v undef, .v undef, .v undef, .v undef, .v undef, .v undef, .v undef], []⟩ rfl ?_
    repeat' first | (with_reducible first | refine AWP_seq' ?_ | refine k_normal ?_ | refine k_ret ?_ | refine k_exit ?_ | refine b_normal ?_ | refine b_ret ?_ | refine b_exit ?_ | refine b_pass rfl ?_ | refine AWP_ret ?_ | refine AWP_skip ?_ | refine AWP_exit ?_ | refine AWP_block ?_) | ((with_reducible refine And.intro ?_ ?_); · exact Sq) | ((first | with_reducible refine AWP_reg fun KC J hJ hKC => ?_ | with_reducible refine AWP_regD rfl fun KC J hJ hKC => ?_ | (refine hKC _ _ _ _ _ (callV0 (h1) rfl rfl rfl ?_ ?_); (· exact Lq))); simp (maxSteps := 10000000) only [push_cast, seval, ↓reduceIte, hc']) | ((first | with_reducible refine hJ _ _ ?_ | (with_reducible refine hJ _ _ ?_ ?_; · kernel_rfl)); clear hJ hKC KC J) | ((with_reducible refine AWP_condT ?_ ?_); · rfl) | ((with_reducible refine AWP_condF ?_ ?_); · rfl) | ((with_reducible refine ite_intro (fun hs => ?_) (fun hs => ?_)) <;> (try simp only [Bool.not_eq_true, Bool.not_eq_false, Bool.not_eq_true', Bool.not_eq_false', Decidable.not_not, decide_eq_true_eq, decide_eq_false_iff_not] at hs) <;> (try simp (maxSteps := 10000000) only [push_cast, seval, ↓reduceIte, hs, hc'])) | (refine AWP_cond rfl (fun h => ?_) (fun h => ?_) <;> try simp only [decide_eq_true_eq, decide_eq_false_iff_not, Bool.not_eq_true', Bool.not_eq_false', beq_iff_eq, bne_iff_ne, ne_eq, Bool.not_eq_true, Bool.or_eq_true, Bool.and_eq_true, Bool.or_eq_false_iff, Bool.and_eq_false_imp, beq_eq_false_iff_ne, bne_eq_false_iff_eq] at h)
    refine ret_plain ?_
    simp (maxSteps := 10000000) only [push_cast, seval, ↓reduceIte, show Try.f92.results = #[(.cell 4 130), (.tmp 5)] from rfl]
    exact Lq
end Go.Proofs.Ytabliglgeiajlaa.AM

/- The moves one after the other; what they make of two states. -/
namespace Go.Proofs.Ytabliglgeiajlaa.AM
open Go Go.RowKit Go.Proofs
set_option maxRecDepth 100000
set_option maxHeartbeats 4000000

theorem moves_it (L : List (Mv × Mv)) (hl : L.length ≤ 1000) :
    ItFn Try.prog 267 [.fad [.sl false 2 (mvRow L)]] L.length (fun i => [mvD (L.getD i (.still, .still)).1, mvD (L.getD i (.still, .still)).2]) := by
  intro m inv ok frr rr hrec hcl hlen hy n hn
  have hrl := mvRow_length L
  refine Fn.of (fn := Try.f267) (by kernel_rfl) rfl (by kernel_rfl) ⟨[.kref false m 0, .fad [.sl false 2 (mvRow L)], .v undef, .v undef, .v undef, .v undef, .v undef, .v undef, .v undef, .v undef, .v undef, .v undef, .v undef, .v undef, .v undef, .v undef, .v undef, .v undef, .v undef], inv 0⟩ rfl ?_
  repeat' first | (with_reducible first | refine AWP_seq' ?_ | refine k_normal ?_ | refine AWP_block ?_) | ((with_reducible refine AWP_reg fun KC J hJ hKC => ?_); simp (maxSteps := 10000000) only [push_cast, seval, ↓reduceIte]) | ((with_reducible refine hJ _ _ ?_); clear hJ hKC KC J)
  refine AWP_loopD (m + 1) (γ := {i : Nat // i ≤ L.length ∧ ∀ j, j < i → ok j = true}) (fun i => ⟨[.kref false m 0, .any, .any, .any, .any, .sl false 2 (mvRow L), .v (.int .i64 L.length), .v (.int .i64 i.1), .any, .any, .any, .any, .any, .any, .any, .any, .any, .any, .any], inv i.1⟩) (fun i => L.length - i.1) ⟨0, by omega, fun j hj => by omega⟩ (fun i => hlen _) (fun i => hcl _) (fun i => ?_) ⟨?_, ?_⟩ ?_
  · simp only [List.map_cons, List.map_nil, ren, ren2, ren1, ren0, mOf_range, Nat.lt_succ_self, if_true]
  · simp only [hrl]
    exact Lq
  · exact Fq
  rintro ⟨i, hi, hok⟩
  dsimp only
  by_cases hlt : (i : Int) < (L.length : Int)
  · have hx : L[i]? = some L[i] := List.getElem?_eq_getElem (by omega)
    obtain ⟨x, hxx⟩ : ∃ x, L[i] = x := ⟨_, rfl⟩
    rw [hxx] at hx
    have hyi := hy i (by omega) hok
    have hat : L.getD i (.still, .still) = x := by
      rw [List.getD_eq_getElem?_getD, hx]; rfl
    simp only [hat] at hyi
    obtain ⟨K, hK⟩ : ∃ K, i = K := ⟨_, rfl⟩
    have hge := getE_mv hx
    have hLL : (inv (i + 1)).length = (inv i).length := by rw [hlen, hlen]
    have hset := setsF_pre (rest := [Slot.ent ⟨0, none, 275, [mvD x.1, mvD x.2], .cells⟩, Slot.free]) hLL
    cases hoki : ok i with
    | true =>
      rw [hoki] at hyi
      repeat' first | (with_reducible first | refine AWP_seq' ?_ | refine k_normal ?_ | refine b_normal ?_ | refine AWP_skip ?_ | refine AWP_block ?_) | ((with_reducible refine And.intro ?_ ?_); · exact Sq) | ((first | with_reducible refine AWP_reg fun KC J hJ hKC => ?_ | (refine hKC _ _ _ _ _ (callY hyi (hrec i) (hcl i) (hcl (i + 1)) hLL rfl (Nat.le_succ _) rfl rfl rfl (by simp only [push_cast]) ?_))); simp (maxSteps := 10000000) only [push_cast, seval, ↓reduceIte, hlt, hge, hrl, hset, getS_len, getS_len1, set_len, set_len1, List.append_assoc, List.cons_append, List.nil_append, wrapN (i := i) (n := L.length) (by omega) (by omega)]) | ((with_reducible refine hJ _ _ ?_); clear hJ hKC KC J) | ((with_reducible refine AWP_condT ?_ ?_); · rfl) | ((with_reducible refine AWP_condF ?_ ?_); · rfl)
      refine ⟨⟨i + 1, by omega, fun j hj => ?_⟩, by simp only; omega, ?_, ?_⟩
      · by_cases he : j = i
        · rw [he]; exact hoki
        · exact hok j (by omega)
      · exact Lq
      · exact ⟨_, rfl⟩
    | false =>
      rw [hoki] at hyi
      repeat' first | (with_reducible first | refine AWP_seq' ?_ | refine k_normal ?_ | refine k_ret ?_ | refine b_ret ?_ | refine AWP_ret ?_ | refine AWP_skip ?_ | refine AWP_block ?_) | ((with_reducible refine And.intro ?_ ?_); · exact Sq) | ((first | with_reducible refine AWP_reg fun KC J hJ hKC => ?_ | (refine hKC _ _ _ _ _ (callY hyi (hrec i) (hcl i) (hcl (i + 1)) hLL rfl (Nat.le_succ _) rfl rfl rfl (by simp only [push_cast]) ?_))); simp (maxSteps := 10000000) only [push_cast, seval, ↓reduceIte, hlt, hge, hrl, hset, getS_len, getS_len1, set_len, set_len1, List.append_assoc, List.cons_append, List.nil_append, wrapN (i := i) (n := L.length) (by omega) (by omega)]) | ((with_reducible refine hJ _ _ ?_); clear hJ hKC KC J) | ((with_reducible refine AWP_condT ?_ ?_); · rfl)
      have hni : n = i + 1 := by
        rcases hn with ⟨h1, h2⟩ | ⟨k, h1, h2, h3, h4⟩
        · have := h2 i (by omega); rw [hoki] at this; cases this
        · rcases Nat.lt_trichotomy k i with h | h | h
          · have := hok k h; rw [h3] at this; cases this
          · omega
          · have := h4 i h; rw [hoki] at this; cases this
      rw [hni, hlen]
      exact ret_itX [_, _] (.inr rfl) rfl rfl (hcl _) (by rw [hlen])
  have hin : i = L.length := by omega
  subst hin
  repeat' first | (with_reducible first | refine AWP_seq' ?_ | refine k_normal ?_ | refine k_exit ?_ | refine b_exit ?_ | refine AWP_exit ?_) | ((with_reducible refine AWP_reg fun KC J hJ hKC => ?_); simp (maxSteps := 10000000) only [push_cast, seval, ↓reduceIte, hlt]) | ((with_reducible refine hJ _ _ ?_); clear hJ hKC KC J) | ((with_reducible refine AWP_condF ?_ ?_); · rfl)
  have hni : n = L.length := by
    rcases hn with ⟨h1, h2⟩ | ⟨k, h1, h2, h3, h4⟩
    · exact h1
    · have := hok k (by omega); rw [h3] at this; cases this
  rw [hni, hlen]
  exact ret_itX [] (.inl rfl) rfl (by simp) (hcl _) (by rw [hlen])

/-! ### Rows of two states -/
def twoRow (R : List (Sta × Sta)) : List (List D) := R.map fun y => encT y.1 y.2
def twoCells (R : List (Sta × Sta)) : List D := (twoRow R).flatten
theorem twoCells_length (R : List (Sta × Sta)) : (twoCells R).length = R.length * 12 := by
  induction R with
  | nil => rfl
  | cons a l ih => simp [twoCells, twoRow, staF] at *; omega
theorem twoCells_app (a b : List (Sta × Sta)) : twoCells (a ++ b) = twoCells a ++ twoCells b := by simp [twoCells, twoRow]
@[push_cast] theorem frz_twoCells (R : List (Sta × Sta)) : frzAll (twoCells R) = true := by
  induction R with
  | nil => rfl
  | cons a l ih => simpa [twoCells, twoRow, staF, frzAll, frz, frz0] using ih
@[push_cast] theorem fr_twoCells (k g sz : Nat) (c : List D) (R : List (Sta × Sta)) : (twoCells R).map (fr1 k g sz c) = twoCells R := by
  induction R with
  | nil => rfl
  | cons a l ih => simpa [twoCells, twoRow, staF, fr1, fr0] using ih
theorem ren_twoCells (m : Nat → Option Nat) (R : List (Sta × Sta)) : (twoCells R).map (ren m) = twoCells R := by
  induction R with
  | nil => rfl
  | cons a l ih => simpa [twoCells, twoRow, staF, ren, ren2, ren1, ren0] using ih
theorem chunk_two (R : List (Sta × Sta)) : chunk 12 R.length (twoCells R) = twoRow R := by
  induction R with
  | nil => rfl
  | cons a l ih =>
    show chunk 12 (l.length + 1) (encT a.1 a.2 ++ twoCells l) = encT a.1 a.2 :: twoRow l
    rw [chunk, List.take_left' (show (encT a.1 a.2).length = 12 from rfl), List.drop_left' (show (encT a.1 a.2).length = 12 from rfl), ih]
theorem allOf_take {s t : Sta} {L : List (Mv × Mv)} {i : Nat} {m : Mv × Mv} (h : L[i]? = some m) : allOf s t (L.take (i + 1)) = allOf s t (L.take i) ++ (if likeT s t m = true then [] else [mkT s t m]) := by
  unfold allOf
  rw [List.take_add_one, h, List.filter_append, List.map_append]
  congr 1
  simp only [Option.toList_some, List.filter_cons, List.filter_nil]
  cases likeT s t m <;> rfl
theorem allOf_le (s t : Sta) (L : List (Mv × Mv)) (i : Nat) : (allOf s t (L.take i)).length ≤ L.length := by
  unfold allOf
  rw [List.length_map]
  exact Nat.le_trans (List.length_filter_le _ _) (List.length_take_le' _ _)
def rS (R : List (Sta × Sta)) : Slot := if R.length = 0 then .free else .ent ⟨R.length - 1, some 12, 125, twoCells R, .cells⟩
theorem rS_case (R : List (Sta × Sta)) : (R = [] ∧ eR 4 R.length = .v (.slice none 0 0) ∧ rS R = .free) ∨ (∃ j, R.length = j + 1 ∧ eR 4 R.length = .ref 4 j (j + 1) ∧ rS R = .ent ⟨j, some 12, 125, twoCells R, .cells⟩) := by
  cases R with
  | nil => exact .inl ⟨rfl, rfl, rfl⟩
  | cons a l => exact .inr ⟨l.length, rfl, rfl, rfl⟩
theorem sta_sml {n : Nat} {s : Sta} (h : staB n s = true) : Sml s := by
  have := sta_num h
  exact ⟨by have := this.codeL; omega, by have := this.memL; omega, by have := this.stackL; omega, by have := this.outL; omega⟩
theorem sta_15 {n : Nat} {s : Sta} (h : staB n s = true) : Sml15 s := by
  have := sta_num h
  exact ⟨by have := this.codeL; omega, by have := this.memL; omega, by have := this.stackL; omega, by have := this.outL; omega⟩
def allM (ns : List ByteArray) (us : List Nat) (s t : Sta) : List (Sta × Sta) := if mayT ns us s t = 0 then allF (botI us) s t else []
theorem mvAll_fn (f g : Bool) (ns : List ByteArray) (us : List Nat) (s t : Sta) (hs : Szs ns) (hu : U32 us) (ha : Sml s) (hb : Sml t) :
    Fn Try.prog 90 [.agg [.sl f 1 (strRow ns), .sl g 1 (u32Row us)], .agg (encT s t)] [] (.tup [.sl false 12 (twoRow (allM ns us s t)), .v (.int .i64 (mayT ns us s t))]) [] := by
  have h1 := mvMay_fn f g ns us s t hs hu ha hb
  unfold allM
  by_cases hm : mayT ns us s t = 0
  · obtain ⟨hc, hA, hB⟩ := mayT_ok hm
    have h2 := moves_fn f g ns us hs hu hc s t (sta_15 hA) (sta_15 hB)
    have hbo := botI_spec hc
    rw [hm] at h1
    rw [if_pos hm, hm]
    unfold allF
    have hok : ∀ m ∈ movesL (botI us) s t, MvOk us m.1 ∧ MvOk us m.2 := fun m h => movesL_ok hbo h
    have hLl : (movesL (botI us) s t).length ≤ 1000 := by
      have e := A7_all s t (botI us)
      have e2 := A7_le s t (botI us) (placesF s).length
      have e3 := placesF_len s
      have s1 := sta_15 hA
      have s2 := sta_15 hB
      have := s1.code
      have := s1.mem
      have := s1.stack
      have := s2.stack
      rw [← e]; omega
    obtain ⟨L, hL⟩ : ∃ L, movesL (botI us) s t = L := ⟨_, rfl⟩
    rw [hL] at h2 hok hLl ⊢
    have hit := moves_it L hLl
    simp only [encT, staF, List.cons_append, List.nil_append] at h1 h2 ⊢
    refine Fn.of (fn := Try.f90) (by kernel_rfl) rfl (by kernel_rfl) ⟨[.agg [.sl f 1 (strRow ns), .sl g 1 (u32Row us)], .agg [.v (.int .i64 s.v), .v (.int .i64 s.l), .sl false 3 (tRow s.code), .sl false 2 (pRow s.mem), .sl false 3 (sRow s.stack), .sl false 2 (pRow s.out), .v (.int .i64 t.v), .v (.int .i64 t.l), .sl false 3 (tRow t.code), .sl false 2 (pRow t.mem), .sl false 3 (sRow t.stack), .sl false 2 (pRow t.out)], .v undef, .v undef, .v undef, .v undef, .v undef, .v undef, .v undef, .v undef, .v undef, .v undef, .v undef, .v undef, .v undef, .v undef, .v undef, .v undef, .v undef, .v undef, .v undef, .v undef, .v undef, .v undef, .v undef, .v undef, .v undef, .v undef, .v undef, .v undef, .v undef, .v undef, .v undef, .v undef, .v undef, .v undef, .v undef, .v undef, .v undef, .v undef, .v undef, .v undef, .v undef, .v undef, .v undef, .v undef, .v undef, .v undef, .v undef, .v undef], []⟩ rfl ?_
    repeat' first | (refine AWP_freezeR 5 0 rfl (by (simp (maxSteps := 10000000) only [push_cast, seval, ↓reduceIte]) <;> rfl) ?_; simp (maxSteps := 10000000) only [push_cast, seval, ↓reduceIte, frSt, frSlot, fr3, fr2, fr1, fr0, sameB, arrOf, bne_self_eq_false]) | (refine AWP_freezeR 5 1 rfl (by (simp (maxSteps := 10000000) only [push_cast, seval, ↓reduceIte]) <;> rfl) ?_; simp (maxSteps := 10000000) only [push_cast, seval, ↓reduceIte, frSt, frSlot, fr3, fr2, fr1, fr0, sameB, arrOf, bne_self_eq_false]) | (with_reducible first | refine AWP_seq' ?_ | refine k_normal ?_ | refine AWP_skip ?_ | refine AWP_block ?_) | ((first | with_reducible refine AWP_reg fun KC J hJ hKC => ?_ | (refine hKC _ _ _ _ _ (callV0 (h1) rfl rfl rfl ?_ ?_); (· exact Lq)) | (refine hKC _ _ _ _ _ (callV0 (h2) rfl rfl rfl ?_ ?_); (· exact Lq))); simp (maxSteps := 10000000) only [push_cast, seval, ↓reduceIte, bne_self_eq_false]) | ((with_reducible refine hJ _ _ ?_); clear hJ hKC KC J) | ((with_reducible refine AWP_condF ?_ ?_); · rfl)
    refine AWP_le ([.any, .any, .any, .fad [.v (.int .i64 s.v), .v (.int .i64 s.l), .sl false 3 (tRow s.code), .sl false 2 (pRow s.mem), .sl false 3 (sRow s.stack), .sl false 2 (pRow s.out), .v (.int .i64 t.v), .v (.int .i64 t.l), .sl false 3 (tRow t.code), .sl false 2 (pRow t.mem), .sl false 3 (sRow t.stack), .sl false 2 (pRow t.out)], .any, .any, .any, .ptr 3 0 0, .any, .any, .any, .any, .any, .any, .any, .any, .any, .any, .any, .fn 267 [.fad [.sl false 2 (mvRow L)]], .any, .any, .any, .any, .any, .any, .any, .any, .any, .any, .any, .any, .any, .any, .any, .any, .any, .any, .any, .any, .any, .any, .any, .any, .any, .any, .any, .any, .any, .any]) (by exact Lq) ?_
    refine AWP_rangeU (f := 267) rfl rfl hit (fun i hi => rfl) 5 rfl rfl
      (fun i => [.dead, .dead, .free, .ent ⟨0, none, 126, [eR 4 (allOf s t (L.take i)).length], .cells⟩, rS (allOf s t (L.take i))])
      rfl (fun i => rfl) (fun i => ?_) (fun i => ?_) (fun _ => true) .ret .ret rfl
      (fun i => [.any, .any, .any, .fad [.v (.int .i64 s.v), .v (.int .i64 s.l), .sl false 3 (tRow s.code), .sl false 2 (pRow s.mem), .sl false 3 (sRow s.stack), .sl false 2 (pRow s.out), .v (.int .i64 t.v), .v (.int .i64 t.l), .sl false 3 (tRow t.code), .sl false 2 (pRow t.mem), .sl false 3 (sRow t.stack), .sl false 2 (pRow t.out)], .any, .any, .any, .ptr 3 0 0, mvD (L.getD i (.still, .still)).1, mvD (L.getD i (.still, .still)).2, .any, .any, .any, .any, .any, .any, .any, .any, .any, .fn 267 [.fad [.sl false 2 (mvRow L)]], mvD (L.getD i (.still, .still)).1, mvD (L.getD i (.still, .still)).2, .any, .any, .any, .any, .any, .any, .any, .any, .any, .any, .any, .any, .any, .any, .any, .any, .any, .any, .any, .any, .any, .any, .any, .any, .any, .any, .any, .any])
      (fun l' i r hi => ?_) (fun i => ?_) (fun l' i hi _ => ?_) (fun _ => ?_) (fun k hk h _ => by cases h)
    · rcases rS_case (allOf s t (L.take i)) with ⟨_, hD, hσ⟩ | ⟨j, _, hD, hσ⟩
      all_goals
        simp only [hD, hσ, List.map_cons, List.map_nil, renSlot, ren_twoCells]
        rfl
    · refine clsd_all ?_
      rcases rS_case (allOf s t (L.take i)) with ⟨_, hD, hσ⟩ | ⟨j, _, hD, hσ⟩
      all_goals
        simp only [hD, hσ, List.map_cons, List.map_nil, renSlot, ren_twoCells]
        rfl
    · skip
      repeat' first | (with_reducible first | refine AWP_seq' ?_ | refine k_normal ?_) | ((with_reducible refine And.intro ?_ ?_); · exact Sq) | ((with_reducible refine AWP_reg fun KC J hJ hKC => ?_); simp (maxSteps := 10000000) only [push_cast, seval, ↓reduceIte]) | ((with_reducible refine hJ _ _ ?_); clear hJ hKC KC J)
      exact rfl
    · simp only [List.map_cons, List.map_nil, ren_mvD]
      rfl
    · dsimp only
      have hx : L[i]? = some L[i] := List.getElem?_eq_getElem hi
      obtain ⟨m, hmm⟩ : ∃ m, L[i] = m := ⟨_, rfl⟩
      rw [hmm] at hx
      have hg : L.getD i (.still, .still) = m := by rw [List.getD_eq_getElem?_getD, hx]; rfl
      rw [hg]
      obtain ⟨k1, k2⟩ := hok m (List.mem_of_getElem? hx)
      have hst := allOf_take (s := s) (t := t) hx
      have hle := allOf_le s t L i
      have f1 := mv_fn m.1 k1 s (sta_num hA)
      have f2 := mv_fn m.2 k2 t (sta_num hB)
      have c1 := mv_B k1 hA
      have c2 := mv_B k2 hB
      have f3 := stLike_fn (mvF m.1 s) s (sta_sml c1)
      have f4 := stLike_fn (mvF m.2 t) t (sta_sml c2)
      have hz1 := mvC_frz m.1
      have hz2 := mvC_frz m.2
      unfold likeT mkT at hst
      obtain ⟨y1, hy1⟩ : ∃ y, mvF m.1 s = y := ⟨_, rfl⟩
      obtain ⟨y2, hy2⟩ : ∃ y, mvF m.2 t = y := ⟨_, rfl⟩
      rw [hy1, hy2] at hst
      rw [hy1] at f1 f3
      rw [hy2] at f2 f4
      simp only [staF] at f1 f2 f3 f4
      obtain ⟨b1, hb1⟩ : ∃ b, likeS y1 s = b := ⟨_, rfl⟩
      obtain ⟨b2, hb2⟩ : ∃ b, likeS y2 t = b := ⟨_, rfl⟩
      rw [hb1] at f3 hst
      rw [hb2] at f4 hst
      obtain ⟨R, hR⟩ : ∃ R, allOf s t (L.take i) = R := ⟨_, rfl⟩
      obtain ⟨R', hR'⟩ : ∃ R, allOf s t (L.take (i + 1)) = R := ⟨_, rfl⟩
      rw [hR] at hst hle ⊢
      rw [hR'] at hst ⊢
      rcases rS_case R with ⟨h0, hD, hσ⟩ | ⟨j, h0, hD, hσ⟩
      · cases b1 <;> cases b2
        all_goals
          simp only [Bool.and_self, Bool.and_true, Bool.and_false, Bool.true_and, Bool.false_and, if_true, if_false, Bool.false_eq_true, List.append_nil] at hst
          repeat' first | (with_reducible first | refine AWP_seq' ?_ | refine k_normal ?_ | refine b_normal ?_ | refine AWP_skip ?_ | refine AWP_block ?_) | ((first | with_reducible refine AWP_reg fun KC J hJ hKC => ?_ | with_reducible refine AWP_regD rfl fun KC J hJ hKC => ?_ | (refine hKC _ _ _ _ _ (callV0 (f1) rfl rfl rfl ?_ ?_); (· exact Lq)) | (refine hKC _ _ _ _ _ (callV0 (f2) rfl rfl rfl ?_ ?_); (· exact Lq)) | (refine hKC _ _ _ _ _ (callV0 (f3) rfl rfl rfl ?_ ?_); (· exact Lq)) | (refine hKC _ _ _ _ _ (callV0 (f4) rfl rfl rfl ?_ ?_); (· exact Lq))); simp (maxSteps := 10000000) only [push_cast, seval, ↓reduceIte, hD, hσ, undef, Bool.not_true, Bool.not_false, backOf, callSets, renSlot, pick, mOf, idx, ren_twoCells]) | ((first | with_reducible refine hJ _ _ ?_ | (with_reducible refine hJ _ _ ?_ ?_; · kernel_rfl)); clear hJ hKC KC J) | ((with_reducible refine AWP_condT ?_ ?_); · rfl) | ((with_reducible refine AWP_condF ?_ ?_); · rfl)
        all_goals
          refine ⟨?_, rfl⟩
          subst h0
          rw [hst]
        iterate 3
          · refine WeakU.of_free (p := [.dead, .dead, .free, .ent ⟨0, none, 126, [.v (.slice none 0 0)], .cells⟩]) (k := 1) rfl ⟨[0, 1, 2, 3, 11], by decide, ?_, ?_⟩
            · intro k hk
              match k, hk with
              | 0, _ => rfl
              | 1, _ => rfl
              | 2, _ => rfl
              | 3, _ => rfl
            · simp only [pick, List.map_cons, List.map_nil, getS, renSlot, push_cast, mOf, idx]
              exact leS_refl _
        · refine WeakU.of_free (p := [.dead, .dead, .free, .ent ⟨0, none, 126, [.v (.slice none 0 0)], .cells⟩]) (k := 1) rfl ⟨[0, 1, 2, 3, 4], by decide, ?_, ?_⟩
          · intro k hk
            match k, hk with
            | 0, _ => rfl
            | 1, _ => rfl
            | 2, _ => rfl
            | 3, _ => rfl
          · simp only [pick, List.map_cons, List.map_nil, getS, renSlot, push_cast, mOf, idx]
            exact leS_refl _
      · have hlC : (twoCells R).length = (j + 1) * 12 := by rw [twoCells_length, h0]
        have htC := take_len hlC
        have hbm : Nat.beq j j = true := Nat.beq_refl j
        have hn1 : ∀ y, (R ++ [y]).length = j + 2 := fun y => by rw [List.length_append, h0]; rfl
        have hD1 : ∀ y, eR 4 (R ++ [y]).length = .ref 4 (j + 1) (j + 2) := fun y => by rw [hn1]; rfl
        have hD2 : eR 4 (R.length + 1) = .ref 4 (j + 1) (j + 2) := by rw [h0]; rfl
        have hσ1 : ∀ y, rS (R ++ [y]) = .ent ⟨j + 1, some 12, 125, twoCells R ++ encT y.1 y.2, .cells⟩ := fun y => by
          unfold rS; rw [hn1, if_neg (by omega), twoCells_app]; simp [twoCells, twoRow]
        cases b1 <;> cases b2
        all_goals
          simp only [Bool.and_self, Bool.and_true, Bool.and_false, Bool.true_and, Bool.false_and, if_true, if_false, Bool.false_eq_true, List.append_nil] at hst
          repeat' first | (with_reducible first | refine AWP_seq' ?_ | refine k_normal ?_ | refine b_normal ?_ | refine AWP_skip ?_ | refine AWP_block ?_) | ((with_reducible refine And.intro ?_ ?_); · exact Sq) | ((first | with_reducible refine AWP_reg fun KC J hJ hKC => ?_ | with_reducible refine AWP_regD rfl fun KC J hJ hKC => ?_ | (refine hKC _ _ _ _ _ (callV0 (f1) rfl rfl rfl ?_ ?_); (· exact Lq)) | (refine hKC _ _ _ _ _ (callV0 (f2) rfl rfl rfl ?_ ?_); (· exact Lq)) | (refine hKC _ _ _ _ _ (callV0 (f3) rfl rfl rfl ?_ ?_); (· exact Lq)) | (refine hKC _ _ _ _ _ (callV0 (f4) rfl rfl rfl ?_ ?_); (· exact Lq))); simp (maxSteps := 10000000) only [push_cast, seval, ↓reduceIte, hD, hσ, undef, hlC, htC, hbm, Bool.not_true, Bool.not_false, backOf, callSets, renSlot, pick, mOf, idx, ren_twoCells]) | ((first | with_reducible refine hJ _ _ ?_ | (with_reducible refine hJ _ _ ?_ ?_; · kernel_rfl)); clear hJ hKC KC J) | ((with_reducible refine AWP_condT ?_ ?_); · rfl) | ((with_reducible refine AWP_condF ?_ ?_); · rfl)
        all_goals
          refine ⟨WeakU.of (n := 5) rfl ⟨[0, 1, 2, 3, 4], by decide, ?_, ?_⟩, rfl⟩
          · intro k hk
            match k, hk with
            | 0, _ => rfl
            | 1, _ => rfl
            | 2, _ => rfl
            | 3, _ => rfl
            | 4, _ => rfl
          · rw [hst]
            simp only [hD, hσ, hD1, hD2, hσ1, pick, List.map_cons, List.map_nil, List.map_append, getS, renSlot, ren_twoCells, push_cast, mOf, idx]
            exact leS_refl _
    · dsimp only
      rw [List.take_length]
      obtain ⟨R, hR⟩ : ∃ R, allOf s t L = R := ⟨_, rfl⟩
      rw [hR]
      rcases rS_case R with ⟨h0, hD, hσ⟩ | ⟨j, h0, hD, hσ⟩
      · subst h0
        simp only [show twoRow [] = [] from rfl]
        repeat' first | (with_reducible first | refine AWP_seq' ?_ | refine k_normal ?_ | refine b_normal ?_ | refine AWP_ret ?_) | ((with_reducible refine AWP_reg fun KC J hJ hKC => ?_); simp (maxSteps := 10000000) only [push_cast, seval, ↓reduceIte, hD, hσ]) | ((with_reducible refine hJ _ _ ?_); clear hJ hKC KC J)
        refine ret_plain ?_
        simp (maxSteps := 10000000) only [push_cast, seval, ↓reduceIte, show Try.f90.results = #[(.tmp 4), (.tmp 5)] from rfl]
        exact Lq
      · have hlC : (twoCells R).length = (j + 1) * 12 := by rw [twoCells_length, h0]
        have hcp : chunk 12 (j + 1) (twoCells R) = twoRow R := by rw [← h0]; exact chunk_two R
        have hbm : Nat.beq j j = true := Nat.beq_refl j
        simp only [hD, hσ, List.cons_append, List.nil_append]
        repeat' first | (refine AWP_freezeR 11 4 rfl (by (simp (maxSteps := 10000000) only [push_cast, seval, ↓reduceIte]) <;> rfl) ?_; simp (maxSteps := 10000000) only [push_cast, seval, ↓reduceIte, frSt, frSlot, fr3, fr2, fr1, fr0, sameB, arrOf, hlC, hcp, hbm]) | (with_reducible first | refine AWP_seq' ?_ | refine k_normal ?_ | refine b_normal ?_ | refine AWP_ret ?_) | ((with_reducible refine AWP_reg fun KC J hJ hKC => ?_); simp (maxSteps := 10000000) only [push_cast, seval, ↓reduceIte, hlC, hcp, hbm]) | ((with_reducible refine hJ _ _ ?_); clear hJ hKC KC J)
        refine ret_plain ?_
        simp (maxSteps := 10000000) only [push_cast, seval, ↓reduceIte, show Try.f90.results = #[(.tmp 4), (.tmp 5)] from rfl]
        exact Lq
  · obtain ⟨c, hc⟩ : ∃ c, mayT ns us s t = c := ⟨_, rfl⟩
    rw [hc] at h1 hm ⊢
    rw [if_neg hm]
    have hc' : (c != 0) = true := by simpa using hm
    simp only [encT, staF, List.cons_append, List.nil_append, show twoRow [] = [] from rfl] at h1 ⊢
    refine Fn.of (fn := Try.f90) (by kernel_rfl) rfl (by kernel_rfl) ⟨[.agg [.sl f 1 (strRow ns), .sl g 1 (u32Row us)], .agg [.v (.int .i64 s.v), .v (.int .i64 s.l), .sl false 3 (tRow s.code), .sl false 2 (pRow s.mem), .sl false 3 (sRow s.stack), .sl false 2 (pRow s.out), .v (.int .i64 t.v), .v (.int .i64 t.l), .sl false 3 (tRow t.code), .sl false 2 (pRow t.mem), .sl false 3 (sRow t.stack), .sl false 2 (pRow t.out)], .v undef, .v undef, .v undef, .v undef, .v undef, .v undef, .v undef, .v undef, .v undef, .v undef, .v undef, .v undef, .v undef, .v undef, .v undef, .v undef, .v undef, .v undef, .v undef, .v undef, .v undef, .v undef, .v undef, .v undef, .v undef, .v undef, .v undef, .v undef, .v undef, .v undef, .v undef, .v undef, .v undef, .v undef, .v undef, .v undef, .v undef, .v undef, .v undef, .v undef, .v undef, .v undef, .v undef, .v undef, .v undef, .v undef, .v undef, .v undef], []⟩ rfl ?_
    repeat' first | (with_reducible first | refine AWP_seq' ?_ | refine k_normal ?_ | refine k_ret ?_ | refine AWP_ret ?_) | ((first | with_reducible refine AWP_reg fun KC J hJ hKC => ?_ | (refine hKC _ _ _ _ _ (callV0 (h1) rfl rfl rfl ?_ ?_); (· exact Lq))); simp (maxSteps := 10000000) only [push_cast, seval, ↓reduceIte, hc']) | ((with_reducible refine hJ _ _ ?_); clear hJ hKC KC J) | ((with_reducible refine AWP_condT ?_ ?_); · rfl)
    refine ret_plain ?_
    simp (maxSteps := 10000000) only [push_cast, seval, ↓reduceIte, show Try.f90.results = #[(.tmp 4), (.tmp 5)] from rfl]
    exact Lq
end Go.Proofs.Ytabliglgeiajlaa.AM

/- Lattices cut short. -/
namespace Go.Proofs.Ytabliglgeiajlaa.AM
open Go Go.RowKit Go.Proofs
set_option maxRecDepth 100000
set_option maxHeartbeats 1000000

theorem take_minL {α : Type} {K : Int} {k : Nat} (h : K = k) (l : List α) : l.take (if K < (l.length : Int) then K else (l.length : Int)).toNat = l.take k := by
  subst h
  split
  · simp
  · rw [Int.toNat_natCast, List.take_length, List.take_of_length_le (by omega)]
def cutS (s : ByteArray) : ByteArray := s.extract 0 (if (15 : Int) < (s.size : Int) then 15 else (s.size : Int)).toNat
def fewL (xs : List ByteArray) (i : Nat) : List ByteArray := (xs.take i).map cutS
theorem fewL_length {xs : List ByteArray} {i : Nat} (h : i ≤ xs.length) : (fewL xs i).length = i := by simp [fewL]; omega
theorem fewL_succ {xs : List ByteArray} {i : Nat} {a : ByteArray} (h : xs[i]? = some a) : fewL xs (i + 1) = fewL xs i ++ [cutS a] := by
  obtain ⟨hi, rfl⟩ := List.getElem?_eq_some_iff.1 h
  rw [fewL, List.take_succ_eq_append_getElem hi, List.map_append]; rfl
def fσ (e1 e2 : Ent) (u : D) (xs : List ByteArray) : Nat → List Slot
  | 0 => [.ent e1, .ent e2, .ent ⟨0, none, 25, [.v (.slice none 0 0), u], .cells⟩]
  | i + 1 => [.ent e1, .ent e2, .ent ⟨0, none, 25, [.ref 4 i (i + 1), u], .cells⟩, .free, .ent ⟨i, some 1, 9, cellS (fewL xs (i + 1)), .cells⟩]
section
variable (e1 e2 : Ent) (u : D) (xs : List ByteArray)
theorem fσ_zero : fσ e1 e2 u xs 0 = [.ent e1, .ent e2, .ent ⟨0, none, 25, [.v (.slice none 0 0), u], .cells⟩] := rfl
theorem fσ_pos {i j : Nat} (h : i = j + 1) : fσ e1 e2 u xs i = [.ent e1, .ent e2, .ent ⟨0, none, 25, [.ref 4 j i, u], .cells⟩, .free, .ent ⟨j, some 1, 9, cellS (fewL xs i), .cells⟩] := by subst h; rfl
theorem fσ_one {a : ByteArray} (h : xs[0]? = some a) : fσ e1 e2 u xs (0 + 1) = [.ent e1, .ent e2, .ent ⟨0, none, 25, [.ref 4 0 1, u], .cells⟩, .free, .ent ⟨0, some 1, 9, [.v (.string (cutS a))], .cells⟩] := by
  rw [fσ_pos e1 e2 u xs rfl, fewL_succ h]; rfl
theorem fσ_succ {i j : Nat} (h : i = j + 1) {a : ByteArray} (hx : xs[i]? = some a) : fσ e1 e2 u xs (i + 1) = [.ent e1, .ent e2, .ent ⟨0, none, 25, [.ref 4 (j + 1) (i + 1), u], .cells⟩, .free, .ent ⟨j + 1, some 1, 9, cellS (fewL xs i) ++ [.v (.string (cutS a))], .cells⟩] := by
  rw [fσ_pos e1 e2 u xs rfl, fewL_succ hx, h]; simp [cellS]
end
theorem cutS_size (s : ByteArray) : (cutS s).size ≤ 9223372036854775807 := by
  unfold cutS
  rw [ByteArray.size_extract]
  split <;> omega
theorem szs_few (ns : List ByteArray) : Szs ((ns.take 10).map cutS) := by
  intro s hs
  obtain ⟨x, _, rfl⟩ := List.mem_map.1 hs
  exact cutS_size x
end Go.Proofs.Ytabliglgeiajlaa.AM

/- Law 21: what it cuts; that it is alive. -/
namespace Go.Proofs.Ytabliglgeiajlaa.AM
open Go Go.RowKit Go.Proofs
set_option maxRecDepth 100000
set_option maxHeartbeats 4000000

theorem few21_fn (f g : Bool) (ns : List ByteArray) (us : List Nat) :
    Fn Try.prog 88 [.agg [.sl f 1 (strRow ns), .sl g 1 (u32Row us)]] [] (.agg [.sl false 1 (strRow ((ns.take 10).map cutS)), .sl false 1 (u32Row (us.take 10))]) [] := by
  refine Fn.of (fn := Try.f88) (by kernel_rfl) rfl (by kernel_rfl) ⟨[.agg [.sl f 1 (strRow ns), .sl g 1 (u32Row us)], .v undef, .v undef, .v undef, .v undef, .v undef, .v undef, .v undef, .v undef, .v undef, .v undef, .v undef, .v undef, .v undef, .v undef, .v undef, .v undef, .v undef, .v undef, .v undef, .v undef, .v undef, .v undef, .v undef, .v undef, .v undef, .v undef, .v undef, .v undef, .v undef, .v undef, .v undef, .v undef, .v undef, .v undef, .v undef, .v undef, .v undef], []⟩ rfl ?_
  repeat' first | (with_reducible first | refine AWP_seq' ?_ | refine k_normal ?_ | refine AWP_block ?_) | ((with_reducible refine And.intro ?_ ?_); · exact Sq) | ((with_reducible refine AWP_reg fun KC J hJ hKC => ?_); simp (maxSteps := 10000000) only [push_cast, seval, ↓reduceIte, take_minL (K := 10) (k := 10) rfl ns, take_minL (K := 10) (k := 10) rfl us]) | ((with_reducible refine hJ _ _ ?_); clear hJ hKC KC J)
  obtain ⟨xs, hxs⟩ : ∃ xs, ns.take 10 = xs := ⟨_, rfl⟩
  have hx10 : xs.length ≤ 10 := by rw [← hxs]; simp; omega
  rw [hxs]
  refine AWP_loopF (γ := {i : Nat // i ≤ xs.length}) (fun i => ⟨[.any, .ptr 0 0 0, .ptr 1 0 0, .ptr 2 0 0, .any, .any, .any, .any, .any, .any, .any, .any, .any, .any, .any, .any, .any, .any, .any, .any, .sl false 1 (strRow xs), .v (.int .i64 xs.length), .v (.int .i64 i.1), .any, .any, .any, .any, .any, .any, .any, .any, .any, .any, .any, .any, .any, .any, .any], fσ ⟨0, none, 25, [.sl f 1 (strRow ns), .sl g 1 (u32Row us)], .cells⟩ ⟨0, none, 25, [.v (.slice none 0 0), .v (.slice none 0 0)], .cells⟩ (.sl false 1 (u32Row (us.take 10))) xs i.1⟩) (fun i => xs.length - i.1) ⟨0, by simp⟩ ⟨?_, ?_⟩ ?_
  · exact Lq
  · simp only [fσ]
    exact Fq
  rintro ⟨i, hi⟩
  obtain ⟨e1, he1⟩ : ∃ e1 : Ent, ⟨0, none, 25, [.sl f 1 (strRow ns), .sl g 1 (u32Row us)], .cells⟩ = e1 := ⟨_, rfl⟩
  rw [he1]
  by_cases hlt : (i : Int) < (xs.length : Int)
  · have hx : xs[i]? = some xs[i] := List.getElem?_eq_getElem (by omega)
    obtain ⟨a, ha⟩ : ∃ a, xs[i] = a := ⟨_, rfl⟩
    rw [ha] at hx
    have hcut : a.extract 0 (if (15 : Int) < (a.size : Int) then 15 else (a.size : Int)).toNat = cutS a := rfl
    rcases Nat.eq_zero_or_pos i with rfl | hpos
    · have hσ := fσ_zero e1 ⟨0, none, 25, [.v (.slice none 0 0), .v (.slice none 0 0)], .cells⟩ (.sl false 1 (u32Row (us.take 10))) xs
      have hσ1 := fσ_one e1 ⟨0, none, 25, [.v (.slice none 0 0), .v (.slice none 0 0)], .cells⟩ (.sl false 1 (u32Row (us.take 10))) xs hx
      have hlt0 : (0 : Int) < xs.length := hlt
      repeat' first | (with_reducible first | refine AWP_seq' ?_ | refine k_normal ?_ | refine b_normal ?_ | refine AWP_skip ?_ | refine AWP_block ?_) | ((with_reducible refine And.intro ?_ ?_); · exact Sq) | ((first | with_reducible refine AWP_reg fun KC J hJ hKC => ?_ | with_reducible refine AWP_regD rfl fun KC J hJ hKC => ?_); simp (maxSteps := 10000000) only [push_cast, seval, ↓reduceIte, hlt0, hσ, getE_str hx, hcut]) | ((first | with_reducible refine hJ _ _ ?_ | (with_reducible refine hJ _ _ ?_ ?_; · kernel_rfl)); clear hJ hKC KC J) | ((with_reducible refine AWP_condT ?_ ?_); · rfl)
      refine ⟨⟨0 + 1, by omega⟩, by simp only; omega, ?_, ?_⟩
      · exact Lq
      · simp only [hσ1]
        exact Fq
    · obtain ⟨i', hi'⟩ : ∃ i', i = i' + 1 := ⟨i - 1, by omega⟩
      have hσ := fσ_pos e1 ⟨0, none, 25, [.v (.slice none 0 0), .v (.slice none 0 0)], .cells⟩ (.sl false 1 (u32Row (us.take 10))) xs hi'
      have hσ1 := fσ_succ e1 ⟨0, none, 25, [.v (.slice none 0 0), .v (.slice none 0 0)], .cells⟩ (.sl false 1 (u32Row (us.take 10))) xs hi' hx
      have hlS : (cellS (fewL xs i)).length = i := by simp [cellS, fewL_length hi]
      have htS := take_of hlS
      have htS' : (cellS (fewL xs i)).take i = cellS (fewL xs i) := List.take_of_length_le (by omega)
      have hbq : Nat.beq i' i' = true := Nat.beq_refl i'
      repeat' first | (with_reducible first | refine AWP_seq' ?_ | refine k_normal ?_ | refine b_normal ?_ | refine AWP_skip ?_ | refine AWP_block ?_) | ((with_reducible refine And.intro ?_ ?_); · exact Sq) | ((first | with_reducible refine AWP_reg fun KC J hJ hKC => ?_ | with_reducible refine AWP_regD rfl fun KC J hJ hKC => ?_); simp (maxSteps := 10000000) only [push_cast, seval, ↓reduceIte, hlt, hσ, getE_str hx, hcut, hbq, hlS, htS, htS', wrapN (i := i) (n := xs.length) (by omega) (by omega)]) | ((first | with_reducible refine hJ _ _ ?_ | (with_reducible refine hJ _ _ ?_ ?_; · kernel_rfl)); clear hJ hKC KC J) | ((with_reducible refine AWP_condT ?_ ?_); · rfl)
      refine ⟨⟨i + 1, by omega⟩, by simp only; omega, ?_, ?_⟩
      · exact Lq
      · simp only [hσ1]
        exact Fq
  · have hix : i = xs.length := by omega
    have hfin : fewL xs i = xs.map cutS := by rw [fewL, hix, List.take_length]
    rcases Nat.eq_zero_or_pos i with rfl | hpos
    · have hσ := fσ_zero e1 ⟨0, none, 25, [.v (.slice none 0 0), .v (.slice none 0 0)], .cells⟩ (.sl false 1 (u32Row (us.take 10))) xs
      have hlt0 : ¬ (0 : Int) < xs.length := hlt
      repeat' first | (with_reducible first | refine AWP_seq' ?_ | refine k_normal ?_ | refine k_exit ?_ | refine b_exit ?_ | refine AWP_ret ?_ | refine AWP_exit ?_) | ((with_reducible refine AWP_reg fun KC J hJ hKC => ?_); simp (maxSteps := 10000000) only [push_cast, seval, ↓reduceIte, hlt0, hσ]) | ((with_reducible refine hJ _ _ ?_); clear hJ hKC KC J) | ((with_reducible refine AWP_condF ?_ ?_); · rfl)
      refine ret_plain ?_
      simp (maxSteps := 10000000) only [push_cast, seval, ↓reduceIte, show Try.f88.results = #[(.cell 2 25)] from rfl]
      rw [← hfin]
      exact Lq
    · obtain ⟨i', hi'⟩ : ∃ i', i = i' + 1 := ⟨i - 1, by omega⟩
      have hσ := fσ_pos e1 ⟨0, none, 25, [.v (.slice none 0 0), .v (.slice none 0 0)], .cells⟩ (.sl false 1 (u32Row (us.take 10))) xs hi'
      have hbq : Nat.beq i' i' = true := Nat.beq_refl i'
      have hlS : (cellS (fewL xs i)).length = i := by simp [cellS, fewL_length hi]
      have hcS : chunk 1 i (cellS (fewL xs i)) = strRow (fewL xs i) := by
        have := chunk_one (fun s : ByteArray => (.v (.string s) : D)) (fewL xs i)
        rw [fewL_length hi] at this; exact this
      subst he1
      repeat' first | (with_reducible first | refine AWP_seq' ?_ | refine k_normal ?_ | refine k_exit ?_ | refine b_exit ?_ | refine AWP_exit ?_) | ((with_reducible refine AWP_reg fun KC J hJ hKC => ?_); simp (maxSteps := 10000000) only [push_cast, seval, ↓reduceIte, hlt, hσ]) | ((with_reducible refine hJ _ _ ?_); clear hJ hKC KC J) | ((with_reducible refine AWP_condF ?_ ?_); · rfl)
      refine AWP_freeze 4 rfl (by simp (maxSteps := 10000000) only [push_cast, seval, ↓reduceIte]) ?_
      simp (maxSteps := 10000000) only [push_cast, seval, ↓reduceIte, frSt, frSlot, fr3, fr2, fr1, fr0, sameB, arrOf, hbq, hlS, hcS]
      refine AWP_ret ?_
      refine ret_plain ?_
      simp (maxSteps := 10000000) only [push_cast, seval, ↓reduceIte, show Try.f88.results = #[(.cell 2 25)] from rfl]
      rw [← hfin]
      exact Lq
/-- A state cut short. -/
theorem cut21_fn (fc fm fs fo : Bool) (s : Sta) : Fn Try.prog 89 [.agg (staF fc fm fs fo s)] [] (.agg (staF false false false false (cutSta s))) [] := by
  obtain ⟨v, l, code, mem, stack, out⟩ := s
  simp only [staF, cutSta]
  refine Fn.of (fn := Try.f89) (by kernel_rfl) rfl (by kernel_rfl) ⟨[.agg [.v (.int .i64 v), .v (.int .i64 l), .sl fc 3 (tRow code), .sl fm 2 (pRow mem), .sl fs 3 (sRow stack), .sl fo 2 (pRow out)], .v undef, .v undef, .v undef, .v undef, .v undef, .v undef, .v undef, .v undef, .v undef, .v undef, .v undef, .v undef, .v undef, .v undef, .v undef, .v undef, .v undef, .v undef, .v undef, .v undef, .v undef, .v undef, .v undef, .v undef, .v undef, .v undef, .v undef, .v undef, .v undef, .v undef, .v undef, .v undef, .v undef, .v undef, .v undef], []⟩ rfl ?_
  repeat' first | (with_reducible first | refine AWP_seq' ?_ | refine k_normal ?_ | refine AWP_ret ?_) | ((with_reducible refine And.intro ?_ ?_); · exact Sq) | ((first | with_reducible refine AWP_reg fun KC J hJ hKC => ?_ | with_reducible refine AWP_regD rfl fun KC J hJ hKC => ?_); simp (maxSteps := 10000000) only [push_cast, seval, ↓reduceIte, take_minL (K := 15) (k := 15) rfl code, take_minL (K := 15) (k := 15) rfl mem, take_minL (K := 15) (k := 15) rfl stack, take_minL (K := 15) (k := 15) rfl out]) | ((first | with_reducible refine hJ _ _ ?_ | (with_reducible refine hJ _ _ ?_ ?_; · kernel_rfl)); clear hJ hKC KC J)
  refine ret_plain ?_
  simp (maxSteps := 10000000) only [push_cast, seval, ↓reduceIte, show Try.f89.results = #[(.cell 2 84)] from rfl]
  exact leD_refl _

def nsQ21 : List ByteArray := [{ data := #[97] }, { data := #[98] }]
@[reducible] def aQ : Sta := ⟨0, 0, [], [(5, 1)], [], []⟩
@[reducible] def bQ : Sta := ⟨0, 0, [], [(7, 1)], [], []⟩
def alQ : List (Sta × Sta) := allM nsQ21 [3, 2] aQ bQ
theorem alive21_fn : Fn Try.prog 91 [] [] (.v (.bool true)) [] := by
  have hs : Szs nsQ21 := by
    intro s hs
    simp only [nsQ21, List.mem_cons, List.not_mem_nil, or_false] at hs
    rcases hs with rfl | rfl <;> (show 1 ≤ _; omega)
  have hu : U32 [3, 2] := by
    intro u hu
    simp at hu
    rcases hu with rfl | rfl <;> decide
  have sa : Sml aQ := ⟨by decide, by decide, by decide, by decide⟩
  have sb : Sml bQ := ⟨by decide, by decide, by decide, by decide⟩
  have hrep : RleF [.v (.int .i64 0), .v (.int .i64 0), .sl false 3 [], .sl true 2 (pRow [(5, 1)]), .sl false 3 [], .sl false 2 [], .v (.int .i64 0), .v (.int .i64 0), .sl false 3 [], .sl true 2 (pRow [(7, 1)]), .sl false 3 [], .sl false 2 []] (encT aQ bQ) :=
    .cons (.refl _) (.cons (.refl _) (.cons (.refl _) (.cons (.full _ _) (.cons (.refl _) (.cons (.refl _) (.cons (.refl _) (.cons (.refl _) (.cons (.refl _) (.cons (.full _ _) (.cons (.refl _) (.cons (.refl _) .nil)))))))))))
  have h1 := (mvMeasure_fn true true nsQ21 [3, 2] aQ bQ hs hu sa sb).pre (.cons (.refl _) (.cons (.agg hrep) .nil))
  have h2 := (mvAll_fn true true nsQ21 [3, 2] aQ bQ hs hu sa sb).pre (.cons (.refl _) (.cons (.agg hrep) .nil))
  rw [show measF nsQ21 [3, 2] aQ bQ = (2, 12, 2) by kernel_rfl, show mayT nsQ21 [3, 2] aQ bQ = 0 by kernel_rfl] at h1
  rw [show mayT nsQ21 [3, 2] aQ bQ = 0 by kernel_rfl, show allM nsQ21 [3, 2] aQ bQ = alQ from rfl] at h2
  have hl : (twoRow alQ).length = 8 := by kernel_rfl
  have hg : getE (twoRow alQ) 1 = [.v (.int .i64 0), .v (.int .i64 0), .sl false 3 [], .sl false 2 (pRow [(0, 1)]), .sl false 3 [], .sl false 2 [], .v (.int .i64 0), .v (.int .i64 0), .sl false 3 [], .sl false 2 (pRow [(0, 1)]), .sl false 3 [], .sl false 2 []] := by kernel_rfl
  have hp := getE_p (l := [(0, 1)]) (n := 0) rfl
  simp only [encZ] at h1
  generalize twoRow alQ = R at h2 hl hg
  refine Fn.of (fn := Try.f91) (by kernel_rfl) rfl (by kernel_rfl) ⟨[.v undef, .v undef, .v undef, .v undef, .v undef, .v undef, .v undef, .v undef, .v undef, .v undef, .v undef, .v undef, .v undef, .v undef, .v undef, .v undef, .v undef, .v undef, .v undef, .v undef, .v undef, .v undef, .v undef, .v undef, .v undef, .v undef, .v undef, .v undef, .v undef, .v undef, .v undef, .v undef, .v undef, .v undef, .v undef, .v undef, .v undef, .v undef, .v undef, .v undef, .v undef, .v undef, .v undef, .v undef, .v undef, .v undef, .v undef, .v undef, .v undef, .v undef, .v undef, .v undef, .v undef, .v undef, .v undef, .v undef], []⟩ rfl ?_
  repeat' first | (with_reducible first | refine AWP_seq' ?_ | refine k_normal ?_ | refine AWP_ret ?_) | ((first | with_reducible refine AWP_reg fun KC J hJ hKC => ?_ | (refine hKC _ _ _ _ _ (callV0 (h1) rfl rfl rfl ?_ ?_); (· exact Lq)) | (refine hKC _ _ _ _ _ (callV0 (h2) rfl rfl rfl ?_ ?_); (· exact Lq))); simp (maxSteps := 10000000) only [push_cast, seval, ↓reduceIte, hl, hg, hp, beq_self_eq_true, undef]) | ((with_reducible refine hJ _ _ ?_); clear hJ hKC KC J)
  refine ret_plain ?_
  simp (maxSteps := 10000000) only [push_cast, seval, ↓reduceIte, show Try.f91.results = #[(.tmp 0)] from rfl]
  exact Lq
end Go.Proofs.Ytabliglgeiajlaa.AM

/- Law 21: MovesLess. -/
namespace Go.Proofs.Ytabliglgeiajlaa.AM
open Go Go.RowKit Go.Proofs
set_option maxRecDepth 100000
set_option maxHeartbeats 4000000

theorem twoRow_length (R : List (Sta × Sta)) : (twoRow R).length = R.length := by simp [twoRow]
theorem getE_two {R : List (Sta × Sta)} {n : Nat} {y : Sta × Sta} (h : R[n]? = some y) : getE (twoRow R) n = encT y.1 y.2 := getE_map _ R n y h
theorem movesLess_fn (ns : List ByteArray) (us : List Nat) (s t : Sta) (hs : ∀ x ∈ ns, x.size ≤ maxLen) (hu : ∀ u ∈ us, u < 2 ^ 32) :
    Fn Try.prog 18 [.agg [.sl false 1 (strRow ns), .sl false 1 (u32Row us)], .agg (encT s t)] [] (.v (.bool true)) [] := by
  have hfew := few21_fn false false ns us
  have hcs := cut21_fn false false false false s
  have hct := cut21_fn false false false false t
  have hs10 := szs_few ns
  have hu10 : U32 (us.take 10) := fun u hu' => hu u (List.mem_of_mem_take hu')
  have ha15 := cutSta_15 s
  have hb15 := cutSta_15 t
  obtain ⟨N, hN⟩ : ∃ N, (ns.take 10).map cutS = N := ⟨_, rfl⟩
  obtain ⟨U, hU⟩ : ∃ U, us.take 10 = U := ⟨_, rfl⟩
  obtain ⟨A, hA⟩ : ∃ A, cutSta s = A := ⟨_, rfl⟩
  obtain ⟨B, hB⟩ : ∃ A, cutSta t = A := ⟨_, rfl⟩
  rw [hN] at hfew hs10
  rw [hU] at hfew hu10
  rw [hA] at hcs ha15
  rw [hB] at hct hb15
  have h1 := mvAll_fn false false N U A B hs10 hu10 ha15.sml hb15.sml
  have h2 := mvMeasure_fn false false N U A B hs10 hu10 ha15.sml hb15.sml
  have h4 := alive21_fn
  by_cases hm : mayT N U A B = 0
  · obtain ⟨hc, hA1, hB1⟩ := mayT_ok hm
    have hle : (allM N U A B).length ≤ 1000 := by
      have e0 := allOf_le A B (movesL (botI U) A B) (movesL (botI U) A B).length
      have e := A7_all A B (botI U)
      have e2 := A7_le A B (botI U) (placesF A).length
      have e3 := placesF_len A
      have := ha15.code
      have := ha15.mem
      have := ha15.stack
      have := hb15.stack
      rw [List.take_length, ← e] at e0
      unfold allM allF
      rw [if_pos hm, ← e]
      omega
    have hall : ∀ y ∈ allM N U A B, staB U.length y.1 = true ∧ staB U.length y.2 = true ∧ lexB (siz2 U y) (siz2 U (A, B)) = true ∧ lexB (siz2 U (A, B)) (siz2 U y) = false := by
      intro y hy
      unfold allM at hy
      rw [if_pos hm] at hy
      exact allF_less hc (botI_spec hc) hA1 hB1 hy
    unfold measF at h2
    rw [if_pos hm, hm] at h2
    rw [hm] at h1
    obtain ⟨R, hR⟩ : ∃ R, allM N U A B = R := ⟨_, rfl⟩
    obtain ⟨z, hz⟩ : ∃ z, siz2 U (A, B) = z := ⟨_, rfl⟩
    rw [hR] at h1 hle hall
    rw [hz] at h2 hall
    have hRl := twoRow_length R
    simp only [encT, staF, encZ, List.cons_append, List.nil_append] at hfew hcs hct h1 h2 ⊢
    refine Fn.of (fn := Try.f18) (by kernel_rfl) rfl (by kernel_rfl) ⟨[.agg [.sl false 1 (strRow ns), .sl false 1 (u32Row us)], .agg [.v (.int .i64 s.v), .v (.int .i64 s.l), .sl false 3 (tRow s.code), .sl false 2 (pRow s.mem), .sl false 3 (sRow s.stack), .sl false 2 (pRow s.out), .v (.int .i64 t.v), .v (.int .i64 t.l), .sl false 3 (tRow t.code), .sl false 2 (pRow t.mem), .sl false 3 (sRow t.stack), .sl false 2 (pRow t.out)], .v undef, .v undef, .v undef, .v undef, .v undef, .v undef, .v undef, .v undef, .v undef, .v undef, .v undef, .v undef, .v undef, .v undef, .v undef, .v undef, .v undef, .v undef, .v undef, .v undef, .v undef, .v undef, .v undef, .v undef, .v undef, .v undef, .v undef, .v undef, .v undef, .v undef, .v undef, .v undef, .v undef, .v undef, .v undef, .v undef, .v undef, .v undef, .v undef, .v undef, .v undef, .v undef, .v undef, .v undef, .v undef, .v undef, .v undef, .v undef, .v undef, .v undef, .v undef, .v undef, .v undef, .v undef, .v undef, .v undef, .v undef, .v undef, .v undef, .v undef, .v undef, .v undef, .v undef, .v undef, .v undef, .v undef, .v undef, .v undef, .v undef, .v undef, .v undef, .v undef, .v undef, .v undef, .v undef, .v undef, .v undef, .v undef, .v undef, .v undef, .v undef, .v undef, .v undef, .v undef, .v undef, .v undef, .v undef], []⟩ rfl ?_
    repeat' first | (refine AWP_freezeR 8 0 rfl (by (simp (maxSteps := 10000000) only [push_cast, seval, ↓reduceIte]) <;> rfl) ?_; simp (maxSteps := 10000000) only [push_cast, seval, ↓reduceIte, frSt, frSlot, fr3, fr2, fr1, fr0, sameB, arrOf, bne_self_eq_false, beq_self_eq_true, hRl, undef]) | (refine AWP_freezeR 8 1 rfl (by (simp (maxSteps := 10000000) only [push_cast, seval, ↓reduceIte]) <;> rfl) ?_; simp (maxSteps := 10000000) only [push_cast, seval, ↓reduceIte, frSt, frSlot, fr3, fr2, fr1, fr0, sameB, arrOf, bne_self_eq_false, beq_self_eq_true, hRl, undef]) | (refine AWP_freezeR 8 7 rfl (by (simp (maxSteps := 10000000) only [push_cast, seval, ↓reduceIte]) <;> rfl) ?_; simp (maxSteps := 10000000) only [push_cast, seval, ↓reduceIte, frSt, frSlot, fr3, fr2, fr1, fr0, sameB, arrOf, bne_self_eq_false, beq_self_eq_true, hRl, undef]) | (with_reducible first | refine AWP_seq' ?_ | refine k_normal ?_ | refine k_ret ?_ | refine k_exit ?_ | refine b_normal ?_ | refine b_ret ?_ | refine b_exit ?_ | refine b_pass rfl ?_ | refine AWP_ret ?_ | refine AWP_skip ?_ | refine AWP_exit ?_ | refine AWP_block ?_) | ((with_reducible refine And.intro ?_ ?_); · exact Sq) | ((first | with_reducible refine AWP_reg fun KC J hJ hKC => ?_ | with_reducible refine AWP_regD rfl fun KC J hJ hKC => ?_ | (refine hKC _ _ _ _ _ (callV0 (hfew) rfl rfl rfl ?_ ?_); (· exact Lq)) | (refine hKC _ _ _ _ _ (callV0 (hcs) rfl rfl rfl ?_ ?_); (· exact Lq)) | (refine hKC _ _ _ _ _ (callV0 (hct) rfl rfl rfl ?_ ?_); (· exact Lq)) | (refine hKC _ _ _ _ _ (callV0 (h1) rfl rfl rfl ?_ ?_); (· exact Lq)) | (refine hKC _ _ _ _ _ (callV0 (h2) rfl rfl rfl ?_ ?_); (· exact Lq)) | (refine hKC _ _ _ _ _ (callV0 (h4) rfl rfl rfl ?_ ?_); (· exact Lq))); simp (maxSteps := 10000000) only [push_cast, seval, ↓reduceIte, bne_self_eq_false, beq_self_eq_true, hRl, undef]) | ((first | with_reducible refine hJ _ _ ?_ | (with_reducible refine hJ _ _ ?_ ?_; · kernel_rfl)); clear hJ hKC KC J) | ((with_reducible refine AWP_condT ?_ ?_); · rfl) | ((with_reducible refine AWP_condF ?_ ?_); · rfl) | ((with_reducible refine ite_intro (fun hs => ?_) (fun hs => ?_)) <;> (try simp only [Bool.not_eq_true, Bool.not_eq_false, Bool.not_eq_true', Bool.not_eq_false', Decidable.not_not, decide_eq_true_eq, decide_eq_false_iff_not] at hs) <;> (try simp (maxSteps := 10000000) only [push_cast, seval, ↓reduceIte, hs, bne_self_eq_false, beq_self_eq_true, hRl, undef])) | (refine AWP_cond rfl (fun h => ?_) (fun h => ?_) <;> try simp only [decide_eq_true_eq, decide_eq_false_iff_not, Bool.not_eq_true', Bool.not_eq_false', beq_iff_eq, bne_iff_ne, ne_eq, Bool.not_eq_true, Bool.or_eq_true, Bool.and_eq_true, Bool.or_eq_false_iff, Bool.and_eq_false_imp, beq_eq_false_iff_ne, bne_eq_false_iff_eq] at h)
    refine AWP_loopD 9 (γ := {i : Nat // i ≤ R.length}) (fun i => ⟨[.any, .any, .fad [.sl false 1 (strRow N), .sl false 1 (u32Row U)], .any, .any, .any, .any, .fad [.v (.int .i64 z.1), .v (.int .i64 z.2.1), .v (.int .i64 z.2.2)], .any, .any, .any, .any, .any, .any, .any, .any, .any, .any, .any, .any, .any, .any, .any, .any, .any, .any, .any, .any, .any, .any, .any, .any, .any, .any, .any, .any, .any, .any, .any, .any, .any, .any, .any, .any, .any, .any, .any, .any, .any, .sl false 12 (twoRow R), .v (.int .i64 R.length), .v (.int .i64 i.1), .any, .any, .any, .any, .any, .any, .any, .any, .any, .any, .any, .any, .any, .any, .any, .any, .any, .any, .any, .any, .any, .any, .any, .any, .any, .any, .any, .any, .any, .any, .any, .any, .any, .any, .any, .any, .any], [.dead, .dead, .free, .free, .free, .free, .free, .dead, .free]⟩) (fun i => R.length - i.1) ⟨0, by omega⟩ (fun i => rfl) (fun i => rfl) (fun i => rfl) ⟨?_, ?_⟩ ?_
    · exact Lq
    · exact Fq
    rintro ⟨i, hi⟩
    dsimp only
    by_cases hlt : (i : Int) < (R.length : Int)
    · have hx : R[i]? = some R[i] := List.getElem?_eq_getElem (by omega)
      obtain ⟨y, hy⟩ : ∃ y, R[i] = y := ⟨_, rfl⟩
      rw [hy] at hx
      obtain ⟨y1, y2, l1, l2⟩ := hall y (List.mem_of_getElem? hx)
      have hge := getE_two hx
      have my : mayT N U y.1 y.2 = 0 := by unfold mayT; rw [if_pos hc, if_pos ⟨y1, y2⟩]
      have g1 := mvMeasure_fn false false N U y.1 y.2 hs10 hu10 (sta_sml y1) (sta_sml y2)
      have g2 := stRight_fn false false N U y.1 hs10 hu10 hc (sta_sml y1)
      have g3 := stRight_fn false false N U y.2 hs10 hu10 hc (sta_sml y2)
      have g4 := mvLess_fn (siz2 U y) z
      have g5 := mvLess_fn z (siz2 U y)
      unfold measF at g1
      rw [if_pos my, my] at g1
      rw [y1] at g2
      rw [y2] at g3
      rw [l1] at g4
      rw [l2] at g5
      rw [show siz2 U (y.1, y.2) = siz2 U y from rfl] at g1
      obtain ⟨w, hw⟩ : ∃ w, siz2 U y = w := ⟨_, rfl⟩
      rw [hw] at g1 g4 g5
      simp only [encT, staF, encZ, List.cons_append, List.nil_append] at g1 g2 g3 g4 g5 hge
      repeat' first | (with_reducible first | refine AWP_seq' ?_ | refine k_normal ?_ | refine k_ret ?_ | refine k_exit ?_ | refine b_normal ?_ | refine b_ret ?_ | refine b_exit ?_ | refine b_pass rfl ?_ | refine AWP_ret ?_ | refine AWP_skip ?_ | refine AWP_exit ?_ | refine AWP_block ?_) | ((with_reducible refine And.intro ?_ ?_); · exact Sq) | ((first | with_reducible refine AWP_reg fun KC J hJ hKC => ?_ | with_reducible refine AWP_regD rfl fun KC J hJ hKC => ?_ | (refine hKC _ _ _ _ _ (callV0 (g1) rfl rfl rfl ?_ ?_); (· exact Lq)) | (refine hKC _ _ _ _ _ (callV0 (g2) rfl rfl rfl ?_ ?_); (· exact Lq)) | (refine hKC _ _ _ _ _ (callV0 (g3) rfl rfl rfl ?_ ?_); (· exact Lq)) | (refine hKC _ _ _ _ _ (callV0 (g4) rfl rfl rfl ?_ ?_); (· exact Lq)) | (refine hKC _ _ _ _ _ (callV0 (g5) rfl rfl rfl ?_ ?_); (· exact Lq))); simp (maxSteps := 10000000) only [push_cast, seval, ↓reduceIte, hlt, hRl, hge, bne_self_eq_false, beq_self_eq_true, undef, Bool.not_true, Bool.not_false, wrapN (i := i) (n := R.length) (by omega) (by omega)]) | ((first | with_reducible refine hJ _ _ ?_ | (with_reducible refine hJ _ _ ?_ ?_; · kernel_rfl)); clear hJ hKC KC J) | ((with_reducible refine AWP_condT ?_ ?_); · rfl) | ((with_reducible refine AWP_condF ?_ ?_); · rfl) | ((with_reducible refine ite_intro (fun hs => ?_) (fun hs => ?_)) <;> (try simp only [Bool.not_eq_true, Bool.not_eq_false, Bool.not_eq_true', Bool.not_eq_false', Decidable.not_not, decide_eq_true_eq, decide_eq_false_iff_not] at hs) <;> (try simp (maxSteps := 10000000) only [push_cast, seval, ↓reduceIte, hs, hlt, hRl, hge, bne_self_eq_false, beq_self_eq_true, undef, Bool.not_true, Bool.not_false, wrapN (i := i) (n := R.length) (by omega) (by omega)])) | (refine AWP_cond rfl (fun h => ?_) (fun h => ?_) <;> try simp only [decide_eq_true_eq, decide_eq_false_iff_not, Bool.not_eq_true', Bool.not_eq_false', beq_iff_eq, bne_iff_ne, ne_eq, Bool.not_eq_true, Bool.or_eq_true, Bool.and_eq_true, Bool.or_eq_false_iff, Bool.and_eq_false_imp, beq_eq_false_iff_ne, bne_eq_false_iff_eq] at h)
      refine ⟨⟨i + 1, by omega⟩, by simp only; omega, ?_, ⟨_, rfl⟩⟩
      exact Lq
    · skip
      repeat' first | (with_reducible first | refine AWP_seq' ?_ | refine k_normal ?_ | refine k_ret ?_ | refine k_exit ?_ | refine b_normal ?_ | refine b_ret ?_ | refine b_exit ?_ | refine b_pass rfl ?_ | refine AWP_ret ?_ | refine AWP_skip ?_ | refine AWP_exit ?_ | refine AWP_block ?_) | ((with_reducible refine And.intro ?_ ?_); · exact Sq) | ((first | with_reducible refine AWP_reg fun KC J hJ hKC => ?_ | with_reducible refine AWP_regD rfl fun KC J hJ hKC => ?_); simp (maxSteps := 10000000) only [push_cast, seval, ↓reduceIte, hlt]) | ((first | with_reducible refine hJ _ _ ?_ | (with_reducible refine hJ _ _ ?_ ?_; · kernel_rfl)); clear hJ hKC KC J) | ((with_reducible refine AWP_condT ?_ ?_); · rfl) | ((with_reducible refine AWP_condF ?_ ?_); · rfl) | ((with_reducible refine ite_intro (fun hs => ?_) (fun hs => ?_)) <;> (try simp only [Bool.not_eq_true, Bool.not_eq_false, Bool.not_eq_true', Bool.not_eq_false', Decidable.not_not, decide_eq_true_eq, decide_eq_false_iff_not] at hs) <;> (try simp (maxSteps := 10000000) only [push_cast, seval, ↓reduceIte, hs, hlt])) | (refine AWP_cond rfl (fun h => ?_) (fun h => ?_) <;> try simp only [decide_eq_true_eq, decide_eq_false_iff_not, Bool.not_eq_true', Bool.not_eq_false', beq_iff_eq, bne_iff_ne, ne_eq, Bool.not_eq_true, Bool.or_eq_true, Bool.and_eq_true, Bool.or_eq_false_iff, Bool.and_eq_false_imp, beq_eq_false_iff_ne, bne_eq_false_iff_eq] at h)
      refine ret_plain ?_
      simp (maxSteps := 10000000) only [push_cast, seval, ↓reduceIte, show Try.f18.results = #[(.tmp 4)] from rfl]
      exact Lq
  · unfold allM at h1
    rw [if_neg hm] at h1
    obtain ⟨c, hc⟩ : ∃ c, mayT N U A B = c := ⟨_, rfl⟩
    rw [hc] at h1 hm
    have hc' : (c != 0) = true := by simpa using hm
    simp only [encT, staF, List.cons_append, List.nil_append, show twoRow [] = [] from rfl] at hfew hcs hct h1 ⊢
    refine Fn.of (fn := Try.f18) (by kernel_rfl) rfl (by kernel_rfl) ⟨[.agg [.sl false 1 (strRow ns), .sl false 1 (u32Row us)], .agg [.v (.int .i64 s.v), .v (.int .i64 s.l), .sl false 3 (tRow s.code), .sl false 2 (pRow s.mem), .sl false 3 (sRow s.stack), .sl false 2 (pRow s.out), .v (.int .i64 t.v), .v (.int .i64 t.l), .sl false 3 (tRow t.code), .sl false 2 (pRow t.mem), .sl false 3 (sRow t.stack), .sl false 2 (pRow t.out)], .v undef, .v undef, .v undef, .v undef, .v undef, .v undef, .v undef, .v undef, .v undef, .v undef, .v undef, .v undef, .v undef, .v undef, .v undef, .v undef, .v undef, .v undef, .v undef, .v undef, .v undef, .v undef, .v undef, .v undef, .v undef, .v undef, .v undef, .v undef, .v undef, .v undef, .v undef, .v undef, .v undef, .v undef, .v undef, .v undef, .v undef, .v undef, .v undef, .v undef, .v undef, .v undef, .v undef, .v undef, .v undef, .v undef, .v undef, .v undef, .v undef, .v undef, .v undef, .v undef, .v undef, .v undef, .v undef, .v undef, .v undef, .v undef, .v undef, .v undef, .v undef, .v undef, .v undef, .v undef, .v undef, .v undef, .v undef, .v undef, .v undef, .v undef, .v undef, .v undef, .v undef, .v undef, .v undef, .v undef, .v undef, .v undef, .v undef, .v undef, .v undef, .v undef, .v undef, .v undef, .v undef, .v undef, .v undef], []⟩ rfl ?_
    repeat' first | (with_reducible first | refine AWP_seq' ?_ | refine k_normal ?_ | refine k_ret ?_ | refine k_exit ?_ | refine b_normal ?_ | refine b_ret ?_ | refine b_exit ?_ | refine b_pass rfl ?_ | refine AWP_ret ?_ | refine AWP_skip ?_ | refine AWP_exit ?_ | refine AWP_block ?_) | ((with_reducible refine And.intro ?_ ?_); · exact Sq) | ((first | with_reducible refine AWP_reg fun KC J hJ hKC => ?_ | with_reducible refine AWP_regD rfl fun KC J hJ hKC => ?_ | (refine hKC _ _ _ _ _ (callV0 (hfew) rfl rfl rfl ?_ ?_); (· exact Lq)) | (refine hKC _ _ _ _ _ (callV0 (hcs) rfl rfl rfl ?_ ?_); (· exact Lq)) | (refine hKC _ _ _ _ _ (callV0 (hct) rfl rfl rfl ?_ ?_); (· exact Lq)) | (refine hKC _ _ _ _ _ (callV0 (h1) rfl rfl rfl ?_ ?_); (· exact Lq)) | (refine hKC _ _ _ _ _ (callV0 (h4) rfl rfl rfl ?_ ?_); (· exact Lq))); simp (maxSteps := 10000000) only [push_cast, seval, ↓reduceIte, hc', undef, beq_self_eq_true]) | ((first | with_reducible refine hJ _ _ ?_ | (with_reducible refine hJ _ _ ?_ ?_; · kernel_rfl)); clear hJ hKC KC J) | ((with_reducible refine AWP_condT ?_ ?_); · rfl) | ((with_reducible refine AWP_condF ?_ ?_); · rfl) | ((with_reducible refine ite_intro (fun hs => ?_) (fun hs => ?_)) <;> (try simp only [Bool.not_eq_true, Bool.not_eq_false, Bool.not_eq_true', Bool.not_eq_false', Decidable.not_not, decide_eq_true_eq, decide_eq_false_iff_not] at hs) <;> (try simp (maxSteps := 10000000) only [push_cast, seval, ↓reduceIte, hs, hc', undef, beq_self_eq_true])) | (refine AWP_cond rfl (fun h => ?_) (fun h => ?_) <;> try simp only [decide_eq_true_eq, decide_eq_false_iff_not, Bool.not_eq_true', Bool.not_eq_false', beq_iff_eq, bne_iff_ne, ne_eq, Bool.not_eq_true, Bool.or_eq_true, Bool.and_eq_true, Bool.or_eq_false_iff, Bool.and_eq_false_imp, beq_eq_false_iff_ne, bne_eq_false_iff_eq] at h)
    refine ret_plain ?_
    simp (maxSteps := 10000000) only [push_cast, seval, ↓reduceIte, show Try.f18.results = #[(.tmp 4)] from rfl]
    exact Lq
end Go.Proofs.Ytabliglgeiajlaa.AM

/- The kinds of what comes in. -/
namespace Go.Proofs.Ytabliglgeiajlaa.AM
open Go Go.RowKit Go.Proofs
set_option maxRecDepth 100000

abbrev kInt : Kk := .int .i64
theorem conf_int : Conf Try.prog (.ty 3) kInt := .int Try.underlying3
theorem is_int {e : D} (h : Shape kInt [e]) : ∃ n, e = .v (.int .i64 n) := by obtain ⟨n, rfl, _⟩ := shape_int h; exact ⟨n, rfl⟩
end Go.Proofs.Ytabliglgeiajlaa.AM

/- The kinds of what comes in: pairs of numbers. -/
namespace Go.Proofs.Ytabliglgeiajlaa.AM
open Go Go.RowKit Go.Proofs
set_option maxRecDepth 100000

abbrev kPair : Kk := .pair kInt (.pair kInt .unit)
theorem is_pair {ds : List D} (h : Shape kPair ds) : ∃ p : Int × Int, ds = [.v (.int .i64 p.1), .v (.int .i64 p.2)] := by
  obtain ⟨a, b, rfl, h1, h2⟩ := shape_pair h
  obtain ⟨c, d, rfl, h3, h4⟩ := shape_pair h2
  cases shape_unit h4
  obtain ⟨e1, rfl, h1⟩ := shape_one h1 rfl
  obtain ⟨e2, rfl, h3⟩ := shape_one h3 rfl
  obtain ⟨n, rfl⟩ := is_int h1
  obtain ⟨m, rfl⟩ := is_int h3
  exact ⟨(n, m), rfl⟩
end Go.Proofs.Ytabliglgeiajlaa.AM

/- The kinds of what comes in: strings, lattices. -/
namespace Go.Proofs.Ytabliglgeiajlaa.AM
open Go Go.RowKit Go.Proofs
set_option maxRecDepth 100000

abbrev kStr : Kk := .str
abbrev kStrs : Kk := .sl kStr
abbrev kU32 : Kk := .int .u32
abbrev kU32s : Kk := .sl kU32
abbrev kLat : Kk := .pair kStrs (.pair kU32s .unit)
theorem conf_str : Conf Try.prog (.ty 9) kStr := .str Try.underlying9
theorem conf_strs : Conf Try.prog (.ty 22) kStrs := .sl Try.underlying22 (by kernel_rfl) (by decide) conf_str
theorem conf_u32 : Conf Try.prog (.ty 143) kU32 := .int Try.underlying143
theorem conf_u32s : Conf Try.prog (.ty 23) kU32s := .sl Try.underlying23 (by kernel_rfl) (by decide) conf_u32
theorem conf_lat : Conf Try.prog (.ty 25) (.st kLat) := .st Try.underlying25 (by kernel_rfl) (.pair rfl (by kernel_rfl) conf_strs (.pair rfl (by kernel_rfl) conf_u32s .unit))
theorem is_str {e : D} (h : Shape kStr [e]) : ∃ s : ByteArray, e = .v (.string s) ∧ s.size ≤ maxLen := shape_str h
theorem is_strs {e : D} (h : Shape kStrs [e]) : ∃ l, e = .sl false 1 (strRow l) ∧ (∀ s ∈ l, s.size ≤ maxLen) ∧ l.length ≤ maxLen := by
  obtain ⟨xs, rfl, h1, h2⟩ := shape_sl h
  obtain ⟨l, rfl⟩ := shape_rows (fun s : { s : ByteArray // s.size ≤ maxLen } => [D.v (.string s.1)]) (fun x hx => by
    obtain ⟨e, rfl, he⟩ := shape_one hx rfl
    obtain ⟨n, rfl, hn⟩ := is_str he
    exact ⟨⟨n, hn⟩, rfl⟩) h1
  refine ⟨l.map (·.1), by simp [strRow, List.map_map]; rfl, fun s hs => ?_, by simpa using h2⟩
  obtain ⟨x, _, rfl⟩ := List.mem_map.1 hs
  exact x.2
theorem is_u32 {e : D} (h : Shape kU32 [e]) : ∃ u : Nat, e = .v (.int .u32 (uv u)) ∧ u < 2 ^ 32 := by
  obtain ⟨n, rfl, hw⟩ := shape_int h
  have h2 : 0 ≤ n ∧ n < 4294967296 := by
    simp only [Lit.wf, Bool.and_eq_true, decide_eq_true_eq] at hw
    have e1 : IntKind.u32.min = 0 := rfl
    have e2 : IntKind.u32.max = 4294967295 := by decide
    omega
  refine ⟨n.toNat, ?_, by omega⟩
  rw [uv, Int.toNat_of_nonneg h2.1]
theorem is_u32s {e : D} (h : Shape kU32s [e]) : ∃ l, e = .sl false 1 (u32Row l) ∧ U32 l ∧ l.length ≤ maxLen := by
  obtain ⟨xs, rfl, h1, h2⟩ := shape_sl h
  obtain ⟨l, rfl⟩ := shape_rows (fun u : { u : Nat // u < 2 ^ 32 } => [D.v (.int .u32 (uv u.1))]) (fun x hx => by
    obtain ⟨e, rfl, he⟩ := shape_one hx rfl
    obtain ⟨n, rfl, hn⟩ := is_u32 he
    exact ⟨⟨n, hn⟩, rfl⟩) h1
  refine ⟨l.map (·.1), by simp [u32Row, List.map_map]; rfl, fun s hs => ?_, by simpa using h2⟩
  obtain ⟨x, _, rfl⟩ := List.mem_map.1 hs
  exact x.2
structure NsOk (ns : List ByteArray) : Prop where
  szs : Szs ns
  len : ns.length ≤ maxLen
structure UsOk (us : List Nat) : Prop where
  u32 : U32 us
  len : us.length ≤ maxLen
theorem is_lat {ds : List D} (h : Shape kLat ds) : ∃ ns us, D.agg ds = .agg [.sl false 1 (strRow ns), .sl false 1 (u32Row us)] ∧ NsOk ns ∧ UsOk us := by
  obtain ⟨a, b, rfl, h1, h2⟩ := shape_pair h
  obtain ⟨c, d, rfl, h3, h4⟩ := shape_pair h2
  cases shape_unit h4
  obtain ⟨e1, rfl, h1⟩ := shape_one h1 rfl
  obtain ⟨e2, rfl, h3⟩ := shape_one h3 rfl
  obtain ⟨ns, rfl, h5, h6⟩ := is_strs h1
  obtain ⟨us, rfl, h7, h8⟩ := is_u32s h3
  exact ⟨ns, us, rfl, ⟨fun s hs => Nat.le_trans (h5 s hs) (by decide), h6⟩, ⟨h7, h8⟩⟩
end Go.Proofs.Ytabliglgeiajlaa.AM

/- The kinds of what comes in: states. -/
namespace Go.Proofs.Ytabliglgeiajlaa.AM
open Go Go.RowKit Go.Proofs
set_option maxRecDepth 100000

abbrev kTrip : Kk := .pair kInt (.pair kInt (.pair kInt .unit))
abbrev kSlot : Kk := .pair .bool (.pair kInt (.pair kInt .unit))
abbrev kSta : Kk := .pair (.st kPair) (.pair (.sl (.st kTrip)) (.pair (.sl (.st kPair)) (.pair (.sl (.st kSlot)) (.pair (.sl (.st kPair)) .unit))))
theorem conf_atom : Conf Try.prog (.ty 79) (.st kPair) := .st Try.underlying79 (by kernel_rfl) (.pair rfl (by kernel_rfl) conf_int (.pair rfl (by kernel_rfl) conf_int .unit))
theorem conf_instr : Conf Try.prog (.ty 172) (.st kTrip) := .st Try.underlying172 (by kernel_rfl) (.pair rfl (by kernel_rfl) conf_int (.pair rfl (by kernel_rfl) conf_int (.pair rfl (by kernel_rfl) conf_int .unit)))
theorem conf_slot : Conf Try.prog (.ty 113) (.st kSlot) := .st Try.underlying113 (by kernel_rfl) (.pair rfl (by kernel_rfl) (.bool Try.underlying4) (.pair rfl (by kernel_rfl) conf_int (.pair rfl (by kernel_rfl) conf_int .unit)))
theorem conf_atoms : Conf Try.prog (.ty 81) (.sl (.st kPair)) := .sl Try.underlying81 (by kernel_rfl) (by decide) conf_atom
theorem conf_instrs : Conf Try.prog (.ty 80) (.sl (.st kTrip)) := .sl Try.underlying80 (by kernel_rfl) (by decide) conf_instr
theorem conf_slots : Conf Try.prog (.ty 82) (.sl (.st kSlot)) := .sl Try.underlying82 (by kernel_rfl) (by decide) conf_slot
theorem conf_state : Conf Try.prog (.ty 84) (.st kSta) := .st Try.underlying84 (by kernel_rfl) (.pair rfl (by kernel_rfl) conf_atom (.pair rfl (by kernel_rfl) conf_instrs (.pair rfl (by kernel_rfl) conf_atoms (.pair rfl (by kernel_rfl) conf_slots (.pair rfl (by kernel_rfl) conf_atoms .unit)))))
theorem is_trip {ds : List D} (h : Shape kTrip ds) : ∃ p : Int × Int × Int, ds = [.v (.int .i64 p.1), .v (.int .i64 p.2.1), .v (.int .i64 p.2.2)] := by
  obtain ⟨a, b, rfl, h1, h2⟩ := shape_pair h
  obtain ⟨c, d, rfl, h3, h4⟩ := shape_pair h2
  obtain ⟨e, g, rfl, h5, h6⟩ := shape_pair h4
  cases shape_unit h6
  obtain ⟨e1, rfl, h1⟩ := shape_one h1 rfl
  obtain ⟨e2, rfl, h3⟩ := shape_one h3 rfl
  obtain ⟨e3, rfl, h5⟩ := shape_one h5 rfl
  obtain ⟨n, rfl⟩ := is_int h1
  obtain ⟨m, rfl⟩ := is_int h3
  obtain ⟨k, rfl⟩ := is_int h5
  exact ⟨(n, m, k), rfl⟩
theorem isK_slot {ds : List D} (h : Shape kSlot ds) : ∃ p : Bool × Int × Int, ds = [.v (.bool p.1), .v (.int .i64 p.2.1), .v (.int .i64 p.2.2)] := by
  obtain ⟨a, b, rfl, h1, h2⟩ := shape_pair h
  obtain ⟨c, d, rfl, h3, h4⟩ := shape_pair h2
  obtain ⟨e, g, rfl, h5, h6⟩ := shape_pair h4
  cases shape_unit h6
  obtain ⟨e1, rfl, h1⟩ := shape_one h1 rfl
  obtain ⟨e2, rfl, h3⟩ := shape_one h3 rfl
  obtain ⟨e3, rfl, h5⟩ := shape_one h5 rfl
  obtain ⟨n, rfl⟩ := shape_bool h1
  obtain ⟨m, rfl⟩ := is_int h3
  obtain ⟨k, rfl⟩ := is_int h5
  exact ⟨(n, m, k), rfl⟩
theorem is_atoms {e : D} (h : Shape (.sl (.st kPair)) [e]) : ∃ l, e = .sl false 2 (pRow l) := by
  obtain ⟨xs, rfl, h1, h2⟩ := shape_sl h
  obtain ⟨l, rfl⟩ := shape_rows (fun p : Int × Int => [D.v (.int .i64 p.1), .v (.int .i64 p.2)]) (fun x hx => is_pair (shape_st hx)) h1
  exact ⟨l, rfl⟩
theorem is_instrs {e : D} (h : Shape (.sl (.st kTrip)) [e]) : ∃ l, e = .sl false 3 (tRow l) := by
  obtain ⟨xs, rfl, h1, h2⟩ := shape_sl h
  obtain ⟨l, rfl⟩ := shape_rows (fun p : Int × Int × Int => [D.v (.int .i64 p.1), .v (.int .i64 p.2.1), .v (.int .i64 p.2.2)]) (fun x hx => is_trip (shape_st hx)) h1
  exact ⟨l, rfl⟩
theorem is_slots {e : D} (h : Shape (.sl (.st kSlot)) [e]) : ∃ l, e = .sl false 3 (sRow l) := by
  obtain ⟨xs, rfl, h1, h2⟩ := shape_sl h
  obtain ⟨l, rfl⟩ := shape_rows (fun p : Bool × Int × Int => [D.v (.bool p.1), .v (.int .i64 p.2.1), .v (.int .i64 p.2.2)]) (fun x hx => isK_slot (shape_st hx)) h1
  exact ⟨l, rfl⟩
theorem is_state {ds : List D} (h : Shape kSta ds) : ∃ s : Sta, D.agg ds = .agg (staF false false false false s) := by
  obtain ⟨a, b, rfl, h1, h2⟩ := shape_pair h
  obtain ⟨c, d, rfl, h3, h4⟩ := shape_pair h2
  obtain ⟨e, g, rfl, h5, h6⟩ := shape_pair h4
  obtain ⟨i, j, rfl, h7, h8⟩ := shape_pair h6
  obtain ⟨k, l, rfl, h9, h10⟩ := shape_pair h8
  cases shape_unit h10
  obtain ⟨p, rfl⟩ := is_pair (shape_st h1)
  obtain ⟨e1, rfl, h3⟩ := shape_one h3 rfl
  obtain ⟨e2, rfl, h5⟩ := shape_one h5 rfl
  obtain ⟨e3, rfl, h7⟩ := shape_one h7 rfl
  obtain ⟨e4, rfl, h9⟩ := shape_one h9 rfl
  obtain ⟨l1, rfl⟩ := is_instrs h3
  obtain ⟨l2, rfl⟩ := is_atoms h5
  obtain ⟨l3, rfl⟩ := is_slots h7
  obtain ⟨l4, rfl⟩ := is_atoms h9
  exact ⟨⟨p.1, p.2, l1, l2, l3, l4⟩, rfl⟩
end Go.Proofs.Ytabliglgeiajlaa.AM

/- The kinds of what comes in: two states, sizes. -/
namespace Go.Proofs.Ytabliglgeiajlaa.AM
open Go Go.RowKit Go.Proofs
set_option maxRecDepth 100000

abbrev kTwo : Kk := .pair (.st kSta) (.pair (.st kSta) .unit)
theorem conf_two : Conf Try.prog (.ty 125) (.st kTwo) := .st Try.underlying125 (by kernel_rfl) (.pair rfl (by kernel_rfl) conf_state (.pair rfl (by kernel_rfl) conf_state .unit))
theorem is_two {ds : List D} (h : Shape kTwo ds) : ∃ s t : Sta, D.agg ds = .agg (encT s t) := by
  obtain ⟨a, b, rfl, h1, h2⟩ := shape_pair h
  obtain ⟨c, d, rfl, h3, h4⟩ := shape_pair h2
  cases shape_unit h4
  obtain ⟨s, hs⟩ := is_state (shape_st h1)
  obtain ⟨t, ht⟩ := is_state (shape_st h3)
  cases hs
  cases ht
  exact ⟨s, t, by rw [List.append_nil]⟩
end Go.Proofs.Ytabliglgeiajlaa.AM
