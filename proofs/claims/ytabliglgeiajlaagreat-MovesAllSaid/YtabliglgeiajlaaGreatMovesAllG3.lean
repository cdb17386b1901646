/- Walks and plain laws, put together: part 3. -/
import Derived.Test.YtabliglgeiajlaaGreatMovesAllG0
import Derived.Test.YtabliglgeiajlaaGreatMovesAllG2
import Derived.Test.YtabliglgeiajlaaGreatMovesAllG1
set_option linter.unusedSimpArgs false
set_option linter.unusedVariables false
namespace Go.Proofs.YtabliglgeiajlaaGreat.AM
open Go Go.RowKit Go.Proofs
set_option maxRecDepth 100000
set_option maxHeartbeats 1000000
theorem take_minL {α : Type} {K : Int} {k : Nat} (h : K = k) (l : List α) : l.take (if K < (l.length : Int) then K else (l.length : Int)).toNat = l.take k := by
  subst h
  split
  · simp
  · rw [Int.toNat_natCast, List.take_length, List.take_of_length_le (by omega)]
def cutS (s : ByteArray) : ByteArray := s.extract 0 (if (15 : Int) < (s.size : Int) then 15 else (s.size : Int)).toNat
def fewL (xs : List ByteArray) (i : Nat) : List ByteArray := (xs.take i).map cutS
theorem fewL_length {xs : List ByteArray} {i : Nat} (h : i ≤ xs.length) : (fewL xs i).length = i := by simp [fewL]; omega
theorem fewL_succ {xs : List ByteArray} {i : Nat} {a : ByteArray} (h : xs[i]? = some a) : fewL xs (i + 1) = fewL xs i ++ [cutS a] := by
  obtain ⟨hi, rfl⟩ := List.getElem?_eq_some_iff.1 h
  rw [fewL, List.take_succ_eq_append_getElem hi, List.map_append]; rfl
def fσ (e1 e2 : Ent) (u : D) (xs : List ByteArray) : Nat → List Slot
  | 0 => [.ent e1, .ent e2, .ent ⟨0, none, 25, [.v (.slice none 0 0), u], .cells⟩]
  | i + 1 => [.ent e1, .ent e2, .ent ⟨0, none, 25, [.ref 4 i (i + 1), u], .cells⟩, .free, .ent ⟨i, some 1, 9, cellS (fewL xs (i + 1)), .cells⟩]
section
variable (e1 e2 : Ent) (u : D) (xs : List ByteArray)
theorem fσ_zero : fσ e1 e2 u xs 0 = [.ent e1, .ent e2, .ent ⟨0, none, 25, [.v (.slice none 0 0), u], .cells⟩] := rfl
theorem fσ_pos {i j : Nat} (h : i = j + 1) : fσ e1 e2 u xs i = [.ent e1, .ent e2, .ent ⟨0, none, 25, [.ref 4 j i, u], .cells⟩, .free, .ent ⟨j, some 1, 9, cellS (fewL xs i), .cells⟩] := by subst h; rfl
theorem fσ_one {a : ByteArray} (h : xs[0]? = some a) : fσ e1 e2 u xs (0 + 1) = [.ent e1, .ent e2, .ent ⟨0, none, 25, [.ref 4 0 1, u], .cells⟩, .free, .ent ⟨0, some 1, 9, [.v (.string (cutS a))], .cells⟩] := by
  rw [fσ_pos e1 e2 u xs rfl, fewL_succ h]; rfl
theorem fσ_succ {i j : Nat} (h : i = j + 1) {a : ByteArray} (hx : xs[i]? = some a) : fσ e1 e2 u xs (i + 1) = [.ent e1, .ent e2, .ent ⟨0, none, 25, [.ref 4 (j + 1) (i + 1), u], .cells⟩, .free, .ent ⟨j + 1, some 1, 9, cellS (fewL xs i) ++ [.v (.string (cutS a))], .cells⟩] := by
  rw [fσ_pos e1 e2 u xs rfl, fewL_succ hx, h]; simp [cellS]
end
theorem cutS_size (s : ByteArray) : (cutS s).size ≤ 9223372036854775807 := by
  unfold cutS
  rw [ByteArray.size_extract]
  split <;> omega
theorem szs_few (ns : List ByteArray) : Szs ((ns.take 10).map cutS) := by
  intro s hs
  obtain ⟨x, _, rfl⟩ := List.mem_map.1 hs
  exact cutS_size x
end Go.Proofs.YtabliglgeiajlaaGreat.AM

namespace Go.Proofs.YtabliglgeiajlaaGreat.AM
open Go Go.RowKit Go.Proofs
set_option maxRecDepth 100000
set_option maxHeartbeats 4000000
theorem few21_fn (f g : Bool) (ns : List ByteArray) (us : List Nat) :
    Fn Tryz.prog 22 [.agg [.sl f 1 (strRow ns), .sl g 1 (u32Row us)]] [] (.agg [.sl false 1 (strRow ((ns.take 10).map cutS)), .sl false 1 (u32Row (us.take 10))]) [] := by
  refine Fn.of (fn := Tryz.f22) (by kernel_rfl) rfl (by kernel_rfl) ⟨[.agg [.sl f 1 (strRow ns), .sl g 1 (u32Row us)], .v undef, .v undef, .v undef, .v undef, .v undef, .v undef, .v undef, .v undef, .v undef, .v undef, .v undef, .v undef, .v undef, .v undef, .v undef, .v undef, .v undef, .v undef, .v undef, .v undef, .v undef, .v undef, .v undef, .v undef, .v undef, .v undef, .v undef, .v undef, .v undef, .v undef, .v undef, .v undef, .v undef, .v undef, .v undef, .v undef, .v undef], []⟩ rfl ?_
  repeat' first | (with_reducible first | refine AWP_seq' ?_ | refine k_normal ?_ | refine AWP_block ?_) | ((with_reducible refine And.intro ?_ ?_); · exact Sq) | ((with_reducible refine AWP_reg fun KC J hJ hKC => ?_); simp (maxSteps := 9999999) only [push_cast, seval, ↓reduceIte, take_minL (K := 10) (k := 10) rfl ns, take_minL (K := 10) (k := 10) rfl us]) | ((with_reducible refine hJ _ _ ?_); clear hJ hKC KC J)
  obtain ⟨xs, hxs⟩ : ∃ xs, ns.take 10 = xs := ⟨_, rfl⟩
  have hx10 : xs.length ≤ 10 := by rw [← hxs]; simp; omega
  rw [hxs]
  refine AWP_loopF (γ := {i : Nat // i ≤ xs.length}) (fun i => ⟨[.any, .ptr 0 0 0, .ptr 1 0 0, .ptr 2 0 0, .any, .any, .any, .any, .any, .any, .any, .any, .any, .any, .any, .any, .any, .any, .any, .any, .sl false 1 (strRow xs), .v (.int .i64 xs.length), .v (.int .i64 i.1), .any, .any, .any, .any, .any, .any, .any, .any, .any, .any, .any, .any, .any, .any, .any], fσ ⟨0, none, 25, [.sl f 1 (strRow ns), .sl g 1 (u32Row us)], .cells⟩ ⟨0, none, 25, [.v (.slice none 0 0), .v (.slice none 0 0)], .cells⟩ (.sl false 1 (u32Row (us.take 10))) xs i.1⟩) (fun i => xs.length - i.1) ⟨0, by simp⟩ ⟨?_, ?_⟩ ?_
  · exact Lq
  · simp only [fσ]
    exact Fq
  rintro ⟨i, hi⟩
  obtain ⟨e1, he1⟩ : ∃ e1 : Ent, ⟨0, none, 25, [.sl f 1 (strRow ns), .sl g 1 (u32Row us)], .cells⟩ = e1 := ⟨_, rfl⟩
  rw [he1]
  by_cases hlt : (i : Int) < (xs.length : Int)
  · have hx : xs[i]? = some xs[i] := List.getElem?_eq_getElem (by omega)
    obtain ⟨a, ha⟩ : ∃ a, xs[i] = a := ⟨_, rfl⟩
    rw [ha] at hx
    have hcut : a.extract 0 (if (15 : Int) < (a.size : Int) then 15 else (a.size : Int)).toNat = cutS a := rfl
    rcases Nat.eq_zero_or_pos i with rfl | hpos
    · have hσ := fσ_zero e1 ⟨0, none, 25, [.v (.slice none 0 0), .v (.slice none 0 0)], .cells⟩ (.sl false 1 (u32Row (us.take 10))) xs
      have hσ1 := fσ_one e1 ⟨0, none, 25, [.v (.slice none 0 0), .v (.slice none 0 0)], .cells⟩ (.sl false 1 (u32Row (us.take 10))) xs hx
      have hlt0 : (0 : Int) < xs.length := hlt
      repeat' first | (with_reducible first | refine AWP_seq' ?_ | refine k_normal ?_ | refine b_normal ?_ | refine AWP_skip ?_ | refine AWP_block ?_) | ((with_reducible refine And.intro ?_ ?_); · exact Sq) | ((first | with_reducible refine AWP_reg fun KC J hJ hKC => ?_ | with_reducible refine AWP_regD rfl fun KC J hJ hKC => ?_); simp (maxSteps := 9999999) only [push_cast, seval, ↓reduceIte, hlt0, hσ, getE_str hx, hcut]) | ((first | with_reducible refine hJ _ _ ?_ | (with_reducible refine hJ _ _ ?_ ?_; · kernel_rfl)); clear hJ hKC KC J) | ((with_reducible refine AWP_condT ?_ ?_); · rfl)
      refine ⟨⟨0 + 1, by omega⟩, by simp only; omega, ?_, ?_⟩
      · exact Lq
      · simp only [hσ1]
        exact Fq
    · obtain ⟨i', hi'⟩ : ∃ i', i = i' + 1 := ⟨i - 1, by omega⟩
      have hσ := fσ_pos e1 ⟨0, none, 25, [.v (.slice none 0 0), .v (.slice none 0 0)], .cells⟩ (.sl false 1 (u32Row (us.take 10))) xs hi'
      have hσ1 := fσ_succ e1 ⟨0, none, 25, [.v (.slice none 0 0), .v (.slice none 0 0)], .cells⟩ (.sl false 1 (u32Row (us.take 10))) xs hi' hx
      have hlS : (cellS (fewL xs i)).length = i := by simp [cellS, fewL_length hi]
      have htS := take_of hlS
      have htS' : (cellS (fewL xs i)).take i = cellS (fewL xs i) := List.take_of_length_le (by omega)
      have hbq : Nat.beq i' i' = true := Nat.beq_refl i'
      repeat' first | (with_reducible first | refine AWP_seq' ?_ | refine k_normal ?_ | refine b_normal ?_ | refine AWP_skip ?_ | refine AWP_block ?_) | ((with_reducible refine And.intro ?_ ?_); · exact Sq) | ((first | with_reducible refine AWP_reg fun KC J hJ hKC => ?_ | with_reducible refine AWP_regD rfl fun KC J hJ hKC => ?_); simp (maxSteps := 9999999) only [push_cast, seval, ↓reduceIte, hlt, hσ, getE_str hx, hcut, hbq, hlS, htS, htS', wrapN (i := i) (n := xs.length) (by omega) (by omega)]) | ((first | with_reducible refine hJ _ _ ?_ | (with_reducible refine hJ _ _ ?_ ?_; · kernel_rfl)); clear hJ hKC KC J) | ((with_reducible refine AWP_condT ?_ ?_); · rfl)
      refine ⟨⟨i + 1, by omega⟩, by simp only; omega, ?_, ?_⟩
      · exact Lq
      · simp only [hσ1]
        exact Fq
  · have hix : i = xs.length := by omega
    have hfin : fewL xs i = xs.map cutS := by rw [fewL, hix, List.take_length]
    rcases Nat.eq_zero_or_pos i with rfl | hpos
    · have hσ := fσ_zero e1 ⟨0, none, 25, [.v (.slice none 0 0), .v (.slice none 0 0)], .cells⟩ (.sl false 1 (u32Row (us.take 10))) xs
      have hlt0 : ¬ (0 : Int) < xs.length := hlt
      repeat' first | (with_reducible first | refine AWP_seq' ?_ | refine k_normal ?_ | refine k_exit ?_ | refine b_exit ?_ | refine AWP_ret ?_ | refine AWP_exit ?_) | ((with_reducible refine AWP_reg fun KC J hJ hKC => ?_); simp (maxSteps := 9999999) only [push_cast, seval, ↓reduceIte, hlt0, hσ]) | ((with_reducible refine hJ _ _ ?_); clear hJ hKC KC J) | ((with_reducible refine AWP_condF ?_ ?_); · rfl)
      refine ret_plain ?_
      simp (maxSteps := 9999999) only [push_cast, seval, ↓reduceIte, show Tryz.f22.results = #[(.cell 2 25)] from rfl]
      rw [← hfin]
      exact Lq
    · obtain ⟨i', hi'⟩ : ∃ i', i = i' + 1 := ⟨i - 1, by omega⟩
      have hσ := fσ_pos e1 ⟨0, none, 25, [.v (.slice none 0 0), .v (.slice none 0 0)], .cells⟩ (.sl false 1 (u32Row (us.take 10))) xs hi'
      have hbq : Nat.beq i' i' = true := Nat.beq_refl i'
      have hlS : (cellS (fewL xs i)).length = i := by simp [cellS, fewL_length hi]
      have hcS : chunk 1 i (cellS (fewL xs i)) = strRow (fewL xs i) := by
        have := chunk_one (fun s : ByteArray => (.v (.string s) : D)) (fewL xs i)
        rw [fewL_length hi] at this; exact this
      subst he1
      repeat' first | (with_reducible first | refine AWP_seq' ?_ | refine k_normal ?_ | refine k_exit ?_ | refine b_exit ?_ | refine AWP_exit ?_) | ((with_reducible refine AWP_reg fun KC J hJ hKC => ?_); simp (maxSteps := 9999999) only [push_cast, seval, ↓reduceIte, hlt, hσ]) | ((with_reducible refine hJ _ _ ?_); clear hJ hKC KC J) | ((with_reducible refine AWP_condF ?_ ?_); · rfl)
      refine AWP_freeze 4 rfl (by simp (maxSteps := 9999999) only [push_cast, seval, ↓reduceIte]) ?_
      simp (maxSteps := 9999999) only [push_cast, seval, ↓reduceIte, frSt, frSlot, fr3, fr2, fr1, fr0, sameB, arrOf, hbq, hlS, hcS]
      refine AWP_ret ?_
      refine ret_plain ?_
      simp (maxSteps := 9999999) only [push_cast, seval, ↓reduceIte, show Tryz.f22.results = #[(.cell 2 25)] from rfl]
      rw [← hfin]
      exact Lq
theorem cut21_fn (fc fm fs fo : Bool) (s : Sta) : Fn Tryz.prog 23 [.agg (staF fc fm fs fo s)] [] (.agg (staF false false false false (cutSta s))) [] := by
  obtain ⟨v, l, code, mem, stack, out⟩ := s
  simp only [staF, cutSta]
  refine Fn.of (fn := Tryz.f23) (by kernel_rfl) rfl (by kernel_rfl) ⟨[.agg [.v (.int .i64 v), .v (.int .i64 l), .sl fc 3 (tRow code), .sl fm 2 (pRow mem), .sl fs 3 (sRow stack), .sl fo 2 (pRow out)], .v undef, .v undef, .v undef, .v undef, .v undef, .v undef, .v undef, .v undef, .v undef, .v undef, .v undef, .v undef, .v undef, .v undef, .v undef, .v undef, .v undef, .v undef, .v undef, .v undef, .v undef, .v undef, .v undef, .v undef, .v undef, .v undef, .v undef, .v undef, .v undef, .v undef, .v undef, .v undef, .v undef, .v undef, .v undef], []⟩ rfl ?_
  repeat' first | (with_reducible first | refine AWP_seq' ?_ | refine k_normal ?_ | refine AWP_ret ?_) | ((with_reducible refine And.intro ?_ ?_); · exact Sq) | ((first | with_reducible refine AWP_reg fun KC J hJ hKC => ?_ | with_reducible refine AWP_regD rfl fun KC J hJ hKC => ?_); simp (maxSteps := 9999999) only [push_cast, seval, ↓reduceIte, take_minL (K := 15) (k := 15) rfl code, take_minL (K := 15) (k := 15) rfl mem, take_minL (K := 15) (k := 15) rfl stack, take_minL (K := 15) (k := 15) rfl out]) | ((first | with_reducible refine hJ _ _ ?_ | (with_reducible refine hJ _ _ ?_ ?_; · kernel_rfl)); clear hJ hKC KC J)
  refine ret_plain ?_
  simp (maxSteps := 9999999) only [push_cast, seval, ↓reduceIte, show Tryz.f23.results = #[(.cell 2 39)] from rfl]
  exact leD_refl _
def nsQ21 : List ByteArray := [{ data := #[97] }, { data := #[98] }]
@[reducible] def aQ : Sta := ⟨0, 0, [], [(5, 1)], [], []⟩
@[reducible] def bQ : Sta := ⟨0, 0, [], [(7, 1)], [], []⟩
def alQ : List (Sta × Sta) := allM nsQ21 [3, 2] aQ bQ
theorem alive21_fn : Fn Tryz.prog 26 [] [] (.v (.bool true)) [] := by
  have hs : Szs nsQ21 := by
    intro s hs
    simp only [nsQ21, List.mem_cons, List.not_mem_nil, or_false] at hs
    rcases hs with rfl | rfl <;> (show 1 ≤ _; omega)
  have hu : U32 [3, 2] := by
    intro u hu
    simp at hu
    rcases hu with rfl | rfl <;> decide
  have sa : Sml aQ := ⟨by decide, by decide, by decide, by decide⟩
  have sb : Sml bQ := ⟨by decide, by decide, by decide, by decide⟩
  have hrep : RleF [.v (.int .i64 0), .v (.int .i64 0), .sl false 3 [], .sl true 2 (pRow [(5, 1)]), .sl false 3 [], .sl false 2 [], .v (.int .i64 0), .v (.int .i64 0), .sl false 3 [], .sl true 2 (pRow [(7, 1)]), .sl false 3 [], .sl false 2 []] (encT aQ bQ) :=
    .cons (.refl _) (.cons (.refl _) (.cons (.refl _) (.cons (.full _ _) (.cons (.refl _) (.cons (.refl _) (.cons (.refl _) (.cons (.refl _) (.cons (.refl _) (.cons (.full _ _) (.cons (.refl _) (.cons (.refl _) .nil)))))))))))
  have h1 := (mvMeasure_fn true true nsQ21 [3, 2] aQ bQ hs hu sa sb).pre (.cons (.refl _) (.cons (.agg hrep) .nil))
  have h2 := (mvAll_fn true true nsQ21 [3, 2] aQ bQ hs hu sa sb).pre (.cons (.refl _) (.cons (.agg hrep) .nil))
  rw [show measF nsQ21 [3, 2] aQ bQ = (2, 12, 2) by kernel_rfl, show mayT nsQ21 [3, 2] aQ bQ = 0 by kernel_rfl] at h1
  rw [show mayT nsQ21 [3, 2] aQ bQ = 0 by kernel_rfl, show allM nsQ21 [3, 2] aQ bQ = alQ from rfl] at h2
  have hl : (twoRow alQ).length = 8 := by kernel_rfl
  have hg : getE (twoRow alQ) 1 = [.v (.int .i64 0), .v (.int .i64 0), .sl false 3 [], .sl false 2 (pRow [(0, 1)]), .sl false 3 [], .sl false 2 [], .v (.int .i64 0), .v (.int .i64 0), .sl false 3 [], .sl false 2 (pRow [(0, 1)]), .sl false 3 [], .sl false 2 []] := by kernel_rfl
  have hp := getE_p (l := [(0, 1)]) (n := 0) rfl
  simp only [encZ] at h1
  generalize twoRow alQ = R at h2 hl hg
  refine Fn.of (fn := Tryz.f26) (by kernel_rfl) rfl (by kernel_rfl) ⟨[.v undef, .v undef, .v undef, .v undef, .v undef, .v undef, .v undef, .v undef, .v undef, .v undef, .v undef, .v undef, .v undef, .v undef, .v undef, .v undef, .v undef, .v undef, .v undef, .v undef, .v undef, .v undef, .v undef, .v undef, .v undef, .v undef, .v undef, .v undef, .v undef, .v undef, .v undef, .v undef, .v undef, .v undef, .v undef, .v undef, .v undef, .v undef, .v undef, .v undef, .v undef, .v undef, .v undef, .v undef, .v undef, .v undef, .v undef, .v undef, .v undef, .v undef, .v undef, .v undef, .v undef, .v undef, .v undef, .v undef], []⟩ rfl ?_
  repeat' first | (with_reducible first | refine AWP_seq' ?_ | refine k_normal ?_ | refine AWP_ret ?_) | ((first | with_reducible refine AWP_reg fun KC J hJ hKC => ?_ | (refine hKC _ _ _ _ _ (callV0 (h1) rfl rfl rfl ?_ ?_); (· exact Lq)) | (refine hKC _ _ _ _ _ (callV0 (h2) rfl rfl rfl ?_ ?_); (· exact Lq))); simp (maxSteps := 9999999) only [push_cast, seval, ↓reduceIte, hl, hg, hp, beq_self_eq_true, undef]) | ((with_reducible refine hJ _ _ ?_); clear hJ hKC KC J)
  refine ret_plain ?_
  simp (maxSteps := 9999999) only [push_cast, seval, ↓reduceIte, show Tryz.f26.results = #[(.tmp 0)] from rfl]
  exact Lq
end Go.Proofs.YtabliglgeiajlaaGreat.AM

namespace Go.Proofs.YtabliglgeiajlaaGreat.AM
open Go Go.RowKit Go.Proofs
set_option maxRecDepth 100000
set_option maxHeartbeats 4000000
end Go.Proofs.YtabliglgeiajlaaGreat.AM

namespace Go.Proofs.YtabliglgeiajlaaGreat.AM
open Go Go.RowKit Go.Proofs
set_option maxRecDepth 100000
set_option maxHeartbeats 4000000
end Go.Proofs.YtabliglgeiajlaaGreat.AM

namespace Go.Proofs.YtabliglgeiajlaaGreat.AM
open Go Go.RowKit Go.Proofs
set_option maxRecDepth 100000
set_option maxHeartbeats 4000000
theorem dec_beq (a b : Int) : decide (a = b) = (a == b) := by rw [Bool.eq_iff_iff]; simp
theorem odd_and (n : Nat) (a : Int) : (!oddL n a) = (decide (0 ≤ a) && decide (a < (n : Int))) := by rw [Bool.eq_iff_iff]; simp [oddL]
theorem inB01 (v : Int) : inB 0 1 v = ((v == 0) || (v == 1)) := by rw [Bool.eq_iff_iff]; simp [inB]; omega
theorem rInstr08_fn (n : Nat) (x : Int × Int × Int) : Fn Tryz.prog 250 [.v (.int .i64 n), .agg [.v (.int .i64 x.1), .v (.int .i64 x.2.1), .v (.int .i64 x.2.2)]] [] (.v (.bool (instrB n x))) [] := by
  obtain ⟨o, v, l⟩ := x
  simp only [instrB]
  by_cases e1 : o = 1
  · subst e1
    rw [if_pos rfl, odd_and, inB]
    obtain ⟨a1, ha1⟩ : ∃ b, decide (-20 ≤ v) = b := ⟨_, rfl⟩
    obtain ⟨a2, ha2⟩ : ∃ b, decide (v ≤ 20) = b := ⟨_, rfl⟩
    obtain ⟨a3, ha3⟩ : ∃ b, decide (0 ≤ l) = b := ⟨_, rfl⟩
    rw [ha1, ha2, ha3]
    cases a1 <;> cases a2 <;> cases a3
    all_goals
      refine Fn.of (fn := Tryz.f250) (by kernel_rfl) rfl (by kernel_rfl) ⟨[.v (.int .i64 n), .agg [.v (.int .i64 1), .v (.int .i64 v), .v (.int .i64 l)], .v undef, .v undef, .v undef, .v undef, .v undef, .v undef, .v undef, .v undef, .v undef, .v undef, .v undef, .v undef, .v undef, .v undef, .v undef, .v undef, .v undef, .v undef, .v undef, .v undef, .v undef, .v undef, .v undef, .v undef, .v undef, .v undef, .v undef, .v undef, .v undef, .v undef, .v undef, .v undef, .v undef, .v undef, .v undef, .v undef, .v undef, .v undef, .v undef, .v undef, .v undef, .v undef, .v undef, .v undef, .v undef, .v undef, .v undef, .v undef, .v undef, .v undef, .v undef, .v undef, .v undef, .v undef, .v undef, .v undef, .v undef, .v undef, .v undef, .v undef, .v undef, .v undef, .v undef, .v undef, .v undef, .v undef, .v undef, .v undef, .v undef, .v undef, .v undef, .v undef, .v undef, .v undef], []⟩ rfl ?_
      repeat' first | (with_reducible first | refine AWP_seq' ?_ | refine k_normal ?_ | refine k_ret ?_ | refine AWP_ret ?_) | ((with_reducible refine AWP_reg fun KC J hJ hKC => ?_); simp (maxSteps := 9999999) only [push_cast, seval, ↓reduceIte, ha1, ha2, ha3, undef]) | ((with_reducible refine hJ _ _ ?_); clear hJ hKC KC J) | ((with_reducible refine AWP_condT ?_ ?_); · rfl)
      refine ret_plain ?_
      simp (maxSteps := 9999999) only [push_cast, seval, ↓reduceIte, show Tryz.f250.results = #[(.tmp 4)] from rfl]
      exact Lq
  have e1' : (o == 1) = false := by simpa using e1
  rw [if_neg e1, dec_beq]
  obtain ⟨b1, hb1⟩ : ∃ b, decide (o < 0) = b := ⟨_, rfl⟩
  cases b1
  case true =>
    have := of_decide_eq_true hb1
    rw [show inB 0 12 o = false by simp [inB]; omega]
    refine Fn.of (fn := Tryz.f250) (by kernel_rfl) rfl (by kernel_rfl) ⟨[.v (.int .i64 n), .agg [.v (.int .i64 o), .v (.int .i64 v), .v (.int .i64 l)], .v undef, .v undef, .v undef, .v undef, .v undef, .v undef, .v undef, .v undef, .v undef, .v undef, .v undef, .v undef, .v undef, .v undef, .v undef, .v undef, .v undef, .v undef, .v undef, .v undef, .v undef, .v undef, .v undef, .v undef, .v undef, .v undef, .v undef, .v undef, .v undef, .v undef, .v undef, .v undef, .v undef, .v undef, .v undef, .v undef, .v undef, .v undef, .v undef, .v undef, .v undef, .v undef, .v undef, .v undef, .v undef, .v undef, .v undef, .v undef, .v undef, .v undef, .v undef, .v undef, .v undef, .v undef, .v undef, .v undef, .v undef, .v undef, .v undef, .v undef, .v undef, .v undef, .v undef, .v undef, .v undef, .v undef, .v undef, .v undef, .v undef, .v undef, .v undef, .v undef, .v undef, .v undef], []⟩ rfl ?_
    repeat' first | (with_reducible first | refine AWP_seq' ?_ | refine k_normal ?_ | refine k_ret ?_ | refine AWP_ret ?_ | refine AWP_skip ?_) | ((with_reducible refine AWP_reg fun KC J hJ hKC => ?_); simp (maxSteps := 9999999) only [push_cast, seval, ↓reduceIte, e1', hb1, undef]) | ((with_reducible refine hJ _ _ ?_); clear hJ hKC KC J) | ((with_reducible refine AWP_condT ?_ ?_); · rfl) | ((with_reducible refine AWP_condF ?_ ?_); · rfl)
    refine ret_plain ?_
    simp (maxSteps := 9999999) only [push_cast, seval, ↓reduceIte, show Tryz.f250.results = #[(.tmp 4)] from rfl]
    exact Lq
  have hb := of_decide_eq_false hb1
  obtain ⟨b2, hb2⟩ : ∃ b, decide (12 < o) = b := ⟨_, rfl⟩
  cases b2
  case true =>
    have := of_decide_eq_true hb2
    rw [show inB 0 12 o = false by simp [inB]; omega]
    refine Fn.of (fn := Tryz.f250) (by kernel_rfl) rfl (by kernel_rfl) ⟨[.v (.int .i64 n), .agg [.v (.int .i64 o), .v (.int .i64 v), .v (.int .i64 l)], .v undef, .v undef, .v undef, .v undef, .v undef, .v undef, .v undef, .v undef, .v undef, .v undef, .v undef, .v undef, .v undef, .v undef, .v undef, .v undef, .v undef, .v undef, .v undef, .v undef, .v undef, .v undef, .v undef, .v undef, .v undef, .v undef, .v undef, .v undef, .v undef, .v undef, .v undef, .v undef, .v undef, .v undef, .v undef, .v undef, .v undef, .v undef, .v undef, .v undef, .v undef, .v undef, .v undef, .v undef, .v undef, .v undef, .v undef, .v undef, .v undef, .v undef, .v undef, .v undef, .v undef, .v undef, .v undef, .v undef, .v undef, .v undef, .v undef, .v undef, .v undef, .v undef, .v undef, .v undef, .v undef, .v undef, .v undef, .v undef, .v undef, .v undef, .v undef, .v undef, .v undef, .v undef], []⟩ rfl ?_
    repeat' first | (with_reducible first | refine AWP_seq' ?_ | refine k_normal ?_ | refine k_ret ?_ | refine AWP_ret ?_ | refine AWP_skip ?_) | ((with_reducible refine AWP_reg fun KC J hJ hKC => ?_); simp (maxSteps := 9999999) only [push_cast, seval, ↓reduceIte, e1', hb1, hb2, undef]) | ((with_reducible refine hJ _ _ ?_); clear hJ hKC KC J) | ((with_reducible refine AWP_condT ?_ ?_); · rfl) | ((with_reducible refine AWP_condF ?_ ?_); · rfl)
    refine ret_plain ?_
    simp (maxSteps := 9999999) only [push_cast, seval, ↓reduceIte, show Tryz.f250.results = #[(.tmp 4)] from rfl]
    exact Lq
  have hbb := of_decide_eq_false hb2
  rw [show inB 0 12 o = true by simp [inB]; omega]
  obtain ⟨c1, hc1⟩ : ∃ b, (l == 0) = b := ⟨_, rfl⟩
  have hc1' : (l != 0) = !c1 := by rw [← hc1]; rfl
  rw [hc1]
  cases c1
  case false =>
    refine Fn.of (fn := Tryz.f250) (by kernel_rfl) rfl (by kernel_rfl) ⟨[.v (.int .i64 n), .agg [.v (.int .i64 o), .v (.int .i64 v), .v (.int .i64 l)], .v undef, .v undef, .v undef, .v undef, .v undef, .v undef, .v undef, .v undef, .v undef, .v undef, .v undef, .v undef, .v undef, .v undef, .v undef, .v undef, .v undef, .v undef, .v undef, .v undef, .v undef, .v undef, .v undef, .v undef, .v undef, .v undef, .v undef, .v undef, .v undef, .v undef, .v undef, .v undef, .v undef, .v undef, .v undef, .v undef, .v undef, .v undef, .v undef, .v undef, .v undef, .v undef, .v undef, .v undef, .v undef, .v undef, .v undef, .v undef, .v undef, .v undef, .v undef, .v undef, .v undef, .v undef, .v undef, .v undef, .v undef, .v undef, .v undef, .v undef, .v undef, .v undef, .v undef, .v undef, .v undef, .v undef, .v undef, .v undef, .v undef, .v undef, .v undef, .v undef, .v undef, .v undef], []⟩ rfl ?_
    repeat' first | (with_reducible first | refine AWP_seq' ?_ | refine k_normal ?_ | refine k_ret ?_ | refine AWP_ret ?_ | refine AWP_skip ?_) | ((with_reducible refine AWP_reg fun KC J hJ hKC => ?_); simp (maxSteps := 9999999) only [push_cast, seval, ↓reduceIte, e1', hb1, hb2, hc1', undef]) | ((with_reducible refine hJ _ _ ?_); clear hJ hKC KC J) | ((with_reducible refine AWP_condT ?_ ?_); · rfl) | ((with_reducible refine AWP_condF ?_ ?_); · rfl)
    refine ret_plain ?_
    simp (maxSteps := 9999999) only [push_cast, seval, ↓reduceIte, show Tryz.f250.results = #[(.tmp 4)] from rfl]
    exact Lq
  by_cases e8 : o = 8
  · subst e8
    rw [if_pos rfl, inB]
    obtain ⟨a1, ha1⟩ : ∃ b, decide (0 ≤ v) = b := ⟨_, rfl⟩
    rw [ha1]
    cases a1
    all_goals
      refine Fn.of (fn := Tryz.f250) (by kernel_rfl) rfl (by kernel_rfl) ⟨[.v (.int .i64 n), .agg [.v (.int .i64 8), .v (.int .i64 v), .v (.int .i64 l)], .v undef, .v undef, .v undef, .v undef, .v undef, .v undef, .v undef, .v undef, .v undef, .v undef, .v undef, .v undef, .v undef, .v undef, .v undef, .v undef, .v undef, .v undef, .v undef, .v undef, .v undef, .v undef, .v undef, .v undef, .v undef, .v undef, .v undef, .v undef, .v undef, .v undef, .v undef, .v undef, .v undef, .v undef, .v undef, .v undef, .v undef, .v undef, .v undef, .v undef, .v undef, .v undef, .v undef, .v undef, .v undef, .v undef, .v undef, .v undef, .v undef, .v undef, .v undef, .v undef, .v undef, .v undef, .v undef, .v undef, .v undef, .v undef, .v undef, .v undef, .v undef, .v undef, .v undef, .v undef, .v undef, .v undef, .v undef, .v undef, .v undef, .v undef, .v undef, .v undef, .v undef, .v undef], []⟩ rfl ?_
      repeat' first | (with_reducible first | refine AWP_seq' ?_ | refine k_normal ?_ | refine k_ret ?_ | refine AWP_ret ?_ | refine AWP_skip ?_) | ((with_reducible refine AWP_reg fun KC J hJ hKC => ?_); simp (maxSteps := 9999999) only [push_cast, seval, ↓reduceIte, hc1', ha1, undef]) | ((with_reducible refine hJ _ _ ?_); clear hJ hKC KC J) | ((with_reducible refine AWP_condT ?_ ?_); · rfl) | ((with_reducible refine AWP_condF ?_ ?_); · rfl)
      refine ret_plain ?_
      simp (maxSteps := 9999999) only [push_cast, seval, ↓reduceIte, show Tryz.f250.results = #[(.tmp 4)] from rfl]
      exact Lq
  rw [if_neg e8]
  by_cases e9 : o = 9
  · subst e9
    rw [if_pos rfl, inB]
    obtain ⟨a1, ha1⟩ : ∃ b, decide (0 ≤ v) = b := ⟨_, rfl⟩
    rw [ha1]
    cases a1
    all_goals
      refine Fn.of (fn := Tryz.f250) (by kernel_rfl) rfl (by kernel_rfl) ⟨[.v (.int .i64 n), .agg [.v (.int .i64 9), .v (.int .i64 v), .v (.int .i64 l)], .v undef, .v undef, .v undef, .v undef, .v undef, .v undef, .v undef, .v undef, .v undef, .v undef, .v undef, .v undef, .v undef, .v undef, .v undef, .v undef, .v undef, .v undef, .v undef, .v undef, .v undef, .v undef, .v undef, .v undef, .v undef, .v undef, .v undef, .v undef, .v undef, .v undef, .v undef, .v undef, .v undef, .v undef, .v undef, .v undef, .v undef, .v undef, .v undef, .v undef, .v undef, .v undef, .v undef, .v undef, .v undef, .v undef, .v undef, .v undef, .v undef, .v undef, .v undef, .v undef, .v undef, .v undef, .v undef, .v undef, .v undef, .v undef, .v undef, .v undef, .v undef, .v undef, .v undef, .v undef, .v undef, .v undef, .v undef, .v undef, .v undef, .v undef, .v undef, .v undef, .v undef, .v undef], []⟩ rfl ?_
      repeat' first | (with_reducible first | refine AWP_seq' ?_ | refine k_normal ?_ | refine k_ret ?_ | refine AWP_ret ?_ | refine AWP_skip ?_) | ((with_reducible refine AWP_reg fun KC J hJ hKC => ?_); simp (maxSteps := 9999999) only [push_cast, seval, ↓reduceIte, hc1', ha1, undef]) | ((with_reducible refine hJ _ _ ?_); clear hJ hKC KC J) | ((with_reducible refine AWP_condT ?_ ?_); · rfl) | ((with_reducible refine AWP_condF ?_ ?_); · rfl)
      refine ret_plain ?_
      simp (maxSteps := 9999999) only [push_cast, seval, ↓reduceIte, show Tryz.f250.results = #[(.tmp 4)] from rfl]
      exact Lq
  rw [if_neg e9]
  by_cases e10 : o = 10
  · subst e10
    rw [if_pos rfl, inB01]
    obtain ⟨a1, ha1⟩ : ∃ b, (v == 0) = b := ⟨_, rfl⟩
    rw [ha1]
    cases a1
    all_goals
      refine Fn.of (fn := Tryz.f250) (by kernel_rfl) rfl (by kernel_rfl) ⟨[.v (.int .i64 n), .agg [.v (.int .i64 10), .v (.int .i64 v), .v (.int .i64 l)], .v undef, .v undef, .v undef, .v undef, .v undef, .v undef, .v undef, .v undef, .v undef, .v undef, .v undef, .v undef, .v undef, .v undef, .v undef, .v undef, .v undef, .v undef, .v undef, .v undef, .v undef, .v undef, .v undef, .v undef, .v undef, .v undef, .v undef, .v undef, .v undef, .v undef, .v undef, .v undef, .v undef, .v undef, .v undef, .v undef, .v undef, .v undef, .v undef, .v undef, .v undef, .v undef, .v undef, .v undef, .v undef, .v undef, .v undef, .v undef, .v undef, .v undef, .v undef, .v undef, .v undef, .v undef, .v undef, .v undef, .v undef, .v undef, .v undef, .v undef, .v undef, .v undef, .v undef, .v undef, .v undef, .v undef, .v undef, .v undef, .v undef, .v undef, .v undef, .v undef, .v undef, .v undef], []⟩ rfl ?_
      repeat' first | (with_reducible first | refine AWP_seq' ?_ | refine k_normal ?_ | refine k_ret ?_ | refine AWP_ret ?_ | refine AWP_skip ?_) | ((with_reducible refine AWP_reg fun KC J hJ hKC => ?_); simp (maxSteps := 9999999) only [push_cast, seval, ↓reduceIte, hc1', ha1, undef]) | ((with_reducible refine hJ _ _ ?_); clear hJ hKC KC J) | ((with_reducible refine AWP_condT ?_ ?_); · rfl) | ((with_reducible refine AWP_condF ?_ ?_); · rfl)
      refine ret_plain ?_
      simp (maxSteps := 9999999) only [push_cast, seval, ↓reduceIte, show Tryz.f250.results = #[(.tmp 4)] from rfl]
      exact Lq
  rw [if_neg e10, dec_beq]
  have e8' : (o == 8) = false := by simpa using e8
  have e9' : (o == 9) = false := by simpa using e9
  have e10' : (o == 10) = false := by simpa using e10
  refine Fn.of (fn := Tryz.f250) (by kernel_rfl) rfl (by kernel_rfl) ⟨[.v (.int .i64 n), .agg [.v (.int .i64 o), .v (.int .i64 v), .v (.int .i64 l)], .v undef, .v undef, .v undef, .v undef, .v undef, .v undef, .v undef, .v undef, .v undef, .v undef, .v undef, .v undef, .v undef, .v undef, .v undef, .v undef, .v undef, .v undef, .v undef, .v undef, .v undef, .v undef, .v undef, .v undef, .v undef, .v undef, .v undef, .v undef, .v undef, .v undef, .v undef, .v undef, .v undef, .v undef, .v undef, .v undef, .v undef, .v undef, .v undef, .v undef, .v undef, .v undef, .v undef, .v undef, .v undef, .v undef, .v undef, .v undef, .v undef, .v undef, .v undef, .v undef, .v undef, .v undef, .v undef, .v undef, .v undef, .v undef, .v undef, .v undef, .v undef, .v undef, .v undef, .v undef, .v undef, .v undef, .v undef, .v undef, .v undef, .v undef, .v undef, .v undef, .v undef, .v undef], []⟩ rfl ?_
  repeat' first | (with_reducible first | refine AWP_seq' ?_ | refine k_normal ?_ | refine AWP_ret ?_ | refine AWP_skip ?_) | ((with_reducible refine AWP_reg fun KC J hJ hKC => ?_); simp (maxSteps := 9999999) only [push_cast, seval, ↓reduceIte, e1', hb1, hb2, hc1', e8', e9', e10', undef]) | ((with_reducible refine hJ _ _ ?_); clear hJ hKC KC J) | ((with_reducible refine AWP_condF ?_ ?_); · rfl)
  refine ret_plain ?_
  simp (maxSteps := 9999999) only [push_cast, seval, ↓reduceIte, show Tryz.f250.results = #[(.tmp 4)] from rfl]
  exact Lq
theorem rRight08_fn (f g h : Bool) (ns : List ByteArray) (us : List Nat) (xs : List (Int × Int × Int)) (hl : xs.length ≤ 1000) :
    Fn Tryz.prog 156 [.agg [.sl f 1 (strRow ns), .sl g 1 (u32Row us)], .sl h 3 (tRow xs)] [] (.v (.bool (codeB us.length xs))) [] := by
  refine Fn.of (fn := Tryz.f156) (by kernel_rfl) rfl (by kernel_rfl) ⟨[.agg [.sl f 1 (strRow ns), .sl g 1 (u32Row us)], .sl h 3 (tRow xs), .v undef, .v undef, .v undef, .v undef, .v undef, .v undef, .v undef, .v undef, .v undef, .v undef, .v undef, .v undef, .v undef, .v undef, .v undef, .v undef, .v undef, .v undef, .v undef, .v undef, .v undef], []⟩ rfl ?_
  repeat' first | (with_reducible first | refine AWP_seq' ?_ | refine k_normal ?_ | refine AWP_block ?_) | ((with_reducible refine AWP_reg fun KC J hJ hKC => ?_); simp (maxSteps := 9999999) only [push_cast, seval, ↓reduceIte]) | ((with_reducible refine hJ _ _ ?_); clear hJ hKC KC J)
  refine AWP_loopD 1 (γ := {i : Nat // i ≤ xs.length ∧ ∀ (j : Nat) (x : Int × Int × Int), j < i → xs[j]? = some x → (instrB us.length x) = true}) (fun i => ⟨[.any, .sl h 3 (tRow xs), .ptr 0 0 0, .any, .any, .any, .any, .sl h 3 (tRow xs), .v (.int .i64 xs.length), .v (.int .i64 i.1), .any, .any, .any, .any, .any, .any, .any, .any, .any, .any, .any, .any, .any], [.ent ⟨0, none, 25, [.sl f 1 (strRow ns), .sl g 1 (u32Row us)], .cells⟩]⟩) (fun i => xs.length - i.1) ⟨0, by simp⟩ (fun i => rfl) (fun i => clsd_all rfl) (fun i => rfl) ⟨?_, Fq⟩ ?_
  · exact Lq
  rintro ⟨i, hi, hno⟩
  by_cases hlt : (i : Int) < (xs.length : Int)
  · have hx : xs[i]? = some xs[i] := List.getElem?_eq_getElem (by omega)
    obtain ⟨x, hx0⟩ : ∃ x, xs[i] = x := ⟨_, rfl⟩
    rw [hx0] at hx
    have hnot : (instrB us.length x) = false → xs.all (instrB us.length) = false := fun h => by
      rw [List.all_eq_false]; exact ⟨x, List.mem_of_getElem? hx, by rw [h]; simp⟩
    have hyes : (instrB us.length x) = true → ∀ (j : Nat) (y : Int × Int × Int), j < i + 1 → xs[j]? = some y → (instrB us.length y) = true := fun h j y hj hy => by
      by_cases hji : j = i
      · subst hji; rw [hx] at hy; cases hy; exact h
      · exact hno j y (by omega) hy
    have h1 := rInstr08_fn us.length x
    cases hb : instrB us.length x
    · rw [hb] at h1
      repeat' first | (with_reducible first | refine AWP_seq' ?_ | refine k_normal ?_ | refine k_ret ?_ | refine b_ret ?_ | refine AWP_ret ?_ | refine AWP_skip ?_ | refine AWP_block ?_) | ((with_reducible refine And.intro ?_ ?_); · exact Sq) | ((first | with_reducible refine AWP_reg fun KC J hJ hKC => ?_ | (refine hKC _ _ _ _ _ (callV0 (h1) rfl rfl rfl ?_ ?_); (· exact Lq))); simp (maxSteps := 9999999) only [push_cast, seval, ↓reduceIte, hlt, getE_t hx, undef]) | ((with_reducible refine hJ _ _ ?_); clear hJ hKC KC J) | ((with_reducible refine AWP_condT ?_ ?_); · rfl)
      refine ret_plain ?_
      simp (maxSteps := 9999999) only [push_cast, seval, ↓reduceIte, show Tryz.f156.results = #[(.tmp 4)] from rfl]
      rw [codeB, hnot hb]
      exact Lq
    · rw [hb] at h1
      repeat' first | (with_reducible first | refine AWP_seq' ?_ | refine k_normal ?_ | refine b_normal ?_ | refine AWP_skip ?_ | refine AWP_block ?_) | ((with_reducible refine And.intro ?_ ?_); · exact Sq) | ((first | with_reducible refine AWP_reg fun KC J hJ hKC => ?_ | (refine hKC _ _ _ _ _ (callV0 (h1) rfl rfl rfl ?_ ?_); (· exact Lq))); simp (maxSteps := 9999999) only [push_cast, seval, ↓reduceIte, hlt, getE_t hx, wrapN (i := i) (n := xs.length) (by omega) (by omega), undef]) | ((with_reducible refine hJ _ _ ?_); clear hJ hKC KC J) | ((with_reducible refine AWP_condT ?_ ?_); · rfl) | ((with_reducible refine AWP_condF ?_ ?_); · rfl)
      refine ⟨⟨i + 1, by omega, hyes hb⟩, by simp only; omega, ?_, ⟨_, rfl⟩⟩
      exact Lq
  have hin : i = xs.length := by omega
  have hall : xs.all (instrB us.length) = true := by
    rw [List.all_eq_true]
    intro x hx
    obtain ⟨j, hj⟩ := List.mem_iff_getElem?.1 hx
    exact hno j x (by have := (List.getElem?_eq_some_iff.1 hj).1; omega) hj
  repeat' first | (with_reducible first | refine AWP_seq' ?_ | refine k_normal ?_ | refine k_exit ?_ | refine b_exit ?_ | refine AWP_ret ?_ | refine AWP_exit ?_) | ((with_reducible refine AWP_reg fun KC J hJ hKC => ?_); simp (maxSteps := 9999999) only [push_cast, seval, ↓reduceIte, hlt]) | ((with_reducible refine hJ _ _ ?_); clear hJ hKC KC J) | ((with_reducible refine AWP_condF ?_ ?_); · rfl)
  refine ret_plain ?_
  simp (maxSteps := 9999999) only [push_cast, seval, ↓reduceIte, show Tryz.f156.results = #[(.tmp 4)] from rfl]
  rw [codeB, hall, Bool.true_and, show decide (xs.length ≤ 12) = decide ((xs.length : Int) ≤ 12) from decide_eq_decide.2 (by omega)]
  exact Lq
theorem rLabel09_fn (f g : Bool) (ns : List ByteArray) (us : List Nat) (a : Int) : Fn Tryz.prog 157 [.agg [.sl f 1 (strRow ns), .sl g 1 (u32Row us)], .v (.int .i64 a)] [] (.v (.bool (!oddL us.length a))) [] := by
  rw [odd_and]
  obtain ⟨x, hx⟩ : ∃ x, decide (0 ≤ a) = x := ⟨_, rfl⟩
  rw [hx]
  refine Fn.of (fn := Tryz.f157) (by kernel_rfl) rfl (by kernel_rfl) ⟨[.agg [.sl f 1 (strRow ns), .sl g 1 (u32Row us)], .v (.int .i64 a), .v undef, .v undef, .v undef, .v undef, .v undef, .v undef, .v undef, .v undef, .v undef, .v undef, .v undef, .v undef], []⟩ rfl ?_
  cases x
  all_goals
    repeat' first | (with_reducible first | refine AWP_seq' ?_ | refine k_normal ?_ | refine AWP_ret ?_) | ((with_reducible refine AWP_reg fun KC J hJ hKC => ?_); simp (maxSteps := 9999999) only [push_cast, seval, ↓reduceIte, hx, undef]) | ((with_reducible refine hJ _ _ ?_); clear hJ hKC KC J)
    refine ret_plain ?_
    simp (maxSteps := 9999999) only [push_cast, seval, ↓reduceIte, show Tryz.f157.results = #[(.tmp 4)] from rfl]
    exact Lq
theorem rAtoms09_fn (f g h : Bool) (ns : List ByteArray) (us : List Nat) (xs : List (Int × Int)) (hl : xs.length ≤ 1000) :
    Fn Tryz.prog 158 [.agg [.sl f 1 (strRow ns), .sl g 1 (u32Row us)], .sl h 2 (pRow xs)] [] (.v (.bool (xs.all (atomB us.length)))) [] := by
  refine Fn.of (fn := Tryz.f158) (by kernel_rfl) rfl (by kernel_rfl) ⟨[.agg [.sl f 1 (strRow ns), .sl g 1 (u32Row us)], .sl h 2 (pRow xs), .v undef, .v undef, .v undef, .v undef, .v undef, .v undef, .v undef, .v undef, .v undef, .v undef, .v undef, .v undef, .v undef, .v undef, .v undef, .v undef, .v undef, .v undef, .v undef, .v undef, .v undef, .v undef, .v undef, .v undef, .v undef, .v undef, .v undef], []⟩ rfl ?_
  repeat' first | (with_reducible first | refine AWP_seq' ?_ | refine k_normal ?_ | refine AWP_block ?_) | ((with_reducible refine AWP_reg fun KC J hJ hKC => ?_); simp (maxSteps := 9999999) only [push_cast, seval, ↓reduceIte]) | ((with_reducible refine hJ _ _ ?_); clear hJ hKC KC J)
  refine AWP_loopD 1 (γ := {i : Nat // i ≤ xs.length ∧ ∀ (j : Nat) (x : Int × Int), j < i → xs[j]? = some x → (atomB us.length x) = true}) (fun i => ⟨[.any, .sl h 2 (pRow xs), .ptr 0 0 0, .any, .any, .any, .any, .sl h 2 (pRow xs), .v (.int .i64 xs.length), .v (.int .i64 i.1), .any, .any, .any, .any, .any, .any, .any, .any, .any, .any, .any, .any, .any, .any, .any, .any, .any, .any, .any], [.ent ⟨0, none, 25, [.sl f 1 (strRow ns), .sl g 1 (u32Row us)], .cells⟩]⟩) (fun i => xs.length - i.1) ⟨0, by simp⟩ (fun i => rfl) (fun i => clsd_all rfl) (fun i => rfl) ⟨?_, Fq⟩ ?_
  · exact Lq
  rintro ⟨i, hi, hno⟩
  by_cases hlt : (i : Int) < (xs.length : Int)
  · have hx : xs[i]? = some xs[i] := List.getElem?_eq_getElem (by omega)
    obtain ⟨x, hx0⟩ : ∃ x, xs[i] = x := ⟨_, rfl⟩
    rw [hx0] at hx
    have hnot : (atomB us.length x) = false → xs.all (atomB us.length) = false := fun h => by
      rw [List.all_eq_false]; exact ⟨x, List.mem_of_getElem? hx, by rw [h]; simp⟩
    have hyes : (atomB us.length x) = true → ∀ (j : Nat) (y : Int × Int), j < i + 1 → xs[j]? = some y → (atomB us.length y) = true := fun h j y hj hy => by
      by_cases hji : j = i
      · subst hji; rw [hx] at hy; cases hy; exact h
      · exact hno j y (by omega) hy
    have h1 := rLabel09_fn f g ns us x.2
    obtain ⟨a1, ha1⟩ : ∃ b, decide (x.1 < -20) = b := ⟨_, rfl⟩
    obtain ⟨a2, ha2⟩ : ∃ b, decide (20 < x.1) = b := ⟨_, rfl⟩
    obtain ⟨a3, ha3⟩ : ∃ b, (!oddL us.length x.2) = b := ⟨_, rfl⟩
    have hpe : atomB us.length x = (!(a1 || a2) && a3) := by
      rw [← ha1, ← ha2, ← ha3, atomB, inB]; congr 1; rw [Bool.eq_iff_iff]; simp
    rw [ha3] at h1
    cases a1
    case true =>
      repeat' first | (with_reducible first | refine AWP_seq' ?_ | refine k_normal ?_ | refine k_ret ?_ | refine b_ret ?_ | refine AWP_ret ?_ | refine AWP_skip ?_ | refine AWP_block ?_) | ((with_reducible refine And.intro ?_ ?_); · exact Sq) | ((with_reducible refine AWP_reg fun KC J hJ hKC => ?_); simp (maxSteps := 9999999) only [push_cast, seval, ↓reduceIte, hlt, getE_p hx, ha1, ha2, undef]) | ((with_reducible refine hJ _ _ ?_); clear hJ hKC KC J) | ((with_reducible refine AWP_condT ?_ ?_); · rfl)
      refine ret_plain ?_
      simp (maxSteps := 9999999) only [push_cast, seval, ↓reduceIte, show Tryz.f158.results = #[(.tmp 4)] from rfl]
      rw [hnot (by rw [hpe]; first | rfl | (cases a2 <;> rfl))]
      exact Lq
    cases a2
    case true =>
      repeat' first | (with_reducible first | refine AWP_seq' ?_ | refine k_normal ?_ | refine k_ret ?_ | refine b_ret ?_ | refine AWP_ret ?_ | refine AWP_skip ?_ | refine AWP_block ?_) | ((with_reducible refine And.intro ?_ ?_); · exact Sq) | ((with_reducible refine AWP_reg fun KC J hJ hKC => ?_); simp (maxSteps := 9999999) only [push_cast, seval, ↓reduceIte, hlt, getE_p hx, ha1, ha2, undef]) | ((with_reducible refine hJ _ _ ?_); clear hJ hKC KC J) | ((with_reducible refine AWP_condT ?_ ?_); · rfl)
      refine ret_plain ?_
      simp (maxSteps := 9999999) only [push_cast, seval, ↓reduceIte, show Tryz.f158.results = #[(.tmp 4)] from rfl]
      rw [hnot (by rw [hpe]; first | rfl | (cases a2 <;> rfl))]
      exact Lq
    cases a3
    case false =>
      repeat' first | (with_reducible first | refine AWP_seq' ?_ | refine k_normal ?_ | refine k_ret ?_ | refine b_ret ?_ | refine AWP_ret ?_ | refine AWP_skip ?_ | refine AWP_block ?_) | ((with_reducible refine And.intro ?_ ?_); · exact Sq) | ((first | with_reducible refine AWP_reg fun KC J hJ hKC => ?_ | (refine hKC _ _ _ _ _ (callV0 (h1) rfl rfl rfl ?_ ?_); (· exact Lq))); simp (maxSteps := 9999999) only [push_cast, seval, ↓reduceIte, hlt, getE_p hx, ha1, ha2, undef]) | ((with_reducible refine hJ _ _ ?_); clear hJ hKC KC J) | ((with_reducible refine AWP_condT ?_ ?_); · rfl)
      refine ret_plain ?_
      simp (maxSteps := 9999999) only [push_cast, seval, ↓reduceIte, show Tryz.f158.results = #[(.tmp 4)] from rfl]
      rw [hnot (by rw [hpe]; rfl)]
      exact Lq
    repeat' first | (with_reducible first | refine AWP_seq' ?_ | refine k_normal ?_ | refine b_normal ?_ | refine AWP_skip ?_ | refine AWP_block ?_) | ((with_reducible refine And.intro ?_ ?_); · exact Sq) | ((first | with_reducible refine AWP_reg fun KC J hJ hKC => ?_ | (refine hKC _ _ _ _ _ (callV0 (h1) rfl rfl rfl ?_ ?_); (· exact Lq))); simp (maxSteps := 9999999) only [push_cast, seval, ↓reduceIte, hlt, getE_p hx, ha1, ha2, wrapN (i := i) (n := xs.length) (by omega) (by omega), undef]) | ((with_reducible refine hJ _ _ ?_); clear hJ hKC KC J) | ((with_reducible refine AWP_condT ?_ ?_); · rfl) | ((with_reducible refine AWP_condF ?_ ?_); · rfl)
    refine ⟨⟨i + 1, by omega, hyes (by rw [hpe]; rfl)⟩, by simp only; omega, ?_, ⟨_, rfl⟩⟩
    exact Lq
  have hin : i = xs.length := by omega
  have hall : xs.all (atomB us.length) = true := by
    rw [List.all_eq_true]
    intro x hx
    obtain ⟨j, hj⟩ := List.mem_iff_getElem?.1 hx
    exact hno j x (by have := (List.getElem?_eq_some_iff.1 hj).1; omega) hj
  repeat' first | (with_reducible first | refine AWP_seq' ?_ | refine k_normal ?_ | refine k_exit ?_ | refine b_exit ?_ | refine AWP_ret ?_ | refine AWP_exit ?_) | ((with_reducible refine AWP_reg fun KC J hJ hKC => ?_); simp (maxSteps := 9999999) only [push_cast, seval, ↓reduceIte, hlt]) | ((with_reducible refine hJ _ _ ?_); clear hJ hKC KC J) | ((with_reducible refine AWP_condF ?_ ?_); · rfl)
  refine ret_plain ?_
  simp (maxSteps := 9999999) only [push_cast, seval, ↓reduceIte, show Tryz.f158.results = #[(.tmp 4)] from rfl]
  rw [hall]
  exact Lq
theorem rStack09_fn (f g h : Bool) (ns : List ByteArray) (us : List Nat) (xs : List (Bool × Int × Int)) (hl : xs.length ≤ 1000) :
    Fn Tryz.prog 159 [.agg [.sl f 1 (strRow ns), .sl g 1 (u32Row us)], .sl h 3 (sRow xs)] [] (.v (.bool (xs.all (slotB us.length) && decide (xs.length ≤ 12)))) [] := by
  refine Fn.of (fn := Tryz.f159) (by kernel_rfl) rfl (by kernel_rfl) ⟨[.agg [.sl f 1 (strRow ns), .sl g 1 (u32Row us)], .sl h 3 (sRow xs), .v undef, .v undef, .v undef, .v undef, .v undef, .v undef, .v undef, .v undef, .v undef, .v undef, .v undef, .v undef, .v undef, .v undef, .v undef, .v undef, .v undef, .v undef, .v undef, .v undef, .v undef, .v undef, .v undef, .v undef, .v undef, .v undef, .v undef, .v undef, .v undef, .v undef, .v undef, .v undef, .v undef, .v undef, .v undef, .v undef, .v undef, .v undef, .v undef, .v undef, .v undef, .v undef, .v undef, .v undef], []⟩ rfl ?_
  repeat' first | (with_reducible first | refine AWP_seq' ?_ | refine k_normal ?_ | refine AWP_block ?_) | ((with_reducible refine AWP_reg fun KC J hJ hKC => ?_); simp (maxSteps := 9999999) only [push_cast, seval, ↓reduceIte]) | ((with_reducible refine hJ _ _ ?_); clear hJ hKC KC J)
  refine AWP_loopD 1 (γ := {i : Nat // i ≤ xs.length ∧ ∀ (j : Nat) (x : Bool × Int × Int), j < i → xs[j]? = some x → (slotB us.length x) = true}) (fun i => ⟨[.any, .sl h 3 (sRow xs), .ptr 0 0 0, .any, .any, .any, .any, .sl h 3 (sRow xs), .v (.int .i64 xs.length), .v (.int .i64 i.1), .any, .any, .any, .any, .any, .any, .any, .any, .any, .any, .any, .any, .any, .any, .any, .any, .any, .any, .any, .any, .any, .any, .any, .any, .any, .any, .any, .any, .any, .any, .any, .any, .any, .any, .any, .any], [.ent ⟨0, none, 25, [.sl f 1 (strRow ns), .sl g 1 (u32Row us)], .cells⟩]⟩) (fun i => xs.length - i.1) ⟨0, by simp⟩ (fun i => rfl) (fun i => clsd_all rfl) (fun i => rfl) ⟨?_, Fq⟩ ?_
  · exact Lq
  rintro ⟨i, hi, hno⟩
  by_cases hlt : (i : Int) < (xs.length : Int)
  · have hx : xs[i]? = some xs[i] := List.getElem?_eq_getElem (by omega)
    obtain ⟨x, hx0⟩ : ∃ x, xs[i] = x := ⟨_, rfl⟩
    rw [hx0] at hx
    have hnot : (slotB us.length x) = false → xs.all (slotB us.length) = false := fun h => by
      rw [List.all_eq_false]; exact ⟨x, List.mem_of_getElem? hx, by rw [h]; simp⟩
    have hyes : (slotB us.length x) = true → ∀ (j : Nat) (y : Bool × Int × Int), j < i + 1 → xs[j]? = some y → (slotB us.length y) = true := fun h j y hj hy => by
      by_cases hji : j = i
      · subst hji; rw [hx] at hy; cases hy; exact h
      · exact hno j y (by omega) hy
    obtain ⟨r, v, l⟩ := x
    have h1 := rLabel09_fn f g ns us l
    obtain ⟨a1, ha1⟩ : ∃ b, decide (v < -20) = b := ⟨_, rfl⟩
    obtain ⟨a2, ha2⟩ : ∃ b, decide (20 < v) = b := ⟨_, rfl⟩
    obtain ⟨a3, ha3⟩ : ∃ b, (!oddL us.length l) = b := ⟨_, rfl⟩
    obtain ⟨a4, ha4⟩ : ∃ b, decide (v < 0) = b := ⟨_, rfl⟩
    obtain ⟨a5, ha5⟩ : ∃ b, decide (12 < v) = b := ⟨_, rfl⟩
    have hpe : slotB us.length (r, v, l) = (!(a1 || a2) && (a3 && !(r && (a4 || a5)))) := by
      rw [← ha1, ← ha2, ← ha3, ← ha4, ← ha5, slotB, inB, inB]
      cases r
      · simp only [Bool.false_eq_true, if_false, Bool.false_and, Bool.not_false, Bool.and_true]
        rw [Bool.and_comm]; congr 1; rw [Bool.eq_iff_iff]; simp
      · rw [Bool.eq_iff_iff]; simp; omega
    rw [ha3] at h1
    cases a1
    case true =>
      repeat' first | (with_reducible first | refine AWP_seq' ?_ | refine k_normal ?_ | refine k_ret ?_ | refine b_ret ?_ | refine AWP_ret ?_ | refine AWP_skip ?_ | refine AWP_block ?_) | ((with_reducible refine And.intro ?_ ?_); · exact Sq) | ((with_reducible refine AWP_reg fun KC J hJ hKC => ?_); simp (maxSteps := 9999999) only [push_cast, seval, ↓reduceIte, hlt, getE_s hx, ha1, ha2, ha4, ha5, undef]) | ((with_reducible refine hJ _ _ ?_); clear hJ hKC KC J) | ((with_reducible refine AWP_condT ?_ ?_); · rfl)
      refine ret_plain ?_
      simp (maxSteps := 9999999) only [push_cast, seval, ↓reduceIte, show Tryz.f159.results = #[(.tmp 4)] from rfl]
      rw [hnot (by rw [hpe]; first | rfl | (cases a2 <;> rfl))]
      exact Lq
    cases a2
    case true =>
      repeat' first | (with_reducible first | refine AWP_seq' ?_ | refine k_normal ?_ | refine k_ret ?_ | refine b_ret ?_ | refine AWP_ret ?_ | refine AWP_skip ?_ | refine AWP_block ?_) | ((with_reducible refine And.intro ?_ ?_); · exact Sq) | ((with_reducible refine AWP_reg fun KC J hJ hKC => ?_); simp (maxSteps := 9999999) only [push_cast, seval, ↓reduceIte, hlt, getE_s hx, ha1, ha2, ha4, ha5, undef]) | ((with_reducible refine hJ _ _ ?_); clear hJ hKC KC J) | ((with_reducible refine AWP_condT ?_ ?_); · rfl)
      refine ret_plain ?_
      simp (maxSteps := 9999999) only [push_cast, seval, ↓reduceIte, show Tryz.f159.results = #[(.tmp 4)] from rfl]
      rw [hnot (by rw [hpe]; first | rfl | (cases a2 <;> rfl))]
      exact Lq
    cases a3
    case false =>
      repeat' first | (with_reducible first | refine AWP_seq' ?_ | refine k_normal ?_ | refine k_ret ?_ | refine b_ret ?_ | refine AWP_ret ?_ | refine AWP_skip ?_ | refine AWP_block ?_) | ((with_reducible refine And.intro ?_ ?_); · exact Sq) | ((first | with_reducible refine AWP_reg fun KC J hJ hKC => ?_ | (refine hKC _ _ _ _ _ (callV0 (h1) rfl rfl rfl ?_ ?_); (· exact Lq))); simp (maxSteps := 9999999) only [push_cast, seval, ↓reduceIte, hlt, getE_s hx, ha1, ha2, ha4, ha5, undef]) | ((with_reducible refine hJ _ _ ?_); clear hJ hKC KC J) | ((with_reducible refine AWP_condT ?_ ?_); · rfl)
      refine ret_plain ?_
      simp (maxSteps := 9999999) only [push_cast, seval, ↓reduceIte, show Tryz.f159.results = #[(.tmp 4)] from rfl]
      rw [hnot (by rw [hpe]; rfl)]
      exact Lq
    cases r
    case false =>
      repeat' first | (with_reducible first | refine AWP_seq' ?_ | refine k_normal ?_ | refine b_normal ?_ | refine AWP_skip ?_ | refine AWP_block ?_) | ((with_reducible refine And.intro ?_ ?_); · exact Sq) | ((first | with_reducible refine AWP_reg fun KC J hJ hKC => ?_ | (refine hKC _ _ _ _ _ (callV0 (h1) rfl rfl rfl ?_ ?_); (· exact Lq))); simp (maxSteps := 9999999) only [push_cast, seval, ↓reduceIte, hlt, getE_s hx, ha1, ha2, ha4, ha5, wrapN (i := i) (n := xs.length) (by omega) (by omega), undef]) | ((with_reducible refine hJ _ _ ?_); clear hJ hKC KC J) | ((with_reducible refine AWP_condT ?_ ?_); · rfl) | ((with_reducible refine AWP_condF ?_ ?_); · rfl)
      refine ⟨⟨i + 1, by omega, hyes (by rw [hpe]; rfl)⟩, by simp only; omega, ?_, ⟨_, rfl⟩⟩
      exact Lq
    cases a4
    case true =>
      repeat' first | (with_reducible first | refine AWP_seq' ?_ | refine k_normal ?_ | refine k_ret ?_ | refine b_ret ?_ | refine AWP_ret ?_ | refine AWP_skip ?_ | refine AWP_block ?_) | ((with_reducible refine And.intro ?_ ?_); · exact Sq) | ((first | with_reducible refine AWP_reg fun KC J hJ hKC => ?_ | (refine hKC _ _ _ _ _ (callV0 (h1) rfl rfl rfl ?_ ?_); (· exact Lq))); simp (maxSteps := 9999999) only [push_cast, seval, ↓reduceIte, hlt, getE_s hx, ha1, ha2, ha4, ha5, undef]) | ((with_reducible refine hJ _ _ ?_); clear hJ hKC KC J) | ((with_reducible refine AWP_condT ?_ ?_); · rfl)
      refine ret_plain ?_
      simp (maxSteps := 9999999) only [push_cast, seval, ↓reduceIte, show Tryz.f159.results = #[(.tmp 4)] from rfl]
      rw [hnot (by rw [hpe]; rfl)]
      exact Lq
    cases a5
    case true =>
      repeat' first | (with_reducible first | refine AWP_seq' ?_ | refine k_normal ?_ | refine k_ret ?_ | refine b_ret ?_ | refine AWP_ret ?_ | refine AWP_skip ?_ | refine AWP_block ?_) | ((with_reducible refine And.intro ?_ ?_); · exact Sq) | ((first | with_reducible refine AWP_reg fun KC J hJ hKC => ?_ | (refine hKC _ _ _ _ _ (callV0 (h1) rfl rfl rfl ?_ ?_); (· exact Lq))); simp (maxSteps := 9999999) only [push_cast, seval, ↓reduceIte, hlt, getE_s hx, ha1, ha2, ha4, ha5, undef]) | ((with_reducible refine hJ _ _ ?_); clear hJ hKC KC J) | ((with_reducible refine AWP_condT ?_ ?_); · rfl)
      refine ret_plain ?_
      simp (maxSteps := 9999999) only [push_cast, seval, ↓reduceIte, show Tryz.f159.results = #[(.tmp 4)] from rfl]
      rw [hnot (by rw [hpe]; rfl)]
      exact Lq
    repeat' first | (with_reducible first | refine AWP_seq' ?_ | refine k_normal ?_ | refine b_normal ?_ | refine AWP_skip ?_ | refine AWP_block ?_) | ((with_reducible refine And.intro ?_ ?_); · exact Sq) | ((first | with_reducible refine AWP_reg fun KC J hJ hKC => ?_ | (refine hKC _ _ _ _ _ (callV0 (h1) rfl rfl rfl ?_ ?_); (· exact Lq))); simp (maxSteps := 9999999) only [push_cast, seval, ↓reduceIte, hlt, getE_s hx, ha1, ha2, ha4, ha5, wrapN (i := i) (n := xs.length) (by omega) (by omega), undef]) | ((with_reducible refine hJ _ _ ?_); clear hJ hKC KC J) | ((with_reducible refine AWP_condT ?_ ?_); · rfl) | ((with_reducible refine AWP_condF ?_ ?_); · rfl)
    refine ⟨⟨i + 1, by omega, hyes (by rw [hpe]; rfl)⟩, by simp only; omega, ?_, ⟨_, rfl⟩⟩
    exact Lq
  have hin : i = xs.length := by omega
  have hall : xs.all (slotB us.length) = true := by
    rw [List.all_eq_true]
    intro x hx
    obtain ⟨j, hj⟩ := List.mem_iff_getElem?.1 hx
    exact hno j x (by have := (List.getElem?_eq_some_iff.1 hj).1; omega) hj
  repeat' first | (with_reducible first | refine AWP_seq' ?_ | refine k_normal ?_ | refine k_exit ?_ | refine b_exit ?_ | refine AWP_ret ?_ | refine AWP_exit ?_) | ((with_reducible refine AWP_reg fun KC J hJ hKC => ?_); simp (maxSteps := 9999999) only [push_cast, seval, ↓reduceIte, hlt]) | ((with_reducible refine hJ _ _ ?_); clear hJ hKC KC J) | ((with_reducible refine AWP_condF ?_ ?_); · rfl)
  refine ret_plain ?_
  simp (maxSteps := 9999999) only [push_cast, seval, ↓reduceIte, show Tryz.f159.results = #[(.tmp 4)] from rfl]
  rw [hall, Bool.true_and, show decide (xs.length ≤ 12) = decide ((xs.length : Int) ≤ 12) from decide_eq_decide.2 (by omega)]
  exact Lq
end Go.Proofs.YtabliglgeiajlaaGreat.AM

namespace Go.Proofs.YtabliglgeiajlaaGreat.AM
open Go Go.RowKit Go.Proofs
set_option maxRecDepth 100000
set_option maxHeartbeats 4000000
end Go.Proofs.YtabliglgeiajlaaGreat.AM

namespace Go.Proofs.YtabliglgeiajlaaGreat.AM
open Go Go.RowKit Go.Proofs
set_option maxRecDepth 100000
set_option maxHeartbeats 8000000
theorem rRight09_fn (f g : Bool) (ns : List ByteArray) (us : List Nat) (s : Sta) (hl : Sml s) : Fn Tryz.prog 65 [.agg [.sl f 1 (strRow ns), .sl g 1 (u32Row us)], .agg (staF false false false false s)] [] (.v (.bool (staB us.length s))) [] := by
  obtain ⟨l1, l2, l3, l4⟩ := hl
  have h1 := rRight08_fn f g false ns us s.code l1
  have h2 := rLabel09_fn f g ns us s.l
  have h3 := rAtoms09_fn f g false ns us s.mem l2
  have h4 := rStack09_fn f g false ns us s.stack l3
  have h5 := rAtoms09_fn f g false ns us s.out l4
  have he : staB us.length s = (codeB us.length s.code && (!decide (s.v < 0) && (!decide (12 < s.v) && ((!oddL us.length s.l) && (s.mem.all (atomB us.length) && (decide (s.mem.length ≤ 6) && ((s.stack.all (slotB us.length) && decide (s.stack.length ≤ 12)) && (s.out.all (atomB us.length) && decide (s.out.length ≤ 8))))))))) := by
    have hi : inB 0 12 s.v = (!decide (s.v < 0) && !decide (12 < s.v)) := by rw [Bool.eq_iff_iff]; simp [inB]
    rw [staB, hi]
    simp only [Bool.and_assoc]
  rw [he]
  obtain ⟨c1, hc1⟩ : ∃ x, codeB us.length s.code = x := ⟨_, rfl⟩
  obtain ⟨c2, hc2⟩ : ∃ x, decide (s.v < 0) = x := ⟨_, rfl⟩
  obtain ⟨c3, hc3⟩ : ∃ x, decide (12 < s.v) = x := ⟨_, rfl⟩
  obtain ⟨c4, hc4⟩ : ∃ x, (!oddL us.length s.l) = x := ⟨_, rfl⟩
  obtain ⟨c5, hc5⟩ : ∃ x, s.mem.all (atomB us.length) = x := ⟨_, rfl⟩
  obtain ⟨c6, hc6⟩ : ∃ x, decide (s.mem.length ≤ 6) = x := ⟨_, rfl⟩
  obtain ⟨c7, hc7⟩ : ∃ x, (s.stack.all (slotB us.length) && decide (s.stack.length ≤ 12)) = x := ⟨_, rfl⟩
  obtain ⟨c8, hc8⟩ : ∃ x, s.out.all (atomB us.length) = x := ⟨_, rfl⟩
  have hc6' : decide ((s.mem.length : Int) ≤ 6) = c6 := by rw [← hc6]; exact decide_eq_decide.2 (by omega)
  have hc9' : decide ((s.out.length : Int) ≤ 8) = decide (s.out.length ≤ 8) := decide_eq_decide.2 (by omega)
  rw [hc1] at h1 ⊢
  rw [hc4] at h2 ⊢
  rw [hc5] at h3 ⊢
  rw [hc7] at h4 ⊢
  rw [hc8] at h5 ⊢
  rw [hc2, hc3, hc6]
  simp only [staF]
  refine Fn.of (fn := Tryz.f65) (by kernel_rfl) rfl (by kernel_rfl) ⟨[.agg [.sl f 1 (strRow ns), .sl g 1 (u32Row us)], .agg [.v (.int .i64 s.v), .v (.int .i64 s.l), .sl false 3 (tRow s.code), .sl false 2 (pRow s.mem), .sl false 3 (sRow s.stack), .sl false 2 (pRow s.out)], .v undef, .v undef, .v undef, .v undef, .v undef, .v undef, .v undef, .v undef, .v undef, .v undef, .v undef, .v undef, .v undef, .v undef, .v undef, .v undef, .v undef, .v undef, .v undef, .v undef, .v undef, .v undef, .v undef, .v undef, .v undef, .v undef, .v undef, .v undef, .v undef, .v undef, .v undef, .v undef, .v undef, .v undef, .v undef, .v undef, .v undef, .v undef, .v undef, .v undef, .v undef, .v undef, .v undef, .v undef, .v undef, .v undef, .v undef, .v undef, .v undef, .v undef, .v undef, .v undef, .v undef, .v undef, .v undef, .v undef], []⟩ rfl ?_
  cases c1
  case false =>
    repeat' first | (with_reducible first | refine AWP_seq' ?_ | refine k_normal ?_ | refine k_ret ?_ | refine AWP_ret ?_) | ((first | with_reducible refine AWP_reg fun KC J hJ hKC => ?_ | (refine hKC _ _ _ _ _ (callV0 (h1) rfl rfl rfl ?_ ?_); (· exact Lq))); simp (maxSteps := 9999999) only [push_cast, seval, ↓reduceIte, hc2, hc3, hc6', hc9', undef]) | ((with_reducible refine hJ _ _ ?_); clear hJ hKC KC J) | ((with_reducible refine AWP_condT ?_ ?_); · rfl)
    refine ret_plain ?_
    simp (maxSteps := 9999999) only [push_cast, seval, ↓reduceIte, show Tryz.f65.results = #[(.tmp 4)] from rfl]
    exact Lq
  cases c2
  case true =>
    repeat' first | (with_reducible first | refine AWP_seq' ?_ | refine k_normal ?_ | refine k_ret ?_ | refine AWP_ret ?_) | ((first | with_reducible refine AWP_reg fun KC J hJ hKC => ?_ | (refine hKC _ _ _ _ _ (callV0 (h1) rfl rfl rfl ?_ ?_); (· exact Lq))); simp (maxSteps := 9999999) only [push_cast, seval, ↓reduceIte, hc2, hc3, hc6', hc9', undef]) | ((with_reducible refine hJ _ _ ?_); clear hJ hKC KC J) | ((with_reducible refine AWP_condT ?_ ?_); · rfl)
    refine ret_plain ?_
    simp (maxSteps := 9999999) only [push_cast, seval, ↓reduceIte, show Tryz.f65.results = #[(.tmp 4)] from rfl]
    exact Lq
  cases c3
  case true =>
    repeat' first | (with_reducible first | refine AWP_seq' ?_ | refine k_normal ?_ | refine k_ret ?_ | refine AWP_ret ?_) | ((first | with_reducible refine AWP_reg fun KC J hJ hKC => ?_ | (refine hKC _ _ _ _ _ (callV0 (h1) rfl rfl rfl ?_ ?_); (· exact Lq))); simp (maxSteps := 9999999) only [push_cast, seval, ↓reduceIte, hc2, hc3, hc6', hc9', undef]) | ((with_reducible refine hJ _ _ ?_); clear hJ hKC KC J) | ((with_reducible refine AWP_condT ?_ ?_); · rfl)
    refine ret_plain ?_
    simp (maxSteps := 9999999) only [push_cast, seval, ↓reduceIte, show Tryz.f65.results = #[(.tmp 4)] from rfl]
    exact Lq
  cases c4
  case false =>
    repeat' first | (with_reducible first | refine AWP_seq' ?_ | refine k_normal ?_ | refine k_ret ?_ | refine AWP_ret ?_) | ((first | with_reducible refine AWP_reg fun KC J hJ hKC => ?_ | (refine hKC _ _ _ _ _ (callV0 (h1) rfl rfl rfl ?_ ?_); (· exact Lq)) | (refine hKC _ _ _ _ _ (callV0 (h2) rfl rfl rfl ?_ ?_); (· exact Lq))); simp (maxSteps := 9999999) only [push_cast, seval, ↓reduceIte, hc2, hc3, hc6', hc9', undef]) | ((with_reducible refine hJ _ _ ?_); clear hJ hKC KC J) | ((with_reducible refine AWP_condT ?_ ?_); · rfl)
    refine ret_plain ?_
    simp (maxSteps := 9999999) only [push_cast, seval, ↓reduceIte, show Tryz.f65.results = #[(.tmp 4)] from rfl]
    exact Lq
  cases c5
  case false =>
    repeat' first | (with_reducible first | refine AWP_seq' ?_ | refine k_normal ?_ | refine AWP_ret ?_ | refine AWP_skip ?_) | ((first | with_reducible refine AWP_reg fun KC J hJ hKC => ?_ | (refine hKC _ _ _ _ _ (callV0 (h1) rfl rfl rfl ?_ ?_); (· exact Lq)) | (refine hKC _ _ _ _ _ (callV0 (h2) rfl rfl rfl ?_ ?_); (· exact Lq)) | (refine hKC _ _ _ _ _ (callV0 (h3) rfl rfl rfl ?_ ?_); (· exact Lq))); simp (maxSteps := 9999999) only [push_cast, seval, ↓reduceIte, hc2, hc3, hc6', hc9', undef]) | ((with_reducible refine hJ _ _ ?_); clear hJ hKC KC J) | ((with_reducible refine AWP_condF ?_ ?_); · rfl)
    refine ret_plain ?_
    simp (maxSteps := 9999999) only [push_cast, seval, ↓reduceIte, show Tryz.f65.results = #[(.tmp 4)] from rfl]
    exact Lq
  cases c6
  case false =>
    repeat' first | (with_reducible first | refine AWP_seq' ?_ | refine k_normal ?_ | refine AWP_ret ?_ | refine AWP_skip ?_) | ((first | with_reducible refine AWP_reg fun KC J hJ hKC => ?_ | (refine hKC _ _ _ _ _ (callV0 (h1) rfl rfl rfl ?_ ?_); (· exact Lq)) | (refine hKC _ _ _ _ _ (callV0 (h2) rfl rfl rfl ?_ ?_); (· exact Lq)) | (refine hKC _ _ _ _ _ (callV0 (h3) rfl rfl rfl ?_ ?_); (· exact Lq))); simp (maxSteps := 9999999) only [push_cast, seval, ↓reduceIte, hc2, hc3, hc6', hc9', undef]) | ((with_reducible refine hJ _ _ ?_); clear hJ hKC KC J) | ((with_reducible refine AWP_condF ?_ ?_); · rfl)
    refine ret_plain ?_
    simp (maxSteps := 9999999) only [push_cast, seval, ↓reduceIte, show Tryz.f65.results = #[(.tmp 4)] from rfl]
    exact Lq
  cases c7
  case false =>
    repeat' first | (with_reducible first | refine AWP_seq' ?_ | refine k_normal ?_ | refine AWP_ret ?_ | refine AWP_skip ?_) | ((first | with_reducible refine AWP_reg fun KC J hJ hKC => ?_ | (refine hKC _ _ _ _ _ (callV0 (h1) rfl rfl rfl ?_ ?_); (· exact Lq)) | (refine hKC _ _ _ _ _ (callV0 (h2) rfl rfl rfl ?_ ?_); (· exact Lq)) | (refine hKC _ _ _ _ _ (callV0 (h3) rfl rfl rfl ?_ ?_); (· exact Lq)) | (refine hKC _ _ _ _ _ (callV0 (h4) rfl rfl rfl ?_ ?_); (· exact Lq))); simp (maxSteps := 9999999) only [push_cast, seval, ↓reduceIte, hc2, hc3, hc6', hc9', undef]) | ((with_reducible refine hJ _ _ ?_); clear hJ hKC KC J) | ((with_reducible refine AWP_condF ?_ ?_); · rfl)
    refine ret_plain ?_
    simp (maxSteps := 9999999) only [push_cast, seval, ↓reduceIte, show Tryz.f65.results = #[(.tmp 4)] from rfl]
    exact Lq
  cases c8
  case false =>
    repeat' first | (with_reducible first | refine AWP_seq' ?_ | refine k_normal ?_ | refine AWP_ret ?_ | refine AWP_skip ?_) | ((first | with_reducible refine AWP_reg fun KC J hJ hKC => ?_ | (refine hKC _ _ _ _ _ (callV0 (h1) rfl rfl rfl ?_ ?_); (· exact Lq)) | (refine hKC _ _ _ _ _ (callV0 (h2) rfl rfl rfl ?_ ?_); (· exact Lq)) | (refine hKC _ _ _ _ _ (callV0 (h3) rfl rfl rfl ?_ ?_); (· exact Lq)) | (refine hKC _ _ _ _ _ (callV0 (h4) rfl rfl rfl ?_ ?_); (· exact Lq)) | (refine hKC _ _ _ _ _ (callV0 (h5) rfl rfl rfl ?_ ?_); (· exact Lq))); simp (maxSteps := 9999999) only [push_cast, seval, ↓reduceIte, hc2, hc3, hc6', hc9', undef]) | ((with_reducible refine hJ _ _ ?_); clear hJ hKC KC J) | ((with_reducible refine AWP_condF ?_ ?_); · rfl)
    refine ret_plain ?_
    simp (maxSteps := 9999999) only [push_cast, seval, ↓reduceIte, show Tryz.f65.results = #[(.tmp 4)] from rfl]
    exact Lq
  repeat' first | (with_reducible first | refine AWP_seq' ?_ | refine k_normal ?_ | refine AWP_ret ?_ | refine AWP_skip ?_) | ((first | with_reducible refine AWP_reg fun KC J hJ hKC => ?_ | (refine hKC _ _ _ _ _ (callV0 (h1) rfl rfl rfl ?_ ?_); (· exact Lq)) | (refine hKC _ _ _ _ _ (callV0 (h2) rfl rfl rfl ?_ ?_); (· exact Lq)) | (refine hKC _ _ _ _ _ (callV0 (h3) rfl rfl rfl ?_ ?_); (· exact Lq)) | (refine hKC _ _ _ _ _ (callV0 (h4) rfl rfl rfl ?_ ?_); (· exact Lq)) | (refine hKC _ _ _ _ _ (callV0 (h5) rfl rfl rfl ?_ ?_); (· exact Lq))); simp (maxSteps := 9999999) only [push_cast, seval, ↓reduceIte, hc2, hc3, hc6', hc9', undef]) | ((with_reducible refine hJ _ _ ?_); clear hJ hKC KC J) | ((with_reducible refine AWP_condF ?_ ?_); · rfl)
  refine ret_plain ?_
  simp (maxSteps := 9999999) only [push_cast, seval, ↓reduceIte, show Tryz.f65.results = #[(.tmp 4)] from rfl]
  exact Lq
end Go.Proofs.YtabliglgeiajlaaGreat.AM

namespace Go.Proofs.YtabliglgeiajlaaGreat.AM
open Go Go.RowKit Go.Proofs
set_option maxRecDepth 100000
set_option maxHeartbeats 4000000
theorem rMay21_fn (f g : Bool) (ns : List ByteArray) (us : List Nat) (a b : Sta) (hs : Szs ns) (hu : U32 us) (ha : Sml a) (hb : Sml b) :
    Fn Tryz.prog 25 [.agg [.sl f 1 (strRow ns), .sl g 1 (u32Row us)], .agg (encT a b)] [] (.v (.int .i64 (mayT ns us a b))) [] := by
  have h1 := rCheck_fn f g ns us hs hu
  have h2 := rRight09_fn f g ns us a ha
  have h3 := rRight09_fn f g ns us b hb
  unfold mayT
  obtain ⟨c, hcc⟩ : ∃ c, checkF ns us = c := ⟨_, rfl⟩
  rw [hcc] at h1 ⊢
  by_cases hc : c = 0
  · subst hc
    rw [if_pos rfl]
    obtain ⟨p, hp⟩ : ∃ p, staB us.length a = p := ⟨_, rfl⟩
    obtain ⟨q, hq⟩ : ∃ p, staB us.length b = p := ⟨_, rfl⟩
    rw [hp] at h2
    rw [hq] at h3
    rw [hp, hq]
    simp only [encT, staF, List.cons_append, List.nil_append] at h2 h3 ⊢
    cases p <;> cases q
    all_goals
      refine Fn.of (fn := Tryz.f25) (by kernel_rfl) rfl (by kernel_rfl) ⟨[.agg [.sl f 1 (strRow ns), .sl g 1 (u32Row us)], .agg [.v (.int .i64 a.v), .v (.int .i64 a.l), .sl false 3 (tRow a.code), .sl false 2 (pRow a.mem), .sl false 3 (sRow a.stack), .sl false 2 (pRow a.out), .v (.int .i64 b.v), .v (.int .i64 b.l), .sl false 3 (tRow b.code), .sl false 2 (pRow b.mem), .sl false 3 (sRow b.stack), .sl false 2 (pRow b.out)], .v undef, .v undef, .v undef, .v undef, .v undef, .v undef, .v undef, .v undef, .v undef, .v undef, .v undef, .v undef, .v undef, .v undef, .v undef, .v undef, .v undef, .v undef, .v undef, .v undef, .v undef, .v undef, .v undef], []⟩ rfl ?_
      repeat' first | (with_reducible first | refine AWP_seq' ?_ | refine k_normal ?_ | refine k_ret ?_ | refine AWP_ret ?_ | refine AWP_skip ?_) | ((first | with_reducible refine AWP_reg fun KC J hJ hKC => ?_ | (refine hKC _ _ _ _ _ (callV0 (h1) rfl rfl rfl ?_ ?_); (· exact Lq)) | (refine hKC _ _ _ _ _ (callV0 (h2) rfl rfl rfl ?_ ?_); (· exact Lq)) | (refine hKC _ _ _ _ _ (callV0 (h3) rfl rfl rfl ?_ ?_); (· exact Lq))); simp (maxSteps := 9999999) only [push_cast, seval, ↓reduceIte, beq_self_eq_true]) | ((with_reducible refine hJ _ _ ?_); clear hJ hKC KC J) | ((with_reducible refine AWP_condT ?_ ?_); · rfl) | ((with_reducible refine AWP_condF ?_ ?_); · rfl)
      refine ret_plain ?_
      simp (maxSteps := 9999999) only [push_cast, seval, ↓reduceIte, show Tryz.f25.results = #[(.tmp 4)] from rfl]
      exact Lq
  · rw [if_neg hc]
    have hc' : (c == 0) = false := by simpa using hc
    simp only [encT, staF, List.cons_append, List.nil_append]
    refine Fn.of (fn := Tryz.f25) (by kernel_rfl) rfl (by kernel_rfl) ⟨[.agg [.sl f 1 (strRow ns), .sl g 1 (u32Row us)], .agg [.v (.int .i64 a.v), .v (.int .i64 a.l), .sl false 3 (tRow a.code), .sl false 2 (pRow a.mem), .sl false 3 (sRow a.stack), .sl false 2 (pRow a.out), .v (.int .i64 b.v), .v (.int .i64 b.l), .sl false 3 (tRow b.code), .sl false 2 (pRow b.mem), .sl false 3 (sRow b.stack), .sl false 2 (pRow b.out)], .v undef, .v undef, .v undef, .v undef, .v undef, .v undef, .v undef, .v undef, .v undef, .v undef, .v undef, .v undef, .v undef, .v undef, .v undef, .v undef, .v undef, .v undef, .v undef, .v undef, .v undef, .v undef, .v undef], []⟩ rfl ?_
    repeat' first | (with_reducible first | refine AWP_seq' ?_ | refine k_normal ?_ | refine AWP_ret ?_ | refine AWP_skip ?_) | ((first | with_reducible refine AWP_reg fun KC J hJ hKC => ?_ | (refine hKC _ _ _ _ _ (callV0 (h1) rfl rfl rfl ?_ ?_); (· exact Lq))); simp (maxSteps := 9999999) only [push_cast, seval, ↓reduceIte, hc', undef]) | ((with_reducible refine hJ _ _ ?_); clear hJ hKC KC J) | ((with_reducible refine AWP_condF ?_ ?_); · rfl)
    refine ret_plain ?_
    simp (maxSteps := 9999999) only [push_cast, seval, ↓reduceIte, show Tryz.f25.results = #[(.tmp 4)] from rfl]
    exact Lq
theorem Bz.mono {k j : Nat} {z : Int × Int × Int} (h : Bz k z) (hk : k ≤ j) : Bz j z := by simp only [Bz] at h ⊢; omega
end Go.Proofs.YtabliglgeiajlaaGreat.AM

namespace Go.Proofs.YtabliglgeiajlaaGreat.AM
open Go Go.RowKit Go.Proofs
set_option maxRecDepth 100000
set_option maxHeartbeats 4000000
def gE (k : Nat) (nil : D) (n : Nat) : Option Nat → D
  | none => nil
  | some g => .ref k g n
def gσ (p : D → List Slot) (k sz ty : Nat) (nil : D) (n : Nat) (cs : List D) : Option Nat → List Slot
  | none => p nil
  | some g => p (.ref k g n) ++ [.ent ⟨g, some sz, ty, cs, .cells⟩]
theorem leS_cons {a b : Slot} {l m : List Slot} (h : leSl a b) (h2 : leS l m) : leS (a :: l) (b :: m) := ⟨h, h2⟩
theorem LSq {p : Prop} (h : p := by (repeat' first | exact leS_refl _ | refine leS_cons ?_ ?_ | exact .inr (.inl rfl) | exact leSl_ent rfl rfl rfl rfl Lq)) : p := h
theorem rmBefore_fn (i : Nat) (n : Int) (h0 : -20 ≤ n) (h1 : n ≤ 20) : Fn Tryz.prog 160 [.v (.int .i64 n), .v (.int .i64 (i : Int))] [] (.v (.int .i64 (befI i n))) [] := by
  have w : IntKind.i64.wrap (n - 1) = n - 1 := wrapI (by omega) (by omega)
  unfold befI
  by_cases h : (i : Int) < n
  · rw [if_pos h]
    refine Fn.of (fn := Tryz.f160) (by kernel_rfl) rfl (by kernel_rfl) ⟨[.v (.int .i64 n), .v (.int .i64 (i : Int)), .v undef, .v undef, .v undef, .v undef, .v undef, .v undef, .v undef, .v undef, .v undef], []⟩ rfl ?_
    repeat' first | (with_reducible first | refine AWP_seq' ?_ | refine k_normal ?_ | refine k_ret ?_ | refine AWP_ret ?_) | ((with_reducible refine AWP_reg fun KC J hJ hKC => ?_); simp (maxSteps := 9999999) only [push_cast, seval, ↓reduceIte, w, h, gt_iff_lt]) | ((with_reducible refine hJ _ _ ?_); clear hJ hKC KC J) | ((with_reducible refine AWP_condT ?_ ?_); · rfl)
    refine ret_plain ?_
    simp (maxSteps := 9999999) only [push_cast, seval, ↓reduceIte, show Tryz.f160.results = #[(.tmp 4)] from rfl]
    exact Lq
  · rw [if_neg h]
    refine Fn.of (fn := Tryz.f160) (by kernel_rfl) rfl (by kernel_rfl) ⟨[.v (.int .i64 n), .v (.int .i64 (i : Int)), .v undef, .v undef, .v undef, .v undef, .v undef, .v undef, .v undef, .v undef, .v undef], []⟩ rfl ?_
    repeat' first | (with_reducible first | refine AWP_seq' ?_ | refine k_normal ?_ | refine AWP_ret ?_ | refine AWP_skip ?_) | ((with_reducible refine AWP_reg fun KC J hJ hKC => ?_); simp (maxSteps := 9999999) only [push_cast, seval, ↓reduceIte, w, h, gt_iff_lt]) | ((with_reducible refine hJ _ _ ?_); clear hJ hKC KC J) | ((with_reducible refine AWP_condF ?_ ?_); · rfl)
    refine ret_plain ?_
    simp (maxSteps := 9999999) only [push_cast, seval, ↓reduceIte, show Tryz.f160.results = #[(.tmp 4)] from rfl]
    exact Lq
theorem rmSilent_fn (s : Sta) : Fn Tryz.prog 70 [.agg (staF false false false false s)] [] (.agg (staF false false false false (mvF .silent s))) [] := by
  simp only [staF, mvF, show pRow [] = [] from rfl]
  refine Fn.of (fn := Tryz.f70) (by kernel_rfl) rfl (by kernel_rfl) ⟨[.agg [.v (.int .i64 s.v), .v (.int .i64 s.l), .sl false 3 (tRow s.code), .sl false 2 (pRow s.mem), .sl false 3 (sRow s.stack), .sl false 2 (pRow s.out)], .v undef, .v undef, .v undef, .v undef], []⟩ rfl ?_
  repeat' first | (with_reducible first | refine AWP_seq' ?_ | refine k_normal ?_ | refine AWP_ret ?_) | ((with_reducible refine AWP_reg fun KC J hJ hKC => ?_); simp (maxSteps := 9999999) only [push_cast, seval, ↓reduceIte]) | ((with_reducible refine hJ _ _ ?_); clear hJ hKC KC J)
  refine ret_plain ?_
  simp (maxSteps := 9999999) only [push_cast, seval, ↓reduceIte, show Tryz.f70.results = #[(.cell 2 39)] from rfl]
  exact Lq
theorem rmLess_fn (s : Sta) (h : s.mem.length ≤ 15) : Fn Tryz.prog 69 [.agg (staF false false false false s)] [] (.agg (staF false false false false (mvF .less s))) [] := by
  have w : IntKind.i64.wrap ((s.mem.length : Int) - 1) = (s.mem.length : Int) - 1 := wrapI (by omega) (by omega)
  simp only [staF, mvF]
  by_cases h0 : 0 < s.mem.length
  · have h0' : (0 : Int) < (s.mem.length : Int) := by omega
    obtain ⟨k, hk⟩ : ∃ k, s.mem.length - 1 = k := ⟨_, rfl⟩
    have hk2 : (s.mem.length : Int) - 1 = (k : Int) := by omega
    have hkl : k ≤ s.mem.length := by omega
    rw [hk2] at w
    rw [hk]
    refine Fn.of (fn := Tryz.f69) (by kernel_rfl) rfl (by kernel_rfl) ⟨[.agg [.v (.int .i64 s.v), .v (.int .i64 s.l), .sl false 3 (tRow s.code), .sl false 2 (pRow s.mem), .sl false 3 (sRow s.stack), .sl false 2 (pRow s.out)], .v undef, .v undef, .v undef, .v undef, .v undef, .v undef, .v undef, .v undef, .v undef, .v undef, .v undef, .v undef, .v undef, .v undef, .v undef], []⟩ rfl ?_
    repeat' first | (with_reducible first | refine AWP_seq' ?_ | refine k_normal ?_ | refine AWP_ret ?_) | ((with_reducible refine And.intro ?_ ?_); · exact Sq) | ((with_reducible refine AWP_reg fun KC J hJ hKC => ?_); simp (maxSteps := 9999999) only [push_cast, seval, ↓reduceIte, h0', hk2, w, gt_iff_lt, Int.toNat_natCast]) | ((with_reducible refine hJ _ _ ?_); clear hJ hKC KC J) | ((with_reducible refine AWP_condT ?_ ?_); · rfl)
    refine ret_plain ?_
    simp (maxSteps := 9999999) only [push_cast, seval, ↓reduceIte, show Tryz.f69.results = #[(.cell 2 39)] from rfl]
    exact Lq
  · have h0' : ¬ (0 : Int) < (s.mem.length : Int) := by omega
    have he : s.mem = [] := List.length_eq_zero_iff.1 (by omega)
    rw [show s.mem.take (s.mem.length - 1) = s.mem by rw [he]; rfl]
    refine Fn.of (fn := Tryz.f69) (by kernel_rfl) rfl (by kernel_rfl) ⟨[.agg [.v (.int .i64 s.v), .v (.int .i64 s.l), .sl false 3 (tRow s.code), .sl false 2 (pRow s.mem), .sl false 3 (sRow s.stack), .sl false 2 (pRow s.out)], .v undef, .v undef, .v undef, .v undef, .v undef, .v undef, .v undef, .v undef, .v undef, .v undef, .v undef, .v undef, .v undef, .v undef, .v undef], []⟩ rfl ?_
    repeat' first | (with_reducible first | refine AWP_seq' ?_ | refine k_normal ?_ | refine AWP_ret ?_ | refine AWP_skip ?_) | ((with_reducible refine AWP_reg fun KC J hJ hKC => ?_); simp (maxSteps := 9999999) only [push_cast, seval, ↓reduceIte, h0', gt_iff_lt]) | ((with_reducible refine hJ _ _ ?_); clear hJ hKC KC J) | ((with_reducible refine AWP_condF ?_ ?_); · rfl)
    refine ret_plain ?_
    simp (maxSteps := 9999999) only [push_cast, seval, ↓reduceIte, show Tryz.f69.results = #[(.cell 2 39)] from rfl]
    exact Lq
def dropAt {α : Type} (i : Nat) (l : List α) : List α := l.take i ++ l.drop (i + 1)
theorem dropAt_snoc {α : Type} {i : Nat} {l : List α} {x : α} : dropAt i (l ++ [x]) = if l.length = i then dropAt i l else dropAt i l ++ [x] := by
  unfold dropAt
  split
  · rename_i h
    subst h
    simp
  · rename_i h
    rcases Nat.lt_or_ge l.length i with h1 | h1
    · rw [List.take_of_length_le (by simp; omega), List.drop_eq_nil_of_le (by simp; omega), List.take_of_length_le (by omega), List.drop_eq_nil_of_le (by omega)]
      simp
    · rw [List.take_append_of_le_length (by omega), List.drop_append_of_le_length (by omega), List.append_assoc]
theorem dropAt_take {α : Type} {i j : Nat} {l : List α} {x : α} (h : l[j]? = some x) : dropAt i (l.take (j + 1)) = if j = i then dropAt i (l.take j) else dropAt i (l.take j) ++ [x] := by
  have hj := (List.getElem?_eq_some_iff.1 h).1
  rw [List.take_add_one, h]
  show dropAt i (l.take j ++ [x]) = _
  rw [dropAt_snoc, List.length_take, show min j l.length = j by omega]
theorem upd_snoc {α : Type} {i : Nat} {l : List α} {g : α → α} {x : α} : upd (l ++ [x]) i g = upd l i g ++ [if l.length = i then g x else x] := by
  rcases Nat.lt_trichotomy i l.length with h | h | h
  · rw [upd_some (x := l[i]) (by rw [List.getElem?_append_left h, List.getElem?_eq_getElem h]), upd_some (List.getElem?_eq_getElem h), List.set_append_left _ _ h, if_neg (by omega)]
  · subst h
    rw [upd_some (x := x) (by simp), upd_none (by omega), if_pos rfl]
    simp
  · rw [upd_none (by simp; omega), upd_none (by omega), if_neg (by omega)]
theorem upd_take {α : Type} {i j : Nat} {l : List α} {g : α → α} {x : α} (h : l[j]? = some x) : upd (l.take (j + 1)) i g = upd (l.take j) i g ++ [if j = i then g x else x] := by
  have hj := (List.getElem?_eq_some_iff.1 h).1
  rw [List.take_add_one, h]
  show upd (l.take j ++ [x]) i g = _
  rw [upd_snoc, List.length_take, show min j l.length = j by omega]
theorem updT_le {α : Type} (l : List α) (g : Nat × (α → α)) (i : Nat) : (upd (l.take i) g.1 g.2).length ≤ i := by rw [upd_length]; exact List.length_take_le _ _
theorem dropT_le {α : Type} (l : List α) (k : Nat) (i : Nat) : (dropAt k (l.take i)).length ≤ i := by
  have := List.length_take_le i l
  unfold dropAt; rw [List.length_append, List.length_take, List.length_drop]; omega
def slT (L : List (Int × Int × Int)) : D := .sl (decide (L = [])) 3 (tRow L)
def slS (L : List (Bool × Int × Int)) : D := .sl (decide (L = [])) 3 (sRow L)
theorem Rle_sl (b : Bool) (sz : Nat) (xs : List (List D)) : Rle (.sl b sz xs) (.sl false sz xs) := by
  cases b
  · exact Rle.refl _
  · exact Rle.full sz xs
theorem slT_nil : slT [] = .sl true 3 [] := rfl
theorem slS_nil : slS [] = .sl true 3 [] := rfl
theorem slT_pos {L : List (Int × Int × Int)} (h : L ≠ []) : slT L = .sl false 3 (tRow L) := by unfold slT; rw [decide_eq_false h]
theorem slS_pos {L : List (Bool × Int × Int)} (h : L ≠ []) : slS L = .sl false 3 (sRow L) := by unfold slS; rw [decide_eq_false h]
theorem rmIdle_fn (k : Nat) (s : Sta) (hl : s.code.length ≤ 15) : Fn Tryz.prog 68 [.agg (staF false false false false s), .v (.int .i64 (k : Int))] [] (.agg (staF false false false false (mvF (.idle k) s))) [] := by
  have hxB : ∀ x ∈ s.code, True := fun _ _ => trivial
  simp only [staF, mvF]
  refine Fn.post (res := .agg [.v (.int .i64 s.v), .v (.int .i64 s.l), slT (upd s.code k (fun _ : Int × Int × Int => ((0, 0, 0) : Int × Int × Int))), .sl false 2 (pRow s.mem), .sl false 3 (sRow s.stack), .sl false 2 (pRow s.out)]) ?_ (Rle.agg (RleF.cons (Rle.refl _) (RleF.cons (Rle.refl _) (RleF.cons (Rle_sl _ _ _) (RleF.refl _)))))
  refine Fn.of (fn := Tryz.f68) (by kernel_rfl) rfl (by kernel_rfl) ⟨[.agg [.v (.int .i64 s.v), .v (.int .i64 s.l), .sl false 3 (tRow s.code), .sl false 2 (pRow s.mem), .sl false 3 (sRow s.stack), .sl false 2 (pRow s.out)], .v (.int .i64 (k : Int)), .v undef, .v undef, .v undef, .v undef, .v undef, .v undef, .v undef, .v undef, .v undef, .v undef, .v undef, .v undef, .v undef, .v undef, .v undef, .v undef, .v undef, .v undef, .v undef, .v undef, .v undef, .v undef, .v undef, .v undef, .v undef, .v undef, .v undef], []⟩ rfl ?_
  repeat' first | (with_reducible refine holdB 0 ?_) | (with_reducible first | refine AWP_seq' ?_ | refine k_normal ?_) | ((with_reducible refine AWP_reg fun KC J hJ hKC => ?_); simp (maxSteps := 9999999) only [push_cast, seval, ↓reduceIte]) | ((with_reducible refine hJ _ _ ?_); clear hJ hKC KC J)
  refine AWP_cutW 2 ⟨[.any, .any, .ptr 0 0 0, .any, .ptr 1 0 0, slT (upd s.code k (fun _ : Int × Int × Int => ((0, 0, 0) : Int × Int × Int))), .any, .any, .any, .any, .any, .any, .any, .any, .any, .any, .any, .any, .any, .any, .any, .any, .any, .any, .any, .any, .any, .any, .any], [.ent ⟨0, none, 39, [.v (.int .i64 s.v), .v (.int .i64 s.l), .sl false 3 (tRow s.code), .sl false 2 (pRow s.mem), .sl false 3 (sRow s.stack), .sl false 2 (pRow s.out)], .cells⟩, .ent ⟨0, none, 39, [.v (.int .i64 0), .v (.int .i64 0), .v (.slice none 0 0), .v (.slice none 0 0), .v (.slice none 0 0), .v (.slice none 0 0)], .cells⟩]⟩ ⟨[_, _], 1, rfl, rfl⟩ ?_ ?_
  · skip
    repeat' first | (with_reducible refine AWP_block ?_)
    refine AWP_loopK 2 (γ := {q : Nat × Option Nat // q.1 ≤ s.code.length ∧ (q.2 = none → upd (s.code.take q.1) k (fun _ : Int × Int × Int => ((0, 0, 0) : Int × Int × Int)) = []) ∧ (∀ g, q.2 = some g → upd (s.code.take q.1) k (fun _ : Int × Int × Int => ((0, 0, 0) : Int × Int × Int)) ≠ [])}) (fun q => ⟨[.any, .v (.int .i64 (k : Int)), .ptr 0 0 0, .any, .ptr 1 0 0, gE 2 (.sl true 3 []) (upd (s.code.take q.1.1) k (fun _ : Int × Int × Int => ((0, 0, 0) : Int × Int × Int))).length q.1.2, .any, .any, .any, .any, .sl false 3 (tRow s.code), .v (.int .i64 s.code.length), .v (.int .i64 q.1.1), .any, .any, .any, .any, .any, .any, .any, .any, .any, .any, .any, .any, .any, .any, .any, .any], gσ (fun cq => [.ent ⟨0, none, 39, [.v (.int .i64 s.v), .v (.int .i64 s.l), .sl false 3 (tRow s.code), .sl false 2 (pRow s.mem), .sl false 3 (sRow s.stack), .sl false 2 (pRow s.out)], .cells⟩, .ent ⟨0, none, 39, [.v (.int .i64 0), .v (.int .i64 0), .v (.slice none 0 0), .v (.slice none 0 0), .v (.slice none 0 0), .v (.slice none 0 0)], .cells⟩]) 2 3 100 (.sl true 3 []) (upd (s.code.take q.1.1) k (fun _ : Int × Int × Int => ((0, 0, 0) : Int × Int × Int))).length (tCells (upd (s.code.take q.1.1) k (fun _ : Int × Int × Int => ((0, 0, 0) : Int × Int × Int)))) q.1.2⟩) (fun q => s.code.length - q.1.1) ⟨(0, none), by simp, fun _ => (by first | rfl | simp [dropAt]), fun g h => by cases h⟩ rfl ⟨?_, ?_⟩ ?_
    · exact Lq
    · exact Fq
    rintro ⟨⟨i, og⟩, hi, hno, hns⟩
    dsimp only at hi hno hns ⊢
    have hLe : (upd (s.code.take i) k (fun _ : Int × Int × Int => ((0, 0, 0) : Int × Int × Int))).length ≤ i := updT_le s.code (k, fun _ => (0, 0, 0)) i
    by_cases hlt : (i : Int) < (s.code.length : Int)
    · have hx : s.code[i]? = some s.code[i] := List.getElem?_eq_getElem (by omega)
      obtain ⟨x, hxx⟩ : ∃ x, s.code[i] = x := ⟨_, rfl⟩
      rw [hxx] at hx
      have hge := getE_t hx
      have hxb := hxB x (List.mem_of_getElem? hx)
      by_cases hk : i = k
      · have hkb : ((i : Int) == (k : Int)) = true := by simp [hk]
        have hst : upd (s.code.take (i + 1)) k (fun _ : Int × Int × Int => ((0, 0, 0) : Int × Int × Int)) = upd (s.code.take i) k (fun _ : Int × Int × Int => ((0, 0, 0) : Int × Int × Int)) ++ [(0, 0, 0)] := by rw [upd_take hx, if_pos hk]
        rcases og with _ | gg
        · have hL0 := hno rfl
          rw [hL0, List.nil_append] at hst
          repeat' first | (with_reducible first | refine AWP_seq' ?_ | refine k_normal ?_ | refine b_normal ?_ | refine AWP_skip ?_ | refine AWP_block ?_) | ((with_reducible refine And.intro ?_ ?_); · exact Sq) | ((with_reducible refine AWP_reg fun KC J hJ hKC => ?_); simp (maxSteps := 9999999) only [push_cast, seval, ↓reduceIte, hlt, gσ, gE, List.cons_append, List.nil_append, hL0, hge, hkb, wrapN (i := i) (n := s.code.length) (by omega) (by omega)]) | ((with_reducible refine hJ _ _ ?_); clear hJ hKC KC J) | ((with_reducible refine AWP_condT ?_ ?_); · rfl)
          refine ⟨⟨(i + 1, some 0), by simp only; omega, (fun h => by cases h), (fun g h => by rw [hst]; simp)⟩, by simp only; omega, [0, 1, 4], by decide, by decide, ?_, ?_⟩
          · simp only [gσ, gE, List.cons_append, List.nil_append, hst, push_cast, mOf, idx]
            exact Lq
          · simp only [gσ, gE, List.cons_append, List.nil_append, hst, pick, List.map_cons, List.map_nil, List.map_append, getS, renSlot, ren_tCells, push_cast, mOf, idx]
            exact LSq
        · obtain ⟨m, hm⟩ : ∃ m, (upd (s.code.take i) k (fun _ : Int × Int × Int => ((0, 0, 0) : Int × Int × Int))).length = m := ⟨_, rfl⟩
          have hlC : (tCells (upd (s.code.take i) k (fun _ : Int × Int × Int => ((0, 0, 0) : Int × Int × Int)))).length = m * 3 := by rw [tCells_length, hm]
          have htC := take_len hlC
          have hbm : Nat.beq gg gg = true := Nat.beq_refl gg
          have hn1 : (upd (s.code.take (i + 1)) k (fun _ : Int × Int × Int => ((0, 0, 0) : Int × Int × Int))).length = m + 1 := by rw [hst, List.length_append, hm]; rfl
          have hcs : tCells (upd (s.code.take (i + 1)) k (fun _ : Int × Int × Int => ((0, 0, 0) : Int × Int × Int))) = tCells (upd (s.code.take i) k (fun _ : Int × Int × Int => ((0, 0, 0) : Int × Int × Int))) ++ tCells [(0, 0, 0)] := by rw [hst, tCells_app]
          have hst0 := hst
          obtain ⟨L', hL'⟩ : ∃ L', upd (s.code.take (i + 1)) k (fun _ : Int × Int × Int => ((0, 0, 0) : Int × Int × Int)) = L' := ⟨_, rfl⟩
          rw [hL'] at hn1 hcs
          repeat' first | (with_reducible first | refine AWP_seq' ?_ | refine k_normal ?_ | refine b_normal ?_ | refine AWP_skip ?_ | refine AWP_block ?_) | ((with_reducible refine And.intro ?_ ?_); · exact Sq) | ((with_reducible refine AWP_reg fun KC J hJ hKC => ?_); simp (maxSteps := 9999999) only [push_cast, seval, ↓reduceIte, hlt, gσ, gE, List.cons_append, List.nil_append, hm, hlC, htC, hbm, hge, hkb, wrapN (i := i) (n := s.code.length) (by omega) (by omega)]) | ((with_reducible refine hJ _ _ ?_); clear hJ hKC KC J) | ((with_reducible refine AWP_condT ?_ ?_); · rfl)
          refine ⟨⟨(i + 1, some (gg + 1)), by simp only; omega, (fun h => by cases h), (fun g h => by rw [hst0]; simp)⟩, by simp only; omega, [0, 1, 2], by decide, by decide, ?_, ?_⟩
          · simp only [gσ, gE, List.cons_append, List.nil_append, hL', hn1, hcs, push_cast, mOf, idx]
            exact Lq
          · simp only [gσ, gE, List.cons_append, List.nil_append, hL', hn1, hcs, pick, List.map_cons, List.map_nil, List.map_append, getS, renSlot, ren_tCells, push_cast, mOf, idx]
            exact LSq
      · have hkb : ((i : Int) == (k : Int)) = false := by simp; omega
        have hst : upd (s.code.take (i + 1)) k (fun _ : Int × Int × Int => ((0, 0, 0) : Int × Int × Int)) = upd (s.code.take i) k (fun _ : Int × Int × Int => ((0, 0, 0) : Int × Int × Int)) ++ [x] := by rw [upd_take hx, if_neg hk]
        rcases og with _ | gg
        · have hL0 := hno rfl
          rw [hL0, List.nil_append] at hst
          repeat' first | (with_reducible first | refine AWP_seq' ?_ | refine k_normal ?_ | refine b_normal ?_ | refine AWP_skip ?_ | refine AWP_block ?_) | ((with_reducible refine And.intro ?_ ?_); · exact Sq) | ((with_reducible refine AWP_reg fun KC J hJ hKC => ?_); simp (maxSteps := 9999999) only [push_cast, seval, ↓reduceIte, hlt, gσ, gE, List.cons_append, List.nil_append, hL0, hge, hkb, wrapN (i := i) (n := s.code.length) (by omega) (by omega)]) | ((with_reducible refine hJ _ _ ?_); clear hJ hKC KC J) | ((with_reducible refine AWP_condT ?_ ?_); · rfl) | ((with_reducible refine AWP_condF ?_ ?_); · rfl)
          refine ⟨⟨(i + 1, some 0), by simp only; omega, (fun h => by cases h), (fun g h => by rw [hst]; simp)⟩, by simp only; omega, [0, 1, 4], by decide, by decide, ?_, ?_⟩
          · simp only [gσ, gE, List.cons_append, List.nil_append, hst, push_cast, mOf, idx]
            exact Lq
          · simp only [gσ, gE, List.cons_append, List.nil_append, hst, pick, List.map_cons, List.map_nil, List.map_append, getS, renSlot, ren_tCells, push_cast, mOf, idx]
            exact LSq
        · obtain ⟨m, hm⟩ : ∃ m, (upd (s.code.take i) k (fun _ : Int × Int × Int => ((0, 0, 0) : Int × Int × Int))).length = m := ⟨_, rfl⟩
          have hlC : (tCells (upd (s.code.take i) k (fun _ : Int × Int × Int => ((0, 0, 0) : Int × Int × Int)))).length = m * 3 := by rw [tCells_length, hm]
          have htC := take_len hlC
          have hbm : Nat.beq gg gg = true := Nat.beq_refl gg
          have hn1 : (upd (s.code.take (i + 1)) k (fun _ : Int × Int × Int => ((0, 0, 0) : Int × Int × Int))).length = m + 1 := by rw [hst, List.length_append, hm]; rfl
          have hcs : tCells (upd (s.code.take (i + 1)) k (fun _ : Int × Int × Int => ((0, 0, 0) : Int × Int × Int))) = tCells (upd (s.code.take i) k (fun _ : Int × Int × Int => ((0, 0, 0) : Int × Int × Int))) ++ tCells [x] := by rw [hst, tCells_app]
          have hst0 := hst
          obtain ⟨L', hL'⟩ : ∃ L', upd (s.code.take (i + 1)) k (fun _ : Int × Int × Int => ((0, 0, 0) : Int × Int × Int)) = L' := ⟨_, rfl⟩
          rw [hL'] at hn1 hcs
          repeat' first | (with_reducible first | refine AWP_seq' ?_ | refine k_normal ?_ | refine b_normal ?_ | refine AWP_skip ?_ | refine AWP_block ?_) | ((with_reducible refine And.intro ?_ ?_); · exact Sq) | ((with_reducible refine AWP_reg fun KC J hJ hKC => ?_); simp (maxSteps := 9999999) only [push_cast, seval, ↓reduceIte, hlt, gσ, gE, List.cons_append, List.nil_append, hm, hlC, htC, hbm, hge, hkb, wrapN (i := i) (n := s.code.length) (by omega) (by omega)]) | ((with_reducible refine hJ _ _ ?_); clear hJ hKC KC J) | ((with_reducible refine AWP_condT ?_ ?_); · rfl) | ((with_reducible refine AWP_condF ?_ ?_); · rfl)
          refine ⟨⟨(i + 1, some (gg + 1)), by simp only; omega, (fun h => by cases h), (fun g h => by rw [hst0]; simp)⟩, by simp only; omega, [0, 1, 2], by decide, by decide, ?_, ?_⟩
          · simp only [gσ, gE, List.cons_append, List.nil_append, hL', hn1, hcs, push_cast, mOf, idx]
            exact Lq
          · simp only [gσ, gE, List.cons_append, List.nil_append, hL', hn1, hcs, pick, List.map_cons, List.map_nil, List.map_append, getS, renSlot, ren_tCells, push_cast, mOf, idx]
            exact LSq
    have hin : i = s.code.length := by omega
    subst hin
    have hend : upd (s.code.take s.code.length) k (fun _ : Int × Int × Int => ((0, 0, 0) : Int × Int × Int)) = upd s.code k (fun _ : Int × Int × Int => ((0, 0, 0) : Int × Int × Int)) := by rw [List.take_length]
    rw [hend] at hno hns ⊢
    obtain ⟨L, hL⟩ : ∃ L, upd s.code k (fun _ : Int × Int × Int => ((0, 0, 0) : Int × Int × Int)) = L := ⟨_, rfl⟩
    rw [hL] at hno hns ⊢
    rcases og with _ | gg
    · have hL0 := hno rfl
      subst hL0
      repeat' first | (with_reducible first | refine AWP_seq' ?_ | refine k_normal ?_ | refine k_exit ?_ | refine b_exit ?_ | refine AWP_exit ?_) | ((with_reducible refine AWP_reg fun KC J hJ hKC => ?_); simp (maxSteps := 9999999) only [push_cast, seval, ↓reduceIte, hlt, Int.lt_irrefl, gσ, gE, List.cons_append, List.nil_append]) | ((with_reducible refine hJ _ _ ?_); clear hJ hKC KC J) | ((with_reducible refine AWP_condF ?_ ?_); · rfl)
      refine .inl ⟨rfl, [0, 1], by decide, by decide, ?_, ?_⟩
      · simp only [push_cast, mOf, idx, hL, slT_nil]
        exact Lq
      · simp only [hL, pick, List.map_cons, List.map_nil, List.map_append, getS, renSlot, push_cast, mOf, idx, show tRow [] = [] from rfl, show pRow [] = [] from rfl, show sRow [] = [] from rfl]
        exact LSq
    · have hne := hns gg rfl
      obtain ⟨m, hm⟩ : ∃ m, L.length = m := ⟨_, rfl⟩
      have hlC : (tCells L).length = m * 3 := by rw [tCells_length, hm]
      have hcp : chunk 3 m (tCells L) = tRow L := by rw [← hm]; exact chunk_t L
      have hbm : Nat.beq gg gg = true := Nat.beq_refl gg
      simp only [gσ, gE, List.cons_append, List.nil_append, hm]
      repeat' first | (refine AWP_freezeR 3 2 rfl (by (simp (maxSteps := 9999999) only [push_cast, seval, ↓reduceIte]) <;> rfl) ?_; simp (maxSteps := 9999999) only [push_cast, seval, ↓reduceIte, frSt, frSlot, fr3, fr2, fr1, fr0, sameB, arrOf, hlt, Int.lt_irrefl, hlC, hcp, hbm, gσ, gE, List.cons_append, List.nil_append]) | (with_reducible first | refine AWP_seq' ?_ | refine k_normal ?_ | refine k_exit ?_ | refine b_exit ?_ | refine AWP_exit ?_) | ((with_reducible refine AWP_reg fun KC J hJ hKC => ?_); simp (maxSteps := 9999999) only [push_cast, seval, ↓reduceIte, hlt, Int.lt_irrefl, hlC, hcp, hbm, gσ, gE, List.cons_append, List.nil_append]) | ((with_reducible refine hJ _ _ ?_); clear hJ hKC KC J) | ((with_reducible refine AWP_condF ?_ ?_); · rfl)
      refine .inl ⟨rfl, [0, 1], by decide, by decide, ?_, ?_⟩
      · simp only [push_cast, mOf, idx, hL, slT_pos hne]
        exact Lq
      · simp only [hL, pick, List.map_cons, List.map_nil, List.map_append, getS, renSlot, push_cast, mOf, idx]
        exact LSq
  repeat' first | (with_reducible first | refine AWP_seq' ?_ | refine k_normal ?_ | refine AWP_ret ?_) | ((with_reducible refine AWP_reg fun KC J hJ hKC => ?_); simp (maxSteps := 9999999) only [push_cast, seval, ↓reduceIte, slT]) | ((with_reducible refine hJ _ _ ?_); clear hJ hKC KC J)
  refine ret_plain ?_
  simp (maxSteps := 9999999) only [push_cast, seval, ↓reduceIte, show Tryz.f68.results = #[(.cell 4 39)] from rfl]
  exact Lq
theorem pull_drop (k : Nat) (s : Sta) : mvF (.pull k) s = { s with stack := dropAt k s.stack } := by
  simp only [mvF, dropAt]
  split
  · rfl
  · rw [List.take_of_length_le (by omega), List.drop_eq_nil_of_le (by omega), List.append_nil]
theorem rmPull_fn (k : Nat) (s : Sta) (hl : s.stack.length ≤ 15) : Fn Tryz.prog 71 [.agg (staF false false false false s), .v (.int .i64 (k : Int))] [] (.agg (staF false false false false (mvF (.pull k) s))) [] := by
  have hxB : ∀ x ∈ s.stack, True := fun _ _ => trivial
  rw [pull_drop]
  simp only [staF]
  refine Fn.post (res := .agg [.v (.int .i64 s.v), .v (.int .i64 s.l), .sl false 3 (tRow s.code), .sl false 2 (pRow s.mem), slS (dropAt k s.stack), .sl false 2 (pRow s.out)]) ?_ (Rle.agg (RleF.cons (Rle.refl _) (RleF.cons (Rle.refl _) (RleF.cons (Rle.refl _) (RleF.cons (Rle.refl _) (RleF.cons (Rle_sl _ _ _) (RleF.refl _)))))))
  refine Fn.of (fn := Tryz.f71) (by kernel_rfl) rfl (by kernel_rfl) ⟨[.agg [.v (.int .i64 s.v), .v (.int .i64 s.l), .sl false 3 (tRow s.code), .sl false 2 (pRow s.mem), .sl false 3 (sRow s.stack), .sl false 2 (pRow s.out)], .v (.int .i64 (k : Int)), .v undef, .v undef, .v undef, .v undef, .v undef, .v undef, .v undef, .v undef, .v undef, .v undef, .v undef, .v undef, .v undef, .v undef, .v undef, .v undef, .v undef, .v undef, .v undef, .v undef, .v undef, .v undef, .v undef, .v undef, .v undef, .v undef], []⟩ rfl ?_
  repeat' first | (with_reducible refine holdB 0 ?_) | (with_reducible first | refine AWP_seq' ?_ | refine k_normal ?_) | ((with_reducible refine AWP_reg fun KC J hJ hKC => ?_); simp (maxSteps := 9999999) only [push_cast, seval, ↓reduceIte]) | ((with_reducible refine hJ _ _ ?_); clear hJ hKC KC J)
  refine AWP_cutW 2 ⟨[.any, .any, .ptr 0 0 0, .any, .ptr 1 0 0, slS (dropAt k s.stack), .any, .any, .any, .any, .any, .any, .any, .any, .any, .any, .any, .any, .any, .any, .any, .any, .any, .any, .any, .any, .any, .any], [.ent ⟨0, none, 39, [.v (.int .i64 s.v), .v (.int .i64 s.l), .sl false 3 (tRow s.code), .sl false 2 (pRow s.mem), .sl false 3 (sRow s.stack), .sl false 2 (pRow s.out)], .cells⟩, .ent ⟨0, none, 39, [.v (.int .i64 0), .v (.int .i64 0), .v (.slice none 0 0), .v (.slice none 0 0), .v (.slice none 0 0), .v (.slice none 0 0)], .cells⟩]⟩ ⟨[_, _], 1, rfl, rfl⟩ ?_ ?_
  · skip
    repeat' first | (with_reducible refine AWP_block ?_)
    refine AWP_loopK 2 (γ := {q : Nat × Option Nat // q.1 ≤ s.stack.length ∧ (q.2 = none → dropAt k (s.stack.take q.1) = []) ∧ (∀ g, q.2 = some g → dropAt k (s.stack.take q.1) ≠ [])}) (fun q => ⟨[.any, .v (.int .i64 (k : Int)), .ptr 0 0 0, .any, .ptr 1 0 0, gE 2 (.sl true 3 []) (dropAt k (s.stack.take q.1.1)).length q.1.2, .any, .any, .any, .any, .sl false 3 (sRow s.stack), .v (.int .i64 s.stack.length), .v (.int .i64 q.1.1), .any, .any, .any, .any, .any, .any, .any, .any, .any, .any, .any, .any, .any, .any, .any], gσ (fun cq => [.ent ⟨0, none, 39, [.v (.int .i64 s.v), .v (.int .i64 s.l), .sl false 3 (tRow s.code), .sl false 2 (pRow s.mem), .sl false 3 (sRow s.stack), .sl false 2 (pRow s.out)], .cells⟩, .ent ⟨0, none, 39, [.v (.int .i64 0), .v (.int .i64 0), .v (.slice none 0 0), .v (.slice none 0 0), .v (.slice none 0 0), .v (.slice none 0 0)], .cells⟩]) 2 3 104 (.sl true 3 []) (dropAt k (s.stack.take q.1.1)).length (sCells (dropAt k (s.stack.take q.1.1))) q.1.2⟩) (fun q => s.stack.length - q.1.1) ⟨(0, none), by simp, fun _ => (by first | rfl | simp [dropAt]), fun g h => by cases h⟩ rfl ⟨?_, ?_⟩ ?_
    · exact Lq
    · exact Fq
    rintro ⟨⟨i, og⟩, hi, hno, hns⟩
    dsimp only at hi hno hns ⊢
    have hLe : (dropAt k (s.stack.take i)).length ≤ i := dropT_le s.stack k i
    by_cases hlt : (i : Int) < (s.stack.length : Int)
    · have hx : s.stack[i]? = some s.stack[i] := List.getElem?_eq_getElem (by omega)
      obtain ⟨x, hxx⟩ : ∃ x, s.stack[i] = x := ⟨_, rfl⟩
      rw [hxx] at hx
      have hge := getE_s hx
      have hxb := hxB x (List.mem_of_getElem? hx)
      by_cases hk : i = k
      · have hkb : ((i : Int) != (k : Int)) = false := by simp [hk]
        have hst : dropAt k (s.stack.take (i + 1)) = dropAt k (s.stack.take i) := by rw [dropAt_take hx, if_pos hk]
        rcases og with _ | gg
        · skip
          repeat' first | (with_reducible first | refine AWP_seq' ?_ | refine k_normal ?_ | refine b_normal ?_ | refine AWP_skip ?_ | refine AWP_block ?_) | ((with_reducible refine And.intro ?_ ?_); · exact Sq) | ((with_reducible refine AWP_reg fun KC J hJ hKC => ?_); simp (maxSteps := 9999999) only [push_cast, seval, ↓reduceIte, hlt, gσ, gE, List.cons_append, List.nil_append, hge, hkb, wrapN (i := i) (n := s.stack.length) (by omega) (by omega)]) | ((with_reducible refine hJ _ _ ?_); clear hJ hKC KC J) | ((with_reducible refine AWP_condT ?_ ?_); · rfl) | ((with_reducible refine AWP_condF ?_ ?_); · rfl)
          refine ⟨⟨(i + 1, none), by simp only; omega, (fun _ => by rw [hst]; exact hno rfl), (fun g h => by cases h)⟩, by simp only; omega, [0, 1], by decide, by decide, ?_, ?_⟩
          · simp only [gσ, gE, List.cons_append, List.nil_append, hst, push_cast, mOf, idx]
            exact Lq
          · simp only [gσ, gE, List.cons_append, List.nil_append, hst, pick, List.map_cons, List.map_nil, List.map_append, getS, renSlot, ren_sCells, push_cast, mOf, idx]
            exact LSq
        · skip
          repeat' first | (with_reducible first | refine AWP_seq' ?_ | refine k_normal ?_ | refine b_normal ?_ | refine AWP_skip ?_ | refine AWP_block ?_) | ((with_reducible refine And.intro ?_ ?_); · exact Sq) | ((with_reducible refine AWP_reg fun KC J hJ hKC => ?_); simp (maxSteps := 9999999) only [push_cast, seval, ↓reduceIte, hlt, gσ, gE, List.cons_append, List.nil_append, hge, hkb, wrapN (i := i) (n := s.stack.length) (by omega) (by omega)]) | ((with_reducible refine hJ _ _ ?_); clear hJ hKC KC J) | ((with_reducible refine AWP_condT ?_ ?_); · rfl) | ((with_reducible refine AWP_condF ?_ ?_); · rfl)
          refine ⟨⟨(i + 1, some gg), by simp only; omega, (fun h => by cases h), (fun g h => by rw [hst]; exact hns gg rfl)⟩, by simp only; omega, [0, 1, 2], by decide, by decide, ?_, ?_⟩
          · simp only [gσ, gE, List.cons_append, List.nil_append, hst, push_cast, mOf, idx]
            exact Lq
          · simp only [gσ, gE, List.cons_append, List.nil_append, hst, pick, List.map_cons, List.map_nil, List.map_append, getS, renSlot, ren_sCells, push_cast, mOf, idx]
            exact LSq
      · have hkb : ((i : Int) != (k : Int)) = true := by simp; omega
        have hst : dropAt k (s.stack.take (i + 1)) = dropAt k (s.stack.take i) ++ [x] := by rw [dropAt_take hx, if_neg hk]
        rcases og with _ | gg
        · have hL0 := hno rfl
          rw [hL0, List.nil_append] at hst
          repeat' first | (with_reducible first | refine AWP_seq' ?_ | refine k_normal ?_ | refine b_normal ?_ | refine AWP_skip ?_ | refine AWP_block ?_) | ((with_reducible refine And.intro ?_ ?_); · exact Sq) | ((with_reducible refine AWP_reg fun KC J hJ hKC => ?_); simp (maxSteps := 9999999) only [push_cast, seval, ↓reduceIte, hlt, gσ, gE, List.cons_append, List.nil_append, hL0, hge, hkb, wrapN (i := i) (n := s.stack.length) (by omega) (by omega)]) | ((with_reducible refine hJ _ _ ?_); clear hJ hKC KC J) | ((with_reducible refine AWP_condT ?_ ?_); · rfl)
          refine ⟨⟨(i + 1, some 0), by simp only; omega, (fun h => by cases h), (fun g h => by rw [hst]; simp)⟩, by simp only; omega, [0, 1, 4], by decide, by decide, ?_, ?_⟩
          · simp only [gσ, gE, List.cons_append, List.nil_append, hst, push_cast, mOf, idx]
            exact Lq
          · simp only [gσ, gE, List.cons_append, List.nil_append, hst, pick, List.map_cons, List.map_nil, List.map_append, getS, renSlot, ren_sCells, push_cast, mOf, idx]
            exact LSq
        · obtain ⟨m, hm⟩ : ∃ m, (dropAt k (s.stack.take i)).length = m := ⟨_, rfl⟩
          have hlC : (sCells (dropAt k (s.stack.take i))).length = m * 3 := by rw [sCells_length, hm]
          have htC := take_len hlC
          have hbm : Nat.beq gg gg = true := Nat.beq_refl gg
          have hn1 : (dropAt k (s.stack.take (i + 1))).length = m + 1 := by rw [hst, List.length_append, hm]; rfl
          have hcs : sCells (dropAt k (s.stack.take (i + 1))) = sCells (dropAt k (s.stack.take i)) ++ sCells [x] := by rw [hst, sCells_app]
          have hst0 := hst
          obtain ⟨L', hL'⟩ : ∃ L', dropAt k (s.stack.take (i + 1)) = L' := ⟨_, rfl⟩
          rw [hL'] at hn1 hcs
          repeat' first | (with_reducible first | refine AWP_seq' ?_ | refine k_normal ?_ | refine b_normal ?_ | refine AWP_skip ?_ | refine AWP_block ?_) | ((with_reducible refine And.intro ?_ ?_); · exact Sq) | ((with_reducible refine AWP_reg fun KC J hJ hKC => ?_); simp (maxSteps := 9999999) only [push_cast, seval, ↓reduceIte, hlt, gσ, gE, List.cons_append, List.nil_append, hm, hlC, htC, hbm, hge, hkb, wrapN (i := i) (n := s.stack.length) (by omega) (by omega)]) | ((with_reducible refine hJ _ _ ?_); clear hJ hKC KC J) | ((with_reducible refine AWP_condT ?_ ?_); · rfl)
          refine ⟨⟨(i + 1, some (gg + 1)), by simp only; omega, (fun h => by cases h), (fun g h => by rw [hst0]; simp)⟩, by simp only; omega, [0, 1, 2], by decide, by decide, ?_, ?_⟩
          · simp only [gσ, gE, List.cons_append, List.nil_append, hL', hn1, hcs, push_cast, mOf, idx]
            exact Lq
          · simp only [gσ, gE, List.cons_append, List.nil_append, hL', hn1, hcs, pick, List.map_cons, List.map_nil, List.map_append, getS, renSlot, ren_sCells, push_cast, mOf, idx]
            exact LSq
    have hin : i = s.stack.length := by omega
    subst hin
    have hend : dropAt k (s.stack.take s.stack.length) = dropAt k s.stack := by rw [List.take_length]
    rw [hend] at hno hns ⊢
    obtain ⟨L, hL⟩ : ∃ L, dropAt k s.stack = L := ⟨_, rfl⟩
    rw [hL] at hno hns ⊢
    rcases og with _ | gg
    · have hL0 := hno rfl
      subst hL0
      repeat' first | (with_reducible first | refine AWP_seq' ?_ | refine k_normal ?_ | refine k_exit ?_ | refine b_exit ?_ | refine AWP_exit ?_) | ((with_reducible refine AWP_reg fun KC J hJ hKC => ?_); simp (maxSteps := 9999999) only [push_cast, seval, ↓reduceIte, hlt, Int.lt_irrefl, gσ, gE, List.cons_append, List.nil_append]) | ((with_reducible refine hJ _ _ ?_); clear hJ hKC KC J) | ((with_reducible refine AWP_condF ?_ ?_); · rfl)
      refine .inl ⟨rfl, [0, 1], by decide, by decide, ?_, ?_⟩
      · simp only [push_cast, mOf, idx, hL, slS_nil]
        exact Lq
      · simp only [hL, pick, List.map_cons, List.map_nil, List.map_append, getS, renSlot, push_cast, mOf, idx, show tRow [] = [] from rfl, show pRow [] = [] from rfl, show sRow [] = [] from rfl]
        exact LSq
    · have hne := hns gg rfl
      obtain ⟨m, hm⟩ : ∃ m, L.length = m := ⟨_, rfl⟩
      have hlC : (sCells L).length = m * 3 := by rw [sCells_length, hm]
      have hcp : chunk 3 m (sCells L) = sRow L := by rw [← hm]; exact chunk_s L
      have hbm : Nat.beq gg gg = true := Nat.beq_refl gg
      simp only [gσ, gE, List.cons_append, List.nil_append, hm]
      repeat' first | (refine AWP_freezeR 3 2 rfl (by (simp (maxSteps := 9999999) only [push_cast, seval, ↓reduceIte]) <;> rfl) ?_; simp (maxSteps := 9999999) only [push_cast, seval, ↓reduceIte, frSt, frSlot, fr3, fr2, fr1, fr0, sameB, arrOf, hlt, Int.lt_irrefl, hlC, hcp, hbm, gσ, gE, List.cons_append, List.nil_append]) | (with_reducible first | refine AWP_seq' ?_ | refine k_normal ?_ | refine k_exit ?_ | refine b_exit ?_ | refine AWP_exit ?_) | ((with_reducible refine AWP_reg fun KC J hJ hKC => ?_); simp (maxSteps := 9999999) only [push_cast, seval, ↓reduceIte, hlt, Int.lt_irrefl, hlC, hcp, hbm, gσ, gE, List.cons_append, List.nil_append]) | ((with_reducible refine hJ _ _ ?_); clear hJ hKC KC J) | ((with_reducible refine AWP_condF ?_ ?_); · rfl)
      refine .inl ⟨rfl, [0, 1], by decide, by decide, ?_, ?_⟩
      · simp only [push_cast, mOf, idx, hL, slS_pos hne]
        exact Lq
      · simp only [hL, pick, List.map_cons, List.map_nil, List.map_append, getS, renSlot, push_cast, mOf, idx]
        exact LSq
  repeat' first | (with_reducible first | refine AWP_seq' ?_ | refine k_normal ?_ | refine AWP_ret ?_) | ((with_reducible refine AWP_reg fun KC J hJ hKC => ?_); simp (maxSteps := 9999999) only [push_cast, seval, ↓reduceIte, slS]) | ((with_reducible refine hJ _ _ ?_); clear hJ hKC KC J)
  refine ret_plain ?_
  simp (maxSteps := 9999999) only [push_cast, seval, ↓reduceIte, show Tryz.f71.results = #[(.cell 4 39)] from rfl]
  exact Lq
theorem mapDrop_le (l : List (Int × Int × Int)) (k : Nat) (i : Nat) : ((dropAt k (l.take i)).map (befC k)).length ≤ i := by rw [List.length_map]; exact dropT_le l k i
theorem mapS_le (l : List (Bool × Int × Int)) (k : Nat) (i : Nat) : ((l.take i).map (befS k)).length ≤ i := by rw [List.length_map]; exact List.length_take_le _ _
theorem rmWithout_fn (k : Nat) (s : Sta) {n0 : Nat} (hs : StaN n0 s) : Fn Tryz.prog 67 [.agg (staF false false false false s), .v (.int .i64 (k : Int))] [] (.agg (staF false false false false (mvF (.without k) s))) [] := by
  have l1 := hs.codeL
  have l3 := hs.stackL
  simp only [staF, mvF]
  by_cases hi : k < s.code.length
  · have hi' : ((s.code.length : Int) ≤ (k : Int)) = False := by simp; omega
    rw [if_pos hi]
    have hbp := rmBefore_fn k s.v hs.v0 hs.v1
    have hxB := hs.code
    show Fn _ _ _ _ (.agg [.v (.int .i64 (befI k s.v)), .v (.int .i64 s.l), .sl false 3 (tRow ((dropAt k s.code).map (befC k))), .sl false 2 (pRow s.mem), .sl false 3 (sRow (s.stack.map (befS k))), .sl false 2 (pRow s.out)]) _
    refine Fn.of (fn := Tryz.f67) (by kernel_rfl) rfl (by kernel_rfl) ⟨[.agg [.v (.int .i64 s.v), .v (.int .i64 s.l), .sl false 3 (tRow s.code), .sl false 2 (pRow s.mem), .sl false 3 (sRow s.stack), .sl false 2 (pRow s.out)], .v (.int .i64 (k : Int)), .v undef, .v undef, .v undef, .v undef, .v undef, .v undef, .v undef, .v undef, .v undef, .v undef, .v undef, .v undef, .v undef, .v undef, .v undef, .v undef, .v undef, .v undef, .v undef, .v undef, .v undef, .v undef, .v undef, .v undef, .v undef, .v undef, .v undef, .v undef, .v undef, .v undef, .v undef, .v undef, .v undef, .v undef, .v undef, .v undef, .v undef, .v undef, .v undef, .v undef, .v undef, .v undef, .v undef, .v undef, .v undef, .v undef, .v undef, .v undef, .v undef, .v undef, .v undef, .v undef, .v undef, .v undef, .v undef, .v undef, .v undef, .v undef, .v undef, .v undef, .v undef, .v undef, .v undef, .v undef, .v undef, .v undef, .v undef, .v undef, .v undef, .v undef, .v undef, .v undef, .v undef, .v undef, .v undef, .v undef], []⟩ rfl ?_
    repeat' first | (with_reducible refine holdB 0 ?_) | (with_reducible first | refine AWP_seq' ?_ | refine k_normal ?_ | refine AWP_skip ?_) | ((first | with_reducible refine AWP_reg fun KC J hJ hKC => ?_ | (refine hKC _ _ _ _ _ (callV0 (hbp) rfl rfl rfl ?_ ?_); (· exact Lq))); simp (maxSteps := 9999999) only [push_cast, seval, ↓reduceIte, hi', ge_iff_le]) | ((with_reducible refine hJ _ _ ?_); clear hJ hKC KC J) | ((with_reducible refine AWP_condF ?_ ?_); · rfl)
    refine AWP_cutW 3 ⟨[.any, .v (.int .i64 (k : Int)), .ptr 0 0 0, .any, .ptr 1 0 0, .ptr 2 0 0, .any, .any, .any, .any, .any, .any, .any, .any, .any, .any, .any, .any, .any, .any, .any, .any, .any, .any, .any, .any, .any, .any, .any, .any, .any, .any, .any, .any, .any, .any, .any, .any, .any, .any, .any, .any, .any, .any, .any, .any, .any, .any, .any, .any, .any, .any, .any, .any, .any, .any, .any, .any, .any, .any, .any, .any, .any, .any, .any, .any, .any, .any, .any, .any, .any, .any, .any, .any, .any, .any, .any, .any], [.ent ⟨0, none, 39, [.v (.int .i64 s.v), .v (.int .i64 s.l), .sl false 3 (tRow s.code), .sl false 2 (pRow s.mem), .sl false 3 (sRow s.stack), .sl false 2 (pRow s.out)], .cells⟩, .ent ⟨0, none, 39, [.v (.int .i64 0), .v (.int .i64 0), .v (.slice none 0 0), .v (.slice none 0 0), .v (.slice none 0 0), .v (.slice none 0 0)], .cells⟩, .ent ⟨0, none, 39, [.v (.int .i64 (befI k s.v)), .v (.int .i64 s.l), .sl false 3 (tRow ((dropAt k s.code).map (befC k))), .sl false 2 (pRow s.mem), .v (.slice none 0 0), .sl false 2 (pRow s.out)], .cells⟩]⟩ ⟨[_, _, _], 1, rfl, rfl⟩ ?_ ?_
    · skip
      repeat' first | (with_reducible refine AWP_block ?_)
      refine AWP_loopK 3 (γ := {q : Nat × Option Nat // q.1 ≤ s.code.length ∧ (q.2 = none → (dropAt k (s.code.take q.1)).map (befC k) = []) ∧ (∀ g, q.2 = some g → (dropAt k (s.code.take q.1)).map (befC k) ≠ [])}) (fun q => ⟨[.any, .v (.int .i64 (k : Int)), .ptr 0 0 0, .any, .ptr 1 0 0, .ptr 2 0 0, .any, .any, .any, .any, .any, .any, .any, .any, .any, .any, .any, .any, .any, .any, .any, .any, .any, .any, .any, .any, .any, .any, .any, .any, .any, .sl false 3 (tRow s.code), .v (.int .i64 s.code.length), .v (.int .i64 q.1.1), .any, .any, .any, .any, .any, .any, .any, .any, .any, .any, .any, .any, .any, .any, .any, .any, .any, .any, .any, .any, .any, .any, .any, .any, .any, .any, .any, .any, .any, .any, .any, .any, .any, .any, .any, .any, .any, .any, .any, .any, .any, .any, .any, .any], gσ (fun cq => [.ent ⟨0, none, 39, [.v (.int .i64 s.v), .v (.int .i64 s.l), .sl false 3 (tRow s.code), .sl false 2 (pRow s.mem), .sl false 3 (sRow s.stack), .sl false 2 (pRow s.out)], .cells⟩, .ent ⟨0, none, 39, [.v (.int .i64 0), .v (.int .i64 0), .v (.slice none 0 0), .v (.slice none 0 0), .v (.slice none 0 0), .v (.slice none 0 0)], .cells⟩, .ent ⟨0, none, 39, [.v (.int .i64 (befI k s.v)), .v (.int .i64 s.l), cq, .sl false 2 (pRow s.mem), .v (.slice none 0 0), .sl false 2 (pRow s.out)], .cells⟩]) 3 3 100 (.v (.slice none 0 0)) ((dropAt k (s.code.take q.1.1)).map (befC k)).length (tCells ((dropAt k (s.code.take q.1.1)).map (befC k))) q.1.2⟩) (fun q => s.code.length - q.1.1) ⟨(0, none), by simp, fun _ => (by first | rfl | simp [dropAt]), fun g h => by cases h⟩ rfl ⟨?_, ?_⟩ ?_
      · exact Lq
      · exact Fq
      rintro ⟨⟨i, og⟩, hi, hno, hns⟩
      dsimp only at hi hno hns ⊢
      have hLe : ((dropAt k (s.code.take i)).map (befC k)).length ≤ i := mapDrop_le s.code k i
      by_cases hlt : (i : Int) < (s.code.length : Int)
      · have hx : s.code[i]? = some s.code[i] := List.getElem?_eq_getElem (by omega)
        obtain ⟨x, hxx⟩ : ∃ x, s.code[i] = x := ⟨_, rfl⟩
        rw [hxx] at hx
        have hge := getE_t hx
        have hxb := hxB x (List.mem_of_getElem? hx)
        obtain ⟨o, v, l⟩ := x
        simp only at hxb
        by_cases hk : i = k
        · have hkb : ((i : Int) == (k : Int)) = true := by simp [hk]
          have hst : (dropAt k (s.code.take (i + 1))).map (befC k) = (dropAt k (s.code.take i)).map (befC k) := by rw [dropAt_take hx, if_pos hk]
          rcases og with _ | gg
          · skip
            repeat' first | (with_reducible first | refine AWP_seq' ?_ | refine k_normal ?_ | refine k_exit ?_ | refine b_exit ?_ | refine AWP_skip ?_ | refine AWP_exit ?_ | refine AWP_block ?_) | ((with_reducible refine And.intro ?_ ?_); · exact Sq) | ((with_reducible refine AWP_reg fun KC J hJ hKC => ?_); simp (maxSteps := 9999999) only [push_cast, seval, ↓reduceIte, hlt, gσ, gE, List.cons_append, List.nil_append, hge, hkb, wrapN (i := i) (n := s.code.length) (by omega) (by omega)]) | ((with_reducible refine hJ _ _ ?_); clear hJ hKC KC J) | ((with_reducible refine AWP_condT ?_ ?_); · rfl)
            refine ⟨⟨(i + 1, none), by simp only; omega, (fun _ => by rw [hst]; exact hno rfl), (fun g h => by cases h)⟩, by simp only; omega, [0, 1, 2], by decide, by decide, ?_, ?_⟩
            · simp only [gσ, gE, List.cons_append, List.nil_append, hst, push_cast, mOf, idx]
              exact Lq
            · simp only [gσ, gE, List.cons_append, List.nil_append, hst, pick, List.map_cons, List.map_nil, List.map_append, getS, renSlot, ren_tCells, push_cast, mOf, idx]
              exact LSq
          · skip
            repeat' first | (with_reducible first | refine AWP_seq' ?_ | refine k_normal ?_ | refine k_exit ?_ | refine b_exit ?_ | refine AWP_skip ?_ | refine AWP_exit ?_ | refine AWP_block ?_) | ((with_reducible refine And.intro ?_ ?_); · exact Sq) | ((with_reducible refine AWP_reg fun KC J hJ hKC => ?_); simp (maxSteps := 9999999) only [push_cast, seval, ↓reduceIte, hlt, gσ, gE, List.cons_append, List.nil_append, hge, hkb, wrapN (i := i) (n := s.code.length) (by omega) (by omega)]) | ((with_reducible refine hJ _ _ ?_); clear hJ hKC KC J) | ((with_reducible refine AWP_condT ?_ ?_); · rfl)
            refine ⟨⟨(i + 1, some gg), by simp only; omega, (fun h => by cases h), (fun g h => by rw [hst]; exact hns gg rfl)⟩, by simp only; omega, [0, 1, 2, 3], by decide, by decide, ?_, ?_⟩
            · simp only [gσ, gE, List.cons_append, List.nil_append, hst, push_cast, mOf, idx]
              exact Lq
            · simp only [gσ, gE, List.cons_append, List.nil_append, hst, pick, List.map_cons, List.map_nil, List.map_append, getS, renSlot, ren_tCells, push_cast, mOf, idx]
              exact LSq
        have hkb : ((i : Int) == (k : Int)) = false := by simp; omega
        have hst9 : (dropAt k (s.code.take (i + 1))).map (befC k) = (dropAt k (s.code.take i)).map (befC k) ++ [befC k (o, v, l)] := by rw [dropAt_take hx, if_neg hk, List.map_append]; rfl
        by_cases h8 : o = 8
        · subst h8
          have hbf := rmBefore_fn k v hxb.1 hxb.2.1
          have hst : (dropAt k (s.code.take (i + 1))).map (befC k) = (dropAt k (s.code.take i)).map (befC k) ++ [(8, befI k v, l)] := hst9
          rcases og with _ | gg
          · have hL0 := hno rfl
            rw [hL0, List.nil_append] at hst
            repeat' first | (with_reducible first | refine AWP_seq' ?_ | refine k_normal ?_ | refine b_normal ?_ | refine AWP_skip ?_ | refine AWP_block ?_) | ((with_reducible refine And.intro ?_ ?_); · exact Sq) | ((first | with_reducible refine AWP_reg fun KC J hJ hKC => ?_ | (refine hKC _ _ _ _ _ (callV0 (hbf) rfl rfl rfl ?_ ?_); (· exact Lq))); simp (maxSteps := 9999999) only [push_cast, seval, ↓reduceIte, hlt, gσ, gE, List.cons_append, List.nil_append, hL0, hge, hkb, wrapN (i := i) (n := s.code.length) (by omega) (by omega)]) | ((with_reducible refine hJ _ _ ?_); clear hJ hKC KC J) | ((with_reducible refine AWP_condT ?_ ?_); · rfl) | ((with_reducible refine AWP_condF ?_ ?_); · rfl)
            refine ⟨⟨(i + 1, some 0), by simp only; omega, (fun h => by cases h), (fun g h => by rw [hst]; simp)⟩, by simp only; omega, [0, 1, 2, 6], by decide, by decide, ?_, ?_⟩
            · simp only [gσ, gE, List.cons_append, List.nil_append, hst, push_cast, mOf, idx]
              exact Lq
            · simp only [gσ, gE, List.cons_append, List.nil_append, hst, pick, List.map_cons, List.map_nil, List.map_append, getS, renSlot, ren_tCells, push_cast, mOf, idx]
              exact LSq
          · obtain ⟨m, hm⟩ : ∃ m, ((dropAt k (s.code.take i)).map (befC k)).length = m := ⟨_, rfl⟩
            have hlC : (tCells ((dropAt k (s.code.take i)).map (befC k))).length = m * 3 := by rw [tCells_length, hm]
            have htC := take_len hlC
            have hbm : Nat.beq gg gg = true := Nat.beq_refl gg
            have hn1 : ((dropAt k (s.code.take (i + 1))).map (befC k)).length = m + 1 := by rw [hst, List.length_append, hm]; rfl
            have hcs : tCells ((dropAt k (s.code.take (i + 1))).map (befC k)) = tCells ((dropAt k (s.code.take i)).map (befC k)) ++ tCells [(8, befI k v, l)] := by rw [hst, tCells_app]
            have hst0 := hst
            obtain ⟨L', hL'⟩ : ∃ L', (dropAt k (s.code.take (i + 1))).map (befC k) = L' := ⟨_, rfl⟩
            rw [hL'] at hn1 hcs
            repeat' first | (with_reducible first | refine AWP_seq' ?_ | refine k_normal ?_ | refine b_normal ?_ | refine AWP_skip ?_ | refine AWP_block ?_) | ((with_reducible refine And.intro ?_ ?_); · exact Sq) | ((first | with_reducible refine AWP_reg fun KC J hJ hKC => ?_ | (refine hKC _ _ _ _ _ (callV0 (hbf) rfl rfl rfl ?_ ?_); (· exact Lq))); simp (maxSteps := 9999999) only [push_cast, seval, ↓reduceIte, hlt, gσ, gE, List.cons_append, List.nil_append, hm, hlC, htC, hbm, hge, hkb, wrapN (i := i) (n := s.code.length) (by omega) (by omega)]) | ((with_reducible refine hJ _ _ ?_); clear hJ hKC KC J) | ((with_reducible refine AWP_condT ?_ ?_); · rfl) | ((with_reducible refine AWP_condF ?_ ?_); · rfl)
            refine ⟨⟨(i + 1, some (gg + 1)), by simp only; omega, (fun h => by cases h), (fun g h => by rw [hst0]; simp)⟩, by simp only; omega, [0, 1, 2, 3], by decide, by decide, ?_, ?_⟩
            · simp only [gσ, gE, List.cons_append, List.nil_append, hL', hn1, hcs, push_cast, mOf, idx]
              exact Lq
            · simp only [gσ, gE, List.cons_append, List.nil_append, hL', hn1, hcs, pick, List.map_cons, List.map_nil, List.map_append, getS, renSlot, ren_tCells, push_cast, mOf, idx]
              exact LSq
        · have h8' : (o == 8) = false := by simpa using h8
          have hst : (dropAt k (s.code.take (i + 1))).map (befC k) = (dropAt k (s.code.take i)).map (befC k) ++ [(o, v, l)] := by rw [hst9, show befC k (o, v, l) = (o, v, l) from if_neg h8]
          rcases og with _ | gg
          · have hL0 := hno rfl
            rw [hL0, List.nil_append] at hst
            repeat' first | (with_reducible first | refine AWP_seq' ?_ | refine k_normal ?_ | refine b_normal ?_ | refine AWP_skip ?_ | refine AWP_block ?_) | ((with_reducible refine And.intro ?_ ?_); · exact Sq) | ((with_reducible refine AWP_reg fun KC J hJ hKC => ?_); simp (maxSteps := 9999999) only [push_cast, seval, ↓reduceIte, hlt, gσ, gE, List.cons_append, List.nil_append, hL0, hge, hkb, h8', wrapN (i := i) (n := s.code.length) (by omega) (by omega)]) | ((with_reducible refine hJ _ _ ?_); clear hJ hKC KC J) | ((with_reducible refine AWP_condT ?_ ?_); · rfl) | ((with_reducible refine AWP_condF ?_ ?_); · rfl)
            refine ⟨⟨(i + 1, some 0), by simp only; omega, (fun h => by cases h), (fun g h => by rw [hst]; simp)⟩, by simp only; omega, [0, 1, 2, 5], by decide, by decide, ?_, ?_⟩
            · simp only [gσ, gE, List.cons_append, List.nil_append, hst, push_cast, mOf, idx]
              exact Lq
            · simp only [gσ, gE, List.cons_append, List.nil_append, hst, pick, List.map_cons, List.map_nil, List.map_append, getS, renSlot, ren_tCells, push_cast, mOf, idx]
              exact LSq
          · obtain ⟨m, hm⟩ : ∃ m, ((dropAt k (s.code.take i)).map (befC k)).length = m := ⟨_, rfl⟩
            have hlC : (tCells ((dropAt k (s.code.take i)).map (befC k))).length = m * 3 := by rw [tCells_length, hm]
            have htC := take_len hlC
            have hbm : Nat.beq gg gg = true := Nat.beq_refl gg
            have hn1 : ((dropAt k (s.code.take (i + 1))).map (befC k)).length = m + 1 := by rw [hst, List.length_append, hm]; rfl
            have hcs : tCells ((dropAt k (s.code.take (i + 1))).map (befC k)) = tCells ((dropAt k (s.code.take i)).map (befC k)) ++ tCells [(o, v, l)] := by rw [hst, tCells_app]
            have hst0 := hst
            obtain ⟨L', hL'⟩ : ∃ L', (dropAt k (s.code.take (i + 1))).map (befC k) = L' := ⟨_, rfl⟩
            rw [hL'] at hn1 hcs
            repeat' first | (with_reducible first | refine AWP_seq' ?_ | refine k_normal ?_ | refine b_normal ?_ | refine AWP_skip ?_ | refine AWP_block ?_) | ((with_reducible refine And.intro ?_ ?_); · exact Sq) | ((with_reducible refine AWP_reg fun KC J hJ hKC => ?_); simp (maxSteps := 9999999) only [push_cast, seval, ↓reduceIte, hlt, gσ, gE, List.cons_append, List.nil_append, hm, hlC, htC, hbm, hge, hkb, h8', wrapN (i := i) (n := s.code.length) (by omega) (by omega)]) | ((with_reducible refine hJ _ _ ?_); clear hJ hKC KC J) | ((with_reducible refine AWP_condT ?_ ?_); · rfl) | ((with_reducible refine AWP_condF ?_ ?_); · rfl)
            refine ⟨⟨(i + 1, some (gg + 1)), by simp only; omega, (fun h => by cases h), (fun g h => by rw [hst0]; simp)⟩, by simp only; omega, [0, 1, 2, 3], by decide, by decide, ?_, ?_⟩
            · simp only [gσ, gE, List.cons_append, List.nil_append, hL', hn1, hcs, push_cast, mOf, idx]
              exact Lq
            · simp only [gσ, gE, List.cons_append, List.nil_append, hL', hn1, hcs, pick, List.map_cons, List.map_nil, List.map_append, getS, renSlot, ren_tCells, push_cast, mOf, idx]
              exact LSq
      have hin : i = s.code.length := by omega
      subst hin
      have hend : (dropAt k (s.code.take s.code.length)).map (befC k) = (dropAt k s.code).map (befC k) := by rw [List.take_length]
      rw [hend] at hno hns ⊢
      obtain ⟨L, hL⟩ : ∃ L, (dropAt k s.code).map (befC k) = L := ⟨_, rfl⟩
      rw [hL] at hno hns ⊢
      rcases og with _ | gg
      · have hL0 := hno rfl
        subst hL0
        repeat' first | (with_reducible first | refine AWP_seq' ?_ | refine k_normal ?_ | refine k_exit ?_ | refine b_exit ?_ | refine AWP_exit ?_) | ((with_reducible refine AWP_reg fun KC J hJ hKC => ?_); simp (maxSteps := 9999999) only [push_cast, seval, ↓reduceIte, hlt, Int.lt_irrefl, gσ, gE, List.cons_append, List.nil_append]) | ((with_reducible refine hJ _ _ ?_); clear hJ hKC KC J) | ((with_reducible refine AWP_condF ?_ ?_); · rfl)
        refine .inl ⟨rfl, [0, 1, 2], by decide, by decide, ?_, ?_⟩
        · simp only [push_cast, mOf, idx, hL]
          exact Lq
        · simp only [hL, pick, List.map_cons, List.map_nil, List.map_append, getS, renSlot, push_cast, mOf, idx, show tRow [] = [] from rfl, show pRow [] = [] from rfl, show sRow [] = [] from rfl]
          exact LSq
      · have hne := hns gg rfl
        obtain ⟨m, hm⟩ : ∃ m, L.length = m := ⟨_, rfl⟩
        have hlC : (tCells L).length = m * 3 := by rw [tCells_length, hm]
        have hcp : chunk 3 m (tCells L) = tRow L := by rw [← hm]; exact chunk_t L
        have hbm : Nat.beq gg gg = true := Nat.beq_refl gg
        simp only [gσ, gE, List.cons_append, List.nil_append, hm]
        repeat' first | (refine AWP_freezeR 6 3 rfl (by (simp (maxSteps := 9999999) only [push_cast, seval, ↓reduceIte]) <;> rfl) ?_; simp (maxSteps := 9999999) only [push_cast, seval, ↓reduceIte, frSt, frSlot, fr3, fr2, fr1, fr0, sameB, arrOf, hlt, Int.lt_irrefl, hlC, hcp, hbm, gσ, gE, List.cons_append, List.nil_append]) | (with_reducible first | refine AWP_seq' ?_ | refine k_normal ?_ | refine k_exit ?_ | refine b_exit ?_ | refine AWP_exit ?_) | ((with_reducible refine AWP_reg fun KC J hJ hKC => ?_); simp (maxSteps := 9999999) only [push_cast, seval, ↓reduceIte, hlt, Int.lt_irrefl, hlC, hcp, hbm, gσ, gE, List.cons_append, List.nil_append]) | ((with_reducible refine hJ _ _ ?_); clear hJ hKC KC J) | ((with_reducible refine AWP_condF ?_ ?_); · rfl)
        refine .inl ⟨rfl, [0, 1, 2], by decide, by decide, ?_, ?_⟩
        · simp only [push_cast, mOf, idx, hL]
          exact Lq
        · simp only [hL, pick, List.map_cons, List.map_nil, List.map_append, getS, renSlot, push_cast, mOf, idx]
          exact LSq
    clear hxB
    have hxB := hs.stack
    repeat' first | (with_reducible refine holdB 2 ?_) | (with_reducible first | refine AWP_seq' ?_ | refine k_normal ?_) | ((with_reducible refine AWP_reg fun KC J hJ hKC => ?_); simp (maxSteps := 9999999) only [push_cast, seval, ↓reduceIte]) | ((with_reducible refine hJ _ _ ?_); clear hJ hKC KC J)
    refine AWP_cutW 3 ⟨[.any, .v (.int .i64 (k : Int)), .ptr 0 0 0, .any, .ptr 1 0 0, .ptr 2 0 0, .any, .any, .any, .any, .any, .any, .any, .any, .any, .any, .any, .any, .any, .any, .any, .any, .any, .any, .any, .any, .any, .any, .any, .any, .any, .any, .any, .any, .any, .any, .any, .any, .any, .any, .any, .any, .any, .any, .any, .any, .any, .any, .any, .any, .any, .any, .any, .any, .any, .any, .any, .any, .any, .any, .any, .any, .any, .any, .any, .any, .any, .any, .any, .any, .any, .any, .any, .any, .any, .any, .any, .any], [.ent ⟨0, none, 39, [.v (.int .i64 s.v), .v (.int .i64 s.l), .sl false 3 (tRow s.code), .sl false 2 (pRow s.mem), .sl false 3 (sRow s.stack), .sl false 2 (pRow s.out)], .cells⟩, .ent ⟨0, none, 39, [.v (.int .i64 0), .v (.int .i64 0), .v (.slice none 0 0), .v (.slice none 0 0), .v (.slice none 0 0), .v (.slice none 0 0)], .cells⟩, .ent ⟨0, none, 39, [.v (.int .i64 (befI k s.v)), .v (.int .i64 s.l), .sl false 3 (tRow ((dropAt k s.code).map (befC k))), .sl false 2 (pRow s.mem), .sl false 3 (sRow (s.stack.map (befS k))), .sl false 2 (pRow s.out)], .cells⟩]⟩ ⟨[_, _, _], 0, rfl, rfl⟩ ?_ ?_
    · skip
      repeat' first | (with_reducible refine AWP_block ?_)
      refine AWP_loopK 3 (γ := {q : Nat × Option Nat // q.1 ≤ s.stack.length ∧ (q.2 = none → (s.stack.take q.1).map (befS k) = []) ∧ (∀ g, q.2 = some g → (s.stack.take q.1).map (befS k) ≠ [])}) (fun q => ⟨[.any, .v (.int .i64 (k : Int)), .ptr 0 0 0, .any, .ptr 1 0 0, .ptr 2 0 0, .any, .any, .any, .any, .any, .any, .any, .any, .any, .any, .any, .any, .any, .any, .any, .any, .any, .any, .any, .any, .any, .any, .any, .any, .any, .any, .any, .any, .any, .any, .any, .any, .any, .any, .any, .any, .any, .any, .any, .any, .any, .any, .any, .any, .any, .any, .any, .any, .any, .any, .any, .sl false 3 (sRow s.stack), .v (.int .i64 s.stack.length), .v (.int .i64 q.1.1), .any, .any, .any, .any, .any, .any, .any, .any, .any, .any, .any, .any, .any, .any, .any, .any, .any, .any], gσ (fun cq => [.ent ⟨0, none, 39, [.v (.int .i64 s.v), .v (.int .i64 s.l), .sl false 3 (tRow s.code), .sl false 2 (pRow s.mem), .sl false 3 (sRow s.stack), .sl false 2 (pRow s.out)], .cells⟩, .ent ⟨0, none, 39, [.v (.int .i64 0), .v (.int .i64 0), .v (.slice none 0 0), .v (.slice none 0 0), .v (.slice none 0 0), .v (.slice none 0 0)], .cells⟩, .ent ⟨0, none, 39, [.v (.int .i64 (befI k s.v)), .v (.int .i64 s.l), .sl false 3 (tRow ((dropAt k s.code).map (befC k))), .sl false 2 (pRow s.mem), cq, .sl false 2 (pRow s.out)], .cells⟩]) 3 3 104 (.v (.slice none 0 0)) ((s.stack.take q.1.1).map (befS k)).length (sCells ((s.stack.take q.1.1).map (befS k))) q.1.2⟩) (fun q => s.stack.length - q.1.1) ⟨(0, none), by simp, fun _ => (by first | rfl | simp [dropAt]), fun g h => by cases h⟩ rfl ⟨?_, ?_⟩ ?_
      · exact Lq
      · exact Fq
      rintro ⟨⟨i, og⟩, hi, hno, hns⟩
      dsimp only at hi hno hns ⊢
      have hLe : ((s.stack.take i).map (befS k)).length ≤ i := mapS_le s.stack k i
      by_cases hlt : (i : Int) < (s.stack.length : Int)
      · have hx : s.stack[i]? = some s.stack[i] := List.getElem?_eq_getElem (by omega)
        obtain ⟨x, hxx⟩ : ∃ x, s.stack[i] = x := ⟨_, rfl⟩
        rw [hxx] at hx
        have hge := getE_s hx
        have hxb := hxB x (List.mem_of_getElem? hx)
        obtain ⟨o, v, l⟩ := x
        simp only at hxb
        have hst9 : (s.stack.take (i + 1)).map (befS k) = (s.stack.take i).map (befS k) ++ [befS k (o, v, l)] := by rw [List.take_add_one, hx, List.map_append]; rfl
        cases o
        case true =>
          have hbf := rmBefore_fn k v hxb.1 hxb.2.1
          have hst : (s.stack.take (i + 1)).map (befS k) = (s.stack.take i).map (befS k) ++ [(true, befI k v, l)] := hst9
          rcases og with _ | gg
          · have hL0 := hno rfl
            rw [hL0, List.nil_append] at hst
            repeat' first | (with_reducible first | refine AWP_seq' ?_ | refine k_normal ?_ | refine b_normal ?_ | refine AWP_skip ?_ | refine AWP_block ?_) | ((with_reducible refine And.intro ?_ ?_); · exact Sq) | ((first | with_reducible refine AWP_reg fun KC J hJ hKC => ?_ | (refine hKC _ _ _ _ _ (callV0 (hbf) rfl rfl rfl ?_ ?_); (· exact Lq))); simp (maxSteps := 9999999) only [push_cast, seval, ↓reduceIte, hlt, gσ, gE, List.cons_append, List.nil_append, hL0, hge, wrapN (i := i) (n := s.stack.length) (by omega) (by omega)]) | ((with_reducible refine hJ _ _ ?_); clear hJ hKC KC J) | ((with_reducible refine AWP_condT ?_ ?_); · rfl)
            refine ⟨⟨(i + 1, some 0), by simp only; omega, (fun h => by cases h), (fun g h => by rw [hst]; simp)⟩, by simp only; omega, [0, 1, 2, 6], by decide, by decide, ?_, ?_⟩
            · simp only [gσ, gE, List.cons_append, List.nil_append, hst, push_cast, mOf, idx]
              exact Lq
            · simp only [gσ, gE, List.cons_append, List.nil_append, hst, pick, List.map_cons, List.map_nil, List.map_append, getS, renSlot, ren_sCells, push_cast, mOf, idx]
              exact LSq
          · obtain ⟨m, hm⟩ : ∃ m, ((s.stack.take i).map (befS k)).length = m := ⟨_, rfl⟩
            have hlC : (sCells ((s.stack.take i).map (befS k))).length = m * 3 := by rw [sCells_length, hm]
            have htC := take_len hlC
            have hbm : Nat.beq gg gg = true := Nat.beq_refl gg
            have hn1 : ((s.stack.take (i + 1)).map (befS k)).length = m + 1 := by rw [hst, List.length_append, hm]; rfl
            have hcs : sCells ((s.stack.take (i + 1)).map (befS k)) = sCells ((s.stack.take i).map (befS k)) ++ sCells [(true, befI k v, l)] := by rw [hst, sCells_app]
            have hst0 := hst
            obtain ⟨L', hL'⟩ : ∃ L', (s.stack.take (i + 1)).map (befS k) = L' := ⟨_, rfl⟩
            rw [hL'] at hn1 hcs
            repeat' first | (with_reducible first | refine AWP_seq' ?_ | refine k_normal ?_ | refine b_normal ?_ | refine AWP_skip ?_ | refine AWP_block ?_) | ((with_reducible refine And.intro ?_ ?_); · exact Sq) | ((first | with_reducible refine AWP_reg fun KC J hJ hKC => ?_ | (refine hKC _ _ _ _ _ (callV0 (hbf) rfl rfl rfl ?_ ?_); (· exact Lq))); simp (maxSteps := 9999999) only [push_cast, seval, ↓reduceIte, hlt, gσ, gE, List.cons_append, List.nil_append, hm, hlC, htC, hbm, hge, wrapN (i := i) (n := s.stack.length) (by omega) (by omega)]) | ((with_reducible refine hJ _ _ ?_); clear hJ hKC KC J) | ((with_reducible refine AWP_condT ?_ ?_); · rfl)
            refine ⟨⟨(i + 1, some (gg + 1)), by simp only; omega, (fun h => by cases h), (fun g h => by rw [hst0]; simp)⟩, by simp only; omega, [0, 1, 2, 3], by decide, by decide, ?_, ?_⟩
            · simp only [gσ, gE, List.cons_append, List.nil_append, hL', hn1, hcs, push_cast, mOf, idx]
              exact Lq
            · simp only [gσ, gE, List.cons_append, List.nil_append, hL', hn1, hcs, pick, List.map_cons, List.map_nil, List.map_append, getS, renSlot, ren_sCells, push_cast, mOf, idx]
              exact LSq
        case false =>
          have hst : (s.stack.take (i + 1)).map (befS k) = (s.stack.take i).map (befS k) ++ [(false, v, l)] := hst9
          rcases og with _ | gg
          · have hL0 := hno rfl
            rw [hL0, List.nil_append] at hst
            repeat' first | (with_reducible first | refine AWP_seq' ?_ | refine k_normal ?_ | refine b_normal ?_ | refine AWP_skip ?_ | refine AWP_block ?_) | ((with_reducible refine And.intro ?_ ?_); · exact Sq) | ((with_reducible refine AWP_reg fun KC J hJ hKC => ?_); simp (maxSteps := 9999999) only [push_cast, seval, ↓reduceIte, hlt, gσ, gE, List.cons_append, List.nil_append, hL0, hge, wrapN (i := i) (n := s.stack.length) (by omega) (by omega)]) | ((with_reducible refine hJ _ _ ?_); clear hJ hKC KC J) | ((with_reducible refine AWP_condT ?_ ?_); · rfl) | ((with_reducible refine AWP_condF ?_ ?_); · rfl)
            refine ⟨⟨(i + 1, some 0), by simp only; omega, (fun h => by cases h), (fun g h => by rw [hst]; simp)⟩, by simp only; omega, [0, 1, 2, 5], by decide, by decide, ?_, ?_⟩
            · simp only [gσ, gE, List.cons_append, List.nil_append, hst, push_cast, mOf, idx]
              exact Lq
            · simp only [gσ, gE, List.cons_append, List.nil_append, hst, pick, List.map_cons, List.map_nil, List.map_append, getS, renSlot, ren_sCells, push_cast, mOf, idx]
              exact LSq
          · obtain ⟨m, hm⟩ : ∃ m, ((s.stack.take i).map (befS k)).length = m := ⟨_, rfl⟩
            have hlC : (sCells ((s.stack.take i).map (befS k))).length = m * 3 := by rw [sCells_length, hm]
            have htC := take_len hlC
            have hbm : Nat.beq gg gg = true := Nat.beq_refl gg
            have hn1 : ((s.stack.take (i + 1)).map (befS k)).length = m + 1 := by rw [hst, List.length_append, hm]; rfl
            have hcs : sCells ((s.stack.take (i + 1)).map (befS k)) = sCells ((s.stack.take i).map (befS k)) ++ sCells [(false, v, l)] := by rw [hst, sCells_app]
            have hst0 := hst
            obtain ⟨L', hL'⟩ : ∃ L', (s.stack.take (i + 1)).map (befS k) = L' := ⟨_, rfl⟩
            rw [hL'] at hn1 hcs
            repeat' first | (with_reducible first | refine AWP_seq' ?_ | refine k_normal ?_ | refine b_normal ?_ | refine AWP_skip ?_ | refine AWP_block ?_) | ((with_reducible refine And.intro ?_ ?_); · exact Sq) | ((with_reducible refine AWP_reg fun KC J hJ hKC => ?_); simp (maxSteps := 9999999) only [push_cast, seval, ↓reduceIte, hlt, gσ, gE, List.cons_append, List.nil_append, hm, hlC, htC, hbm, hge, wrapN (i := i) (n := s.stack.length) (by omega) (by omega)]) | ((with_reducible refine hJ _ _ ?_); clear hJ hKC KC J) | ((with_reducible refine AWP_condT ?_ ?_); · rfl) | ((with_reducible refine AWP_condF ?_ ?_); · rfl)
            refine ⟨⟨(i + 1, some (gg + 1)), by simp only; omega, (fun h => by cases h), (fun g h => by rw [hst0]; simp)⟩, by simp only; omega, [0, 1, 2, 3], by decide, by decide, ?_, ?_⟩
            · simp only [gσ, gE, List.cons_append, List.nil_append, hL', hn1, hcs, push_cast, mOf, idx]
              exact Lq
            · simp only [gσ, gE, List.cons_append, List.nil_append, hL', hn1, hcs, pick, List.map_cons, List.map_nil, List.map_append, getS, renSlot, ren_sCells, push_cast, mOf, idx]
              exact LSq
      have hin : i = s.stack.length := by omega
      subst hin
      have hend : (s.stack.take s.stack.length).map (befS k) = s.stack.map (befS k) := by rw [List.take_length]
      rw [hend] at hno hns ⊢
      obtain ⟨L, hL⟩ : ∃ L, s.stack.map (befS k) = L := ⟨_, rfl⟩
      rw [hL] at hno hns ⊢
      rcases og with _ | gg
      · have hL0 := hno rfl
        subst hL0
        repeat' first | (with_reducible first | refine AWP_seq' ?_ | refine k_normal ?_ | refine k_exit ?_ | refine b_exit ?_ | refine AWP_exit ?_) | ((with_reducible refine AWP_reg fun KC J hJ hKC => ?_); simp (maxSteps := 9999999) only [push_cast, seval, ↓reduceIte, hlt, Int.lt_irrefl, gσ, gE, List.cons_append, List.nil_append]) | ((with_reducible refine hJ _ _ ?_); clear hJ hKC KC J) | ((with_reducible refine AWP_condF ?_ ?_); · rfl)
        refine .inl ⟨rfl, [0, 1, 2], by decide, by decide, ?_, ?_⟩
        · simp only [push_cast, mOf, idx, hL]
          exact Lq
        · simp only [hL, pick, List.map_cons, List.map_nil, List.map_append, getS, renSlot, push_cast, mOf, idx, show tRow [] = [] from rfl, show pRow [] = [] from rfl, show sRow [] = [] from rfl]
          exact LSq
      · have hne := hns gg rfl
        obtain ⟨m, hm⟩ : ∃ m, L.length = m := ⟨_, rfl⟩
        have hlC : (sCells L).length = m * 3 := by rw [sCells_length, hm]
        have hcp : chunk 3 m (sCells L) = sRow L := by rw [← hm]; exact chunk_s L
        have hbm : Nat.beq gg gg = true := Nat.beq_refl gg
        simp only [gσ, gE, List.cons_append, List.nil_append, hm]
        repeat' first | (refine AWP_freezeR 14 3 rfl (by (simp (maxSteps := 9999999) only [push_cast, seval, ↓reduceIte]) <;> rfl) ?_; simp (maxSteps := 9999999) only [push_cast, seval, ↓reduceIte, frSt, frSlot, fr3, fr2, fr1, fr0, sameB, arrOf, hlt, Int.lt_irrefl, hlC, hcp, hbm, gσ, gE, List.cons_append, List.nil_append]) | (with_reducible first | refine AWP_seq' ?_ | refine k_normal ?_ | refine k_exit ?_ | refine b_exit ?_ | refine AWP_exit ?_) | ((with_reducible refine AWP_reg fun KC J hJ hKC => ?_); simp (maxSteps := 9999999) only [push_cast, seval, ↓reduceIte, hlt, Int.lt_irrefl, hlC, hcp, hbm, gσ, gE, List.cons_append, List.nil_append]) | ((with_reducible refine hJ _ _ ?_); clear hJ hKC KC J) | ((with_reducible refine AWP_condF ?_ ?_); · rfl)
        refine .inl ⟨rfl, [0, 1, 2], by decide, by decide, ?_, ?_⟩
        · simp only [push_cast, mOf, idx, hL]
          exact Lq
        · simp only [hL, pick, List.map_cons, List.map_nil, List.map_append, getS, renSlot, push_cast, mOf, idx]
          exact LSq
    repeat' first | (with_reducible first | refine AWP_seq' ?_ | refine k_normal ?_ | refine AWP_ret ?_) | ((with_reducible refine AWP_reg fun KC J hJ hKC => ?_); simp (maxSteps := 9999999) only [push_cast, seval, ↓reduceIte]) | ((with_reducible refine hJ _ _ ?_); clear hJ hKC KC J)
    refine ret_plain ?_
    simp (maxSteps := 9999999) only [push_cast, seval, ↓reduceIte, show Tryz.f67.results = #[(.cell 4 39)] from rfl]
    exact Lq
  · have hi' : ((s.code.length : Int) ≤ (k : Int)) = True := by simp; omega
    rw [if_neg hi]
    refine Fn.of (fn := Tryz.f67) (by kernel_rfl) rfl (by kernel_rfl) ⟨[.agg [.v (.int .i64 s.v), .v (.int .i64 s.l), .sl false 3 (tRow s.code), .sl false 2 (pRow s.mem), .sl false 3 (sRow s.stack), .sl false 2 (pRow s.out)], .v (.int .i64 (k : Int)), .v undef, .v undef, .v undef, .v undef, .v undef, .v undef, .v undef, .v undef, .v undef, .v undef, .v undef, .v undef, .v undef, .v undef, .v undef, .v undef, .v undef, .v undef, .v undef, .v undef, .v undef, .v undef, .v undef, .v undef, .v undef, .v undef, .v undef, .v undef, .v undef, .v undef, .v undef, .v undef, .v undef, .v undef, .v undef, .v undef, .v undef, .v undef, .v undef, .v undef, .v undef, .v undef, .v undef, .v undef, .v undef, .v undef, .v undef, .v undef, .v undef, .v undef, .v undef, .v undef, .v undef, .v undef, .v undef, .v undef, .v undef, .v undef, .v undef, .v undef, .v undef, .v undef, .v undef, .v undef, .v undef, .v undef, .v undef, .v undef, .v undef, .v undef, .v undef, .v undef, .v undef, .v undef, .v undef, .v undef], []⟩ rfl ?_
    repeat' first | (with_reducible first | refine AWP_seq' ?_ | refine k_normal ?_ | refine k_ret ?_ | refine AWP_ret ?_) | ((with_reducible refine AWP_reg fun KC J hJ hKC => ?_); simp (maxSteps := 9999999) only [push_cast, seval, ↓reduceIte, hi', ge_iff_le]) | ((with_reducible refine hJ _ _ ?_); clear hJ hKC KC J) | ((with_reducible refine AWP_condT ?_ ?_); · rfl)
    refine ret_plain ?_
    simp (maxSteps := 9999999) only [push_cast, seval, ↓reduceIte, show Tryz.f67.results = #[(.cell 4 39)] from rfl]
    exact Lq
end Go.Proofs.YtabliglgeiajlaaGreat.AM

namespace Go.Proofs.YtabliglgeiajlaaGreat.AM
open Go Go.RowKit Go.Proofs
set_option maxRecDepth 100000
set_option maxHeartbeats 4000000
def eT (n : Nat) : D := if n = 0 then .sl true 2 [] else .ref 1 (n - 1) n
theorem rCaseT (p : List Slot) (dd n sz ty : Nat) (cs : List D) : (n = 0 ∧ eT n = .sl true 2 [] ∧ σR p dd n sz ty cs = p) ∨ (∃ j, n = j + 1 ∧ eT n = .ref 1 j (j + 1) ∧ σR p dd n sz ty cs = p ++ List.replicate dd .dead ++ [.ent ⟨j, some sz, ty, cs, .cells⟩]) := by
  cases n with
  | zero => exact .inl ⟨rfl, rfl, rfl⟩
  | succ j => exact .inr ⟨j, rfl, rfl, rfl⟩
theorem rmPlaces_fn (s : Sta) (hs : Sml15 s) : Fn Tryz.prog 161 [.agg (staF false false false false s)] [] (.sl false 2 (pRow (castL (placesF s)))) [] := by
  refine Fn.post (res := .sl (decide (castL (placesF s) = [])) 2 (pRow (castL (placesF s)))) ?_ (Rle_sl _ _ _)
  obtain ⟨l1, l2, l3, l4⟩ := hs
  simp only [staF]
  refine Fn.of (fn := Tryz.f161) (by kernel_rfl) rfl (by kernel_rfl) ⟨[.agg [.v (.int .i64 s.v), .v (.int .i64 s.l), .sl false 3 (tRow s.code), .sl false 2 (pRow s.mem), .sl false 3 (sRow s.stack), .sl false 2 (pRow s.out)], .v undef, .v undef, .v undef, .v undef, .v undef, .v undef, .v undef, .v undef, .v undef, .v undef, .v undef, .v undef, .v undef, .v undef, .v undef, .v undef, .v undef, .v undef, .v undef, .v undef, .v undef, .v undef, .v undef, .v undef, .v undef, .v undef, .v undef, .v undef, .v undef, .v undef, .v undef, .v undef, .v undef, .v undef, .v undef, .v undef, .v undef, .v undef, .v undef, .v undef, .v undef, .v undef, .v undef, .v undef, .v undef, .v undef, .v undef, .v undef, .v undef, .v undef], []⟩ rfl ?_
  repeat' first | (with_reducible first | refine AWP_seq' ?_ | refine k_normal ?_ | refine AWP_block ?_) | ((with_reducible refine AWP_reg fun KC J hJ hKC => ?_); simp (maxSteps := 9999999) only [push_cast, seval, ↓reduceIte]) | ((with_reducible refine hJ _ _ ?_); clear hJ hKC KC J)
  obtain ⟨nP1, hn0⟩ : ∃ n, (σR [.ent ⟨0, none, 39, [.v (.int .i64 s.v), .v (.int .i64 s.l), .sl false 3 (tRow s.code), .sl false 2 (pRow s.mem), .sl false 3 (sRow s.stack), .sl false 2 (pRow s.out)], .cells⟩] 0 (P1 s 0).length 2 220 (pCells (castL (P1 s 0)))).length = n := ⟨_, rfl⟩
  have hn1 : nP1 = 1 ∨ (nP1 = 2 ∧ 0 < (P1 s 0).length) := by
    rw [← hn0]
    rcases rCaseT [.ent ⟨0, none, 39, [.v (.int .i64 s.v), .v (.int .i64 s.l), .sl false 3 (tRow s.code), .sl false 2 (pRow s.mem), .sl false 3 (sRow s.stack), .sl false 2 (pRow s.out)], .cells⟩] 0 (P1 s 0).length 2 220 (pCells (castL (P1 s 0))) with ⟨h0, _, hσ⟩ | ⟨j, h0, _, hσ⟩
    · rw [hσ]; exact .inl rfl
    · rw [hσ]; exact .inr ⟨rfl, by omega⟩
  refine AWP_loopK nP1 (γ := {i : Nat // i ≤ s.code.length}) (fun i => ⟨[.any, .ptr 0 0 0, .any, eT (P1 s i.1).length, .any, .any, .any, .any, .any, .any, .sl false 3 (tRow s.code), .v (.int .i64 s.code.length), .v (.int .i64 i.1), .any, .any, .any, .any, .any, .any, .any, .any, .any, .any, .any, .any, .any, .any, .any, .any, .any, .any, .any, .any, .any, .any, .any, .any, .any, .any, .any, .any, .any, .any, .any, .any, .any, .any, .any, .any, .any, .any], σR [.ent ⟨0, none, 39, [.v (.int .i64 s.v), .v (.int .i64 s.l), .sl false 3 (tRow s.code), .sl false 2 (pRow s.mem), .sl false 3 (sRow s.stack), .sl false 2 (pRow s.out)], .cells⟩] 0 (P1 s i.1).length 2 220 (pCells (castL (P1 s i.1)))⟩) (fun i => s.code.length - i.1) ⟨0, by omega⟩ hn0 ⟨?_, ?_⟩ ?_
  · exact Lq
  · exact Fq
  rintro ⟨i, hi⟩
  dsimp only
  have hPl := P1_le s i
  have hP0 : (P1 s 0).length ≤ (P1 s i).length := P1_mono s i
  have hCl := castL_length (P1 s i)
  have hpl := pCells_length (castL (P1 s i))
  by_cases hlt : (i : Int) < (s.code.length : Int)
  · have hx : s.code[i]? = some s.code[i] := List.getElem?_eq_getElem (by omega)
    obtain ⟨x, hxx⟩ : ∃ x, s.code[i] = x := ⟨_, rfl⟩
    rw [hxx] at hx
    have hge := getE_t hx
    by_cases h1 : x.1 = 1
    · have h1' : (x.1 == 1) = true := by simpa using h1
      have hst : P1 s (i + 1) = P1 s i ++ [(0, i)] := by rw [P1_succ hx, if_pos (by simpa using h1)]
      have hst2 : castL (P1 s (i + 1)) = castL (P1 s i) ++ [((0 : Int), (i : Int))] := by rw [hst, castL_app]; rfl
      have hst3 : (P1 s (i + 1)).length = (P1 s i).length + 1 := by rw [hst, List.length_append]; rfl
      rcases rCaseT [.ent ⟨0, none, 39, [.v (.int .i64 s.v), .v (.int .i64 s.l), .sl false 3 (tRow s.code), .sl false 2 (pRow s.mem), .sl false 3 (sRow s.stack), .sl false 2 (pRow s.out)], .cells⟩] 0 (P1 s i).length 2 220 (pCells (castL (P1 s i))) with ⟨h0, hD, hσ⟩ | ⟨j, h0, hD, hσ⟩
      · have hL0 : castL (P1 s i) = [] := List.length_eq_zero_iff.1 (by omega)
        rw [hL0, List.nil_append] at hst2
        repeat' first | (with_reducible first | refine AWP_seq' ?_ | refine k_normal ?_ | refine b_normal ?_ | refine AWP_skip ?_ | refine AWP_block ?_) | ((with_reducible refine And.intro ?_ ?_); · exact Sq) | ((with_reducible refine AWP_reg fun KC J hJ hKC => ?_); simp (maxSteps := 9999999) only [push_cast, seval, ↓reduceIte, hlt, hD, hσ, hge, h1', wrapN (i := i) (n := s.code.length) (by omega) (by omega)]) | ((with_reducible refine hJ _ _ ?_); clear hJ hKC KC J) | ((with_reducible refine AWP_condT ?_ ?_); · rfl)
        refine ⟨⟨i + 1, by omega⟩, by simp only; omega, [0, 3], by decide, ?_, ?_, ?_⟩
        · intro k hk
          have hk2 : k < 1 := by omega
          match k, hk2 with
          | 0, _ => rfl
        · simp only [hst3, h0, Nat.zero_add, eT, if_neg (show ¬ (1 : Nat) = 0 by omega), push_cast, mOf, idx]
          exact Lq
        · simp only [hst2, hst3, h0, Nat.zero_add, σR, if_neg (show ¬ (1 : Nat) = 0 by omega), List.replicate_zero, List.append_nil, List.cons_append, List.nil_append, pick, List.map_cons, List.map_nil, getS, renSlot, push_cast, mOf, idx]
          exact leS_refl _
      · have hpl2 : (pCells (castL (P1 s i))).length = (j + 1) * 2 := by omega
        have htC := take_len hpl2
        have hbm : Nat.beq j j = true := Nat.beq_refl j
        repeat' first | (with_reducible first | refine AWP_seq' ?_ | refine k_normal ?_ | refine b_normal ?_ | refine AWP_skip ?_ | refine AWP_block ?_) | ((with_reducible refine And.intro ?_ ?_); · exact Sq) | ((with_reducible refine AWP_reg fun KC J hJ hKC => ?_); simp (maxSteps := 9999999) only [push_cast, seval, ↓reduceIte, hlt, hD, hσ, hpl2, htC, hbm, List.replicate_zero, List.append_nil, List.cons_append, List.nil_append, hge, h1', wrapN (i := i) (n := s.code.length) (by omega) (by omega)]) | ((with_reducible refine hJ _ _ ?_); clear hJ hKC KC J) | ((with_reducible refine AWP_condT ?_ ?_); · rfl)
        refine ⟨⟨i + 1, by omega⟩, by simp only; omega, [0, 1], by decide, ?_, ?_, ?_⟩
        · intro k hk
          have hk2 : k < 2 := by omega
          match k, hk2 with
          | 0, _ => rfl
          | 1, _ => rfl
        · simp only [hst3, h0, eT, if_neg (show ¬ (j + 1 + 1 : Nat) = 0 by omega), push_cast, mOf, idx, Nat.add_sub_cancel]
          exact Lq
        · simp only [hst2, hst3, h0, σR, if_neg (show ¬ (j + 1 + 1 : Nat) = 0 by omega), pCells_app, List.replicate_zero, List.append_nil, List.cons_append, List.nil_append, pick, List.map_cons, List.map_nil, getS, renSlot, List.map_append, ren_pCells, push_cast, mOf, idx, Nat.add_sub_cancel]
          exact leS_refl _
    · have h1' : (x.1 == 1) = false := by simpa using h1
      have hst : P1 s (i + 1) = P1 s i := by rw [P1_succ hx, if_neg (by simp [h1']), List.append_nil]
      rcases rCaseT [.ent ⟨0, none, 39, [.v (.int .i64 s.v), .v (.int .i64 s.l), .sl false 3 (tRow s.code), .sl false 2 (pRow s.mem), .sl false 3 (sRow s.stack), .sl false 2 (pRow s.out)], .cells⟩] 0 (P1 s i).length 2 220 (pCells (castL (P1 s i))) with ⟨h0, hD, hσ⟩ | ⟨j, h0, hD, hσ⟩
      · skip
        repeat' first | (with_reducible first | refine AWP_seq' ?_ | refine k_normal ?_ | refine b_normal ?_ | refine AWP_skip ?_ | refine AWP_block ?_) | ((with_reducible refine And.intro ?_ ?_); · exact Sq) | ((with_reducible refine AWP_reg fun KC J hJ hKC => ?_); simp (maxSteps := 9999999) only [push_cast, seval, ↓reduceIte, hlt, hD, hσ, hge, h1', wrapN (i := i) (n := s.code.length) (by omega) (by omega)]) | ((with_reducible refine hJ _ _ ?_); clear hJ hKC KC J) | ((with_reducible refine AWP_condT ?_ ?_); · rfl) | ((with_reducible refine AWP_condF ?_ ?_); · rfl)
        refine ⟨⟨i + 1, by omega⟩, by simp only; omega, [0], by decide, ?_, ?_, ?_⟩
        · intro k hk
          have hk2 : k < 1 := by omega
          match k, hk2 with
          | 0, _ => rfl
        · simp only [hst, hD, push_cast, mOf, idx]
          exact Lq
        · simp only [hst, hσ, pick, List.map_cons, List.map_nil, getS, renSlot, push_cast, mOf, idx]
          exact leS_refl _
      · skip
        repeat' first | (with_reducible first | refine AWP_seq' ?_ | refine k_normal ?_ | refine b_normal ?_ | refine AWP_skip ?_ | refine AWP_block ?_) | ((with_reducible refine And.intro ?_ ?_); · exact Sq) | ((with_reducible refine AWP_reg fun KC J hJ hKC => ?_); simp (maxSteps := 9999999) only [push_cast, seval, ↓reduceIte, hlt, hD, hσ, List.replicate_zero, List.append_nil, List.cons_append, List.nil_append, hge, h1', wrapN (i := i) (n := s.code.length) (by omega) (by omega)]) | ((with_reducible refine hJ _ _ ?_); clear hJ hKC KC J) | ((with_reducible refine AWP_condT ?_ ?_); · rfl) | ((with_reducible refine AWP_condF ?_ ?_); · rfl)
        refine ⟨⟨i + 1, by omega⟩, by simp only; omega, [0, 1], by decide, ?_, ?_, ?_⟩
        · intro k hk
          have hk2 : k < 2 := by omega
          match k, hk2 with
          | 0, _ => rfl
          | 1, _ => rfl
        · simp only [hst, hD, push_cast, mOf, idx]
          exact Lq
        · simp only [hst, hσ, List.replicate_zero, List.append_nil, List.cons_append, List.nil_append, pick, List.map_cons, List.map_nil, getS, renSlot, ren_pCells, push_cast, mOf, idx]
          exact leS_refl _
  have hin : i = s.code.length := by omega
  subst hin
  clear hn1 hPl hP0 hCl hpl
  clear hn0
  rw [show P1 s s.code.length = P2 s 0 by simp [P2]]
  repeat' first | (with_reducible refine hold 8 ?_) | (with_reducible first | refine AWP_seq' ?_ | refine k_normal ?_ | refine k_exit ?_ | refine b_exit ?_ | refine AWP_exit ?_) | ((with_reducible refine AWP_reg fun KC J hJ hKC => ?_); simp (maxSteps := 9999999) only [push_cast, seval, ↓reduceIte, hlt]) | ((with_reducible refine hJ _ _ ?_); clear hJ hKC KC J) | ((with_reducible refine AWP_condF ?_ ?_); · rfl)
  refine AWP_cutR ⟨[.any, .ptr 0 0 0, .any, eT (P2 s 0).length, .any, .any, .any, .any, .any, .any, .any, .any, .any, .any, .any, .any, .any, .any, .any, .any, .any, .any, .any, .any, .any, .any, .any, .any, .v (.int .i64 s.mem.length), .v (.int .i64 0), .any, .any, .any, .any, .any, .any, .any, .any, .any, .any, .any, .any, .any, .any, .any, .any, .any, .any, .any, .any, .any], σR [.ent ⟨0, none, 39, [.v (.int .i64 s.v), .v (.int .i64 s.l), .sl false 3 (tRow s.code), .sl false 2 (pRow s.mem), .sl false 3 (sRow s.stack), .sl false 2 (pRow s.out)], .cells⟩] 0 (P2 s 0).length 2 220 (pCells (castL (P2 s 0)))⟩ ?_ ?_
  · rcases rCaseT [.ent ⟨0, none, 39, [.v (.int .i64 s.v), .v (.int .i64 s.l), .sl false 3 (tRow s.code), .sl false 2 (pRow s.mem), .sl false 3 (sRow s.stack), .sl false 2 (pRow s.out)], .cells⟩] 0 (P2 s 0).length 2 220 (pCells (castL (P2 s 0))) with ⟨h0, hD, hσ⟩ | ⟨j, h0, hD, hσ⟩
    all_goals
      simp only [hD, hσ, List.replicate_zero, List.append_nil, List.cons_append, List.nil_append]
      repeat' first | ((with_reducible refine AWP_reg fun KC J hJ hKC => ?_); simp (maxSteps := 9999999) only [push_cast, seval, ↓reduceIte]) | ((with_reducible refine hJ _ _ ?_); clear hJ hKC KC J)
      (refine to_of ?_ Fq; (· exact Lq))
  repeat' first | (with_reducible refine AWP_block ?_)
  obtain ⟨nP2, hn0⟩ : ∃ n, (σR [.ent ⟨0, none, 39, [.v (.int .i64 s.v), .v (.int .i64 s.l), .sl false 3 (tRow s.code), .sl false 2 (pRow s.mem), .sl false 3 (sRow s.stack), .sl false 2 (pRow s.out)], .cells⟩] 0 (P2 s 0).length 2 220 (pCells (castL (P2 s 0)))).length = n := ⟨_, rfl⟩
  have hn1 : nP2 = 1 ∨ (nP2 = 2 ∧ 0 < (P2 s 0).length) := by
    rw [← hn0]
    rcases rCaseT [.ent ⟨0, none, 39, [.v (.int .i64 s.v), .v (.int .i64 s.l), .sl false 3 (tRow s.code), .sl false 2 (pRow s.mem), .sl false 3 (sRow s.stack), .sl false 2 (pRow s.out)], .cells⟩] 0 (P2 s 0).length 2 220 (pCells (castL (P2 s 0))) with ⟨h0, _, hσ⟩ | ⟨j, h0, _, hσ⟩
    · rw [hσ]; exact .inl rfl
    · rw [hσ]; exact .inr ⟨rfl, by omega⟩
  refine AWP_loopK nP2 (γ := {i : Nat // i ≤ s.mem.length}) (fun i => ⟨[.any, .ptr 0 0 0, .any, eT (P2 s i.1).length, .any, .any, .any, .any, .any, .any, .any, .any, .any, .any, .any, .any, .any, .any, .any, .any, .any, .any, .any, .any, .any, .any, .any, .any, .v (.int .i64 s.mem.length), .v (.int .i64 i.1), .any, .any, .any, .any, .any, .any, .any, .any, .any, .any, .any, .any, .any, .any, .any, .any, .any, .any, .any, .any, .any], σR [.ent ⟨0, none, 39, [.v (.int .i64 s.v), .v (.int .i64 s.l), .sl false 3 (tRow s.code), .sl false 2 (pRow s.mem), .sl false 3 (sRow s.stack), .sl false 2 (pRow s.out)], .cells⟩] 0 (P2 s i.1).length 2 220 (pCells (castL (P2 s i.1)))⟩) (fun i => s.mem.length - i.1) ⟨0, by omega⟩ hn0 ⟨?_, ?_⟩ ?_
  · exact Lq
  · exact Fq
  rintro ⟨i, hi⟩
  dsimp only
  have hPl := P2_le s i
  have hP0 : (P2 s 0).length ≤ (P2 s i).length := P2_mono s i
  have hCl := castL_length (P2 s i)
  have hpl := pCells_length (castL (P2 s i))
  by_cases hlt : (i : Int) < (s.mem.length : Int)
  · have hst : P2 s (i + 1) = P2 s i ++ [(1, i)] := P2_succ s i
    have hst2 : castL (P2 s (i + 1)) = castL (P2 s i) ++ [((1 : Int), (i : Int))] := by rw [hst, castL_app]; rfl
    have hst3 : (P2 s (i + 1)).length = (P2 s i).length + 1 := by rw [hst, List.length_append]; rfl
    rcases rCaseT [.ent ⟨0, none, 39, [.v (.int .i64 s.v), .v (.int .i64 s.l), .sl false 3 (tRow s.code), .sl false 2 (pRow s.mem), .sl false 3 (sRow s.stack), .sl false 2 (pRow s.out)], .cells⟩] 0 (P2 s i).length 2 220 (pCells (castL (P2 s i))) with ⟨h0, hD, hσ⟩ | ⟨j, h0, hD, hσ⟩
    · have hL0 : castL (P2 s i) = [] := List.length_eq_zero_iff.1 (by omega)
      rw [hL0, List.nil_append] at hst2
      repeat' first | (with_reducible first | refine AWP_seq' ?_ | refine k_normal ?_ | refine b_normal ?_ | refine AWP_skip ?_ | refine AWP_block ?_) | ((with_reducible refine AWP_reg fun KC J hJ hKC => ?_); simp (maxSteps := 9999999) only [push_cast, seval, ↓reduceIte, hlt, hD, hσ, wrapN (i := i) (n := s.mem.length) (by omega) (by omega)]) | ((with_reducible refine hJ _ _ ?_); clear hJ hKC KC J) | ((with_reducible refine AWP_condT ?_ ?_); · rfl)
      refine ⟨⟨i + 1, by omega⟩, by simp only; omega, [0, 2], by decide, ?_, ?_, ?_⟩
      · intro k hk
        have hk2 : k < 1 := by omega
        match k, hk2 with
        | 0, _ => rfl
      · simp only [hst3, h0, Nat.zero_add, eT, if_neg (show ¬ (1 : Nat) = 0 by omega), push_cast, mOf, idx]
        exact Lq
      · simp only [hst2, hst3, h0, Nat.zero_add, σR, if_neg (show ¬ (1 : Nat) = 0 by omega), List.replicate_zero, List.append_nil, List.cons_append, List.nil_append, pick, List.map_cons, List.map_nil, getS, renSlot, push_cast, mOf, idx]
        exact leS_refl _
    · have hpl2 : (pCells (castL (P2 s i))).length = (j + 1) * 2 := by omega
      have htC := take_len hpl2
      have hbm : Nat.beq j j = true := Nat.beq_refl j
      repeat' first | (with_reducible first | refine AWP_seq' ?_ | refine k_normal ?_ | refine b_normal ?_ | refine AWP_skip ?_ | refine AWP_block ?_) | ((with_reducible refine And.intro ?_ ?_); · exact Sq) | ((with_reducible refine AWP_reg fun KC J hJ hKC => ?_); simp (maxSteps := 9999999) only [push_cast, seval, ↓reduceIte, hlt, hD, hσ, hpl2, htC, hbm, List.replicate_zero, List.append_nil, List.cons_append, List.nil_append, wrapN (i := i) (n := s.mem.length) (by omega) (by omega)]) | ((with_reducible refine hJ _ _ ?_); clear hJ hKC KC J) | ((with_reducible refine AWP_condT ?_ ?_); · rfl)
      refine ⟨⟨i + 1, by omega⟩, by simp only; omega, [0, 1], by decide, ?_, ?_, ?_⟩
      · intro k hk
        have hk2 : k < 2 := by omega
        match k, hk2 with
        | 0, _ => rfl
        | 1, _ => rfl
      · simp only [hst3, h0, eT, if_neg (show ¬ (j + 1 + 1 : Nat) = 0 by omega), push_cast, mOf, idx, Nat.add_sub_cancel]
        exact Lq
      · simp only [hst2, hst3, h0, σR, if_neg (show ¬ (j + 1 + 1 : Nat) = 0 by omega), pCells_app, List.replicate_zero, List.append_nil, List.cons_append, List.nil_append, pick, List.map_cons, List.map_nil, getS, renSlot, List.map_append, ren_pCells, push_cast, mOf, idx, Nat.add_sub_cancel]
        exact leS_refl _
  have hin : i = s.mem.length := by omega
  subst hin
  clear hn1 hPl hP0 hCl hpl
  clear hn0
  rw [show P2 s s.mem.length = P3 s 0 by simp [P3]]
  repeat' first | (with_reducible refine hold 13 ?_) | (with_reducible first | refine AWP_seq' ?_ | refine k_normal ?_ | refine k_exit ?_ | refine b_exit ?_ | refine AWP_exit ?_) | ((with_reducible refine AWP_reg fun KC J hJ hKC => ?_); simp (maxSteps := 9999999) only [push_cast, seval, ↓reduceIte, hlt]) | ((with_reducible refine hJ _ _ ?_); clear hJ hKC KC J) | ((with_reducible refine AWP_condF ?_ ?_); · rfl)
  refine AWP_cutR ⟨[.any, .ptr 0 0 0, .any, eT (P3 s 0).length, .any, .any, .any, .any, .any, .any, .any, .any, .any, .any, .any, .any, .any, .any, .any, .any, .any, .any, .any, .any, .any, .any, .any, .any, .any, .any, .any, .any, .any, .any, .any, .any, .any, .any, .any, .any, .v (.int .i64 s.stack.length), .v (.int .i64 0), .any, .any, .any, .any, .any, .any, .any, .any, .any], σR [.ent ⟨0, none, 39, [.v (.int .i64 s.v), .v (.int .i64 s.l), .sl false 3 (tRow s.code), .sl false 2 (pRow s.mem), .sl false 3 (sRow s.stack), .sl false 2 (pRow s.out)], .cells⟩] 0 (P3 s 0).length 2 220 (pCells (castL (P3 s 0)))⟩ ?_ ?_
  · rcases rCaseT [.ent ⟨0, none, 39, [.v (.int .i64 s.v), .v (.int .i64 s.l), .sl false 3 (tRow s.code), .sl false 2 (pRow s.mem), .sl false 3 (sRow s.stack), .sl false 2 (pRow s.out)], .cells⟩] 0 (P3 s 0).length 2 220 (pCells (castL (P3 s 0))) with ⟨h0, hD, hσ⟩ | ⟨j, h0, hD, hσ⟩
    all_goals
      simp only [hD, hσ, List.replicate_zero, List.append_nil, List.cons_append, List.nil_append]
      repeat' first | ((with_reducible refine AWP_reg fun KC J hJ hKC => ?_); simp (maxSteps := 9999999) only [push_cast, seval, ↓reduceIte]) | ((with_reducible refine hJ _ _ ?_); clear hJ hKC KC J)
      (refine to_of ?_ Fq; (· exact Lq))
  repeat' first | (with_reducible refine AWP_block ?_)
  obtain ⟨nP3, hn0⟩ : ∃ n, (σR [.ent ⟨0, none, 39, [.v (.int .i64 s.v), .v (.int .i64 s.l), .sl false 3 (tRow s.code), .sl false 2 (pRow s.mem), .sl false 3 (sRow s.stack), .sl false 2 (pRow s.out)], .cells⟩] 0 (P3 s 0).length 2 220 (pCells (castL (P3 s 0)))).length = n := ⟨_, rfl⟩
  have hn1 : nP3 = 1 ∨ (nP3 = 2 ∧ 0 < (P3 s 0).length) := by
    rw [← hn0]
    rcases rCaseT [.ent ⟨0, none, 39, [.v (.int .i64 s.v), .v (.int .i64 s.l), .sl false 3 (tRow s.code), .sl false 2 (pRow s.mem), .sl false 3 (sRow s.stack), .sl false 2 (pRow s.out)], .cells⟩] 0 (P3 s 0).length 2 220 (pCells (castL (P3 s 0))) with ⟨h0, _, hσ⟩ | ⟨j, h0, _, hσ⟩
    · rw [hσ]; exact .inl rfl
    · rw [hσ]; exact .inr ⟨rfl, by omega⟩
  refine AWP_loopK nP3 (γ := {i : Nat // i ≤ s.stack.length}) (fun i => ⟨[.any, .ptr 0 0 0, .any, eT (P3 s i.1).length, .any, .any, .any, .any, .any, .any, .any, .any, .any, .any, .any, .any, .any, .any, .any, .any, .any, .any, .any, .any, .any, .any, .any, .any, .any, .any, .any, .any, .any, .any, .any, .any, .any, .any, .any, .any, .v (.int .i64 s.stack.length), .v (.int .i64 i.1), .any, .any, .any, .any, .any, .any, .any, .any, .any], σR [.ent ⟨0, none, 39, [.v (.int .i64 s.v), .v (.int .i64 s.l), .sl false 3 (tRow s.code), .sl false 2 (pRow s.mem), .sl false 3 (sRow s.stack), .sl false 2 (pRow s.out)], .cells⟩] 0 (P3 s i.1).length 2 220 (pCells (castL (P3 s i.1)))⟩) (fun i => s.stack.length - i.1) ⟨0, by omega⟩ hn0 ⟨?_, ?_⟩ ?_
  · exact Lq
  · exact Fq
  rintro ⟨i, hi⟩
  dsimp only
  have hPl := P3_le s i
  have hP0 : (P3 s 0).length ≤ (P3 s i).length := P3_mono s i
  have hCl := castL_length (P3 s i)
  have hpl := pCells_length (castL (P3 s i))
  by_cases hlt : (i : Int) < (s.stack.length : Int)
  · have hst : P3 s (i + 1) = P3 s i ++ [(2, i)] := P3_succ s i
    have hst2 : castL (P3 s (i + 1)) = castL (P3 s i) ++ [((2 : Int), (i : Int))] := by rw [hst, castL_app]; rfl
    have hst3 : (P3 s (i + 1)).length = (P3 s i).length + 1 := by rw [hst, List.length_append]; rfl
    rcases rCaseT [.ent ⟨0, none, 39, [.v (.int .i64 s.v), .v (.int .i64 s.l), .sl false 3 (tRow s.code), .sl false 2 (pRow s.mem), .sl false 3 (sRow s.stack), .sl false 2 (pRow s.out)], .cells⟩] 0 (P3 s i).length 2 220 (pCells (castL (P3 s i))) with ⟨h0, hD, hσ⟩ | ⟨j, h0, hD, hσ⟩
    · have hL0 : castL (P3 s i) = [] := List.length_eq_zero_iff.1 (by omega)
      rw [hL0, List.nil_append] at hst2
      repeat' first | (with_reducible first | refine AWP_seq' ?_ | refine k_normal ?_ | refine b_normal ?_ | refine AWP_skip ?_ | refine AWP_block ?_) | ((with_reducible refine AWP_reg fun KC J hJ hKC => ?_); simp (maxSteps := 9999999) only [push_cast, seval, ↓reduceIte, hlt, hD, hσ, wrapN (i := i) (n := s.stack.length) (by omega) (by omega)]) | ((with_reducible refine hJ _ _ ?_); clear hJ hKC KC J) | ((with_reducible refine AWP_condT ?_ ?_); · rfl)
      refine ⟨⟨i + 1, by omega⟩, by simp only; omega, [0, 2], by decide, ?_, ?_, ?_⟩
      · intro k hk
        have hk2 : k < 1 := by omega
        match k, hk2 with
        | 0, _ => rfl
      · simp only [hst3, h0, Nat.zero_add, eT, if_neg (show ¬ (1 : Nat) = 0 by omega), push_cast, mOf, idx]
        exact Lq
      · simp only [hst2, hst3, h0, Nat.zero_add, σR, if_neg (show ¬ (1 : Nat) = 0 by omega), List.replicate_zero, List.append_nil, List.cons_append, List.nil_append, pick, List.map_cons, List.map_nil, getS, renSlot, push_cast, mOf, idx]
        exact leS_refl _
    · have hpl2 : (pCells (castL (P3 s i))).length = (j + 1) * 2 := by omega
      have htC := take_len hpl2
      have hbm : Nat.beq j j = true := Nat.beq_refl j
      repeat' first | (with_reducible first | refine AWP_seq' ?_ | refine k_normal ?_ | refine b_normal ?_ | refine AWP_skip ?_ | refine AWP_block ?_) | ((with_reducible refine And.intro ?_ ?_); · exact Sq) | ((with_reducible refine AWP_reg fun KC J hJ hKC => ?_); simp (maxSteps := 9999999) only [push_cast, seval, ↓reduceIte, hlt, hD, hσ, hpl2, htC, hbm, List.replicate_zero, List.append_nil, List.cons_append, List.nil_append, wrapN (i := i) (n := s.stack.length) (by omega) (by omega)]) | ((with_reducible refine hJ _ _ ?_); clear hJ hKC KC J) | ((with_reducible refine AWP_condT ?_ ?_); · rfl)
      refine ⟨⟨i + 1, by omega⟩, by simp only; omega, [0, 1], by decide, ?_, ?_, ?_⟩
      · intro k hk
        have hk2 : k < 2 := by omega
        match k, hk2 with
        | 0, _ => rfl
        | 1, _ => rfl
      · simp only [hst3, h0, eT, if_neg (show ¬ (j + 1 + 1 : Nat) = 0 by omega), push_cast, mOf, idx, Nat.add_sub_cancel]
        exact Lq
      · simp only [hst2, hst3, h0, σR, if_neg (show ¬ (j + 1 + 1 : Nat) = 0 by omega), pCells_app, List.replicate_zero, List.append_nil, List.cons_append, List.nil_append, pick, List.map_cons, List.map_nil, getS, renSlot, List.map_append, ren_pCells, push_cast, mOf, idx, Nat.add_sub_cancel]
        exact leS_refl _
  have hin : i = s.stack.length := by omega
  subst hin
  clear hn1 hPl hP0 hCl hpl
  clear hn0
  have hpl := pCells_length (castL (P3 s s.stack.length))
  have hCl := castL_length (P3 s s.stack.length)
  have hcp := chunk_p (castL (P3 s s.stack.length))
  rw [P_places] at hpl hCl hcp ⊢
  rw [hCl] at hcp
  rcases rCaseT [.ent ⟨0, none, 39, [.v (.int .i64 s.v), .v (.int .i64 s.l), .sl false 3 (tRow s.code), .sl false 2 (pRow s.mem), .sl false 3 (sRow s.stack), .sl false 2 (pRow s.out)], .cells⟩] 0 (placesF s).length 2 220 (pCells (castL (placesF s))) with ⟨h0, hD, hσ⟩ | ⟨j, h0, hD, hσ⟩
  · have hL0 : castL (placesF s) = [] := List.length_eq_zero_iff.1 (by omega)
    rw [hL0]
    repeat' first | (with_reducible first | refine AWP_seq' ?_ | refine k_normal ?_ | refine k_exit ?_ | refine b_exit ?_ | refine AWP_ret ?_ | refine AWP_exit ?_) | ((with_reducible refine AWP_reg fun KC J hJ hKC => ?_); simp (maxSteps := 9999999) only [push_cast, seval, ↓reduceIte, hlt, hD, hσ]) | ((with_reducible refine hJ _ _ ?_); clear hJ hKC KC J) | ((with_reducible refine AWP_condF ?_ ?_); · rfl)
    refine ret_plain ?_
    simp (maxSteps := 9999999) only [push_cast, seval, ↓reduceIte, show Tryz.f161.results = #[(.tmp 2)] from rfl]
    exact leD_refl _
  · have hpl2 : (pCells (castL (placesF s))).length = (j + 1) * 2 := by omega
    have hbm : Nat.beq j j = true := Nat.beq_refl j
    rw [h0] at hcp
    rw [decide_eq_false (show castL (placesF s) ≠ [] from fun h => by rw [h] at hCl; simp at hCl; omega)]
    repeat' first | (refine AWP_freezeR 18 1 rfl (by (simp (maxSteps := 9999999) only [push_cast, seval, ↓reduceIte]) <;> rfl) ?_; simp (maxSteps := 9999999) only [push_cast, seval, ↓reduceIte, frSt, frSlot, fr3, fr2, fr1, fr0, sameB, arrOf, hlt, hD, hσ, hpl2, hcp, hbm, List.replicate_zero, List.append_nil, List.cons_append, List.nil_append]) | (with_reducible first | refine AWP_seq' ?_ | refine k_normal ?_ | refine k_exit ?_ | refine b_exit ?_ | refine AWP_ret ?_ | refine AWP_exit ?_) | ((with_reducible refine AWP_reg fun KC J hJ hKC => ?_); simp (maxSteps := 9999999) only [push_cast, seval, ↓reduceIte, hlt, hD, hσ, hpl2, hcp, hbm, List.replicate_zero, List.append_nil, List.cons_append, List.nil_append]) | ((with_reducible refine hJ _ _ ?_); clear hJ hKC KC J) | ((with_reducible refine AWP_condF ?_ ?_); · rfl)
    refine ret_plain ?_
    simp (maxSteps := 9999999) only [push_cast, seval, ↓reduceIte, show Tryz.f161.results = #[(.tmp 2)] from rfl]
    exact Lq
theorem rmSame_fn (a b : Sta × Sta) (a1 : Sml15 a.1) (a2 : Sml15 a.2) (b1 : Sml15 b.1) (b2 : Sml15 b.2) : Fn Tryz.prog 28 [.agg (encT a.1 a.2), .agg (encT b.1 b.2)] [] (.v (.bool (sameT a.1 b.1 && sameT a.2 b.2))) [] := by
  have h1 := rSame9_fn a.1 b.1 a1 b1
  have h2 := rSame9_fn a.2 b.2 a2 b2
  obtain ⟨p, hp⟩ : ∃ p, sameT a.1 b.1 = p := ⟨_, rfl⟩
  obtain ⟨q, hq⟩ : ∃ p, sameT a.2 b.2 = p := ⟨_, rfl⟩
  rw [hp] at h1
  rw [hq] at h2
  rw [hp, hq]
  simp only [encT, staF, List.cons_append, List.nil_append] at h1 h2 ⊢
  cases p <;> cases q
  all_goals
    refine Fn.of (fn := Tryz.f28) (by kernel_rfl) rfl (by kernel_rfl) ⟨[.agg [.v (.int .i64 a.1.v), .v (.int .i64 a.1.l), .sl false 3 (tRow a.1.code), .sl false 2 (pRow a.1.mem), .sl false 3 (sRow a.1.stack), .sl false 2 (pRow a.1.out), .v (.int .i64 a.2.v), .v (.int .i64 a.2.l), .sl false 3 (tRow a.2.code), .sl false 2 (pRow a.2.mem), .sl false 3 (sRow a.2.stack), .sl false 2 (pRow a.2.out)], .agg [.v (.int .i64 b.1.v), .v (.int .i64 b.1.l), .sl false 3 (tRow b.1.code), .sl false 2 (pRow b.1.mem), .sl false 3 (sRow b.1.stack), .sl false 2 (pRow b.1.out), .v (.int .i64 b.2.v), .v (.int .i64 b.2.l), .sl false 3 (tRow b.2.code), .sl false 2 (pRow b.2.mem), .sl false 3 (sRow b.2.stack), .sl false 2 (pRow b.2.out)], .v undef, .v undef, .v undef, .v undef, .v undef, .v undef, .v undef, .v undef, .v undef, .v undef, .v undef, .v undef, .v undef, .v undef, .v undef], []⟩ rfl ?_
    repeat' first | (with_reducible first | refine AWP_seq' ?_ | refine k_normal ?_ | refine AWP_ret ?_) | ((first | with_reducible refine AWP_reg fun KC J hJ hKC => ?_ | (refine hKC _ _ _ _ _ (callV0 (h1) rfl rfl rfl ?_ ?_); (· exact Lq)) | (refine hKC _ _ _ _ _ (callV0 (h2) rfl rfl rfl ?_ ?_); (· exact Lq))); simp (maxSteps := 9999999) only [push_cast, seval, ↓reduceIte, undef]) | ((with_reducible refine hJ _ _ ?_); clear hJ hKC KC J)
    refine ret_plain ?_
    simp (maxSteps := 9999999) only [push_cast, seval, ↓reduceIte, show Tryz.f28.results = #[(.tmp 4)] from rfl]
    exact Lq
def toldF (R : List (Sta × Sta)) (x y : Sta × Sta) : List (Sta × Sta) := if (sameT x.1 y.1 && sameT x.2 y.2) = true then R else R ++ [y]
theorem isNilL_two {R : List (Sta × Sta)} (h : R ≠ []) : isNilL (twoRow R) = false := by
  cases R with
  | nil => exact absurd rfl h
  | cons _ _ => rfl
theorem rmTold_fn (R : List (Sta × Sta)) (hR : R.length ≤ 1000) (a b : Sta × Sta) (a1 : Sml15 a.1) (a2 : Sml15 a.2) (b1 : Sml15 b.1) (b2 : Sml15 b.2) : Fn Tryz.prog 66 [.sl false 12 (twoRow R), .agg (encT a.1 a.2), .agg (encT b.1 b.2)] [] (.sl false 12 (twoRow (toldF R a b))) [] := by
  have h1 := rmSame_fn a b a1 a2 b1 b2
  unfold toldF
  obtain ⟨p, hp⟩ : ∃ p, (sameT a.1 b.1 && sameT a.2 b.2) = p := ⟨_, rfl⟩
  rw [hp] at h1 ⊢
  simp only [encT, staF, List.cons_append, List.nil_append] at h1 ⊢
  cases p
  case true =>
    rw [if_pos rfl]
    refine Fn.of (fn := Tryz.f66) (by kernel_rfl) rfl (by kernel_rfl) ⟨[.sl false 12 (twoRow R), .agg [.v (.int .i64 a.1.v), .v (.int .i64 a.1.l), .sl false 3 (tRow a.1.code), .sl false 2 (pRow a.1.mem), .sl false 3 (sRow a.1.stack), .sl false 2 (pRow a.1.out), .v (.int .i64 a.2.v), .v (.int .i64 a.2.l), .sl false 3 (tRow a.2.code), .sl false 2 (pRow a.2.mem), .sl false 3 (sRow a.2.stack), .sl false 2 (pRow a.2.out)], .agg [.v (.int .i64 b.1.v), .v (.int .i64 b.1.l), .sl false 3 (tRow b.1.code), .sl false 2 (pRow b.1.mem), .sl false 3 (sRow b.1.stack), .sl false 2 (pRow b.1.out), .v (.int .i64 b.2.v), .v (.int .i64 b.2.l), .sl false 3 (tRow b.2.code), .sl false 2 (pRow b.2.mem), .sl false 3 (sRow b.2.stack), .sl false 2 (pRow b.2.out)], .v undef, .v undef, .v undef, .v undef, .v undef, .v undef, .v undef, .v undef, .v undef, .v undef, .v undef, .v undef, .v undef, .v undef, .v undef, .v undef, .v undef, .v undef], []⟩ rfl ?_
    repeat' first | (with_reducible first | refine AWP_seq' ?_ | refine k_normal ?_ | refine k_ret ?_ | refine AWP_ret ?_) | ((first | with_reducible refine AWP_reg fun KC J hJ hKC => ?_ | (refine hKC _ _ _ _ _ (callV0 (h1) rfl rfl rfl ?_ ?_); (· exact Lq))); simp (maxSteps := 9999999) only [push_cast, seval, ↓reduceIte]) | ((with_reducible refine hJ _ _ ?_); clear hJ hKC KC J) | ((with_reducible refine AWP_condT ?_ ?_); · rfl)
    refine ret_plain ?_
    simp (maxSteps := 9999999) only [push_cast, seval, ↓reduceIte, show Tryz.f66.results = #[(.tmp 6)] from rfl]
    exact Lq
  case false =>
    rw [if_neg (by simp)]
    by_cases hne : R = []
    · subst hne
      simp only [List.nil_append, show twoRow [] = [] from rfl]
      refine Fn.of (fn := Tryz.f66) (by kernel_rfl) rfl (by kernel_rfl) ⟨[.sl false 12 [], .agg [.v (.int .i64 a.1.v), .v (.int .i64 a.1.l), .sl false 3 (tRow a.1.code), .sl false 2 (pRow a.1.mem), .sl false 3 (sRow a.1.stack), .sl false 2 (pRow a.1.out), .v (.int .i64 a.2.v), .v (.int .i64 a.2.l), .sl false 3 (tRow a.2.code), .sl false 2 (pRow a.2.mem), .sl false 3 (sRow a.2.stack), .sl false 2 (pRow a.2.out)], .agg [.v (.int .i64 b.1.v), .v (.int .i64 b.1.l), .sl false 3 (tRow b.1.code), .sl false 2 (pRow b.1.mem), .sl false 3 (sRow b.1.stack), .sl false 2 (pRow b.1.out), .v (.int .i64 b.2.v), .v (.int .i64 b.2.l), .sl false 3 (tRow b.2.code), .sl false 2 (pRow b.2.mem), .sl false 3 (sRow b.2.stack), .sl false 2 (pRow b.2.out)], .v undef, .v undef, .v undef, .v undef, .v undef, .v undef, .v undef, .v undef, .v undef, .v undef, .v undef, .v undef, .v undef, .v undef, .v undef, .v undef, .v undef, .v undef], []⟩ rfl ?_
      repeat' first | (refine AWP_freezeR 6 6 rfl (by (simp (maxSteps := 9999999) only [push_cast, seval, ↓reduceIte]) <;> rfl) ?_; simp (maxSteps := 9999999) only [push_cast, seval, ↓reduceIte, frSt, frSlot, fr3, fr2, fr1, fr0, sameB, arrOf]) | (with_reducible first | refine AWP_seq' ?_ | refine k_normal ?_ | refine AWP_ret ?_ | refine AWP_skip ?_) | ((first | with_reducible refine AWP_reg fun KC J hJ hKC => ?_ | (refine hKC _ _ _ _ _ (callV0 (h1) rfl rfl rfl ?_ ?_); (· exact Lq))); simp (maxSteps := 9999999) only [push_cast, seval, ↓reduceIte]) | ((with_reducible refine hJ _ _ ?_); clear hJ hKC KC J) | ((with_reducible refine AWP_condF ?_ ?_); · rfl)
      refine ret_plain ?_
      simp (maxSteps := 9999999) only [push_cast, seval, ↓reduceIte, show Tryz.f66.results = #[(.tmp 6)] from rfl]
      exact leD_refl _
    · have hnl := isNilL_two hne
      have hfl : (twoRow R).flatten = twoCells R := rfl
      have hrl : (twoRow R).length = R.length := by simp [twoRow]
      obtain ⟨n, hn⟩ : ∃ n, R.length = n := ⟨_, rfl⟩
      rw [hn] at hrl hR
      have hlC : (twoCells R).length = n * 12 := by rw [twoCells_length, hn]
      have htC := take_len hlC
      have hL1 : twoCells (R ++ [b]) = twoCells R ++ [.v (.int .i64 b.1.v), .v (.int .i64 b.1.l), .sl false 3 (tRow b.1.code), .sl false 2 (pRow b.1.mem), .sl false 3 (sRow b.1.stack), .sl false 2 (pRow b.1.out), .v (.int .i64 b.2.v), .v (.int .i64 b.2.l), .sl false 3 (tRow b.2.code), .sl false 2 (pRow b.2.mem), .sl false 3 (sRow b.2.stack), .sl false 2 (pRow b.2.out)] := by rw [twoCells_app]; rfl
      have hL2 : (twoCells (R ++ [b])).length = (n + 1) * 12 := by rw [twoCells_length, List.length_append, hn]; rfl
      have hcp : chunk 12 (n + 1) (twoCells (R ++ [b])) = twoRow (R ++ [b]) := by
        have := chunk_two (R ++ [b])
        rw [List.length_append, hn] at this
        exact this
      rw [hL1] at hcp hL2
      refine Fn.of (fn := Tryz.f66) (by kernel_rfl) rfl (by kernel_rfl) ⟨[.sl false 12 (twoRow R), .agg [.v (.int .i64 a.1.v), .v (.int .i64 a.1.l), .sl false 3 (tRow a.1.code), .sl false 2 (pRow a.1.mem), .sl false 3 (sRow a.1.stack), .sl false 2 (pRow a.1.out), .v (.int .i64 a.2.v), .v (.int .i64 a.2.l), .sl false 3 (tRow a.2.code), .sl false 2 (pRow a.2.mem), .sl false 3 (sRow a.2.stack), .sl false 2 (pRow a.2.out)], .agg [.v (.int .i64 b.1.v), .v (.int .i64 b.1.l), .sl false 3 (tRow b.1.code), .sl false 2 (pRow b.1.mem), .sl false 3 (sRow b.1.stack), .sl false 2 (pRow b.1.out), .v (.int .i64 b.2.v), .v (.int .i64 b.2.l), .sl false 3 (tRow b.2.code), .sl false 2 (pRow b.2.mem), .sl false 3 (sRow b.2.stack), .sl false 2 (pRow b.2.out)], .v undef, .v undef, .v undef, .v undef, .v undef, .v undef, .v undef, .v undef, .v undef, .v undef, .v undef, .v undef, .v undef, .v undef, .v undef, .v undef, .v undef, .v undef], []⟩ rfl ?_
      repeat' first | (refine AWP_freezeR 6 4 rfl (by (simp (maxSteps := 9999999) only [push_cast, seval, ↓reduceIte]) <;> rfl) ?_; simp (maxSteps := 9999999) only [push_cast, seval, ↓reduceIte, frSt, frSlot, fr3, fr2, fr1, fr0, sameB, arrOf, hnl, hfl, hrl, hlC, htC, hL2, hcp, Nat.zero_add]) | (with_reducible first | refine AWP_seq' ?_ | refine k_normal ?_ | refine AWP_ret ?_ | refine AWP_skip ?_) | ((with_reducible refine And.intro ?_ ?_); · exact Sq) | ((first | with_reducible refine AWP_reg fun KC J hJ hKC => ?_ | (refine hKC _ _ _ _ _ (callV0 (h1) rfl rfl rfl ?_ ?_); (· exact Lq))); simp (maxSteps := 9999999) only [push_cast, seval, ↓reduceIte, hnl, hfl, hrl, hlC, htC, hL2, hcp, Nat.zero_add]) | ((with_reducible refine hJ _ _ ?_); clear hJ hKC KC J) | ((with_reducible refine AWP_condF ?_ ?_); · rfl)
      refine ret_plain ?_
      simp (maxSteps := 9999999) only [push_cast, seval, ↓reduceIte, show Tryz.f66.results = #[(.tmp 6)] from rfl]
      exact Lq
theorem bot_unique {us : List Nat} (ho : Ord us) {a b : Nat} (ha : a < us.length) (hb : b < us.length) (h1 : ∀ c, c < us.length → fl us a c = true) (h2 : ∀ c, c < us.length → fl us b c = true) : a = b := by
  by_cases h : a = b
  · exact h
  · exact absurd ⟨h1 b hb, h2 a ha⟩ (ho.2.1 a ha b hb h)
theorem rBottom_fn (f g : Bool) (ns : List ByteArray) (us : List Nat) (hu : U32 us) (hc : checkF ns us = 0) :
    Fn Tryz.prog 163 [.agg [.sl f 1 (strRow ns), .sl g 1 (u32Row us)]] [] (.v (.int .i64 (botI us))) [] := by
  obtain ⟨hm, ho, hL⟩ := checkF_three hc
  have hlw := low_of_may hm
  have h8 := (mayB_get hm).1
  obtain ⟨bt, hbt, hbl, hba⟩ := botI_spec hc
  refine Fn.of (fn := Tryz.f163) (by kernel_rfl) rfl (by kernel_rfl) ⟨[.agg [.sl f 1 (strRow ns), .sl g 1 (u32Row us)], .v undef, .v undef, .v undef, .v undef, .v undef, .v undef, .v undef, .v undef, .v undef, .v undef, .v undef, .v undef, .v undef, .v undef, .v undef, .v undef], []⟩ rfl ?_
  repeat' first | (with_reducible first | refine AWP_seq' ?_ | refine k_normal ?_ | refine AWP_block ?_) | ((with_reducible refine AWP_reg fun KC J hJ hKC => ?_); simp (maxSteps := 9999999) only [push_cast, seval, ↓reduceIte]) | ((with_reducible refine hJ _ _ ?_); clear hJ hKC KC J)
  refine AWP_loopF (γ := {i : Nat × Nat // i.1 ≤ us.length ∧ i.2 < us.length ∧ ∀ a, a < i.1 → fl us i.2 a = true}) (fun i => ⟨[.any, .ptr 0 0 0, .any, .v (.int .i64 (i.1.2 : Int)), .any, .any, .any, .v (.int .i64 us.length), .v (.int .i64 (i.1.1 : Int)), .any, .any, .any, .any, .any, .any, .any, .any], [.ent ⟨0, none, 25, [.sl f 1 (strRow ns), .sl g 1 (u32Row us)], .cells⟩]⟩) (fun i => us.length - i.1.1) ⟨(0, 0), by simp, by simp only; omega, fun a h => by simp at h⟩ ⟨?_, Fq⟩ ?_
  · exact Lq
  rintro ⟨⟨i, m⟩, hi, hml, hma⟩
  simp only at hi hml hma
  by_cases hlt : (i : Int) < (us.length : Int)
  · have hme := rMeet_fn f g ns us m i hu hlw ho h8.2.1 hml (by omega)
    have hpos := (hL m hml i (by omega)).2
    rcases idxF_casesR (fun q => decide (downN us q us.length = (downN us m us.length &&& downN us i us.length))) (List.range us.length) with ⟨h, _⟩ | ⟨c, hce, hcl, hp, _⟩
    · rw [meetI, h] at hpos; omega
    · rw [List.getElem_range] at hp
      rw [List.length_range] at hcl
      have hcj : isM us m i c := (isM_iff ho hml (by omega) hcl).2 (by simpa using hp)
      rw [show meetI us m i = (c : Int) from hce] at hme
      repeat' first | (with_reducible first | refine AWP_seq' ?_ | refine k_normal ?_ | refine b_normal ?_ | refine AWP_skip ?_ | refine AWP_block ?_) | ((first | with_reducible refine AWP_reg fun KC J hJ hKC => ?_ | (refine hKC _ _ _ _ _ (callV0 (hme) rfl rfl rfl ?_ ?_); (· exact Lq))); simp (maxSteps := 9999999) only [push_cast, seval, ↓reduceIte, hlt, wrapN (i := i) (n := us.length) (by omega) (by omega)]) | ((with_reducible refine hJ _ _ ?_); clear hJ hKC KC J) | ((with_reducible refine AWP_condT ?_ ?_); · rfl)
      refine ⟨⟨(i + 1, c), by simp only; omega, hcl, fun a ha => ?_⟩, by simp only; omega, ?_, Fq⟩
      · by_cases he : a = i
        · subst he; exact hcj.1.2
        · exact ho.2.2 c hcl m hml a (by omega) hcj.1.1 (hma a (by simp only at ha; omega))
      · exact Lq
  · have hin : i = us.length := by omega
    subst hin
    have hmb := bot_unique ho hml hbl hma hba
    subst hmb
    rw [hbt]
    repeat' first | (with_reducible first | refine AWP_seq' ?_ | refine k_normal ?_ | refine k_exit ?_ | refine b_exit ?_ | refine AWP_ret ?_ | refine AWP_exit ?_) | ((with_reducible refine AWP_reg fun KC J hJ hKC => ?_); simp (maxSteps := 9999999) only [push_cast, seval, ↓reduceIte, hlt]) | ((with_reducible refine hJ _ _ ?_); clear hJ hKC KC J) | ((with_reducible refine AWP_condF ?_ ?_); · rfl)
    refine ret_plain ?_
    simp (maxSteps := 9999999) only [push_cast, seval, ↓reduceIte, show Tryz.f163.results = #[(.tmp 2)] from rfl]
    exact Lq
end Go.Proofs.YtabliglgeiajlaaGreat.AM
