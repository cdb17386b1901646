/- Walks and plain laws, put together: part 3. -/
import Derived.Test.YtabliglgeiajlaaGreatMovesMeasureG0
import Derived.Test.YtabliglgeiajlaaGreatMovesMeasureG2
import Derived.Test.YtabliglgeiajlaaGreatMovesMeasureG1
import Derived.Test.YtabliglgeiajlaaGreatMc
set_option linter.unusedSimpArgs false
set_option linter.unusedVariables false
/- Lattices cut short. -/
namespace Go.Proofs.YtabliglgeiajlaaGreat.AM
open Go Go.RowKit Go.Proofs
set_option maxRecDepth 100000
set_option maxHeartbeats 1000000

theorem take_minL {α : Type} {K : Int} {k : Nat} (h : K = k) (l : List α) : l.take (if K < (l.length : Int) then K else (l.length : Int)).toNat = l.take k := by
  subst h
  split
  · simp
  · rw [Int.toNat_natCast, List.take_length, List.take_of_length_le (by omega)]
def cutS (s : ByteArray) : ByteArray := s.extract 0 (if (15 : Int) < (s.size : Int) then 15 else (s.size : Int)).toNat
def fewL (xs : List ByteArray) (i : Nat) : List ByteArray := (xs.take i).map cutS
theorem fewL_length {xs : List ByteArray} {i : Nat} (h : i ≤ xs.length) : (fewL xs i).length = i := by simp [fewL]; omega
theorem fewL_succ {xs : List ByteArray} {i : Nat} {a : ByteArray} (h : xs[i]? = some a) : fewL xs (i + 1) = fewL xs i ++ [cutS a] := by
  obtain ⟨hi, rfl⟩ := List.getElem?_eq_some_iff.1 h
  rw [fewL, List.take_succ_eq_append_getElem hi, List.map_append]; rfl
def fσ (e1 e2 : Ent) (u : D) (xs : List ByteArray) : Nat → List Slot
  | 0 => [.ent e1, .ent e2, .ent ⟨0, none, 25, [.v (.slice none 0 0), u], .cells⟩]
  | i + 1 => [.ent e1, .ent e2, .ent ⟨0, none, 25, [.ref 4 i (i + 1), u], .cells⟩, .free, .ent ⟨i, some 1, 9, cellS (fewL xs (i + 1)), .cells⟩]
section
variable (e1 e2 : Ent) (u : D) (xs : List ByteArray)
theorem fσ_zero : fσ e1 e2 u xs 0 = [.ent e1, .ent e2, .ent ⟨0, none, 25, [.v (.slice none 0 0), u], .cells⟩] := rfl
theorem fσ_pos {i j : Nat} (h : i = j + 1) : fσ e1 e2 u xs i = [.ent e1, .ent e2, .ent ⟨0, none, 25, [.ref 4 j i, u], .cells⟩, .free, .ent ⟨j, some 1, 9, cellS (fewL xs i), .cells⟩] := by subst h; rfl
theorem fσ_one {a : ByteArray} (h : xs[0]? = some a) : fσ e1 e2 u xs (0 + 1) = [.ent e1, .ent e2, .ent ⟨0, none, 25, [.ref 4 0 1, u], .cells⟩, .free, .ent ⟨0, some 1, 9, [.v (.string (cutS a))], .cells⟩] := by
  rw [fσ_pos e1 e2 u xs rfl, fewL_succ h]; rfl
theorem fσ_succ {i j : Nat} (h : i = j + 1) {a : ByteArray} (hx : xs[i]? = some a) : fσ e1 e2 u xs (i + 1) = [.ent e1, .ent e2, .ent ⟨0, none, 25, [.ref 4 (j + 1) (i + 1), u], .cells⟩, .free, .ent ⟨j + 1, some 1, 9, cellS (fewL xs i) ++ [.v (.string (cutS a))], .cells⟩] := by
  rw [fσ_pos e1 e2 u xs rfl, fewL_succ hx, h]; simp [cellS]
end
theorem cutS_size (s : ByteArray) : (cutS s).size ≤ 9223372036854775807 := by
  unfold cutS
  rw [ByteArray.size_extract]
  split <;> omega
theorem szs_few (ns : List ByteArray) : Szs ((ns.take 10).map cutS) := by
  intro s hs
  obtain ⟨x, _, rfl⟩ := List.mem_map.1 hs
  exact cutS_size x
end Go.Proofs.YtabliglgeiajlaaGreat.AM

/- Law 21: what it cuts; that it is alive. -/
namespace Go.Proofs.YtabliglgeiajlaaGreat.AM
open Go Go.RowKit Go.Proofs
set_option maxRecDepth 100000
set_option maxHeartbeats 4000000

theorem few21_fn (f g : Bool) (ns : List ByteArray) (us : List Nat) :
    Fn Tryz.prog 22 [.agg [.sl f 1 (strRow ns), .sl g 1 (u32Row us)]] [] (.agg [.sl false 1 (strRow ((ns.take 10).map cutS)), .sl false 1 (u32Row (us.take 10))]) [] := by
  refine Fn.of (fn := Tryz.f22) (by kernel_rfl) rfl (by kernel_rfl) ⟨[.agg [.sl f 1 (strRow ns), .sl g 1 (u32Row us)], .v undef, .v undef, .v undef, .v undef, .v undef, .v undef, .v undef, .v undef, .v undef, .v undef, .v undef, .v undef, .v undef, .v undef, .v undef, .v undef, .v undef, .v undef, .v undef, .v undef, .v undef, .v undef, .v undef, .v undef, .v undef, .v undef, .v undef, .v undef, .v undef, .v undef, .v undef, .v undef, .v undef, .v undef, .v undef, .v undef, .v undef], []⟩ rfl ?_
  repeat' first | (with_reducible first | refine AWP_seq' ?_ | refine k_normal ?_ | refine AWP_block ?_) | ((with_reducible refine And.intro ?_ ?_); · exact Sq) | ((with_reducible refine AWP_reg fun KC J hJ hKC => ?_); simp (maxSteps := 10000000) only [push_cast, seval, ↓reduceIte, take_minL (K := 10) (k := 10) rfl ns, take_minL (K := 10) (k := 10) rfl us]) | ((with_reducible refine hJ _ _ ?_); clear hJ hKC KC J)
  obtain ⟨xs, hxs⟩ : ∃ xs, ns.take 10 = xs := ⟨_, rfl⟩
  have hx10 : xs.length ≤ 10 := by rw [← hxs]; simp; omega
  rw [hxs]
  refine AWP_loopF (γ := {i : Nat // i ≤ xs.length}) (fun i => ⟨[.any, .ptr 0 0 0, .ptr 1 0 0, .ptr 2 0 0, .any, .any, .any, .any, .any, .any, .any, .any, .any, .any, .any, .any, .any, .any, .any, .any, .sl false 1 (strRow xs), .v (.int .i64 xs.length), .v (.int .i64 i.1), .any, .any, .any, .any, .any, .any, .any, .any, .any, .any, .any, .any, .any, .any, .any], fσ ⟨0, none, 25, [.sl f 1 (strRow ns), .sl g 1 (u32Row us)], .cells⟩ ⟨0, none, 25, [.v (.slice none 0 0), .v (.slice none 0 0)], .cells⟩ (.sl false 1 (u32Row (us.take 10))) xs i.1⟩) (fun i => xs.length - i.1) ⟨0, by simp⟩ ⟨?_, ?_⟩ ?_
  · exact Lq
  · simp only [fσ]
    exact Fq
  rintro ⟨i, hi⟩
  obtain ⟨e1, he1⟩ : ∃ e1 : Ent, ⟨0, none, 25, [.sl f 1 (strRow ns), .sl g 1 (u32Row us)], .cells⟩ = e1 := ⟨_, rfl⟩
  rw [he1]
  by_cases hlt : (i : Int) < (xs.length : Int)
  · have hx : xs[i]? = some xs[i] := List.getElem?_eq_getElem (by omega)
    obtain ⟨a, ha⟩ : ∃ a, xs[i] = a := ⟨_, rfl⟩
    rw [ha] at hx
    have hcut : a.extract 0 (if (15 : Int) < (a.size : Int) then 15 else (a.size : Int)).toNat = cutS a := rfl
    rcases Nat.eq_zero_or_pos i with rfl | hpos
    · have hσ := fσ_zero e1 ⟨0, none, 25, [.v (.slice none 0 0), .v (.slice none 0 0)], .cells⟩ (.sl false 1 (u32Row (us.take 10))) xs
      have hσ1 := fσ_one e1 ⟨0, none, 25, [.v (.slice none 0 0), .v (.slice none 0 0)], .cells⟩ (.sl false 1 (u32Row (us.take 10))) xs hx
      have hlt0 : (0 : Int) < xs.length := hlt
      repeat' first | (with_reducible first | refine AWP_seq' ?_ | refine k_normal ?_ | refine b_normal ?_ | refine AWP_skip ?_ | refine AWP_block ?_) | ((with_reducible refine And.intro ?_ ?_); · exact Sq) | ((first | with_reducible refine AWP_reg fun KC J hJ hKC => ?_ | with_reducible refine AWP_regD rfl fun KC J hJ hKC => ?_); simp (maxSteps := 10000000) only [push_cast, seval, ↓reduceIte, hlt0, hσ, getE_str hx, hcut]) | ((first | with_reducible refine hJ _ _ ?_ | (with_reducible refine hJ _ _ ?_ ?_; · kernel_rfl)); clear hJ hKC KC J) | ((with_reducible refine AWP_condT ?_ ?_); · rfl)
      refine ⟨⟨0 + 1, by omega⟩, by simp only; omega, ?_, ?_⟩
      · exact Lq
      · simp only [hσ1]
        exact Fq
    · obtain ⟨i', hi'⟩ : ∃ i', i = i' + 1 := ⟨i - 1, by omega⟩
      have hσ := fσ_pos e1 ⟨0, none, 25, [.v (.slice none 0 0), .v (.slice none 0 0)], .cells⟩ (.sl false 1 (u32Row (us.take 10))) xs hi'
      have hσ1 := fσ_succ e1 ⟨0, none, 25, [.v (.slice none 0 0), .v (.slice none 0 0)], .cells⟩ (.sl false 1 (u32Row (us.take 10))) xs hi' hx
      have hlS : (cellS (fewL xs i)).length = i := by simp [cellS, fewL_length hi]
      have htS := take_of hlS
      have htS' : (cellS (fewL xs i)).take i = cellS (fewL xs i) := List.take_of_length_le (by omega)
      have hbq : Nat.beq i' i' = true := Nat.beq_refl i'
      repeat' first | (with_reducible first | refine AWP_seq' ?_ | refine k_normal ?_ | refine b_normal ?_ | refine AWP_skip ?_ | refine AWP_block ?_) | ((with_reducible refine And.intro ?_ ?_); · exact Sq) | ((first | with_reducible refine AWP_reg fun KC J hJ hKC => ?_ | with_reducible refine AWP_regD rfl fun KC J hJ hKC => ?_); simp (maxSteps := 10000000) only [push_cast, seval, ↓reduceIte, hlt, hσ, getE_str hx, hcut, hbq, hlS, htS, htS', wrapN (i := i) (n := xs.length) (by omega) (by omega)]) | ((first | with_reducible refine hJ _ _ ?_ | (with_reducible refine hJ _ _ ?_ ?_; · kernel_rfl)); clear hJ hKC KC J) | ((with_reducible refine AWP_condT ?_ ?_); · rfl)
      refine ⟨⟨i + 1, by omega⟩, by simp only; omega, ?_, ?_⟩
      · exact Lq
      · simp only [hσ1]
        exact Fq
  · have hix : i = xs.length := by omega
    have hfin : fewL xs i = xs.map cutS := by rw [fewL, hix, List.take_length]
    rcases Nat.eq_zero_or_pos i with rfl | hpos
    · have hσ := fσ_zero e1 ⟨0, none, 25, [.v (.slice none 0 0), .v (.slice none 0 0)], .cells⟩ (.sl false 1 (u32Row (us.take 10))) xs
      have hlt0 : ¬ (0 : Int) < xs.length := hlt
      repeat' first | (with_reducible first | refine AWP_seq' ?_ | refine k_normal ?_ | refine k_exit ?_ | refine b_exit ?_ | refine AWP_ret ?_ | refine AWP_exit ?_) | ((with_reducible refine AWP_reg fun KC J hJ hKC => ?_); simp (maxSteps := 10000000) only [push_cast, seval, ↓reduceIte, hlt0, hσ]) | ((with_reducible refine hJ _ _ ?_); clear hJ hKC KC J) | ((with_reducible refine AWP_condF ?_ ?_); · rfl)
      refine ret_plain ?_
      simp (maxSteps := 10000000) only [push_cast, seval, ↓reduceIte, show Tryz.f22.results = #[(.cell 2 25)] from rfl]
      rw [← hfin]
      exact Lq
    · obtain ⟨i', hi'⟩ : ∃ i', i = i' + 1 := ⟨i - 1, by omega⟩
      have hσ := fσ_pos e1 ⟨0, none, 25, [.v (.slice none 0 0), .v (.slice none 0 0)], .cells⟩ (.sl false 1 (u32Row (us.take 10))) xs hi'
      have hbq : Nat.beq i' i' = true := Nat.beq_refl i'
      have hlS : (cellS (fewL xs i)).length = i := by simp [cellS, fewL_length hi]
      have hcS : chunk 1 i (cellS (fewL xs i)) = strRow (fewL xs i) := by
        have := chunk_one (fun s : ByteArray => (.v (.string s) : D)) (fewL xs i)
        rw [fewL_length hi] at this; exact this
      subst he1
      repeat' first | (with_reducible first | refine AWP_seq' ?_ | refine k_normal ?_ | refine k_exit ?_ | refine b_exit ?_ | refine AWP_exit ?_) | ((with_reducible refine AWP_reg fun KC J hJ hKC => ?_); simp (maxSteps := 10000000) only [push_cast, seval, ↓reduceIte, hlt, hσ]) | ((with_reducible refine hJ _ _ ?_); clear hJ hKC KC J) | ((with_reducible refine AWP_condF ?_ ?_); · rfl)
      refine AWP_freeze 4 rfl (by simp (maxSteps := 10000000) only [push_cast, seval, ↓reduceIte]) ?_
      simp (maxSteps := 10000000) only [push_cast, seval, ↓reduceIte, frSt, frSlot, fr3, fr2, fr1, fr0, sameB, arrOf, hbq, hlS, hcS]
      refine AWP_ret ?_
      refine ret_plain ?_
      simp (maxSteps := 10000000) only [push_cast, seval, ↓reduceIte, show Tryz.f22.results = #[(.cell 2 25)] from rfl]
      rw [← hfin]
      exact Lq
/-- A state cut short. -/
theorem cut21_fn (fc fm fs fo : Bool) (s : Sta) : Fn Tryz.prog 23 [.agg (staF fc fm fs fo s)] [] (.agg (staF false false false false (cutSta s))) [] := by
  obtain ⟨v, l, code, mem, stack, out⟩ := s
  simp only [staF, cutSta]
  refine Fn.of (fn := Tryz.f23) (by kernel_rfl) rfl (by kernel_rfl) ⟨[.agg [.v (.int .i64 v), .v (.int .i64 l), .sl fc 3 (tRow code), .sl fm 2 (pRow mem), .sl fs 3 (sRow stack), .sl fo 2 (pRow out)], .v undef, .v undef, .v undef, .v undef, .v undef, .v undef, .v undef, .v undef, .v undef, .v undef, .v undef, .v undef, .v undef, .v undef, .v undef, .v undef, .v undef, .v undef, .v undef, .v undef, .v undef, .v undef, .v undef, .v undef, .v undef, .v undef, .v undef, .v undef, .v undef, .v undef, .v undef, .v undef, .v undef, .v undef, .v undef], []⟩ rfl ?_
  repeat' first | (with_reducible first | refine AWP_seq' ?_ | refine k_normal ?_ | refine AWP_ret ?_) | ((with_reducible refine And.intro ?_ ?_); · exact Sq) | ((first | with_reducible refine AWP_reg fun KC J hJ hKC => ?_ | with_reducible refine AWP_regD rfl fun KC J hJ hKC => ?_); simp (maxSteps := 10000000) only [push_cast, seval, ↓reduceIte, take_minL (K := 15) (k := 15) rfl code, take_minL (K := 15) (k := 15) rfl mem, take_minL (K := 15) (k := 15) rfl stack, take_minL (K := 15) (k := 15) rfl out]) | ((first | with_reducible refine hJ _ _ ?_ | (with_reducible refine hJ _ _ ?_ ?_; · kernel_rfl)); clear hJ hKC KC J)
  refine ret_plain ?_
  simp (maxSteps := 10000000) only [push_cast, seval, ↓reduceIte, show Tryz.f23.results = #[(.cell 2 39)] from rfl]
  exact leD_refl _

def nsQ21 : List ByteArray := [{ data := #[97] }, { data := #[98] }]
@[reducible] def aQ : Sta := ⟨0, 0, [], [(5, 1)], [], []⟩
@[reducible] def bQ : Sta := ⟨0, 0, [], [(7, 1)], [], []⟩
def alQ : List (Sta × Sta) := allM nsQ21 [3, 2] aQ bQ
theorem alive21_fn : Fn Tryz.prog 26 [] [] (.v (.bool true)) [] := by
  have hs : Szs nsQ21 := by
    intro s hs
    simp only [nsQ21, List.mem_cons, List.not_mem_nil, or_false] at hs
    rcases hs with rfl | rfl <;> (show 1 ≤ _; omega)
  have hu : U32 [3, 2] := by
    intro u hu
    simp at hu
    rcases hu with rfl | rfl <;> decide
  have sa : Sml aQ := ⟨by decide, by decide, by decide, by decide⟩
  have sb : Sml bQ := ⟨by decide, by decide, by decide, by decide⟩
  have hrep : RleF [.v (.int .i64 0), .v (.int .i64 0), .sl false 3 [], .sl true 2 (pRow [(5, 1)]), .sl false 3 [], .sl false 2 [], .v (.int .i64 0), .v (.int .i64 0), .sl false 3 [], .sl true 2 (pRow [(7, 1)]), .sl false 3 [], .sl false 2 []] (encT aQ bQ) :=
    .cons (.refl _) (.cons (.refl _) (.cons (.refl _) (.cons (.full _ _) (.cons (.refl _) (.cons (.refl _) (.cons (.refl _) (.cons (.refl _) (.cons (.refl _) (.cons (.full _ _) (.cons (.refl _) (.cons (.refl _) .nil)))))))))))
  have h1 := (mvMeasure_fn true true nsQ21 [3, 2] aQ bQ hs hu sa sb).pre (.cons (.refl _) (.cons (.agg hrep) .nil))
  have h2 := (mvAll_fn true true nsQ21 [3, 2] aQ bQ hs hu sa sb).pre (.cons (.refl _) (.cons (.agg hrep) .nil))
  rw [show measF nsQ21 [3, 2] aQ bQ = (2, 12, 2) by kernel_rfl, show mayT nsQ21 [3, 2] aQ bQ = 0 by kernel_rfl] at h1
  rw [show mayT nsQ21 [3, 2] aQ bQ = 0 by kernel_rfl, show allM nsQ21 [3, 2] aQ bQ = alQ from rfl] at h2
  have hl : (twoRow alQ).length = 8 := by kernel_rfl
  have hg : getE (twoRow alQ) 1 = [.v (.int .i64 0), .v (.int .i64 0), .sl false 3 [], .sl false 2 (pRow [(0, 1)]), .sl false 3 [], .sl false 2 [], .v (.int .i64 0), .v (.int .i64 0), .sl false 3 [], .sl false 2 (pRow [(0, 1)]), .sl false 3 [], .sl false 2 []] := by kernel_rfl
  have hp := getE_p (l := [(0, 1)]) (n := 0) rfl
  simp only [encZ] at h1
  generalize twoRow alQ = R at h2 hl hg
  refine Fn.of (fn := Tryz.f26) (by kernel_rfl) rfl (by kernel_rfl) ⟨[.v undef, .v undef, .v undef, .v undef, .v undef, .v undef, .v undef, .v undef, .v undef, .v undef, .v undef, .v undef, .v undef, .v undef, .v undef, .v undef, .v undef, .v undef, .v undef, .v undef, .v undef, .v undef, .v undef, .v undef, .v undef, .v undef, .v undef, .v undef, .v undef, .v undef, .v undef, .v undef, .v undef, .v undef, .v undef, .v undef, .v undef, .v undef, .v undef, .v undef, .v undef, .v undef, .v undef, .v undef, .v undef, .v undef, .v undef, .v undef, .v undef, .v undef, .v undef, .v undef, .v undef, .v undef, .v undef, .v undef], []⟩ rfl ?_
  repeat' first | (with_reducible first | refine AWP_seq' ?_ | refine k_normal ?_ | refine AWP_ret ?_) | ((first | with_reducible refine AWP_reg fun KC J hJ hKC => ?_ | (refine hKC _ _ _ _ _ (callV0 (h1) rfl rfl rfl ?_ ?_); (· exact Lq)) | (refine hKC _ _ _ _ _ (callV0 (h2) rfl rfl rfl ?_ ?_); (· exact Lq))); simp (maxSteps := 10000000) only [push_cast, seval, ↓reduceIte, hl, hg, hp, beq_self_eq_true, undef]) | ((with_reducible refine hJ _ _ ?_); clear hJ hKC KC J)
  refine ret_plain ?_
  simp (maxSteps := 10000000) only [push_cast, seval, ↓reduceIte, show Tryz.f26.results = #[(.tmp 0)] from rfl]
  exact Lq
end Go.Proofs.YtabliglgeiajlaaGreat.AM

/- The reference's sizes of states. -/
namespace Go.Proofs.YtabliglgeiajlaaGreat.AM
open Go Go.RowKit Go.Proofs
set_option maxRecDepth 100000
set_option maxHeartbeats 4000000

theorem rHeight_fn (f g : Bool) (ns : List ByteArray) (us : List Nat) (hu : U32 us) (hl : us.length ≤ 8) (ho : Ord us) : ∀ k a, a < us.length → rnk us a ≤ k → k ≤ 8 →
    Fn Tryz.prog 255 [.agg [.sl f 1 (strRow ns), .sl g 1 (u32Row us)], .v (.int .i64 (a : Int))] [] (.v (.int .i64 ((hgtS us (hgtK us (k - 1)) a us.length : Nat) : Int))) [] := by
  intro k
  induction k with
  | zero =>
    intro a ha hr _
    have hn : ∀ b, b < us.length → bel us b a = false := fun b hb => by
      cases h : bel us b a
      · rfl
      · have := rnk_pos hb h; omega
    refine Fn.of (fn := Tryz.f255) (by kernel_rfl) rfl (by kernel_rfl) ⟨[.agg [.sl f 1 (strRow ns), .sl g 1 (u32Row us)], .v (.int .i64 (a : Int)), .v undef, .v undef, .v undef, .v undef, .v undef, .v undef, .v undef, .v undef, .v undef, .v undef, .v undef, .v undef, .v undef, .v undef, .v undef, .v undef, .v undef, .v undef, .v undef, .v undef, .v undef, .v undef, .v undef, .v undef, .v undef, .v undef, .v undef, .v undef, .v undef, .v undef, .v undef], []⟩ rfl ?_
    repeat' first | (with_reducible first | refine AWP_seq' ?_ | refine k_normal ?_ | refine AWP_block ?_) | ((with_reducible refine AWP_reg fun KC J hJ hKC => ?_); simp (maxSteps := 10000000) only [push_cast, seval, ↓reduceIte]) | ((with_reducible refine hJ _ _ ?_); clear hJ hKC KC J)
    refine AWP_loopF (γ := {i : Nat // i ≤ us.length}) (fun i => ⟨[.any, .v (.int .i64 (a : Int)), .ptr 0 0 0, .any, .any, .v (.int .i64 0), .any, .any, .any, .any, .v (.int .i64 us.length), .v (.int .i64 i.1), .any, .any, .any, .any, .any, .any, .any, .any, .any, .any, .any, .any, .any, .any, .any, .any, .any, .any, .any, .any, .any], [.ent ⟨0, none, 25, [.sl f 1 (strRow ns), .sl g 1 (u32Row us)], .cells⟩]⟩) (fun i => us.length - i.1) ⟨0, by simp⟩ ⟨?_, Fq⟩ ?_
    · exact Lq
    rintro ⟨i, hi⟩
    by_cases hlt : (i : Int) < (us.length : Int)
    · have h1 := rFlows_fn f g ns us i a hu (by omega) (by omega)
      have hb := hn i (by omega)
      by_cases he : i = a
      · have he' : ((a : Int) != (i : Int)) = false := by simp [he]
        repeat' first | (with_reducible first | refine AWP_seq' ?_ | refine k_normal ?_ | refine b_normal ?_ | refine AWP_skip ?_ | refine AWP_block ?_) | ((with_reducible refine AWP_reg fun KC J hJ hKC => ?_); simp (maxSteps := 10000000) only [push_cast, seval, ↓reduceIte, hlt, he', wrapN (i := i) (n := us.length) (by omega) (by omega)]) | ((with_reducible refine hJ _ _ ?_); clear hJ hKC KC J) | ((with_reducible refine AWP_condT ?_ ?_); · rfl) | ((with_reducible refine AWP_condF ?_ ?_); · rfl)
        refine ⟨⟨i + 1, by omega⟩, by simp only; omega, ?_, Fq⟩
        exact Lq
      · have he' : ((a : Int) != (i : Int)) = true := by simp; omega
        have hf : fl us i a = false := by simpa [bel, he] using hb
        rw [hf] at h1
        repeat' first | (with_reducible first | refine AWP_seq' ?_ | refine k_normal ?_ | refine b_normal ?_ | refine AWP_skip ?_ | refine AWP_block ?_) | ((first | with_reducible refine AWP_reg fun KC J hJ hKC => ?_ | (refine hKC _ _ _ _ _ (callV0 (h1) rfl rfl rfl ?_ ?_); (· exact Lq))); simp (maxSteps := 10000000) only [push_cast, seval, ↓reduceIte, hlt, he', wrapN (i := i) (n := us.length) (by omega) (by omega)]) | ((with_reducible refine hJ _ _ ?_); clear hJ hKC KC J) | ((with_reducible refine AWP_condT ?_ ?_); · rfl) | ((with_reducible refine AWP_condF ?_ ?_); · rfl)
        refine ⟨⟨i + 1, by omega⟩, by simp only; omega, ?_, Fq⟩
        exact Lq
    · rw [hgtS_none (Nat.le_refl _) hn]
      repeat' first | (with_reducible first | refine AWP_seq' ?_ | refine k_normal ?_ | refine k_exit ?_ | refine b_exit ?_ | refine AWP_ret ?_ | refine AWP_exit ?_) | ((with_reducible refine AWP_reg fun KC J hJ hKC => ?_); simp (maxSteps := 10000000) only [push_cast, seval, ↓reduceIte, hlt]) | ((with_reducible refine hJ _ _ ?_); clear hJ hKC KC J) | ((with_reducible refine AWP_condF ?_ ?_); · rfl)
      refine ret_plain ?_
      simp (maxSteps := 10000000) only [push_cast, seval, ↓reduceIte, show Tryz.f255.results = #[(.tmp 4)] from rfl]
      exact Lq
  | succ k ih =>
    intro a ha hr hk
    have hle := fun i => hgtS_le (hgtK_le us k) a (us := us) i
    refine Fn.of (fn := Tryz.f255) (by kernel_rfl) rfl (by kernel_rfl) ⟨[.agg [.sl f 1 (strRow ns), .sl g 1 (u32Row us)], .v (.int .i64 (a : Int)), .v undef, .v undef, .v undef, .v undef, .v undef, .v undef, .v undef, .v undef, .v undef, .v undef, .v undef, .v undef, .v undef, .v undef, .v undef, .v undef, .v undef, .v undef, .v undef, .v undef, .v undef, .v undef, .v undef, .v undef, .v undef, .v undef, .v undef, .v undef, .v undef, .v undef, .v undef], []⟩ rfl ?_
    repeat' first | (with_reducible first | refine AWP_seq' ?_ | refine k_normal ?_ | refine AWP_block ?_) | ((with_reducible refine AWP_reg fun KC J hJ hKC => ?_); simp (maxSteps := 10000000) only [push_cast, seval, ↓reduceIte]) | ((with_reducible refine hJ _ _ ?_); clear hJ hKC KC J)
    refine AWP_loopF (γ := {i : Nat // i ≤ us.length}) (fun i => ⟨[.any, .v (.int .i64 (a : Int)), .ptr 0 0 0, .any, .any, .v (.int .i64 ((hgtS us (hgtK us k) a i.1 : Nat) : Int)), .any, .any, .any, .any, .v (.int .i64 us.length), .v (.int .i64 i.1), .any, .any, .any, .any, .any, .any, .any, .any, .any, .any, .any, .any, .any, .any, .any, .any, .any, .any, .any, .any, .any], [.ent ⟨0, none, 25, [.sl f 1 (strRow ns), .sl g 1 (u32Row us)], .cells⟩]⟩) (fun i => us.length - i.1) ⟨0, by simp⟩ ⟨?_, Fq⟩ ?_
    · exact Lq
    rintro ⟨i, hi⟩
    have hli := hle i
    by_cases hlt : (i : Int) < (us.length : Int)
    · have h1 := rFlows_fn f g ns us i a hu (by omega) (by omega)
      by_cases he : i = a
      · have he' : ((a : Int) != (i : Int)) = false := by simp [he]
        have hst : hgtS us (hgtK us k) a (i + 1) = hgtS us (hgtK us k) a i := if_neg (by simp [bel, he])
        repeat' first | (with_reducible first | refine AWP_seq' ?_ | refine k_normal ?_ | refine b_normal ?_ | refine AWP_skip ?_ | refine AWP_block ?_) | ((with_reducible refine AWP_reg fun KC J hJ hKC => ?_); simp (maxSteps := 10000000) only [push_cast, seval, ↓reduceIte, hlt, he', wrapN (i := i) (n := us.length) (by omega) (by omega)]) | ((with_reducible refine hJ _ _ ?_); clear hJ hKC KC J) | ((with_reducible refine AWP_condT ?_ ?_); · rfl) | ((with_reducible refine AWP_condF ?_ ?_); · rfl)
        refine ⟨⟨i + 1, by omega⟩, by simp only; omega, ?_, Fq⟩
        simp only [hst]
        exact Lq
      · have he' : ((a : Int) != (i : Int)) = true := by simp; omega
        obtain ⟨q, hq⟩ : ∃ q, fl us i a = q := ⟨_, rfl⟩
        rw [hq] at h1
        cases q
        case false =>
          have hst : hgtS us (hgtK us k) a (i + 1) = hgtS us (hgtK us k) a i := if_neg (by simp [bel, hq])
          repeat' first | (with_reducible first | refine AWP_seq' ?_ | refine k_normal ?_ | refine b_normal ?_ | refine AWP_skip ?_ | refine AWP_block ?_) | ((first | with_reducible refine AWP_reg fun KC J hJ hKC => ?_ | (refine hKC _ _ _ _ _ (callV0 (h1) rfl rfl rfl ?_ ?_); (· exact Lq))); simp (maxSteps := 10000000) only [push_cast, seval, ↓reduceIte, hlt, he', wrapN (i := i) (n := us.length) (by omega) (by omega)]) | ((with_reducible refine hJ _ _ ?_); clear hJ hKC KC J) | ((with_reducible refine AWP_condT ?_ ?_); · rfl) | ((with_reducible refine AWP_condF ?_ ?_); · rfl)
          refine ⟨⟨i + 1, by omega⟩, by simp only; omega, ?_, Fq⟩
          simp only [hst]
          exact Lq
        have hb : bel us i a = true := by simp [bel, hq, he]
        have hst : hgtS us (hgtK us k) a (i + 1) = max (hgtS us (hgtK us k) a i) (1 + hgtK us k i) := if_pos hb
        have hki := hgtK_le us k i
        have h2 : Fn Tryz.prog 255 [.agg [.sl f 1 (strRow ns), .sl g 1 (u32Row us)], .v (.int .i64 (i : Int))] [] (.v (.int .i64 ((hgtK us k i : Nat) : Int))) [] := by
          have h3 := ih i (by omega) (by have := rnk_lt ho ha (by omega) hb; omega) (by omega)
          cases k with
          | zero =>
            have hr0 := rnk_lt ho ha (by omega) hb
            rw [hgtS_none (Nat.le_refl _) (fun b hb' => by
              cases h : bel us b i
              · rfl
              · have := rnk_pos hb' h; omega)] at h3
            exact h3
          | succ k => exact h3
        have w1 : IntKind.i64.wrap (1 + ((hgtK us k i : Nat) : Int)) = 1 + ((hgtK us k i : Nat) : Int) := wrapI (by omega) (by omega)
        obtain ⟨X, hX⟩ : ∃ X, hgtS us (hgtK us k) a i = X := ⟨_, rfl⟩
        obtain ⟨Y, hY⟩ : ∃ Y, hgtK us k i = Y := ⟨_, rfl⟩
        rw [hX, hY] at hst
        rw [hY] at h2 w1
        simp only [hX]
        obtain ⟨c, hc⟩ : ∃ c, decide ((X : Int) < 1 + (Y : Int)) = c := ⟨_, rfl⟩
        cases c
        · have hm : max X (1 + Y) = X := by have := of_decide_eq_false hc; omega
          rw [hm] at hst
          repeat' first | (with_reducible first | refine AWP_seq' ?_ | refine k_normal ?_ | refine b_normal ?_ | refine AWP_skip ?_ | refine AWP_block ?_) | ((first | with_reducible refine AWP_reg fun KC J hJ hKC => ?_ | (refine hKC _ _ _ _ _ (callV0 (h1) rfl rfl rfl ?_ ?_); (· exact Lq)) | (refine hKC _ _ _ _ _ (callV0 (h2) rfl rfl rfl ?_ ?_); (· exact Lq))); simp (maxSteps := 10000000) only [push_cast, seval, ↓reduceIte, hlt, he', w1, hc, wrapN (i := i) (n := us.length) (by omega) (by omega)]) | ((with_reducible refine hJ _ _ ?_); clear hJ hKC KC J) | ((with_reducible refine AWP_condT ?_ ?_); · rfl) | ((with_reducible refine AWP_condF ?_ ?_); · rfl)
          refine ⟨⟨i + 1, by omega⟩, by simp only; omega, ?_, Fq⟩
          simp only [hst]
          exact Lq
        · have hm : ((max X (1 + Y) : Nat) : Int) = 1 + (Y : Int) := by have := of_decide_eq_true hc; omega
          repeat' first | (with_reducible first | refine AWP_seq' ?_ | refine k_normal ?_ | refine b_normal ?_ | refine AWP_skip ?_ | refine AWP_block ?_) | ((first | with_reducible refine AWP_reg fun KC J hJ hKC => ?_ | (refine hKC _ _ _ _ _ (callV0 (h1) rfl rfl rfl ?_ ?_); (· exact Lq)) | (refine hKC _ _ _ _ _ (callV0 (h2) rfl rfl rfl ?_ ?_); (· exact Lq))); simp (maxSteps := 10000000) only [push_cast, seval, ↓reduceIte, hlt, he', w1, hc, wrapN (i := i) (n := us.length) (by omega) (by omega)]) | ((with_reducible refine hJ _ _ ?_); clear hJ hKC KC J) | ((with_reducible refine AWP_condT ?_ ?_); · rfl)
          refine ⟨⟨i + 1, by omega⟩, by simp only; omega, ?_, Fq⟩
          simp only [hst, hm]
          exact Lq
    · have hin : i = us.length := by omega
      subst hin
      repeat' first | (with_reducible first | refine AWP_seq' ?_ | refine k_normal ?_ | refine k_exit ?_ | refine b_exit ?_ | refine AWP_ret ?_ | refine AWP_exit ?_) | ((with_reducible refine AWP_reg fun KC J hJ hKC => ?_); simp (maxSteps := 10000000) only [push_cast, seval, ↓reduceIte, hlt]) | ((with_reducible refine hJ _ _ ?_); clear hJ hKC KC J) | ((with_reducible refine AWP_condF ?_ ?_); · rfl)
      refine ret_plain ?_
      simp (maxSteps := 10000000) only [push_cast, seval, ↓reduceIte, show Tryz.f255.results = #[(.tmp 4)] from rfl]
      exact Lq
theorem rHeightC_fn (f g : Bool) (ns : List ByteArray) (us : List Nat) (hu : U32 us) (hc : checkF ns us = 0) (a : Nat) (ha : a < us.length) :
    Fn Tryz.prog 255 [.agg [.sl f 1 (strRow ns), .sl g 1 (u32Row us)], .v (.int .i64 (a : Int))] [] (.v (.int .i64 ((hgt us a : Nat) : Int))) [] :=
  rHeight_fn f g ns us hu (ord_check hc).2 (ord_check hc).1 8 a ha (Nat.le_trans (rnk_le us a) (ord_check hc).2) (Nat.le_refl _)
theorem rPlain_fn (v : Int) (h0 : -20 ≤ v) : Fn Tryz.prog 171 [.v (.int .i64 v)] [] (.v (.int .i64 (absI v))) [] := by
  obtain ⟨c, hc⟩ : ∃ c, decide (v < 0) = c := ⟨_, rfl⟩
  cases c
  · have ha : absI v = v := if_neg (of_decide_eq_false hc)
    rw [ha]
    refine Fn.of (fn := Tryz.f171) (by kernel_rfl) rfl (by kernel_rfl) ⟨[.v (.int .i64 v), .v undef, .v undef, .v undef, .v undef, .v undef, .v undef, .v undef], []⟩ rfl ?_
    repeat' first | (with_reducible first | refine AWP_seq' ?_ | refine k_normal ?_ | refine AWP_ret ?_ | refine AWP_skip ?_) | ((with_reducible refine AWP_reg fun KC J hJ hKC => ?_); simp (maxSteps := 10000000) only [push_cast, seval, ↓reduceIte, hc]) | ((with_reducible refine hJ _ _ ?_); clear hJ hKC KC J) | ((with_reducible refine AWP_condF ?_ ?_); · rfl)
    refine ret_plain ?_
    simp (maxSteps := 10000000) only [push_cast, seval, ↓reduceIte, show Tryz.f171.results = #[(.tmp 2)] from rfl]
    exact Lq
  · have ha : absI v = 0 - v := by rw [absI, if_pos (of_decide_eq_true hc)]; omega
    have hw : IntKind.i64.wrap (0 - v) = 0 - v := wrapI (by have := of_decide_eq_true hc; omega) (by omega)
    rw [ha]
    refine Fn.of (fn := Tryz.f171) (by kernel_rfl) rfl (by kernel_rfl) ⟨[.v (.int .i64 v), .v undef, .v undef, .v undef, .v undef, .v undef, .v undef, .v undef], []⟩ rfl ?_
    repeat' first | (with_reducible first | refine AWP_seq' ?_ | refine k_normal ?_ | refine k_ret ?_ | refine AWP_ret ?_) | ((with_reducible refine AWP_reg fun KC J hJ hKC => ?_); simp (maxSteps := 10000000) only [push_cast, seval, ↓reduceIte, hc, hw]) | ((with_reducible refine hJ _ _ ?_); clear hJ hKC KC J) | ((with_reducible refine AWP_condT ?_ ?_); · rfl)
    refine ret_plain ?_
    simp (maxSteps := 10000000) only [push_cast, seval, ↓reduceIte, show Tryz.f171.results = #[(.tmp 2)] from rfl]
    exact Lq
theorem rAdd_fn (f g : Bool) (ns : List ByteArray) (us : List Nat) (hu : U32 us) (hc : checkF ns us = 0) (z : Int × Int × Int) (k : Nat) (hz : Bz k z) (hk : k ≤ 1000) (v l : Int) (hv : -20 ≤ v) (hv1 : v ≤ 20) (hl : oddL us.length l = false) :
    Fn Tryz.prog 170 [.agg [.sl f 1 (strRow ns), .sl g 1 (u32Row us)], .agg (encZ z), .v (.int .i64 v), .v (.int .i64 l)] [] (.agg (encZ (addZ us z v l))) [] := by
  obtain ⟨a, rfl, ha⟩ := oddL_no hl
  obtain ⟨z1, z2, z3⟩ := z
  have h1 := rPlain_fn v hv
  have h2 := rHeightC_fn f g ns us hu hc a ha
  have hb := absI_le hv hv1
  have hh := hgt_le us a
  simp only [Bz] at hz
  have w1 : IntKind.i64.wrap (z2 + absI v) = z2 + absI v := wrapI (by omega) (by omega)
  have w2 : IntKind.i64.wrap (z3 + ((hgt us a : Nat) : Int)) = z3 + ((hgt us a : Nat) : Int) := wrapI (by omega) (by omega)
  simp only [encZ, addZ, Int.toNat_natCast]
  refine Fn.of (fn := Tryz.f170) (by kernel_rfl) rfl (by kernel_rfl) ⟨[.agg [.sl f 1 (strRow ns), .sl g 1 (u32Row us)], .agg [.v (.int .i64 z1), .v (.int .i64 z2), .v (.int .i64 z3)], .v (.int .i64 v), .v (.int .i64 (a : Int)), .v undef, .v undef, .v undef, .v undef, .v undef, .v undef, .v undef, .v undef, .v undef, .v undef, .v undef, .v undef, .v undef, .v undef, .v undef, .v undef, .v undef, .v undef, .v undef], []⟩ rfl ?_
  repeat' first | (with_reducible first | refine AWP_seq' ?_ | refine k_normal ?_ | refine AWP_ret ?_) | ((first | with_reducible refine AWP_reg fun KC J hJ hKC => ?_ | with_reducible refine AWP_regD rfl fun KC J hJ hKC => ?_ | (refine hKC _ _ _ _ _ (callV0 (h1) rfl rfl rfl ?_ ?_); (· exact Lq)) | (refine hKC _ _ _ _ _ (callV0 (h2) rfl rfl rfl ?_ ?_); (· exact Lq))); simp (maxSteps := 10000000) only [push_cast, seval, ↓reduceIte, w1, w2]) | ((first | with_reducible refine hJ _ _ ?_ | (with_reducible refine hJ _ _ ?_ ?_; · kernel_rfl)); clear hJ hKC KC J)
  refine ret_plain ?_
  simp (maxSteps := 10000000) only [push_cast, seval, ↓reduceIte, show Tryz.f170.results = #[(.cell 8 66)] from rfl]
  exact Lq
end Go.Proofs.YtabliglgeiajlaaGreat.AM

/- The reference's sizes of states: the walk. -/
namespace Go.Proofs.YtabliglgeiajlaaGreat.AM
open Go Go.RowKit Go.Proofs
set_option maxRecDepth 100000
set_option maxHeartbeats 4000000

theorem rSize_fn (f g : Bool) (ns : List ByteArray) (us : List Nat) (hu : U32 us) (hc : checkF ns us = 0) (z : Int × Int × Int) (k : Nat) (hz : Bz k z) (hk : k ≤ 500) (s : Sta) (hs : StaN us.length s) :
    Fn Tryz.prog 76 [.agg [.sl f 1 (strRow ns), .sl g 1 (u32Row us)], .agg (encZ z), .agg (staF false false false false s)] [] (.agg (encZ (sizeZ us z s))) [] := by
  obtain ⟨hcode, hmem, hstack, hout, lcode, lmem, lstack, lout, hv0, hv1, hl⟩ := hs
  have h1 := rAdd_fn f g ns us hu hc z k hz (by omega) s.v s.l hv0 hv1 hl
  have hB1 := hz.add (us := us) (v := s.v) (l := s.l) hv0 hv1
  unfold sizeZ
  obtain ⟨z1, hz1⟩ : ∃ y, addZ us z s.v s.l = y := ⟨_, rfl⟩
  rw [hz1] at h1 hB1 ⊢
  have hB2 := cntZ_B hB1 (n := s.code.length + s.mem.length + s.stack.length + s.out.length) (by omega)
  have hb1 := hB1.1
  have hb2 := hB1.2.1
  have w1 : IntKind.i64.wrap (z1.1 + (s.code.length : Int)) = z1.1 + (s.code.length : Int) := wrapI (by omega) (by omega)
  have w2 : IntKind.i64.wrap (z1.1 + (s.code.length : Int) + (s.mem.length : Int)) = z1.1 + (s.code.length : Int) + (s.mem.length : Int) := wrapI (by omega) (by omega)
  have w3 : IntKind.i64.wrap (z1.1 + (s.code.length : Int) + (s.mem.length : Int) + (s.stack.length : Int)) = z1.1 + (s.code.length : Int) + (s.mem.length : Int) + (s.stack.length : Int) := wrapI (by omega) (by omega)
  have w4 : IntKind.i64.wrap (z1.1 + (s.code.length : Int) + (s.mem.length : Int) + (s.stack.length : Int) + (s.out.length : Int)) = (cntZ z1 (s.code.length + s.mem.length + s.stack.length + s.out.length)).1 := by
    rw [wrapI (by omega) (by omega)]; simp only [cntZ]; omega
  have c2 : z1.2 = (cntZ z1 (s.code.length + s.mem.length + s.stack.length + s.out.length)).2 := rfl
  have c3 : z1.2.1 = (cntZ z1 (s.code.length + s.mem.length + s.stack.length + s.out.length)).2.1 := rfl
  have c4 : z1.2.2 = (cntZ z1 (s.code.length + s.mem.length + s.stack.length + s.out.length)).2.2 := rfl
  obtain ⟨z2, hz2⟩ : ∃ y, cntZ z1 (s.code.length + s.mem.length + s.stack.length + s.out.length) = y := ⟨_, rfl⟩
  rw [hz2] at w4 c2 c3 c4 hB2 ⊢
  simp only [encZ, staF] at h1 ⊢
  refine Fn.of (fn := Tryz.f76) (by kernel_rfl) rfl (by kernel_rfl) ⟨[.agg [.sl f 1 (strRow ns), .sl g 1 (u32Row us)], .agg [.v (.int .i64 z.1), .v (.int .i64 z.2.1), .v (.int .i64 z.2.2)], .agg [.v (.int .i64 s.v), .v (.int .i64 s.l), .sl false 3 (tRow s.code), .sl false 2 (pRow s.mem), .sl false 3 (sRow s.stack), .sl false 2 (pRow s.out)], .v undef, .v undef, .v undef, .v undef, .v undef, .v undef, .v undef, .v undef, .v undef, .v undef, .v undef, .v undef, .v undef, .v undef, .v undef, .v undef, .v undef, .v undef, .v undef, .v undef, .v undef, .v undef, .v undef, .v undef, .v undef, .v undef, .v undef, .v undef, .v undef, .v undef, .v undef, .v undef, .v undef, .v undef, .v undef, .v undef, .v undef, .v undef, .v undef, .v undef, .v undef, .v undef, .v undef, .v undef, .v undef, .v undef, .v undef, .v undef, .v undef, .v undef, .v undef, .v undef, .v undef, .v undef, .v undef, .v undef, .v undef, .v undef, .v undef, .v undef, .v undef, .v undef, .v undef, .v undef, .v undef, .v undef, .v undef, .v undef, .v undef, .v undef, .v undef, .v undef, .v undef, .v undef, .v undef, .v undef, .v undef, .v undef, .v undef, .v undef, .v undef, .v undef, .v undef, .v undef, .v undef, .v undef, .v undef, .v undef, .v undef, .v undef, .v undef, .v undef, .v undef, .v undef, .v undef, .v undef, .v undef, .v undef, .v undef, .v undef, .v undef, .v undef, .v undef, .v undef, .v undef, .v undef, .v undef, .v undef, .v undef, .v undef, .v undef, .v undef, .v undef, .v undef, .v undef, .v undef, .v undef, .v undef], []⟩ rfl ?_
  repeat' first | (with_reducible first | refine AWP_seq' ?_ | refine k_normal ?_ | refine AWP_block ?_) | ((first | with_reducible refine AWP_reg fun KC J hJ hKC => ?_ | (refine hKC _ _ _ _ _ (callV0 (h1) rfl rfl rfl ?_ ?_); (· exact Lq))); simp (maxSteps := 10000000) only [push_cast, seval, ↓reduceIte, w1, w2, w3, w4, c3, c4]) | ((with_reducible refine hJ _ _ ?_); clear hJ hKC KC J)
  refine AWP_loopE 4 (γ := {i : Nat // i ≤ s.code.length}) (fun i => ⟨[.any, .any, .any, .ptr 0 0 0, .ptr 1 0 0, .ptr 2 0 0, .ptr 3 0 0, .any, .any, .any, .any, .any, .any, .any, .any, .any, .any, .any, .any, .any, .any, .any, .any, .any, .any, .any, .any, .any, .any, .any, .any, .any, .any, .any, .any, .any, .any, .any, .any, .any, .any, .any, .any, .any, .sl false 3 (tRow s.code), .v (.int .i64 s.code.length), .v (.int .i64 i.1), .any, .any, .any, .any, .any, .any, .any, .any, .any, .any, .any, .any, .any, .any, .any, .any, .any, .any, .any, .any, .any, .any, .any, .any, .any, .any, .any, .any, .any, .any, .any, .any, .any, .any, .any, .any, .any, .any, .any, .any, .any, .any, .any, .any, .any, .any, .any, .any, .any, .any, .any, .any, .any, .any, .any, .any, .any, .any, .any, .any, .any, .any, .any, .any, .any, .any, .any, .any, .any, .any, .any, .any, .any, .any], [.ent ⟨0, none, 25, [.sl f 1 (strRow ns), .sl g 1 (u32Row us)], .cells⟩, .ent ⟨0, none, 66, encZ (codeZ us z2 (s.code.take i.1)), .cells⟩, .ent ⟨0, none, 39, [.v (.int .i64 s.v), .v (.int .i64 s.l), .sl false 3 (tRow s.code), .sl false 2 (pRow s.mem), .sl false 3 (sRow s.stack), .sl false 2 (pRow s.out)], .cells⟩, .ent ⟨0, none, 66, [.v (.int .i64 0), .v (.int .i64 0), .v (.int .i64 0)], .cells⟩]⟩) (fun i => s.code.length - i.1) ⟨0, by omega⟩ rfl (fun i => Nat.le_refl _) (fun i => clsd_all rfl) (fun i => rfl) ⟨?_, ?_⟩ ?_
  · exact Lq
  · simp only [List.take_zero, codeZ, atomZ, slotZ, List.foldl_nil]
    exact Fq
  rintro ⟨i, hi⟩
  have hBi : Bz (k + 2 + (s.code.take i).length) (codeZ us z2 (s.code.take i)) := foldl_B (fun x hx k z h => codeS_B h (hcode x (List.mem_of_mem_take hx)).1 (hcode x (List.mem_of_mem_take hx)).2.1) hB2
  have htl := List.length_take_le i s.code
  have hBe : i = s.code.length → Bz (k + 2 + s.code.length) (codeZ us z2 s.code) := fun h => by rw [h, List.take_length] at hBi; exact hBi
  obtain ⟨y, hy⟩ : ∃ y, codeZ us z2 (s.code.take i) = y := ⟨_, rfl⟩
  rw [hy] at hBi
  simp only [hy]
  by_cases hlt : (i : Int) < (s.code.length : Int)
  · have hx : s.code[i]? = some s.code[i] := List.getElem?_eq_getElem (by omega)
    have hxn := hcode s.code[i] (List.getElem_mem (by omega))
    obtain ⟨x, hxx⟩ : ∃ x, s.code[i] = x := ⟨_, rfl⟩
    rw [hxx] at hx hxn
    have hst := codeZ_succ us z2 hx
    rw [hy] at hst
    have hi1 : i + 1 ≤ s.code.length := by omega
    have wr := wrapN (i := i) (n := s.code.length) (by omega) (by omega)
    have hp := rPlain_fn x.2.1 hxn.1
    have hb1 := hBi.1
    have hb2 := hBi.2.1
    have hb3 := hBi.2.2.1
    have hb4 := hBi.2.2.2.1
    have hai := absI_le hxn.1 hxn.2.1
    have wc : IntKind.i64.wrap (y.1 + 1) = y.1 + 1 := wrapI (by omega) (by omega)
    have wa : IntKind.i64.wrap (y.2.1 + absI x.2.1) = y.2.1 + absI x.2.1 := wrapI (by omega) (by omega)
    by_cases e1 : x.1 = 1
    · have ha := rAdd_fn f g ns us hu hc (y.1 + 1, y.2) (k + 3 + (s.code.take i).length) (by simp only [Bz] at hBi ⊢; omega) (by omega) x.2.1 x.2.2 hxn.1 hxn.2.1 (hxn.2.2 e1)
      unfold codeS at hst
      rw [if_pos e1] at hst
      obtain ⟨y', hy'⟩ : ∃ y', addZ us (y.1 + 1, y.2) x.2.1 x.2.2 = y' := ⟨_, rfl⟩
      rw [hy'] at hst ha
      simp only [encZ] at ha ⊢
      obtain ⟨x1, x2, x3⟩ := x
      simp only at e1
      subst e1
      repeat' first | (with_reducible first | refine AWP_seq' ?_ | refine k_normal ?_ | refine b_normal ?_ | refine AWP_skip ?_ | refine AWP_block ?_) | ((with_reducible refine And.intro ?_ ?_); · exact Sq) | ((first | with_reducible refine AWP_reg fun KC J hJ hKC => ?_ | (refine hKC _ _ _ _ _ (callV0 (ha) rfl rfl rfl ?_ ?_); (· exact Lq))); simp (maxSteps := 10000000) only [push_cast, seval, ↓reduceIte, hlt, wr, wc, getE_t hx, undef]) | ((with_reducible refine hJ _ _ ?_); clear hJ hKC KC J) | ((with_reducible refine AWP_condT ?_ ?_); · rfl)
      refine ⟨⟨_, hi1⟩, by simp only; omega, ?_, ?_⟩
      · exact Lq
      · simp only [hst]
        exact ⟨[_, _, _, _], _, rfl, .inr (.inl rfl), .inr (.inl rfl), .inr (.inl rfl), .inr (.inl rfl), trivial⟩
    · unfold codeS at hst
      rw [if_neg e1] at hst
      obtain ⟨x1, x2, x3⟩ := x
      simp only at e1 hp wa hst hai
      have e1' : (x1 == 1) = false := by simpa using e1
      by_cases e0 : x1 = 0
      · rw [if_pos e0] at hst
        subst e0
        simp only [encZ]
        repeat' first | (with_reducible first | refine AWP_seq' ?_ | refine k_normal ?_ | refine b_normal ?_ | refine AWP_skip ?_ | refine AWP_block ?_) | ((with_reducible refine And.intro ?_ ?_); · exact Sq) | ((first | with_reducible refine AWP_reg fun KC J hJ hKC => ?_ | with_reducible refine AWP_regD rfl fun KC J hJ hKC => ?_ | (refine hKC _ _ _ _ _ (callV0 (hp) rfl rfl rfl ?_ ?_); (· exact Lq))); simp (maxSteps := 10000000) only [push_cast, seval, ↓reduceIte, hlt, wr, wc, wa, getE_t hx, undef]) | ((first | with_reducible refine hJ _ _ ?_ | (with_reducible refine hJ _ _ ?_ ?_; · kernel_rfl)); clear hJ hKC KC J) | ((with_reducible refine AWP_condT ?_ ?_); · rfl) | ((with_reducible refine AWP_condF ?_ ?_); · rfl)
        refine ⟨⟨_, hi1⟩, by simp only; omega, ?_, ?_⟩
        · exact Lq
        · simp only [hst]
          exact ⟨[_, _, _, _], _, rfl, .inr (.inl rfl), .inr (.inl rfl), .inr (.inl rfl), .inr (.inl rfl), trivial⟩
      · rw [if_neg e0] at hst
        have e0' : (x1 != 0) = true := by simpa using e0
        simp only [encZ]
        repeat' first | (with_reducible first | refine AWP_seq' ?_ | refine k_normal ?_ | refine b_normal ?_ | refine AWP_skip ?_ | refine AWP_block ?_) | ((with_reducible refine And.intro ?_ ?_); · exact Sq) | ((first | with_reducible refine AWP_reg fun KC J hJ hKC => ?_ | with_reducible refine AWP_regD rfl fun KC J hJ hKC => ?_ | (refine hKC _ _ _ _ _ (callV0 (hp) rfl rfl rfl ?_ ?_); (· exact Lq))); simp (maxSteps := 10000000) only [push_cast, seval, ↓reduceIte, hlt, wr, wc, wa, getE_t hx, e0', e1', undef]) | ((first | with_reducible refine hJ _ _ ?_ | (with_reducible refine hJ _ _ ?_ ?_; · kernel_rfl)); clear hJ hKC KC J) | ((with_reducible refine AWP_condT ?_ ?_); · rfl) | ((with_reducible refine AWP_condF ?_ ?_); · rfl)
        refine ⟨⟨_, hi1⟩, by simp only; omega, ?_, ?_⟩
        · exact Lq
        · simp only [hst]
          exact ⟨[_, _, _, _], _, rfl, .inr (.inl rfl), .inr (.inl rfl), .inr (.inl rfl), .inr (.inl rfl), trivial⟩
  have hin : i = s.code.length := by omega
  have hBc := hBe hin
  subst hin
  rw [List.take_length] at hy
  rw [hy] at hBc ⊢
  simp only [encZ]
  repeat' first | (with_reducible first | refine AWP_seq' ?_ | refine k_normal ?_ | refine k_exit ?_ | refine b_exit ?_ | refine AWP_exit ?_ | refine AWP_block ?_) | ((with_reducible refine AWP_reg fun KC J hJ hKC => ?_); simp (maxSteps := 10000000) only [push_cast, seval, ↓reduceIte, hlt]) | ((with_reducible refine hJ _ _ ?_); clear hJ hKC KC J) | ((with_reducible refine AWP_condF ?_ ?_); · rfl)
  refine AWP_loopE 4 (γ := {i : Nat // i ≤ s.mem.length}) (fun i => ⟨[.any, .any, .any, .ptr 0 0 0, .ptr 1 0 0, .ptr 2 0 0, .ptr 3 0 0, .any, .any, .any, .any, .any, .any, .any, .any, .any, .any, .any, .any, .any, .any, .any, .any, .any, .any, .any, .any, .any, .any, .any, .any, .any, .any, .any, .any, .any, .any, .any, .any, .any, .any, .any, .any, .any, .any, .any, .any, .any, .any, .any, .any, .any, .any, .any, .any, .any, .any, .any, .any, .any, .any, .any, .any, .any, .any, .any, .any, .any, .any, .any, .any, .any, .any, .any, .any, .any, .sl false 2 (pRow s.mem), .v (.int .i64 s.mem.length), .v (.int .i64 i.1), .any, .any, .any, .any, .any, .any, .any, .any, .any, .any, .any, .any, .any, .any, .any, .any, .any, .any, .any, .any, .any, .any, .any, .any, .any, .any, .any, .any, .any, .any, .any, .any, .any, .any, .any, .any, .any, .any, .any, .any, .any, .any], [.ent ⟨0, none, 25, [.sl f 1 (strRow ns), .sl g 1 (u32Row us)], .cells⟩, .ent ⟨0, none, 66, encZ (atomZ us y (s.mem.take i.1)), .cells⟩, .ent ⟨0, none, 39, [.v (.int .i64 s.v), .v (.int .i64 s.l), .sl false 3 (tRow s.code), .sl false 2 (pRow s.mem), .sl false 3 (sRow s.stack), .sl false 2 (pRow s.out)], .cells⟩, .ent ⟨0, none, 66, [.v (.int .i64 0), .v (.int .i64 0), .v (.int .i64 0)], .cells⟩]⟩) (fun i => s.mem.length - i.1) ⟨0, by omega⟩ rfl (fun i => Nat.le_refl _) (fun i => clsd_all rfl) (fun i => rfl) ⟨?_, ?_⟩ ?_
  · exact Lq
  · simp only [List.take_zero, codeZ, atomZ, slotZ, List.foldl_nil]
    exact Fq
  clear hlt
  rintro ⟨i, hi⟩
  have hBi : Bz (k + 2 + s.code.length + (s.mem.take i).length) (atomZ us y (s.mem.take i)) := foldl_B (fun x hx k z h => h.add (hmem x (List.mem_of_mem_take hx)).1 (hmem x (List.mem_of_mem_take hx)).2.1) hBc
  have htl := List.length_take_le i s.mem
  have hBe : i = s.mem.length → Bz (k + 2 + s.code.length + s.mem.length) (atomZ us y s.mem) := fun h => by rw [h, List.take_length] at hBi; exact hBi
  obtain ⟨m, hym⟩ : ∃ r, atomZ us y (s.mem.take i) = r := ⟨_, rfl⟩
  rw [hym] at hBi
  simp only [hym]
  by_cases hlt : (i : Int) < (s.mem.length : Int)
  · have hx : s.mem[i]? = some s.mem[i] := List.getElem?_eq_getElem (by omega)
    have hxn := hmem s.mem[i] (List.getElem_mem (by omega))
    obtain ⟨x, hxx⟩ : ∃ x, s.mem[i] = x := ⟨_, rfl⟩
    rw [hxx] at hx hxn
    have hst := atomZ_succ us y hx
    rw [hym] at hst
    have hi1 : i + 1 ≤ s.mem.length := by omega
    have wr := wrapN (i := i) (n := s.mem.length) (by omega) (by omega)
    have ha := rAdd_fn f g ns us hu hc m (k + 2 + s.code.length + (s.mem.take i).length) hBi (by omega) x.1 x.2 hxn.1 hxn.2.1 hxn.2.2
    obtain ⟨y', hy'⟩ : ∃ y', addZ us m x.1 x.2 = y' := ⟨_, rfl⟩
    rw [hy'] at hst ha
    simp only [encZ] at ha ⊢
    repeat' first | (with_reducible first | refine AWP_seq' ?_ | refine k_normal ?_ | refine b_normal ?_ | refine AWP_skip ?_ | refine AWP_block ?_) | ((with_reducible refine And.intro ?_ ?_); · exact Sq) | ((first | with_reducible refine AWP_reg fun KC J hJ hKC => ?_ | (refine hKC _ _ _ _ _ (callV0 (ha) rfl rfl rfl ?_ ?_); (· exact Lq))); simp (maxSteps := 10000000) only [push_cast, seval, ↓reduceIte, hlt, wr, getE_p hx, undef]) | ((with_reducible refine hJ _ _ ?_); clear hJ hKC KC J) | ((with_reducible refine AWP_condT ?_ ?_); · rfl)
    refine ⟨⟨_, hi1⟩, by simp only; omega, ?_, ?_⟩
    · exact Lq
    · simp only [hst]
      exact ⟨[_, _, _, _], _, rfl, .inr (.inl rfl), .inr (.inl rfl), .inr (.inl rfl), .inr (.inl rfl), trivial⟩
  have hin : i = s.mem.length := by omega
  have hBm := hBe hin
  subst hin
  rw [List.take_length] at hym
  rw [hym] at hBm ⊢
  simp only [encZ]
  repeat' first | (with_reducible first | refine AWP_seq' ?_ | refine k_normal ?_ | refine k_exit ?_ | refine b_exit ?_ | refine AWP_exit ?_ | refine AWP_block ?_) | ((with_reducible refine AWP_reg fun KC J hJ hKC => ?_); simp (maxSteps := 10000000) only [push_cast, seval, ↓reduceIte, hlt]) | ((with_reducible refine hJ _ _ ?_); clear hJ hKC KC J) | ((with_reducible refine AWP_condF ?_ ?_); · rfl)
  refine AWP_loopE 4 (γ := {i : Nat // i ≤ s.out.length}) (fun i => ⟨[.any, .any, .any, .ptr 0 0 0, .ptr 1 0 0, .ptr 2 0 0, .ptr 3 0 0, .any, .any, .any, .any, .any, .any, .any, .any, .any, .any, .any, .any, .any, .any, .any, .any, .any, .any, .any, .any, .any, .any, .any, .any, .any, .any, .any, .any, .any, .any, .any, .any, .any, .any, .any, .any, .any, .any, .any, .any, .any, .any, .any, .any, .any, .any, .any, .any, .any, .any, .any, .any, .any, .any, .any, .any, .any, .any, .any, .any, .any, .any, .any, .any, .any, .any, .any, .any, .any, .any, .any, .any, .any, .any, .any, .any, .any, .any, .any, .any, .any, .any, .any, .any, .sl false 2 (pRow s.out), .v (.int .i64 s.out.length), .v (.int .i64 i.1), .any, .any, .any, .any, .any, .any, .any, .any, .any, .any, .any, .any, .any, .any, .any, .any, .any, .any, .any, .any, .any, .any, .any, .any, .any, .any, .any], [.ent ⟨0, none, 25, [.sl f 1 (strRow ns), .sl g 1 (u32Row us)], .cells⟩, .ent ⟨0, none, 66, encZ (atomZ us m (s.out.take i.1)), .cells⟩, .ent ⟨0, none, 39, [.v (.int .i64 s.v), .v (.int .i64 s.l), .sl false 3 (tRow s.code), .sl false 2 (pRow s.mem), .sl false 3 (sRow s.stack), .sl false 2 (pRow s.out)], .cells⟩, .ent ⟨0, none, 66, [.v (.int .i64 0), .v (.int .i64 0), .v (.int .i64 0)], .cells⟩]⟩) (fun i => s.out.length - i.1) ⟨0, by omega⟩ rfl (fun i => Nat.le_refl _) (fun i => clsd_all rfl) (fun i => rfl) ⟨?_, ?_⟩ ?_
  · exact Lq
  · simp only [List.take_zero, codeZ, atomZ, slotZ, List.foldl_nil]
    exact Fq
  clear hlt
  rintro ⟨i, hi⟩
  have hBi : Bz (k + 2 + s.code.length + s.mem.length + (s.out.take i).length) (atomZ us m (s.out.take i)) := foldl_B (fun x hx k z h => h.add (hout x (List.mem_of_mem_take hx)).1 (hout x (List.mem_of_mem_take hx)).2.1) hBm
  have htl := List.length_take_le i s.out
  have hBe : i = s.out.length → Bz (k + 2 + s.code.length + s.mem.length + s.out.length) (atomZ us m s.out) := fun h => by rw [h, List.take_length] at hBi; exact hBi
  obtain ⟨o, hyo⟩ : ∃ r, atomZ us m (s.out.take i) = r := ⟨_, rfl⟩
  rw [hyo] at hBi
  simp only [hyo]
  by_cases hlt : (i : Int) < (s.out.length : Int)
  · have hx : s.out[i]? = some s.out[i] := List.getElem?_eq_getElem (by omega)
    have hxn := hout s.out[i] (List.getElem_mem (by omega))
    obtain ⟨x, hxx⟩ : ∃ x, s.out[i] = x := ⟨_, rfl⟩
    rw [hxx] at hx hxn
    have hst := atomZ_succ us m hx
    rw [hyo] at hst
    have hi1 : i + 1 ≤ s.out.length := by omega
    have wr := wrapN (i := i) (n := s.out.length) (by omega) (by omega)
    have ha := rAdd_fn f g ns us hu hc o (k + 2 + s.code.length + s.mem.length + (s.out.take i).length) hBi (by omega) x.1 x.2 hxn.1 hxn.2.1 hxn.2.2
    obtain ⟨y', hy'⟩ : ∃ y', addZ us o x.1 x.2 = y' := ⟨_, rfl⟩
    rw [hy'] at hst ha
    simp only [encZ] at ha ⊢
    repeat' first | (with_reducible first | refine AWP_seq' ?_ | refine k_normal ?_ | refine b_normal ?_ | refine AWP_skip ?_ | refine AWP_block ?_) | ((with_reducible refine And.intro ?_ ?_); · exact Sq) | ((first | with_reducible refine AWP_reg fun KC J hJ hKC => ?_ | (refine hKC _ _ _ _ _ (callV0 (ha) rfl rfl rfl ?_ ?_); (· exact Lq))); simp (maxSteps := 10000000) only [push_cast, seval, ↓reduceIte, hlt, wr, getE_p hx, undef]) | ((with_reducible refine hJ _ _ ?_); clear hJ hKC KC J) | ((with_reducible refine AWP_condT ?_ ?_); · rfl)
    refine ⟨⟨_, hi1⟩, by simp only; omega, ?_, ?_⟩
    · exact Lq
    · simp only [hst]
      exact ⟨[_, _, _, _], _, rfl, .inr (.inl rfl), .inr (.inl rfl), .inr (.inl rfl), .inr (.inl rfl), trivial⟩
  have hin : i = s.out.length := by omega
  have hBo := hBe hin
  subst hin
  rw [List.take_length] at hyo
  rw [hyo] at hBo ⊢
  simp only [encZ]
  repeat' first | (with_reducible first | refine AWP_seq' ?_ | refine k_normal ?_ | refine k_exit ?_ | refine b_exit ?_ | refine AWP_exit ?_ | refine AWP_block ?_) | ((with_reducible refine AWP_reg fun KC J hJ hKC => ?_); simp (maxSteps := 10000000) only [push_cast, seval, ↓reduceIte, hlt]) | ((with_reducible refine hJ _ _ ?_); clear hJ hKC KC J) | ((with_reducible refine AWP_condF ?_ ?_); · rfl)
  refine AWP_loopE 4 (γ := {i : Nat // i ≤ s.stack.length}) (fun i => ⟨[.any, .any, .any, .ptr 0 0 0, .ptr 1 0 0, .ptr 2 0 0, .ptr 3 0 0, .any, .any, .any, .any, .any, .any, .any, .any, .any, .any, .any, .any, .any, .any, .any, .any, .any, .any, .any, .any, .any, .any, .any, .any, .any, .any, .any, .any, .any, .any, .any, .any, .any, .any, .any, .any, .any, .any, .any, .any, .any, .any, .any, .any, .any, .any, .any, .any, .any, .any, .any, .any, .any, .any, .any, .any, .any, .any, .any, .any, .any, .any, .any, .any, .any, .any, .any, .any, .any, .any, .any, .any, .any, .any, .any, .any, .any, .any, .any, .any, .any, .any, .any, .any, .any, .any, .any, .any, .any, .any, .any, .any, .any, .any, .any, .any, .any, .any, .any, .sl false 3 (sRow s.stack), .v (.int .i64 s.stack.length), .v (.int .i64 i.1), .any, .any, .any, .any, .any, .any, .any, .any, .any, .any, .any, .any], [.ent ⟨0, none, 25, [.sl f 1 (strRow ns), .sl g 1 (u32Row us)], .cells⟩, .ent ⟨0, none, 66, encZ (slotZ us o (s.stack.take i.1)), .cells⟩, .ent ⟨0, none, 39, [.v (.int .i64 s.v), .v (.int .i64 s.l), .sl false 3 (tRow s.code), .sl false 2 (pRow s.mem), .sl false 3 (sRow s.stack), .sl false 2 (pRow s.out)], .cells⟩, .ent ⟨0, none, 66, [.v (.int .i64 0), .v (.int .i64 0), .v (.int .i64 0)], .cells⟩]⟩) (fun i => s.stack.length - i.1) ⟨0, by omega⟩ rfl (fun i => Nat.le_refl _) (fun i => clsd_all rfl) (fun i => rfl) ⟨?_, ?_⟩ ?_
  · exact Lq
  · simp only [List.take_zero, codeZ, atomZ, slotZ, List.foldl_nil]
    exact Fq
  clear hlt
  rintro ⟨i, hi⟩
  have hBi : Bz (k + 2 + s.code.length + s.mem.length + s.out.length + (s.stack.take i).length) (slotZ us o (s.stack.take i)) := foldl_B (fun x hx k z h => h.add (hstack x (List.mem_of_mem_take hx)).1 (hstack x (List.mem_of_mem_take hx)).2.1) hBo
  have htl := List.length_take_le i s.stack
  have hBe : i = s.stack.length → Bz (k + 2 + s.code.length + s.mem.length + s.out.length + s.stack.length) (slotZ us o s.stack) := fun h => by rw [h, List.take_length] at hBi; exact hBi
  obtain ⟨q, hyq⟩ : ∃ r, slotZ us o (s.stack.take i) = r := ⟨_, rfl⟩
  rw [hyq] at hBi
  simp only [hyq]
  by_cases hlt : (i : Int) < (s.stack.length : Int)
  · have hx : s.stack[i]? = some s.stack[i] := List.getElem?_eq_getElem (by omega)
    have hxn := hstack s.stack[i] (List.getElem_mem (by omega))
    obtain ⟨x, hxx⟩ : ∃ x, s.stack[i] = x := ⟨_, rfl⟩
    rw [hxx] at hx hxn
    have hst := slotZ_succ us o hx
    rw [hyq] at hst
    have hi1 : i + 1 ≤ s.stack.length := by omega
    have wr := wrapN (i := i) (n := s.stack.length) (by omega) (by omega)
    have ha := rAdd_fn f g ns us hu hc q (k + 2 + s.code.length + s.mem.length + s.out.length + (s.stack.take i).length) hBi (by omega) x.2.1 x.2.2 hxn.1 hxn.2.1 hxn.2.2
    obtain ⟨y', hy'⟩ : ∃ y', addZ us q x.2.1 x.2.2 = y' := ⟨_, rfl⟩
    rw [hy'] at hst ha
    simp only [encZ] at ha ⊢
    repeat' first | (with_reducible first | refine AWP_seq' ?_ | refine k_normal ?_ | refine b_normal ?_ | refine AWP_skip ?_ | refine AWP_block ?_) | ((with_reducible refine And.intro ?_ ?_); · exact Sq) | ((first | with_reducible refine AWP_reg fun KC J hJ hKC => ?_ | (refine hKC _ _ _ _ _ (callV0 (ha) rfl rfl rfl ?_ ?_); (· exact Lq))); simp (maxSteps := 10000000) only [push_cast, seval, ↓reduceIte, hlt, wr, getE_s hx, undef]) | ((with_reducible refine hJ _ _ ?_); clear hJ hKC KC J) | ((with_reducible refine AWP_condT ?_ ?_); · rfl)
    refine ⟨⟨_, hi1⟩, by simp only; omega, ?_, ?_⟩
    · exact Lq
    · simp only [hst]
      exact ⟨[_, _, _, _], _, rfl, .inr (.inl rfl), .inr (.inl rfl), .inr (.inl rfl), .inr (.inl rfl), trivial⟩
  have hin : i = s.stack.length := by omega
  have hBq := hBe hin
  subst hin
  rw [List.take_length] at hyq
  rw [hyq] at hBq ⊢
  simp only [encZ]
  repeat' first | (with_reducible first | refine AWP_seq' ?_ | refine k_normal ?_ | refine k_exit ?_ | refine b_exit ?_ | refine AWP_ret ?_ | refine AWP_exit ?_) | ((with_reducible refine AWP_reg fun KC J hJ hKC => ?_); simp (maxSteps := 10000000) only [push_cast, seval, ↓reduceIte, hlt]) | ((with_reducible refine hJ _ _ ?_); clear hJ hKC KC J) | ((with_reducible refine AWP_condF ?_ ?_); · rfl)
  refine ret_plain ?_
  simp (maxSteps := 10000000) only [push_cast, seval, ↓reduceIte, show Tryz.f76.results = #[(.cell 6 66)] from rfl]
  exact Lq
end Go.Proofs.YtabliglgeiajlaaGreat.AM

/- The reference: what may be, and is in a space. -/
namespace Go.Proofs.YtabliglgeiajlaaGreat.AM
open Go Go.RowKit Go.Proofs
set_option maxRecDepth 100000
set_option maxHeartbeats 4000000

theorem dec_beq (a b : Int) : decide (a = b) = (a == b) := by rw [Bool.eq_iff_iff]; simp
theorem odd_and (n : Nat) (a : Int) : (!oddL n a) = (decide (0 ≤ a) && decide (a < (n : Int))) := by rw [Bool.eq_iff_iff]; simp [oddL]
theorem inB01 (v : Int) : inB 0 1 v = ((v == 0) || (v == 1)) := by rw [Bool.eq_iff_iff]; simp [inB]; omega
theorem rInstr08_fn (n : Nat) (x : Int × Int × Int) : Fn Tryz.prog 250 [.v (.int .i64 n), .agg [.v (.int .i64 x.1), .v (.int .i64 x.2.1), .v (.int .i64 x.2.2)]] [] (.v (.bool (instrB n x))) [] := by
  obtain ⟨o, v, l⟩ := x
  simp only [instrB]
  by_cases e1 : o = 1
  · subst e1
    rw [if_pos rfl, odd_and, inB]
    obtain ⟨a1, ha1⟩ : ∃ b, decide (-20 ≤ v) = b := ⟨_, rfl⟩
    obtain ⟨a2, ha2⟩ : ∃ b, decide (v ≤ 20) = b := ⟨_, rfl⟩
    obtain ⟨a3, ha3⟩ : ∃ b, decide (0 ≤ l) = b := ⟨_, rfl⟩
    rw [ha1, ha2, ha3]
    cases a1 <;> cases a2 <;> cases a3
    all_goals
      refine Fn.of (fn := Tryz.f250) (by kernel_rfl) rfl (by kernel_rfl) ⟨[.v (.int .i64 n), .agg [.v (.int .i64 1), .v (.int .i64 v), .v (.int .i64 l)], .v undef, .v undef, .v undef, .v undef, .v undef, .v undef, .v undef, .v undef, .v undef, .v undef, .v undef, .v undef, .v undef, .v undef, .v undef, .v undef, .v undef, .v undef, .v undef, .v undef, .v undef, .v undef, .v undef, .v undef, .v undef, .v undef, .v undef, .v undef, .v undef, .v undef, .v undef, .v undef, .v undef, .v undef, .v undef, .v undef, .v undef, .v undef, .v undef, .v undef, .v undef, .v undef, .v undef, .v undef, .v undef, .v undef, .v undef, .v undef, .v undef, .v undef, .v undef, .v undef, .v undef, .v undef, .v undef, .v undef, .v undef, .v undef, .v undef, .v undef, .v undef, .v undef, .v undef, .v undef, .v undef, .v undef, .v undef, .v undef, .v undef, .v undef, .v undef, .v undef, .v undef, .v undef], []⟩ rfl ?_
      repeat' first | (with_reducible first | refine AWP_seq' ?_ | refine k_normal ?_ | refine k_ret ?_ | refine AWP_ret ?_) | ((with_reducible refine AWP_reg fun KC J hJ hKC => ?_); simp (maxSteps := 10000000) only [push_cast, seval, ↓reduceIte, ha1, ha2, ha3, undef]) | ((with_reducible refine hJ _ _ ?_); clear hJ hKC KC J) | ((with_reducible refine AWP_condT ?_ ?_); · rfl)
      refine ret_plain ?_
      simp (maxSteps := 10000000) only [push_cast, seval, ↓reduceIte, show Tryz.f250.results = #[(.tmp 4)] from rfl]
      exact Lq
  have e1' : (o == 1) = false := by simpa using e1
  rw [if_neg e1, dec_beq]
  obtain ⟨b1, hb1⟩ : ∃ b, decide (o < 0) = b := ⟨_, rfl⟩
  cases b1
  case true =>
    have := of_decide_eq_true hb1
    rw [show inB 0 12 o = false by simp [inB]; omega]
    refine Fn.of (fn := Tryz.f250) (by kernel_rfl) rfl (by kernel_rfl) ⟨[.v (.int .i64 n), .agg [.v (.int .i64 o), .v (.int .i64 v), .v (.int .i64 l)], .v undef, .v undef, .v undef, .v undef, .v undef, .v undef, .v undef, .v undef, .v undef, .v undef, .v undef, .v undef, .v undef, .v undef, .v undef, .v undef, .v undef, .v undef, .v undef, .v undef, .v undef, .v undef, .v undef, .v undef, .v undef, .v undef, .v undef, .v undef, .v undef, .v undef, .v undef, .v undef, .v undef, .v undef, .v undef, .v undef, .v undef, .v undef, .v undef, .v undef, .v undef, .v undef, .v undef, .v undef, .v undef, .v undef, .v undef, .v undef, .v undef, .v undef, .v undef, .v undef, .v undef, .v undef, .v undef, .v undef, .v undef, .v undef, .v undef, .v undef, .v undef, .v undef, .v undef, .v undef, .v undef, .v undef, .v undef, .v undef, .v undef, .v undef, .v undef, .v undef, .v undef, .v undef], []⟩ rfl ?_
    repeat' first | (with_reducible first | refine AWP_seq' ?_ | refine k_normal ?_ | refine k_ret ?_ | refine AWP_ret ?_ | refine AWP_skip ?_) | ((with_reducible refine AWP_reg fun KC J hJ hKC => ?_); simp (maxSteps := 10000000) only [push_cast, seval, ↓reduceIte, e1', hb1, undef]) | ((with_reducible refine hJ _ _ ?_); clear hJ hKC KC J) | ((with_reducible refine AWP_condT ?_ ?_); · rfl) | ((with_reducible refine AWP_condF ?_ ?_); · rfl)
    refine ret_plain ?_
    simp (maxSteps := 10000000) only [push_cast, seval, ↓reduceIte, show Tryz.f250.results = #[(.tmp 4)] from rfl]
    exact Lq
  have hb := of_decide_eq_false hb1
  obtain ⟨b2, hb2⟩ : ∃ b, decide (12 < o) = b := ⟨_, rfl⟩
  cases b2
  case true =>
    have := of_decide_eq_true hb2
    rw [show inB 0 12 o = false by simp [inB]; omega]
    refine Fn.of (fn := Tryz.f250) (by kernel_rfl) rfl (by kernel_rfl) ⟨[.v (.int .i64 n), .agg [.v (.int .i64 o), .v (.int .i64 v), .v (.int .i64 l)], .v undef, .v undef, .v undef, .v undef, .v undef, .v undef, .v undef, .v undef, .v undef, .v undef, .v undef, .v undef, .v undef, .v undef, .v undef, .v undef, .v undef, .v undef, .v undef, .v undef, .v undef, .v undef, .v undef, .v undef, .v undef, .v undef, .v undef, .v undef, .v undef, .v undef, .v undef, .v undef, .v undef, .v undef, .v undef, .v undef, .v undef, .v undef, .v undef, .v undef, .v undef, .v undef, .v undef, .v undef, .v undef, .v undef, .v undef, .v undef, .v undef, .v undef, .v undef, .v undef, .v undef, .v undef, .v undef, .v undef, .v undef, .v undef, .v undef, .v undef, .v undef, .v undef, .v undef, .v undef, .v undef, .v undef, .v undef, .v undef, .v undef, .v undef, .v undef, .v undef, .v undef, .v undef], []⟩ rfl ?_
    repeat' first | (with_reducible first | refine AWP_seq' ?_ | refine k_normal ?_ | refine k_ret ?_ | refine AWP_ret ?_ | refine AWP_skip ?_) | ((with_reducible refine AWP_reg fun KC J hJ hKC => ?_); simp (maxSteps := 10000000) only [push_cast, seval, ↓reduceIte, e1', hb1, hb2, undef]) | ((with_reducible refine hJ _ _ ?_); clear hJ hKC KC J) | ((with_reducible refine AWP_condT ?_ ?_); · rfl) | ((with_reducible refine AWP_condF ?_ ?_); · rfl)
    refine ret_plain ?_
    simp (maxSteps := 10000000) only [push_cast, seval, ↓reduceIte, show Tryz.f250.results = #[(.tmp 4)] from rfl]
    exact Lq
  have hbb := of_decide_eq_false hb2
  rw [show inB 0 12 o = true by simp [inB]; omega]
  obtain ⟨c1, hc1⟩ : ∃ b, (l == 0) = b := ⟨_, rfl⟩
  have hc1' : (l != 0) = !c1 := by rw [← hc1]; rfl
  rw [hc1]
  cases c1
  case false =>
    refine Fn.of (fn := Tryz.f250) (by kernel_rfl) rfl (by kernel_rfl) ⟨[.v (.int .i64 n), .agg [.v (.int .i64 o), .v (.int .i64 v), .v (.int .i64 l)], .v undef, .v undef, .v undef, .v undef, .v undef, .v undef, .v undef, .v undef, .v undef, .v undef, .v undef, .v undef, .v undef, .v undef, .v undef, .v undef, .v undef, .v undef, .v undef, .v undef, .v undef, .v undef, .v undef, .v undef, .v undef, .v undef, .v undef, .v undef, .v undef, .v undef, .v undef, .v undef, .v undef, .v undef, .v undef, .v undef, .v undef, .v undef, .v undef, .v undef, .v undef, .v undef, .v undef, .v undef, .v undef, .v undef, .v undef, .v undef, .v undef, .v undef, .v undef, .v undef, .v undef, .v undef, .v undef, .v undef, .v undef, .v undef, .v undef, .v undef, .v undef, .v undef, .v undef, .v undef, .v undef, .v undef, .v undef, .v undef, .v undef, .v undef, .v undef, .v undef, .v undef, .v undef], []⟩ rfl ?_
    repeat' first | (with_reducible first | refine AWP_seq' ?_ | refine k_normal ?_ | refine k_ret ?_ | refine AWP_ret ?_ | refine AWP_skip ?_) | ((with_reducible refine AWP_reg fun KC J hJ hKC => ?_); simp (maxSteps := 10000000) only [push_cast, seval, ↓reduceIte, e1', hb1, hb2, hc1', undef]) | ((with_reducible refine hJ _ _ ?_); clear hJ hKC KC J) | ((with_reducible refine AWP_condT ?_ ?_); · rfl) | ((with_reducible refine AWP_condF ?_ ?_); · rfl)
    refine ret_plain ?_
    simp (maxSteps := 10000000) only [push_cast, seval, ↓reduceIte, show Tryz.f250.results = #[(.tmp 4)] from rfl]
    exact Lq
  by_cases e8 : o = 8
  · subst e8
    rw [if_pos rfl, inB]
    obtain ⟨a1, ha1⟩ : ∃ b, decide (0 ≤ v) = b := ⟨_, rfl⟩
    rw [ha1]
    cases a1
    all_goals
      refine Fn.of (fn := Tryz.f250) (by kernel_rfl) rfl (by kernel_rfl) ⟨[.v (.int .i64 n), .agg [.v (.int .i64 8), .v (.int .i64 v), .v (.int .i64 l)], .v undef, .v undef, .v undef, .v undef, .v undef, .v undef, .v undef, .v undef, .v undef, .v undef, .v undef, .v undef, .v undef, .v undef, .v undef, .v undef, .v undef, .v undef, .v undef, .v undef, .v undef, .v undef, .v undef, .v undef, .v undef, .v undef, .v undef, .v undef, .v undef, .v undef, .v undef, .v undef, .v undef, .v undef, .v undef, .v undef, .v undef, .v undef, .v undef, .v undef, .v undef, .v undef, .v undef, .v undef, .v undef, .v undef, .v undef, .v undef, .v undef, .v undef, .v undef, .v undef, .v undef, .v undef, .v undef, .v undef, .v undef, .v undef, .v undef, .v undef, .v undef, .v undef, .v undef, .v undef, .v undef, .v undef, .v undef, .v undef, .v undef, .v undef, .v undef, .v undef, .v undef, .v undef], []⟩ rfl ?_
      repeat' first | (with_reducible first | refine AWP_seq' ?_ | refine k_normal ?_ | refine k_ret ?_ | refine AWP_ret ?_ | refine AWP_skip ?_) | ((with_reducible refine AWP_reg fun KC J hJ hKC => ?_); simp (maxSteps := 10000000) only [push_cast, seval, ↓reduceIte, hc1', ha1, undef]) | ((with_reducible refine hJ _ _ ?_); clear hJ hKC KC J) | ((with_reducible refine AWP_condT ?_ ?_); · rfl) | ((with_reducible refine AWP_condF ?_ ?_); · rfl)
      refine ret_plain ?_
      simp (maxSteps := 10000000) only [push_cast, seval, ↓reduceIte, show Tryz.f250.results = #[(.tmp 4)] from rfl]
      exact Lq
  rw [if_neg e8]
  by_cases e9 : o = 9
  · subst e9
    rw [if_pos rfl, inB]
    obtain ⟨a1, ha1⟩ : ∃ b, decide (0 ≤ v) = b := ⟨_, rfl⟩
    rw [ha1]
    cases a1
    all_goals
      refine Fn.of (fn := Tryz.f250) (by kernel_rfl) rfl (by kernel_rfl) ⟨[.v (.int .i64 n), .agg [.v (.int .i64 9), .v (.int .i64 v), .v (.int .i64 l)], .v undef, .v undef, .v undef, .v undef, .v undef, .v undef, .v undef, .v undef, .v undef, .v undef, .v undef, .v undef, .v undef, .v undef, .v undef, .v undef, .v undef, .v undef, .v undef, .v undef, .v undef, .v undef, .v undef, .v undef, .v undef, .v undef, .v undef, .v undef, .v undef, .v undef, .v undef, .v undef, .v undef, .v undef, .v undef, .v undef, .v undef, .v undef, .v undef, .v undef, .v undef, .v undef, .v undef, .v undef, .v undef, .v undef, .v undef, .v undef, .v undef, .v undef, .v undef, .v undef, .v undef, .v undef, .v undef, .v undef, .v undef, .v undef, .v undef, .v undef, .v undef, .v undef, .v undef, .v undef, .v undef, .v undef, .v undef, .v undef, .v undef, .v undef, .v undef, .v undef, .v undef, .v undef], []⟩ rfl ?_
      repeat' first | (with_reducible first | refine AWP_seq' ?_ | refine k_normal ?_ | refine k_ret ?_ | refine AWP_ret ?_ | refine AWP_skip ?_) | ((with_reducible refine AWP_reg fun KC J hJ hKC => ?_); simp (maxSteps := 10000000) only [push_cast, seval, ↓reduceIte, hc1', ha1, undef]) | ((with_reducible refine hJ _ _ ?_); clear hJ hKC KC J) | ((with_reducible refine AWP_condT ?_ ?_); · rfl) | ((with_reducible refine AWP_condF ?_ ?_); · rfl)
      refine ret_plain ?_
      simp (maxSteps := 10000000) only [push_cast, seval, ↓reduceIte, show Tryz.f250.results = #[(.tmp 4)] from rfl]
      exact Lq
  rw [if_neg e9]
  by_cases e10 : o = 10
  · subst e10
    rw [if_pos rfl, inB01]
    obtain ⟨a1, ha1⟩ : ∃ b, (v == 0) = b := ⟨_, rfl⟩
    rw [ha1]
    cases a1
    all_goals
      refine Fn.of (fn := Tryz.f250) (by kernel_rfl) rfl (by kernel_rfl) ⟨[.v (.int .i64 n), .agg [.v (.int .i64 10), .v (.int .i64 v), .v (.int .i64 l)], .v undef, .v undef, .v undef, .v undef, .v undef, .v undef, .v undef, .v undef, .v undef, .v undef, .v undef, .v undef, .v undef, .v undef, .v undef, .v undef, .v undef, .v undef, .v undef, .v undef, .v undef, .v undef, .v undef, .v undef, .v undef, .v undef, .v undef, .v undef, .v undef, .v undef, .v undef, .v undef, .v undef, .v undef, .v undef, .v undef, .v undef, .v undef, .v undef, .v undef, .v undef, .v undef, .v undef, .v undef, .v undef, .v undef, .v undef, .v undef, .v undef, .v undef, .v undef, .v undef, .v undef, .v undef, .v undef, .v undef, .v undef, .v undef, .v undef, .v undef, .v undef, .v undef, .v undef, .v undef, .v undef, .v undef, .v undef, .v undef, .v undef, .v undef, .v undef, .v undef, .v undef, .v undef], []⟩ rfl ?_
      repeat' first | (with_reducible first | refine AWP_seq' ?_ | refine k_normal ?_ | refine k_ret ?_ | refine AWP_ret ?_ | refine AWP_skip ?_) | ((with_reducible refine AWP_reg fun KC J hJ hKC => ?_); simp (maxSteps := 10000000) only [push_cast, seval, ↓reduceIte, hc1', ha1, undef]) | ((with_reducible refine hJ _ _ ?_); clear hJ hKC KC J) | ((with_reducible refine AWP_condT ?_ ?_); · rfl) | ((with_reducible refine AWP_condF ?_ ?_); · rfl)
      refine ret_plain ?_
      simp (maxSteps := 10000000) only [push_cast, seval, ↓reduceIte, show Tryz.f250.results = #[(.tmp 4)] from rfl]
      exact Lq
  rw [if_neg e10, dec_beq]
  have e8' : (o == 8) = false := by simpa using e8
  have e9' : (o == 9) = false := by simpa using e9
  have e10' : (o == 10) = false := by simpa using e10
  refine Fn.of (fn := Tryz.f250) (by kernel_rfl) rfl (by kernel_rfl) ⟨[.v (.int .i64 n), .agg [.v (.int .i64 o), .v (.int .i64 v), .v (.int .i64 l)], .v undef, .v undef, .v undef, .v undef, .v undef, .v undef, .v undef, .v undef, .v undef, .v undef, .v undef, .v undef, .v undef, .v undef, .v undef, .v undef, .v undef, .v undef, .v undef, .v undef, .v undef, .v undef, .v undef, .v undef, .v undef, .v undef, .v undef, .v undef, .v undef, .v undef, .v undef, .v undef, .v undef, .v undef, .v undef, .v undef, .v undef, .v undef, .v undef, .v undef, .v undef, .v undef, .v undef, .v undef, .v undef, .v undef, .v undef, .v undef, .v undef, .v undef, .v undef, .v undef, .v undef, .v undef, .v undef, .v undef, .v undef, .v undef, .v undef, .v undef, .v undef, .v undef, .v undef, .v undef, .v undef, .v undef, .v undef, .v undef, .v undef, .v undef, .v undef, .v undef, .v undef, .v undef], []⟩ rfl ?_
  repeat' first | (with_reducible first | refine AWP_seq' ?_ | refine k_normal ?_ | refine AWP_ret ?_ | refine AWP_skip ?_) | ((with_reducible refine AWP_reg fun KC J hJ hKC => ?_); simp (maxSteps := 10000000) only [push_cast, seval, ↓reduceIte, e1', hb1, hb2, hc1', e8', e9', e10', undef]) | ((with_reducible refine hJ _ _ ?_); clear hJ hKC KC J) | ((with_reducible refine AWP_condF ?_ ?_); · rfl)
  refine ret_plain ?_
  simp (maxSteps := 10000000) only [push_cast, seval, ↓reduceIte, show Tryz.f250.results = #[(.tmp 4)] from rfl]
  exact Lq
theorem rRight08_fn (f g h : Bool) (ns : List ByteArray) (us : List Nat) (xs : List (Int × Int × Int)) (hl : xs.length ≤ 1000) :
    Fn Tryz.prog 156 [.agg [.sl f 1 (strRow ns), .sl g 1 (u32Row us)], .sl h 3 (tRow xs)] [] (.v (.bool (codeB us.length xs))) [] := by
  refine Fn.of (fn := Tryz.f156) (by kernel_rfl) rfl (by kernel_rfl) ⟨[.agg [.sl f 1 (strRow ns), .sl g 1 (u32Row us)], .sl h 3 (tRow xs), .v undef, .v undef, .v undef, .v undef, .v undef, .v undef, .v undef, .v undef, .v undef, .v undef, .v undef, .v undef, .v undef, .v undef, .v undef, .v undef, .v undef, .v undef, .v undef, .v undef, .v undef], []⟩ rfl ?_
  repeat' first | (with_reducible first | refine AWP_seq' ?_ | refine k_normal ?_ | refine AWP_block ?_) | ((with_reducible refine AWP_reg fun KC J hJ hKC => ?_); simp (maxSteps := 10000000) only [push_cast, seval, ↓reduceIte]) | ((with_reducible refine hJ _ _ ?_); clear hJ hKC KC J)
  refine AWP_loopD 1 (γ := {i : Nat // i ≤ xs.length ∧ ∀ (j : Nat) (x : Int × Int × Int), j < i → xs[j]? = some x → (instrB us.length x) = true}) (fun i => ⟨[.any, .sl h 3 (tRow xs), .ptr 0 0 0, .any, .any, .any, .any, .sl h 3 (tRow xs), .v (.int .i64 xs.length), .v (.int .i64 i.1), .any, .any, .any, .any, .any, .any, .any, .any, .any, .any, .any, .any, .any], [.ent ⟨0, none, 25, [.sl f 1 (strRow ns), .sl g 1 (u32Row us)], .cells⟩]⟩) (fun i => xs.length - i.1) ⟨0, by simp⟩ (fun i => rfl) (fun i => clsd_all rfl) (fun i => rfl) ⟨?_, Fq⟩ ?_
  · exact Lq
  rintro ⟨i, hi, hno⟩
  by_cases hlt : (i : Int) < (xs.length : Int)
  · have hx : xs[i]? = some xs[i] := List.getElem?_eq_getElem (by omega)
    obtain ⟨x, hx0⟩ : ∃ x, xs[i] = x := ⟨_, rfl⟩
    rw [hx0] at hx
    have hnot : (instrB us.length x) = false → xs.all (instrB us.length) = false := fun h => by
      rw [List.all_eq_false]; exact ⟨x, List.mem_of_getElem? hx, by rw [h]; simp⟩
    have hyes : (instrB us.length x) = true → ∀ (j : Nat) (y : Int × Int × Int), j < i + 1 → xs[j]? = some y → (instrB us.length y) = true := fun h j y hj hy => by
      by_cases hji : j = i
      · subst hji; rw [hx] at hy; cases hy; exact h
      · exact hno j y (by omega) hy
    have h1 := rInstr08_fn us.length x
    cases hb : instrB us.length x
    · rw [hb] at h1
      repeat' first | (with_reducible first | refine AWP_seq' ?_ | refine k_normal ?_ | refine k_ret ?_ | refine b_ret ?_ | refine AWP_ret ?_ | refine AWP_skip ?_ | refine AWP_block ?_) | ((with_reducible refine And.intro ?_ ?_); · exact Sq) | ((first | with_reducible refine AWP_reg fun KC J hJ hKC => ?_ | (refine hKC _ _ _ _ _ (callV0 (h1) rfl rfl rfl ?_ ?_); (· exact Lq))); simp (maxSteps := 10000000) only [push_cast, seval, ↓reduceIte, hlt, getE_t hx, undef]) | ((with_reducible refine hJ _ _ ?_); clear hJ hKC KC J) | ((with_reducible refine AWP_condT ?_ ?_); · rfl)
      refine ret_plain ?_
      simp (maxSteps := 10000000) only [push_cast, seval, ↓reduceIte, show Tryz.f156.results = #[(.tmp 4)] from rfl]
      rw [codeB, hnot hb]
      exact Lq
    · rw [hb] at h1
      repeat' first | (with_reducible first | refine AWP_seq' ?_ | refine k_normal ?_ | refine b_normal ?_ | refine AWP_skip ?_ | refine AWP_block ?_) | ((with_reducible refine And.intro ?_ ?_); · exact Sq) | ((first | with_reducible refine AWP_reg fun KC J hJ hKC => ?_ | (refine hKC _ _ _ _ _ (callV0 (h1) rfl rfl rfl ?_ ?_); (· exact Lq))); simp (maxSteps := 10000000) only [push_cast, seval, ↓reduceIte, hlt, getE_t hx, wrapN (i := i) (n := xs.length) (by omega) (by omega), undef]) | ((with_reducible refine hJ _ _ ?_); clear hJ hKC KC J) | ((with_reducible refine AWP_condT ?_ ?_); · rfl) | ((with_reducible refine AWP_condF ?_ ?_); · rfl)
      refine ⟨⟨i + 1, by omega, hyes hb⟩, by simp only; omega, ?_, ⟨_, rfl⟩⟩
      exact Lq

  have hin : i = xs.length := by omega
  have hall : xs.all (instrB us.length) = true := by
    rw [List.all_eq_true]
    intro x hx
    obtain ⟨j, hj⟩ := List.mem_iff_getElem?.1 hx
    exact hno j x (by have := (List.getElem?_eq_some_iff.1 hj).1; omega) hj
  repeat' first | (with_reducible first | refine AWP_seq' ?_ | refine k_normal ?_ | refine k_exit ?_ | refine b_exit ?_ | refine AWP_ret ?_ | refine AWP_exit ?_) | ((with_reducible refine AWP_reg fun KC J hJ hKC => ?_); simp (maxSteps := 10000000) only [push_cast, seval, ↓reduceIte, hlt]) | ((with_reducible refine hJ _ _ ?_); clear hJ hKC KC J) | ((with_reducible refine AWP_condF ?_ ?_); · rfl)
  refine ret_plain ?_
  simp (maxSteps := 10000000) only [push_cast, seval, ↓reduceIte, show Tryz.f156.results = #[(.tmp 4)] from rfl]
  rw [codeB, hall, Bool.true_and, show decide (xs.length ≤ 12) = decide ((xs.length : Int) ≤ 12) from decide_eq_decide.2 (by omega)]
  exact Lq
theorem rLabel09_fn (f g : Bool) (ns : List ByteArray) (us : List Nat) (a : Int) : Fn Tryz.prog 157 [.agg [.sl f 1 (strRow ns), .sl g 1 (u32Row us)], .v (.int .i64 a)] [] (.v (.bool (!oddL us.length a))) [] := by
  rw [odd_and]
  obtain ⟨x, hx⟩ : ∃ x, decide (0 ≤ a) = x := ⟨_, rfl⟩
  rw [hx]
  refine Fn.of (fn := Tryz.f157) (by kernel_rfl) rfl (by kernel_rfl) ⟨[.agg [.sl f 1 (strRow ns), .sl g 1 (u32Row us)], .v (.int .i64 a), .v undef, .v undef, .v undef, .v undef, .v undef, .v undef, .v undef, .v undef, .v undef, .v undef, .v undef, .v undef], []⟩ rfl ?_
  cases x
  all_goals
    repeat' first | (with_reducible first | refine AWP_seq' ?_ | refine k_normal ?_ | refine AWP_ret ?_) | ((with_reducible refine AWP_reg fun KC J hJ hKC => ?_); simp (maxSteps := 10000000) only [push_cast, seval, ↓reduceIte, hx, undef]) | ((with_reducible refine hJ _ _ ?_); clear hJ hKC KC J)
    refine ret_plain ?_
    simp (maxSteps := 10000000) only [push_cast, seval, ↓reduceIte, show Tryz.f157.results = #[(.tmp 4)] from rfl]
    exact Lq
theorem rAtoms09_fn (f g h : Bool) (ns : List ByteArray) (us : List Nat) (xs : List (Int × Int)) (hl : xs.length ≤ 1000) :
    Fn Tryz.prog 158 [.agg [.sl f 1 (strRow ns), .sl g 1 (u32Row us)], .sl h 2 (pRow xs)] [] (.v (.bool (xs.all (atomB us.length)))) [] := by
  refine Fn.of (fn := Tryz.f158) (by kernel_rfl) rfl (by kernel_rfl) ⟨[.agg [.sl f 1 (strRow ns), .sl g 1 (u32Row us)], .sl h 2 (pRow xs), .v undef, .v undef, .v undef, .v undef, .v undef, .v undef, .v undef, .v undef, .v undef, .v undef, .v undef, .v undef, .v undef, .v undef, .v undef, .v undef, .v undef, .v undef, .v undef, .v undef, .v undef, .v undef, .v undef, .v undef, .v undef, .v undef, .v undef], []⟩ rfl ?_
  repeat' first | (with_reducible first | refine AWP_seq' ?_ | refine k_normal ?_ | refine AWP_block ?_) | ((with_reducible refine AWP_reg fun KC J hJ hKC => ?_); simp (maxSteps := 10000000) only [push_cast, seval, ↓reduceIte]) | ((with_reducible refine hJ _ _ ?_); clear hJ hKC KC J)
  refine AWP_loopD 1 (γ := {i : Nat // i ≤ xs.length ∧ ∀ (j : Nat) (x : Int × Int), j < i → xs[j]? = some x → (atomB us.length x) = true}) (fun i => ⟨[.any, .sl h 2 (pRow xs), .ptr 0 0 0, .any, .any, .any, .any, .sl h 2 (pRow xs), .v (.int .i64 xs.length), .v (.int .i64 i.1), .any, .any, .any, .any, .any, .any, .any, .any, .any, .any, .any, .any, .any, .any, .any, .any, .any, .any, .any], [.ent ⟨0, none, 25, [.sl f 1 (strRow ns), .sl g 1 (u32Row us)], .cells⟩]⟩) (fun i => xs.length - i.1) ⟨0, by simp⟩ (fun i => rfl) (fun i => clsd_all rfl) (fun i => rfl) ⟨?_, Fq⟩ ?_
  · exact Lq
  rintro ⟨i, hi, hno⟩
  by_cases hlt : (i : Int) < (xs.length : Int)
  · have hx : xs[i]? = some xs[i] := List.getElem?_eq_getElem (by omega)
    obtain ⟨x, hx0⟩ : ∃ x, xs[i] = x := ⟨_, rfl⟩
    rw [hx0] at hx
    have hnot : (atomB us.length x) = false → xs.all (atomB us.length) = false := fun h => by
      rw [List.all_eq_false]; exact ⟨x, List.mem_of_getElem? hx, by rw [h]; simp⟩
    have hyes : (atomB us.length x) = true → ∀ (j : Nat) (y : Int × Int), j < i + 1 → xs[j]? = some y → (atomB us.length y) = true := fun h j y hj hy => by
      by_cases hji : j = i
      · subst hji; rw [hx] at hy; cases hy; exact h
      · exact hno j y (by omega) hy
    have h1 := rLabel09_fn f g ns us x.2
    obtain ⟨a1, ha1⟩ : ∃ b, decide (x.1 < -20) = b := ⟨_, rfl⟩
    obtain ⟨a2, ha2⟩ : ∃ b, decide (20 < x.1) = b := ⟨_, rfl⟩
    obtain ⟨a3, ha3⟩ : ∃ b, (!oddL us.length x.2) = b := ⟨_, rfl⟩
    have hpe : atomB us.length x = (!(a1 || a2) && a3) := by
      rw [← ha1, ← ha2, ← ha3, atomB, inB]; congr 1; rw [Bool.eq_iff_iff]; simp
    rw [ha3] at h1
    cases a1
    case true =>
      repeat' first | (with_reducible first | refine AWP_seq' ?_ | refine k_normal ?_ | refine k_ret ?_ | refine b_ret ?_ | refine AWP_ret ?_ | refine AWP_skip ?_ | refine AWP_block ?_) | ((with_reducible refine And.intro ?_ ?_); · exact Sq) | ((with_reducible refine AWP_reg fun KC J hJ hKC => ?_); simp (maxSteps := 10000000) only [push_cast, seval, ↓reduceIte, hlt, getE_p hx, ha1, ha2, undef]) | ((with_reducible refine hJ _ _ ?_); clear hJ hKC KC J) | ((with_reducible refine AWP_condT ?_ ?_); · rfl)
      refine ret_plain ?_
      simp (maxSteps := 10000000) only [push_cast, seval, ↓reduceIte, show Tryz.f158.results = #[(.tmp 4)] from rfl]
      rw [hnot (by rw [hpe]; first | rfl | (cases a2 <;> rfl))]
      exact Lq
    cases a2
    case true =>
      repeat' first | (with_reducible first | refine AWP_seq' ?_ | refine k_normal ?_ | refine k_ret ?_ | refine b_ret ?_ | refine AWP_ret ?_ | refine AWP_skip ?_ | refine AWP_block ?_) | ((with_reducible refine And.intro ?_ ?_); · exact Sq) | ((with_reducible refine AWP_reg fun KC J hJ hKC => ?_); simp (maxSteps := 10000000) only [push_cast, seval, ↓reduceIte, hlt, getE_p hx, ha1, ha2, undef]) | ((with_reducible refine hJ _ _ ?_); clear hJ hKC KC J) | ((with_reducible refine AWP_condT ?_ ?_); · rfl)
      refine ret_plain ?_
      simp (maxSteps := 10000000) only [push_cast, seval, ↓reduceIte, show Tryz.f158.results = #[(.tmp 4)] from rfl]
      rw [hnot (by rw [hpe]; first | rfl | (cases a2 <;> rfl))]
      exact Lq
    cases a3
    case false =>
      repeat' first | (with_reducible first | refine AWP_seq' ?_ | refine k_normal ?_ | refine k_ret ?_ | refine b_ret ?_ | refine AWP_ret ?_ | refine AWP_skip ?_ | refine AWP_block ?_) | ((with_reducible refine And.intro ?_ ?_); · exact Sq) | ((first | with_reducible refine AWP_reg fun KC J hJ hKC => ?_ | (refine hKC _ _ _ _ _ (callV0 (h1) rfl rfl rfl ?_ ?_); (· exact Lq))); simp (maxSteps := 10000000) only [push_cast, seval, ↓reduceIte, hlt, getE_p hx, ha1, ha2, undef]) | ((with_reducible refine hJ _ _ ?_); clear hJ hKC KC J) | ((with_reducible refine AWP_condT ?_ ?_); · rfl)
      refine ret_plain ?_
      simp (maxSteps := 10000000) only [push_cast, seval, ↓reduceIte, show Tryz.f158.results = #[(.tmp 4)] from rfl]
      rw [hnot (by rw [hpe]; rfl)]
      exact Lq
    repeat' first | (with_reducible first | refine AWP_seq' ?_ | refine k_normal ?_ | refine b_normal ?_ | refine AWP_skip ?_ | refine AWP_block ?_) | ((with_reducible refine And.intro ?_ ?_); · exact Sq) | ((first | with_reducible refine AWP_reg fun KC J hJ hKC => ?_ | (refine hKC _ _ _ _ _ (callV0 (h1) rfl rfl rfl ?_ ?_); (· exact Lq))); simp (maxSteps := 10000000) only [push_cast, seval, ↓reduceIte, hlt, getE_p hx, ha1, ha2, wrapN (i := i) (n := xs.length) (by omega) (by omega), undef]) | ((with_reducible refine hJ _ _ ?_); clear hJ hKC KC J) | ((with_reducible refine AWP_condT ?_ ?_); · rfl) | ((with_reducible refine AWP_condF ?_ ?_); · rfl)
    refine ⟨⟨i + 1, by omega, hyes (by rw [hpe]; rfl)⟩, by simp only; omega, ?_, ⟨_, rfl⟩⟩
    exact Lq

  have hin : i = xs.length := by omega
  have hall : xs.all (atomB us.length) = true := by
    rw [List.all_eq_true]
    intro x hx
    obtain ⟨j, hj⟩ := List.mem_iff_getElem?.1 hx
    exact hno j x (by have := (List.getElem?_eq_some_iff.1 hj).1; omega) hj
  repeat' first | (with_reducible first | refine AWP_seq' ?_ | refine k_normal ?_ | refine k_exit ?_ | refine b_exit ?_ | refine AWP_ret ?_ | refine AWP_exit ?_) | ((with_reducible refine AWP_reg fun KC J hJ hKC => ?_); simp (maxSteps := 10000000) only [push_cast, seval, ↓reduceIte, hlt]) | ((with_reducible refine hJ _ _ ?_); clear hJ hKC KC J) | ((with_reducible refine AWP_condF ?_ ?_); · rfl)
  refine ret_plain ?_
  simp (maxSteps := 10000000) only [push_cast, seval, ↓reduceIte, show Tryz.f158.results = #[(.tmp 4)] from rfl]
  rw [hall]
  exact Lq
theorem rStack09_fn (f g h : Bool) (ns : List ByteArray) (us : List Nat) (xs : List (Bool × Int × Int)) (hl : xs.length ≤ 1000) :
    Fn Tryz.prog 159 [.agg [.sl f 1 (strRow ns), .sl g 1 (u32Row us)], .sl h 3 (sRow xs)] [] (.v (.bool (xs.all (slotB us.length) && decide (xs.length ≤ 12)))) [] := by
  refine Fn.of (fn := Tryz.f159) (by kernel_rfl) rfl (by kernel_rfl) ⟨[.agg [.sl f 1 (strRow ns), .sl g 1 (u32Row us)], .sl h 3 (sRow xs), .v undef, .v undef, .v undef, .v undef, .v undef, .v undef, .v undef, .v undef, .v undef, .v undef, .v undef, .v undef, .v undef, .v undef, .v undef, .v undef, .v undef, .v undef, .v undef, .v undef, .v undef, .v undef, .v undef, .v undef, .v undef, .v undef, .v undef, .v undef, .v undef, .v undef, .v undef, .v undef, .v undef, .v undef, .v undef, .v undef, .v undef, .v undef, .v undef, .v undef, .v undef, .v undef, .v undef, .v undef], []⟩ rfl ?_
  repeat' first | (with_reducible first | refine AWP_seq' ?_ | refine k_normal ?_ | refine AWP_block ?_) | ((with_reducible refine AWP_reg fun KC J hJ hKC => ?_); simp (maxSteps := 10000000) only [push_cast, seval, ↓reduceIte]) | ((with_reducible refine hJ _ _ ?_); clear hJ hKC KC J)
  refine AWP_loopD 1 (γ := {i : Nat // i ≤ xs.length ∧ ∀ (j : Nat) (x : Bool × Int × Int), j < i → xs[j]? = some x → (slotB us.length x) = true}) (fun i => ⟨[.any, .sl h 3 (sRow xs), .ptr 0 0 0, .any, .any, .any, .any, .sl h 3 (sRow xs), .v (.int .i64 xs.length), .v (.int .i64 i.1), .any, .any, .any, .any, .any, .any, .any, .any, .any, .any, .any, .any, .any, .any, .any, .any, .any, .any, .any, .any, .any, .any, .any, .any, .any, .any, .any, .any, .any, .any, .any, .any, .any, .any, .any, .any], [.ent ⟨0, none, 25, [.sl f 1 (strRow ns), .sl g 1 (u32Row us)], .cells⟩]⟩) (fun i => xs.length - i.1) ⟨0, by simp⟩ (fun i => rfl) (fun i => clsd_all rfl) (fun i => rfl) ⟨?_, Fq⟩ ?_
  · exact Lq
  rintro ⟨i, hi, hno⟩
  by_cases hlt : (i : Int) < (xs.length : Int)
  · have hx : xs[i]? = some xs[i] := List.getElem?_eq_getElem (by omega)
    obtain ⟨x, hx0⟩ : ∃ x, xs[i] = x := ⟨_, rfl⟩
    rw [hx0] at hx
    have hnot : (slotB us.length x) = false → xs.all (slotB us.length) = false := fun h => by
      rw [List.all_eq_false]; exact ⟨x, List.mem_of_getElem? hx, by rw [h]; simp⟩
    have hyes : (slotB us.length x) = true → ∀ (j : Nat) (y : Bool × Int × Int), j < i + 1 → xs[j]? = some y → (slotB us.length y) = true := fun h j y hj hy => by
      by_cases hji : j = i
      · subst hji; rw [hx] at hy; cases hy; exact h
      · exact hno j y (by omega) hy
    obtain ⟨r, v, l⟩ := x
    have h1 := rLabel09_fn f g ns us l
    obtain ⟨a1, ha1⟩ : ∃ b, decide (v < -20) = b := ⟨_, rfl⟩
    obtain ⟨a2, ha2⟩ : ∃ b, decide (20 < v) = b := ⟨_, rfl⟩
    obtain ⟨a3, ha3⟩ : ∃ b, (!oddL us.length l) = b := ⟨_, rfl⟩
    obtain ⟨a4, ha4⟩ : ∃ b, decide (v < 0) = b := ⟨_, rfl⟩
    obtain ⟨a5, ha5⟩ : ∃ b, decide (12 < v) = b := ⟨_, rfl⟩
    have hpe : slotB us.length (r, v, l) = (!(a1 || a2) && (a3 && !(r && (a4 || a5)))) := by
      rw [← ha1, ← ha2, ← ha3, ← ha4, ← ha5, slotB, inB, inB]
      cases r
      · simp only [Bool.false_eq_true, if_false, Bool.false_and, Bool.not_false, Bool.and_true]
        rw [Bool.and_comm]; congr 1; rw [Bool.eq_iff_iff]; simp
      · rw [Bool.eq_iff_iff]; simp; omega
    rw [ha3] at h1
    cases a1
    case true =>
      repeat' first | (with_reducible first | refine AWP_seq' ?_ | refine k_normal ?_ | refine k_ret ?_ | refine b_ret ?_ | refine AWP_ret ?_ | refine AWP_skip ?_ | refine AWP_block ?_) | ((with_reducible refine And.intro ?_ ?_); · exact Sq) | ((with_reducible refine AWP_reg fun KC J hJ hKC => ?_); simp (maxSteps := 10000000) only [push_cast, seval, ↓reduceIte, hlt, getE_s hx, ha1, ha2, ha4, ha5, undef]) | ((with_reducible refine hJ _ _ ?_); clear hJ hKC KC J) | ((with_reducible refine AWP_condT ?_ ?_); · rfl)
      refine ret_plain ?_
      simp (maxSteps := 10000000) only [push_cast, seval, ↓reduceIte, show Tryz.f159.results = #[(.tmp 4)] from rfl]
      rw [hnot (by rw [hpe]; first | rfl | (cases a2 <;> rfl))]
      exact Lq
    cases a2
    case true =>
      repeat' first | (with_reducible first | refine AWP_seq' ?_ | refine k_normal ?_ | refine k_ret ?_ | refine b_ret ?_ | refine AWP_ret ?_ | refine AWP_skip ?_ | refine AWP_block ?_) | ((with_reducible refine And.intro ?_ ?_); · exact Sq) | ((with_reducible refine AWP_reg fun KC J hJ hKC => ?_); simp (maxSteps := 10000000) only [push_cast, seval, ↓reduceIte, hlt, getE_s hx, ha1, ha2, ha4, ha5, undef]) | ((with_reducible refine hJ _ _ ?_); clear hJ hKC KC J) | ((with_reducible refine AWP_condT ?_ ?_); · rfl)
      refine ret_plain ?_
      simp (maxSteps := 10000000) only [push_cast, seval, ↓reduceIte, show Tryz.f159.results = #[(.tmp 4)] from rfl]
      rw [hnot (by rw [hpe]; first | rfl | (cases a2 <;> rfl))]
      exact Lq
    cases a3
    case false =>
      repeat' first | (with_reducible first | refine AWP_seq' ?_ | refine k_normal ?_ | refine k_ret ?_ | refine b_ret ?_ | refine AWP_ret ?_ | refine AWP_skip ?_ | refine AWP_block ?_) | ((with_reducible refine And.intro ?_ ?_); · exact Sq) | ((first | with_reducible refine AWP_reg fun KC J hJ hKC => ?_ | (refine hKC _ _ _ _ _ (callV0 (h1) rfl rfl rfl ?_ ?_); (· exact Lq))); simp (maxSteps := 10000000) only [push_cast, seval, ↓reduceIte, hlt, getE_s hx, ha1, ha2, ha4, ha5, undef]) | ((with_reducible refine hJ _ _ ?_); clear hJ hKC KC J) | ((with_reducible refine AWP_condT ?_ ?_); · rfl)
      refine ret_plain ?_
      simp (maxSteps := 10000000) only [push_cast, seval, ↓reduceIte, show Tryz.f159.results = #[(.tmp 4)] from rfl]
      rw [hnot (by rw [hpe]; rfl)]
      exact Lq
    cases r
    case false =>
      repeat' first | (with_reducible first | refine AWP_seq' ?_ | refine k_normal ?_ | refine b_normal ?_ | refine AWP_skip ?_ | refine AWP_block ?_) | ((with_reducible refine And.intro ?_ ?_); · exact Sq) | ((first | with_reducible refine AWP_reg fun KC J hJ hKC => ?_ | (refine hKC _ _ _ _ _ (callV0 (h1) rfl rfl rfl ?_ ?_); (· exact Lq))); simp (maxSteps := 10000000) only [push_cast, seval, ↓reduceIte, hlt, getE_s hx, ha1, ha2, ha4, ha5, wrapN (i := i) (n := xs.length) (by omega) (by omega), undef]) | ((with_reducible refine hJ _ _ ?_); clear hJ hKC KC J) | ((with_reducible refine AWP_condT ?_ ?_); · rfl) | ((with_reducible refine AWP_condF ?_ ?_); · rfl)
      refine ⟨⟨i + 1, by omega, hyes (by rw [hpe]; rfl)⟩, by simp only; omega, ?_, ⟨_, rfl⟩⟩
      exact Lq
    cases a4
    case true =>
      repeat' first | (with_reducible first | refine AWP_seq' ?_ | refine k_normal ?_ | refine k_ret ?_ | refine b_ret ?_ | refine AWP_ret ?_ | refine AWP_skip ?_ | refine AWP_block ?_) | ((with_reducible refine And.intro ?_ ?_); · exact Sq) | ((first | with_reducible refine AWP_reg fun KC J hJ hKC => ?_ | (refine hKC _ _ _ _ _ (callV0 (h1) rfl rfl rfl ?_ ?_); (· exact Lq))); simp (maxSteps := 10000000) only [push_cast, seval, ↓reduceIte, hlt, getE_s hx, ha1, ha2, ha4, ha5, undef]) | ((with_reducible refine hJ _ _ ?_); clear hJ hKC KC J) | ((with_reducible refine AWP_condT ?_ ?_); · rfl)
      refine ret_plain ?_
      simp (maxSteps := 10000000) only [push_cast, seval, ↓reduceIte, show Tryz.f159.results = #[(.tmp 4)] from rfl]
      rw [hnot (by rw [hpe]; rfl)]
      exact Lq
    cases a5
    case true =>
      repeat' first | (with_reducible first | refine AWP_seq' ?_ | refine k_normal ?_ | refine k_ret ?_ | refine b_ret ?_ | refine AWP_ret ?_ | refine AWP_skip ?_ | refine AWP_block ?_) | ((with_reducible refine And.intro ?_ ?_); · exact Sq) | ((first | with_reducible refine AWP_reg fun KC J hJ hKC => ?_ | (refine hKC _ _ _ _ _ (callV0 (h1) rfl rfl rfl ?_ ?_); (· exact Lq))); simp (maxSteps := 10000000) only [push_cast, seval, ↓reduceIte, hlt, getE_s hx, ha1, ha2, ha4, ha5, undef]) | ((with_reducible refine hJ _ _ ?_); clear hJ hKC KC J) | ((with_reducible refine AWP_condT ?_ ?_); · rfl)
      refine ret_plain ?_
      simp (maxSteps := 10000000) only [push_cast, seval, ↓reduceIte, show Tryz.f159.results = #[(.tmp 4)] from rfl]
      rw [hnot (by rw [hpe]; rfl)]
      exact Lq
    repeat' first | (with_reducible first | refine AWP_seq' ?_ | refine k_normal ?_ | refine b_normal ?_ | refine AWP_skip ?_ | refine AWP_block ?_) | ((with_reducible refine And.intro ?_ ?_); · exact Sq) | ((first | with_reducible refine AWP_reg fun KC J hJ hKC => ?_ | (refine hKC _ _ _ _ _ (callV0 (h1) rfl rfl rfl ?_ ?_); (· exact Lq))); simp (maxSteps := 10000000) only [push_cast, seval, ↓reduceIte, hlt, getE_s hx, ha1, ha2, ha4, ha5, wrapN (i := i) (n := xs.length) (by omega) (by omega), undef]) | ((with_reducible refine hJ _ _ ?_); clear hJ hKC KC J) | ((with_reducible refine AWP_condT ?_ ?_); · rfl) | ((with_reducible refine AWP_condF ?_ ?_); · rfl)
    refine ⟨⟨i + 1, by omega, hyes (by rw [hpe]; rfl)⟩, by simp only; omega, ?_, ⟨_, rfl⟩⟩
    exact Lq

  have hin : i = xs.length := by omega
  have hall : xs.all (slotB us.length) = true := by
    rw [List.all_eq_true]
    intro x hx
    obtain ⟨j, hj⟩ := List.mem_iff_getElem?.1 hx
    exact hno j x (by have := (List.getElem?_eq_some_iff.1 hj).1; omega) hj
  repeat' first | (with_reducible first | refine AWP_seq' ?_ | refine k_normal ?_ | refine k_exit ?_ | refine b_exit ?_ | refine AWP_ret ?_ | refine AWP_exit ?_) | ((with_reducible refine AWP_reg fun KC J hJ hKC => ?_); simp (maxSteps := 10000000) only [push_cast, seval, ↓reduceIte, hlt]) | ((with_reducible refine hJ _ _ ?_); clear hJ hKC KC J) | ((with_reducible refine AWP_condF ?_ ?_); · rfl)
  refine ret_plain ?_
  simp (maxSteps := 10000000) only [push_cast, seval, ↓reduceIte, show Tryz.f159.results = #[(.tmp 4)] from rfl]
  rw [hall, Bool.true_and, show decide (xs.length ≤ 12) = decide ((xs.length : Int) ≤ 12) from decide_eq_decide.2 (by omega)]
  exact Lq
end Go.Proofs.YtabliglgeiajlaaGreat.AM

/- Whether a state is in a space. -/
namespace Go.Proofs.YtabliglgeiajlaaGreat.AM
open Go Go.RowKit Go.Proofs
set_option maxRecDepth 100000
set_option maxHeartbeats 4000000

end Go.Proofs.YtabliglgeiajlaaGreat.AM

/- The reference: states that may be, and are in a space. -/
namespace Go.Proofs.YtabliglgeiajlaaGreat.AM
open Go Go.RowKit Go.Proofs
set_option maxRecDepth 100000
set_option maxHeartbeats 8000000

theorem rRight09_fn (f g : Bool) (ns : List ByteArray) (us : List Nat) (s : Sta) (hl : Sml s) : Fn Tryz.prog 65 [.agg [.sl f 1 (strRow ns), .sl g 1 (u32Row us)], .agg (staF false false false false s)] [] (.v (.bool (staB us.length s))) [] := by
  obtain ⟨l1, l2, l3, l4⟩ := hl
  have h1 := rRight08_fn f g false ns us s.code l1
  have h2 := rLabel09_fn f g ns us s.l
  have h3 := rAtoms09_fn f g false ns us s.mem l2
  have h4 := rStack09_fn f g false ns us s.stack l3
  have h5 := rAtoms09_fn f g false ns us s.out l4
  have he : staB us.length s = (codeB us.length s.code && (!decide (s.v < 0) && (!decide (12 < s.v) && ((!oddL us.length s.l) && (s.mem.all (atomB us.length) && (decide (s.mem.length ≤ 6) && ((s.stack.all (slotB us.length) && decide (s.stack.length ≤ 12)) && (s.out.all (atomB us.length) && decide (s.out.length ≤ 8))))))))) := by
    have hi : inB 0 12 s.v = (!decide (s.v < 0) && !decide (12 < s.v)) := by rw [Bool.eq_iff_iff]; simp [inB]
    rw [staB, hi]
    simp only [Bool.and_assoc]
  rw [he]
  obtain ⟨c1, hc1⟩ : ∃ x, codeB us.length s.code = x := ⟨_, rfl⟩
  obtain ⟨c2, hc2⟩ : ∃ x, decide (s.v < 0) = x := ⟨_, rfl⟩
  obtain ⟨c3, hc3⟩ : ∃ x, decide (12 < s.v) = x := ⟨_, rfl⟩
  obtain ⟨c4, hc4⟩ : ∃ x, (!oddL us.length s.l) = x := ⟨_, rfl⟩
  obtain ⟨c5, hc5⟩ : ∃ x, s.mem.all (atomB us.length) = x := ⟨_, rfl⟩
  obtain ⟨c6, hc6⟩ : ∃ x, decide (s.mem.length ≤ 6) = x := ⟨_, rfl⟩
  obtain ⟨c7, hc7⟩ : ∃ x, (s.stack.all (slotB us.length) && decide (s.stack.length ≤ 12)) = x := ⟨_, rfl⟩
  obtain ⟨c8, hc8⟩ : ∃ x, s.out.all (atomB us.length) = x := ⟨_, rfl⟩
  have hc6' : decide ((s.mem.length : Int) ≤ 6) = c6 := by rw [← hc6]; exact decide_eq_decide.2 (by omega)
  have hc9' : decide ((s.out.length : Int) ≤ 8) = decide (s.out.length ≤ 8) := decide_eq_decide.2 (by omega)
  rw [hc1] at h1 ⊢
  rw [hc4] at h2 ⊢
  rw [hc5] at h3 ⊢
  rw [hc7] at h4 ⊢
  rw [hc8] at h5 ⊢
  rw [hc2, hc3, hc6]
  simp only [staF]
  refine Fn.of (fn := Tryz.f65) (by kernel_rfl) rfl (by kernel_rfl) ⟨[.agg [.sl f 1 (strRow ns), .sl g 1 (u32Row us)], .agg [.v (.int .i64 s.v), .v (.int .i64 s.l), .sl false 3 (tRow s.code), .sl false 2 (pRow s.mem), .sl false 3 (sRow s.stack), .sl false 2 (pRow s.out)], .v undef, .v undef, .v undef, .v undef, .v undef, .v undef, .v undef, .v undef, .v undef, .v undef, .v undef, .v undef, .v undef, .v undef, .v undef, .v undef, .v undef, .v undef, .v undef, .v undef, .v undef, .v undef, .v undef, .v undef, .v undef, .v undef, .v undef, .v undef, .v undef, .v undef, .v undef, .v undef, .v undef, .v undef, .v undef, .v undef, .v undef, .v undef, .v undef, .v undef, .v undef, .v undef, .v undef, .v undef, .v undef, .v undef, .v undef, .v undef, .v undef, .v undef, .v undef, .v undef, .v undef, .v undef, .v undef, .v undef], []⟩ rfl ?_
  cases c1
  case false =>
    repeat' first | (with_reducible first | refine AWP_seq' ?_ | refine k_normal ?_ | refine k_ret ?_ | refine AWP_ret ?_) | ((first | with_reducible refine AWP_reg fun KC J hJ hKC => ?_ | (refine hKC _ _ _ _ _ (callV0 (h1) rfl rfl rfl ?_ ?_); (· exact Lq))); simp (maxSteps := 10000000) only [push_cast, seval, ↓reduceIte, hc2, hc3, hc6', hc9', undef]) | ((with_reducible refine hJ _ _ ?_); clear hJ hKC KC J) | ((with_reducible refine AWP_condT ?_ ?_); · rfl)
    refine ret_plain ?_
    simp (maxSteps := 10000000) only [push_cast, seval, ↓reduceIte, show Tryz.f65.results = #[(.tmp 4)] from rfl]
    exact Lq
  cases c2
  case true =>
    repeat' first | (with_reducible first | refine AWP_seq' ?_ | refine k_normal ?_ | refine k_ret ?_ | refine AWP_ret ?_) | ((first | with_reducible refine AWP_reg fun KC J hJ hKC => ?_ | (refine hKC _ _ _ _ _ (callV0 (h1) rfl rfl rfl ?_ ?_); (· exact Lq))); simp (maxSteps := 10000000) only [push_cast, seval, ↓reduceIte, hc2, hc3, hc6', hc9', undef]) | ((with_reducible refine hJ _ _ ?_); clear hJ hKC KC J) | ((with_reducible refine AWP_condT ?_ ?_); · rfl)
    refine ret_plain ?_
    simp (maxSteps := 10000000) only [push_cast, seval, ↓reduceIte, show Tryz.f65.results = #[(.tmp 4)] from rfl]
    exact Lq
  cases c3
  case true =>
    repeat' first | (with_reducible first | refine AWP_seq' ?_ | refine k_normal ?_ | refine k_ret ?_ | refine AWP_ret ?_) | ((first | with_reducible refine AWP_reg fun KC J hJ hKC => ?_ | (refine hKC _ _ _ _ _ (callV0 (h1) rfl rfl rfl ?_ ?_); (· exact Lq))); simp (maxSteps := 10000000) only [push_cast, seval, ↓reduceIte, hc2, hc3, hc6', hc9', undef]) | ((with_reducible refine hJ _ _ ?_); clear hJ hKC KC J) | ((with_reducible refine AWP_condT ?_ ?_); · rfl)
    refine ret_plain ?_
    simp (maxSteps := 10000000) only [push_cast, seval, ↓reduceIte, show Tryz.f65.results = #[(.tmp 4)] from rfl]
    exact Lq
  cases c4
  case false =>
    repeat' first | (with_reducible first | refine AWP_seq' ?_ | refine k_normal ?_ | refine k_ret ?_ | refine AWP_ret ?_) | ((first | with_reducible refine AWP_reg fun KC J hJ hKC => ?_ | (refine hKC _ _ _ _ _ (callV0 (h1) rfl rfl rfl ?_ ?_); (· exact Lq)) | (refine hKC _ _ _ _ _ (callV0 (h2) rfl rfl rfl ?_ ?_); (· exact Lq))); simp (maxSteps := 10000000) only [push_cast, seval, ↓reduceIte, hc2, hc3, hc6', hc9', undef]) | ((with_reducible refine hJ _ _ ?_); clear hJ hKC KC J) | ((with_reducible refine AWP_condT ?_ ?_); · rfl)
    refine ret_plain ?_
    simp (maxSteps := 10000000) only [push_cast, seval, ↓reduceIte, show Tryz.f65.results = #[(.tmp 4)] from rfl]
    exact Lq
  cases c5
  case false =>
    repeat' first | (with_reducible first | refine AWP_seq' ?_ | refine k_normal ?_ | refine AWP_ret ?_ | refine AWP_skip ?_) | ((first | with_reducible refine AWP_reg fun KC J hJ hKC => ?_ | (refine hKC _ _ _ _ _ (callV0 (h1) rfl rfl rfl ?_ ?_); (· exact Lq)) | (refine hKC _ _ _ _ _ (callV0 (h2) rfl rfl rfl ?_ ?_); (· exact Lq)) | (refine hKC _ _ _ _ _ (callV0 (h3) rfl rfl rfl ?_ ?_); (· exact Lq))); simp (maxSteps := 10000000) only [push_cast, seval, ↓reduceIte, hc2, hc3, hc6', hc9', undef]) | ((with_reducible refine hJ _ _ ?_); clear hJ hKC KC J) | ((with_reducible refine AWP_condF ?_ ?_); · rfl)
    refine ret_plain ?_
    simp (maxSteps := 10000000) only [push_cast, seval, ↓reduceIte, show Tryz.f65.results = #[(.tmp 4)] from rfl]
    exact Lq
  cases c6
  case false =>
    repeat' first | (with_reducible first | refine AWP_seq' ?_ | refine k_normal ?_ | refine AWP_ret ?_ | refine AWP_skip ?_) | ((first | with_reducible refine AWP_reg fun KC J hJ hKC => ?_ | (refine hKC _ _ _ _ _ (callV0 (h1) rfl rfl rfl ?_ ?_); (· exact Lq)) | (refine hKC _ _ _ _ _ (callV0 (h2) rfl rfl rfl ?_ ?_); (· exact Lq)) | (refine hKC _ _ _ _ _ (callV0 (h3) rfl rfl rfl ?_ ?_); (· exact Lq))); simp (maxSteps := 10000000) only [push_cast, seval, ↓reduceIte, hc2, hc3, hc6', hc9', undef]) | ((with_reducible refine hJ _ _ ?_); clear hJ hKC KC J) | ((with_reducible refine AWP_condF ?_ ?_); · rfl)
    refine ret_plain ?_
    simp (maxSteps := 10000000) only [push_cast, seval, ↓reduceIte, show Tryz.f65.results = #[(.tmp 4)] from rfl]
    exact Lq
  cases c7
  case false =>
    repeat' first | (with_reducible first | refine AWP_seq' ?_ | refine k_normal ?_ | refine AWP_ret ?_ | refine AWP_skip ?_) | ((first | with_reducible refine AWP_reg fun KC J hJ hKC => ?_ | (refine hKC _ _ _ _ _ (callV0 (h1) rfl rfl rfl ?_ ?_); (· exact Lq)) | (refine hKC _ _ _ _ _ (callV0 (h2) rfl rfl rfl ?_ ?_); (· exact Lq)) | (refine hKC _ _ _ _ _ (callV0 (h3) rfl rfl rfl ?_ ?_); (· exact Lq)) | (refine hKC _ _ _ _ _ (callV0 (h4) rfl rfl rfl ?_ ?_); (· exact Lq))); simp (maxSteps := 10000000) only [push_cast, seval, ↓reduceIte, hc2, hc3, hc6', hc9', undef]) | ((with_reducible refine hJ _ _ ?_); clear hJ hKC KC J) | ((with_reducible refine AWP_condF ?_ ?_); · rfl)
    refine ret_plain ?_
    simp (maxSteps := 10000000) only [push_cast, seval, ↓reduceIte, show Tryz.f65.results = #[(.tmp 4)] from rfl]
    exact Lq
  cases c8
  case false =>
    repeat' first | (with_reducible first | refine AWP_seq' ?_ | refine k_normal ?_ | refine AWP_ret ?_ | refine AWP_skip ?_) | ((first | with_reducible refine AWP_reg fun KC J hJ hKC => ?_ | (refine hKC _ _ _ _ _ (callV0 (h1) rfl rfl rfl ?_ ?_); (· exact Lq)) | (refine hKC _ _ _ _ _ (callV0 (h2) rfl rfl rfl ?_ ?_); (· exact Lq)) | (refine hKC _ _ _ _ _ (callV0 (h3) rfl rfl rfl ?_ ?_); (· exact Lq)) | (refine hKC _ _ _ _ _ (callV0 (h4) rfl rfl rfl ?_ ?_); (· exact Lq)) | (refine hKC _ _ _ _ _ (callV0 (h5) rfl rfl rfl ?_ ?_); (· exact Lq))); simp (maxSteps := 10000000) only [push_cast, seval, ↓reduceIte, hc2, hc3, hc6', hc9', undef]) | ((with_reducible refine hJ _ _ ?_); clear hJ hKC KC J) | ((with_reducible refine AWP_condF ?_ ?_); · rfl)
    refine ret_plain ?_
    simp (maxSteps := 10000000) only [push_cast, seval, ↓reduceIte, show Tryz.f65.results = #[(.tmp 4)] from rfl]
    exact Lq
  repeat' first | (with_reducible first | refine AWP_seq' ?_ | refine k_normal ?_ | refine AWP_ret ?_ | refine AWP_skip ?_) | ((first | with_reducible refine AWP_reg fun KC J hJ hKC => ?_ | (refine hKC _ _ _ _ _ (callV0 (h1) rfl rfl rfl ?_ ?_); (· exact Lq)) | (refine hKC _ _ _ _ _ (callV0 (h2) rfl rfl rfl ?_ ?_); (· exact Lq)) | (refine hKC _ _ _ _ _ (callV0 (h3) rfl rfl rfl ?_ ?_); (· exact Lq)) | (refine hKC _ _ _ _ _ (callV0 (h4) rfl rfl rfl ?_ ?_); (· exact Lq)) | (refine hKC _ _ _ _ _ (callV0 (h5) rfl rfl rfl ?_ ?_); (· exact Lq))); simp (maxSteps := 10000000) only [push_cast, seval, ↓reduceIte, hc2, hc3, hc6', hc9', undef]) | ((with_reducible refine hJ _ _ ?_); clear hJ hKC KC J) | ((with_reducible refine AWP_condF ?_ ?_); · rfl)
  refine ret_plain ?_
  simp (maxSteps := 10000000) only [push_cast, seval, ↓reduceIte, show Tryz.f65.results = #[(.tmp 4)] from rfl]
  exact Lq
end Go.Proofs.YtabliglgeiajlaaGreat.AM

/- The reference's answers of sizes. -/
namespace Go.Proofs.YtabliglgeiajlaaGreat.AM
open Go Go.RowKit Go.Proofs
set_option maxRecDepth 100000
set_option maxHeartbeats 4000000

theorem rLess21_fn (a b : Int × Int × Int) : Fn Tryz.prog 31 [.agg (encZ a), .agg (encZ b)] [] (.v (.bool (lexB a b))) [] := by
  unfold lexB
  simp only [encZ]
  by_cases h1 : a.1 = b.1
  · rw [if_pos h1]
    have h1' : (a.1 != b.1) = false := by simpa using h1
    by_cases h2 : a.2.1 = b.2.1
    · rw [if_pos h2]
      have h2' : (a.2.1 != b.2.1) = false := by simpa using h2
      refine Fn.of (fn := Tryz.f31) (by kernel_rfl) rfl (by kernel_rfl) ⟨[.agg [.v (.int .i64 a.1), .v (.int .i64 a.2.1), .v (.int .i64 a.2.2)], .agg [.v (.int .i64 b.1), .v (.int .i64 b.2.1), .v (.int .i64 b.2.2)], .v undef, .v undef, .v undef, .v undef, .v undef, .v undef, .v undef, .v undef, .v undef, .v undef, .v undef, .v undef, .v undef, .v undef, .v undef, .v undef, .v undef, .v undef, .v undef, .v undef, .v undef, .v undef, .v undef, .v undef, .v undef, .v undef, .v undef, .v undef], []⟩ rfl ?_
      repeat' first | (with_reducible first | refine AWP_seq' ?_ | refine k_normal ?_ | refine AWP_ret ?_ | refine AWP_skip ?_) | ((with_reducible refine AWP_reg fun KC J hJ hKC => ?_); simp (maxSteps := 10000000) only [push_cast, seval, ↓reduceIte, h1', h2']) | ((with_reducible refine hJ _ _ ?_); clear hJ hKC KC J) | ((with_reducible refine AWP_condF ?_ ?_); · rfl)
      refine ret_plain ?_
      simp (maxSteps := 10000000) only [push_cast, seval, ↓reduceIte, show Tryz.f31.results = #[(.tmp 4)] from rfl]
      exact Lq
    · rw [if_neg h2]
      have h2' : (a.2.1 != b.2.1) = true := by simpa using h2
      refine Fn.of (fn := Tryz.f31) (by kernel_rfl) rfl (by kernel_rfl) ⟨[.agg [.v (.int .i64 a.1), .v (.int .i64 a.2.1), .v (.int .i64 a.2.2)], .agg [.v (.int .i64 b.1), .v (.int .i64 b.2.1), .v (.int .i64 b.2.2)], .v undef, .v undef, .v undef, .v undef, .v undef, .v undef, .v undef, .v undef, .v undef, .v undef, .v undef, .v undef, .v undef, .v undef, .v undef, .v undef, .v undef, .v undef, .v undef, .v undef, .v undef, .v undef, .v undef, .v undef, .v undef, .v undef, .v undef, .v undef], []⟩ rfl ?_
      repeat' first | (with_reducible first | refine AWP_seq' ?_ | refine k_normal ?_ | refine k_ret ?_ | refine AWP_ret ?_ | refine AWP_skip ?_) | ((with_reducible refine AWP_reg fun KC J hJ hKC => ?_); simp (maxSteps := 10000000) only [push_cast, seval, ↓reduceIte, h1', h2']) | ((with_reducible refine hJ _ _ ?_); clear hJ hKC KC J) | ((with_reducible refine AWP_condT ?_ ?_); · rfl) | ((with_reducible refine AWP_condF ?_ ?_); · rfl)
      refine ret_plain ?_
      simp (maxSteps := 10000000) only [push_cast, seval, ↓reduceIte, show Tryz.f31.results = #[(.tmp 4)] from rfl]
      exact Lq
  · rw [if_neg h1]
    have h1' : (a.1 != b.1) = true := by simpa using h1
    refine Fn.of (fn := Tryz.f31) (by kernel_rfl) rfl (by kernel_rfl) ⟨[.agg [.v (.int .i64 a.1), .v (.int .i64 a.2.1), .v (.int .i64 a.2.2)], .agg [.v (.int .i64 b.1), .v (.int .i64 b.2.1), .v (.int .i64 b.2.2)], .v undef, .v undef, .v undef, .v undef, .v undef, .v undef, .v undef, .v undef, .v undef, .v undef, .v undef, .v undef, .v undef, .v undef, .v undef, .v undef, .v undef, .v undef, .v undef, .v undef, .v undef, .v undef, .v undef, .v undef, .v undef, .v undef, .v undef, .v undef], []⟩ rfl ?_
    repeat' first | (with_reducible first | refine AWP_seq' ?_ | refine k_normal ?_ | refine k_ret ?_ | refine AWP_ret ?_) | ((with_reducible refine AWP_reg fun KC J hJ hKC => ?_); simp (maxSteps := 10000000) only [push_cast, seval, ↓reduceIte, h1']) | ((with_reducible refine hJ _ _ ?_); clear hJ hKC KC J) | ((with_reducible refine AWP_condT ?_ ?_); · rfl)
    refine ret_plain ?_
    simp (maxSteps := 10000000) only [push_cast, seval, ↓reduceIte, show Tryz.f31.results = #[(.tmp 4)] from rfl]
    exact Lq
theorem rMay21_fn (f g : Bool) (ns : List ByteArray) (us : List Nat) (a b : Sta) (hs : Szs ns) (hu : U32 us) (ha : Sml a) (hb : Sml b) :
    Fn Tryz.prog 25 [.agg [.sl f 1 (strRow ns), .sl g 1 (u32Row us)], .agg (encT a b)] [] (.v (.int .i64 (mayT ns us a b))) [] := by
  have h1 := rCheck_fn f g ns us hs hu
  have h2 := rRight09_fn f g ns us a ha
  have h3 := rRight09_fn f g ns us b hb
  unfold mayT
  obtain ⟨c, hcc⟩ : ∃ c, checkF ns us = c := ⟨_, rfl⟩
  rw [hcc] at h1 ⊢
  by_cases hc : c = 0
  · subst hc
    rw [if_pos rfl]
    obtain ⟨p, hp⟩ : ∃ p, staB us.length a = p := ⟨_, rfl⟩
    obtain ⟨q, hq⟩ : ∃ p, staB us.length b = p := ⟨_, rfl⟩
    rw [hp] at h2
    rw [hq] at h3
    rw [hp, hq]
    simp only [encT, staF, List.cons_append, List.nil_append] at h2 h3 ⊢
    cases p <;> cases q
    all_goals
      refine Fn.of (fn := Tryz.f25) (by kernel_rfl) rfl (by kernel_rfl) ⟨[.agg [.sl f 1 (strRow ns), .sl g 1 (u32Row us)], .agg [.v (.int .i64 a.v), .v (.int .i64 a.l), .sl false 3 (tRow a.code), .sl false 2 (pRow a.mem), .sl false 3 (sRow a.stack), .sl false 2 (pRow a.out), .v (.int .i64 b.v), .v (.int .i64 b.l), .sl false 3 (tRow b.code), .sl false 2 (pRow b.mem), .sl false 3 (sRow b.stack), .sl false 2 (pRow b.out)], .v undef, .v undef, .v undef, .v undef, .v undef, .v undef, .v undef, .v undef, .v undef, .v undef, .v undef, .v undef, .v undef, .v undef, .v undef, .v undef, .v undef, .v undef, .v undef, .v undef, .v undef, .v undef, .v undef], []⟩ rfl ?_
      repeat' first | (with_reducible first | refine AWP_seq' ?_ | refine k_normal ?_ | refine k_ret ?_ | refine AWP_ret ?_ | refine AWP_skip ?_) | ((first | with_reducible refine AWP_reg fun KC J hJ hKC => ?_ | (refine hKC _ _ _ _ _ (callV0 (h1) rfl rfl rfl ?_ ?_); (· exact Lq)) | (refine hKC _ _ _ _ _ (callV0 (h2) rfl rfl rfl ?_ ?_); (· exact Lq)) | (refine hKC _ _ _ _ _ (callV0 (h3) rfl rfl rfl ?_ ?_); (· exact Lq))); simp (maxSteps := 10000000) only [push_cast, seval, ↓reduceIte, beq_self_eq_true]) | ((with_reducible refine hJ _ _ ?_); clear hJ hKC KC J) | ((with_reducible refine AWP_condT ?_ ?_); · rfl) | ((with_reducible refine AWP_condF ?_ ?_); · rfl)
      refine ret_plain ?_
      simp (maxSteps := 10000000) only [push_cast, seval, ↓reduceIte, show Tryz.f25.results = #[(.tmp 4)] from rfl]
      exact Lq
  · rw [if_neg hc]
    have hc' : (c == 0) = false := by simpa using hc
    simp only [encT, staF, List.cons_append, List.nil_append]
    refine Fn.of (fn := Tryz.f25) (by kernel_rfl) rfl (by kernel_rfl) ⟨[.agg [.sl f 1 (strRow ns), .sl g 1 (u32Row us)], .agg [.v (.int .i64 a.v), .v (.int .i64 a.l), .sl false 3 (tRow a.code), .sl false 2 (pRow a.mem), .sl false 3 (sRow a.stack), .sl false 2 (pRow a.out), .v (.int .i64 b.v), .v (.int .i64 b.l), .sl false 3 (tRow b.code), .sl false 2 (pRow b.mem), .sl false 3 (sRow b.stack), .sl false 2 (pRow b.out)], .v undef, .v undef, .v undef, .v undef, .v undef, .v undef, .v undef, .v undef, .v undef, .v undef, .v undef, .v undef, .v undef, .v undef, .v undef, .v undef, .v undef, .v undef, .v undef, .v undef, .v undef, .v undef, .v undef], []⟩ rfl ?_
    repeat' first | (with_reducible first | refine AWP_seq' ?_ | refine k_normal ?_ | refine AWP_ret ?_ | refine AWP_skip ?_) | ((first | with_reducible refine AWP_reg fun KC J hJ hKC => ?_ | (refine hKC _ _ _ _ _ (callV0 (h1) rfl rfl rfl ?_ ?_); (· exact Lq))); simp (maxSteps := 10000000) only [push_cast, seval, ↓reduceIte, hc', undef]) | ((with_reducible refine hJ _ _ ?_); clear hJ hKC KC J) | ((with_reducible refine AWP_condF ?_ ?_); · rfl)
    refine ret_plain ?_
    simp (maxSteps := 10000000) only [push_cast, seval, ↓reduceIte, show Tryz.f25.results = #[(.tmp 4)] from rfl]
    exact Lq
theorem slotZ_B {us : List Nat} {l : List (Bool × Int × Int)} (h : ∀ x ∈ l, -20 ≤ x.2.1 ∧ x.2.1 ≤ 20) {k : Nat} {z} (hz : Bz k z) : Bz (k + l.length) (slotZ us z l) := foldl_B (fun x hx k z hh => hh.add (h x hx).1 (h x hx).2) hz
theorem atomZ_B {us : List Nat} {l : List (Int × Int)} (h : ∀ x ∈ l, -20 ≤ x.1 ∧ x.1 ≤ 20) {k : Nat} {z} (hz : Bz k z) : Bz (k + l.length) (atomZ us z l) := foldl_B (fun x hx k z hh => hh.add (h x hx).1 (h x hx).2) hz
theorem codeZ_B {us : List Nat} {l : List (Int × Int × Int)} (h : ∀ x ∈ l, -20 ≤ x.2.1 ∧ x.2.1 ≤ 20) {k : Nat} {z} (hz : Bz k z) : Bz (k + l.length) (codeZ us z l) := foldl_B (fun x hx k z hh => codeS_B hh (h x hx).1 (h x hx).2) hz
theorem Bz.mono {k j : Nat} {z : Int × Int × Int} (h : Bz k z) (hk : k ≤ j) : Bz j z := by simp only [Bz] at h ⊢; omega
theorem sizeZ_B {us : List Nat} {s : Sta} {n : Nat} (hs : StaN n s) {k : Nat} {z} (hz : Bz k z) : Bz (k + 100) (sizeZ us z s) := by
  obtain ⟨h1, h2, h3, h4, l1, l2, l3, l4, v0, v1, _⟩ := hs
  have a1 := cntZ_B (hz.add (us := us) (v := s.v) (l := s.l) v0 v1) (n := s.code.length + s.mem.length + s.stack.length + s.out.length) (by omega)
  have a2 := codeZ_B (us := us) (fun x hx => ⟨(h1 x hx).1, (h1 x hx).2.1⟩) a1
  have a3 := atomZ_B (us := us) (fun x hx => ⟨(h2 x hx).1, (h2 x hx).2.1⟩) a2
  have a4 := atomZ_B (us := us) (fun x hx => ⟨(h4 x hx).1, (h4 x hx).2.1⟩) a3
  have a5 := slotZ_B (us := us) (fun x hx => ⟨(h3 x hx).1, (h3 x hx).2.1⟩) a4
  exact a5.mono (by omega)
theorem rMeasure_fn (f g : Bool) (ns : List ByteArray) (us : List Nat) (hu : U32 us) (hc : checkF ns us = 0) (a b : Sta) (ha : StaN us.length a) (hb : StaN us.length b) :
    Fn Tryz.prog 32 [.agg [.sl f 1 (strRow ns), .sl g 1 (u32Row us)], .agg (encT a b)] [] (.agg (encZ (sizeZ us (sizeZ us (0, 0, 0) a) b))) [] := by
  have hz0 : Bz 0 (0, 0, 0) := by simp [Bz]
  have h1 := rSize_fn f g ns us hu hc (0, 0, 0) 0 hz0 (by omega) a ha
  have h2 := rSize_fn f g ns us hu hc (sizeZ us (0, 0, 0) a) _ (sizeZ_B (us := us) ha hz0) (by omega) b hb
  obtain ⟨z, hz⟩ : ∃ z, sizeZ us (0, 0, 0) a = z := ⟨_, rfl⟩
  rw [hz] at h1 h2 ⊢
  simp only [encZ, encT, staF, List.cons_append, List.nil_append] at h1 h2 ⊢
  refine Fn.of (fn := Tryz.f32) (by kernel_rfl) rfl (by kernel_rfl) ⟨[.agg [.sl f 1 (strRow ns), .sl g 1 (u32Row us)], .agg [.v (.int .i64 a.v), .v (.int .i64 a.l), .sl false 3 (tRow a.code), .sl false 2 (pRow a.mem), .sl false 3 (sRow a.stack), .sl false 2 (pRow a.out), .v (.int .i64 b.v), .v (.int .i64 b.l), .sl false 3 (tRow b.code), .sl false 2 (pRow b.mem), .sl false 3 (sRow b.stack), .sl false 2 (pRow b.out)], .v undef, .v undef, .v undef, .v undef, .v undef, .v undef, .v undef, .v undef, .v undef, .v undef, .v undef, .v undef], []⟩ rfl ?_
  repeat' first | (with_reducible first | refine AWP_seq' ?_ | refine k_normal ?_ | refine AWP_ret ?_) | ((first | with_reducible refine AWP_reg fun KC J hJ hKC => ?_ | with_reducible refine AWP_regD rfl fun KC J hJ hKC => ?_ | (refine hKC _ _ _ _ _ (callV0 (h1) rfl rfl rfl ?_ ?_); (· exact Lq)) | (refine hKC _ _ _ _ _ (callV0 (h2) rfl rfl rfl ?_ ?_); (· exact Lq))); simp (maxSteps := 10000000) only [push_cast, seval, ↓reduceIte]) | ((first | with_reducible refine hJ _ _ ?_ | (with_reducible refine hJ _ _ ?_ ?_; · kernel_rfl)); clear hJ hKC KC J)
  refine ret_plain ?_
  simp (maxSteps := 10000000) only [push_cast, seval, ↓reduceIte, show Tryz.f32.results = #[(.cell 4 66)] from rfl]
  exact Lq
end Go.Proofs.YtabliglgeiajlaaGreat.AM

/- Law 21: MovesMeasure. -/
namespace Go.Proofs.YtabliglgeiajlaaGreat.AM
open Go Go.RowKit Go.Proofs
set_option maxRecDepth 100000
set_option maxHeartbeats 4000000

theorem sizeZ_add {us : List Nat} {n : Nat} {s : Sta} (h : StaN n s) (z : Int × Int × Int) : sizeZ us z s = addT z (sizeZ us (0, 0, 0) s) := by
  rw [sizeZ_num h, sizeZ_num h, foldNum, foldNum]
  unfold addT
  refine Prod.ext ?_ (Prod.ext ?_ ?_) <;> simp only <;> omega
theorem movesMeasure_fn (ns : List ByteArray) (us : List Nat) (s t : Sta) (a b : Int × Int × Int) (hs : ∀ x ∈ ns, x.size ≤ maxLen) (hu : ∀ u ∈ us, u < 2 ^ 32) :
    Fn Tryz.prog 5 [.agg [.sl false 1 (strRow ns), .sl false 1 (u32Row us)], .agg (encT s t), .agg (encZ a), .agg (encZ b)] [] (.v (.bool true)) [] := by
  have hfew := few21_fn false false ns us
  have hcs := cut21_fn false false false false s
  have hct := cut21_fn false false false false t
  have hs10 := szs_few ns
  have hu10 : U32 (us.take 10) := fun u hu' => hu u (List.mem_of_mem_take hu')
  have ha15 := cutSta_15 s
  have hb15 := cutSta_15 t
  obtain ⟨N, hN⟩ : ∃ N, (ns.take 10).map cutS = N := ⟨_, rfl⟩
  obtain ⟨U, hU⟩ : ∃ U, us.take 10 = U := ⟨_, rfl⟩
  obtain ⟨A, hA⟩ : ∃ A, cutSta s = A := ⟨_, rfl⟩
  obtain ⟨B, hB⟩ : ∃ A, cutSta t = A := ⟨_, rfl⟩
  rw [hN] at hfew hs10
  rw [hU] at hfew hu10
  rw [hA] at hcs ha15
  rw [hB] at hct hb15
  have h1 := mvMeasure_fn false false N U A B hs10 hu10 ha15.sml hb15.sml
  have h2 := mvLess_fn a b
  have h3 := rLess21_fn a b
  have h4 := alive21_fn
  have h5 := rMay21_fn false false N U A B hs10 hu10 ha15.sml hb15.sml
  obtain ⟨q, hq⟩ : ∃ q, lexB a b = q := ⟨_, rfl⟩
  rw [hq] at h2 h3
  by_cases hm : mayT N U A B = 0
  · obtain ⟨hc, hA1, hB1⟩ := mayT_ok hm
    have h6 := rMeasure_fn false false N U hu10 hc A B (sta_num hA1) (sta_num hB1)
    rw [sizeZ_add (sta_num hB1)] at h6
    unfold measF at h1
    rw [if_pos hm, hm] at h1
    rw [hm] at h5
    simp only [siz2] at h1
    obtain ⟨z, hz⟩ : ∃ z, addT (sizeZ U (0, 0, 0) A) (sizeZ U (0, 0, 0) B) = z := ⟨_, rfl⟩
    rw [hz] at h1 h6
    simp only [encT, staF, encZ, List.cons_append, List.nil_append] at hfew hcs hct h1 h2 h3 h5 h6 ⊢
    refine Fn.of (fn := Tryz.f5) (by kernel_rfl) rfl (by kernel_rfl) ⟨[.agg [.sl false 1 (strRow ns), .sl false 1 (u32Row us)], .agg [.v (.int .i64 s.v), .v (.int .i64 s.l), .sl false 3 (tRow s.code), .sl false 2 (pRow s.mem), .sl false 3 (sRow s.stack), .sl false 2 (pRow s.out), .v (.int .i64 t.v), .v (.int .i64 t.l), .sl false 3 (tRow t.code), .sl false 2 (pRow t.mem), .sl false 3 (sRow t.stack), .sl false 2 (pRow t.out)], .agg [.v (.int .i64 a.1), .v (.int .i64 a.2.1), .v (.int .i64 a.2.2)], .agg [.v (.int .i64 b.1), .v (.int .i64 b.2.1), .v (.int .i64 b.2.2)], .v undef, .v undef, .v undef, .v undef, .v undef, .v undef, .v undef, .v undef, .v undef, .v undef, .v undef, .v undef, .v undef, .v undef, .v undef, .v undef, .v undef, .v undef, .v undef, .v undef, .v undef, .v undef, .v undef, .v undef, .v undef, .v undef, .v undef, .v undef, .v undef, .v undef, .v undef, .v undef, .v undef, .v undef, .v undef, .v undef, .v undef, .v undef, .v undef, .v undef, .v undef, .v undef, .v undef, .v undef, .v undef, .v undef, .v undef, .v undef, .v undef, .v undef, .v undef, .v undef, .v undef, .v undef, .v undef, .v undef, .v undef], []⟩ rfl ?_
    repeat' first | (with_reducible first | refine AWP_seq' ?_ | refine k_normal ?_ | refine AWP_ret ?_ | refine AWP_skip ?_) | ((first | with_reducible refine AWP_reg fun KC J hJ hKC => ?_ | with_reducible refine AWP_regD rfl fun KC J hJ hKC => ?_ | (refine hKC _ _ _ _ _ (callV0 (hfew) rfl rfl rfl ?_ ?_); (· exact Lq)) | (refine hKC _ _ _ _ _ (callV0 (hcs) rfl rfl rfl ?_ ?_); (· exact Lq)) | (refine hKC _ _ _ _ _ (callV0 (hct) rfl rfl rfl ?_ ?_); (· exact Lq)) | (refine hKC _ _ _ _ _ (callV0 (h1) rfl rfl rfl ?_ ?_); (· exact Lq)) | (refine hKC _ _ _ _ _ (callV0 (h2) rfl rfl rfl ?_ ?_); (· exact Lq)) | (refine hKC _ _ _ _ _ (callV0 (h3) rfl rfl rfl ?_ ?_); (· exact Lq)) | (refine hKC _ _ _ _ _ (callV0 (h4) rfl rfl rfl ?_ ?_); (· exact Lq)) | (refine hKC _ _ _ _ _ (callV0 (h5) rfl rfl rfl ?_ ?_); (· exact Lq)) | (refine hKC _ _ _ _ _ (callV0 (h6) rfl rfl rfl ?_ ?_); (· exact Lq))); simp (maxSteps := 10000000) only [push_cast, seval, ↓reduceIte, bne_self_eq_false, beq_self_eq_true, undef]) | ((first | with_reducible refine hJ _ _ ?_ | (with_reducible refine hJ _ _ ?_ ?_; · kernel_rfl)); clear hJ hKC KC J) | ((with_reducible refine AWP_condF ?_ ?_); · rfl)
    refine ret_plain ?_
    simp (maxSteps := 10000000) only [push_cast, seval, ↓reduceIte, show Tryz.f5.results = #[(.tmp 8)] from rfl]
    exact Lq
  · unfold measF at h1
    rw [if_neg hm] at h1
    obtain ⟨c, hc⟩ : ∃ c, mayT N U A B = c := ⟨_, rfl⟩
    rw [hc] at h1 h5 hm
    have hc' : (c != 0) = true := by simpa using hm
    simp only [encT, staF, encZ, List.cons_append, List.nil_append] at hfew hcs hct h1 h2 h3 h5 ⊢
    refine Fn.of (fn := Tryz.f5) (by kernel_rfl) rfl (by kernel_rfl) ⟨[.agg [.sl false 1 (strRow ns), .sl false 1 (u32Row us)], .agg [.v (.int .i64 s.v), .v (.int .i64 s.l), .sl false 3 (tRow s.code), .sl false 2 (pRow s.mem), .sl false 3 (sRow s.stack), .sl false 2 (pRow s.out), .v (.int .i64 t.v), .v (.int .i64 t.l), .sl false 3 (tRow t.code), .sl false 2 (pRow t.mem), .sl false 3 (sRow t.stack), .sl false 2 (pRow t.out)], .agg [.v (.int .i64 a.1), .v (.int .i64 a.2.1), .v (.int .i64 a.2.2)], .agg [.v (.int .i64 b.1), .v (.int .i64 b.2.1), .v (.int .i64 b.2.2)], .v undef, .v undef, .v undef, .v undef, .v undef, .v undef, .v undef, .v undef, .v undef, .v undef, .v undef, .v undef, .v undef, .v undef, .v undef, .v undef, .v undef, .v undef, .v undef, .v undef, .v undef, .v undef, .v undef, .v undef, .v undef, .v undef, .v undef, .v undef, .v undef, .v undef, .v undef, .v undef, .v undef, .v undef, .v undef, .v undef, .v undef, .v undef, .v undef, .v undef, .v undef, .v undef, .v undef, .v undef, .v undef, .v undef, .v undef, .v undef, .v undef, .v undef, .v undef, .v undef, .v undef, .v undef, .v undef, .v undef, .v undef], []⟩ rfl ?_
    repeat' first | (with_reducible first | refine AWP_seq' ?_ | refine k_normal ?_ | refine k_ret ?_ | refine AWP_ret ?_ | refine AWP_skip ?_) | ((first | with_reducible refine AWP_reg fun KC J hJ hKC => ?_ | with_reducible refine AWP_regD rfl fun KC J hJ hKC => ?_ | (refine hKC _ _ _ _ _ (callV0 (hfew) rfl rfl rfl ?_ ?_); (· exact Lq)) | (refine hKC _ _ _ _ _ (callV0 (hcs) rfl rfl rfl ?_ ?_); (· exact Lq)) | (refine hKC _ _ _ _ _ (callV0 (hct) rfl rfl rfl ?_ ?_); (· exact Lq)) | (refine hKC _ _ _ _ _ (callV0 (h1) rfl rfl rfl ?_ ?_); (· exact Lq)) | (refine hKC _ _ _ _ _ (callV0 (h2) rfl rfl rfl ?_ ?_); (· exact Lq)) | (refine hKC _ _ _ _ _ (callV0 (h3) rfl rfl rfl ?_ ?_); (· exact Lq)) | (refine hKC _ _ _ _ _ (callV0 (h4) rfl rfl rfl ?_ ?_); (· exact Lq)) | (refine hKC _ _ _ _ _ (callV0 (h5) rfl rfl rfl ?_ ?_); (· exact Lq))); simp (maxSteps := 10000000) only [push_cast, seval, ↓reduceIte, bne_self_eq_false, beq_self_eq_true, hc', undef]) | ((first | with_reducible refine hJ _ _ ?_ | (with_reducible refine hJ _ _ ?_ ?_; · kernel_rfl)); clear hJ hKC KC J) | ((with_reducible refine AWP_condT ?_ ?_); · rfl) | ((with_reducible refine AWP_condF ?_ ?_); · rfl)
    refine ret_plain ?_
    simp (maxSteps := 10000000) only [push_cast, seval, ↓reduceIte, show Tryz.f5.results = #[(.tmp 8)] from rfl]
    exact Lq
end Go.Proofs.YtabliglgeiajlaaGreat.AM

/- The kinds of what comes in. -/
namespace Go.Proofs.YtabliglgeiajlaaGreat.AM
open Go Go.RowKit Go.Proofs
set_option maxRecDepth 100000

abbrev kInt : Kk := .int .i64
theorem conf_int : Conf Tryz.prog (.ty 3) kInt := .int Tryz.underlying3
theorem is_int {e : D} (h : Shape kInt [e]) : ∃ n, e = .v (.int .i64 n) := by obtain ⟨n, rfl, _⟩ := shape_int h; exact ⟨n, rfl⟩
end Go.Proofs.YtabliglgeiajlaaGreat.AM

/- The kinds of what comes in: pairs of numbers. -/
namespace Go.Proofs.YtabliglgeiajlaaGreat.AM
open Go Go.RowKit Go.Proofs
set_option maxRecDepth 100000

abbrev kPair : Kk := .pair kInt (.pair kInt .unit)
theorem is_pair {ds : List D} (h : Shape kPair ds) : ∃ p : Int × Int, ds = [.v (.int .i64 p.1), .v (.int .i64 p.2)] := by
  obtain ⟨a, b, rfl, h1, h2⟩ := shape_pair h
  obtain ⟨c, d, rfl, h3, h4⟩ := shape_pair h2
  cases shape_unit h4
  obtain ⟨e1, rfl, h1⟩ := shape_one h1 rfl
  obtain ⟨e2, rfl, h3⟩ := shape_one h3 rfl
  obtain ⟨n, rfl⟩ := is_int h1
  obtain ⟨m, rfl⟩ := is_int h3
  exact ⟨(n, m), rfl⟩
end Go.Proofs.YtabliglgeiajlaaGreat.AM

/- The kinds of what comes in: strings, lattices. -/
namespace Go.Proofs.YtabliglgeiajlaaGreat.AM
open Go Go.RowKit Go.Proofs
set_option maxRecDepth 100000

abbrev kStr : Kk := .str
abbrev kStrs : Kk := .sl kStr
abbrev kU32 : Kk := .int .u32
abbrev kU32s : Kk := .sl kU32
abbrev kLat : Kk := .pair kStrs (.pair kU32s .unit)
theorem conf_str : Conf Tryz.prog (.ty 9) kStr := .str Tryz.underlying9
theorem conf_strs : Conf Tryz.prog (.ty 22) kStrs := .sl Tryz.underlying22 (by kernel_rfl) (by decide) conf_str
theorem conf_u32 : Conf Tryz.prog (.ty 98) kU32 := .int Tryz.underlying98
theorem conf_u32s : Conf Tryz.prog (.ty 23) kU32s := .sl Tryz.underlying23 (by kernel_rfl) (by decide) conf_u32
theorem conf_lat : Conf Tryz.prog (.ty 25) (.st kLat) := .st Tryz.underlying25 (by kernel_rfl) (.pair rfl (by kernel_rfl) conf_strs (.pair rfl (by kernel_rfl) conf_u32s .unit))
theorem is_str {e : D} (h : Shape kStr [e]) : ∃ s : ByteArray, e = .v (.string s) ∧ s.size ≤ maxLen := shape_str h
theorem is_strs {e : D} (h : Shape kStrs [e]) : ∃ l, e = .sl false 1 (strRow l) ∧ (∀ s ∈ l, s.size ≤ maxLen) ∧ l.length ≤ maxLen := by
  obtain ⟨xs, rfl, h1, h2⟩ := shape_sl h
  obtain ⟨l, rfl⟩ := shape_rows (fun s : { s : ByteArray // s.size ≤ maxLen } => [D.v (.string s.1)]) (fun x hx => by
    obtain ⟨e, rfl, he⟩ := shape_one hx rfl
    obtain ⟨n, rfl, hn⟩ := is_str he
    exact ⟨⟨n, hn⟩, rfl⟩) h1
  refine ⟨l.map (·.1), by simp [strRow, List.map_map]; rfl, fun s hs => ?_, by simpa using h2⟩
  obtain ⟨x, _, rfl⟩ := List.mem_map.1 hs
  exact x.2
theorem is_u32 {e : D} (h : Shape kU32 [e]) : ∃ u : Nat, e = .v (.int .u32 (uv u)) ∧ u < 2 ^ 32 := by
  obtain ⟨n, rfl, hw⟩ := shape_int h
  have h2 : 0 ≤ n ∧ n < 4294967296 := by
    simp only [Lit.wf, Bool.and_eq_true, decide_eq_true_eq] at hw
    have e1 : IntKind.u32.min = 0 := rfl
    have e2 : IntKind.u32.max = 4294967295 := by decide
    omega
  refine ⟨n.toNat, ?_, by omega⟩
  rw [uv, Int.toNat_of_nonneg h2.1]
theorem is_u32s {e : D} (h : Shape kU32s [e]) : ∃ l, e = .sl false 1 (u32Row l) ∧ U32 l ∧ l.length ≤ maxLen := by
  obtain ⟨xs, rfl, h1, h2⟩ := shape_sl h
  obtain ⟨l, rfl⟩ := shape_rows (fun u : { u : Nat // u < 2 ^ 32 } => [D.v (.int .u32 (uv u.1))]) (fun x hx => by
    obtain ⟨e, rfl, he⟩ := shape_one hx rfl
    obtain ⟨n, rfl, hn⟩ := is_u32 he
    exact ⟨⟨n, hn⟩, rfl⟩) h1
  refine ⟨l.map (·.1), by simp [u32Row, List.map_map]; rfl, fun s hs => ?_, by simpa using h2⟩
  obtain ⟨x, _, rfl⟩ := List.mem_map.1 hs
  exact x.2
structure NsOk (ns : List ByteArray) : Prop where
  szs : Szs ns
  len : ns.length ≤ maxLen
structure UsOk (us : List Nat) : Prop where
  u32 : U32 us
  len : us.length ≤ maxLen
theorem is_lat {ds : List D} (h : Shape kLat ds) : ∃ ns us, D.agg ds = .agg [.sl false 1 (strRow ns), .sl false 1 (u32Row us)] ∧ NsOk ns ∧ UsOk us := by
  obtain ⟨a, b, rfl, h1, h2⟩ := shape_pair h
  obtain ⟨c, d, rfl, h3, h4⟩ := shape_pair h2
  cases shape_unit h4
  obtain ⟨e1, rfl, h1⟩ := shape_one h1 rfl
  obtain ⟨e2, rfl, h3⟩ := shape_one h3 rfl
  obtain ⟨ns, rfl, h5, h6⟩ := is_strs h1
  obtain ⟨us, rfl, h7, h8⟩ := is_u32s h3
  exact ⟨ns, us, rfl, ⟨fun s hs => Nat.le_trans (h5 s hs) (by decide), h6⟩, ⟨h7, h8⟩⟩
end Go.Proofs.YtabliglgeiajlaaGreat.AM

/- The kinds of what comes in: states. -/
namespace Go.Proofs.YtabliglgeiajlaaGreat.AM
open Go Go.RowKit Go.Proofs
set_option maxRecDepth 100000

abbrev kTrip : Kk := .pair kInt (.pair kInt (.pair kInt .unit))
abbrev kSlot : Kk := .pair .bool (.pair kInt (.pair kInt .unit))
abbrev kSta : Kk := .pair (.st kPair) (.pair (.sl (.st kTrip)) (.pair (.sl (.st kPair)) (.pair (.sl (.st kSlot)) (.pair (.sl (.st kPair)) .unit))))
theorem conf_atom : Conf Tryz.prog (.ty 34) (.st kPair) := .st Tryz.underlying34 (by kernel_rfl) (.pair rfl (by kernel_rfl) conf_int (.pair rfl (by kernel_rfl) conf_int .unit))
theorem conf_instr : Conf Tryz.prog (.ty 100) (.st kTrip) := .st Tryz.underlying100 (by kernel_rfl) (.pair rfl (by kernel_rfl) conf_int (.pair rfl (by kernel_rfl) conf_int (.pair rfl (by kernel_rfl) conf_int .unit)))
theorem conf_slot : Conf Tryz.prog (.ty 104) (.st kSlot) := .st Tryz.underlying104 (by kernel_rfl) (.pair rfl (by kernel_rfl) (.bool Tryz.underlying4) (.pair rfl (by kernel_rfl) conf_int (.pair rfl (by kernel_rfl) conf_int .unit)))
theorem conf_atoms : Conf Tryz.prog (.ty 36) (.sl (.st kPair)) := .sl Tryz.underlying36 (by kernel_rfl) (by decide) conf_atom
theorem conf_instrs : Conf Tryz.prog (.ty 35) (.sl (.st kTrip)) := .sl Tryz.underlying35 (by kernel_rfl) (by decide) conf_instr
theorem conf_slots : Conf Tryz.prog (.ty 37) (.sl (.st kSlot)) := .sl Tryz.underlying37 (by kernel_rfl) (by decide) conf_slot
theorem conf_state : Conf Tryz.prog (.ty 39) (.st kSta) := .st Tryz.underlying39 (by kernel_rfl) (.pair rfl (by kernel_rfl) conf_atom (.pair rfl (by kernel_rfl) conf_instrs (.pair rfl (by kernel_rfl) conf_atoms (.pair rfl (by kernel_rfl) conf_slots (.pair rfl (by kernel_rfl) conf_atoms .unit)))))
theorem is_trip {ds : List D} (h : Shape kTrip ds) : ∃ p : Int × Int × Int, ds = [.v (.int .i64 p.1), .v (.int .i64 p.2.1), .v (.int .i64 p.2.2)] := by
  obtain ⟨a, b, rfl, h1, h2⟩ := shape_pair h
  obtain ⟨c, d, rfl, h3, h4⟩ := shape_pair h2
  obtain ⟨e, g, rfl, h5, h6⟩ := shape_pair h4
  cases shape_unit h6
  obtain ⟨e1, rfl, h1⟩ := shape_one h1 rfl
  obtain ⟨e2, rfl, h3⟩ := shape_one h3 rfl
  obtain ⟨e3, rfl, h5⟩ := shape_one h5 rfl
  obtain ⟨n, rfl⟩ := is_int h1
  obtain ⟨m, rfl⟩ := is_int h3
  obtain ⟨k, rfl⟩ := is_int h5
  exact ⟨(n, m, k), rfl⟩
theorem isK_slot {ds : List D} (h : Shape kSlot ds) : ∃ p : Bool × Int × Int, ds = [.v (.bool p.1), .v (.int .i64 p.2.1), .v (.int .i64 p.2.2)] := by
  obtain ⟨a, b, rfl, h1, h2⟩ := shape_pair h
  obtain ⟨c, d, rfl, h3, h4⟩ := shape_pair h2
  obtain ⟨e, g, rfl, h5, h6⟩ := shape_pair h4
  cases shape_unit h6
  obtain ⟨e1, rfl, h1⟩ := shape_one h1 rfl
  obtain ⟨e2, rfl, h3⟩ := shape_one h3 rfl
  obtain ⟨e3, rfl, h5⟩ := shape_one h5 rfl
  obtain ⟨n, rfl⟩ := shape_bool h1
  obtain ⟨m, rfl⟩ := is_int h3
  obtain ⟨k, rfl⟩ := is_int h5
  exact ⟨(n, m, k), rfl⟩
theorem is_atoms {e : D} (h : Shape (.sl (.st kPair)) [e]) : ∃ l, e = .sl false 2 (pRow l) := by
  obtain ⟨xs, rfl, h1, h2⟩ := shape_sl h
  obtain ⟨l, rfl⟩ := shape_rows (fun p : Int × Int => [D.v (.int .i64 p.1), .v (.int .i64 p.2)]) (fun x hx => is_pair (shape_st hx)) h1
  exact ⟨l, rfl⟩
theorem is_instrs {e : D} (h : Shape (.sl (.st kTrip)) [e]) : ∃ l, e = .sl false 3 (tRow l) := by
  obtain ⟨xs, rfl, h1, h2⟩ := shape_sl h
  obtain ⟨l, rfl⟩ := shape_rows (fun p : Int × Int × Int => [D.v (.int .i64 p.1), .v (.int .i64 p.2.1), .v (.int .i64 p.2.2)]) (fun x hx => is_trip (shape_st hx)) h1
  exact ⟨l, rfl⟩
theorem is_slots {e : D} (h : Shape (.sl (.st kSlot)) [e]) : ∃ l, e = .sl false 3 (sRow l) := by
  obtain ⟨xs, rfl, h1, h2⟩ := shape_sl h
  obtain ⟨l, rfl⟩ := shape_rows (fun p : Bool × Int × Int => [D.v (.bool p.1), .v (.int .i64 p.2.1), .v (.int .i64 p.2.2)]) (fun x hx => isK_slot (shape_st hx)) h1
  exact ⟨l, rfl⟩
theorem is_state {ds : List D} (h : Shape kSta ds) : ∃ s : Sta, D.agg ds = .agg (staF false false false false s) := by
  obtain ⟨a, b, rfl, h1, h2⟩ := shape_pair h
  obtain ⟨c, d, rfl, h3, h4⟩ := shape_pair h2
  obtain ⟨e, g, rfl, h5, h6⟩ := shape_pair h4
  obtain ⟨i, j, rfl, h7, h8⟩ := shape_pair h6
  obtain ⟨k, l, rfl, h9, h10⟩ := shape_pair h8
  cases shape_unit h10
  obtain ⟨p, rfl⟩ := is_pair (shape_st h1)
  obtain ⟨e1, rfl, h3⟩ := shape_one h3 rfl
  obtain ⟨e2, rfl, h5⟩ := shape_one h5 rfl
  obtain ⟨e3, rfl, h7⟩ := shape_one h7 rfl
  obtain ⟨e4, rfl, h9⟩ := shape_one h9 rfl
  obtain ⟨l1, rfl⟩ := is_instrs h3
  obtain ⟨l2, rfl⟩ := is_atoms h5
  obtain ⟨l3, rfl⟩ := is_slots h7
  obtain ⟨l4, rfl⟩ := is_atoms h9
  exact ⟨⟨p.1, p.2, l1, l2, l3, l4⟩, rfl⟩
end Go.Proofs.YtabliglgeiajlaaGreat.AM

/- The kinds of what comes in: two states, sizes. -/
namespace Go.Proofs.YtabliglgeiajlaaGreat.AM
open Go Go.RowKit Go.Proofs
set_option maxRecDepth 100000

abbrev kTwo : Kk := .pair (.st kSta) (.pair (.st kSta) .unit)
theorem conf_two : Conf Tryz.prog (.ty 56) (.st kTwo) := .st Tryz.underlying56 (by kernel_rfl) (.pair rfl (by kernel_rfl) conf_state (.pair rfl (by kernel_rfl) conf_state .unit))
theorem is_two {ds : List D} (h : Shape kTwo ds) : ∃ s t : Sta, D.agg ds = .agg (encT s t) := by
  obtain ⟨a, b, rfl, h1, h2⟩ := shape_pair h
  obtain ⟨c, d, rfl, h3, h4⟩ := shape_pair h2
  cases shape_unit h4
  obtain ⟨s, hs⟩ := is_state (shape_st h1)
  obtain ⟨t, ht⟩ := is_state (shape_st h3)
  cases hs
  cases ht
  exact ⟨s, t, by rw [List.append_nil]⟩
theorem conf_size : Conf Tryz.prog (.ty 66) (.st kTrip) := .st Tryz.underlying66 (by kernel_rfl) (.pair rfl (by kernel_rfl) conf_int (.pair rfl (by kernel_rfl) conf_int (.pair rfl (by kernel_rfl) conf_int .unit)))
theorem is_size {ds : List D} (h : Shape kTrip ds) : ∃ z : Int × Int × Int, D.agg ds = .agg (encZ z) := by
  obtain ⟨p, rfl⟩ := is_trip h
  exact ⟨p, rfl⟩
end Go.Proofs.YtabliglgeiajlaaGreat.AM
