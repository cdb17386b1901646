/- Alike: Atom. -/
import Derived.Test.YtabliglgeiajlaaLA
set_option linter.unusedSimpArgs false
set_option linter.unusedVariables false
namespace Go.Proofs.Ytabliglgeiajlaa.AM
open Go Go.RowKit Go.Proofs
set_option maxRecDepth 100000
set_option maxHeartbeats 1000000

def sameA (x y : Int × Int) : Bool := true
def seenA (x y : Int × Int) : Bool := (x.1 == y.1)
theorem sameA_fn (x y : Int × Int) : Fn Try.prog 216 [.agg [.v (.int .i64 x.1), .v (.int .i64 x.2)], .agg [.v (.int .i64 y.1), .v (.int .i64 y.2)]] [] (.v (.bool (sameA x y))) [] := by
  refine Fn.of (fn := Try.f216) (by kernel_rfl) rfl (by kernel_rfl) ⟨[.agg [.v (.int .i64 x.1), .v (.int .i64 x.2)], .agg [.v (.int .i64 y.1), .v (.int .i64 y.2)], .v undef, .v undef, .v undef], []⟩ rfl ?_
  repeat' first | (with_reducible first | refine AWP_seq' ?_ | refine k_normal ?_ | refine AWP_ret ?_) | ((with_reducible refine AWP_reg fun KC J hJ hKC => ?_); simp (maxSteps := 10000000) only [push_cast, seval, ↓reduceIte]) | ((with_reducible refine hJ _ _ ?_); clear hJ hKC KC J)
  refine ret_plain ?_
  simp (maxSteps := 10000000) only [push_cast, seval, ↓reduceIte, show Try.f216.results = #[(.tmp 4)] from rfl]
  exact leD_refl _
theorem seenA_fn (x y : Int × Int) : Fn Try.prog 218 [.agg [.v (.int .i64 x.1), .v (.int .i64 x.2)], .agg [.v (.int .i64 y.1), .v (.int .i64 y.2)]] [] (.v (.bool (seenA x y))) [] := by
  refine Fn.of (fn := Try.f218) (by kernel_rfl) rfl (by kernel_rfl) ⟨[.agg [.v (.int .i64 x.1), .v (.int .i64 x.2)], .agg [.v (.int .i64 y.1), .v (.int .i64 y.2)], .v undef, .v undef, .v undef, .v undef, .v undef, .v undef, .v undef, .v undef], []⟩ rfl ?_
  repeat' first | (with_reducible first | refine AWP_seq' ?_ | refine k_normal ?_ | refine AWP_ret ?_) | ((with_reducible refine AWP_reg fun KC J hJ hKC => ?_); simp (maxSteps := 10000000) only [push_cast, seval, ↓reduceIte]) | ((with_reducible refine hJ _ _ ?_); clear hJ hKC KC J)
  refine ret_plain ?_
  simp (maxSteps := 10000000) only [push_cast, seval, ↓reduceIte, show Try.f218.results = #[(.tmp 4)] from rfl]
  exact leD_refl _
/-- Two of them are alike to an observer. -/
def alA (us : List Nat) (o : Nat) (x y : Int × Int) : Bool := sameA x y && (x.2 == y.2 && (!fl us x.2.toNat o || seenA x y))
theorem alike1A_fn (f g : Bool) (ns : List ByteArray) (us : List Nat) (o a : Nat) (x y : Int × Int) (hs : Szs ns) (hu : U32 us) (hc : checkF ns us = 0) (hx : x.2 = (a : Int)) (ha : a < us.length) (ho : o < us.length) :
    Fn Try.prog 241 [.agg [.v (.int .i64 x.1), .v (.int .i64 x.2)], .agg [.v (.int .i64 y.1), .v (.int .i64 y.2)], .fad fnsA, .fad [.sl f 1 (strRow ns), .sl g 1 (u32Row us), .v (.int .i64 (o : Int))]] [] (.v (.bool (alA us o x y))) [] := by
  have h1 := sameA_fn x y
  have h2 := labA_fn x
  have h3 := labA_fn y
  have h4 := seenA_fn x y
  have h5 := sees_fn f g ns us a o hs hu hc ha ho
  rw [hx] at h1 h2 h4
  obtain ⟨p, hp⟩ : ∃ p, sameA x y = p := ⟨_, rfl⟩
  obtain ⟨q, hq⟩ : ∃ q, ((a : Int) == y.2) = q := ⟨_, rfl⟩
  obtain ⟨z, hz⟩ : ∃ z, fl us a o = z := ⟨_, rfl⟩
  have hal : alA us o x y = (p && (q && (!z || seenA x y))) := by rw [alA, hp, hx, hq, Int.toNat_natCast, hz]
  rw [hal]
  rw [hp] at h1
  rw [hz] at h5
  rw [hx]
  refine Fn.of (fn := Try.f241) (by kernel_rfl) rfl (by kernel_rfl) ⟨[.agg [.v (.int .i64 x.1), .v (.int .i64 (a : Int))], .agg [.v (.int .i64 y.1), .v (.int .i64 y.2)], .fad fnsA, .fad [.sl f 1 (strRow ns), .sl g 1 (u32Row us), .v (.int .i64 (o : Int))], .v undef, .v undef, .v undef, .v undef, .v undef, .v undef, .v undef, .v undef, .v undef, .v undef, .v undef, .v undef, .v undef, .v undef, .v undef, .v undef, .v undef, .v undef, .v undef, .v undef, .v undef, .v undef, .v undef, .v undef, .v undef, .v undef, .v undef, .v undef, .v undef, .v undef, .v undef, .v undef, .v undef, .v undef, .v undef], []⟩ rfl ?_
  rcases p with _ | _
  rotate_left
  rcases q with _ | _
  rotate_left
  rcases z with _ | _
  all_goals
    repeat' first | (with_reducible first | refine AWP_seq' ?_ | refine k_normal ?_ | refine AWP_ret ?_) | ((with_reducible first | refine AWP_reg fun KC J hJ hKC => ?_ | refine AWP_regD rfl fun KC J hJ hKC => ?_); simp (maxSteps := 10000000) only [push_cast, seval, ↓reduceIte, hq, hz, undef]) | (refine' hKC _ _ _ _ _ (callV0 (sees_fn _ _ _ _ _ _ ?_ ?_ ?_ ?_ ?_) rfl rfl rfl ?_ ?_); (rotate_left 11); (· exact Lq); (rotate_left 1); (iterate 5 (· exact Hq)); simp (maxSteps := 10000000) only [push_cast, seval, ↓reduceIte, hq, hz, undef]) | (refine hKC _ _ _ _ _ (callV0 (h1) rfl rfl rfl ?_ ?_); (· exact Lq); simp (maxSteps := 10000000) only [push_cast, seval, ↓reduceIte, hq, hz, undef]) | (refine hKC _ _ _ _ _ (callV0 (h2) rfl rfl rfl ?_ ?_); (· exact Lq); simp (maxSteps := 10000000) only [push_cast, seval, ↓reduceIte, hq, hz, undef]) | (refine hKC _ _ _ _ _ (callV0 (h3) rfl rfl rfl ?_ ?_); (· exact Lq); simp (maxSteps := 10000000) only [push_cast, seval, ↓reduceIte, hq, hz, undef]) | (refine hKC _ _ _ _ _ (callV0 (h4) rfl rfl rfl ?_ ?_); (· exact Lq); simp (maxSteps := 10000000) only [push_cast, seval, ↓reduceIte, hq, hz, undef]) | ((first | with_reducible refine hJ _ _ ?_ | (with_reducible refine hJ _ _ ?_ ?_; · kernel_rfl)); clear hJ hKC KC J)
    refine ret_plain ?_
    simp (maxSteps := 10000000) only [push_cast, seval, ↓reduceIte, show Try.f241.results = #[(.tmp 6)] from rfl]
    exact leD_refl _
/-- Rows of them are, one by one. -/
def rowsBA (p : Int × Int → Int × Int → Bool) : List (Int × Int) → List (Int × Int) → Bool
  | [], [] => true
  | x :: xs, y :: ys => p x y && rowsBA p xs ys
  | _, _ => false
theorem rowsBA_len {p : Int × Int → Int × Int → Bool} : ∀ {xs ys : List (Int × Int)}, ¬ xs.length = ys.length → rowsBA p xs ys = false
  | [], [], h => absurd rfl h
  | [], _ :: _, _ => rfl
  | _ :: _, [], _ => rfl
  | _ :: xs, _ :: ys, h => by rw [rowsBA, rowsBA_len (fun e => h (by simp [e]))]; simp
theorem rowsBA_yes {p : Int × Int → Int × Int → Bool} : ∀ {xs ys : List (Int × Int)}, xs.length = ys.length → (∀ (j : Nat) (x y : Int × Int), xs[j]? = some x → ys[j]? = some y → p x y = true) → rowsBA p xs ys = true
  | [], [], _, _ => rfl
  | [], _ :: _, h, _ => by simp at h
  | _ :: _, [], h, _ => by simp at h
  | x :: xs, y :: ys, h, hp => by
    rw [rowsBA, hp 0 x y rfl rfl, rowsBA_yes (by simpa using h) (fun j a b ha hb => hp (j + 1) a b (by simpa using ha) (by simpa using hb))]; rfl
theorem rowsBA_no {p : Int × Int → Int × Int → Bool} : ∀ {xs ys : List (Int × Int)} {j : Nat} {x y : Int × Int}, xs[j]? = some x → ys[j]? = some y → p x y = false → rowsBA p xs ys = false
  | [], _, j, x, y, h, _, _ => by simp at h
  | _ :: _, [], j, x, y, _, h, _ => by simp at h
  | a :: xs, b :: ys, 0, x, y, h1, h2, h3 => by simp at h1 h2; rw [rowsBA, h1, h2, h3]; rfl
  | a :: xs, b :: ys, j + 1, x, y, h1, h2, h3 => by rw [rowsBA, rowsBA_no (by simpa using h1) (by simpa using h2) h3]; simp
theorem equalFuncA_fn (f g : Bool) (xs ys : List (Int × Int)) (cf : Nat) (caps : List D) (p : Int × Int → Int × Int → Bool) (hb : xs.length ≤ 9223372036854775807) (hc : frz0All caps = true)
    (hp : ∀ x ∈ xs, ∀ y, Fn Try.prog cf (.agg [.v (.int .i64 x.1), .v (.int .i64 x.2)] :: .agg [.v (.int .i64 y.1), .v (.int .i64 y.2)] :: caps) [] (.v (.bool (p x y))) []) : Fn Try.prog 240 [.sl f 2 (pRow xs), .sl g 2 (pRow ys), .fn cf caps] [] (.v (.bool (rowsBA p xs ys))) [] := by
  refine Fn.of (fn := Try.f240) (by kernel_rfl) rfl (by kernel_rfl) ⟨[.sl f 2 (pRow xs), .sl g 2 (pRow ys), .fn cf caps, .v undef, .v undef, .v undef, .v undef, .v undef, .v undef, .v undef, .v undef, .v undef, .v undef, .v undef, .v undef, .v undef, .v undef, .v undef, .v undef, .v undef, .v undef, .v undef, .v undef, .v undef, .v undef, .v undef, .v undef, .v undef, .v undef, .v undef, .v undef, .v undef], []⟩ rfl ?_
  by_cases hl : xs.length = ys.length
  · have hl' : ((xs.length : Int) != (ys.length : Int)) = false := by simp [hl]
    repeat' first | (with_reducible first | refine AWP_seq' ?_ | refine k_normal ?_ | refine AWP_skip ?_ | refine AWP_block ?_) | ((with_reducible refine AWP_reg fun KC J hJ hKC => ?_); simp (maxSteps := 10000000) only [push_cast, seval, ↓reduceIte, hl']) | ((with_reducible refine hJ _ _ ?_); clear hJ hKC KC J) | ((with_reducible refine AWP_condF ?_ ?_); · rfl)
    refine AWP_loopD 0 (γ := {i : Nat // i ≤ xs.length ∧ ∀ (j : Nat) (x y : Int × Int), j < i → xs[j]? = some x → ys[j]? = some y → p x y = true}) (fun i => ⟨[.sl f 2 (pRow xs), .sl g 2 (pRow ys), .fn cf caps, .any, .any, .any, .any, .any, .any, .any, .any, .any, .any, .any, .any, .sl f 2 (pRow xs), .v (.int .i64 xs.length), .v (.int .i64 i.1), .any, .any, .any, .any, .any, .any, .any, .any, .any, .any, .any, .any, .any, .any], []⟩) (fun i => xs.length - i.1) ⟨0, by simp⟩ (fun i => rfl) (fun i => rfl) (fun i => ?_) ⟨?_, Fq⟩ ?_
    · simp only [List.map_cons, List.map_nil, show ren (mOf (List.range 0)) (.fn cf caps) = .fn cf caps from by show D.fn cf (caps.map _) = _; rw [map_frz0 (fun d hd => ren0_frz0 hd) hc]]
      rfl
    · exact Lq
    · rintro ⟨i, hi, hn⟩
      by_cases hlt : (i : Int) < (xs.length : Int)
      · have hx : xs[i]? = some xs[i] := List.getElem?_eq_getElem (by omega)
        have hy : ys[i]? = some ys[i] := List.getElem?_eq_getElem (by omega)
        have hfn := hp xs[i] (List.getElem_mem (by omega)) ys[i]
        obtain ⟨a, ha⟩ : ∃ a, xs[i] = a := ⟨_, rfl⟩
        obtain ⟨b, hb2⟩ : ∃ b, ys[i] = b := ⟨_, rfl⟩
        rw [ha] at hx
        rw [hb2] at hy
        rw [ha, hb2] at hfn
        cases hpv : p a b with
        | true =>
          rw [hpv] at hfn
          repeat' first | (with_reducible first | refine AWP_seq' ?_ | refine k_normal ?_ | refine b_normal ?_ | refine AWP_skip ?_ | refine AWP_block ?_) | ((with_reducible refine AWP_reg fun KC J hJ hKC => ?_); simp (maxSteps := 10000000) only [push_cast, seval, ↓reduceIte, hlt, getE_p hx, getE_p hy, wrapN (i := i) (n := xs.length) (by omega) hb]) | ((with_reducible refine And.intro ?_ ?_); · exact Sq) | (refine hKC _ _ _ _ _ (callV0 (hfn) rfl rfl rfl ?_ ?_); (· exact Lq); simp (maxSteps := 10000000) only [push_cast, seval, ↓reduceIte, hlt, getE_p hx, getE_p hy, wrapN (i := i) (n := xs.length) (by omega) hb]) | ((with_reducible refine hJ _ _ ?_); clear hJ hKC KC J) | ((with_reducible refine AWP_condT ?_ ?_); · rfl) | ((with_reducible refine AWP_condF ?_ ?_); · rfl)
          refine ⟨⟨i + 1, by omega, fun j x y hj h1 h2 => ?_⟩, by simp only; omega, ?_, ⟨_, rfl⟩⟩
          · by_cases hji : j = i
            · rw [hji] at h1 h2
              rw [hx] at h1; rw [hy] at h2
              cases h1; cases h2; exact hpv
            · exact hn j x y (by omega) h1 h2
          · exact Lq
        | false =>
          rw [hpv] at hfn
          repeat' first | (with_reducible first | refine AWP_seq' ?_ | refine k_normal ?_ | refine k_ret ?_ | refine b_ret ?_ | refine AWP_ret ?_ | refine AWP_skip ?_ | refine AWP_block ?_) | ((with_reducible refine AWP_reg fun KC J hJ hKC => ?_); simp (maxSteps := 10000000) only [push_cast, seval, ↓reduceIte, hlt, getE_p hx, getE_p hy]) | ((with_reducible refine And.intro ?_ ?_); · exact Sq) | (refine hKC _ _ _ _ _ (callV0 (hfn) rfl rfl rfl ?_ ?_); (· exact Lq); simp (maxSteps := 10000000) only [push_cast, seval, ↓reduceIte, hlt, getE_p hx, getE_p hy]) | ((with_reducible refine hJ _ _ ?_); clear hJ hKC KC J) | ((with_reducible refine AWP_condT ?_ ?_); · rfl)
          refine ret_plain ?_
          simp (maxSteps := 10000000) only [push_cast, seval, ↓reduceIte, show Try.f240.results = #[(.tmp 6)] from rfl]
          rw [rowsBA_no hx hy hpv]
          exact leD_refl _
      · skip
        repeat' first | (with_reducible first | refine AWP_seq' ?_ | refine k_normal ?_ | refine k_exit ?_ | refine b_exit ?_ | refine AWP_ret ?_ | refine AWP_exit ?_) | ((with_reducible refine AWP_reg fun KC J hJ hKC => ?_); simp (maxSteps := 10000000) only [push_cast, seval, ↓reduceIte, hlt]) | ((with_reducible refine hJ _ _ ?_); clear hJ hKC KC J) | ((with_reducible refine AWP_condF ?_ ?_); · rfl)
        refine ret_plain ?_
        simp (maxSteps := 10000000) only [push_cast, seval, ↓reduceIte, show Try.f240.results = #[(.tmp 6)] from rfl]
        rw [rowsBA_yes hl (fun j x y h1 h2 => hn j x y (by have := (List.getElem?_eq_some_iff.1 h1).1; omega) h1 h2)]
        exact leD_refl _
  · have hl' : ((xs.length : Int) != (ys.length : Int)) = true := by simp; omega
    repeat' first | (with_reducible first | refine AWP_seq' ?_ | refine k_normal ?_ | refine k_ret ?_ | refine AWP_ret ?_) | ((with_reducible refine AWP_reg fun KC J hJ hKC => ?_); simp (maxSteps := 10000000) only [push_cast, seval, ↓reduceIte, hl']) | ((with_reducible refine hJ _ _ ?_); clear hJ hKC KC J) | ((with_reducible refine AWP_condT ?_ ?_); · rfl)
    refine ret_plain ?_
    simp (maxSteps := 10000000) only [push_cast, seval, ↓reduceIte, show Try.f240.results = #[(.tmp 6)] from rfl]
    rw [rowsBA_len hl]
    exact leD_refl _
theorem alikeA_fn (f g fa fb : Bool) (ns : List ByteArray) (us : List Nat) (o : Nat) (xs ys : List (Int × Int)) (hs : Szs ns) (hu : U32 us) (hc : checkF ns us = 0) (ho : o < us.length) (hb : xs.length ≤ 1000) (hx : ∀ x ∈ xs, oddL us.length x.2 = false) :
    Fn Try.prog 159 [.agg [.sl f 1 (strRow ns), .sl g 1 (u32Row us), .v (.int .i64 (o : Int))], .agg fnsA, .sl fa 2 (pRow xs), .sl fb 2 (pRow ys)] [] (.v (.bool (rowsBA (alA us o) xs ys))) [] := by
  have hcf := equalFuncA_fn fa fb xs ys 241 [.fad fnsA, .fad [.sl f 1 (strRow ns), .sl g 1 (u32Row us), .v (.int .i64 (o : Int))]] (alA us o) (by omega) rfl (fun x hm y => by
    obtain ⟨a, ha, hl⟩ := oddL_no (hx x hm)
    exact alike1A_fn f g ns us o a x y hs hu hc ha hl ho)
  refine Fn.of (fn := Try.f159) (by kernel_rfl) rfl (by kernel_rfl) ⟨[.agg [.sl f 1 (strRow ns), .sl g 1 (u32Row us), .v (.int .i64 (o : Int))], .agg fnsA, .sl fa 2 (pRow xs), .sl fb 2 (pRow ys), .v undef, .v undef, .v undef, .v undef, .v undef, .v undef, .v undef, .v undef, .v undef], []⟩ rfl ?_
  repeat' first | (refine AWP_freezeR 1 0 rfl (by (simp (maxSteps := 10000000) only [push_cast, seval, ↓reduceIte]) <;> rfl) ?_; simp (maxSteps := 10000000) only [push_cast, seval, ↓reduceIte, frSt, frSlot, fr3, fr2, fr1, fr0, sameB, arrOf, frz0All, Bool.and_self]) | (refine AWP_freezeR 1 1 rfl (by (simp (maxSteps := 10000000) only [push_cast, seval, ↓reduceIte]) <;> rfl) ?_; simp (maxSteps := 10000000) only [push_cast, seval, ↓reduceIte, frSt, frSlot, fr3, fr2, fr1, fr0, sameB, arrOf, frz0All, Bool.and_self]) | (with_reducible first | refine AWP_seq' ?_ | refine k_normal ?_ | refine AWP_ret ?_) | ((with_reducible refine AWP_reg fun KC J hJ hKC => ?_); simp (maxSteps := 10000000) only [push_cast, seval, ↓reduceIte, frz0All, Bool.and_self]) | (refine hKC _ _ _ _ _ (callV0 (hcf) rfl rfl rfl ?_ ?_); (· exact Lq); simp (maxSteps := 10000000) only [push_cast, seval, ↓reduceIte, frz0All, Bool.and_self]) | ((with_reducible refine hJ _ _ ?_); clear hJ hKC KC J)
  refine ret_plain ?_
  simp (maxSteps := 10000000) only [push_cast, seval, ↓reduceIte, show Try.f159.results = #[(.tmp 8)] from rfl]
  exact leD_refl _
end Go.Proofs.Ytabliglgeiajlaa.AM
