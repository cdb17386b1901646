/- A stack cropped. -/
import Derived.Test.YtabliglgeiajlaaP1
import Derived.Test.YtabliglgeiajlaaTS
import Derived.Test.YtabliglgeiajlaaN2
set_option linter.unusedSimpArgs false
set_option linter.unusedVariables false
namespace Go.Proofs.Ytabliglgeiajlaa.AM
open Go Go.RowKit Go.Proofs
set_option maxRecDepth 100000
set_option maxHeartbeats 1000000

/-- How many are kept: up to the last one for which p holds. -/
def keepR {α : Type} (p : α → Bool) : List α → Nat
  | [] => 0
  | x :: r => if p x = true then r.length + 1 else keepR p r
def keepN {α : Type} (p : α → Bool) (l : List α) : Nat := keepR p l.reverse
theorem keepN_snoc {α : Type} (p : α → Bool) (l : List α) (x : α) : keepN p (l ++ [x]) = if p x = true then l.length + 1 else keepN p l := by
  simp [keepN, keepR]
theorem keepN_take {α : Type} {p : α → Bool} {l : List α} {i : Nat} {x : α} (h : l[i]? = some x) : keepN p (l.take (i + 1)) = if p x = true then i + 1 else keepN p (l.take i) := by
  obtain ⟨hi, rfl⟩ := List.getElem?_eq_some_iff.1 h
  rw [List.take_succ_eq_append_getElem hi, keepN_snoc, List.length_take, Nat.min_eq_left (by omega)]
theorem keepR_le {α : Type} (p : α → Bool) : ∀ l : List α, keepR p l ≤ l.length
  | [] => Nat.le_refl _
  | x :: r => by
    have := keepR_le p r
    unfold keepR
    split <;> simp only [List.length_cons] <;> omega
theorem keepN_le {α : Type} (p : α → Bool) (l : List α) : keepN p l ≤ l.length := by
  have := keepR_le p l.reverse
  simpa [keepN] using this
/-- A frame that an observer sees. -/
def seenF (us : List Nat) (o : Nat) (x : Bool × Int × Int) : Bool := x.1 && fl us x.2.2.toNat o
def cropS (us : List Nat) (o : Nat) (s : List (Bool × Int × Int)) : List (Bool × Int × Int) := s.take (keepN (seenF us o) s)
theorem wrapM {i : Nat} (h : i ≤ 1000000) : IntKind.i64.wrap ((i : Int) - 1) = (i : Int) - 1 := by rw [IntKind.wrap_i64]; omega
set_option maxHeartbeats 4000000 in
theorem crop_fn (f g fa : Bool) (ns : List ByteArray) (us : List Nat) (o : Nat) (s : List (Bool × Int × Int)) (hs : Szs ns) (hu : U32 us) (hc : checkF ns us = 0) (ho : o < us.length) (hb : s.length ≤ 1000) (hx : ∀ x ∈ s, oddL us.length x.2.2 = false) :
    Fn Try.prog 162 [.agg [.sl f 1 (strRow ns), .sl g 1 (u32Row us), .v (.int .i64 (o : Int))], .sl fa 3 (sRow s)] [] (.sl false 3 (sRow (cropS us o s))) [] := by
  have hw := wrapM (i := s.length) (by omega)
  refine Fn.of (fn := Try.f162) (by kernel_rfl) rfl (by kernel_rfl) ⟨[.agg [.sl f 1 (strRow ns), .sl g 1 (u32Row us), .v (.int .i64 (o : Int))], .sl fa 3 (sRow s), .v undef, .v undef, .v undef, .v undef, .v undef, .v undef, .v undef, .v undef, .v undef, .v undef, .v undef, .v undef, .v undef, .v undef, .v undef, .v undef, .v undef, .v undef, .v undef, .v undef, .v undef, .v undef, .v undef, .v undef, .v undef, .v undef, .v undef, .v undef, .v undef], []⟩ rfl ?_
  repeat' first | (with_reducible first | refine AWP_seq' ?_ | refine k_normal ?_ | refine AWP_block ?_) | ((with_reducible refine AWP_reg fun KC J hJ hKC => ?_); simp (maxSteps := 10000000) only [push_cast, seval, ↓reduceIte, hw]) | ((with_reducible refine hJ _ _ ?_); clear hJ hKC KC J)
  refine AWP_loopD 1 (γ := {i : Nat // i ≤ s.length ∧ keepN (seenF us o) s = keepN (seenF us o) (s.take i)}) (fun i => ⟨[.any, .sl fa 3 (sRow s), .ptr 0 0 0, .any, .v (.slice none 0 0), .v (.int .i64 ((i.1 : Int) - 1)), .any, .any, .any, .any, .any, .any, .any, .any, .any, .any, .any, .any, .any, .any, .any, .any, .any, .any, .any, .any, .any, .any, .any, .any, .any], [.ent ⟨0, none, 188, [.sl f 1 (strRow ns), .sl g 1 (u32Row us), .v (.int .i64 (o : Int))], .cells⟩]⟩) (fun i => i.1) ⟨s.length, by simp⟩ (fun i => rfl) (fun i => clsd_all rfl) (fun i => rfl) ⟨?_, Fq⟩ ?_
  · exact Lq
  rintro ⟨i, hi, hk⟩
  rcases i with _ | j
  · skip
    repeat' first | (with_reducible first | refine AWP_seq' ?_ | refine k_normal ?_ | refine k_exit ?_ | refine b_exit ?_ | refine AWP_ret ?_ | refine AWP_exit ?_) | ((with_reducible refine AWP_reg fun KC J hJ hKC => ?_); simp (maxSteps := 10000000) only [push_cast, seval, ↓reduceIte, (show decide ((0 : Int) ≤ ((0 : Nat) : Int) - 1) = false from rfl)]) | ((with_reducible refine hJ _ _ ?_); clear hJ hKC KC J) | ((with_reducible refine AWP_condF ?_ ?_); · rfl)
    refine ret_plain ?_
    simp (maxSteps := 10000000) only [push_cast, seval, ↓reduceIte, show Try.f162.results = #[(.tmp 4)] from rfl]
    rw [cropS, hk]
    exact leD_nil
  · have hj : (((j + 1 : Nat) : Int) - 1) = (j : Int) := by omega
    have hj0 : decide ((0 : Int) ≤ (j : Int)) = true := decide_eq_true (by omega)
    have hx1 : s[j]? = some s[j] := List.getElem?_eq_getElem (by omega)
    have hxm := hx s[j] (List.getElem_mem (by omega))
    obtain ⟨⟨r, v, l⟩, hr0⟩ : ∃ r, s[j] = r := ⟨_, rfl⟩
    rw [hr0] at hx1 hxm
    obtain ⟨a, ha, hal⟩ := oddL_no hxm
    simp only at ha
    subst ha
    have hse := sees_fn f g ns us a o hs hu hc hal ho
    obtain ⟨z, hz⟩ : ∃ z, fl us a o = z := ⟨_, rfl⟩
    rw [hz] at hse
    have hst := keepN_take (p := seenF us o) hx1
    have hsf : seenF us o (r, v, (a : Int)) = (r && z) := by rw [seenF, Int.toNat_natCast, hz]
    rw [hsf] at hst
    have hwj := wrapM (i := j) (by omega)
    simp only [hj]
    cases r
    case false =>
      repeat' first | (with_reducible first | refine AWP_seq' ?_ | refine k_normal ?_ | refine b_normal ?_ | refine AWP_skip ?_ | refine AWP_block ?_) | ((with_reducible first | refine AWP_reg fun KC J hJ hKC => ?_ | refine AWP_regD rfl fun KC J hJ hKC => ?_); simp (maxSteps := 10000000) only [push_cast, seval, ↓reduceIte, hj0, getE_s hx1, hz, hwj, undef]) | ((with_reducible refine And.intro ?_ ?_); · exact Sq) | ((first | with_reducible refine hJ _ _ ?_ | (with_reducible refine hJ _ _ ?_ ?_; · kernel_rfl)); clear hJ hKC KC J) | ((with_reducible refine AWP_condT ?_ ?_); · rfl) | ((with_reducible refine AWP_condF ?_ ?_); · rfl)
      refine ⟨⟨j, by omega, by rw [hk, hst]; rfl⟩, by simp only; omega, ?_, ⟨_, rfl⟩⟩
      exact Lq
    cases z
    case false =>
      repeat' first | (with_reducible first | refine AWP_seq' ?_ | refine k_normal ?_ | refine b_normal ?_ | refine AWP_skip ?_ | refine AWP_block ?_) | ((with_reducible first | refine AWP_reg fun KC J hJ hKC => ?_ | refine AWP_regD rfl fun KC J hJ hKC => ?_); simp (maxSteps := 10000000) only [push_cast, seval, ↓reduceIte, hj0, getE_s hx1, hz, hwj, undef]) | ((with_reducible refine And.intro ?_ ?_); · exact Sq) | (refine' hKC _ _ _ _ _ (callV0 (sees_fn _ _ _ _ _ _ ?_ ?_ ?_ ?_ ?_) rfl rfl rfl ?_ ?_); (rotate_left 11); (· exact Lq); (rotate_left 1); (iterate 5 (· exact Hq)); simp (maxSteps := 10000000) only [push_cast, seval, ↓reduceIte, hj0, getE_s hx1, hz, hwj, undef]) | ((first | with_reducible refine hJ _ _ ?_ | (with_reducible refine hJ _ _ ?_ ?_; · kernel_rfl)); clear hJ hKC KC J) | ((with_reducible refine AWP_condT ?_ ?_); · rfl) | ((with_reducible refine AWP_condF ?_ ?_); · rfl)
      refine ⟨⟨j, by omega, by rw [hk, hst]; rfl⟩, by simp only; omega, ?_, ⟨_, rfl⟩⟩
      exact Lq
    have hcr : cropS us o s = s.take (j + 1) := by rw [cropS, hk, hst]; rfl
    repeat' first | (with_reducible first | refine AWP_seq' ?_ | refine k_normal ?_ | refine k_ret ?_ | refine b_ret ?_ | refine AWP_ret ?_ | refine AWP_skip ?_ | refine AWP_block ?_) | ((with_reducible first | refine AWP_reg fun KC J hJ hKC => ?_ | refine AWP_regD rfl fun KC J hJ hKC => ?_); simp (maxSteps := 10000000) only [push_cast, seval, ↓reduceIte, hj0, getE_s hx1, hz, wrapN (i := j) (n := s.length) (by omega) (by omega), undef]) | ((with_reducible refine And.intro ?_ ?_); · exact Sq) | (refine' hKC _ _ _ _ _ (callV0 (sees_fn _ _ _ _ _ _ ?_ ?_ ?_ ?_ ?_) rfl rfl rfl ?_ ?_); (rotate_left 11); (· exact Lq); (rotate_left 1); (iterate 5 (· exact Hq)); simp (maxSteps := 10000000) only [push_cast, seval, ↓reduceIte, hj0, getE_s hx1, hz, wrapN (i := j) (n := s.length) (by omega) (by omega), undef]) | ((first | with_reducible refine hJ _ _ ?_ | (with_reducible refine hJ _ _ ?_ ?_; · kernel_rfl)); clear hJ hKC KC J) | ((with_reducible refine AWP_condT ?_ ?_); · rfl)
    refine ret_plain ?_
    simp (maxSteps := 10000000) only [push_cast, seval, ↓reduceIte, show Try.f162.results = #[(.tmp 4)] from rfl]
    rw [hcr]
    exact leD_refl _
set_option maxHeartbeats 4000000 in
theorem rCrop_fn (f g fa : Bool) (ns : List ByteArray) (us : List Nat) (o : Nat) (s : List (Bool × Int × Int)) (hu : U32 us) (ho : o ≤ 1000) (hb : s.length ≤ 1000) (hx : ∀ x ∈ s, oddL us.length x.2.2 = false) :
    Fn Try.prog 74 [.agg [.sl f 1 (strRow ns), .sl g 1 (u32Row us)], .v (.int .i64 (o : Int)), .sl fa 3 (sRow s)] [] (.sl false 3 (sRow (cropS us o s))) [] := by
  refine Fn.of (fn := Try.f74) (by kernel_rfl) rfl (by kernel_rfl) ⟨[.agg [.sl f 1 (strRow ns), .sl g 1 (u32Row us)], .v (.int .i64 (o : Int)), .sl fa 3 (sRow s), .v undef, .v undef, .v undef, .v undef, .v undef, .v undef, .v undef, .v undef, .v undef, .v undef, .v undef, .v undef, .v undef, .v undef, .v undef, .v undef, .v undef, .v undef, .v undef, .v undef, .v undef, .v undef, .v undef, .v undef, .v undef, .v undef, .v undef, .v undef, .v undef], []⟩ rfl ?_
  repeat' first | (with_reducible first | refine AWP_seq' ?_ | refine k_normal ?_ | refine AWP_block ?_) | ((with_reducible refine AWP_reg fun KC J hJ hKC => ?_); simp (maxSteps := 10000000) only [push_cast, seval, ↓reduceIte]) | ((with_reducible refine hJ _ _ ?_); clear hJ hKC KC J)
  refine AWP_loopD 1 (γ := {i : Nat // i ≤ s.length}) (fun i => ⟨[.any, .v (.int .i64 (o : Int)), .sl fa 3 (sRow s), .ptr 0 0 0, .any, .any, .any, .v (.int .i64 (keepN (seenF us o) (s.take i.1))), .any, .any, .sl fa 3 (sRow s), .v (.int .i64 s.length), .v (.int .i64 i.1), .any, .any, .any, .any, .any, .any, .any, .any, .any, .any, .any, .any, .any, .any, .any, .any, .any, .any, .any], [.ent ⟨0, none, 25, [.sl f 1 (strRow ns), .sl g 1 (u32Row us)], .cells⟩]⟩) (fun i => s.length - i.1) ⟨0, by simp⟩ (fun i => rfl) (fun i => clsd_all rfl) (fun i => rfl) ⟨?_, Fq⟩ ?_
  · exact Lq
  rintro ⟨i, hi⟩
  by_cases hlt : (i : Int) < (s.length : Int)
  · have hx1 : s[i]? = some s[i] := List.getElem?_eq_getElem (by omega)
    have hxm := hx s[i] (List.getElem_mem (by omega))
    obtain ⟨⟨r, v, l⟩, hr0⟩ : ∃ r, s[i] = r := ⟨_, rfl⟩
    rw [hr0] at hx1 hxm
    obtain ⟨a, ha, hal⟩ := oddL_no hxm
    simp only at ha
    subst ha
    have hse := rSees_fn f g ns us o a hu hal ho
    obtain ⟨z, hz⟩ : ∃ z, fl us a o = z := ⟨_, rfl⟩
    rw [hz] at hse
    have hst := keepN_take (p := seenF us o) hx1
    have hsf : seenF us o (r, v, (a : Int)) = (r && z) := by rw [seenF, Int.toNat_natCast, hz]
    rw [hsf] at hst
    have hwi := wrapN (i := i) (n := s.length) (by omega) (by omega)
    simp only
    obtain ⟨k, hk⟩ : ∃ k, keepN (seenF us o) (s.take i) = k := ⟨_, rfl⟩
    rw [hk] at hst ⊢
    cases r
    case false =>
      repeat' first | (with_reducible first | refine AWP_seq' ?_ | refine k_normal ?_ | refine b_normal ?_ | refine AWP_skip ?_ | refine AWP_block ?_) | ((with_reducible refine AWP_reg fun KC J hJ hKC => ?_); simp (maxSteps := 10000000) only [push_cast, seval, ↓reduceIte, hlt, getE_s hx1, hz, hwi, undef]) | ((with_reducible refine And.intro ?_ ?_); · exact Sq) | ((with_reducible refine hJ _ _ ?_); clear hJ hKC KC J) | ((with_reducible refine AWP_condT ?_ ?_); · rfl) | ((with_reducible refine AWP_condF ?_ ?_); · rfl)
      refine ⟨⟨i + 1, by omega⟩, by simp only; omega, ?_, ⟨_, rfl⟩⟩
      simp only [hst]
      exact Lq
    cases z
    case false =>
      repeat' first | (with_reducible first | refine AWP_seq' ?_ | refine k_normal ?_ | refine b_normal ?_ | refine AWP_skip ?_ | refine AWP_block ?_) | ((with_reducible refine AWP_reg fun KC J hJ hKC => ?_); simp (maxSteps := 10000000) only [push_cast, seval, ↓reduceIte, hlt, getE_s hx1, hz, hwi, undef]) | ((with_reducible refine And.intro ?_ ?_); · exact Sq) | (refine' hKC _ _ _ _ _ (callV0 (rSees_fn _ _ _ _ _ _ ?_ ?_ ?_) rfl rfl rfl ?_ ?_); (rotate_left 9); (· exact Lq); (rotate_left 1); (iterate 3 (· exact Hq)); simp (maxSteps := 10000000) only [push_cast, seval, ↓reduceIte, hlt, getE_s hx1, hz, hwi, undef]) | ((with_reducible refine hJ _ _ ?_); clear hJ hKC KC J) | ((with_reducible refine AWP_condT ?_ ?_); · rfl) | ((with_reducible refine AWP_condF ?_ ?_); · rfl)
      refine ⟨⟨i + 1, by omega⟩, by simp only; omega, ?_, ⟨_, rfl⟩⟩
      simp only [hst]
      exact Lq
    repeat' first | (with_reducible first | refine AWP_seq' ?_ | refine k_normal ?_ | refine b_normal ?_ | refine AWP_skip ?_ | refine AWP_block ?_) | ((with_reducible refine AWP_reg fun KC J hJ hKC => ?_); simp (maxSteps := 10000000) only [push_cast, seval, ↓reduceIte, hlt, getE_s hx1, hz, hwi, undef]) | ((with_reducible refine And.intro ?_ ?_); · exact Sq) | (refine' hKC _ _ _ _ _ (callV0 (rSees_fn _ _ _ _ _ _ ?_ ?_ ?_) rfl rfl rfl ?_ ?_); (rotate_left 9); (· exact Lq); (rotate_left 1); (iterate 3 (· exact Hq)); simp (maxSteps := 10000000) only [push_cast, seval, ↓reduceIte, hlt, getE_s hx1, hz, hwi, undef]) | ((with_reducible refine hJ _ _ ?_); clear hJ hKC KC J) | ((with_reducible refine AWP_condT ?_ ?_); · rfl)
    refine ⟨⟨i + 1, by omega⟩, by simp only; omega, ?_, ⟨_, rfl⟩⟩
    simp only [hst]
    exact Lq
  · have hin : i = s.length := by omega
    subst hin
    rw [List.take_length]
    have hle := keepN_le (seenF us o) s
    obtain ⟨k, hk⟩ : ∃ k, keepN (seenF us o) s = k := ⟨_, rfl⟩
    have hcr : cropS us o s = s.take k := by rw [cropS, hk]
    rw [hcr]
    rw [hk] at hle ⊢
    repeat' first | (with_reducible first | refine AWP_seq' ?_ | refine k_normal ?_ | refine k_exit ?_ | refine b_exit ?_ | refine AWP_ret ?_ | refine AWP_exit ?_) | ((with_reducible refine AWP_reg fun KC J hJ hKC => ?_); simp (maxSteps := 10000000) only [push_cast, seval, ↓reduceIte, hlt]) | ((with_reducible refine And.intro ?_ ?_); · exact Sq) | ((with_reducible refine hJ _ _ ?_); clear hJ hKC KC J) | ((with_reducible refine AWP_condF ?_ ?_); · rfl)
    refine ret_plain ?_
    simp (maxSteps := 10000000) only [push_cast, seval, ↓reduceIte, show Try.f74.results = #[(.tmp 6)] from rfl]
    exact leD_refl _
end Go.Proofs.Ytabliglgeiajlaa.AM
