/- Lattices: which may be. -/
import Derived.Test.YtabliglgeiajlaaGreatV1
set_option linter.unusedSimpArgs false
set_option linter.unusedVariables false
namespace Go.Proofs.YtabliglgeiajlaaGreat.AM
open Go Go.RowKit Go.Proofs
set_option maxRecDepth 100000
set_option maxHeartbeats 400000

def mayAt (ns : List ByteArray) (us : List Nat) (i : Nat) : Bool := nameB (ns.getD i { data := #[] }) && !memB (ns.getD i { data := #[] }) (ns.take i) && decide (us.getD i 0 >>> us.length = 0)
def mayB (ns : List ByteArray) (us : List Nat) : Bool := decide (1 ≤ us.length ∧ us.length ≤ 8 ∧ ns.length = us.length) && (List.range us.length).all (mayAt ns us)
theorem mayB_no {ns : List ByteArray} {us : List Nat} (h : ¬ (1 ≤ us.length ∧ us.length ≤ 8 ∧ ns.length = us.length)) : mayB ns us = false := by simp [mayB, h]
theorem mayB_at {ns : List ByteArray} {us : List Nat} {i : Nat} (hi : i < us.length) (h : mayAt ns us i = false) : mayB ns us = false := by
  have : (List.range us.length).all (mayAt ns us) = false := by
    rw [List.all_eq_false]
    exact ⟨i, by simpa using hi, by simp [h]⟩
  simp [mayB, this]
theorem mayB_yes {ns : List ByteArray} {us : List Nat} (h : 1 ≤ us.length ∧ us.length ≤ 8 ∧ ns.length = us.length) (ha : ∀ i, i < us.length → mayAt ns us i = true) : mayB ns us = true := by
  simp only [mayB, Bool.and_eq_true, decide_eq_true_eq, List.all_eq_true]
  exact ⟨h, fun i hi => ha i (by simpa using hi)⟩
theorem mayB_get {ns : List ByteArray} {us : List Nat} (h : mayB ns us = true) : (1 ≤ us.length ∧ us.length ≤ 8 ∧ ns.length = us.length) ∧ ∀ i, i < us.length → mayAt ns us i = true := by
  simp only [mayB, Bool.and_eq_true, decide_eq_true_eq, List.all_eq_true] at h
  exact ⟨h.1, fun i hi => h.2 i (by simpa using hi)⟩
def Szs (ns : List ByteArray) : Prop := ∀ s ∈ ns, s.size ≤ 9223372036854775807
theorem Szs.get {ns : List ByteArray} (h : Szs ns) {i : Nat} (hi : i < ns.length) : (ns.getD i { data := #[] }).size ≤ 9223372036854775807 := by
  rw [List.getD_eq_getElem?_getD, List.getElem?_eq_getElem hi]; exact h _ (List.getElem_mem _)

theorem latMay_fn (f g : Bool) (ns : List ByteArray) (us : List Nat) (hs : Szs ns) (hu : U32 us) :
    Fn Tryz.prog 235 [.agg [.sl f 1 (strRow ns), .sl g 1 (u32Row us)]] [] (.v (.bool (mayB ns us))) [] := by
  refine Fn.of (fn := Tryz.f235) (by kernel_rfl) rfl (by kernel_rfl) ⟨[.agg [.sl f 1 (strRow ns), .sl g 1 (u32Row us)], .v undef, .v undef, .v undef, .v undef, .v undef, .v undef, .v undef, .v undef, .v undef, .v undef, .v undef, .v undef, .v undef, .v undef, .v undef, .v undef, .v undef, .v undef, .v undef, .v undef, .v undef, .v undef, .v undef, .v undef, .v undef, .v undef, .v undef, .v undef, .v undef, .v undef, .v undef, .v undef, .v undef, .v undef, .v undef, .v undef, .v undef, .v undef, .v undef, .v undef, .v undef, .v undef, .v undef, .v undef, .v undef, .v undef, .v undef, .v undef, .v undef, .v undef, .v undef], []⟩ rfl ?_
  by_cases h1 : (us.length : Int) < 1
  · skip
    repeat' first | (with_reducible first | refine AWP_seq' ?_ | refine k_normal ?_ | refine k_ret ?_ | refine AWP_ret ?_) | ((with_reducible refine AWP_reg fun KC J hJ hKC => ?_); simp (maxSteps := 10000000) only [push_cast, seval, ↓reduceIte, h1]) | ((with_reducible refine hJ _ _ ?_); clear hJ hKC KC J) | ((with_reducible refine AWP_condT ?_ ?_); · rfl)
    refine ret_plain ?_
    simp (maxSteps := 10000000) only [push_cast, seval, ↓reduceIte, show Tryz.f235.results = #[(.tmp 2)] from rfl]
    rw [mayB_no (by omega)]
    exact leD_refl _
  by_cases h2 : (8 : Int) < us.length
  · skip
    repeat' first | (with_reducible first | refine AWP_seq' ?_ | refine k_normal ?_ | refine k_ret ?_ | refine AWP_ret ?_) | ((with_reducible refine AWP_reg fun KC J hJ hKC => ?_); simp (maxSteps := 10000000) only [push_cast, seval, ↓reduceIte, h1, h2]) | ((with_reducible refine hJ _ _ ?_); clear hJ hKC KC J) | ((with_reducible refine AWP_condT ?_ ?_); · rfl)
    refine ret_plain ?_
    simp (maxSteps := 10000000) only [push_cast, seval, ↓reduceIte, show Tryz.f235.results = #[(.tmp 2)] from rfl]
    rw [mayB_no (by omega)]
    exact leD_refl _
  by_cases h3 : ns.length = us.length
  · have h3' : ((ns.length : Int) != (us.length : Int)) = false := by simp [h3]
    repeat' first | (with_reducible first | refine AWP_seq' ?_ | refine k_normal ?_ | refine AWP_skip ?_ | refine AWP_block ?_) | ((with_reducible refine AWP_reg fun KC J hJ hKC => ?_); simp (maxSteps := 10000000) only [push_cast, seval, ↓reduceIte, h1, h2, h3']) | ((with_reducible refine hJ _ _ ?_); clear hJ hKC KC J) | ((with_reducible refine AWP_condF ?_ ?_); · rfl)
    refine AWP_loopF (γ := {i : Nat // i ≤ us.length ∧ ∀ j, j < i → mayAt ns us j = true}) (fun i => ⟨[.any, .ptr 0 0 0, .any, .v (.int .i64 us.length), .any, .any, .any, .any, .any, .any, .any, .any, .any, .any, .any, .any, .any, .any, .any, .any, .any, .any, .any, .sl f 1 (strRow ns), .v (.int .i64 ns.length), .v (.int .i64 i.1), .any, .any, .any, .any, .any, .any, .any, .any, .any, .any, .any, .any, .any, .any, .any, .any, .any, .any, .any, .any, .any, .any, .any, .any, .any, .any], [.ent ⟨0, none, 25, [.sl f 1 (strRow ns), .sl g 1 (u32Row us)], .cells⟩]⟩) (fun i => us.length - i.1) ⟨0, by simp⟩ ⟨?_, Fq⟩ ?_
    · exact Lq
    · rintro ⟨i, hi, hn⟩
      by_cases hlt : (i : Int) < (ns.length : Int)
      · have hlu : i < us.length := by omega
        have hx := getD_of ({ data := #[] } : ByteArray) (show i < ns.length by omega)
        have hy := getD_of 0 hlu
        have hsz := hs.get (show i < ns.length by omega)
        have hul := hu.get hlu
        by_cases c1 : nameB (ns.getD i { data := #[] }) = true
        · by_cases c2 : memB (ns.getD i { data := #[] }) (ns.take i) = true
          · skip
            repeat' first | (with_reducible first | refine AWP_seq' ?_ | refine k_normal ?_ | refine k_ret ?_ | refine b_ret ?_ | refine AWP_ret ?_ | refine AWP_skip ?_ | refine AWP_block ?_) | ((with_reducible refine AWP_reg fun KC J hJ hKC => ?_); simp (maxSteps := 10000000) only [push_cast, seval, ↓reduceIte, hlt, getE_str hx, getE_u32 hy, c1, c2]) | ((with_reducible refine And.intro ?_ ?_); · exact Sq) | (refine' hKC _ _ _ _ _ (callV0 (name_fn _ ?_) rfl rfl rfl ?_ ?_); (rotate_left 2); (· exact Lq); (rotate_left 1); (iterate 1 (· exact Hq)); simp (maxSteps := 10000000) only [push_cast, seval, ↓reduceIte, hlt, getE_str hx, getE_u32 hy, c1, c2]) | (refine' hKC _ _ _ _ _ (callV0 (containsStr_fn _ _ _ ?_) rfl rfl rfl ?_ ?_); (rotate_left 4); (· exact Lq); (rotate_left 1); (iterate 1 (· exact Hq)); simp (maxSteps := 10000000) only [push_cast, seval, ↓reduceIte, hlt, getE_str hx, getE_u32 hy, c1, c2]) | ((with_reducible refine hJ _ _ ?_); clear hJ hKC KC J) | ((with_reducible refine AWP_condT ?_ ?_); · rfl)
            refine ret_plain ?_
            simp (maxSteps := 10000000) only [push_cast, seval, ↓reduceIte, show Tryz.f235.results = #[(.tmp 2)] from rfl]
            rw [mayB_at hlu (by simp only [mayAt, c1, c2]; rfl)]
            exact leD_refl _
          have c2' : memB (ns.getD i { data := #[] }) (ns.take i) = false := by simpa using c2
          by_cases c3 : us.getD i 0 >>> us.length = 0
          · skip
            repeat' first | (with_reducible first | refine AWP_seq' ?_ | refine k_normal ?_ | refine b_normal ?_ | refine AWP_skip ?_ | refine AWP_block ?_) | ((with_reducible refine AWP_reg fun KC J hJ hKC => ?_); simp (maxSteps := 10000000) only [push_cast, seval, ↓reduceIte, hlt, getE_str hx, getE_u32 hy, c1, c2', uv_shr hul (b := us.length), c3, wrapN (i := i) (n := us.length) (by omega) (by omega)]) | ((with_reducible refine And.intro ?_ ?_); · exact Sq) | (refine' hKC _ _ _ _ _ (callV0 (name_fn _ ?_) rfl rfl rfl ?_ ?_); (rotate_left 2); (· exact Lq); (rotate_left 1); (iterate 1 (· exact Hq)); simp (maxSteps := 10000000) only [push_cast, seval, ↓reduceIte, hlt, getE_str hx, getE_u32 hy, c1, c2', uv_shr hul (b := us.length), c3, wrapN (i := i) (n := us.length) (by omega) (by omega)]) | (refine' hKC _ _ _ _ _ (callV0 (containsStr_fn _ _ _ ?_) rfl rfl rfl ?_ ?_); (rotate_left 4); (· exact Lq); (rotate_left 1); (iterate 1 (· exact Hq)); simp (maxSteps := 10000000) only [push_cast, seval, ↓reduceIte, hlt, getE_str hx, getE_u32 hy, c1, c2', uv_shr hul (b := us.length), c3, wrapN (i := i) (n := us.length) (by omega) (by omega)]) | ((with_reducible refine hJ _ _ ?_); clear hJ hKC KC J) | ((with_reducible refine AWP_condT ?_ ?_); · rfl) | ((with_reducible refine AWP_condF ?_ ?_); · rfl)
            refine ⟨⟨i + 1, by omega, fun j hj => ?_⟩, by simp only; omega, ?_, Fq⟩
            · by_cases he : j = i
              · subst he; simp only [mayAt, c1, c2', c3]; rfl
              · exact hn j (by omega)
            · exact Lq
          · have c3' : decide (us.getD i 0 >>> us.length = 0) = false := by simpa using c3
            repeat' first | (with_reducible first | refine AWP_seq' ?_ | refine k_normal ?_ | refine k_ret ?_ | refine b_ret ?_ | refine AWP_ret ?_ | refine AWP_skip ?_ | refine AWP_block ?_) | ((with_reducible refine AWP_reg fun KC J hJ hKC => ?_); simp (maxSteps := 10000000) only [push_cast, seval, ↓reduceIte, hlt, getE_str hx, getE_u32 hy, c1, c2', uv_shr hul (b := us.length), c3']) | ((with_reducible refine And.intro ?_ ?_); · exact Sq) | (refine' hKC _ _ _ _ _ (callV0 (name_fn _ ?_) rfl rfl rfl ?_ ?_); (rotate_left 2); (· exact Lq); (rotate_left 1); (iterate 1 (· exact Hq)); simp (maxSteps := 10000000) only [push_cast, seval, ↓reduceIte, hlt, getE_str hx, getE_u32 hy, c1, c2', uv_shr hul (b := us.length), c3']) | (refine' hKC _ _ _ _ _ (callV0 (containsStr_fn _ _ _ ?_) rfl rfl rfl ?_ ?_); (rotate_left 4); (· exact Lq); (rotate_left 1); (iterate 1 (· exact Hq)); simp (maxSteps := 10000000) only [push_cast, seval, ↓reduceIte, hlt, getE_str hx, getE_u32 hy, c1, c2', uv_shr hul (b := us.length), c3']) | ((with_reducible refine hJ _ _ ?_); clear hJ hKC KC J) | ((with_reducible refine AWP_condT ?_ ?_); · rfl)
            refine ret_plain ?_
            simp (maxSteps := 10000000) only [push_cast, seval, ↓reduceIte, show Tryz.f235.results = #[(.tmp 2)] from rfl]
            rw [mayB_at hlu (by simp only [mayAt, c1, c2', c3']; rfl)]
            exact leD_refl _
        · have c1' : nameB (ns.getD i { data := #[] }) = false := by simpa using c1
          repeat' first | (with_reducible first | refine AWP_seq' ?_ | refine k_normal ?_ | refine k_ret ?_ | refine b_ret ?_ | refine AWP_ret ?_ | refine AWP_skip ?_ | refine AWP_block ?_) | ((with_reducible refine AWP_reg fun KC J hJ hKC => ?_); simp (maxSteps := 10000000) only [push_cast, seval, ↓reduceIte, hlt, getE_str hx, getE_u32 hy, c1']) | ((with_reducible refine And.intro ?_ ?_); · exact Sq) | (refine' hKC _ _ _ _ _ (callV0 (name_fn _ ?_) rfl rfl rfl ?_ ?_); (rotate_left 2); (· exact Lq); (rotate_left 1); (iterate 1 (· exact Hq)); simp (maxSteps := 10000000) only [push_cast, seval, ↓reduceIte, hlt, getE_str hx, getE_u32 hy, c1']) | ((with_reducible refine hJ _ _ ?_); clear hJ hKC KC J) | ((with_reducible refine AWP_condT ?_ ?_); · rfl)
          refine ret_plain ?_
          simp (maxSteps := 10000000) only [push_cast, seval, ↓reduceIte, show Tryz.f235.results = #[(.tmp 2)] from rfl]
          rw [mayB_at hlu (by simp only [mayAt, c1']; rfl)]
          exact leD_refl _
      · skip
        repeat' first | (with_reducible first | refine AWP_seq' ?_ | refine k_normal ?_ | refine k_exit ?_ | refine b_exit ?_ | refine AWP_ret ?_ | refine AWP_exit ?_) | ((with_reducible refine AWP_reg fun KC J hJ hKC => ?_); simp (maxSteps := 10000000) only [push_cast, seval, ↓reduceIte, hlt]) | ((with_reducible refine hJ _ _ ?_); clear hJ hKC KC J) | ((with_reducible refine AWP_condF ?_ ?_); · rfl)
        refine ret_plain ?_
        simp (maxSteps := 10000000) only [push_cast, seval, ↓reduceIte, show Tryz.f235.results = #[(.tmp 2)] from rfl]
        rw [mayB_yes ⟨by omega, by omega, h3⟩ (fun j hj => hn j (by omega))]
        exact leD_refl _
  · have h3' : ((ns.length : Int) != (us.length : Int)) = true := by simp; omega
    repeat' first | (with_reducible first | refine AWP_seq' ?_ | refine k_normal ?_ | refine k_ret ?_ | refine AWP_ret ?_) | ((with_reducible refine AWP_reg fun KC J hJ hKC => ?_); simp (maxSteps := 10000000) only [push_cast, seval, ↓reduceIte, h1, h2, h3']) | ((with_reducible refine hJ _ _ ?_); clear hJ hKC KC J) | ((with_reducible refine AWP_condT ?_ ?_); · rfl)
    refine ret_plain ?_
    simp (maxSteps := 10000000) only [push_cast, seval, ↓reduceIte, show Tryz.f235.results = #[(.tmp 2)] from rfl]
    rw [mayB_no (by omega)]
    exact leD_refl _
theorem rMay_fn (f g : Bool) (ns : List ByteArray) (us : List Nat) (hs : Szs ns) (hu : U32 us) :
    Fn Tryz.prog 129 [.agg [.sl f 1 (strRow ns), .sl g 1 (u32Row us)]] [] (.v (.bool (mayB ns us))) [] := by
  refine Fn.of (fn := Tryz.f129) (by kernel_rfl) rfl (by kernel_rfl) ⟨[.agg [.sl f 1 (strRow ns), .sl g 1 (u32Row us)], .v undef, .v undef, .v undef, .v undef, .v undef, .v undef, .v undef, .v undef, .v undef, .v undef, .v undef, .v undef, .v undef, .v undef, .v undef, .v undef, .v undef, .v undef, .v undef, .v undef, .v undef, .v undef, .v undef, .v undef, .v undef, .v undef, .v undef, .v undef, .v undef, .v undef, .v undef, .v undef, .v undef, .v undef, .v undef, .v undef, .v undef, .v undef, .v undef, .v undef, .v undef, .v undef, .v undef, .v undef, .v undef, .v undef, .v undef, .v undef, .v undef, .v undef, .v undef, .v undef, .v undef, .v undef, .v undef, .v undef, .v undef, .v undef, .v undef, .v undef, .v undef], []⟩ rfl ?_
  by_cases h1 : (us.length : Int) < 1
  · skip
    repeat' first | (with_reducible first | refine AWP_seq' ?_ | refine k_normal ?_ | refine k_ret ?_ | refine AWP_ret ?_) | ((with_reducible refine AWP_reg fun KC J hJ hKC => ?_); simp (maxSteps := 10000000) only [push_cast, seval, ↓reduceIte, h1]) | ((with_reducible refine hJ _ _ ?_); clear hJ hKC KC J) | ((with_reducible refine AWP_condT ?_ ?_); · rfl)
    refine ret_plain ?_
    simp (maxSteps := 10000000) only [push_cast, seval, ↓reduceIte, show Tryz.f129.results = #[(.tmp 2)] from rfl]
    rw [mayB_no (by omega)]
    exact leD_refl _
  by_cases h2 : (8 : Int) < us.length
  · skip
    repeat' first | (with_reducible first | refine AWP_seq' ?_ | refine k_normal ?_ | refine k_ret ?_ | refine AWP_ret ?_) | ((with_reducible refine AWP_reg fun KC J hJ hKC => ?_); simp (maxSteps := 10000000) only [push_cast, seval, ↓reduceIte, h1, h2]) | ((with_reducible refine hJ _ _ ?_); clear hJ hKC KC J) | ((with_reducible refine AWP_condT ?_ ?_); · rfl)
    refine ret_plain ?_
    simp (maxSteps := 10000000) only [push_cast, seval, ↓reduceIte, show Tryz.f129.results = #[(.tmp 2)] from rfl]
    rw [mayB_no (by omega)]
    exact leD_refl _
  by_cases h3 : ns.length = us.length
  · have h3' : ((ns.length : Int) != (us.length : Int)) = false := by simp [h3]
    repeat' first | (with_reducible first | refine AWP_seq' ?_ | refine k_normal ?_ | refine AWP_skip ?_ | refine AWP_block ?_) | ((with_reducible refine AWP_reg fun KC J hJ hKC => ?_); simp (maxSteps := 10000000) only [push_cast, seval, ↓reduceIte, h1, h2, h3']) | ((with_reducible refine hJ _ _ ?_); clear hJ hKC KC J) | ((with_reducible refine AWP_condF ?_ ?_); · rfl)
    refine AWP_loopF (γ := {i : Nat // i ≤ us.length ∧ ∀ j, j < i → mayAt ns us j = true}) (fun i => ⟨[.any, .ptr 0 0 0, .any, .any, .any, .any, .any, .any, .any, .any, .any, .any, .any, .any, .any, .any, .any, .any, .any, .any, .any, .any, .any, .any, .any, .any, .any, .sl f 1 (strRow ns), .v (.int .i64 ns.length), .v (.int .i64 i.1), .any, .any, .any, .any, .any, .any, .any, .any, .any, .any, .any, .any, .any, .any, .any, .any, .any, .any, .any, .any, .any, .any, .any, .any, .any, .any, .any, .any, .any, .any, .any, .any], [.ent ⟨0, none, 25, [.sl f 1 (strRow ns), .sl g 1 (u32Row us)], .cells⟩]⟩) (fun i => us.length - i.1) ⟨0, by simp⟩ ⟨?_, Fq⟩ ?_
    · exact Lq
    · rintro ⟨i, hi, hn⟩
      by_cases hlt : (i : Int) < (ns.length : Int)
      · have hlu : i < us.length := by omega
        have hx := getD_of ({ data := #[] } : ByteArray) (show i < ns.length by omega)
        have hy := getD_of 0 hlu
        have hsz := hs.get (show i < ns.length by omega)
        have hul := hu.get hlu
        by_cases c1 : nameB (ns.getD i { data := #[] }) = true
        · by_cases c3 : us.getD i 0 >>> us.length = 0
          · have c3' : decide (0 < us.getD i 0 >>> us.length) = false := decide_eq_false (by rw [c3]; exact Nat.lt_irrefl 0)
            repeat' first | (with_reducible first | refine AWP_seq' ?_ | refine k_normal ?_ | refine AWP_skip ?_ | refine AWP_block ?_) | ((with_reducible first | refine AWP_reg fun KC J hJ hKC => ?_ | refine AWP_regD rfl fun KC J hJ hKC => ?_); simp (maxSteps := 10000000) only [push_cast, seval, ↓reduceIte, hlt, getE_str hx, getE_u32 hy, c1, c3']) | ((with_reducible refine And.intro ?_ ?_); · exact Sq) | (refine' hKC _ _ _ _ _ (callV0 (rName_fn _ ?_) rfl rfl rfl ?_ ?_); (rotate_left 2); (· exact Lq); (rotate_left 1); (iterate 1 (· exact Hq)); simp (maxSteps := 10000000) only [push_cast, seval, ↓reduceIte, hlt, getE_str hx, getE_u32 hy, c1, c3']) | (refine' hKC _ _ _ _ _ (callV0 (high_fn _ _ ?_ ?_) rfl rfl rfl ?_ ?_); (rotate_left 4); (· exact Lq); (rotate_left 1); (iterate 2 (· exact Hq)); simp (maxSteps := 10000000) only [push_cast, seval, ↓reduceIte, hlt, getE_str hx, getE_u32 hy, c1, c3']) | ((first | with_reducible refine hJ _ _ ?_ | (with_reducible refine hJ _ _ ?_ ?_; · kernel_rfl)); clear hJ hKC KC J) | ((with_reducible refine AWP_condT ?_ ?_); · rfl) | ((with_reducible refine AWP_condF ?_ ?_); · rfl)
            have htl : (ns.take i).length = i := by simp; omega
            refine AWP_loopF (γ := {k : Nat // k ≤ i ∧ ∀ (j : Nat) (hj : j < (ns.take i).length), j < k → decide (ns.getD i { data := #[] } = (ns.take i)[j]) = false}) (fun k => ⟨[.any, .ptr 0 0 0, .any, .any, .v (.string (ns.getD i { data := #[] })), .any, .any, .any, .any, .any, .any, .any, .any, .any, .any, .any, .any, .any, .any, .any, .any, .any, .any, .any, .any, .any, .any, .sl f 1 (strRow ns), .v (.int .i64 ns.length), .v (.int .i64 i), .any, .any, .any, .any, .any, .any, .any, .any, .any, .any, .any, .any, .any, .any, .any, .any, .any, .any, .any, .any, .any, .sl false 1 (strRow (ns.take i)), .v (.int .i64 (ns.take i).length), .v (.int .i64 k.1), .any, .any, .any, .any, .any, .any, .any, .any], [.ent ⟨0, none, 25, [.sl f 1 (strRow ns), .sl g 1 (u32Row us)], .cells⟩]⟩) (fun k => i - k.1) ⟨0, by simp⟩ ⟨?_, Fq⟩ ?_
            · exact Lq
            · rintro ⟨k, hk, hkn⟩
              by_cases hlk : (k : Int) < ((ns.take i).length : Int)
              · have hz : (ns.take i)[k]? = some (ns.take i)[k] := List.getElem?_eq_getElem (by omega)
                by_cases c4 : (ns.take i)[k] = ns.getD i { data := #[] }
                · skip
                  repeat' first | (with_reducible first | refine AWP_seq' ?_ | refine k_normal ?_ | refine k_ret ?_ | refine b_ret ?_ | refine AWP_ret ?_ | refine AWP_skip ?_ | refine AWP_block ?_) | ((with_reducible refine AWP_reg fun KC J hJ hKC => ?_); simp (maxSteps := 10000000) only [push_cast, seval, ↓reduceIte, hlk, getE_str hz, c4]) | ((with_reducible refine And.intro ?_ ?_); · exact Sq) | ((with_reducible refine hJ _ _ ?_); clear hJ hKC KC J) | ((with_reducible refine AWP_condT ?_ ?_); · rfl)
                  refine ret_plain ?_
                  simp (maxSteps := 10000000) only [push_cast, seval, ↓reduceIte, show Tryz.f129.results = #[(.tmp 2)] from rfl]
                  have : memB (ns.getD i { data := #[] }) (ns.take i) = true := List.any_eq_true.2 ⟨_, List.getElem_mem (show k < (ns.take i).length by omega), by simp [c4]⟩
                  rw [mayB_at hlu (by simp only [mayAt, c1, this]; rfl)]
                  exact leD_refl _
                · have c4' : decide ((ns.take i)[k] = ns.getD i { data := #[] }) = false := by simpa using c4
                  repeat' first | (with_reducible first | refine AWP_seq' ?_ | refine k_normal ?_ | refine b_normal ?_ | refine AWP_skip ?_ | refine AWP_block ?_) | ((with_reducible refine AWP_reg fun KC J hJ hKC => ?_); simp (maxSteps := 10000000) only [push_cast, seval, ↓reduceIte, hlk, getE_str hz, c4', wrapN (i := k) (n := i) (by omega) (by omega)]) | ((with_reducible refine And.intro ?_ ?_); · exact Sq) | ((with_reducible refine hJ _ _ ?_); clear hJ hKC KC J) | ((with_reducible refine AWP_condT ?_ ?_); · rfl) | ((with_reducible refine AWP_condF ?_ ?_); · rfl)
                  refine ⟨⟨k + 1, by omega, fun j hj hjk => ?_⟩, by simp only; omega, ?_, Fq⟩
                  · by_cases he : j = k
                    · subst he; exact decide_eq_false fun h => c4 h.symm
                    · exact hkn j hj (by omega)
                  · exact Lq
              · have c2' : memB (ns.getD i { data := #[] }) (ns.take i) = false := by
                  rw [memB, List.any_eq_false]
                  intro x hx'
                  obtain ⟨j, hj, rfl⟩ := List.mem_iff_getElem.1 hx'
                  have := hkn j hj (by omega)
                  simpa using this
                repeat' first | (with_reducible first | refine AWP_seq' ?_ | refine k_normal ?_ | refine k_exit ?_ | refine b_normal ?_ | refine b_exit ?_ | refine AWP_exit ?_) | ((with_reducible refine AWP_reg fun KC J hJ hKC => ?_); simp (maxSteps := 10000000) only [push_cast, seval, ↓reduceIte, hlk, wrapN (i := i) (n := us.length) (by omega) (by omega)]) | ((with_reducible refine hJ _ _ ?_); clear hJ hKC KC J) | ((with_reducible refine AWP_condF ?_ ?_); · rfl)
                refine ⟨⟨i + 1, by omega, fun j hj => ?_⟩, by simp only; omega, ?_, Fq⟩
                · by_cases he : j = i
                  · subst he; simp only [mayAt, c1, c2', c3]; rfl
                  · exact hn j (by omega)
                · exact Lq
          · have c3' : decide (0 < us.getD i 0 >>> us.length) = true := decide_eq_true (Nat.pos_of_ne_zero c3)
            repeat' first | (with_reducible first | refine AWP_seq' ?_ | refine k_normal ?_ | refine k_ret ?_ | refine b_ret ?_ | refine AWP_ret ?_ | refine AWP_skip ?_ | refine AWP_block ?_) | ((with_reducible first | refine AWP_reg fun KC J hJ hKC => ?_ | refine AWP_regD rfl fun KC J hJ hKC => ?_); simp (maxSteps := 10000000) only [push_cast, seval, ↓reduceIte, hlt, getE_str hx, getE_u32 hy, c1, c3']) | ((with_reducible refine And.intro ?_ ?_); · exact Sq) | (refine' hKC _ _ _ _ _ (callV0 (rName_fn _ ?_) rfl rfl rfl ?_ ?_); (rotate_left 2); (· exact Lq); (rotate_left 1); (iterate 1 (· exact Hq)); simp (maxSteps := 10000000) only [push_cast, seval, ↓reduceIte, hlt, getE_str hx, getE_u32 hy, c1, c3']) | (refine' hKC _ _ _ _ _ (callV0 (high_fn _ _ ?_ ?_) rfl rfl rfl ?_ ?_); (rotate_left 4); (· exact Lq); (rotate_left 1); (iterate 2 (· exact Hq)); simp (maxSteps := 10000000) only [push_cast, seval, ↓reduceIte, hlt, getE_str hx, getE_u32 hy, c1, c3']) | ((first | with_reducible refine hJ _ _ ?_ | (with_reducible refine hJ _ _ ?_ ?_; · kernel_rfl)); clear hJ hKC KC J) | ((with_reducible refine AWP_condT ?_ ?_); · rfl)
            refine ret_plain ?_
            simp (maxSteps := 10000000) only [push_cast, seval, ↓reduceIte, show Tryz.f129.results = #[(.tmp 2)] from rfl]
            rw [mayB_at hlu (by simp only [mayAt, c1, decide_eq_false c3]; simp)]
            exact leD_refl _
        · have c1' : nameB (ns.getD i { data := #[] }) = false := by simpa using c1
          repeat' first | (with_reducible first | refine AWP_seq' ?_ | refine k_normal ?_ | refine k_ret ?_ | refine b_ret ?_ | refine AWP_ret ?_ | refine AWP_skip ?_ | refine AWP_block ?_) | ((with_reducible first | refine AWP_reg fun KC J hJ hKC => ?_ | refine AWP_regD rfl fun KC J hJ hKC => ?_); simp (maxSteps := 10000000) only [push_cast, seval, ↓reduceIte, hlt, getE_str hx, getE_u32 hy, c1']) | ((with_reducible refine And.intro ?_ ?_); · exact Sq) | (refine' hKC _ _ _ _ _ (callV0 (rName_fn _ ?_) rfl rfl rfl ?_ ?_); (rotate_left 2); (· exact Lq); (rotate_left 1); (iterate 1 (· exact Hq)); simp (maxSteps := 10000000) only [push_cast, seval, ↓reduceIte, hlt, getE_str hx, getE_u32 hy, c1']) | ((first | with_reducible refine hJ _ _ ?_ | (with_reducible refine hJ _ _ ?_ ?_; · kernel_rfl)); clear hJ hKC KC J) | ((with_reducible refine AWP_condT ?_ ?_); · rfl)
          refine ret_plain ?_
          simp (maxSteps := 10000000) only [push_cast, seval, ↓reduceIte, show Tryz.f129.results = #[(.tmp 2)] from rfl]
          rw [mayB_at hlu (by simp only [mayAt, c1']; rfl)]
          exact leD_refl _
      · skip
        repeat' first | (with_reducible first | refine AWP_seq' ?_ | refine k_normal ?_ | refine k_exit ?_ | refine b_exit ?_ | refine AWP_ret ?_ | refine AWP_exit ?_) | ((with_reducible refine AWP_reg fun KC J hJ hKC => ?_); simp (maxSteps := 10000000) only [push_cast, seval, ↓reduceIte, hlt]) | ((with_reducible refine hJ _ _ ?_); clear hJ hKC KC J) | ((with_reducible refine AWP_condF ?_ ?_); · rfl)
        refine ret_plain ?_
        simp (maxSteps := 10000000) only [push_cast, seval, ↓reduceIte, show Tryz.f129.results = #[(.tmp 2)] from rfl]
        rw [mayB_yes ⟨by omega, by omega, h3⟩ (fun j hj => hn j (by omega))]
        exact leD_refl _
  · have h3' : ((ns.length : Int) != (us.length : Int)) = true := by simp; omega
    repeat' first | (with_reducible first | refine AWP_seq' ?_ | refine k_normal ?_ | refine k_ret ?_ | refine AWP_ret ?_) | ((with_reducible refine AWP_reg fun KC J hJ hKC => ?_); simp (maxSteps := 10000000) only [push_cast, seval, ↓reduceIte, h1, h2, h3']) | ((with_reducible refine hJ _ _ ?_); clear hJ hKC KC J) | ((with_reducible refine AWP_condT ?_ ?_); · rfl)
    refine ret_plain ?_
    simp (maxSteps := 10000000) only [push_cast, seval, ↓reduceIte, show Tryz.f129.results = #[(.tmp 2)] from rfl]
    rw [mayB_no (by omega)]
    exact leD_refl _
end Go.Proofs.YtabliglgeiajlaaGreat.AM
