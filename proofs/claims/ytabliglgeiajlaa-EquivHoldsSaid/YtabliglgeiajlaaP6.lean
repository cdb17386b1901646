/- The top of a lattice. -/
import Derived.Test.YtabliglgeiajlaaO1
set_option linter.unusedSimpArgs false
set_option linter.unusedVariables false
namespace Go.Proofs.Ytabliglgeiajlaa.AM
open Go Go.RowKit Go.Proofs
set_option maxRecDepth 100000
set_option maxHeartbeats 1000000

/-- How many bits of eight are set. -/
def popc (x : Nat) : Int := (List.range 8).foldl (fun n i => if x.testBit i then n + 1 else n) 0
theorem ishr_hi {x : Nat} (hx : x < 256) {b : Nat} (hb : 8 ≤ b) : ishr .u32 (uv x) (b : Int) = 0 := by
  rw [uv_shr (by omega), Nat.shiftRight_eq_div_pow, Nat.div_eq_of_lt]
  · rfl
  · exact Nat.lt_of_lt_of_le (show x < 2 ^ 8 from hx) (Nat.pow_le_pow_right (by decide) hb)
theorem and_255 {x : Nat} (hx : x < 256) : ibits .and .u32 (uv x) 255 = uv x := by
  have h := uv_and (a := x) (b := 255) (by omega) (by decide)
  rw [show uv 255 = 255 from rfl] at h
  rw [h, show x &&& 255 = x from by rw [show 255 = 2 ^ 8 - 1 from rfl, Nat.and_two_pow_sub_one_eq_mod]; exact Nat.mod_eq_of_lt hx]
theorem onesCount_fn (x : Nat) (hx : x < 256) : Fn Try.prog 166 [.v (.int .u32 (uv x))] [] (.v (.int .i64 (popc x))) [] := by
  have h1 := ishr_hi hx (b := 24) (by omega)
  have h2 := ishr_hi hx (b := 16) (by omega)
  have h3 := ishr_hi hx (b := 8) (by omega)
  have h4 := and_255 hx
  have h5 : ibits .and .u32 0 255 = 0 := rfl
  have hx0 : (0 : Int) ≤ uv x := Int.natCast_nonneg _
  have hx1 : uv x < 256 := by show (x : Int) < 256; omega
  simp only [Int.cast_ofNat_Int] at h1 h2 h3
  refine Fn.of (fn := Try.f166) (by kernel_rfl) rfl (by kernel_rfl) ⟨[.v (.int .u32 (uv x)), .v undef, .v undef, .v undef, .v undef, .v undef, .v undef, .v undef, .v undef, .v undef, .v undef, .v undef, .v undef, .v undef, .v undef, .v undef, .v undef, .v undef, .v undef, .v undef, .v undef], []⟩ rfl ?_
  repeat' first | (with_reducible first | refine AWP_seq' ?_ | refine k_normal ?_ | refine AWP_ret ?_) | ((with_reducible first | refine AWP_reg fun KC J hJ hKC => ?_ | refine AWP_regD rfl fun KC J hJ hKC => ?_); simp (maxSteps := 10000000) only [push_cast, seval, ↓reduceIte, h1, h2, h3, h4, h5, ByteArray.size, List.size_toArray, List.append_eq, List.length_append]) | ((with_reducible refine And.intro ?_ ?_); · exact Sq) | ((first | with_reducible refine hJ _ _ ?_ | (with_reducible refine hJ _ _ ?_ ?_; · kernel_rfl)); clear hJ hKC KC J)
  refine ret_plain ?_
  simp (maxSteps := 10000000) only [push_cast, seval, ↓reduceIte, show Try.f166.results = #[(.tmp 2)] from rfl]
  refine leD_v (congrArg _ ?_)
  clear h1 h2 h3 h4 hx0 hx1
  revert x
  decide +kernel
theorem top1_fn (x : Nat) (hx : x < 256) : Fn Try.prog 165 [.v (.int .u32 (uv x))] [] (.v (.bool (popc x == 1))) [] := by
  refine Fn.of (fn := Try.f165) (by kernel_rfl) rfl (by kernel_rfl) ⟨[.v (.int .u32 (uv x)), .v undef, .v undef, .v undef, .v undef, .v undef], []⟩ rfl ?_
  repeat' first | (with_reducible first | refine AWP_seq' ?_ | refine k_normal ?_ | refine AWP_ret ?_) | ((with_reducible refine AWP_reg fun KC J hJ hKC => ?_); simp (maxSteps := 10000000) only [push_cast, seval, ↓reduceIte]) | (refine' hKC _ _ _ _ _ (callV0 (onesCount_fn _ ?_) rfl rfl rfl ?_ ?_); (rotate_left 2); (· exact Lq); (rotate_left 1); (iterate 1 (· exact Hq)); simp (maxSteps := 10000000) only [push_cast, seval, ↓reduceIte]) | ((with_reducible refine hJ _ _ ?_); clear hJ hKC KC J)
  refine ret_plain ?_
  simp (maxSteps := 10000000) only [push_cast, seval, ↓reduceIte, show Try.f165.results = #[(.tmp 2)] from rfl]
  exact leD_refl _
def topI (us : List Nat) : Int := idxF (fun x => popc x == 1) us
theorem low_256 {ns : List ByteArray} {us : List Nat} (hm : mayB ns us = true) : ∀ u ∈ us, u < 256 := fun u hu => by
  obtain ⟨i, hi, rfl⟩ := List.getElem_of_mem hu
  have h8 := (mayB_get hm).1.2.1
  have hl := low_of_may hm i hi
  rw [List.getD_eq_getElem?_getD, List.getElem?_eq_getElem hi] at hl
  exact Nat.lt_of_lt_of_le hl (Nat.pow_le_pow_right (n := 2) (by decide) h8)
theorem checkF_may {ns : List ByteArray} {us : List Nat} (h : checkF ns us = 0) : mayB ns us = true ∧ Ord us ∧ Lat us := by
  unfold checkF at h
  split at h
  · split at h
    · split at h
      · exact ⟨by assumption, by assumption, by assumption⟩
      · cases h
    · cases h
  · cases h
theorem top_fn (f g : Bool) (ns : List ByteArray) (us : List Nat) (hs : Szs ns) (hu : U32 us) (hc : checkF ns us = 0) :
    Fn Try.prog 76 [.agg [.sl f 1 (strRow ns), .sl g 1 (u32Row us)]] [] (.tup [.v (.int .i64 (topI us)), .v (.int .i64 0)]) [] := by
  have hm : mayF ns us [] = 0 := by rw [mayF, if_pos hc]; rfl
  have hth := there_fn f g true ns us [] hs hu (by simp)
  rw [hm, show intRow [] = [] from rfl] at hth
  have h256 := low_256 (checkF_may hc).1
  have h8 := (mayB_get (checkF_may hc).1).1.2.1
  have hix := indexFuncU32_fn g us 165 [] (fun x => popc x == 1) (by omega) rfl (fun x hx => top1_fn x (h256 x hx))
  refine Fn.of (fn := Try.f76) (by kernel_rfl) rfl (by kernel_rfl) ⟨[.agg [.sl f 1 (strRow ns), .sl g 1 (u32Row us)], .v undef, .v undef, .v undef, .v undef, .v undef, .v undef, .v undef, .v undef, .v undef, .v undef, .v undef, .v undef], []⟩ rfl ?_
  repeat' first | (with_reducible first | refine AWP_seq' ?_ | refine k_normal ?_ | refine AWP_ret ?_ | refine AWP_skip ?_) | ((with_reducible refine AWP_reg fun KC J hJ hKC => ?_); simp (maxSteps := 10000000) only [push_cast, seval, ↓reduceIte]) | (refine hKC _ _ _ _ _ (callV0 (hth) rfl rfl rfl ?_ ?_); (· exact Lq); simp (maxSteps := 10000000) only [push_cast, seval, ↓reduceIte]) | (refine hKC _ _ _ _ _ (callV0 (hix) rfl rfl rfl ?_ ?_); (· exact Lq); simp (maxSteps := 10000000) only [push_cast, seval, ↓reduceIte]) | ((with_reducible refine hJ _ _ ?_); clear hJ hKC KC J) | ((with_reducible refine AWP_condF ?_ ?_); · rfl)
  refine ret_plain ?_
  simp (maxSteps := 10000000) only [push_cast, seval, ↓reduceIte, show Try.f76.results = #[(.tmp 2), (.tmp 3)] from rfl]
  exact Lq
def popcB (x : Nat) : Bool := (List.range 8).all fun i => (List.range 8).all fun j => !(x.testBit i && x.testBit j) || decide (i = j) || !decide (popc x = 1)
theorem popcB_all : ∀ x, x < 256 → popcB x = true := by decide +kernel
theorem popc_one (x : Nat) (hx : x < 256) (i : Nat) (hi : i < 8) (j : Nat) (hj : j < 8) (hp : popc x = 1) (h1 : x.testBit i = true) (h2 : x.testBit j = true) : i = j := by
  have h := popcB_all x hx
  rw [popcB, List.all_eq_true] at h
  have h := h i (List.mem_range.2 hi)
  rw [List.all_eq_true] at h
  have h := h j (List.mem_range.2 hj)
  rw [h1, h2, decide_eq_true hp] at h
  simpa using h
theorem popc_of : ∀ x, x < 256 → ∀ t, t < 8 → x.testBit t = true → (∀ j, j < 8 → x.testBit j = true → j = t) → popc x = 1 := by decide +kernel
/-- A lattice has a top. -/
theorem has_top {us : List Nat} (hlw : Low us) (ho : Ord us) (hL : Lat us) : ∀ k, k < us.length → ∃ t, t < us.length ∧ ∀ a, a ≤ k → fl us a t = true
  | 0, hk => ⟨0, hk, fun a ha => by have : a = 0 := by omega
                                    subst this; exact ho.1 0 hk⟩
  | k + 1, hk => by
    obtain ⟨t, ht, hta⟩ := has_top hlw ho hL k (by omega)
    have hj := (hL t ht (k + 1) hk).1
    rcases idxF_cases (fun u => decide (u = us.getD t 0 &&& us.getD (k + 1) 0)) us with ⟨h, _⟩ | ⟨c, _, hc, hp, _⟩
    · rw [joinI, h] at hj; omega
    · have hcj : isJ us t (k + 1) c := (isJ_iff hlw ho ht hk hc).2 (by rw [List.getD_eq_getElem?_getD, List.getElem?_eq_getElem hc]; simpa using hp)
      refine ⟨c, hc, fun a ha => ?_⟩
      rcases Nat.lt_or_ge k a with h | h
      · have : a = k + 1 := by omega
        subst this; exact hcj.1.2
      · exact ho.2.2 a (by omega) t ht c hc (hta a h) hcj.1.1
theorem topI_spec {ns : List ByteArray} {us : List Nat} (hc : checkF ns us = 0) : ∃ t : Nat, topI us = (t : Int) ∧ t < us.length ∧ ∀ a, a < us.length → fl us a t = true := by
  obtain ⟨hm, ho, hL⟩ := checkF_may hc
  have hlw := low_of_may hm
  have h8 := (mayB_get hm).1
  have h256 := low_256 hm
  obtain ⟨t, ht, hta⟩ := has_top hlw ho hL (us.length - 1) (by omega)
  have hget : ∀ i, (hi : i < us.length) → us.getD i 0 = us[i] := fun i hi => by rw [List.getD_eq_getElem?_getD, List.getElem?_eq_getElem hi]; rfl
  have hpt : popc us[t] = 1 := by
    refine popc_of _ (h256 _ (List.getElem_mem ht)) t (by omega) ?_ fun j hj hb => ?_
    · rw [← hget t ht]; exact ho.1 t ht
    · rw [← hget t ht] at hb
      have hjl := hlw.bit ht (i := j) hb
      have h1 := hta j (by omega)
      by_cases h : j = t
      · exact h
      · exact absurd ⟨h1, hb⟩ (ho.2.1 j hjl t ht h)
  rcases idxF_cases (fun x => popc x == 1) us with ⟨_, hn⟩ | ⟨i, hi, hil, hp, _⟩
  · have := hn us[t] (List.getElem_mem ht)
    rw [hpt] at this; cases this
  · refine ⟨i, hi, hil, fun a ha => ?_⟩
    have hp1 : popc us[i] = 1 := by simpa using hp
    have hii := ho.1 i hil
    have hit := hta i (by omega)
    have : i = t := popc_one _ (h256 _ (List.getElem_mem hil)) i (by omega) t (by omega) hp1 (by rw [← hget i hil]; exact hii) (by rw [← hget i hil]; exact hit)
    rw [this]
    exact hta a (by omega)
end Go.Proofs.Ytabliglgeiajlaa.AM
