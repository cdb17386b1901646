/- Lattices: pairs, order, join, meet. -/
import Derived.Test.YtabliglgeiajlaaGreatV3
set_option linter.unusedSimpArgs false
set_option linter.unusedVariables false
namespace Go.Proofs.YtabliglgeiajlaaGreat.AM
open Go Go.RowKit Go.Proofs
set_option maxRecDepth 100000
set_option maxHeartbeats 400000

def pA (n k : Nat) : Nat := k / n
def pB (n k : Nat) : Nat := k % n
theorem pA_of {n i j : Nat} (h : j < n) : pA n (i * n + j) = i := by
  unfold pA
  rw [Nat.mul_comm, Nat.mul_add_div (by omega), Nat.div_eq_of_lt h]; rfl
theorem pB_of {n i j : Nat} (h : j < n) : pB n (i * n + j) = j := by
  unfold pB
  rw [Nat.mul_comm, Nat.mul_add_mod, Nat.mod_eq_of_lt h]
theorem pA_lt {n k : Nat} (h : k < n * n) : pA n k < n := Nat.div_lt_of_lt_mul h
theorem pB_lt {n k : Nat} (h : k < n * n) : pB n k < n := Nat.mod_lt _ (Nat.pos_of_ne_zero fun h0 => by subst h0; simp at h)
theorem pairs_all {n : Nat} {p : Nat → Nat → Prop} : (∀ k, k < n * n → p (pA n k) (pB n k)) ↔ ∀ a, a < n → ∀ b, b < n → p a b := by
  constructor
  · intro h a ha b hb
    have h1 : a * n + b < n * n := Nat.lt_of_lt_of_le (Nat.add_lt_add_left hb _) (by rw [← Nat.succ_mul]; exact Nat.mul_le_mul_right _ ha)
    have := h _ h1
    rw [pA_of hb, pB_of hb] at this
    exact this
  · exact fun h k hk => h _ (pA_lt hk) _ (pB_lt hk)
theorem pairs_fn (n : Nat) : Fn Tryz.prog 237 [.v (.int .i64 (n : Int))] [] (.fn 283 [.fad [.v (.int .i64 (n : Int))]]) [] := by
  refine Fn.of (fn := Tryz.f237) (by kernel_rfl) rfl (by kernel_rfl) ⟨[.v (.int .i64 (n : Int)), .v undef, .v undef, .v undef], []⟩ rfl ?_
  repeat' first | (with_reducible first | refine AWP_seq' ?_ | refine k_normal ?_) | ((with_reducible refine AWP_reg fun KC J hJ hKC => ?_); simp (maxSteps := 10000000) only [push_cast, seval, ↓reduceIte]) | ((with_reducible refine hJ _ _ ?_); clear hJ hKC KC J)
  refine AWP_freeze 0 rfl (by simp (maxSteps := 10000000) only [push_cast, seval, ↓reduceIte]) ?_
  simp (maxSteps := 10000000) only [push_cast, seval, ↓reduceIte, frSt, frSlot, fr3, fr2, fr1, fr0, sameB, arrOf]
  refine AWP_ret ?_
  refine ret_plain ?_
  simp (maxSteps := 10000000) only [push_cast, seval, ↓reduceIte, show Tryz.f237.results = #[(.tmp 2)] from rfl]
  exact Lq
theorem pairs_it (n : Nat) (hl : n ≤ 1000) :
    ItFn Tryz.prog 283 [.fad [.v (.int .i64 (n : Int))]] (n * n) (fun k => [.v (.int .i64 ((pA n k : Nat) : Int)), .v (.int .i64 ((pB n k : Nat) : Int))]) := by
  intro m inv ok frr rr hrec hcl hlen hy t ht
  refine Fn.of (fn := Tryz.f283) (by kernel_rfl) rfl (by kernel_rfl) ⟨[.kref false m 0, .fad [.v (.int .i64 (n : Int))], .v undef, .v undef, .v undef, .v undef, .v undef, .v undef, .v undef, .v undef, .v undef, .v undef, .v undef, .v undef, .v undef, .v undef, .v undef, .v undef, .v undef, .v undef], inv 0⟩ rfl ?_
  repeat' first | (with_reducible first | refine AWP_seq' ?_ | refine k_normal ?_ | refine AWP_block ?_) | ((with_reducible refine AWP_reg fun KC J hJ hKC => ?_); simp (maxSteps := 10000000) only [push_cast, seval, ↓reduceIte]) | ((with_reducible refine hJ _ _ ?_); clear hJ hKC KC J)
  refine AWP_loopF (γ := {i : Nat // i ≤ n ∧ ∀ k, k < i * n → ok k = true}) (fun i => ⟨[.kref false m 0, .fad [.v (.int .i64 (n : Int))], .any, .any, .any, .v (.int .i64 (n : Int)), .v (.int .i64 i.1), .any, .any, .any, .any, .any, .any, .any, .any, .any, .any, .any, .any, .any], inv (i.1 * n)⟩) (fun i => n - i.1) ⟨0, by simp⟩ ⟨?_, ?_⟩ ?_
  · exact Lq
  · simp only [Nat.zero_mul]; exact Fq
  · rintro ⟨i, hi, hok⟩
    by_cases hlt : (i : Int) < (n : Int)
    · skip
      repeat' first | (with_reducible first | refine AWP_seq' ?_ | refine k_normal ?_ | refine AWP_skip ?_ | refine AWP_block ?_) | ((with_reducible refine AWP_reg fun KC J hJ hKC => ?_); simp (maxSteps := 10000000) only [push_cast, seval, ↓reduceIte, hlt]) | ((with_reducible refine hJ _ _ ?_); clear hJ hKC KC J) | ((with_reducible refine AWP_condT ?_ ?_); · rfl)
      refine AWP_loopF (γ := {j : Nat // j ≤ n ∧ ∀ k, k < i * n + j → ok k = true}) (fun j => ⟨[.kref false m 0, .fad [.v (.int .i64 (n : Int))], .any, .v (.int .i64 i), .any, .v (.int .i64 (n : Int)), .v (.int .i64 i), .any, .any, .v (.int .i64 (n : Int)), .v (.int .i64 j.1), .any, .any, .any, .any, .any, .any, .any, .any, .any], inv (i * n + j.1)⟩) (fun j => n - j.1) ⟨0, by simpa using hok⟩ ⟨?_, ?_⟩ ?_
      · exact Lq
      · exact Fq
      · rintro ⟨j, hj, hokj⟩
        by_cases hlj : (j : Int) < (n : Int)
        · have hjn : j < n := by omega
          have hin : i < n := by omega
          have hk : i * n + j < n * n := Nat.lt_of_lt_of_le (Nat.add_lt_add_left hjn _) (by rw [← Nat.succ_mul]; exact Nat.mul_le_mul_right _ hin)
          have hyi := hy (i * n + j) hk hokj
          simp only [pA_of hjn, pB_of hjn] at hyi
          have hL : (inv (i * n + j + 1)).length = (inv (i * n + j)).length := by rw [hlen, hlen]
          have hset := setsF_pre (rest := [Slot.free]) hL
          obtain ⟨k, hkk⟩ : ∃ k, i * n + j = k := ⟨_, rfl⟩
          have hkk1 : i * n + (j + 1) = k + 1 := by omega
          rw [hkk] at hyi hL hset hk hokj
          cases hoki : ok k with
          | true =>
            rw [hoki] at hyi
            repeat' first | (with_reducible first | refine AWP_seq' ?_ | refine k_normal ?_ | refine b_normal ?_ | refine AWP_skip ?_ | refine AWP_block ?_) | ((with_reducible refine AWP_reg fun KC J hJ hKC => ?_); simp (maxSteps := 10000000) only [push_cast, seval, ↓reduceIte, hlj, hkk, hset, wrapN (i := j) (n := n) (by omega) (by omega)]) | (refine hKC _ _ _ _ _ (callY hyi (hrec k) (hcl k) (hcl (k + 1)) hL rfl (Nat.le_refl _) rfl rfl rfl rfl ?_); simp (maxSteps := 10000000) only [push_cast, seval, ↓reduceIte, hlj, hkk, hset, wrapN (i := j) (n := n) (by omega) (by omega)]) | ((with_reducible refine hJ _ _ ?_); clear hJ hKC KC J) | ((with_reducible refine AWP_condT ?_ ?_); · rfl) | ((with_reducible refine AWP_condF ?_ ?_); · rfl)
            refine ⟨⟨j + 1, by omega, fun q hq => ?_⟩, by simp only; omega, ?_, ?_⟩
            · by_cases he : q = k
              · rw [he]; exact hoki
              · exact hokj q (by omega)
            · exact Lq
            · simp only [hkk1]; exact Fq
          | false =>
            rw [hoki] at hyi
            repeat' first | (with_reducible first | refine AWP_seq' ?_ | refine k_normal ?_ | refine k_ret ?_ | refine b_ret ?_ | refine AWP_ret ?_ | refine AWP_skip ?_ | refine AWP_block ?_) | ((with_reducible refine AWP_reg fun KC J hJ hKC => ?_); simp (maxSteps := 10000000) only [push_cast, seval, ↓reduceIte, hlj, hkk, hset, wrapN (i := j) (n := n) (by omega) (by omega)]) | (refine hKC _ _ _ _ _ (callY hyi (hrec k) (hcl k) (hcl (k + 1)) hL rfl (Nat.le_refl _) rfl rfl rfl rfl ?_); simp (maxSteps := 10000000) only [push_cast, seval, ↓reduceIte, hlj, hkk, hset, wrapN (i := j) (n := n) (by omega) (by omega)]) | ((with_reducible refine hJ _ _ ?_); clear hJ hKC KC J) | ((with_reducible refine AWP_condT ?_ ?_); · rfl)
            have hni : t = k + 1 := by
              rcases ht with ⟨h1, h2⟩ | ⟨q, h1, h2, h3, h4⟩
              · have := h2 k (by omega); rw [hoki] at this; cases this
              · rcases Nat.lt_trichotomy q k with h | h | h
                · have := hokj q h; rw [h3] at this; cases this
                · omega
                · have := h4 k h; rw [hoki] at this; cases this
            rw [hni]
            exact ret_it 1 (.inr rfl) rfl rfl (hcl _) (by rw [hlen, hlen])
        · have hjn : j = n := by omega
          have hkk : i * n + j = (i + 1) * n := by rw [hjn, Nat.succ_mul]
          repeat' first | (with_reducible first | refine AWP_seq' ?_ | refine k_normal ?_ | refine k_exit ?_ | refine b_normal ?_ | refine b_exit ?_ | refine AWP_exit ?_) | ((with_reducible refine AWP_reg fun KC J hJ hKC => ?_); simp (maxSteps := 10000000) only [push_cast, seval, ↓reduceIte, hlj, hkk, wrapN (i := i) (n := n) (by omega) (by omega)]) | ((with_reducible refine hJ _ _ ?_); clear hJ hKC KC J) | ((with_reducible refine AWP_condF ?_ ?_); · rfl)
          refine ⟨⟨i + 1, by omega, fun q hq => hokj q (by omega)⟩, by simp only; omega, ?_, ?_⟩
          · exact Lq
          · simp only [hkk]; exact Fq
    · have hin : i = n := by omega
      subst hin
      have hni : t = i * i := by
        rcases ht with ⟨h1, h2⟩ | ⟨q, h1, h2, h3, h4⟩
        · exact h1
        · have := hok q h1; rw [h3] at this; cases this
      repeat' first | (with_reducible first | refine AWP_seq' ?_ | refine k_normal ?_ | refine k_exit ?_ | refine b_exit ?_ | refine AWP_exit ?_) | ((with_reducible refine AWP_reg fun KC J hJ hKC => ?_); simp (maxSteps := 10000000) only [push_cast, seval, ↓reduceIte, hlt]) | ((with_reducible refine hJ _ _ ?_); clear hJ hKC KC J) | ((with_reducible refine AWP_condF ?_ ?_); · rfl)
      rw [hni]
      exact ret_it 0 (.inl rfl) rfl (by simp) (hcl _) (by rw [hlen, hlen])
set_option maxHeartbeats 1000000 in
theorem order_fn (f g : Bool) (ns : List ByteArray) (us : List Nat) (hu : U32 us) (hlw : Low us) (hl : us.length ≤ 8) :
    Fn Tryz.prog 236 [.agg [.sl f 1 (strRow ns), .sl g 1 (u32Row us)]] [] (.v (.bool (decide (Ord us)))) [] := by
  refine Fn.of (fn := Tryz.f236) (by kernel_rfl) rfl (by kernel_rfl) ⟨[.agg [.sl f 1 (strRow ns), .sl g 1 (u32Row us)], .v undef, .v undef, .v undef, .v undef, .v undef, .v undef, .v undef, .v undef, .v undef, .v undef, .v undef, .v undef, .v undef, .v undef, .v undef, .v undef, .v undef, .v undef, .v undef, .v undef, .v undef, .v undef, .v undef, .v undef, .v undef, .v undef, .v undef, .v undef, .v undef, .v undef, .v undef, .v undef, .v undef, .v undef, .v undef, .v undef, .v undef, .v undef, .v undef, .v undef, .v undef, .v undef, .v undef, .v undef, .v undef, .v undef, .v undef, .v undef, .v undef, .v undef, .v undef, .v undef, .v undef, .v undef, .v undef], []⟩ rfl ?_
  repeat' first | (with_reducible first | refine AWP_seq' ?_ | refine k_normal ?_ | refine AWP_block ?_) | ((with_reducible refine AWP_reg fun KC J hJ hKC => ?_); simp (maxSteps := 10000000) only [push_cast, seval, ↓reduceIte]) | (refine' hKC _ _ _ _ _ (callV0 (pairs_fn _) rfl rfl rfl ?_ ?_); (rotate_left 1); (· exact Lq); simp (maxSteps := 10000000) only [push_cast, seval, ↓reduceIte]) | ((with_reducible refine hJ _ _ ?_); clear hJ hKC KC J)
  refine AWP_le ([.any, .ptr 0 0 0, .ptr 1 0 0, .any, .any, .any, .any, .any, .fn 283 [.fad [.v (.int .i64 (us.length : Int))]], .any, .any, .any, .any, .any, .any, .any, .any, .any, .any, .any, .any, .any, .any, .any, .any, .any, .any, .any, .any, .any, .any, .any, .any, .any, .any, .any, .any, .any, .any, .any, .any, .any, .any, .any, .any, .any, .any, .any, .any, .any, .any, .any, .any, .any, .any, .any]) (by exact Lq) ?_
  refine AWP_range2 (f := 283) rfl rfl (pairs_it us.length (by omega)) (fun i hi => rfl) 3 rfl rfl
    (fun i => [.ent ⟨0, none, 25, [.sl f 1 (strRow ns), .sl g 1 (u32Row us)], .cells⟩, .ent ⟨0, none, 4, [.v (.bool false)], .cells⟩, .free])
    (fun i => [.ent ⟨0, none, 25, [.sl f 1 (strRow ns), .sl g 1 (u32Row us)], .cells⟩, .ent ⟨0, none, 4, [.v (.bool false)], .cells⟩, .free])
    rfl (fun i => ⟨rfl, rfl⟩) (fun i => ⟨rfl, rfl⟩) (fun i => ⟨rfl, rfl⟩) (fun k => okAB us (pA us.length k) (pB us.length k)) .ret .ret rfl
    (fun i => [.any, .ptr 0 0 0, .ptr 1 0 0, .v (.int .i64 (pA us.length i : Nat)), .v (.int .i64 (pB us.length i : Nat)), .any, .any, .any, .fn 283 [.fad [.v (.int .i64 (us.length : Int))]], .v (.int .i64 (pA us.length i : Nat)), .v (.int .i64 (pB us.length i : Nat)), .any, .any, .any, .any, .any, .any, .any, .any, .any, .any, .any, .any, .any, .any, .any, .any, .any, .any, .any, .any, .any, .any, .any, .any, .any, .any, .any, .any, .any, .any, .any, .any, .any, .any, .any, .any, .any, .any, .any, .any, .any, .any, .any, .any, .any])
    (fun l' i r σ hi => ?_) (fun i => rfl) (fun l' i hi hb' => ?_) (fun hall => ?_) (fun k hk hkf hkb => ?_)
  · skip
    repeat' first | (with_reducible first | refine AWP_seq' ?_ | refine k_normal ?_) | ((with_reducible refine AWP_reg fun KC J hJ hKC => ?_); simp (maxSteps := 10000000) only [push_cast, seval, ↓reduceIte]) | ((with_reducible refine And.intro ?_ ?_); · exact Sq) | ((with_reducible refine hJ _ _ ?_); clear hJ hKC KC J)
    exact rfl
  · have hpa := pA_lt hi
    have hpb := pB_lt hi
    obtain ⟨a, ha⟩ : ∃ a, pA us.length i = a := ⟨_, rfl⟩
    obtain ⟨b, hb⟩ : ∃ b, pB us.length i = b := ⟨_, rfl⟩
    simp only [ha, hb] at hpa hpb ⊢
    have hgA := getE_u32 (getD_of 0 hpa)
    have hgB := getE_u32 (getD_of 0 hpb)
    have han := uv_an (hu.get hpb) (hu.get hpa)
    by_cases hab : a = b
    · subst hab
      by_cases hf : fl us a a = true
      · by_cases hz : anB (us.getD a 0) (us.getD a 0) = 0
        · have hok : okAB us a a = true := by rw [okAB, if_pos rfl, hf, decide_eq_true hz]; rfl
          repeat' first | (with_reducible first | refine AWP_seq' ?_ | refine k_normal ?_ | refine b_normal ?_ | refine AWP_skip ?_ | refine AWP_block ?_) | ((with_reducible first | refine AWP_reg fun KC J hJ hKC => ?_ | refine AWP_regD rfl fun KC J hJ hKC => ?_); simp (maxSteps := 10000000) only [push_cast, seval, ↓reduceIte, hf, hz, hgA, han]) | ((with_reducible refine And.intro ?_ ?_); · exact Sq) | (refine' hKC _ _ _ _ _ (callV0 (flows_fn _ _ _ _ _ _ ?_ ?_) rfl rfl rfl ?_ ?_); (rotate_left 8); (· exact Lq); (rotate_left 1); (iterate 2 (· exact Hq)); simp (maxSteps := 10000000) only [push_cast, seval, ↓reduceIte, hf, hz, hgA, han]) | ((first | with_reducible refine hJ _ _ ?_ | (with_reducible refine hJ _ _ ?_ ?_; · kernel_rfl)); clear hJ hKC KC J) | ((with_reducible refine AWP_condF ?_ ?_); · rfl)
          exact .inl ⟨hok, rfl, (by first | exact weakS_free (k := 0) rfl rfl rfl | exact weakS_free (k := 1) rfl rfl rfl | exact weakS_free (k := 2) rfl rfl rfl | exact weakS_free (k := 3) rfl rfl rfl | exact weakS_free (k := 4) rfl rfl rfl | exact weakS_free (k := 5) rfl rfl rfl | exact weakS_free (k := 6) rfl rfl rfl | exact weakS_free (k := 7) rfl rfl rfl | exact weakS_free (k := 8) rfl rfl rfl)⟩
        · have hok : okAB us a a = false := by rw [okAB, if_pos rfl, hf, decide_eq_false hz]; rfl
          repeat' first | (with_reducible first | refine AWP_seq' ?_ | refine k_normal ?_ | refine b_ret ?_ | refine AWP_ret ?_ | refine AWP_skip ?_ | refine AWP_block ?_) | ((with_reducible first | refine AWP_reg fun KC J hJ hKC => ?_ | refine AWP_regD rfl fun KC J hJ hKC => ?_); simp (maxSteps := 10000000) only [push_cast, seval, ↓reduceIte, hf, hz, hgA, han]) | ((with_reducible refine And.intro ?_ ?_); · exact Sq) | (refine' hKC _ _ _ _ _ (callV0 (flows_fn _ _ _ _ _ _ ?_ ?_) rfl rfl rfl ?_ ?_); (rotate_left 8); (· exact Lq); (rotate_left 1); (iterate 2 (· exact Hq)); simp (maxSteps := 10000000) only [push_cast, seval, ↓reduceIte, hf, hz, hgA, han]) | ((first | with_reducible refine hJ _ _ ?_ | (with_reducible refine hJ _ _ ?_ ?_; · kernel_rfl)); clear hJ hKC KC J) | ((with_reducible refine AWP_condT ?_ ?_); · rfl) | ((with_reducible refine AWP_condF ?_ ?_); · rfl)
          exact .inr ⟨hok, rfl, (by first | exact weakS_free (k := 0) rfl rfl rfl | exact weakS_free (k := 1) rfl rfl rfl | exact weakS_free (k := 2) rfl rfl rfl | exact weakS_free (k := 3) rfl rfl rfl | exact weakS_free (k := 4) rfl rfl rfl | exact weakS_free (k := 5) rfl rfl rfl | exact weakS_free (k := 6) rfl rfl rfl | exact weakS_free (k := 7) rfl rfl rfl | exact weakS_free (k := 8) rfl rfl rfl)⟩
      · have hok : okAB us a a = false := by rw [okAB, if_pos rfl, show fl us a a = false by simpa using hf]; rfl
        repeat' first | (with_reducible first | refine AWP_seq' ?_ | refine k_normal ?_ | refine k_ret ?_ | refine b_ret ?_ | refine AWP_ret ?_ | refine AWP_block ?_) | ((with_reducible refine AWP_reg fun KC J hJ hKC => ?_); simp (maxSteps := 10000000) only [push_cast, seval, ↓reduceIte, hf, undef]) | (refine' hKC _ _ _ _ _ (callV0 (flows_fn _ _ _ _ _ _ ?_ ?_) rfl rfl rfl ?_ ?_); (rotate_left 8); (· exact Lq); (rotate_left 1); (iterate 2 (· exact Hq)); simp (maxSteps := 10000000) only [push_cast, seval, ↓reduceIte, hf, undef]) | ((with_reducible refine hJ _ _ ?_); clear hJ hKC KC J) | ((with_reducible refine AWP_condT ?_ ?_); · rfl)
        exact .inr ⟨hok, rfl, (by first | exact weakS_free (k := 0) rfl rfl rfl | exact weakS_free (k := 1) rfl rfl rfl | exact weakS_free (k := 2) rfl rfl rfl | exact weakS_free (k := 3) rfl rfl rfl | exact weakS_free (k := 4) rfl rfl rfl | exact weakS_free (k := 5) rfl rfl rfl | exact weakS_free (k := 6) rfl rfl rfl | exact weakS_free (k := 7) rfl rfl rfl | exact weakS_free (k := 8) rfl rfl rfl)⟩
    · have hab' : ¬ (a : Int) = (b : Int) := by omega
      have hab'' : ((a : Int) != (b : Int)) = true := by simpa using hab'
      have hab3 : ((a : Int) == (b : Int)) = false := by simpa using hab'
      by_cases hf : fl us a b = true
      · by_cases hf' : fl us b a = true
        · have hok : okAB us a b = false := by rw [okAB, if_neg hab, hf, hf']; rfl
          repeat' first | (with_reducible first | refine AWP_seq' ?_ | refine k_normal ?_ | refine k_ret ?_ | refine b_ret ?_ | refine AWP_ret ?_ | refine AWP_block ?_) | ((with_reducible refine AWP_reg fun KC J hJ hKC => ?_); simp (maxSteps := 10000000) only [push_cast, seval, ↓reduceIte, hf, hf', hab, hab', hab'', hab3, undef]) | (refine' hKC _ _ _ _ _ (callV0 (flows_fn _ _ _ _ _ _ ?_ ?_) rfl rfl rfl ?_ ?_); (rotate_left 8); (· exact Lq); (rotate_left 1); (iterate 2 (· exact Hq)); simp (maxSteps := 10000000) only [push_cast, seval, ↓reduceIte, hf, hf', hab, hab', hab'', hab3, undef]) | ((with_reducible refine hJ _ _ ?_); clear hJ hKC KC J) | ((with_reducible refine AWP_condT ?_ ?_); · rfl)
          exact .inr ⟨hok, rfl, (by first | exact weakS_free (k := 0) rfl rfl rfl | exact weakS_free (k := 1) rfl rfl rfl | exact weakS_free (k := 2) rfl rfl rfl | exact weakS_free (k := 3) rfl rfl rfl | exact weakS_free (k := 4) rfl rfl rfl | exact weakS_free (k := 5) rfl rfl rfl | exact weakS_free (k := 6) rfl rfl rfl | exact weakS_free (k := 7) rfl rfl rfl | exact weakS_free (k := 8) rfl rfl rfl)⟩
        · have hfF : fl us b a = false := by simpa using hf'
          by_cases hz : anB (us.getD b 0) (us.getD a 0) = 0
          · have hok : okAB us a b = true := by rw [okAB, if_neg hab, hf, hfF, decide_eq_true hz]; rfl
            repeat' first | (with_reducible first | refine AWP_seq' ?_ | refine k_normal ?_ | refine b_normal ?_ | refine AWP_skip ?_ | refine AWP_block ?_) | ((with_reducible first | refine AWP_reg fun KC J hJ hKC => ?_ | refine AWP_regD rfl fun KC J hJ hKC => ?_); simp (maxSteps := 10000000) only [push_cast, seval, ↓reduceIte, hf, hfF, hz, hgA, hgB, han, hab, hab', hab'', hab3, undef]) | ((with_reducible refine And.intro ?_ ?_); · exact Sq) | (refine' hKC _ _ _ _ _ (callV0 (flows_fn _ _ _ _ _ _ ?_ ?_) rfl rfl rfl ?_ ?_); (rotate_left 8); (· exact Lq); (rotate_left 1); (iterate 2 (· exact Hq)); simp (maxSteps := 10000000) only [push_cast, seval, ↓reduceIte, hf, hfF, hz, hgA, hgB, han, hab, hab', hab'', hab3, undef]) | ((first | with_reducible refine hJ _ _ ?_ | (with_reducible refine hJ _ _ ?_ ?_; · kernel_rfl)); clear hJ hKC KC J) | ((with_reducible refine AWP_condF ?_ ?_); · rfl)
            exact .inl ⟨hok, rfl, (by first | exact weakS_free (k := 0) rfl rfl rfl | exact weakS_free (k := 1) rfl rfl rfl | exact weakS_free (k := 2) rfl rfl rfl | exact weakS_free (k := 3) rfl rfl rfl | exact weakS_free (k := 4) rfl rfl rfl | exact weakS_free (k := 5) rfl rfl rfl | exact weakS_free (k := 6) rfl rfl rfl | exact weakS_free (k := 7) rfl rfl rfl | exact weakS_free (k := 8) rfl rfl rfl)⟩
          · have hok : okAB us a b = false := by rw [okAB, if_neg hab, hf, hfF, decide_eq_false hz]; rfl
            repeat' first | (with_reducible first | refine AWP_seq' ?_ | refine k_normal ?_ | refine b_ret ?_ | refine AWP_ret ?_ | refine AWP_skip ?_ | refine AWP_block ?_) | ((with_reducible first | refine AWP_reg fun KC J hJ hKC => ?_ | refine AWP_regD rfl fun KC J hJ hKC => ?_); simp (maxSteps := 10000000) only [push_cast, seval, ↓reduceIte, hf, hfF, hz, hgA, hgB, han, hab, hab', hab'', hab3, undef]) | ((with_reducible refine And.intro ?_ ?_); · exact Sq) | (refine' hKC _ _ _ _ _ (callV0 (flows_fn _ _ _ _ _ _ ?_ ?_) rfl rfl rfl ?_ ?_); (rotate_left 8); (· exact Lq); (rotate_left 1); (iterate 2 (· exact Hq)); simp (maxSteps := 10000000) only [push_cast, seval, ↓reduceIte, hf, hfF, hz, hgA, hgB, han, hab, hab', hab'', hab3, undef]) | ((first | with_reducible refine hJ _ _ ?_ | (with_reducible refine hJ _ _ ?_ ?_; · kernel_rfl)); clear hJ hKC KC J) | ((with_reducible refine AWP_condT ?_ ?_); · rfl) | ((with_reducible refine AWP_condF ?_ ?_); · rfl)
            exact .inr ⟨hok, rfl, (by first | exact weakS_free (k := 0) rfl rfl rfl | exact weakS_free (k := 1) rfl rfl rfl | exact weakS_free (k := 2) rfl rfl rfl | exact weakS_free (k := 3) rfl rfl rfl | exact weakS_free (k := 4) rfl rfl rfl | exact weakS_free (k := 5) rfl rfl rfl | exact weakS_free (k := 6) rfl rfl rfl | exact weakS_free (k := 7) rfl rfl rfl | exact weakS_free (k := 8) rfl rfl rfl)⟩
      · have hfF : fl us a b = false := by simpa using hf
        have hok : okAB us a b = true := by rw [okAB, if_neg hab, hfF]; rfl
        repeat' first | (with_reducible first | refine AWP_seq' ?_ | refine k_normal ?_ | refine b_normal ?_ | refine AWP_skip ?_ | refine AWP_block ?_) | ((with_reducible first | refine AWP_reg fun KC J hJ hKC => ?_ | refine AWP_regD rfl fun KC J hJ hKC => ?_); simp (maxSteps := 10000000) only [push_cast, seval, ↓reduceIte, hfF, hab, hab', hab'', hab3, undef]) | (refine' hKC _ _ _ _ _ (callV0 (flows_fn _ _ _ _ _ _ ?_ ?_) rfl rfl rfl ?_ ?_); (rotate_left 8); (· exact Lq); (rotate_left 1); (iterate 2 (· exact Hq)); simp (maxSteps := 10000000) only [push_cast, seval, ↓reduceIte, hfF, hab, hab', hab'', hab3, undef]) | ((first | with_reducible refine hJ _ _ ?_ | (with_reducible refine hJ _ _ ?_ ?_; · kernel_rfl)); clear hJ hKC KC J) | ((with_reducible refine AWP_condF ?_ ?_); · rfl)
        exact .inl ⟨hok, rfl, (by first | exact weakS_free (k := 0) rfl rfl rfl | exact weakS_free (k := 1) rfl rfl rfl | exact weakS_free (k := 2) rfl rfl rfl | exact weakS_free (k := 3) rfl rfl rfl | exact weakS_free (k := 4) rfl rfl rfl | exact weakS_free (k := 5) rfl rfl rfl | exact weakS_free (k := 6) rfl rfl rfl | exact weakS_free (k := 7) rfl rfl rfl | exact weakS_free (k := 8) rfl rfl rfl)⟩
  · rw [decide_eq_true ((okAB_ord hu hlw).1 (pairs_all.1 hall))]
    repeat' first | (with_reducible first | refine AWP_seq' ?_ | refine k_normal ?_ | refine b_normal ?_ | refine AWP_ret ?_) | ((with_reducible refine AWP_reg fun KC J hJ hKC => ?_); simp (maxSteps := 10000000) only [push_cast, seval, ↓reduceIte]) | ((with_reducible refine hJ _ _ ?_); clear hJ hKC KC J)
    refine ret_plain ?_
    simp (maxSteps := 10000000) only [push_cast, seval, ↓reduceIte, show Tryz.f236.results = #[(.cell 2 4)] from rfl]
    exact Lq
  · rw [decide_eq_false (fun h => by have := (pairs_all (p := fun a b => okAB us a b = true)).2 ((okAB_ord hu hlw).2 h) k hk; rw [hkf] at this; cases this)]
    refine ret_plain ?_
    simp (maxSteps := 10000000) only [push_cast, seval, ↓reduceIte, show Tryz.f236.results = #[(.cell 2 4)] from rfl]
    exact Lq
theorem down_fn (f g : Bool) (ns : List ByteArray) (us : List Nat) (a : Nat) (hu : U32 us) (hl : us.length ≤ 8) :
    Fn Tryz.prog 285 [.agg [.sl f 1 (strRow ns), .sl g 1 (u32Row us)], .v (.int .i64 (a : Int))] [] (.v (.int .u32 (uv (downN us a us.length)))) [] := by
  refine Fn.of (fn := Tryz.f285) (by kernel_rfl) rfl (by kernel_rfl) ⟨[.agg [.sl f 1 (strRow ns), .sl g 1 (u32Row us)], .v (.int .i64 (a : Int)), .v undef, .v undef, .v undef, .v undef, .v undef, .v undef, .v undef, .v undef, .v undef, .v undef, .v undef, .v undef, .v undef, .v undef, .v undef, .v undef, .v undef, .v undef, .v undef, .v undef, .v undef, .v undef, .v undef, .v undef, .v undef], []⟩ rfl ?_
  repeat' first | (with_reducible first | refine AWP_seq' ?_ | refine k_normal ?_ | refine AWP_block ?_) | ((with_reducible refine AWP_reg fun KC J hJ hKC => ?_); simp (maxSteps := 10000000) only [push_cast, seval, ↓reduceIte]) | ((with_reducible refine hJ _ _ ?_); clear hJ hKC KC J)
  refine AWP_loopF (γ := {i : Nat // i ≤ us.length}) (fun i => ⟨[.any, .v (.int .i64 (a : Int)), .ptr 0 0 0, .any, .any, .v (.int .u32 (uv (downN us a i.1))), .any, .any, .any, .v (.int .i64 us.length), .v (.int .i64 i.1), .any, .any, .any, .any, .any, .any, .any, .any, .any, .any, .any, .any, .any, .any, .any, .any], [.ent ⟨0, none, 25, [.sl f 1 (strRow ns), .sl g 1 (u32Row us)], .cells⟩]⟩) (fun i => us.length - i.1) ⟨0, by simp⟩ ⟨?_, Fq⟩ ?_
  · exact Lq
  · rintro ⟨i, hi⟩
    by_cases hlt : (i : Int) < (us.length : Int)
    · have hil : i < us.length := by omega
      have hx := getD_of 0 hil
      have h1 : us.getD i 0 >>> a < 2 ^ 32 := Nat.lt_of_le_of_lt (Nat.shiftRight_le _ _) (hu.get hil)
      have h2 : (us.getD i 0 >>> a) &&& 1 ≤ 1 := Nat.and_le_right
      have h3 : downN us a i < 2 ^ 32 := Nat.lt_of_lt_of_le (downN_lt us a i) (Nat.pow_le_pow_right (by decide) (by omega))
      have h4 : ((us.getD i 0 >>> a) &&& 1) <<< i < 2 ^ 32 := by
        have e := downN_lt us a (i + 1)
        have : ((us.getD i 0 >>> a) &&& 1) <<< i ≤ downN us a (i + 1) := Nat.right_le_or
        have : 2 ^ (i + 1) ≤ 2 ^ 32 := Nat.pow_le_pow_right (by decide) (by omega)
        omega
      repeat' first | (with_reducible first | refine AWP_seq' ?_ | refine k_normal ?_ | refine b_normal ?_ | refine AWP_skip ?_ | refine AWP_block ?_) | ((with_reducible refine AWP_reg fun KC J hJ hKC => ?_); simp (maxSteps := 10000000) only [push_cast, seval, ↓reduceIte, hlt, getE_u32 hx, uv_shr (hu.get hil) (b := a), uv_and1 h1, uv_shl h2 (by omega : i < 32), uv_or h3 h4, wrapN (i := i) (n := us.length) (by omega) (by omega)]) | ((with_reducible refine And.intro ?_ ?_); · exact Sq) | ((with_reducible refine hJ _ _ ?_); clear hJ hKC KC J) | ((with_reducible refine AWP_condT ?_ ?_); · rfl)
      refine ⟨⟨i + 1, by omega⟩, by simp only; omega, ?_, Fq⟩
      exact Lq
    · have e : i = us.length := by omega
      subst e
      repeat' first | (with_reducible first | refine AWP_seq' ?_ | refine k_normal ?_ | refine k_exit ?_ | refine b_exit ?_ | refine AWP_ret ?_ | refine AWP_exit ?_) | ((with_reducible refine AWP_reg fun KC J hJ hKC => ?_); simp (maxSteps := 10000000) only [push_cast, seval, ↓reduceIte, hlt]) | ((with_reducible refine hJ _ _ ?_); clear hJ hKC KC J) | ((with_reducible refine AWP_condF ?_ ?_); · rfl)
      refine ret_plain ?_
      simp (maxSteps := 10000000) only [push_cast, seval, ↓reduceIte, show Tryz.f285.results = #[(.tmp 4)] from rfl]
      exact leD_refl _
theorem indexFuncU32_fn (f : Bool) (xs : List Nat) (cf : Nat) (caps : List D) (p : Nat → Bool) (hb : xs.length ≤ 9223372036854775807) (hc : frz0All caps = true)
    (hp : ∀ x ∈ xs, Fn Tryz.prog cf (.v (.int .u32 (uv x)) :: caps) [] (.v (.bool (p x))) []) : Fn Tryz.prog 116 [.sl f 1 (u32Row xs), .fn cf caps] [] (.v (.int .i64 (idxF p xs))) [] := by
  refine Fn.of (fn := Tryz.f116) (by kernel_rfl) rfl (by kernel_rfl) ⟨[.sl f 1 (u32Row xs), .fn cf caps, .v undef, .v undef, .v undef, .v undef, .v undef, .v undef, .v undef, .v undef, .v undef, .v undef, .v undef, .v undef, .v undef, .v undef, .v undef, .v undef, .v undef], []⟩ rfl ?_
  repeat' first | (with_reducible first | refine AWP_seq' ?_ | refine k_normal ?_ | refine AWP_block ?_) | ((with_reducible refine AWP_reg fun KC J hJ hKC => ?_); simp (maxSteps := 10000000) only [push_cast, seval, ↓reduceIte]) | ((with_reducible refine hJ _ _ ?_); clear hJ hKC KC J)
  refine AWP_loopF (γ := {i : Nat // i ≤ xs.length ∧ ∀ (j : Nat) (hj : j < xs.length), j < i → p xs[j] = false}) (fun i => ⟨[.sl f 1 (u32Row xs), .fn cf caps, .any, .any, .any, .any, .any, .v (.int .i64 xs.length), .v (.int .i64 i.1), .any, .any, .any, .any, .any, .any, .any, .any, .any, .any], []⟩) (fun i => xs.length - i.1) ⟨0, by simp⟩ ⟨?_, Fq⟩ ?_
  · exact Lq
  · rintro ⟨i, hi, hn⟩
    by_cases hlt : (i : Int) < (xs.length : Int)
    · have hx : xs[i]? = some xs[i] := List.getElem?_eq_getElem (by omega)
      have hfn := hp xs[i] (List.getElem_mem (by omega))
      repeat' first | (with_reducible first | refine AWP_seq' ?_ | refine k_normal ?_ | refine k_ret ?_ | refine b_normal ?_ | refine b_ret ?_ | refine AWP_ret ?_ | refine AWP_skip ?_ | refine AWP_block ?_) | ((with_reducible refine AWP_reg fun KC J hJ hKC => ?_); simp (maxSteps := 10000000) only [push_cast, seval, ↓reduceIte, hlt, getE_u32 hx, wrapN (i := i) (n := xs.length) (by omega) hb]) | ((with_reducible refine And.intro ?_ ?_); · exact Sq) | (refine hKC _ _ _ _ _ (callV0 (hfn) rfl rfl rfl ?_ ?_); (· exact Lq); simp (maxSteps := 10000000) only [push_cast, seval, ↓reduceIte, hlt, getE_u32 hx, wrapN (i := i) (n := xs.length) (by omega) hb]) | ((with_reducible refine hJ _ _ ?_); clear hJ hKC KC J) | ((with_reducible refine AWP_condT ?_ ?_); · rfl) | (refine AWP_cond rfl (fun h => ?_) (fun h => ?_) <;> try simp only [decide_eq_true_eq, decide_eq_false_iff_not, Bool.not_eq_true', Bool.not_eq_false', beq_iff_eq, bne_iff_ne, ne_eq, Bool.not_eq_true, Bool.or_eq_true, Bool.and_eq_true, Bool.or_eq_false_iff, Bool.and_eq_false_imp, beq_eq_false_iff_ne, bne_eq_false_iff_eq] at h)
      · refine ret_plain ?_
        simp (maxSteps := 10000000) only [push_cast, seval, ↓reduceIte, show Tryz.f116.results = #[(.tmp 4)] from rfl]
        exact leD_v (by rw [idxF_at (by omega) h hn])
      · refine ⟨⟨i + 1, by omega, fun j hj hji => ?_⟩, by simp only; omega, ?_, Fq⟩
        · by_cases he : j = i
          · subst he; exact h
          · exact hn j hj (by omega)
        · exact Lq
    · skip
      repeat' first | (with_reducible first | refine AWP_seq' ?_ | refine k_normal ?_ | refine k_exit ?_ | refine b_exit ?_ | refine AWP_ret ?_ | refine AWP_exit ?_) | ((with_reducible refine AWP_reg fun KC J hJ hKC => ?_); simp (maxSteps := 10000000) only [push_cast, seval, ↓reduceIte, hlt]) | ((with_reducible refine hJ _ _ ?_); clear hJ hKC KC J) | ((with_reducible refine AWP_condF ?_ ?_); · rfl)
      refine ret_plain ?_
      simp (maxSteps := 10000000) only [push_cast, seval, ↓reduceIte, show Tryz.f116.results = #[(.tmp 4)] from rfl]
      exact leD_v (by rw [idxF_none (fun j hj => hn j hj (by omega))])
theorem join1_fn (x c : Nat) : Fn Tryz.prog 284 [.v (.int .u32 (uv x)), .fad [.v (.int .u32 (uv c))]] [] (.v (.bool (decide (x = c)))) [] := by
  refine Fn.of (fn := Tryz.f284) (by kernel_rfl) rfl (by kernel_rfl) ⟨[.v (.int .u32 (uv x)), .fad [.v (.int .u32 (uv c))], .v undef, .v undef, .v undef, .v undef, .v undef], []⟩ rfl ?_
  repeat' first | (with_reducible first | refine AWP_seq' ?_ | refine k_normal ?_ | refine AWP_ret ?_) | ((with_reducible refine AWP_reg fun KC J hJ hKC => ?_); simp (maxSteps := 10000000) only [push_cast, seval, ↓reduceIte]) | ((with_reducible refine hJ _ _ ?_); clear hJ hKC KC J)
  refine ret_plain ?_
  simp (maxSteps := 10000000) only [push_cast, seval, ↓reduceIte, show Tryz.f284.results = #[(.tmp 3)] from rfl]
  exact leD_refl _
theorem join_fn (f g : Bool) (ns : List ByteArray) (us : List Nat) (a b : Nat) (hu : U32 us) (hl : us.length ≤ 8) (ha : a < us.length) (hb : b < us.length) :
    Fn Tryz.prog 238 [.agg [.sl f 1 (strRow ns), .sl g 1 (u32Row us)], .v (.int .i64 (a : Int)), .v (.int .i64 (b : Int))] [] (.v (.int .i64 (joinI us a b))) [] := by
  have hcf := indexFuncU32_fn g us 284 [.fad [.v (.int .u32 (uv (us.getD a 0 &&& us.getD b 0)))]] (fun x => decide (x = us.getD a 0 &&& us.getD b 0)) (by omega) rfl (fun x _ => join1_fn x _)
  have hgA := getE_u32 (getD_of 0 ha)
  have hgB := getE_u32 (getD_of 0 hb)
  have han := uv_and (hu.get ha) (hu.get hb)
  refine Fn.of (fn := Tryz.f238) (by kernel_rfl) rfl (by kernel_rfl) ⟨[.agg [.sl f 1 (strRow ns), .sl g 1 (u32Row us)], .v (.int .i64 (a : Int)), .v (.int .i64 (b : Int)), .v undef, .v undef, .v undef, .v undef, .v undef, .v undef, .v undef, .v undef, .v undef, .v undef, .v undef, .v undef, .v undef, .v undef, .v undef, .v undef, .v undef, .v undef, .v undef, .v undef], []⟩ rfl ?_
  repeat' first | (refine AWP_freezeR 2 1 rfl (by (simp (maxSteps := 10000000) only [push_cast, seval, ↓reduceIte]) <;> rfl) ?_; simp (maxSteps := 10000000) only [push_cast, seval, ↓reduceIte, frSt, frSlot, fr3, fr2, fr1, fr0, sameB, arrOf, hgA, hgB, han]) | (with_reducible first | refine AWP_seq' ?_ | refine k_normal ?_ | refine AWP_ret ?_) | ((with_reducible first | refine AWP_reg fun KC J hJ hKC => ?_ | refine AWP_regD rfl fun KC J hJ hKC => ?_); simp (maxSteps := 10000000) only [push_cast, seval, ↓reduceIte, hgA, hgB, han]) | ((with_reducible refine And.intro ?_ ?_); · exact Sq) | (refine hKC _ _ _ _ _ (callV0 (hcf) rfl rfl rfl ?_ ?_); (· exact Lq); simp (maxSteps := 10000000) only [push_cast, seval, ↓reduceIte, hgA, hgB, han]) | ((first | with_reducible refine hJ _ _ ?_ | (with_reducible refine hJ _ _ ?_ ?_; · kernel_rfl)); clear hJ hKC KC J)
  refine ret_plain ?_
  simp (maxSteps := 10000000) only [push_cast, seval, ↓reduceIte, show Tryz.f238.results = #[(.tmp 6)] from rfl]
  exact leD_refl _
theorem meet_fn (f g : Bool) (ns : List ByteArray) (us : List Nat) (a b : Nat) (hu : U32 us) (hl : us.length ≤ 8) (ha : a < us.length) (hb : b < us.length) :
    Fn Tryz.prog 239 [.agg [.sl f 1 (strRow ns), .sl g 1 (u32Row us)], .v (.int .i64 (a : Int)), .v (.int .i64 (b : Int))] [] (.v (.int .i64 (meetI us a b))) [] := by
  have hd : ∀ x, downN us x us.length < 2 ^ 32 := fun x => Nat.lt_of_lt_of_le (downN_lt us x _) (Nat.pow_le_pow_right (by decide) (by omega))
  have han := uv_and (hd a) (hd b)
  refine Fn.of (fn := Tryz.f239) (by kernel_rfl) rfl (by kernel_rfl) ⟨[.agg [.sl f 1 (strRow ns), .sl g 1 (u32Row us)], .v (.int .i64 (a : Int)), .v (.int .i64 (b : Int)), .v undef, .v undef, .v undef, .v undef, .v undef, .v undef, .v undef, .v undef, .v undef, .v undef, .v undef, .v undef, .v undef, .v undef, .v undef, .v undef, .v undef, .v undef, .v undef, .v undef, .v undef, .v undef, .v undef, .v undef, .v undef, .v undef], []⟩ rfl ?_
  repeat' first | (with_reducible first | refine AWP_seq' ?_ | refine k_normal ?_ | refine AWP_block ?_) | ((with_reducible first | refine AWP_reg fun KC J hJ hKC => ?_ | refine AWP_regD rfl fun KC J hJ hKC => ?_); simp (maxSteps := 10000000) only [push_cast, seval, ↓reduceIte, han]) | (refine' hKC _ _ _ _ _ (callV0 (down_fn _ _ _ _ _ ?_ ?_) rfl rfl rfl ?_ ?_); (rotate_left 7); (· exact Lq); (rotate_left 1); (iterate 2 (· exact Hq)); simp (maxSteps := 10000000) only [push_cast, seval, ↓reduceIte, han]) | ((first | with_reducible refine hJ _ _ ?_ | (with_reducible refine hJ _ _ ?_ ?_; · kernel_rfl)); clear hJ hKC KC J)
  refine AWP_loopF (γ := {i : Nat // i ≤ us.length ∧ ∀ j, j < i → ¬ downN us j us.length = (downN us a us.length &&& downN us b us.length)}) (fun i => ⟨[.any, .any, .any, .ptr 0 0 0, .any, .any, .any, .v (.int .u32 (uv (downN us a us.length &&& downN us b us.length))), .any, .any, .any, .any, .any, .any, .any, .any, .any, .any, .v (.int .i64 us.length), .v (.int .i64 i.1), .any, .any, .any, .any, .any, .any, .any, .any, .any], [.ent ⟨0, none, 25, [.sl f 1 (strRow ns), .sl g 1 (u32Row us)], .cells⟩]⟩) (fun i => us.length - i.1) ⟨0, by simp⟩ ⟨?_, Fq⟩ ?_
  · exact Lq
  · rintro ⟨i, hi, hn⟩
    by_cases hlt : (i : Int) < (us.length : Int)
    · by_cases hz : downN us i us.length = (downN us a us.length &&& downN us b us.length)
      · skip
        repeat' first | (with_reducible first | refine AWP_seq' ?_ | refine k_normal ?_ | refine k_ret ?_ | refine b_ret ?_ | refine AWP_ret ?_ | refine AWP_skip ?_ | refine AWP_block ?_) | ((with_reducible refine AWP_reg fun KC J hJ hKC => ?_); simp (maxSteps := 10000000) only [push_cast, seval, ↓reduceIte, hlt, hz]) | (refine' hKC _ _ _ _ _ (callV0 (down_fn _ _ _ _ _ ?_ ?_) rfl rfl rfl ?_ ?_); (rotate_left 7); (· exact Lq); (rotate_left 1); (iterate 2 (· exact Hq)); simp (maxSteps := 10000000) only [push_cast, seval, ↓reduceIte, hlt, hz]) | ((with_reducible refine hJ _ _ ?_); clear hJ hKC KC J) | ((with_reducible refine AWP_condT ?_ ?_); · rfl)
        refine ret_plain ?_
        simp (maxSteps := 10000000) only [push_cast, seval, ↓reduceIte, show Tryz.f239.results = #[(.tmp 6)] from rfl]
        refine leD_v (congrArg (Value.int .i64) ?_)
        exact (idxF_at (xs := List.range us.length) (i := i) (by simp; omega) (by simpa using hz) (fun j hj hji => by simpa using hn j hji)).symm
      · have hz' : decide (downN us i us.length = (downN us a us.length &&& downN us b us.length)) = false := decide_eq_false hz
        repeat' first | (with_reducible first | refine AWP_seq' ?_ | refine k_normal ?_ | refine b_normal ?_ | refine AWP_skip ?_ | refine AWP_block ?_) | ((with_reducible refine AWP_reg fun KC J hJ hKC => ?_); simp (maxSteps := 10000000) only [push_cast, seval, ↓reduceIte, hlt, hz', wrapN (i := i) (n := us.length) (by omega) (by omega)]) | (refine' hKC _ _ _ _ _ (callV0 (down_fn _ _ _ _ _ ?_ ?_) rfl rfl rfl ?_ ?_); (rotate_left 7); (· exact Lq); (rotate_left 1); (iterate 2 (· exact Hq)); simp (maxSteps := 10000000) only [push_cast, seval, ↓reduceIte, hlt, hz', wrapN (i := i) (n := us.length) (by omega) (by omega)]) | ((with_reducible refine hJ _ _ ?_); clear hJ hKC KC J) | ((with_reducible refine AWP_condT ?_ ?_); · rfl) | ((with_reducible refine AWP_condF ?_ ?_); · rfl)
        refine ⟨⟨i + 1, by omega, fun j hj => ?_⟩, by simp only; omega, ?_, Fq⟩
        · by_cases he : j = i
          · subst he; exact hz
          · exact hn j (by omega)
        · exact Lq
    · skip
      repeat' first | (with_reducible first | refine AWP_seq' ?_ | refine k_normal ?_ | refine k_exit ?_ | refine b_exit ?_ | refine AWP_ret ?_ | refine AWP_exit ?_) | ((with_reducible refine AWP_reg fun KC J hJ hKC => ?_); simp (maxSteps := 10000000) only [push_cast, seval, ↓reduceIte, hlt]) | ((with_reducible refine hJ _ _ ?_); clear hJ hKC KC J) | ((with_reducible refine AWP_condF ?_ ?_); · rfl)
      refine ret_plain ?_
      simp (maxSteps := 10000000) only [push_cast, seval, ↓reduceIte, show Tryz.f239.results = #[(.tmp 6)] from rfl]
      refine leD_v (congrArg (Value.int .i64) ?_)
      exact (idxF_none (xs := List.range us.length) (fun j hj => by simpa using hn j (by simp at hj; omega))).symm
end Go.Proofs.YtabliglgeiajlaaGreat.AM
