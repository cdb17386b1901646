/- Walks and plain laws, put together: part 1. -/
import Derived.Test.YtabliglgeiajlaaGreatMovesAllG0
import Derived.Test.YtabliglgeiajlaaGreatMc
set_option linter.unusedSimpArgs false
set_option linter.unusedVariables false
namespace Go.Proofs.YtabliglgeiajlaaGreat.AM
open Go Go.RowKit Go.Proofs
set_option maxRecDepth 100000
set_option maxHeartbeats 4000000
def bel (us : List Nat) (b a : Nat) : Bool := !(b == a) && fl us b a
def hgtS (us : List Nat) (h : Nat → Nat) (a : Nat) : Nat → Nat
  | 0 => 0
  | b + 1 => if bel us b a = true then max (hgtS us h a b) (1 + h b) else hgtS us h a b
def hgtK (us : List Nat) : Nat → Nat → Nat
  | 0, _ => 0
  | k + 1, a => hgtS us (hgtK us k) a us.length
def rnk (us : List Nat) (a : Nat) : Nat := ((List.range us.length).filter fun b => bel us b a).length
theorem rnk_pos {us : List Nat} {a b : Nat} (hb : b < us.length) (h : bel us b a = true) : 0 < rnk us a := by
  unfold rnk
  exact List.length_pos_of_mem (List.mem_filter.2 ⟨List.mem_range.2 hb, h⟩)
theorem bel_trans {us : List Nat} (ho : Ord us) {a b c : Nat} (ha : a < us.length) (hb : b < us.length) (hc : c < us.length) (h1 : bel us c b = true) (h2 : bel us b a = true) : bel us c a = true := by
  simp only [bel, Bool.and_eq_true, Bool.not_eq_true', beq_eq_false_iff_ne] at h1 h2 ⊢
  refine ⟨fun h => ?_, ho.2.2 c hc b hb a ha h1.2 h2.2⟩
  subst h
  exact ho.2.1 c hc b hb (fun h => h1.1 h) ⟨h1.2, h2.2⟩
theorem bel_self (us : List Nat) (a : Nat) : bel us a a = false := by simp [bel]
theorem filter_lt {α : Type} {p q : α → Bool} {x : α} : ∀ {l : List α}, x ∈ l → (∀ y ∈ l, p y = true → q y = true) → p x = false → q x = true → (l.filter p).length < (l.filter q).length
  | [], h, _, _, _ => by simp at h
  | y :: l, h, hpq, hp, hq => by
    have hle : (l.filter p).length ≤ (l.filter q).length := by
      clear h
      induction l with
      | nil => simp
      | cons z l ih =>
        have h1 := ih (fun w hw => hpq w (by simp at hw ⊢; rcases hw with h | h <;> simp [h]))
        have h2 := hpq z (by simp)
        rw [List.filter_cons, List.filter_cons]
        cases hz : p z
        · rw [if_neg (by simp)]
          split
          · rw [List.length_cons]; omega
          · exact h1
        · rw [if_pos rfl, if_pos (h2 hz)]; simpa using h1
    rw [List.filter_cons, List.filter_cons]
    by_cases he : y = x
    · subst he; rw [if_neg (by rw [hp]; simp), if_pos hq]; simp; omega
    · have hx : x ∈ l := by
        rcases List.mem_cons.1 h with h | h
        · exact absurd h.symm he
        · exact h
      have ih := filter_lt hx (fun z hz => hpq z (List.mem_cons_of_mem _ hz)) hp hq
      have h2 := hpq y (by simp)
      cases hy : p y
      · rw [if_neg (by simp)]
        split
        · rw [List.length_cons]; omega
        · exact ih
      · rw [if_pos rfl, if_pos (h2 hy)]; simpa using ih
theorem rnk_lt {us : List Nat} (ho : Ord us) {a b : Nat} (ha : a < us.length) (hb : b < us.length) (h : bel us b a = true) : rnk us b < rnk us a := by
  unfold rnk
  refine filter_lt (x := b) (List.mem_range.2 hb) (fun c hc h1 => bel_trans ho ha hb (List.mem_range.1 hc) h1 h) (bel_self us b) h
theorem rnk_le (us : List Nat) (a : Nat) : rnk us a ≤ us.length := by
  unfold rnk
  have := List.length_filter_le (fun b => bel us b a) (List.range us.length)
  simpa using this
theorem hgtS_le {us : List Nat} {h : Nat → Nat} {k : Nat} (hh : ∀ b, h b ≤ k) (a : Nat) : ∀ n, hgtS us h a n ≤ k + 1
  | 0 => by simp [hgtS]
  | n + 1 => by
    have := hgtS_le (us := us) hh a n
    have := hh n
    unfold hgtS; split <;> omega
theorem hgtK_le (us : List Nat) : ∀ k a, hgtK us k a ≤ k
  | 0, _ => Nat.le_refl _
  | k + 1, a => hgtS_le (hgtK_le us k) a _
theorem hgtS_none {us : List Nat} {h : Nat → Nat} {a : Nat} : ∀ {n}, n ≤ us.length → (∀ b, b < us.length → bel us b a = false) → hgtS us h a n = 0
  | 0, _, _ => rfl
  | n + 1, hn, hb => by unfold hgtS; rw [if_neg (by rw [hb n (by omega)]; simp), hgtS_none (by omega) hb]
theorem height_fn (f g : Bool) (ns : List ByteArray) (us : List Nat) (hu : U32 us) (hl : us.length ≤ 8) (ho : Ord us) : ∀ k a, a < us.length → rnk us a ≤ k → k ≤ 8 →
    Fn Tryz.prog 254 [.agg [.sl f 1 (strRow ns), .sl g 1 (u32Row us)], .v (.int .i64 (a : Int))] [] (.v (.int .i64 ((hgtS us (hgtK us (k - 1)) a us.length : Nat) : Int))) [] := by
  intro k
  induction k with
  | zero =>
    intro a ha hr _
    have hn : ∀ b, b < us.length → bel us b a = false := fun b hb => by
      cases h : bel us b a
      · rfl
      · have := rnk_pos hb h; omega
    refine Fn.of (fn := Tryz.f254) (by kernel_rfl) rfl (by kernel_rfl) ⟨[.agg [.sl f 1 (strRow ns), .sl g 1 (u32Row us)], .v (.int .i64 (a : Int)), .v undef, .v undef, .v undef, .v undef, .v undef, .v undef, .v undef, .v undef, .v undef, .v undef, .v undef, .v undef, .v undef, .v undef, .v undef, .v undef, .v undef, .v undef, .v undef, .v undef, .v undef, .v undef, .v undef, .v undef, .v undef, .v undef, .v undef, .v undef], []⟩ rfl ?_
    repeat' first | (with_reducible first | refine AWP_seq' ?_ | refine k_normal ?_ | refine AWP_block ?_) | ((with_reducible refine AWP_reg fun KC J hJ hKC => ?_); simp (maxSteps := 9999999) only [push_cast, seval, ↓reduceIte]) | ((with_reducible refine hJ _ _ ?_); clear hJ hKC KC J)
    refine AWP_loopF (γ := {i : Nat // i ≤ us.length}) (fun i => ⟨[.any, .v (.int .i64 (a : Int)), .ptr 0 0 0, .any, .any, .v (.int .i64 0), .any, .any, .any, .v (.int .i64 us.length), .v (.int .i64 i.1), .any, .any, .any, .any, .any, .any, .any, .any, .any, .any, .any, .any, .any, .any, .any, .any, .any, .any, .any], [.ent ⟨0, none, 25, [.sl f 1 (strRow ns), .sl g 1 (u32Row us)], .cells⟩]⟩) (fun i => us.length - i.1) ⟨0, by simp⟩ ⟨?_, Fq⟩ ?_
    · exact Lq
    rintro ⟨i, hi⟩
    by_cases hlt : (i : Int) < (us.length : Int)
    · have h1 := flows_fn f g ns us i a hu (by omega)
      have hb := hn i (by omega)
      by_cases he : i = a
      · have he' : ((i : Int) != (a : Int)) = false := by simp [he]
        repeat' first | (with_reducible first | refine AWP_seq' ?_ | refine k_normal ?_ | refine b_normal ?_ | refine AWP_skip ?_ | refine AWP_block ?_) | ((with_reducible refine AWP_reg fun KC J hJ hKC => ?_); simp (maxSteps := 9999999) only [push_cast, seval, ↓reduceIte, hlt, he', wrapN (i := i) (n := us.length) (by omega) (by omega)]) | ((with_reducible refine hJ _ _ ?_); clear hJ hKC KC J) | ((with_reducible refine AWP_condT ?_ ?_); · rfl) | ((with_reducible refine AWP_condF ?_ ?_); · rfl)
        refine ⟨⟨i + 1, by omega⟩, by simp only; omega, ?_, Fq⟩
        exact Lq
      · have he' : ((i : Int) != (a : Int)) = true := by simp; omega
        have hf : fl us i a = false := by simpa [bel, he] using hb
        rw [hf] at h1
        repeat' first | (with_reducible first | refine AWP_seq' ?_ | refine k_normal ?_ | refine b_normal ?_ | refine AWP_skip ?_ | refine AWP_block ?_) | ((first | with_reducible refine AWP_reg fun KC J hJ hKC => ?_ | (refine hKC _ _ _ _ _ (callV0 (h1) rfl rfl rfl ?_ ?_); (· exact Lq))); simp (maxSteps := 9999999) only [push_cast, seval, ↓reduceIte, hlt, he', wrapN (i := i) (n := us.length) (by omega) (by omega)]) | ((with_reducible refine hJ _ _ ?_); clear hJ hKC KC J) | ((with_reducible refine AWP_condT ?_ ?_); · rfl) | ((with_reducible refine AWP_condF ?_ ?_); · rfl)
        refine ⟨⟨i + 1, by omega⟩, by simp only; omega, ?_, Fq⟩
        exact Lq
    · rw [hgtS_none (Nat.le_refl _) hn]
      repeat' first | (with_reducible first | refine AWP_seq' ?_ | refine k_normal ?_ | refine k_exit ?_ | refine b_exit ?_ | refine AWP_ret ?_ | refine AWP_exit ?_) | ((with_reducible refine AWP_reg fun KC J hJ hKC => ?_); simp (maxSteps := 9999999) only [push_cast, seval, ↓reduceIte, hlt]) | ((with_reducible refine hJ _ _ ?_); clear hJ hKC KC J) | ((with_reducible refine AWP_condF ?_ ?_); · rfl)
      refine ret_plain ?_
      simp (maxSteps := 9999999) only [push_cast, seval, ↓reduceIte, show Tryz.f254.results = #[(.tmp 4)] from rfl]
      exact Lq
  | succ k ih =>
    intro a ha hr hk
    have hle := fun i => hgtS_le (hgtK_le us k) a (us := us) i
    refine Fn.of (fn := Tryz.f254) (by kernel_rfl) rfl (by kernel_rfl) ⟨[.agg [.sl f 1 (strRow ns), .sl g 1 (u32Row us)], .v (.int .i64 (a : Int)), .v undef, .v undef, .v undef, .v undef, .v undef, .v undef, .v undef, .v undef, .v undef, .v undef, .v undef, .v undef, .v undef, .v undef, .v undef, .v undef, .v undef, .v undef, .v undef, .v undef, .v undef, .v undef, .v undef, .v undef, .v undef, .v undef, .v undef, .v undef], []⟩ rfl ?_
    repeat' first | (with_reducible first | refine AWP_seq' ?_ | refine k_normal ?_ | refine AWP_block ?_) | ((with_reducible refine AWP_reg fun KC J hJ hKC => ?_); simp (maxSteps := 9999999) only [push_cast, seval, ↓reduceIte]) | ((with_reducible refine hJ _ _ ?_); clear hJ hKC KC J)
    refine AWP_loopF (γ := {i : Nat // i ≤ us.length}) (fun i => ⟨[.any, .v (.int .i64 (a : Int)), .ptr 0 0 0, .any, .any, .v (.int .i64 ((hgtS us (hgtK us k) a i.1 : Nat) : Int)), .any, .any, .any, .v (.int .i64 us.length), .v (.int .i64 i.1), .any, .any, .any, .any, .any, .any, .any, .any, .any, .any, .any, .any, .any, .any, .any, .any, .any, .any, .any], [.ent ⟨0, none, 25, [.sl f 1 (strRow ns), .sl g 1 (u32Row us)], .cells⟩]⟩) (fun i => us.length - i.1) ⟨0, by simp⟩ ⟨?_, Fq⟩ ?_
    · exact Lq
    rintro ⟨i, hi⟩
    have hli := hle i
    by_cases hlt : (i : Int) < (us.length : Int)
    · have h1 := flows_fn f g ns us i a hu (by omega)
      by_cases he : i = a
      · have he' : ((i : Int) != (a : Int)) = false := by simp [he]
        have hst : hgtS us (hgtK us k) a (i + 1) = hgtS us (hgtK us k) a i := if_neg (by simp [bel, he])
        repeat' first | (with_reducible first | refine AWP_seq' ?_ | refine k_normal ?_ | refine b_normal ?_ | refine AWP_skip ?_ | refine AWP_block ?_) | ((with_reducible refine AWP_reg fun KC J hJ hKC => ?_); simp (maxSteps := 9999999) only [push_cast, seval, ↓reduceIte, hlt, he', wrapN (i := i) (n := us.length) (by omega) (by omega)]) | ((with_reducible refine hJ _ _ ?_); clear hJ hKC KC J) | ((with_reducible refine AWP_condT ?_ ?_); · rfl) | ((with_reducible refine AWP_condF ?_ ?_); · rfl)
        refine ⟨⟨i + 1, by omega⟩, by simp only; omega, ?_, Fq⟩
        simp only [hst]
        exact Lq
      · have he' : ((i : Int) != (a : Int)) = true := by simp; omega
        obtain ⟨q, hq⟩ : ∃ q, fl us i a = q := ⟨_, rfl⟩
        rw [hq] at h1
        cases q
        case false =>
          have hst : hgtS us (hgtK us k) a (i + 1) = hgtS us (hgtK us k) a i := if_neg (by simp [bel, hq])
          repeat' first | (with_reducible first | refine AWP_seq' ?_ | refine k_normal ?_ | refine b_normal ?_ | refine AWP_skip ?_ | refine AWP_block ?_) | ((first | with_reducible refine AWP_reg fun KC J hJ hKC => ?_ | (refine hKC _ _ _ _ _ (callV0 (h1) rfl rfl rfl ?_ ?_); (· exact Lq))); simp (maxSteps := 9999999) only [push_cast, seval, ↓reduceIte, hlt, he', wrapN (i := i) (n := us.length) (by omega) (by omega)]) | ((with_reducible refine hJ _ _ ?_); clear hJ hKC KC J) | ((with_reducible refine AWP_condT ?_ ?_); · rfl) | ((with_reducible refine AWP_condF ?_ ?_); · rfl)
          refine ⟨⟨i + 1, by omega⟩, by simp only; omega, ?_, Fq⟩
          simp only [hst]
          exact Lq
        have hb : bel us i a = true := by simp [bel, hq, he]
        have hst : hgtS us (hgtK us k) a (i + 1) = max (hgtS us (hgtK us k) a i) (1 + hgtK us k i) := if_pos hb
        have hki := hgtK_le us k i
        have h2 : Fn Tryz.prog 254 [.agg [.sl f 1 (strRow ns), .sl g 1 (u32Row us)], .v (.int .i64 (i : Int))] [] (.v (.int .i64 ((hgtK us k i : Nat) : Int))) [] := by
          have h3 := ih i (by omega) (by have := rnk_lt ho ha (by omega) hb; omega) (by omega)
          cases k with
          | zero =>
            have hr0 := rnk_lt ho ha (by omega) hb
            rw [hgtS_none (Nat.le_refl _) (fun b hb' => by
              cases h : bel us b i
              · rfl
              · have := rnk_pos hb' h; omega)] at h3
            exact h3
          | succ k => exact h3
        have w1 : IntKind.i64.wrap (1 + ((hgtK us k i : Nat) : Int)) = 1 + ((hgtK us k i : Nat) : Int) := wrapI (by omega) (by omega)
        obtain ⟨X, hX⟩ : ∃ X, hgtS us (hgtK us k) a i = X := ⟨_, rfl⟩
        obtain ⟨Y, hY⟩ : ∃ Y, hgtK us k i = Y := ⟨_, rfl⟩
        rw [hX, hY] at hst
        rw [hY] at h2 w1
        simp only [hX]
        have hm : (if (X : Int) < 1 + (Y : Int) then 1 + (Y : Int) else (X : Int)) = ((max X (1 + Y) : Nat) : Int) := by split <;> omega
        repeat' first | (with_reducible first | refine AWP_seq' ?_ | refine k_normal ?_ | refine b_normal ?_ | refine AWP_skip ?_ | refine AWP_block ?_) | ((first | with_reducible refine AWP_reg fun KC J hJ hKC => ?_ | (refine hKC _ _ _ _ _ (callV0 (h1) rfl rfl rfl ?_ ?_); (· exact Lq)) | (refine hKC _ _ _ _ _ (callV0 (h2) rfl rfl rfl ?_ ?_); (· exact Lq))); simp (maxSteps := 9999999) only [push_cast, seval, ↓reduceIte, hlt, he', w1, hm, wrapN (i := i) (n := us.length) (by omega) (by omega)]) | ((with_reducible refine hJ _ _ ?_); clear hJ hKC KC J) | ((with_reducible refine AWP_condT ?_ ?_); · rfl)
        refine ⟨⟨i + 1, by omega⟩, by simp only; omega, ?_, Fq⟩
        simp only [hst]
        exact Lq
    · have hin : i = us.length := by omega
      subst hin
      repeat' first | (with_reducible first | refine AWP_seq' ?_ | refine k_normal ?_ | refine k_exit ?_ | refine b_exit ?_ | refine AWP_ret ?_ | refine AWP_exit ?_) | ((with_reducible refine AWP_reg fun KC J hJ hKC => ?_); simp (maxSteps := 9999999) only [push_cast, seval, ↓reduceIte, hlt]) | ((with_reducible refine hJ _ _ ?_); clear hJ hKC KC J) | ((with_reducible refine AWP_condF ?_ ?_); · rfl)
      refine ret_plain ?_
      simp (maxSteps := 9999999) only [push_cast, seval, ↓reduceIte, show Tryz.f254.results = #[(.tmp 4)] from rfl]
      exact Lq
def hgt (us : List Nat) (a : Nat) : Nat := hgtK us 8 a
theorem hgt_le (us : List Nat) (a : Nat) : hgt us a ≤ 8 := hgtK_le us 8 a
theorem ord_check {ns : List ByteArray} {us : List Nat} (h : checkF ns us = 0) : Ord us ∧ us.length ≤ 8 := by
  unfold checkF at h
  split at h
  · rename_i hm
    split at h
    · rename_i ho; exact ⟨ho, (mayB_get hm).1.2.1⟩
    · cases h
  · cases h
theorem heightC_fn (f g : Bool) (ns : List ByteArray) (us : List Nat) (hu : U32 us) (hc : checkF ns us = 0) (a : Nat) (ha : a < us.length) :
    Fn Tryz.prog 254 [.agg [.sl f 1 (strRow ns), .sl g 1 (u32Row us)], .v (.int .i64 (a : Int))] [] (.v (.int .i64 ((hgt us a : Nat) : Int))) [] :=
  height_fn f g ns us hu (ord_check hc).2 (ord_check hc).1 8 a ha (Nat.le_trans (rnk_le us a) (ord_check hc).2) (Nat.le_refl _)
theorem latHeight_fn (f g : Bool) (ns : List ByteArray) (us : List Nat) (hs : Szs ns) (hu : U32 us) (hc : checkF ns us = 0) (a : Nat) (ha : a < us.length) :
    Fn Tryz.prog 168 [.agg [.sl f 1 (strRow ns), .sl g 1 (u32Row us)], .v (.int .i64 (a : Int))] [] (.tup [.v (.int .i64 ((hgt us a : Nat) : Int)), .v (.int .i64 0)]) [] := by
  have h1 := there_fn f g true ns us [(a : Int)] hs hu (by simp)
  have h2 := heightC_fn f g ns us hu hc a ha
  have hm : mayF ns us [(a : Int)] = 0 := by
    unfold mayF
    rw [if_pos hc, if_neg]
    simp [oddL]; omega
  rw [hm] at h1
  refine Fn.of (fn := Tryz.f168) (by kernel_rfl) rfl (by kernel_rfl) ⟨[.agg [.sl f 1 (strRow ns), .sl g 1 (u32Row us)], .v (.int .i64 (a : Int)), .v undef, .v undef, .v undef, .v undef, .v undef, .v undef, .v undef, .v undef, .v undef, .v undef, .v undef, .v undef, .v undef, .v undef, .v undef], []⟩ rfl ?_
  repeat' first | (with_reducible first | refine AWP_seq' ?_ | refine k_normal ?_ | refine AWP_ret ?_ | refine AWP_skip ?_) | ((first | with_reducible refine AWP_reg fun KC J hJ hKC => ?_ | (refine hKC _ _ _ _ _ (callV0 (h1) rfl rfl rfl ?_ ?_); (· exact Lq)) | (refine hKC _ _ _ _ _ (callV0 (h2) rfl rfl rfl ?_ ?_); (· exact Lq))); simp (maxSteps := 9999999) only [push_cast, seval, ↓reduceIte, bne_self_eq_false]) | ((with_reducible refine hJ _ _ ?_); clear hJ hKC KC J) | ((with_reducible refine AWP_condF ?_ ?_); · rfl)
  refine ret_plain ?_
  simp (maxSteps := 9999999) only [push_cast, seval, ↓reduceIte, show Tryz.f168.results = #[(.tmp 4), (.tmp 5)] from rfl]
  exact Lq
def absI (v : Int) : Int := if v < 0 then -v else v
theorem absI_le {v : Int} (h0 : -20 ≤ v) (h1 : v ≤ 20) : 0 ≤ absI v ∧ absI v ≤ 20 := by unfold absI; split <;> omega
def addZ (us : List Nat) (z : Int × Int × Int) (v l : Int) : Int × Int × Int := (z.1, z.2.1 + absI v, z.2.2 + ((hgt us l.toNat : Nat) : Int))
def Bz (k : Nat) (z : Int × Int × Int) : Prop := 0 ≤ z.1 ∧ z.1 ≤ 100 * (k : Int) ∧ 0 ≤ z.2.1 ∧ z.2.1 ≤ 100 * (k : Int) ∧ 0 ≤ z.2.2 ∧ z.2.2 ≤ 100 * (k : Int)
theorem Bz.add {us : List Nat} {k : Nat} {z : Int × Int × Int} (h : Bz k z) {v l : Int} (h0 : -20 ≤ v) (h1 : v ≤ 20) : Bz (k + 1) (addZ us z v l) := by
  have := absI_le h0 h1
  have := hgt_le us l.toNat
  simp only [Bz, addZ] at h ⊢
  omega
def codeS (us : List Nat) (z : Int × Int × Int) (x : Int × Int × Int) : Int × Int × Int :=
  if x.1 = 1 then addZ us (z.1 + 1, z.2) x.2.1 x.2.2 else (if x.1 = 0 then z.1 else z.1 + 1, z.2.1 + absI x.2.1, z.2.2)
def codeZ (us : List Nat) (z : Int × Int × Int) (L : List (Int × Int × Int)) : Int × Int × Int := L.foldl (codeS us) z
def atomZ (us : List Nat) (z : Int × Int × Int) (L : List (Int × Int)) : Int × Int × Int := L.foldl (fun z a => addZ us z a.1 a.2) z
def slotZ (us : List Nat) (z : Int × Int × Int) (L : List (Bool × Int × Int)) : Int × Int × Int := L.foldl (fun z x => addZ us z x.2.1 x.2.2) z
theorem foldl_succ {α β : Type} (f : β → α → β) (z : β) {l : List α} {i : Nat} {x : α} (h : l[i]? = some x) : (l.take (i + 1)).foldl f z = f ((l.take i).foldl f z) x := by
  rw [List.take_add_one, h]; simp
theorem foldl_B {α : Type} {f : Int × Int × Int → α → Int × Int × Int} {l : List α} (hf : ∀ x ∈ l, ∀ k z, Bz k z → Bz (k + 1) (f z x)) : ∀ {k z}, Bz k z → Bz (k + l.length) (l.foldl f z) := by
  induction l with
  | nil => intro k z h; exact h
  | cons x l ih =>
    intro k z h
    have := ih (fun y hy => hf y (List.mem_cons_of_mem _ hy)) (hf x List.mem_cons_self k z h)
    rw [List.foldl_cons, List.length_cons, show k + (l.length + 1) = k + 1 + l.length by omega]
    exact this
theorem instr_num {n : Nat} {x : Int × Int × Int} (h : instrB n x = true) : -20 ≤ x.2.1 ∧ x.2.1 ≤ 20 ∧ (x.1 = 1 → oddL n x.2.2 = false) := by
  unfold instrB at h
  split at h
  · rename_i h1
    simp only [inB, Bool.and_eq_true, decide_eq_true_eq, Bool.not_eq_true'] at h
    exact ⟨h.1.1, h.1.2, fun _ => h.2⟩
  · rename_i h1
    refine ⟨?_, ?_, fun h2 => absurd h2 h1⟩
    all_goals
      simp only [inB, Bool.and_eq_true, decide_eq_true_eq] at h
      obtain ⟨_, _, h⟩ := h
      repeat' split at h
      all_goals simp only [Bool.and_eq_true, decide_eq_true_eq] at h; omega
theorem atom_num {n : Nat} {x : Int × Int} (h : atomB n x = true) : -20 ≤ x.1 ∧ x.1 ≤ 20 ∧ oddL n x.2 = false := by
  simp only [atomB, inB, Bool.and_eq_true, decide_eq_true_eq, Bool.not_eq_true'] at h
  exact ⟨h.1.1, h.1.2, h.2⟩
theorem slot_num {n : Nat} {x : Bool × Int × Int} (h : slotB n x = true) : -20 ≤ x.2.1 ∧ x.2.1 ≤ 20 ∧ oddL n x.2.2 = false := by
  simp only [slotB, inB, Bool.and_eq_true, Bool.not_eq_true'] at h
  obtain ⟨h1, h2⟩ := h
  split at h2 <;> simp only [Bool.and_eq_true, decide_eq_true_eq] at h2 <;> exact ⟨by omega, by omega, h1⟩
structure StaN (n : Nat) (s : Sta) : Prop where
  code : ∀ x ∈ s.code, -20 ≤ x.2.1 ∧ x.2.1 ≤ 20 ∧ (x.1 = 1 → oddL n x.2.2 = false)
  mem : ∀ x ∈ s.mem, -20 ≤ x.1 ∧ x.1 ≤ 20 ∧ oddL n x.2 = false
  stack : ∀ x ∈ s.stack, -20 ≤ x.2.1 ∧ x.2.1 ≤ 20 ∧ oddL n x.2.2 = false
  out : ∀ x ∈ s.out, -20 ≤ x.1 ∧ x.1 ≤ 20 ∧ oddL n x.2 = false
  codeL : s.code.length ≤ 12
  memL : s.mem.length ≤ 6
  stackL : s.stack.length ≤ 12
  outL : s.out.length ≤ 8
  v0 : -20 ≤ s.v
  v1 : s.v ≤ 20
  l : oddL n s.l = false
theorem sta_num {n : Nat} {s : Sta} (h : staB n s = true) : StaN n s := by
  simp only [staB, codeB, Bool.and_eq_true, decide_eq_true_eq, List.all_eq_true, Bool.not_eq_true'] at h
  obtain ⟨⟨a1, a2⟩, a3, a4, a5, a6, a7, a8, a9, a10⟩ := h
  have hv := inB_iff.1 a3
  exact ⟨fun x hx => instr_num (a1 x hx), fun x hx => atom_num (a5 x hx), fun x hx => slot_num (a7 x hx), fun x hx => atom_num (a9 x hx), a2, a6, a8, a10, by omega, by omega, a4⟩
def cntZ (z : Int × Int × Int) (n : Nat) : Int × Int × Int := (z.1 + (n : Int), z.2)
def sizeZ (us : List Nat) (z : Int × Int × Int) (s : Sta) : Int × Int × Int :=
  slotZ us (atomZ us (atomZ us (codeZ us (cntZ (addZ us z s.v s.l) (s.code.length + s.mem.length + s.stack.length + s.out.length)) s.code) s.mem) s.out) s.stack
end Go.Proofs.YtabliglgeiajlaaGreat.AM

namespace Go.Proofs.YtabliglgeiajlaaGreat.AM
open Go Go.RowKit Go.Proofs
set_option maxRecDepth 100000
set_option maxHeartbeats 2000000
@[push_cast] theorem tyf1 : tyI Tryz.prog 142 = some ⟨TypeDesc.func #[3] #[4] false, 1, 8, Value.nilFunc⟩ := by kernel_rfl
abbrev inD (a b : Int) : D := .fn 299 [.fad [.v (.int .i64 a)], .fad [.v (.int .i64 b)]]
theorem spanIn_fn (a b n : Int) : Fn Tryz.prog 299 [.v (.int .i64 n), .fad [.v (.int .i64 a)], .fad [.v (.int .i64 b)]] [] (.v (.bool (inB a b n))) [] := by
  obtain ⟨x, hx⟩ : ∃ x, decide (a ≤ n) = x := ⟨_, rfl⟩
  rw [inB, hx]
  refine Fn.of (fn := Tryz.f299) (by kernel_rfl) rfl (by kernel_rfl) ⟨[.v (.int .i64 n), .fad [.v (.int .i64 a)], .fad [.v (.int .i64 b)], .v undef, .v undef, .v undef, .v undef, .v undef, .v undef, .v undef, .v undef, .v undef, .v undef], []⟩ rfl ?_
  cases x
  all_goals
    repeat' first | (with_reducible first | refine AWP_seq' ?_ | refine k_normal ?_ | refine AWP_ret ?_) | ((with_reducible refine AWP_reg fun KC J hJ hKC => ?_); simp (maxSteps := 9999999) only [push_cast, seval, ↓reduceIte, hx, undef]) | ((with_reducible refine hJ _ _ ?_); clear hJ hKC KC J)
    refine ret_plain ?_
    simp (maxSteps := 9999999) only [push_cast, seval, ↓reduceIte, show Tryz.f299.results = #[(.tmp 4)] from rfl]
    exact Lq
theorem span_fn (a b : Int) : Fn Tryz.prog 298 [.v (.int .i64 a), .v (.int .i64 b)] [] (inD a b) [] := by
  refine Fn.of (fn := Tryz.f298) (by kernel_rfl) rfl (by kernel_rfl) ⟨[.v (.int .i64 a), .v (.int .i64 b), .v undef, .v undef, .v undef, .v undef], []⟩ rfl ?_
  repeat' first | (with_reducible first | refine AWP_seq' ?_ | refine k_normal ?_) | ((with_reducible refine AWP_reg fun KC J hJ hKC => ?_); simp (maxSteps := 9999999) only [push_cast, seval, ↓reduceIte]) | ((with_reducible refine hJ _ _ ?_); clear hJ hKC KC J)
  refine AWP_freeze 0 rfl (by simp (maxSteps := 9999999) only [push_cast, seval, ↓reduceIte]) ?_
  simp (maxSteps := 9999999) only [push_cast, seval, ↓reduceIte, frSt, frSlot, fr3, fr2, fr1, fr0, sameB, arrOf]
  refine AWP_freeze 1 rfl (by simp (maxSteps := 9999999) only [push_cast, seval, ↓reduceIte]) ?_
  simp (maxSteps := 9999999) only [push_cast, seval, ↓reduceIte, frSt, frSlot, fr3, fr2, fr1, fr0, sameB, arrOf]
  refine AWP_ret ?_
  refine ret_plain ?_
  simp (maxSteps := 9999999) only [push_cast, seval, ↓reduceIte, show Tryz.f298.results = #[(.tmp 4)] from rfl]
  exact Lq
abbrev spansE : Ent := ⟨0, none, 304, [inD (-20) 20, inD 0 12, inD 0 3, inD 0 1], .map [.int .i64 1, .int .i64 8, .int .i64 9, .int .i64 10]⟩
theorem spans_fn : Fn Tryz.prog 292 [] [] (.kref true 0 0) [.ent spansE] := by
  have h1 := span_fn (-20) 20
  have h2 := span_fn 0 12
  have h3 := span_fn 0 3
  have h4 := span_fn 0 1
  refine Fn.of (fn := Tryz.f292) (by kernel_rfl) rfl (by kernel_rfl) ⟨[.v undef, .v undef, .v undef, .v undef, .v undef, .v undef, .v undef, .v undef, .v undef, .v undef, .v undef, .v undef], []⟩ rfl ?_
  repeat' first | (with_reducible first | refine AWP_seq' ?_ | refine k_normal ?_) | ((first | with_reducible refine AWP_reg fun KC J hJ hKC => ?_ | (refine hKC _ _ _ _ _ (callV0 (h1) rfl rfl rfl ?_ ?_); (· exact Lq)) | (refine hKC _ _ _ _ _ (callV0 (h2) rfl rfl rfl ?_ ?_); (· exact Lq)) | (refine hKC _ _ _ _ _ (callV0 (h3) rfl rfl rfl ?_ ?_); (· exact Lq)) | (refine hKC _ _ _ _ _ (callV0 (h4) rfl rfl rfl ?_ ?_); (· exact Lq))); simp (maxSteps := 9999999) only [push_cast, seval, ↓reduceIte]) | ((with_reducible refine hJ _ _ ?_); clear hJ hKC KC J)
  refine AWP_ret ?_
  refine ret_new [0] ?_ (by simp) ?_
  · simp (maxSteps := 9999999) only [push_cast, seval, ↓reduceIte, show Tryz.f292.results = #[.tmp 0] from rfl, pick, mOf, idx]
    exact ⟨rfl, leD_refl _⟩
  · intro k hk
    exact absurd hk (by simp)
theorem codeRight_fn (n : Nat) (x : Int × Int × Int) : Fn Tryz.prog 270 [.v (.int .i64 n), .agg [.v (.int .i64 x.1), .v (.int .i64 x.2.1), .v (.int .i64 x.2.2)]] [] (.v (.bool (instrB n x))) [] := by
  obtain ⟨o, v, l⟩ := x
  have hsp := spans_fn
  simp only [instrB]
  obtain ⟨a1, ha1⟩ : ∃ b, decide (o < 0) = b := ⟨_, rfl⟩
  cases a1
  case true =>
    have ho := of_decide_eq_true ha1
    rw [if_neg (by omega), show inB 0 12 o = false by simp [inB]; omega]
    refine Fn.of (fn := Tryz.f270) (by kernel_rfl) rfl (by kernel_rfl) ⟨[.v (.int .i64 n), .agg [.v (.int .i64 o), .v (.int .i64 v), .v (.int .i64 l)], .v undef, .v undef, .v undef, .v undef, .v undef, .v undef, .v undef, .v undef, .v undef, .v undef, .v undef, .v undef, .v undef, .v undef, .v undef, .v undef, .v undef, .v undef, .v undef, .v undef, .v undef, .v undef, .v undef, .v undef, .v undef, .v undef, .v undef, .v undef, .v undef, .v undef, .v undef, .v undef, .v undef, .v undef, .v undef, .v undef, .v undef, .v undef, .v undef, .v undef, .v undef, .v undef, .v undef, .v undef, .v undef, .v undef, .v undef, .v undef, .v undef, .v undef, .v undef, .v undef], []⟩ rfl ?_
    repeat' first | (with_reducible first | refine AWP_seq' ?_ | refine k_normal ?_ | refine k_ret ?_ | refine AWP_ret ?_) | ((with_reducible refine AWP_reg fun KC J hJ hKC => ?_); simp (maxSteps := 9999999) only [push_cast, seval, ↓reduceIte, ha1, undef]) | ((with_reducible refine hJ _ _ ?_); clear hJ hKC KC J) | ((with_reducible refine AWP_condT ?_ ?_); · rfl)
    refine ret_plain ?_
    simp (maxSteps := 9999999) only [push_cast, seval, ↓reduceIte, show Tryz.f270.results = #[(.tmp 4)] from rfl]
    exact Lq
  have ho := of_decide_eq_false ha1
  obtain ⟨a2, ha2⟩ : ∃ b, decide (13 ≤ o) = b := ⟨_, rfl⟩
  cases a2
  case true =>
    have ho2 := of_decide_eq_true ha2
    rw [if_neg (by omega), show inB 0 12 o = false by simp [inB]; omega]
    refine Fn.of (fn := Tryz.f270) (by kernel_rfl) rfl (by kernel_rfl) ⟨[.v (.int .i64 n), .agg [.v (.int .i64 o), .v (.int .i64 v), .v (.int .i64 l)], .v undef, .v undef, .v undef, .v undef, .v undef, .v undef, .v undef, .v undef, .v undef, .v undef, .v undef, .v undef, .v undef, .v undef, .v undef, .v undef, .v undef, .v undef, .v undef, .v undef, .v undef, .v undef, .v undef, .v undef, .v undef, .v undef, .v undef, .v undef, .v undef, .v undef, .v undef, .v undef, .v undef, .v undef, .v undef, .v undef, .v undef, .v undef, .v undef, .v undef, .v undef, .v undef, .v undef, .v undef, .v undef, .v undef, .v undef, .v undef, .v undef, .v undef, .v undef, .v undef], []⟩ rfl ?_
    repeat' first | (with_reducible first | refine AWP_seq' ?_ | refine k_normal ?_ | refine k_ret ?_ | refine AWP_ret ?_) | ((with_reducible refine AWP_reg fun KC J hJ hKC => ?_); simp (maxSteps := 9999999) only [push_cast, seval, ↓reduceIte, ha1, ha2, undef]) | ((with_reducible refine hJ _ _ ?_); clear hJ hKC KC J) | ((with_reducible refine AWP_condT ?_ ?_); · rfl)
    refine ret_plain ?_
    simp (maxSteps := 9999999) only [push_cast, seval, ↓reduceIte, show Tryz.f270.results = #[(.tmp 4)] from rfl]
    exact Lq
  have ho2 := of_decide_eq_false ha2
  have hin : inB 0 12 o = true := by simp [inB]; omega
  by_cases e1 : o = 1
  · subst e1
    have h1 := spanIn_fn (-20) 20 v
    rw [if_pos rfl]
    obtain ⟨b1, hb1⟩ : ∃ b, inB (-20) 20 v = b := ⟨_, rfl⟩
    obtain ⟨b2, hb2⟩ : ∃ b, decide (0 ≤ l) = b := ⟨_, rfl⟩
    have hod : (!oddL n l) = (b2 && decide (l < (n : Int))) := by
      rw [← hb2, Bool.eq_iff_iff]; simp [oddL]
    rw [hod, hb1]
    rw [hb1] at h1
    cases b1 <;> cases b2
    all_goals
      refine Fn.of (fn := Tryz.f270) (by kernel_rfl) rfl (by kernel_rfl) ⟨[.v (.int .i64 n), .agg [.v (.int .i64 1), .v (.int .i64 v), .v (.int .i64 l)], .v undef, .v undef, .v undef, .v undef, .v undef, .v undef, .v undef, .v undef, .v undef, .v undef, .v undef, .v undef, .v undef, .v undef, .v undef, .v undef, .v undef, .v undef, .v undef, .v undef, .v undef, .v undef, .v undef, .v undef, .v undef, .v undef, .v undef, .v undef, .v undef, .v undef, .v undef, .v undef, .v undef, .v undef, .v undef, .v undef, .v undef, .v undef, .v undef, .v undef, .v undef, .v undef, .v undef, .v undef, .v undef, .v undef, .v undef, .v undef, .v undef, .v undef, .v undef, .v undef], []⟩ rfl ?_
      repeat' first | (with_reducible first | refine AWP_seq' ?_ | refine k_normal ?_ | refine k_ret ?_ | refine AWP_ret ?_ | refine AWP_skip ?_) | ((first | with_reducible refine AWP_reg fun KC J hJ hKC => ?_ | with_reducible refine AWP_regD rfl fun KC J hJ hKC => ?_ | (refine hKC _ _ _ _ _ (callN [] hsp rfl rfl rfl (by simp) (fun _ h => by cases h) rfl rfl rfl leF_nil ?_)) | (refine hKC _ _ _ _ _ (callV0 (h1) rfl rfl rfl ?_ ?_); (· exact Lq))); simp (maxSteps := 9999999) only [push_cast, seval, ↓reduceIte, hb2, undef, backOf, callSets, renSlot, pick, mOf, idx, ren, ren2, ren1, ren0]) | ((first | with_reducible refine hJ _ _ ?_ | (with_reducible refine hJ _ _ ?_ ?_; · kernel_rfl)); clear hJ hKC KC J) | ((with_reducible refine AWP_condT ?_ ?_); · rfl) | ((with_reducible refine AWP_condF ?_ ?_); · rfl)
      refine ret_plain ?_
      simp (maxSteps := 9999999) only [push_cast, seval, ↓reduceIte, show Tryz.f270.results = #[(.tmp 4)] from rfl]
      exact Lq
  rw [if_neg e1, hin]
  have e1' : (o == 1) = false := by simpa using e1
  have hl0 : decide (l = 0) = (l == 0) := by rw [Bool.eq_iff_iff]; simp
  rw [hl0]
  obtain ⟨c1, hc1⟩ : ∃ b, (l == 0) = b := ⟨_, rfl⟩
  rw [hc1]
  by_cases e8 : o = 8
  · subst e8
    have h1 := spanIn_fn 0 12 v
    rw [if_pos rfl]
    obtain ⟨b1, hb1⟩ : ∃ b, inB 0 12 v = b := ⟨_, rfl⟩
    rw [hb1] at h1 ⊢
    cases b1
    all_goals
      refine Fn.of (fn := Tryz.f270) (by kernel_rfl) rfl (by kernel_rfl) ⟨[.v (.int .i64 n), .agg [.v (.int .i64 8), .v (.int .i64 v), .v (.int .i64 l)], .v undef, .v undef, .v undef, .v undef, .v undef, .v undef, .v undef, .v undef, .v undef, .v undef, .v undef, .v undef, .v undef, .v undef, .v undef, .v undef, .v undef, .v undef, .v undef, .v undef, .v undef, .v undef, .v undef, .v undef, .v undef, .v undef, .v undef, .v undef, .v undef, .v undef, .v undef, .v undef, .v undef, .v undef, .v undef, .v undef, .v undef, .v undef, .v undef, .v undef, .v undef, .v undef, .v undef, .v undef, .v undef, .v undef, .v undef, .v undef, .v undef, .v undef, .v undef, .v undef], []⟩ rfl ?_
      repeat' first | (with_reducible first | refine AWP_seq' ?_ | refine k_normal ?_ | refine k_ret ?_ | refine AWP_ret ?_ | refine AWP_skip ?_) | ((first | with_reducible refine AWP_reg fun KC J hJ hKC => ?_ | with_reducible refine AWP_regD rfl fun KC J hJ hKC => ?_ | (refine hKC _ _ _ _ _ (callN [] hsp rfl rfl rfl (by simp) (fun _ h => by cases h) rfl rfl rfl leF_nil ?_)) | (refine hKC _ _ _ _ _ (callV0 (h1) rfl rfl rfl ?_ ?_); (· exact Lq))); simp (maxSteps := 9999999) only [push_cast, seval, ↓reduceIte, hc1, undef, backOf, callSets, renSlot, pick, mOf, idx, ren, ren2, ren1, ren0]) | ((first | with_reducible refine hJ _ _ ?_ | (with_reducible refine hJ _ _ ?_ ?_; · kernel_rfl)); clear hJ hKC KC J) | ((with_reducible refine AWP_condT ?_ ?_); · rfl) | ((with_reducible refine AWP_condF ?_ ?_); · rfl)
      refine ret_plain ?_
      simp (maxSteps := 9999999) only [push_cast, seval, ↓reduceIte, show Tryz.f270.results = #[(.tmp 4)] from rfl]
      first | exact Lq | (simp only [Bool.true_and, Bool.and_true, Bool.and_false]; exact Lq)
  rw [if_neg e8]
  by_cases e9 : o = 9
  · subst e9
    have h1 := spanIn_fn 0 3 v
    rw [if_pos rfl]
    obtain ⟨b1, hb1⟩ : ∃ b, inB 0 3 v = b := ⟨_, rfl⟩
    rw [hb1] at h1 ⊢
    cases b1
    all_goals
      refine Fn.of (fn := Tryz.f270) (by kernel_rfl) rfl (by kernel_rfl) ⟨[.v (.int .i64 n), .agg [.v (.int .i64 9), .v (.int .i64 v), .v (.int .i64 l)], .v undef, .v undef, .v undef, .v undef, .v undef, .v undef, .v undef, .v undef, .v undef, .v undef, .v undef, .v undef, .v undef, .v undef, .v undef, .v undef, .v undef, .v undef, .v undef, .v undef, .v undef, .v undef, .v undef, .v undef, .v undef, .v undef, .v undef, .v undef, .v undef, .v undef, .v undef, .v undef, .v undef, .v undef, .v undef, .v undef, .v undef, .v undef, .v undef, .v undef, .v undef, .v undef, .v undef, .v undef, .v undef, .v undef, .v undef, .v undef, .v undef, .v undef, .v undef, .v undef], []⟩ rfl ?_
      repeat' first | (with_reducible first | refine AWP_seq' ?_ | refine k_normal ?_ | refine k_ret ?_ | refine AWP_ret ?_ | refine AWP_skip ?_) | ((first | with_reducible refine AWP_reg fun KC J hJ hKC => ?_ | with_reducible refine AWP_regD rfl fun KC J hJ hKC => ?_ | (refine hKC _ _ _ _ _ (callN [] hsp rfl rfl rfl (by simp) (fun _ h => by cases h) rfl rfl rfl leF_nil ?_)) | (refine hKC _ _ _ _ _ (callV0 (h1) rfl rfl rfl ?_ ?_); (· exact Lq))); simp (maxSteps := 9999999) only [push_cast, seval, ↓reduceIte, hc1, undef, backOf, callSets, renSlot, pick, mOf, idx, ren, ren2, ren1, ren0]) | ((first | with_reducible refine hJ _ _ ?_ | (with_reducible refine hJ _ _ ?_ ?_; · kernel_rfl)); clear hJ hKC KC J) | ((with_reducible refine AWP_condT ?_ ?_); · rfl) | ((with_reducible refine AWP_condF ?_ ?_); · rfl)
      refine ret_plain ?_
      simp (maxSteps := 9999999) only [push_cast, seval, ↓reduceIte, show Tryz.f270.results = #[(.tmp 4)] from rfl]
      first | exact Lq | (simp only [Bool.true_and, Bool.and_true, Bool.and_false]; exact Lq)
  rw [if_neg e9]
  by_cases e10 : o = 10
  · subst e10
    have h1 := spanIn_fn 0 1 v
    rw [if_pos rfl]
    obtain ⟨b1, hb1⟩ : ∃ b, inB 0 1 v = b := ⟨_, rfl⟩
    rw [hb1] at h1 ⊢
    cases b1
    all_goals
      refine Fn.of (fn := Tryz.f270) (by kernel_rfl) rfl (by kernel_rfl) ⟨[.v (.int .i64 n), .agg [.v (.int .i64 10), .v (.int .i64 v), .v (.int .i64 l)], .v undef, .v undef, .v undef, .v undef, .v undef, .v undef, .v undef, .v undef, .v undef, .v undef, .v undef, .v undef, .v undef, .v undef, .v undef, .v undef, .v undef, .v undef, .v undef, .v undef, .v undef, .v undef, .v undef, .v undef, .v undef, .v undef, .v undef, .v undef, .v undef, .v undef, .v undef, .v undef, .v undef, .v undef, .v undef, .v undef, .v undef, .v undef, .v undef, .v undef, .v undef, .v undef, .v undef, .v undef, .v undef, .v undef, .v undef, .v undef, .v undef, .v undef, .v undef, .v undef], []⟩ rfl ?_
      repeat' first | (with_reducible first | refine AWP_seq' ?_ | refine k_normal ?_ | refine k_ret ?_ | refine AWP_ret ?_ | refine AWP_skip ?_) | ((first | with_reducible refine AWP_reg fun KC J hJ hKC => ?_ | with_reducible refine AWP_regD rfl fun KC J hJ hKC => ?_ | (refine hKC _ _ _ _ _ (callN [] hsp rfl rfl rfl (by simp) (fun _ h => by cases h) rfl rfl rfl leF_nil ?_)) | (refine hKC _ _ _ _ _ (callV0 (h1) rfl rfl rfl ?_ ?_); (· exact Lq))); simp (maxSteps := 9999999) only [push_cast, seval, ↓reduceIte, hc1, undef, backOf, callSets, renSlot, pick, mOf, idx, ren, ren2, ren1, ren0]) | ((first | with_reducible refine hJ _ _ ?_ | (with_reducible refine hJ _ _ ?_ ?_; · kernel_rfl)); clear hJ hKC KC J) | ((with_reducible refine AWP_condT ?_ ?_); · rfl) | ((with_reducible refine AWP_condF ?_ ?_); · rfl)
      refine ret_plain ?_
      simp (maxSteps := 9999999) only [push_cast, seval, ↓reduceIte, show Tryz.f270.results = #[(.tmp 4)] from rfl]
      first | exact Lq | (simp only [Bool.true_and, Bool.and_true, Bool.and_false]; exact Lq)
  rw [if_neg e10]
  have e8' : (o == 8) = false := by simpa using e8
  have e9' : (o == 9) = false := by simpa using e9
  have e10' : (o == 10) = false := by simpa using e10
  obtain ⟨d1, hd1⟩ : ∃ b, (v != 0) = b := ⟨_, rfl⟩
  have hv0 : decide (v = 0) = !d1 := by rw [← hd1, Bool.eq_iff_iff]; simp
  rw [hv0]
  cases d1
  all_goals
    refine Fn.of (fn := Tryz.f270) (by kernel_rfl) rfl (by kernel_rfl) ⟨[.v (.int .i64 n), .agg [.v (.int .i64 o), .v (.int .i64 v), .v (.int .i64 l)], .v undef, .v undef, .v undef, .v undef, .v undef, .v undef, .v undef, .v undef, .v undef, .v undef, .v undef, .v undef, .v undef, .v undef, .v undef, .v undef, .v undef, .v undef, .v undef, .v undef, .v undef, .v undef, .v undef, .v undef, .v undef, .v undef, .v undef, .v undef, .v undef, .v undef, .v undef, .v undef, .v undef, .v undef, .v undef, .v undef, .v undef, .v undef, .v undef, .v undef, .v undef, .v undef, .v undef, .v undef, .v undef, .v undef, .v undef, .v undef, .v undef, .v undef, .v undef, .v undef], []⟩ rfl ?_
    repeat' first | (with_reducible first | refine AWP_seq' ?_ | refine k_normal ?_ | refine k_ret ?_ | refine AWP_ret ?_ | refine AWP_skip ?_) | ((first | with_reducible refine AWP_reg fun KC J hJ hKC => ?_ | with_reducible refine AWP_regD rfl fun KC J hJ hKC => ?_ | (refine hKC _ _ _ _ _ (callN [] hsp rfl rfl rfl (by simp) (fun _ h => by cases h) rfl rfl rfl leF_nil ?_))); simp (maxSteps := 9999999) only [push_cast, seval, ↓reduceIte, ha1, ha2, e1', e8', e9', e10', hc1, hd1, undef, backOf, callSets, renSlot, pick, mOf, idx, ren, ren2, ren1, ren0]) | ((first | with_reducible refine hJ _ _ ?_ | (with_reducible refine hJ _ _ ?_ ?_; · kernel_rfl)); clear hJ hKC KC J) | ((with_reducible refine AWP_condT ?_ ?_); · rfl) | ((with_reducible refine AWP_condF ?_ ?_); · rfl)
    refine ret_plain ?_
    simp (maxSteps := 9999999) only [push_cast, seval, ↓reduceIte, show Tryz.f270.results = #[(.tmp 4)] from rfl]
    first | exact Lq | (simp only [Bool.true_and, Bool.and_true, Bool.and_false, Bool.not_false, Bool.not_true]; exact Lq)
end Go.Proofs.YtabliglgeiajlaaGreat.AM

namespace Go.Proofs.YtabliglgeiajlaaGreat.AM
open Go Go.RowKit Go.Proofs
set_option maxRecDepth 100000
set_option maxHeartbeats 1000000
end Go.Proofs.YtabliglgeiajlaaGreat.AM

namespace Go.Proofs.YtabliglgeiajlaaGreat.AM
open Go Go.RowKit Go.Proofs
set_option maxRecDepth 100000
set_option maxHeartbeats 1000000
end Go.Proofs.YtabliglgeiajlaaGreat.AM

namespace Go.Proofs.YtabliglgeiajlaaGreat.AM
open Go Go.RowKit Go.Proofs
section
variable {P : Program} {ro : Option Nat} {st : St} {K : Exit → St → Prop} {c c2 : Code}
theorem holdB (id : Nat) (h : Hold (AWP P ro (.block id c) st K)) : AWP P ro (.block id c) st K := by unfold Hold at h; exact h
theorem AWP_cutW (n : Nat) (t : St) (h0 : ∃ (p : List Slot) (k : Nat), st.σ = p ++ List.replicate k .free ∧ p.length = n) (h1 : AWP P ro c st (fun e s => (e = .normal ∧ Weak n s t) ∨ (e ≠ .normal ∧ K e s))) (h2 : AWP P ro c2 t K) : Hold (AWP P ro c st (thenK (fun s => AWP P ro c2 s K) K)) := by
  unfold Hold
  intro B a w hr Q hQ
  obtain ⟨p, k, hp, hl⟩ := h0
  have hr0 : Rel B ⟨st.fr, p ++ List.replicate k .free⟩ a w := by rw [← hp]; exact hr
  have hlt := hr0.unroom.used_lt
  simp only [hl] at hlt
  refine h1 B a w hr Q (fun e s a' w' hK hr' => ?_)
  rcases hK with ⟨rfl, hw⟩ | ⟨hne, hK⟩
  · exact hQ .normal t a' w' h2 (hr'.weak hw hlt)
  · cases e with
    | normal => exact absurd rfl hne
    | exit id => exact hQ _ _ _ _ hK hr'
    | goto l => exact hQ _ _ _ _ hK hr'
    | ret => exact hQ _ _ _ _ hK hr'
    | panic c => exact hQ _ _ _ _ hK hr'
    | outgrown => exact hQ _ _ _ _ hK hr'
end
def Rle (a b : D) : Prop := ∀ w fz tb U u, Rep w fz tb U a u → Rep w fz tb U b u
theorem Rle.refl (a : D) : Rle a a := fun _ _ _ _ _ h => h
theorem Rle.full (sz : Nat) (xs : List (List D)) : Rle (.sl true sz xs) (.sl false sz xs) := fun w fz tb U u h => by
  refine .fro _ _ ?_
  have h1 := h.sl_inv
  generalize hx : D.sl true sz xs = d at h1
  cases h1 with
  | sl0 full sz' A cap h0 => cases hx; exact .sl0 false _ A cap (fun h => by cases h)
  | sl full sz' xs' b o cap n g hn h0 hc hf hb hw hcell hr => cases hx; exact .sl false _ _ b o cap n g hn h0 hc (fun h => by cases h) hb hw hcell hr
  | any x => cases hx
  | v x => cases hx
  | agg ds cs h hr => cases hx
  | tup ds cs h hr => cases hx
  | fn f caps cs h hr => cases hx
  | bnd f caps cs h hr => cases hx
  | fad ds b o g hb hc hr => cases hx
inductive RleF : List D → List D → Prop
  | nil : RleF [] []
  | cons {a b : D} {l m : List D} (h : Rle a b) (hs : RleF l m) : RleF (a :: l) (b :: m)
theorem RleF.get {l m : List D} (h : RleF l m) : l.length = m.length ∧ ∀ (j : Nat) (a b : D), l[j]? = some a → m[j]? = some b → Rle a b := by
  induction h with
  | nil => exact ⟨rfl, fun j a b h => by simp at h⟩
  | cons h hs ih =>
    refine ⟨by simp [ih.1], fun j a b ha hb => ?_⟩
    cases j with
    | zero => simp at ha hb; subst ha; subst hb; exact h
    | succ j => simp at ha hb; exact ih.2 j a b ha hb
theorem RleF.refl : ∀ l, RleF l l
  | [] => .nil
  | a :: l => .cons (.refl a) (RleF.refl l)
theorem Rle.agg {ds es : List D} (h : RleF ds es) : Rle (.agg ds) (.agg es) := fun w fz tb U u hu => by
  obtain ⟨cs, rfl, hl, hr⟩ := hu.agg_inv
  obtain ⟨h1, h2⟩ := h.get
  refine .agg es cs (by omega) (fun j d v hd hv => ?_)
  have hj : j < ds.length := by rw [h1]; exact (List.getElem?_eq_some_iff.1 hd).1
  exact h2 j ds[j] d (List.getElem?_eq_getElem hj) hd _ _ _ _ _ (hr j ds[j] v (List.getElem?_eq_getElem hj) hv)
theorem Fn.pre {P : Program} {f : Nat} {args args' : List D} {ext : List Slot} {res : D} {out : List Slot} (h : Fn P f args' ext res out) (hle : RleF args args') : Fn P f args ext res out where
  enter := h.enter
  spec := fun N0 ρ w vs hp hs hr => h.spec N0 ρ w vs hp (by rw [hs]; exact hle.get.1) (fun j d u hd hu => by
    have hj : j < args.length := by rw [hle.get.1]; exact (List.getElem?_eq_some_iff.1 hd).1
    exact hle.get.2 j args[j] d (List.getElem?_eq_getElem hj) hd _ _ _ _ _ (hr j args[j] u (List.getElem?_eq_getElem hj) hu))
end Go.Proofs.YtabliglgeiajlaaGreat.AM

namespace Go.Proofs.YtabliglgeiajlaaGreat.AM
open Go Go.RowKit Go.Proofs
set_option maxRecDepth 100000
set_option maxHeartbeats 2000000
theorem indexFuncT_fn (f : Bool) (xs : List (Int × Int × Int)) (cf : Nat) (caps : List D) (p : Int × Int × Int → Bool) (hb : xs.length ≤ 1000) (hc : frz0All caps = true)
    (hp : ∀ x ∈ xs, Fn Tryz.prog cf (.agg [.v (.int .i64 x.1), .v (.int .i64 x.2.1), .v (.int .i64 x.2.2)] :: caps) [] (.v (.bool (p x))) []) : Fn Tryz.prog 196 [.sl f 3 (tRow xs), .fn cf caps] [] (.v (.int .i64 (idxF p xs))) [] := by
  refine Fn.of (fn := Tryz.f196) (by kernel_rfl) rfl (by kernel_rfl) ⟨[.sl f 3 (tRow xs), .fn cf caps, .v undef, .v undef, .v undef, .v undef, .v undef, .v undef, .v undef, .v undef, .v undef, .v undef, .v undef, .v undef, .v undef, .v undef, .v undef, .v undef, .v undef], []⟩ rfl ?_
  repeat' first | (with_reducible first | refine AWP_seq' ?_ | refine k_normal ?_ | refine AWP_block ?_) | ((with_reducible refine AWP_reg fun KC J hJ hKC => ?_); simp (maxSteps := 9999999) only [push_cast, seval, ↓reduceIte]) | ((with_reducible refine hJ _ _ ?_); clear hJ hKC KC J)
  refine AWP_loopF (γ := {i : Nat // i ≤ xs.length ∧ ∀ (j : Nat) (hj : j < xs.length), j < i → p xs[j] = false}) (fun i => ⟨[.sl f 3 (tRow xs), .fn cf caps, .any, .any, .any, .any, .any, .v (.int .i64 xs.length), .v (.int .i64 i.1), .any, .any, .any, .any, .any, .any, .any, .any, .any, .any], []⟩) (fun i => xs.length - i.1) ⟨0, by simp⟩ ⟨?_, Fq⟩ ?_
  · exact Lq
  · rintro ⟨i, hi, hn⟩
    by_cases hlt : (i : Int) < (xs.length : Int)
    · have hx : xs[i]? = some xs[i] := List.getElem?_eq_getElem (by omega)
      have hfn := hp xs[i] (List.getElem_mem (by omega))
      repeat' first | (with_reducible first | refine AWP_seq' ?_ | refine k_normal ?_ | refine k_ret ?_ | refine b_normal ?_ | refine b_ret ?_ | refine AWP_ret ?_ | refine AWP_skip ?_ | refine AWP_block ?_) | ((with_reducible refine And.intro ?_ ?_); · exact Sq) | ((first | with_reducible refine AWP_reg fun KC J hJ hKC => ?_ | (refine hKC _ _ _ _ _ (callV0 (hfn) rfl rfl rfl ?_ ?_); (· exact Lq))); simp (maxSteps := 9999999) only [push_cast, seval, ↓reduceIte, hlt, getE_t hx, wrapN (i := i) (n := xs.length) (by omega) (by omega)]) | ((with_reducible refine hJ _ _ ?_); clear hJ hKC KC J) | ((with_reducible refine AWP_condT ?_ ?_); · rfl) | (refine AWP_cond rfl (fun h => ?_) (fun h => ?_) <;> try simp only [decide_eq_true_eq, decide_eq_false_iff_not, Bool.not_eq_true', Bool.not_eq_false', beq_iff_eq, bne_iff_ne, ne_eq, Bool.not_eq_true, Bool.or_eq_true, Bool.and_eq_true, Bool.or_eq_false_iff, Bool.and_eq_false_imp, beq_eq_false_iff_ne, bne_eq_false_iff_eq] at h)
      · refine ret_plain ?_
        simp (maxSteps := 9999999) only [push_cast, seval, ↓reduceIte, show Tryz.f196.results = #[(.tmp 4)] from rfl]
        exact leD_v (by rw [idxF_at (by omega) h hn])
      · refine ⟨⟨i + 1, by omega, fun j hj hji => ?_⟩, by simp only; omega, ?_, Fq⟩
        · by_cases he : j = i
          · subst he; exact h
          · exact hn j hj (by omega)
        · exact Lq
    · skip
      repeat' first | (with_reducible first | refine AWP_seq' ?_ | refine k_normal ?_ | refine k_exit ?_ | refine b_exit ?_ | refine AWP_ret ?_ | refine AWP_exit ?_) | ((with_reducible refine AWP_reg fun KC J hJ hKC => ?_); simp (maxSteps := 9999999) only [push_cast, seval, ↓reduceIte, hlt]) | ((with_reducible refine hJ _ _ ?_); clear hJ hKC KC J) | ((with_reducible refine AWP_condF ?_ ?_); · rfl)
      refine ret_plain ?_
      simp (maxSteps := 9999999) only [push_cast, seval, ↓reduceIte, show Tryz.f196.results = #[(.tmp 4)] from rfl]
      exact leD_v (by rw [idxF_none (fun j hj => hn j hj (by omega))])
theorem containsFuncT_fn (f : Bool) (xs : List (Int × Int × Int)) (cf : Nat) (caps : List D) (p : Int × Int × Int → Bool) (hb : xs.length ≤ 1000) (hc : frz0All caps = true)
    (hp : ∀ x ∈ xs, Fn Tryz.prog cf (.agg [.v (.int .i64 x.1), .v (.int .i64 x.2.1), .v (.int .i64 x.2.2)] :: caps) [] (.v (.bool (p x))) []) : Fn Tryz.prog 97 [.sl f 3 (tRow xs), .fn cf caps] [] (.v (.bool (xs.any p))) [] := by
  have hfn := indexFuncT_fn f xs cf caps p hb hc hp
  refine Fn.of (fn := Tryz.f97) (by kernel_rfl) rfl (by kernel_rfl) ⟨[.sl f 3 (tRow xs), .fn cf caps, .v undef, .v undef, .v undef, .v undef, .v undef, .v undef, .v undef], []⟩ rfl ?_
  repeat' first | (with_reducible first | refine AWP_seq' ?_ | refine k_normal ?_ | refine AWP_ret ?_) | ((first | with_reducible refine AWP_reg fun KC J hJ hKC => ?_ | (refine hKC _ _ _ _ _ (callV0 (hfn) rfl rfl rfl ?_ ?_); (· exact Lq))); simp (maxSteps := 9999999) only [push_cast, seval, ↓reduceIte, idxF_any]) | ((with_reducible refine hJ _ _ ?_); clear hJ hKC KC J)
  refine ret_plain ?_
  simp (maxSteps := 9999999) only [push_cast, seval, ↓reduceIte, show Tryz.f97.results = #[(.tmp 4)] from rfl]
  exact leD_refl _
theorem indexFuncA_fn (f : Bool) (xs : List (Int × Int)) (cf : Nat) (caps : List D) (p : Int × Int → Bool) (hb : xs.length ≤ 1000) (hc : frz0All caps = true)
    (hp : ∀ x ∈ xs, Fn Tryz.prog cf (.agg [.v (.int .i64 x.1), .v (.int .i64 x.2)] :: caps) [] (.v (.bool (p x))) []) : Fn Tryz.prog 197 [.sl f 2 (pRow xs), .fn cf caps] [] (.v (.int .i64 (idxF p xs))) [] := by
  refine Fn.of (fn := Tryz.f197) (by kernel_rfl) rfl (by kernel_rfl) ⟨[.sl f 2 (pRow xs), .fn cf caps, .v undef, .v undef, .v undef, .v undef, .v undef, .v undef, .v undef, .v undef, .v undef, .v undef, .v undef, .v undef, .v undef, .v undef, .v undef, .v undef, .v undef], []⟩ rfl ?_
  repeat' first | (with_reducible first | refine AWP_seq' ?_ | refine k_normal ?_ | refine AWP_block ?_) | ((with_reducible refine AWP_reg fun KC J hJ hKC => ?_); simp (maxSteps := 9999999) only [push_cast, seval, ↓reduceIte]) | ((with_reducible refine hJ _ _ ?_); clear hJ hKC KC J)
  refine AWP_loopF (γ := {i : Nat // i ≤ xs.length ∧ ∀ (j : Nat) (hj : j < xs.length), j < i → p xs[j] = false}) (fun i => ⟨[.sl f 2 (pRow xs), .fn cf caps, .any, .any, .any, .any, .any, .v (.int .i64 xs.length), .v (.int .i64 i.1), .any, .any, .any, .any, .any, .any, .any, .any, .any, .any], []⟩) (fun i => xs.length - i.1) ⟨0, by simp⟩ ⟨?_, Fq⟩ ?_
  · exact Lq
  · rintro ⟨i, hi, hn⟩
    by_cases hlt : (i : Int) < (xs.length : Int)
    · have hx : xs[i]? = some xs[i] := List.getElem?_eq_getElem (by omega)
      have hfn := hp xs[i] (List.getElem_mem (by omega))
      repeat' first | (with_reducible first | refine AWP_seq' ?_ | refine k_normal ?_ | refine k_ret ?_ | refine b_normal ?_ | refine b_ret ?_ | refine AWP_ret ?_ | refine AWP_skip ?_ | refine AWP_block ?_) | ((with_reducible refine And.intro ?_ ?_); · exact Sq) | ((first | with_reducible refine AWP_reg fun KC J hJ hKC => ?_ | (refine hKC _ _ _ _ _ (callV0 (hfn) rfl rfl rfl ?_ ?_); (· exact Lq))); simp (maxSteps := 9999999) only [push_cast, seval, ↓reduceIte, hlt, getE_p hx, wrapN (i := i) (n := xs.length) (by omega) (by omega)]) | ((with_reducible refine hJ _ _ ?_); clear hJ hKC KC J) | ((with_reducible refine AWP_condT ?_ ?_); · rfl) | (refine AWP_cond rfl (fun h => ?_) (fun h => ?_) <;> try simp only [decide_eq_true_eq, decide_eq_false_iff_not, Bool.not_eq_true', Bool.not_eq_false', beq_iff_eq, bne_iff_ne, ne_eq, Bool.not_eq_true, Bool.or_eq_true, Bool.and_eq_true, Bool.or_eq_false_iff, Bool.and_eq_false_imp, beq_eq_false_iff_ne, bne_eq_false_iff_eq] at h)
      · refine ret_plain ?_
        simp (maxSteps := 9999999) only [push_cast, seval, ↓reduceIte, show Tryz.f197.results = #[(.tmp 4)] from rfl]
        exact leD_v (by rw [idxF_at (by omega) h hn])
      · refine ⟨⟨i + 1, by omega, fun j hj hji => ?_⟩, by simp only; omega, ?_, Fq⟩
        · by_cases he : j = i
          · subst he; exact h
          · exact hn j hj (by omega)
        · exact Lq
    · skip
      repeat' first | (with_reducible first | refine AWP_seq' ?_ | refine k_normal ?_ | refine k_exit ?_ | refine b_exit ?_ | refine AWP_ret ?_ | refine AWP_exit ?_) | ((with_reducible refine AWP_reg fun KC J hJ hKC => ?_); simp (maxSteps := 9999999) only [push_cast, seval, ↓reduceIte, hlt]) | ((with_reducible refine hJ _ _ ?_); clear hJ hKC KC J) | ((with_reducible refine AWP_condF ?_ ?_); · rfl)
      refine ret_plain ?_
      simp (maxSteps := 9999999) only [push_cast, seval, ↓reduceIte, show Tryz.f197.results = #[(.tmp 4)] from rfl]
      exact leD_v (by rw [idxF_none (fun j hj => hn j hj (by omega))])
theorem containsFuncA_fn (f : Bool) (xs : List (Int × Int)) (cf : Nat) (caps : List D) (p : Int × Int → Bool) (hb : xs.length ≤ 1000) (hc : frz0All caps = true)
    (hp : ∀ x ∈ xs, Fn Tryz.prog cf (.agg [.v (.int .i64 x.1), .v (.int .i64 x.2)] :: caps) [] (.v (.bool (p x))) []) : Fn Tryz.prog 98 [.sl f 2 (pRow xs), .fn cf caps] [] (.v (.bool (xs.any p))) [] := by
  have hfn := indexFuncA_fn f xs cf caps p hb hc hp
  refine Fn.of (fn := Tryz.f98) (by kernel_rfl) rfl (by kernel_rfl) ⟨[.sl f 2 (pRow xs), .fn cf caps, .v undef, .v undef, .v undef, .v undef, .v undef, .v undef, .v undef], []⟩ rfl ?_
  repeat' first | (with_reducible first | refine AWP_seq' ?_ | refine k_normal ?_ | refine AWP_ret ?_) | ((first | with_reducible refine AWP_reg fun KC J hJ hKC => ?_ | (refine hKC _ _ _ _ _ (callV0 (hfn) rfl rfl rfl ?_ ?_); (· exact Lq))); simp (maxSteps := 9999999) only [push_cast, seval, ↓reduceIte, idxF_any]) | ((with_reducible refine hJ _ _ ?_); clear hJ hKC KC J)
  refine ret_plain ?_
  simp (maxSteps := 9999999) only [push_cast, seval, ↓reduceIte, show Tryz.f98.results = #[(.tmp 4)] from rfl]
  exact leD_refl _
theorem indexFuncS_fn (f : Bool) (xs : List (Bool × Int × Int)) (cf : Nat) (caps : List D) (p : Bool × Int × Int → Bool) (hb : xs.length ≤ 1000) (hc : frz0All caps = true)
    (hp : ∀ x ∈ xs, Fn Tryz.prog cf (.agg [.v (.bool x.1), .v (.int .i64 x.2.1), .v (.int .i64 x.2.2)] :: caps) [] (.v (.bool (p x))) []) : Fn Tryz.prog 198 [.sl f 3 (sRow xs), .fn cf caps] [] (.v (.int .i64 (idxF p xs))) [] := by
  refine Fn.of (fn := Tryz.f198) (by kernel_rfl) rfl (by kernel_rfl) ⟨[.sl f 3 (sRow xs), .fn cf caps, .v undef, .v undef, .v undef, .v undef, .v undef, .v undef, .v undef, .v undef, .v undef, .v undef, .v undef, .v undef, .v undef, .v undef, .v undef, .v undef, .v undef], []⟩ rfl ?_
  repeat' first | (with_reducible first | refine AWP_seq' ?_ | refine k_normal ?_ | refine AWP_block ?_) | ((with_reducible refine AWP_reg fun KC J hJ hKC => ?_); simp (maxSteps := 9999999) only [push_cast, seval, ↓reduceIte]) | ((with_reducible refine hJ _ _ ?_); clear hJ hKC KC J)
  refine AWP_loopF (γ := {i : Nat // i ≤ xs.length ∧ ∀ (j : Nat) (hj : j < xs.length), j < i → p xs[j] = false}) (fun i => ⟨[.sl f 3 (sRow xs), .fn cf caps, .any, .any, .any, .any, .any, .v (.int .i64 xs.length), .v (.int .i64 i.1), .any, .any, .any, .any, .any, .any, .any, .any, .any, .any], []⟩) (fun i => xs.length - i.1) ⟨0, by simp⟩ ⟨?_, Fq⟩ ?_
  · exact Lq
  · rintro ⟨i, hi, hn⟩
    by_cases hlt : (i : Int) < (xs.length : Int)
    · have hx : xs[i]? = some xs[i] := List.getElem?_eq_getElem (by omega)
      have hfn := hp xs[i] (List.getElem_mem (by omega))
      repeat' first | (with_reducible first | refine AWP_seq' ?_ | refine k_normal ?_ | refine k_ret ?_ | refine b_normal ?_ | refine b_ret ?_ | refine AWP_ret ?_ | refine AWP_skip ?_ | refine AWP_block ?_) | ((with_reducible refine And.intro ?_ ?_); · exact Sq) | ((first | with_reducible refine AWP_reg fun KC J hJ hKC => ?_ | (refine hKC _ _ _ _ _ (callV0 (hfn) rfl rfl rfl ?_ ?_); (· exact Lq))); simp (maxSteps := 9999999) only [push_cast, seval, ↓reduceIte, hlt, getE_s hx, wrapN (i := i) (n := xs.length) (by omega) (by omega)]) | ((with_reducible refine hJ _ _ ?_); clear hJ hKC KC J) | ((with_reducible refine AWP_condT ?_ ?_); · rfl) | (refine AWP_cond rfl (fun h => ?_) (fun h => ?_) <;> try simp only [decide_eq_true_eq, decide_eq_false_iff_not, Bool.not_eq_true', Bool.not_eq_false', beq_iff_eq, bne_iff_ne, ne_eq, Bool.not_eq_true, Bool.or_eq_true, Bool.and_eq_true, Bool.or_eq_false_iff, Bool.and_eq_false_imp, beq_eq_false_iff_ne, bne_eq_false_iff_eq] at h)
      · refine ret_plain ?_
        simp (maxSteps := 9999999) only [push_cast, seval, ↓reduceIte, show Tryz.f198.results = #[(.tmp 4)] from rfl]
        exact leD_v (by rw [idxF_at (by omega) h hn])
      · refine ⟨⟨i + 1, by omega, fun j hj hji => ?_⟩, by simp only; omega, ?_, Fq⟩
        · by_cases he : j = i
          · subst he; exact h
          · exact hn j hj (by omega)
        · exact Lq
    · skip
      repeat' first | (with_reducible first | refine AWP_seq' ?_ | refine k_normal ?_ | refine k_exit ?_ | refine b_exit ?_ | refine AWP_ret ?_ | refine AWP_exit ?_) | ((with_reducible refine AWP_reg fun KC J hJ hKC => ?_); simp (maxSteps := 9999999) only [push_cast, seval, ↓reduceIte, hlt]) | ((with_reducible refine hJ _ _ ?_); clear hJ hKC KC J) | ((with_reducible refine AWP_condF ?_ ?_); · rfl)
      refine ret_plain ?_
      simp (maxSteps := 9999999) only [push_cast, seval, ↓reduceIte, show Tryz.f198.results = #[(.tmp 4)] from rfl]
      exact leD_v (by rw [idxF_none (fun j hj => hn j hj (by omega))])
theorem containsFuncS_fn (f : Bool) (xs : List (Bool × Int × Int)) (cf : Nat) (caps : List D) (p : Bool × Int × Int → Bool) (hb : xs.length ≤ 1000) (hc : frz0All caps = true)
    (hp : ∀ x ∈ xs, Fn Tryz.prog cf (.agg [.v (.bool x.1), .v (.int .i64 x.2.1), .v (.int .i64 x.2.2)] :: caps) [] (.v (.bool (p x))) []) : Fn Tryz.prog 100 [.sl f 3 (sRow xs), .fn cf caps] [] (.v (.bool (xs.any p))) [] := by
  have hfn := indexFuncS_fn f xs cf caps p hb hc hp
  refine Fn.of (fn := Tryz.f100) (by kernel_rfl) rfl (by kernel_rfl) ⟨[.sl f 3 (sRow xs), .fn cf caps, .v undef, .v undef, .v undef, .v undef, .v undef, .v undef, .v undef], []⟩ rfl ?_
  repeat' first | (with_reducible first | refine AWP_seq' ?_ | refine k_normal ?_ | refine AWP_ret ?_) | ((first | with_reducible refine AWP_reg fun KC J hJ hKC => ?_ | (refine hKC _ _ _ _ _ (callV0 (hfn) rfl rfl rfl ?_ ?_); (· exact Lq))); simp (maxSteps := 9999999) only [push_cast, seval, ↓reduceIte, idxF_any]) | ((with_reducible refine hJ _ _ ?_); clear hJ hKC KC J)
  refine ret_plain ?_
  simp (maxSteps := 9999999) only [push_cast, seval, ↓reduceIte, show Tryz.f100.results = #[(.tmp 4)] from rfl]
  exact leD_refl _
theorem any_not {α : Type} (p : α → Bool) (l : List α) : (!l.any fun x => !p x) = l.all p := by rw [List.all_eq_not_any_not]
theorem codeRight1_fn (f g : Bool) (ns : List ByteArray) (us : List Nat) (x : Int × Int × Int) : Fn Tryz.prog 269 [.agg [.v (.int .i64 x.1), .v (.int .i64 x.2.1), .v (.int .i64 x.2.2)], .fad [.sl f 1 (strRow ns), .sl g 1 (u32Row us)]] [] (.v (.bool (!instrB us.length x))) [] := by
  have h1 := codeRight_fn us.length x
  refine Fn.of (fn := Tryz.f269) (by kernel_rfl) rfl (by kernel_rfl) ⟨[.agg [.v (.int .i64 x.1), .v (.int .i64 x.2.1), .v (.int .i64 x.2.2)], .fad [.sl f 1 (strRow ns), .sl g 1 (u32Row us)], .v undef, .v undef, .v undef, .v undef, .v undef, .v undef, .v undef, .v undef], []⟩ rfl ?_
  repeat' first | (with_reducible first | refine AWP_seq' ?_ | refine k_normal ?_ | refine AWP_ret ?_) | ((first | with_reducible refine AWP_reg fun KC J hJ hKC => ?_ | (refine hKC _ _ _ _ _ (callV0 (h1) rfl rfl rfl ?_ ?_); (· exact Lq))); simp (maxSteps := 9999999) only [push_cast, seval, ↓reduceIte]) | ((with_reducible refine hJ _ _ ?_); clear hJ hKC KC J)
  refine ret_plain ?_
  simp (maxSteps := 9999999) only [push_cast, seval, ↓reduceIte, show Tryz.f269.results = #[(.tmp 3)] from rfl]
  exact Lq
theorem apiCode_fn (f g h : Bool) (ns : List ByteArray) (us : List Nat) (c : List (Int × Int × Int)) (hs : Szs ns) (hu : U32 us) (hc : checkF ns us = 0) (hl : c.length ≤ 1000) :
    Fn Tryz.prog 195 [.agg [.sl f 1 (strRow ns), .sl g 1 (u32Row us)], .sl h 3 (tRow c)] [] (.v (.bool (codeB us.length c))) [] := by
  have h1 := latCheck_fn f g ns us hs hu
  have h2 := containsFuncT_fn h c 269 [.fad [.sl f 1 (strRow ns), .sl g 1 (u32Row us)]] (fun x => !instrB us.length x) hl rfl (fun x _ => codeRight1_fn f g ns us x)
  rw [hc] at h1
  rw [codeB, Bool.and_comm, ← any_not]
  obtain ⟨a, ha⟩ : ∃ a, (c.any fun x => !instrB us.length x) = a := ⟨_, rfl⟩
  rw [ha] at h2 ⊢
  obtain ⟨b, hb⟩ : ∃ b, decide (c.length ≤ 12) = b := ⟨_, rfl⟩
  have hb' : decide ((c.length : Int) ≤ 12) = b := by rw [← hb]; exact decide_eq_decide.2 (by omega)
  rw [hb]
  refine Fn.of (fn := Tryz.f195) (by kernel_rfl) rfl (by kernel_rfl) ⟨[.agg [.sl f 1 (strRow ns), .sl g 1 (u32Row us)], .sl h 3 (tRow c), .v undef, .v undef, .v undef, .v undef, .v undef, .v undef, .v undef, .v undef, .v undef, .v undef, .v undef, .v undef, .v undef, .v undef, .v undef, .v undef, .v undef, .v undef, .v undef], []⟩ rfl ?_
  cases b
  all_goals
    repeat' first | (refine AWP_freezeR 1 0 rfl (by (simp (maxSteps := 9999999) only [push_cast, seval, ↓reduceIte]) <;> rfl) ?_; simp (maxSteps := 9999999) only [push_cast, seval, ↓reduceIte, frSt, frSlot, fr3, fr2, fr1, fr0, sameB, arrOf, hb', undef]) | (with_reducible first | refine AWP_seq' ?_ | refine k_normal ?_ | refine AWP_ret ?_) | ((first | with_reducible refine AWP_reg fun KC J hJ hKC => ?_ | (refine hKC _ _ _ _ _ (callV0 (h1) rfl rfl rfl ?_ ?_); (· exact Lq)) | (refine hKC _ _ _ _ _ (callV0 (h2) rfl rfl rfl ?_ ?_); (· exact Lq))); simp (maxSteps := 9999999) only [push_cast, seval, ↓reduceIte, hb', undef]) | ((with_reducible refine hJ _ _ ?_); clear hJ hKC KC J)
    refine ret_plain ?_
    simp (maxSteps := 9999999) only [push_cast, seval, ↓reduceIte, show Tryz.f195.results = #[(.tmp 4)] from rfl]
    exact Lq
theorem stLabel_fn (f g : Bool) (ns : List ByteArray) (us : List Nat) (a : Int) : Fn Tryz.prog 190 [.v (.int .i64 a), .fad [.sl f 1 (strRow ns), .sl g 1 (u32Row us)]] [] (.v (.bool (!oddL us.length a))) [] := by
  obtain ⟨x, hx⟩ : ∃ x, decide (0 ≤ a) = x := ⟨_, rfl⟩
  have ho : (!oddL us.length a) = (x && decide (a < (us.length : Int))) := by
    rw [← hx, Bool.eq_iff_iff]; simp [oddL]
  rw [ho]
  refine Fn.of (fn := Tryz.f190) (by kernel_rfl) rfl (by kernel_rfl) ⟨[.v (.int .i64 a), .fad [.sl f 1 (strRow ns), .sl g 1 (u32Row us)], .v undef, .v undef, .v undef, .v undef, .v undef, .v undef, .v undef, .v undef, .v undef, .v undef, .v undef], []⟩ rfl ?_
  cases x
  all_goals
    repeat' first | (with_reducible first | refine AWP_seq' ?_ | refine k_normal ?_ | refine AWP_ret ?_) | ((with_reducible refine AWP_reg fun KC J hJ hKC => ?_); simp (maxSteps := 9999999) only [push_cast, seval, ↓reduceIte, hx, undef]) | ((with_reducible refine hJ _ _ ?_); clear hJ hKC KC J)
    refine ret_plain ?_
    simp (maxSteps := 9999999) only [push_cast, seval, ↓reduceIte, show Tryz.f190.results = #[(.tmp 3)] from rfl]
    exact Lq
theorem stValue_fn (n : Int) : Fn Tryz.prog 192 [.v (.int .i64 n)] [] (.v (.bool (inB (-20) 20 n))) [] := by
  obtain ⟨x, hx⟩ : ∃ x, decide (-20 ≤ n) = x := ⟨_, rfl⟩
  rw [inB, hx]
  refine Fn.of (fn := Tryz.f192) (by kernel_rfl) rfl (by kernel_rfl) ⟨[.v (.int .i64 n), .v undef, .v undef, .v undef, .v undef, .v undef, .v undef, .v undef, .v undef], []⟩ rfl ?_
  cases x
  all_goals
    repeat' first | (with_reducible first | refine AWP_seq' ?_ | refine k_normal ?_ | refine AWP_ret ?_) | ((with_reducible refine AWP_reg fun KC J hJ hKC => ?_); simp (maxSteps := 9999999) only [push_cast, seval, ↓reduceIte, hx, undef]) | ((with_reducible refine hJ _ _ ?_); clear hJ hKC KC J)
    refine ret_plain ?_
    simp (maxSteps := 9999999) only [push_cast, seval, ↓reduceIte, show Tryz.f192.results = #[(.tmp 2)] from rfl]
    exact Lq
theorem stPlace_fn (n : Int) : Fn Tryz.prog 194 [.v (.int .i64 n)] [] (.v (.bool (inB (0) 12 n))) [] := by
  obtain ⟨x, hx⟩ : ∃ x, decide (0 ≤ n) = x := ⟨_, rfl⟩
  rw [inB, hx]
  refine Fn.of (fn := Tryz.f194) (by kernel_rfl) rfl (by kernel_rfl) ⟨[.v (.int .i64 n), .v undef, .v undef, .v undef, .v undef, .v undef, .v undef, .v undef, .v undef], []⟩ rfl ?_
  cases x
  all_goals
    repeat' first | (with_reducible first | refine AWP_seq' ?_ | refine k_normal ?_ | refine AWP_ret ?_) | ((with_reducible refine AWP_reg fun KC J hJ hKC => ?_); simp (maxSteps := 9999999) only [push_cast, seval, ↓reduceIte, hx, undef]) | ((with_reducible refine hJ _ _ ?_); clear hJ hKC KC J)
    refine ret_plain ?_
    simp (maxSteps := 9999999) only [push_cast, seval, ↓reduceIte, show Tryz.f194.results = #[(.tmp 2)] from rfl]
    exact Lq
theorem stAtom_fn (f g : Bool) (ns : List ByteArray) (us : List Nat) (x : Int × Int) : Fn Tryz.prog 191 [.agg [.v (.int .i64 x.1), .v (.int .i64 x.2)], .fad [.fn 190 [.fad [.sl f 1 (strRow ns), .sl g 1 (u32Row us)]]]] [] (.v (.bool (!atomB us.length x))) [] := by
  have h1 := stValue_fn x.1
  have h2 := stLabel_fn f g ns us x.2
  unfold atomB
  obtain ⟨a, ha⟩ : ∃ a, inB (-20) 20 x.1 = a := ⟨_, rfl⟩
  obtain ⟨b, hb⟩ : ∃ b, (!oddL us.length x.2) = b := ⟨_, rfl⟩
  rw [ha] at h1 ⊢
  rw [hb] at h2 ⊢
  refine Fn.of (fn := Tryz.f191) (by kernel_rfl) rfl (by kernel_rfl) ⟨[.agg [.v (.int .i64 x.1), .v (.int .i64 x.2)], .fad [.fn 190 [.fad [.sl f 1 (strRow ns), .sl g 1 (u32Row us)]]], .v undef, .v undef, .v undef, .v undef, .v undef, .v undef, .v undef, .v undef, .v undef, .v undef, .v undef, .v undef, .v undef], []⟩ rfl ?_
  cases a
  all_goals
    repeat' first | (with_reducible first | refine AWP_seq' ?_ | refine k_normal ?_ | refine AWP_ret ?_) | ((first | with_reducible refine AWP_reg fun KC J hJ hKC => ?_ | (refine hKC _ _ _ _ _ (callV0 (h1) rfl rfl rfl ?_ ?_); (· exact Lq)) | (refine hKC _ _ _ _ _ (callV0 (h2) rfl rfl rfl ?_ ?_); (· exact Lq))); simp (maxSteps := 9999999) only [push_cast, seval, ↓reduceIte, undef]) | ((with_reducible refine hJ _ _ ?_); clear hJ hKC KC J)
    refine ret_plain ?_
    simp (maxSteps := 9999999) only [push_cast, seval, ↓reduceIte, show Tryz.f191.results = #[(.tmp 3)] from rfl]
    exact Lq
theorem stSlot_fn (f g : Bool) (ns : List ByteArray) (us : List Nat) (x : Bool × Int × Int) : Fn Tryz.prog 193 [.agg [.v (.bool x.1), .v (.int .i64 x.2.1), .v (.int .i64 x.2.2)], .fad [.fn 190 [.fad [.sl f 1 (strRow ns), .sl g 1 (u32Row us)]]]] [] (.v (.bool (!slotB us.length x))) [] := by
  obtain ⟨r, v, l⟩ := x
  have h1 := stValue_fn v
  have h3 := stPlace_fn v
  have h2 := stLabel_fn f g ns us l
  simp only [slotB]
  obtain ⟨a, ha⟩ : ∃ a, inB (-20) 20 v = a := ⟨_, rfl⟩
  obtain ⟨c, hc⟩ : ∃ c, inB 0 12 v = c := ⟨_, rfl⟩
  obtain ⟨b, hb⟩ : ∃ b, (!oddL us.length l) = b := ⟨_, rfl⟩
  rw [ha] at h1 ⊢
  rw [hc] at h3 ⊢
  rw [hb] at h2 ⊢
  cases b
  case false =>
    refine Fn.of (fn := Tryz.f193) (by kernel_rfl) rfl (by kernel_rfl) ⟨[.agg [.v (.bool r), .v (.int .i64 v), .v (.int .i64 l)], .fad [.fn 190 [.fad [.sl f 1 (strRow ns), .sl g 1 (u32Row us)]]], .v undef, .v undef, .v undef, .v undef, .v undef, .v undef, .v undef, .v undef, .v undef, .v undef, .v undef, .v undef, .v undef, .v undef, .v undef, .v undef, .v undef, .v undef, .v undef, .v undef, .v undef, .v undef, .v undef, .v undef, .v undef, .v undef, .v undef, .v undef], []⟩ rfl ?_
    repeat' first | (with_reducible first | refine AWP_seq' ?_ | refine k_normal ?_ | refine AWP_ret ?_) | ((first | with_reducible refine AWP_reg fun KC J hJ hKC => ?_ | (refine hKC _ _ _ _ _ (callV0 (h2) rfl rfl rfl ?_ ?_); (· exact Lq))); simp (maxSteps := 9999999) only [push_cast, seval, ↓reduceIte, undef]) | ((with_reducible refine hJ _ _ ?_); clear hJ hKC KC J)
    refine ret_plain ?_
    simp (maxSteps := 9999999) only [push_cast, seval, ↓reduceIte, show Tryz.f193.results = #[(.tmp 3)] from rfl]
    exact Lq
  cases r
  case false =>
    cases a
    all_goals
      refine Fn.of (fn := Tryz.f193) (by kernel_rfl) rfl (by kernel_rfl) ⟨[.agg [.v (.bool false), .v (.int .i64 v), .v (.int .i64 l)], .fad [.fn 190 [.fad [.sl f 1 (strRow ns), .sl g 1 (u32Row us)]]], .v undef, .v undef, .v undef, .v undef, .v undef, .v undef, .v undef, .v undef, .v undef, .v undef, .v undef, .v undef, .v undef, .v undef, .v undef, .v undef, .v undef, .v undef, .v undef, .v undef, .v undef, .v undef, .v undef, .v undef, .v undef, .v undef, .v undef, .v undef], []⟩ rfl ?_
      repeat' first | (with_reducible first | refine AWP_seq' ?_ | refine k_normal ?_ | refine AWP_ret ?_) | ((first | with_reducible refine AWP_reg fun KC J hJ hKC => ?_ | (refine hKC _ _ _ _ _ (callV0 (h1) rfl rfl rfl ?_ ?_); (· exact Lq)) | (refine hKC _ _ _ _ _ (callV0 (h2) rfl rfl rfl ?_ ?_); (· exact Lq))); simp (maxSteps := 9999999) only [push_cast, seval, ↓reduceIte, undef]) | ((with_reducible refine hJ _ _ ?_); clear hJ hKC KC J)
      refine ret_plain ?_
      simp (maxSteps := 9999999) only [push_cast, seval, ↓reduceIte, show Tryz.f193.results = #[(.tmp 3)] from rfl]
      exact Lq
  cases c
  all_goals
    refine Fn.of (fn := Tryz.f193) (by kernel_rfl) rfl (by kernel_rfl) ⟨[.agg [.v (.bool true), .v (.int .i64 v), .v (.int .i64 l)], .fad [.fn 190 [.fad [.sl f 1 (strRow ns), .sl g 1 (u32Row us)]]], .v undef, .v undef, .v undef, .v undef, .v undef, .v undef, .v undef, .v undef, .v undef, .v undef, .v undef, .v undef, .v undef, .v undef, .v undef, .v undef, .v undef, .v undef, .v undef, .v undef, .v undef, .v undef, .v undef, .v undef, .v undef, .v undef, .v undef, .v undef], []⟩ rfl ?_
    repeat' first | (with_reducible first | refine AWP_seq' ?_ | refine k_normal ?_ | refine AWP_ret ?_) | ((first | with_reducible refine AWP_reg fun KC J hJ hKC => ?_ | (refine hKC _ _ _ _ _ (callV0 (h2) rfl rfl rfl ?_ ?_); (· exact Lq)) | (refine hKC _ _ _ _ _ (callV0 (h3) rfl rfl rfl ?_ ?_); (· exact Lq))); simp (maxSteps := 9999999) only [push_cast, seval, ↓reduceIte, undef]) | ((with_reducible refine hJ _ _ ?_); clear hJ hKC KC J)
    refine ret_plain ?_
    simp (maxSteps := 9999999) only [push_cast, seval, ↓reduceIte, show Tryz.f193.results = #[(.tmp 3)] from rfl]
    exact Lq
theorem staB_eq (n : Nat) (s : Sta) : staB n s = (codeB n s.code && (inB 0 12 s.v && (!oddL n s.l && ((decide (s.mem.length ≤ 6) && (decide (s.stack.length ≤ 12) && decide (s.out.length ≤ 8))) && (s.mem.all (atomB n) && (s.stack.all (slotB n) && s.out.all (atomB n))))))) := by
  unfold staB
  cases codeB n s.code <;> cases inB 0 12 s.v <;> cases oddL n s.l <;> cases s.mem.all (atomB n) <;> cases decide (s.mem.length ≤ 6) <;> cases s.stack.all (slotB n) <;> cases decide (s.stack.length ≤ 12) <;> cases s.out.all (atomB n) <;> cases decide (s.out.length ≤ 8) <;> rfl
set_option maxHeartbeats 8000000 in
theorem stRight_fn (f g : Bool) (ns : List ByteArray) (us : List Nat) (s : Sta) (hs : Szs ns) (hu : U32 us) (hc : checkF ns us = 0) (hl : Sml s) :
    Fn Tryz.prog 96 [.agg [.sl f 1 (strRow ns), .sl g 1 (u32Row us)], .agg (staF false false false false s)] [] (.v (.bool (staB us.length s))) [] := by
  obtain ⟨l1, l2, l3, l4⟩ := hl
  have h1 := apiCode_fn f g false ns us s.code hs hu hc l1
  have h2 := stPlace_fn s.v
  have h3 := stLabel_fn f g ns us s.l
  have h4 := containsFuncA_fn false s.mem 191 [.fad [.fn 190 [.fad [.sl f 1 (strRow ns), .sl g 1 (u32Row us)]]]] (fun x => !atomB us.length x) l2 rfl (fun x _ => stAtom_fn f g ns us x)
  have h5 := containsFuncS_fn false s.stack 193 [.fad [.fn 190 [.fad [.sl f 1 (strRow ns), .sl g 1 (u32Row us)]]]] (fun x => !slotB us.length x) l3 rfl (fun x _ => stSlot_fn f g ns us x)
  have h6 := containsFuncA_fn false s.out 191 [.fad [.fn 190 [.fad [.sl f 1 (strRow ns), .sl g 1 (u32Row us)]]]] (fun x => !atomB us.length x) l4 rfl (fun x _ => stAtom_fn f g ns us x)
  rw [staB_eq, ← any_not, ← any_not, ← any_not]
  obtain ⟨c1, hc1⟩ : ∃ x, codeB us.length s.code = x := ⟨_, rfl⟩
  obtain ⟨c2, hc2⟩ : ∃ x, inB 0 12 s.v = x := ⟨_, rfl⟩
  obtain ⟨c3, hc3⟩ : ∃ x, (!oddL us.length s.l) = x := ⟨_, rfl⟩
  obtain ⟨d1, hd1⟩ : ∃ x, decide (s.mem.length ≤ 6) = x := ⟨_, rfl⟩
  obtain ⟨d2, hd2⟩ : ∃ x, decide (s.stack.length ≤ 12) = x := ⟨_, rfl⟩
  obtain ⟨d3, hd3⟩ : ∃ x, decide (s.out.length ≤ 8) = x := ⟨_, rfl⟩
  obtain ⟨c5, hc5⟩ : ∃ x, (s.mem.any fun x => !atomB us.length x) = x := ⟨_, rfl⟩
  obtain ⟨c6, hc6⟩ : ∃ x, (s.stack.any fun x => !slotB us.length x) = x := ⟨_, rfl⟩
  obtain ⟨c7, hc7⟩ : ∃ x, (s.out.any fun x => !atomB us.length x) = x := ⟨_, rfl⟩
  have hd1' : decide ((s.mem.length : Int) ≤ 6) = d1 := by rw [← hd1]; exact decide_eq_decide.2 (by omega)
  have hd2' : decide ((s.stack.length : Int) ≤ 12) = d2 := by rw [← hd2]; exact decide_eq_decide.2 (by omega)
  have hd3' : decide ((s.out.length : Int) ≤ 8) = d3 := by rw [← hd3]; exact decide_eq_decide.2 (by omega)
  rw [hc1] at h1 ⊢
  rw [hc2] at h2 ⊢
  rw [hc3] at h3 ⊢
  rw [hc5] at h4 ⊢
  rw [hc6] at h5 ⊢
  rw [hc7] at h6 ⊢
  rw [hd1, hd2, hd3]
  simp only [staF]
  refine Fn.of (fn := Tryz.f96) (by kernel_rfl) rfl (by kernel_rfl) ⟨[.agg [.sl f 1 (strRow ns), .sl g 1 (u32Row us)], .agg [.v (.int .i64 s.v), .v (.int .i64 s.l), .sl false 3 (tRow s.code), .sl false 2 (pRow s.mem), .sl false 3 (sRow s.stack), .sl false 2 (pRow s.out)], .v undef, .v undef, .v undef, .v undef, .v undef, .v undef, .v undef, .v undef, .v undef, .v undef, .v undef, .v undef, .v undef, .v undef, .v undef, .v undef, .v undef, .v undef, .v undef, .v undef, .v undef, .v undef, .v undef, .v undef, .v undef, .v undef, .v undef, .v undef, .v undef, .v undef, .v undef, .v undef, .v undef, .v undef, .v undef, .v undef, .v undef, .v undef, .v undef, .v undef, .v undef, .v undef, .v undef, .v undef, .v undef, .v undef, .v undef, .v undef, .v undef, .v undef, .v undef, .v undef, .v undef, .v undef, .v undef, .v undef, .v undef, .v undef, .v undef, .v undef, .v undef, .v undef, .v undef, .v undef, .v undef, .v undef, .v undef], []⟩ rfl ?_
  cases c1
  case false =>
    cases d1 <;> cases d2
    all_goals
      repeat' first | (refine AWP_freezeR 1 0 rfl (by (simp (maxSteps := 9999999) only [push_cast, seval, ↓reduceIte]) <;> rfl) ?_; simp (maxSteps := 9999999) only [push_cast, seval, ↓reduceIte, frSt, frSlot, fr3, fr2, fr1, fr0, sameB, arrOf, hd1', hd2', hd3', undef]) | (refine AWP_freezeR 2 2 rfl (by (simp (maxSteps := 9999999) only [push_cast, seval, ↓reduceIte]) <;> rfl) ?_; simp (maxSteps := 9999999) only [push_cast, seval, ↓reduceIte, frSt, frSlot, fr3, fr2, fr1, fr0, sameB, arrOf, hd1', hd2', hd3', undef]) | (with_reducible first | refine AWP_seq' ?_ | refine k_normal ?_ | refine AWP_ret ?_) | ((first | with_reducible refine AWP_reg fun KC J hJ hKC => ?_ | (refine hKC _ _ _ _ _ (callV0 (h1) rfl rfl rfl ?_ ?_); (· exact Lq))); simp (maxSteps := 9999999) only [push_cast, seval, ↓reduceIte, hd1', hd2', hd3', undef]) | ((with_reducible refine hJ _ _ ?_); clear hJ hKC KC J)
      refine ret_plain ?_
      simp (maxSteps := 9999999) only [push_cast, seval, ↓reduceIte, show Tryz.f96.results = #[(.tmp 4)] from rfl]
      exact Lq
  cases c2
  case false =>
    cases d1 <;> cases d2
    all_goals
      repeat' first | (refine AWP_freezeR 1 0 rfl (by (simp (maxSteps := 9999999) only [push_cast, seval, ↓reduceIte]) <;> rfl) ?_; simp (maxSteps := 9999999) only [push_cast, seval, ↓reduceIte, frSt, frSlot, fr3, fr2, fr1, fr0, sameB, arrOf, hd1', hd2', hd3', undef]) | (refine AWP_freezeR 2 2 rfl (by (simp (maxSteps := 9999999) only [push_cast, seval, ↓reduceIte]) <;> rfl) ?_; simp (maxSteps := 9999999) only [push_cast, seval, ↓reduceIte, frSt, frSlot, fr3, fr2, fr1, fr0, sameB, arrOf, hd1', hd2', hd3', undef]) | (with_reducible first | refine AWP_seq' ?_ | refine k_normal ?_ | refine AWP_ret ?_) | ((first | with_reducible refine AWP_reg fun KC J hJ hKC => ?_ | (refine hKC _ _ _ _ _ (callV0 (h1) rfl rfl rfl ?_ ?_); (· exact Lq)) | (refine hKC _ _ _ _ _ (callV0 (h2) rfl rfl rfl ?_ ?_); (· exact Lq))); simp (maxSteps := 9999999) only [push_cast, seval, ↓reduceIte, hd1', hd2', hd3', undef]) | ((with_reducible refine hJ _ _ ?_); clear hJ hKC KC J)
      refine ret_plain ?_
      simp (maxSteps := 9999999) only [push_cast, seval, ↓reduceIte, show Tryz.f96.results = #[(.tmp 4)] from rfl]
      exact Lq
  cases c3
  case false =>
    cases d1 <;> cases d2
    all_goals
      repeat' first | (refine AWP_freezeR 1 0 rfl (by (simp (maxSteps := 9999999) only [push_cast, seval, ↓reduceIte]) <;> rfl) ?_; simp (maxSteps := 9999999) only [push_cast, seval, ↓reduceIte, frSt, frSlot, fr3, fr2, fr1, fr0, sameB, arrOf, hd1', hd2', hd3', undef]) | (refine AWP_freezeR 2 2 rfl (by (simp (maxSteps := 9999999) only [push_cast, seval, ↓reduceIte]) <;> rfl) ?_; simp (maxSteps := 9999999) only [push_cast, seval, ↓reduceIte, frSt, frSlot, fr3, fr2, fr1, fr0, sameB, arrOf, hd1', hd2', hd3', undef]) | (with_reducible first | refine AWP_seq' ?_ | refine k_normal ?_ | refine AWP_ret ?_) | ((first | with_reducible refine AWP_reg fun KC J hJ hKC => ?_ | (refine hKC _ _ _ _ _ (callV0 (h1) rfl rfl rfl ?_ ?_); (· exact Lq)) | (refine hKC _ _ _ _ _ (callV0 (h2) rfl rfl rfl ?_ ?_); (· exact Lq)) | (refine hKC _ _ _ _ _ (callV0 (h3) rfl rfl rfl ?_ ?_); (· exact Lq))); simp (maxSteps := 9999999) only [push_cast, seval, ↓reduceIte, hd1', hd2', hd3', undef]) | ((with_reducible refine hJ _ _ ?_); clear hJ hKC KC J)
      refine ret_plain ?_
      simp (maxSteps := 9999999) only [push_cast, seval, ↓reduceIte, show Tryz.f96.results = #[(.tmp 4)] from rfl]
      exact Lq
  cases d1
  case false =>
    repeat' first | (refine AWP_freezeR 1 0 rfl (by (simp (maxSteps := 9999999) only [push_cast, seval, ↓reduceIte]) <;> rfl) ?_; simp (maxSteps := 9999999) only [push_cast, seval, ↓reduceIte, frSt, frSlot, fr3, fr2, fr1, fr0, sameB, arrOf, hd1', hd2', hd3', undef]) | (refine AWP_freezeR 2 2 rfl (by (simp (maxSteps := 9999999) only [push_cast, seval, ↓reduceIte]) <;> rfl) ?_; simp (maxSteps := 9999999) only [push_cast, seval, ↓reduceIte, frSt, frSlot, fr3, fr2, fr1, fr0, sameB, arrOf, hd1', hd2', hd3', undef]) | (with_reducible first | refine AWP_seq' ?_ | refine k_normal ?_ | refine AWP_ret ?_) | ((first | with_reducible refine AWP_reg fun KC J hJ hKC => ?_ | (refine hKC _ _ _ _ _ (callV0 (h1) rfl rfl rfl ?_ ?_); (· exact Lq)) | (refine hKC _ _ _ _ _ (callV0 (h2) rfl rfl rfl ?_ ?_); (· exact Lq)) | (refine hKC _ _ _ _ _ (callV0 (h3) rfl rfl rfl ?_ ?_); (· exact Lq))); simp (maxSteps := 9999999) only [push_cast, seval, ↓reduceIte, hd1', hd2', hd3', undef]) | ((with_reducible refine hJ _ _ ?_); clear hJ hKC KC J)
    refine ret_plain ?_
    simp (maxSteps := 9999999) only [push_cast, seval, ↓reduceIte, show Tryz.f96.results = #[(.tmp 4)] from rfl]
    exact Lq
  cases d2
  case false =>
    repeat' first | (refine AWP_freezeR 1 0 rfl (by (simp (maxSteps := 9999999) only [push_cast, seval, ↓reduceIte]) <;> rfl) ?_; simp (maxSteps := 9999999) only [push_cast, seval, ↓reduceIte, frSt, frSlot, fr3, fr2, fr1, fr0, sameB, arrOf, hd1', hd2', hd3', undef]) | (refine AWP_freezeR 2 2 rfl (by (simp (maxSteps := 9999999) only [push_cast, seval, ↓reduceIte]) <;> rfl) ?_; simp (maxSteps := 9999999) only [push_cast, seval, ↓reduceIte, frSt, frSlot, fr3, fr2, fr1, fr0, sameB, arrOf, hd1', hd2', hd3', undef]) | (with_reducible first | refine AWP_seq' ?_ | refine k_normal ?_ | refine AWP_ret ?_) | ((first | with_reducible refine AWP_reg fun KC J hJ hKC => ?_ | (refine hKC _ _ _ _ _ (callV0 (h1) rfl rfl rfl ?_ ?_); (· exact Lq)) | (refine hKC _ _ _ _ _ (callV0 (h2) rfl rfl rfl ?_ ?_); (· exact Lq)) | (refine hKC _ _ _ _ _ (callV0 (h3) rfl rfl rfl ?_ ?_); (· exact Lq))); simp (maxSteps := 9999999) only [push_cast, seval, ↓reduceIte, hd1', hd2', hd3', undef]) | ((with_reducible refine hJ _ _ ?_); clear hJ hKC KC J)
    refine ret_plain ?_
    simp (maxSteps := 9999999) only [push_cast, seval, ↓reduceIte, show Tryz.f96.results = #[(.tmp 4)] from rfl]
    exact Lq
  cases d3
  case false =>
    repeat' first | (refine AWP_freezeR 1 0 rfl (by (simp (maxSteps := 9999999) only [push_cast, seval, ↓reduceIte]) <;> rfl) ?_; simp (maxSteps := 9999999) only [push_cast, seval, ↓reduceIte, frSt, frSlot, fr3, fr2, fr1, fr0, sameB, arrOf, hd1', hd2', hd3', undef]) | (refine AWP_freezeR 2 2 rfl (by (simp (maxSteps := 9999999) only [push_cast, seval, ↓reduceIte]) <;> rfl) ?_; simp (maxSteps := 9999999) only [push_cast, seval, ↓reduceIte, frSt, frSlot, fr3, fr2, fr1, fr0, sameB, arrOf, hd1', hd2', hd3', undef]) | (with_reducible first | refine AWP_seq' ?_ | refine k_normal ?_ | refine AWP_ret ?_) | ((first | with_reducible refine AWP_reg fun KC J hJ hKC => ?_ | (refine hKC _ _ _ _ _ (callV0 (h1) rfl rfl rfl ?_ ?_); (· exact Lq)) | (refine hKC _ _ _ _ _ (callV0 (h2) rfl rfl rfl ?_ ?_); (· exact Lq)) | (refine hKC _ _ _ _ _ (callV0 (h3) rfl rfl rfl ?_ ?_); (· exact Lq))); simp (maxSteps := 9999999) only [push_cast, seval, ↓reduceIte, hd1', hd2', hd3', undef]) | ((with_reducible refine hJ _ _ ?_); clear hJ hKC KC J)
    refine ret_plain ?_
    simp (maxSteps := 9999999) only [push_cast, seval, ↓reduceIte, show Tryz.f96.results = #[(.tmp 4)] from rfl]
    exact Lq
  cases c5
  case true =>
    repeat' first | (refine AWP_freezeR 1 0 rfl (by (simp (maxSteps := 9999999) only [push_cast, seval, ↓reduceIte]) <;> rfl) ?_; simp (maxSteps := 9999999) only [push_cast, seval, ↓reduceIte, frSt, frSlot, fr3, fr2, fr1, fr0, sameB, arrOf, hd1', hd2', hd3', undef]) | (refine AWP_freezeR 2 2 rfl (by (simp (maxSteps := 9999999) only [push_cast, seval, ↓reduceIte]) <;> rfl) ?_; simp (maxSteps := 9999999) only [push_cast, seval, ↓reduceIte, frSt, frSlot, fr3, fr2, fr1, fr0, sameB, arrOf, hd1', hd2', hd3', undef]) | (with_reducible first | refine AWP_seq' ?_ | refine k_normal ?_ | refine AWP_ret ?_) | ((first | with_reducible refine AWP_reg fun KC J hJ hKC => ?_ | (refine hKC _ _ _ _ _ (callV0 (h1) rfl rfl rfl ?_ ?_); (· exact Lq)) | (refine hKC _ _ _ _ _ (callV0 (h2) rfl rfl rfl ?_ ?_); (· exact Lq)) | (refine hKC _ _ _ _ _ (callV0 (h3) rfl rfl rfl ?_ ?_); (· exact Lq)) | (refine hKC _ _ _ _ _ (callV0 (h4) rfl rfl rfl ?_ ?_); (· exact Lq))); simp (maxSteps := 9999999) only [push_cast, seval, ↓reduceIte, hd1', hd2', hd3', undef]) | ((with_reducible refine hJ _ _ ?_); clear hJ hKC KC J)
    refine ret_plain ?_
    simp (maxSteps := 9999999) only [push_cast, seval, ↓reduceIte, show Tryz.f96.results = #[(.tmp 4)] from rfl]
    exact Lq
  cases c6
  case true =>
    repeat' first | (refine AWP_freezeR 1 0 rfl (by (simp (maxSteps := 9999999) only [push_cast, seval, ↓reduceIte]) <;> rfl) ?_; simp (maxSteps := 9999999) only [push_cast, seval, ↓reduceIte, frSt, frSlot, fr3, fr2, fr1, fr0, sameB, arrOf, hd1', hd2', hd3', undef]) | (refine AWP_freezeR 2 2 rfl (by (simp (maxSteps := 9999999) only [push_cast, seval, ↓reduceIte]) <;> rfl) ?_; simp (maxSteps := 9999999) only [push_cast, seval, ↓reduceIte, frSt, frSlot, fr3, fr2, fr1, fr0, sameB, arrOf, hd1', hd2', hd3', undef]) | (with_reducible first | refine AWP_seq' ?_ | refine k_normal ?_ | refine AWP_ret ?_) | ((first | with_reducible refine AWP_reg fun KC J hJ hKC => ?_ | (refine hKC _ _ _ _ _ (callV0 (h1) rfl rfl rfl ?_ ?_); (· exact Lq)) | (refine hKC _ _ _ _ _ (callV0 (h2) rfl rfl rfl ?_ ?_); (· exact Lq)) | (refine hKC _ _ _ _ _ (callV0 (h3) rfl rfl rfl ?_ ?_); (· exact Lq)) | (refine hKC _ _ _ _ _ (callV0 (h4) rfl rfl rfl ?_ ?_); (· exact Lq)) | (refine hKC _ _ _ _ _ (callV0 (h5) rfl rfl rfl ?_ ?_); (· exact Lq))); simp (maxSteps := 9999999) only [push_cast, seval, ↓reduceIte, hd1', hd2', hd3', undef]) | ((with_reducible refine hJ _ _ ?_); clear hJ hKC KC J)
    refine ret_plain ?_
    simp (maxSteps := 9999999) only [push_cast, seval, ↓reduceIte, show Tryz.f96.results = #[(.tmp 4)] from rfl]
    exact Lq
  repeat' first | (refine AWP_freezeR 1 0 rfl (by (simp (maxSteps := 9999999) only [push_cast, seval, ↓reduceIte]) <;> rfl) ?_; simp (maxSteps := 9999999) only [push_cast, seval, ↓reduceIte, frSt, frSlot, fr3, fr2, fr1, fr0, sameB, arrOf, hd1', hd2', hd3', undef]) | (refine AWP_freezeR 2 2 rfl (by (simp (maxSteps := 9999999) only [push_cast, seval, ↓reduceIte]) <;> rfl) ?_; simp (maxSteps := 9999999) only [push_cast, seval, ↓reduceIte, frSt, frSlot, fr3, fr2, fr1, fr0, sameB, arrOf, hd1', hd2', hd3', undef]) | (with_reducible first | refine AWP_seq' ?_ | refine k_normal ?_ | refine AWP_ret ?_) | ((first | with_reducible refine AWP_reg fun KC J hJ hKC => ?_ | (refine hKC _ _ _ _ _ (callV0 (h1) rfl rfl rfl ?_ ?_); (· exact Lq)) | (refine hKC _ _ _ _ _ (callV0 (h2) rfl rfl rfl ?_ ?_); (· exact Lq)) | (refine hKC _ _ _ _ _ (callV0 (h3) rfl rfl rfl ?_ ?_); (· exact Lq)) | (refine hKC _ _ _ _ _ (callV0 (h4) rfl rfl rfl ?_ ?_); (· exact Lq)) | (refine hKC _ _ _ _ _ (callV0 (h5) rfl rfl rfl ?_ ?_); (· exact Lq)) | (refine hKC _ _ _ _ _ (callV0 (h6) rfl rfl rfl ?_ ?_); (· exact Lq))); simp (maxSteps := 9999999) only [push_cast, seval, ↓reduceIte, hd1', hd2', hd3', undef]) | ((with_reducible refine hJ _ _ ?_); clear hJ hKC KC J)
  refine ret_plain ?_
  simp (maxSteps := 9999999) only [push_cast, seval, ↓reduceIte, show Tryz.f96.results = #[(.tmp 4)] from rfl]
  exact Lq
end Go.Proofs.YtabliglgeiajlaaGreat.AM

namespace Go.Proofs.YtabliglgeiajlaaGreat.AM
open Go Go.RowKit Go.Proofs
set_option maxRecDepth 100000
set_option maxHeartbeats 4000000
theorem pRow_nil : pRow [] = [] := rfl
theorem isNilL_pRowC (a : Int × Int) (l : List (Int × Int)) : isNilL (pRow (a :: l)) = false := rfl
theorem pRow_flat (l : List (Int × Int)) : (pRow l).flatten = pCells l := rfl
theorem growA_fn (n : Nat) (h0 : 0 < n) (hn : n ≤ 10000) : Fn Tryz.prog 286 [.v (.slice none 0 0), .v (.int .i64 (n : Int))] [] (.ref 0 0 0) [.ent ⟨0, some 2, 34, [], .cells⟩] := by
  have h1 : decide ((n : Int) < 0) = false := decide_eq_false (by omega)
  have h2 : IntKind.i64.wrap ((n : Int) - 0) = n := by rw [IntKind.wrap_i64]; omega
  have h3 : decide ((0 : Int) < n) = true := decide_eq_true (by omega)
  refine Fn.of (fn := Tryz.f286) (by kernel_rfl) rfl (by kernel_rfl) ⟨[.v (.slice none 0 0), .v (.int .i64 (n : Int)), .v undef, .v undef, .v undef, .v undef, .v undef, .v undef, .v undef, .v undef, .v undef, .v undef, .v undef, .v undef, .v undef, .v undef, .v undef, .v undef, .v undef, .v undef, .v undef, .v undef, .v undef, .v undef, .v undef, .v undef, .v undef], []⟩ rfl ?_
  have h4 : IntKind.i64.wrap 0 = 0 := by rw [IntKind.wrap_i64]; rfl
  repeat' first | (with_reducible first | refine AWP_seq' ?_ | refine k_normal ?_ | refine AWP_skip ?_) | ((with_reducible refine And.intro ?_ ?_); · exact Sq) | ((with_reducible refine AWP_reg fun KC J hJ hKC => ?_); simp (maxSteps := 9999999) only [push_cast, seval, ↓reduceIte, h1, h2, h3, h4]) | ((with_reducible refine hJ _ _ ?_); clear hJ hKC KC J) | ((with_reducible refine AWP_condT ?_ ?_); · rfl) | ((with_reducible refine AWP_condF ?_ ?_); · rfl)
  refine AWP_ret ?_
  refine ret_new [0] ?_ (by simp) ?_
  · simp (maxSteps := 9999999) only [push_cast, seval, ↓reduceIte, show Tryz.f286.results = #[.tmp 4] from rfl, pick, mOf, idx, renSlot]
    exact leD_refl _
  · intro k hk
    exact absurd hk (by simp)
def rowsC (l : List (Bool × List (Int × Int))) : List (List D) := l.map fun r => [.sl r.1 2 (pRow r.2)]
def flatC (l : List (Bool × List (Int × Int))) : List (Int × Int) := l.flatMap (·.2)
@[push_cast] theorem rowsC_length (l : List (Bool × List (Int × Int))) : (rowsC l).length = l.length := by simp [rowsC]
theorem getE_rowsC {l : List (Bool × List (Int × Int))} {n : Nat} {x : Bool × List (Int × Int)} (h : l[n]? = some x) : getE (rowsC l) n = [.sl x.1 2 (pRow x.2)] := by unfold rowsC; exact getE_map _ _ _ _ h
theorem flatC_take {l : List (Bool × List (Int × Int))} {i : Nat} {x : Bool × List (Int × Int)} (h : l[i]? = some x) : flatC (l.take (i + 1)) = flatC (l.take i) ++ x.2 := by
  obtain ⟨hi, rfl⟩ := List.getElem?_eq_some_iff.1 h
  unfold flatC
  rw [List.take_succ_eq_append_getElem hi, List.flatMap_append]
  simp only [List.flatMap_cons, List.flatMap_nil, List.append_nil]
theorem flatC_le (l : List (Bool × List (Int × Int))) (i : Nat) : (flatC (l.take i)).length ≤ (flatC l).length := by
  have : flatC l = flatC (l.take i) ++ flatC (l.drop i) := by
    rw [flatC, flatC, flatC, ← List.flatMap_append, List.take_append_drop]
  rw [this]; simp
set_option maxHeartbeats 4000000 in
theorem concatA_fn (f : Bool) (rows : List (Bool × List (Int × Int))) (h0 : 0 < (flatC rows).length) (hb : (flatC rows).length ≤ 1000) (hr : rows.length ≤ 1000) :
    Fn Tryz.prog 253 [.sl f 1 (rowsC rows)] [] (.sl false 2 (pRow (flatC rows))) [] := by
  refine Fn.of (fn := Tryz.f253) (by kernel_rfl) rfl (by kernel_rfl) ⟨[.sl f 1 (rowsC rows), .v undef, .v undef, .v undef, .v undef, .v undef, .v undef, .v undef, .v undef, .v undef, .v undef, .v undef, .v undef, .v undef, .v undef, .v undef, .v undef, .v undef, .v undef, .v undef, .v undef, .v undef, .v undef, .v undef, .v undef, .v undef, .v undef, .v undef, .v undef, .v undef, .v undef, .v undef, .v undef, .v undef, .v undef, .v undef], []⟩ rfl ?_
  repeat' first | (with_reducible first | refine AWP_seq' ?_ | refine k_normal ?_ | refine AWP_block ?_) | ((with_reducible refine AWP_reg fun KC J hJ hKC => ?_); simp (maxSteps := 9999999) only [push_cast, seval, ↓reduceIte]) | ((with_reducible refine hJ _ _ ?_); clear hJ hKC KC J)
  refine AWP_loopD 0 (γ := {i : Nat // i ≤ rows.length}) (fun i => ⟨[.sl f 1 (rowsC rows), .any, .v (.slice none 0 0), .v (.int .i64 (flatC (rows.take i.1)).length), .any, .any, .any, .any, .any, .sl f 1 (rowsC rows), .v (.int .i64 rows.length), .v (.int .i64 i.1), .any, .any, .any, .any, .any, .any, .any, .any, .any, .any, .any, .any, .any, .any, .any, .any, .any, .any, .any, .any, .any, .any, .any, .any], []⟩) (fun i => rows.length - i.1) ⟨0, by omega⟩ (fun i => rfl) (fun i => rfl) (fun i => rfl) ⟨?_, Fq⟩ ?_
  · simp only [List.take_zero, flatC, List.flatMap_nil, List.length_nil]
    exact Lq
  rintro ⟨i, hi⟩
  by_cases hlt : (i : Int) < (rows.length : Int)
  · have hx : rows[i]? = some rows[i] := List.getElem?_eq_getElem (by omega)
    obtain ⟨r, hr0⟩ : ∃ r, rows[i] = r := ⟨_, rfl⟩
    rw [hr0] at hx
    have hst := flatC_take hx
    have hbd := flatC_le rows (i + 1)
    rw [hst, List.length_append] at hbd
    obtain ⟨n, hn⟩ : ∃ n, (flatC (rows.take i)).length = n := ⟨_, rfl⟩
    rw [hn] at hbd
    have hw : IntKind.i64.wrap ((n : Int) + (r.2.length : Int)) = ((n + r.2.length : Nat) : Int) := by rw [IntKind.wrap_i64]; omega
    have hn0 : decide (((n + r.2.length : Nat) : Int) < 0) = false := decide_eq_false (by omega)
    simp only [hn]
    repeat' first | (with_reducible first | refine AWP_seq' ?_ | refine k_normal ?_ | refine b_normal ?_ | refine AWP_skip ?_ | refine AWP_block ?_) | ((with_reducible refine And.intro ?_ ?_); · exact Sq) | ((with_reducible refine AWP_reg fun KC J hJ hKC => ?_); simp (maxSteps := 9999999) only [push_cast, seval, ↓reduceIte, hlt, getE_rowsC hx, hw, hn0, wrapN (i := i) (n := rows.length) (by omega) (by omega)]) | ((with_reducible refine hJ _ _ ?_); clear hJ hKC KC J) | ((with_reducible refine AWP_condT ?_ ?_); · rfl) | ((with_reducible refine AWP_condF ?_ ?_); · rfl)
    refine ⟨⟨i + 1, by omega⟩, by simp only; omega, ?_, ⟨_, rfl⟩⟩
    simp only [hst, List.length_append, hn]
    exact Lq
  · have hin : i = rows.length := by omega
    subst hin
    rw [List.take_length]
    have hg := growA_fn (flatC rows).length h0 (by omega)
    repeat' first | (with_reducible first | refine AWP_seq' ?_ | refine k_normal ?_ | refine k_exit ?_ | refine b_exit ?_ | refine AWP_exit ?_ | refine AWP_block ?_) | ((first | with_reducible refine AWP_reg fun KC J hJ hKC => ?_ | (refine hKC _ _ _ _ _ (callN [] hg rfl rfl rfl (by simp) (fun _ h => by cases h) rfl rfl rfl (leF_cons (leD_refl _) (leF_cons (leD_refl _) leF_nil)) ?_))); simp (maxSteps := 9999999) only [push_cast, seval, ↓reduceIte, hlt, backOf, callSets, renSlot, pick, mOf, idx]) | ((with_reducible refine hJ _ _ ?_); clear hJ hKC KC J) | ((with_reducible refine AWP_condF ?_ ?_); · rfl)
    refine AWP_loopD 1 (γ := {p : Nat × Nat // p.1 ≤ rows.length}) (fun p => ⟨[.sl f 1 (rowsC rows), .any, .v (.slice none 0 0), .v (.int .i64 (flatC rows).length), .any, .any, .ref 0 p.1.2 (flatC (rows.take p.1.1)).length, .any, .any, .any, .any, .any, .any, .any, .any, .any, .any, .any, .any, .any, .any, .any, .any, .any, .any, .sl f 1 (rowsC rows), .v (.int .i64 rows.length), .v (.int .i64 p.1.1), .any, .any, .any, .any, .any, .any, .any, .any], [.ent ⟨p.1.2, some 2, 34, pCells (flatC (rows.take p.1.1)), .cells⟩]⟩) (fun p => rows.length - p.1.1) ⟨(0, 0), by omega⟩ (fun p => rfl) (fun p => clsd_all (by simp only [List.map_cons, List.map_nil, renSlot, ren_pCells])) (fun p => rfl) ⟨?_, ?_⟩ ?_
    · simp only [List.take_zero, flatC, List.flatMap_nil, List.length_nil]
      exact Lq
    · simp only [List.take_zero, flatC, List.flatMap_nil, pCells, List.map_nil]
      exact Fq
    rintro ⟨⟨i, g⟩, hi⟩
    simp only at hi ⊢
    by_cases hlt : (i : Int) < (rows.length : Int)
    · have hx : rows[i]? = some rows[i] := List.getElem?_eq_getElem (by omega)
      obtain ⟨r, hr0⟩ : ∃ r, rows[i] = r := ⟨_, rfl⟩
      rw [hr0] at hx
      have hst := flatC_take hx
      have hbd := flatC_le rows (i + 1)
      rw [hst, List.length_append] at hbd
      obtain ⟨L, hL⟩ : ∃ L, flatC (rows.take i) = L := ⟨_, rfl⟩
      rw [hL] at hbd hst ⊢
      have hlC := pCells_length L
      have htC : (pCells L).take (L.length * 2) = pCells L := List.take_of_length_le (by omega)
      have hbm : Nat.beq g g = true := Nat.beq_refl g
      obtain ⟨fr, xr⟩ := r
      cases xr with
      | nil =>
        simp only [List.append_nil] at hst
        repeat' first | (with_reducible first | refine AWP_seq' ?_ | refine k_normal ?_ | refine b_normal ?_ | refine AWP_skip ?_ | refine AWP_block ?_) | ((with_reducible refine And.intro ?_ ?_); · exact Sq) | ((with_reducible refine AWP_reg fun KC J hJ hKC => ?_); simp (maxSteps := 9999999) only [push_cast, seval, ↓reduceIte, hlt, getE_rowsC hx, pRow_nil, hbm, hlC, htC, wrapN (i := i) (n := rows.length) (by omega) (by omega)]) | ((with_reducible refine hJ _ _ ?_); clear hJ hKC KC J) | ((with_reducible refine AWP_condT ?_ ?_); · rfl)
        refine ⟨⟨(i + 1, g), by omega⟩, by simp only; omega, ?_, ?_⟩
        · simp only [hst]
          exact Lq
        · simp only [hst]
          exact ⟨_, rfl⟩
      | cons a xr =>
        have hA := pCells_app L (a :: xr)
        rw [← pRow_flat (a :: xr)] at hA
        simp only [List.length_cons] at hbd
        repeat' first | (with_reducible first | refine AWP_seq' ?_ | refine k_normal ?_ | refine b_normal ?_ | refine AWP_skip ?_ | refine AWP_block ?_) | ((with_reducible refine And.intro ?_ ?_); · exact Sq) | ((with_reducible refine AWP_reg fun KC J hJ hKC => ?_); simp (maxSteps := 9999999) only [push_cast, seval, ↓reduceIte, hlt, getE_rowsC hx, isNilL_pRowC, hbm, hlC, htC, wrapN (i := i) (n := rows.length) (by omega) (by omega)]) | ((with_reducible refine hJ _ _ ?_); clear hJ hKC KC J) | ((with_reducible refine AWP_condT ?_ ?_); · rfl)
        refine ⟨⟨(i + 1, g + 1), by omega⟩, by simp only; omega, ?_, ?_⟩
        · simp only [hst, List.length_append, List.length_cons]
          exact Lq
        · simp only [hst, hA]
          exact ⟨_, rfl⟩
    · have hin : i = rows.length := by omega
      subst hin
      rw [List.take_length]
      obtain ⟨L, hL⟩ : ∃ L, flatC rows = L := ⟨_, rfl⟩
      rw [hL] at hb ⊢
      have hlC := pCells_length L
      have hcI := chunk_p L
      have hbm : Nat.beq g g = true := Nat.beq_refl g
      repeat' first | (with_reducible first | refine AWP_seq' ?_ | refine k_normal ?_ | refine k_exit ?_ | refine b_exit ?_ | refine AWP_exit ?_) | ((with_reducible refine AWP_reg fun KC J hJ hKC => ?_); simp (maxSteps := 9999999) only [push_cast, seval, ↓reduceIte, hlt]) | ((with_reducible refine hJ _ _ ?_); clear hJ hKC KC J) | ((with_reducible refine AWP_condF ?_ ?_); · rfl)
      refine AWP_freeze 0 rfl (by simp (maxSteps := 9999999) only [push_cast, seval, ↓reduceIte]) ?_
      simp (maxSteps := 9999999) only [push_cast, seval, ↓reduceIte, frSt, frSlot, fr3, fr2, fr1, fr0, sameB, arrOf, hbm, hlC, hcI]
      refine AWP_ret ?_
      refine ret_plain ?_
      simp (maxSteps := 9999999) only [push_cast, seval, ↓reduceIte, show Tryz.f253.results = #[(.tmp 2)] from rfl]
      exact leD_refl _
theorem growA0_fn : Fn Tryz.prog 286 [.v (.slice none 0 0), .v (.int .i64 0)] [] (.v (.slice none 0 0)) [] := by
  refine Fn.of (fn := Tryz.f286) (by kernel_rfl) rfl (by kernel_rfl) ⟨[.v (.slice none 0 0), .v (.int .i64 0), .v undef, .v undef, .v undef, .v undef, .v undef, .v undef, .v undef, .v undef, .v undef, .v undef, .v undef, .v undef, .v undef, .v undef, .v undef, .v undef, .v undef, .v undef, .v undef, .v undef, .v undef, .v undef, .v undef, .v undef, .v undef], []⟩ rfl ?_
  have h4 : IntKind.i64.wrap 0 = 0 := by rw [IntKind.wrap_i64]; rfl
  repeat' first | (with_reducible first | refine AWP_seq' ?_ | refine k_normal ?_ | refine AWP_ret ?_ | refine AWP_skip ?_) | ((with_reducible refine AWP_reg fun KC J hJ hKC => ?_); simp (maxSteps := 9999999) only [push_cast, seval, ↓reduceIte, h4, Int.sub_zero]) | ((with_reducible refine hJ _ _ ?_); clear hJ hKC KC J) | ((with_reducible refine AWP_condF ?_ ?_); · rfl)
  refine ret_plain ?_
  simp (maxSteps := 9999999) only [push_cast, seval, ↓reduceIte, show Tryz.f286.results = #[(.tmp 4)] from rfl]
  exact Lq
theorem concatA0_fn (f : Bool) (rows : List (Bool × List (Int × Int))) (h0 : ∀ r ∈ rows, r.2 = []) (hr : rows.length ≤ 1000) :
    Fn Tryz.prog 253 [.sl f 1 (rowsC rows)] [] (.sl false 2 (pRow [])) [] := by
  have hg := growA0_fn
  refine Fn.of (fn := Tryz.f253) (by kernel_rfl) rfl (by kernel_rfl) ⟨[.sl f 1 (rowsC rows), .v undef, .v undef, .v undef, .v undef, .v undef, .v undef, .v undef, .v undef, .v undef, .v undef, .v undef, .v undef, .v undef, .v undef, .v undef, .v undef, .v undef, .v undef, .v undef, .v undef, .v undef, .v undef, .v undef, .v undef, .v undef, .v undef, .v undef, .v undef, .v undef, .v undef, .v undef, .v undef, .v undef, .v undef, .v undef], []⟩ rfl ?_
  repeat' first | (with_reducible first | refine AWP_seq' ?_ | refine k_normal ?_ | refine AWP_block ?_) | ((with_reducible refine AWP_reg fun KC J hJ hKC => ?_); simp (maxSteps := 9999999) only [push_cast, seval, ↓reduceIte]) | ((with_reducible refine hJ _ _ ?_); clear hJ hKC KC J)
  refine AWP_loopD 0 (γ := {i : Nat // i ≤ rows.length}) (fun i => ⟨[.sl f 1 (rowsC rows), .any, .v (.slice none 0 0), .v (.int .i64 0), .any, .any, .any, .any, .any, .sl f 1 (rowsC rows), .v (.int .i64 rows.length), .v (.int .i64 i.1), .any, .any, .any, .any, .any, .any, .any, .any, .any, .any, .any, .any, .any, .any, .any, .any, .any, .any, .any, .any, .any, .any, .any, .any], []⟩) (fun i => rows.length - i.1) ⟨0, by omega⟩ (fun i => rfl) (fun i => rfl) (fun i => rfl) ⟨?_, Fq⟩ ?_
  · exact Lq
  rintro ⟨i, hi⟩
  by_cases hlt : (i : Int) < (rows.length : Int)
  · have hx : rows[i]? = some rows[i] := List.getElem?_eq_getElem (by omega)
    have he := h0 rows[i] (List.getElem_mem (by omega))
    obtain ⟨⟨fr, xr⟩, hr0⟩ : ∃ r, rows[i] = r := ⟨_, rfl⟩
    rw [hr0] at hx he
    simp only at he
    subst he
    have hw : IntKind.i64.wrap (0 + 0) = 0 := by rw [IntKind.wrap_i64]; rfl
    have hw2 : IntKind.i64.wrap 0 = 0 := by rw [IntKind.wrap_i64]; rfl
    repeat' first | (with_reducible first | refine AWP_seq' ?_ | refine k_normal ?_ | refine b_normal ?_ | refine AWP_skip ?_ | refine AWP_block ?_) | ((with_reducible refine And.intro ?_ ?_); · exact Sq) | ((with_reducible refine AWP_reg fun KC J hJ hKC => ?_); simp (maxSteps := 9999999) only [push_cast, seval, ↓reduceIte, hlt, getE_rowsC hx, hw, hw2, pRow_nil, List.length_nil, Int.add_zero, wrapN (i := i) (n := rows.length) (by omega) (by omega)]) | ((with_reducible refine hJ _ _ ?_); clear hJ hKC KC J) | ((with_reducible refine AWP_condT ?_ ?_); · rfl) | ((with_reducible refine AWP_condF ?_ ?_); · rfl)
    refine ⟨⟨i + 1, by omega⟩, by simp only; omega, ?_, ⟨_, rfl⟩⟩
    exact Lq
  · have hin : i = rows.length := by omega
    subst hin
    repeat' first | (with_reducible first | refine AWP_seq' ?_ | refine k_normal ?_ | refine k_exit ?_ | refine b_exit ?_ | refine AWP_exit ?_ | refine AWP_block ?_) | ((first | with_reducible refine AWP_reg fun KC J hJ hKC => ?_ | (refine hKC _ _ _ _ _ (callV0 (hg) rfl rfl rfl ?_ ?_); (· exact Lq))); simp (maxSteps := 9999999) only [push_cast, seval, ↓reduceIte, hlt]) | ((with_reducible refine hJ _ _ ?_); clear hJ hKC KC J) | ((with_reducible refine AWP_condF ?_ ?_); · rfl)
    refine AWP_loopD 0 (γ := {i : Nat // i ≤ rows.length}) (fun i => ⟨[.sl f 1 (rowsC rows), .any, .v (.slice none 0 0), .any, .any, .any, .v (.slice none 0 0), .any, .any, .any, .any, .any, .any, .any, .any, .any, .any, .any, .any, .any, .any, .any, .any, .any, .any, .sl f 1 (rowsC rows), .v (.int .i64 rows.length), .v (.int .i64 i.1), .any, .any, .any, .any, .any, .any, .any, .any], []⟩) (fun i => rows.length - i.1) ⟨0, by omega⟩ (fun i => rfl) (fun i => rfl) (fun i => rfl) ⟨?_, Fq⟩ ?_
    · exact Lq
    rintro ⟨i, hi⟩
    by_cases hlt : (i : Int) < (rows.length : Int)
    · have hx : rows[i]? = some rows[i] := List.getElem?_eq_getElem (by omega)
      have he := h0 rows[i] (List.getElem_mem (by omega))
      obtain ⟨⟨fr, xr⟩, hr0⟩ : ∃ r, rows[i] = r := ⟨_, rfl⟩
      rw [hr0] at hx he
      simp only at he
      subst he
      repeat' first | (with_reducible first | refine AWP_seq' ?_ | refine k_normal ?_ | refine b_normal ?_ | refine AWP_skip ?_ | refine AWP_block ?_) | ((with_reducible refine And.intro ?_ ?_); · exact Sq) | ((with_reducible refine AWP_reg fun KC J hJ hKC => ?_); simp (maxSteps := 9999999) only [push_cast, seval, ↓reduceIte, hlt, getE_rowsC hx, pRow_nil, wrapN (i := i) (n := rows.length) (by omega) (by omega)]) | ((with_reducible refine hJ _ _ ?_); clear hJ hKC KC J) | ((with_reducible refine AWP_condT ?_ ?_); · rfl)
      refine ⟨⟨i + 1, by omega⟩, by simp only; omega, ?_, ⟨_, rfl⟩⟩
      exact Lq
    · skip
      repeat' first | (with_reducible first | refine AWP_seq' ?_ | refine k_normal ?_ | refine k_exit ?_ | refine b_exit ?_ | refine AWP_ret ?_ | refine AWP_exit ?_) | ((with_reducible refine AWP_reg fun KC J hJ hKC => ?_); simp (maxSteps := 9999999) only [push_cast, seval, ↓reduceIte, hlt]) | ((with_reducible refine hJ _ _ ?_); clear hJ hKC KC J) | ((with_reducible refine AWP_condF ?_ ?_); · rfl)
      refine ret_plain ?_
      simp (maxSteps := 9999999) only [push_cast, seval, ↓reduceIte, show Tryz.f253.results = #[(.tmp 2)] from rfl]
      exact Lq
end Go.Proofs.YtabliglgeiajlaaGreat.AM

namespace Go.Proofs.YtabliglgeiajlaaGreat.AM
open Go Go.RowKit Go.Proofs
set_option maxRecDepth 100000
set_option maxHeartbeats 4000000
theorem getS_len (l : List Slot) (x : Slot) (r : List Slot) : getS (l ++ x :: r) l.length = x := by rw [getS_eq, List.getElem?_append_right (Nat.le_refl _)]; simp
theorem getS_len1 (l : List Slot) (x y : Slot) (r : List Slot) : getS (l ++ x :: y :: r) (l.length + 1) = y := by rw [getS_eq, List.getElem?_append_right (by omega)]; simp
theorem set_len (l : List Slot) (x b : Slot) (r : List Slot) : (l ++ x :: r).set l.length b = l ++ b :: r := by simp
theorem set_len1 (l : List Slot) (x y b : Slot) (r : List Slot) : (l ++ x :: y :: r).set (l.length + 1) b = l ++ x :: b :: r := by
  rw [List.set_append_right _ _ (by omega)]; simp
theorem ret_itX {P : Program} {fn : Func} {st : St} {out : List Slot} {m : Nat} (ext : List Slot) {e : Exit} (he : e = .normal ∨ e = .ret) (hr : fn.results = #[]) (hσ : st.σ = out ++ ext) (hcl : Clsd out) (hl : out.length = m) : retK P fn m .any out e st := by
  refine ⟨he, List.range m, True, .tup [], by simp [resD, hr, resAll], trivial, List.nodup_range, fun k hk => by simp [hk], ?_, leD_any⟩
  rw [hσ, ← hl, pick_range_append]; exact hcl
def instQ (x : Int × Int × Int) : Int × Int := (x.2.1, if x.1 = 1 then x.2.2 else -1)
def slotQ (x : Bool × Int × Int) : Int × Int := (x.2.1, x.2.2)
def numsL (s : Sta) : List (Int × Int) := (s.v, s.l) :: (s.code.map instQ ++ ((s.mem ++ s.out) ++ s.stack.map slotQ))
theorem numbers_fn (s : Sta) : Fn Tryz.prog 167 [.agg (staF false false false false s)] [] (.fn 252 [.fad (staF false false false false s)]) [] := by
  simp only [staF]
  refine Fn.of (fn := Tryz.f167) (by kernel_rfl) rfl (by kernel_rfl) ⟨[.agg [.v (.int .i64 s.v), .v (.int .i64 s.l), .sl false 3 (tRow s.code), .sl false 2 (pRow s.mem), .sl false 3 (sRow s.stack), .sl false 2 (pRow s.out)], .v undef, .v undef, .v undef], []⟩ rfl ?_
  repeat' first | (with_reducible first | refine AWP_seq' ?_ | refine k_normal ?_) | ((with_reducible refine AWP_reg fun KC J hJ hKC => ?_); simp (maxSteps := 9999999) only [push_cast, seval, ↓reduceIte]) | ((with_reducible refine hJ _ _ ?_); clear hJ hKC KC J)
  refine AWP_freeze 0 rfl (by simp (maxSteps := 9999999) only [push_cast, seval, ↓reduceIte]) ?_
  simp (maxSteps := 9999999) only [push_cast, seval, ↓reduceIte, frSt, frSlot, fr3, fr2, fr1, fr0, sameB, arrOf, List.drop_zero]
  refine AWP_ret ?_
  refine ret_plain ?_
  simp (maxSteps := 9999999) only [push_cast, seval, ↓reduceIte, show Tryz.f167.results = #[(.tmp 2)] from rfl]
  exact Lq
theorem nums_atom {s : Sta} {i : Nat} {x : Int × Int} (h : (s.mem ++ s.out)[i]? = some x) : (numsL s)[1 + s.code.length + i]? = some x := by
  have hi := (List.getElem?_eq_some_iff.1 h).1
  rw [numsL, show 1 + s.code.length + i = (s.code.map instQ).length + i + 1 by simp; omega, List.getElem?_cons_succ, List.getElem?_append_right (by omega), show (s.code.map instQ).length + i - (s.code.map instQ).length = i by omega, List.getElem?_append_left hi, h]
theorem nums_slot {s : Sta} {i : Nat} {x : Bool × Int × Int} (h : s.stack[i]? = some x) : (numsL s)[1 + s.code.length + (s.mem ++ s.out).length + i]? = some (slotQ x) := by
  rw [numsL, show 1 + s.code.length + (s.mem ++ s.out).length + i = (s.code.map instQ).length + ((s.mem ++ s.out).length + i) + 1 by rw [List.length_map]; omega, List.getElem?_cons_succ, List.getElem?_append_right (by omega), show (s.code.map instQ).length + ((s.mem ++ s.out).length + i) - (s.code.map instQ).length = (s.mem ++ s.out).length + i by omega, List.getElem?_append_right (by omega), show (s.mem ++ s.out).length + i - (s.mem ++ s.out).length = i by omega, List.getElem?_map, h]; rfl
theorem nums_code {s : Sta} {i : Nat} {x : Int × Int × Int} (h : s.code[i]? = some x) : (numsL s)[1 + i]? = some (instQ x) := by
  have hi := (List.getElem?_eq_some_iff.1 h).1
  rw [numsL, show 1 + i = i + 1 by omega, List.getElem?_cons_succ, List.getElem?_append_left (by simpa using hi), List.getElem?_map, h]; rfl
theorem concat2_fn (a b : List (Int × Int)) (hb : a.length + b.length ≤ 1000) : Fn Tryz.prog 253 [.sl true 1 [[.sl false 2 (pRow a)], [.sl false 2 (pRow b)]]] [] (.sl false 2 (pRow (a ++ b))) [] := by
  by_cases h : 0 < (a ++ b).length
  · have := concatA_fn true [(false, a), (false, b)] (by simpa [flatC] using h) (by simp [flatC]; omega) (by simp)
    simpa [rowsC, flatC] using this
  · have ha : a = [] := List.length_eq_zero_iff.1 (by rw [List.length_append] at h; omega)
    have hb0 : b = [] := List.length_eq_zero_iff.1 (by rw [List.length_append] at h; omega)
    subst ha
    subst hb0
    exact concatA0_fn true [(false, []), (false, [])] (by simp) (by simp)
theorem numbers_it (s : Sta) (hs : Sml15 s) :
    ItFn Tryz.prog 252 [.fad (staF false false false false s)] (numsL s).length (fun i => [.v (.int .i64 ((numsL s).getD i (0, 0)).1), .v (.int .i64 ((numsL s).getD i (0, 0)).2)]) := by
  intro m inv ok frr rr hrec hcl hlen hy n hn
  obtain ⟨b1, b2, b3, b4⟩ := hs
  simp only [staF]
  refine Fn.of (fn := Tryz.f252) (by kernel_rfl) rfl (by kernel_rfl) ⟨[.kref false m 0, .fad [.v (.int .i64 s.v), .v (.int .i64 s.l), .sl false 3 (tRow s.code), .sl false 2 (pRow s.mem), .sl false 3 (sRow s.stack), .sl false 2 (pRow s.out)], .v undef, .v undef, .v undef, .v undef, .v undef, .v undef, .v undef, .v undef, .v undef, .v undef, .v undef, .v undef, .v undef, .v undef, .v undef, .v undef, .v undef, .v undef, .v undef, .v undef, .v undef, .v undef, .v undef, .v undef, .v undef, .v undef, .v undef, .v undef, .v undef, .v undef, .v undef, .v undef, .v undef, .v undef, .v undef, .v undef, .v undef, .v undef, .v undef, .v undef, .v undef, .v undef, .v undef, .v undef, .v undef, .v undef, .v undef, .v undef, .v undef, .v undef, .v undef, .v undef, .v undef, .v undef, .v undef, .v undef, .v undef, .v undef, .v undef, .v undef, .v undef, .v undef, .v undef, .v undef, .v undef, .v undef, .v undef, .v undef, .v undef, .v undef], inv 0⟩ rfl ?_
  have hyi := hy 0 (by simp [numsL]) (fun j hj => by omega)
  simp only [numsL, List.getD_cons_zero] at hyi
  have hL : (inv (0 + 1)).length = (inv 0).length := by rw [hlen, hlen]
  have hset := setsF_pre (rest := [Slot.free]) hL
  cases hok0 : ok 0 with
  | false =>
    rw [hok0] at hyi
    have hok : ∀ j, j < 0 → ok j = true := fun j hj => by omega
    repeat' first | (with_reducible first | refine AWP_seq' ?_ | refine k_normal ?_ | refine k_ret ?_ | refine AWP_ret ?_) | ((first | with_reducible refine AWP_reg fun KC J hJ hKC => ?_ | (refine hKC _ _ _ _ _ (callY hyi (hrec 0) (hcl 0) (hcl (0 + 1)) hL rfl (Nat.le_refl _) rfl rfl rfl rfl ?_))); simp (maxSteps := 9999999) only [push_cast, seval, ↓reduceIte, hset]) | ((with_reducible refine hJ _ _ ?_); clear hJ hKC KC J) | ((with_reducible refine AWP_condT ?_ ?_); · rfl)
    have hni : n = 0 + 1 := by
      rcases hn with ⟨h1, h2⟩ | ⟨k, h1, h2, h3, h4⟩
      · have := h2 (0) (by rw [h1]; simp [numsL] <;> omega); rw [hok0] at this; cases this
      · rcases Nat.lt_trichotomy k (0) with h | h | h
        · have := hok k h; rw [h3] at this; cases this
        · omega
        · have := h4 (0) h; rw [hok0] at this; cases this
    rw [hni, hlen]
    exact ret_itX [.free] (.inr rfl) rfl rfl (hcl _) (by rw [hlen])
  | true =>
    rw [hok0] at hyi
    have hok : ∀ j, j < 1 + 0 → ok j = true := fun j hj => by rw [show j = 0 by omega]; exact hok0
    repeat' first | (with_reducible first | refine AWP_seq' ?_ | refine k_normal ?_ | refine AWP_skip ?_ | refine AWP_block ?_) | ((first | with_reducible refine AWP_reg fun KC J hJ hKC => ?_ | (refine hKC _ _ _ _ _ (callY hyi (hrec 0) (hcl 0) (hcl (0 + 1)) hL rfl (Nat.le_refl _) rfl rfl rfl rfl ?_))); simp (maxSteps := 9999999) only [push_cast, seval, ↓reduceIte, hset]) | ((with_reducible refine hJ _ _ ?_); clear hJ hKC KC J) | ((with_reducible refine AWP_condF ?_ ?_); · rfl)
    refine AWP_loopD (m + 1) (γ := {i : Nat // i ≤ s.code.length ∧ ∀ j, j < 1 + i → ok j = true}) (fun i => ⟨[.kref false m 0, .fad [.v (.int .i64 s.v), .v (.int .i64 s.l), .sl false 3 (tRow s.code), .sl false 2 (pRow s.mem), .sl false 3 (sRow s.stack), .sl false 2 (pRow s.out)], .any, .any, .any, .any, .any, .any, .any, .any, .any, .any, .any, .any, .any, .any, .any, .any, .any, .any, .sl false 3 (tRow s.code), .v (.int .i64 s.code.length), .v (.int .i64 i.1), .any, .any, .any, .any, .any, .any, .any, .any, .any, .any, .any, .any, .any, .any, .any, .any, .any, .any, .any, .any, .any, .any, .any, .any, .any, .any, .any, .any, .any, .any, .any, .any, .any, .any, .any, .any, .any, .any, .any, .any, .any, .any, .any, .any, .any, .any, .any, .any, .any], inv (1 + i.1)⟩) (fun i => s.code.length - i.1) ⟨0, by omega, hok⟩ (fun i => hlen _) (fun i => hcl _) (fun i => ?_) ⟨?_, ?_⟩ ?_
    · simp only [List.map_cons, List.map_nil, ren, ren2, ren1, ren0, mOf_range, Nat.lt_succ_self, if_true]
    · exact Lq
    · exact Fq
    clear hok
    rintro ⟨i, hi, hok⟩
    dsimp only
    by_cases hlt : (i : Int) < (s.code.length : Int)
    · have hx : s.code[i]? = some s.code[i] := List.getElem?_eq_getElem (by omega)
      obtain ⟨x, hxx⟩ : ∃ x, s.code[i] = x := ⟨_, rfl⟩
      rw [hxx] at hx
      have hyi := hy (1 + i) (by simp [numsL]; omega) hok
      have hat : (numsL s).getD (1 + i) (0, 0) = instQ x := by
        rw [List.getD_eq_getElem?_getD, nums_code hx]; rfl
      simp only [hat] at hyi
      obtain ⟨K, hK⟩ : ∃ K, 1 + i = K := ⟨_, rfl⟩
      have hK1 : 1 + (i + 1) = K + 1 := by omega
      rw [hK] at hyi hok ⊢
      have hL : (inv (K + 1)).length = (inv K).length := by rw [hlen, hlen]
      by_cases h1 : x.1 = 1
      · have h1' : (x.1 == 1) = true := by simpa using h1
        simp only [instQ, if_pos h1] at hyi
        have hset := setsF_pre (rest := [Slot.ent ⟨0, none, 100, [.v (.int .i64 x.1), .v (.int .i64 x.2.1), .v (.int .i64 x.2.2)], .cells⟩, Slot.free]) hL
        cases hoki : ok K with
        | true =>
          rw [hoki] at hyi
          repeat' first | (with_reducible first | refine AWP_seq' ?_ | refine k_normal ?_ | refine b_normal ?_ | refine AWP_skip ?_ | refine AWP_block ?_) | ((with_reducible refine And.intro ?_ ?_); · exact Sq) | ((first | with_reducible refine AWP_reg fun KC J hJ hKC => ?_ | (refine hKC _ _ _ _ _ (callY hyi (hrec K) (hcl K) (hcl (K + 1)) hL rfl (Nat.le_succ _) rfl rfl rfl rfl ?_))); simp (maxSteps := 9999999) only [push_cast, seval, ↓reduceIte, hlt, h1', getE_t hx, hset, getS_len, getS_len1, set_len, set_len1, List.append_assoc, List.cons_append, List.nil_append, wrapN (i := i) (n := s.code.length) (by omega) (by omega)]) | ((with_reducible refine hJ _ _ ?_); clear hJ hKC KC J) | ((with_reducible refine AWP_condT ?_ ?_); · rfl) | ((with_reducible refine AWP_condF ?_ ?_); · rfl)
          refine ⟨⟨i + 1, by omega, fun j hj => ?_⟩, by simp only; omega, ?_, ?_⟩
          · by_cases he : j = K
            · rw [he]; exact hoki
            · exact hok j (by omega)
          · exact Lq
          · simp only [hK1]; exact ⟨_, rfl⟩
        | false =>
          rw [hoki] at hyi
          repeat' first | (with_reducible first | refine AWP_seq' ?_ | refine k_normal ?_ | refine k_ret ?_ | refine b_ret ?_ | refine AWP_ret ?_ | refine AWP_skip ?_ | refine AWP_block ?_) | ((with_reducible refine And.intro ?_ ?_); · exact Sq) | ((first | with_reducible refine AWP_reg fun KC J hJ hKC => ?_ | (refine hKC _ _ _ _ _ (callY hyi (hrec K) (hcl K) (hcl (K + 1)) hL rfl (Nat.le_succ _) rfl rfl rfl rfl ?_))); simp (maxSteps := 9999999) only [push_cast, seval, ↓reduceIte, hlt, h1', getE_t hx, hset, getS_len, getS_len1, set_len, set_len1, List.append_assoc, List.cons_append, List.nil_append, wrapN (i := i) (n := s.code.length) (by omega) (by omega)]) | ((with_reducible refine hJ _ _ ?_); clear hJ hKC KC J) | ((with_reducible refine AWP_condT ?_ ?_); · rfl)
          have hni : n = K + 1 := by
            rcases hn with ⟨h1, h2⟩ | ⟨k, h1, h2, h3, h4⟩
            · have := h2 (K) (by rw [h1]; simp [numsL] <;> omega); rw [hoki] at this; cases this
            · rcases Nat.lt_trichotomy k (K) with h | h | h
              · have := hok k h; rw [h3] at this; cases this
              · omega
              · have := h4 (K) h; rw [hoki] at this; cases this
          rw [hni, hlen]
          exact ret_itX [_, _] (.inr rfl) rfl rfl (hcl _) (by rw [hlen])
      · have h1' : (x.1 == 1) = false := by simpa using h1
        simp only [instQ, if_neg h1] at hyi
        have hset := setsF_pre (rest := [Slot.ent ⟨0, none, 100, [.v (.int .i64 x.1), .v (.int .i64 x.2.1), .v (.int .i64 x.2.2)], .cells⟩, Slot.free]) hL
        cases hoki : ok K with
        | true =>
          rw [hoki] at hyi
          repeat' first | (with_reducible first | refine AWP_seq' ?_ | refine k_normal ?_ | refine b_normal ?_ | refine AWP_skip ?_ | refine AWP_block ?_) | ((with_reducible refine And.intro ?_ ?_); · exact Sq) | ((first | with_reducible refine AWP_reg fun KC J hJ hKC => ?_ | (refine hKC _ _ _ _ _ (callY hyi (hrec K) (hcl K) (hcl (K + 1)) hL rfl (Nat.le_succ _) rfl rfl rfl rfl ?_))); simp (maxSteps := 9999999) only [push_cast, seval, ↓reduceIte, hlt, h1', getE_t hx, hset, getS_len, getS_len1, set_len, set_len1, List.append_assoc, List.cons_append, List.nil_append, wrapN (i := i) (n := s.code.length) (by omega) (by omega)]) | ((with_reducible refine hJ _ _ ?_); clear hJ hKC KC J) | ((with_reducible refine AWP_condT ?_ ?_); · rfl) | ((with_reducible refine AWP_condF ?_ ?_); · rfl)
          refine ⟨⟨i + 1, by omega, fun j hj => ?_⟩, by simp only; omega, ?_, ?_⟩
          · by_cases he : j = K
            · rw [he]; exact hoki
            · exact hok j (by omega)
          · exact Lq
          · simp only [hK1]; exact ⟨_, rfl⟩
        | false =>
          rw [hoki] at hyi
          repeat' first | (with_reducible first | refine AWP_seq' ?_ | refine k_normal ?_ | refine k_ret ?_ | refine b_ret ?_ | refine AWP_ret ?_ | refine AWP_skip ?_ | refine AWP_block ?_) | ((with_reducible refine And.intro ?_ ?_); · exact Sq) | ((first | with_reducible refine AWP_reg fun KC J hJ hKC => ?_ | (refine hKC _ _ _ _ _ (callY hyi (hrec K) (hcl K) (hcl (K + 1)) hL rfl (Nat.le_succ _) rfl rfl rfl rfl ?_))); simp (maxSteps := 9999999) only [push_cast, seval, ↓reduceIte, hlt, h1', getE_t hx, hset, getS_len, getS_len1, set_len, set_len1, List.append_assoc, List.cons_append, List.nil_append, wrapN (i := i) (n := s.code.length) (by omega) (by omega)]) | ((with_reducible refine hJ _ _ ?_); clear hJ hKC KC J) | ((with_reducible refine AWP_condT ?_ ?_); · rfl) | ((with_reducible refine AWP_condF ?_ ?_); · rfl)
          have hni : n = K + 1 := by
            rcases hn with ⟨h1, h2⟩ | ⟨k, h1, h2, h3, h4⟩
            · have := h2 (K) (by rw [h1]; simp [numsL] <;> omega); rw [hoki] at this; cases this
            · rcases Nat.lt_trichotomy k (K) with h | h | h
              · have := hok k h; rw [h3] at this; cases this
              · omega
              · have := h4 (K) h; rw [hoki] at this; cases this
          rw [hni, hlen]
          exact ret_itX [_, _] (.inr rfl) rfl rfl (hcl _) (by rw [hlen])
    have hin : i = s.code.length := by omega
    subst hin
    have hcc : Fn Tryz.prog 253 [.sl true 1 [[.sl false 2 (pRow s.mem)], [.sl false 2 (pRow s.out)]]] [] (.sl false 2 (pRow (s.mem ++ s.out))) [] := concat2_fn s.mem s.out (by omega)
    obtain ⟨A, hA⟩ : ∃ A, s.mem ++ s.out = A := ⟨_, rfl⟩
    have hAl : A.length = s.mem.length + s.out.length := by rw [← hA, List.length_append]
    have hnA : (numsL s).length = 1 + s.code.length + A.length + s.stack.length := by rw [hAl]; simp [numsL]; omega
    have nums_atomA : ∀ {i : Nat} {x : Int × Int}, A[i]? = some x → (numsL s)[1 + s.code.length + i]? = some x := fun h => nums_atom (by rw [hA]; exact h)
    have nums_slotA : ∀ {i : Nat} {x : Bool × Int × Int}, s.stack[i]? = some x → (numsL s)[1 + s.code.length + A.length + i]? = some (slotQ x) := fun h => by rw [← hA]; exact nums_slot h
    rw [hA] at hcc
    repeat' first | (with_reducible first | refine AWP_seq' ?_ | refine k_normal ?_ | refine k_exit ?_ | refine b_exit ?_ | refine AWP_exit ?_ | refine AWP_block ?_) | ((first | with_reducible refine AWP_reg fun KC J hJ hKC => ?_ | (refine hKC _ _ _ _ _ (callV0 (hcc) rfl rfl rfl ?_ ?_); (· exact Lq))); simp (maxSteps := 9999999) only [push_cast, seval, ↓reduceIte, hlt]) | ((with_reducible refine hJ _ _ ?_); clear hJ hKC KC J) | ((with_reducible refine AWP_condF ?_ ?_); · rfl)
    clear hlt
    refine AWP_loopD (m + 1) (γ := {i : Nat // i ≤ A.length ∧ ∀ j, j < 1 + s.code.length + i → ok j = true}) (fun i => ⟨[.kref false m 0, .fad [.v (.int .i64 s.v), .v (.int .i64 s.l), .sl false 3 (tRow s.code), .sl false 2 (pRow s.mem), .sl false 3 (sRow s.stack), .sl false 2 (pRow s.out)], .any, .any, .any, .any, .any, .any, .any, .any, .any, .any, .any, .any, .any, .any, .any, .any, .any, .any, .any, .any, .any, .any, .any, .any, .any, .any, .any, .any, .any, .any, .any, .any, .any, .any, .any, .any, .any, .any, .any, .any, .any, .sl false 2 (pRow A), .v (.int .i64 A.length), .v (.int .i64 i.1), .any, .any, .any, .any, .any, .any, .any, .any, .any, .any, .any, .any, .any, .any, .any, .any, .any, .any, .any, .any, .any, .any, .any, .any, .any, .any], inv (1 + s.code.length + i.1)⟩) (fun i => A.length - i.1) ⟨0, by omega, hok⟩ (fun i => hlen _) (fun i => hcl _) (fun i => ?_) ⟨?_, ?_⟩ ?_
    · simp only [List.map_cons, List.map_nil, ren, ren2, ren1, ren0, mOf_range, Nat.lt_succ_self, if_true]
    · exact Lq
    · exact Fq
    clear hok
    rintro ⟨i, hi, hok⟩
    dsimp only
    by_cases hlt : (i : Int) < (A.length : Int)
    · have hx : A[i]? = some A[i] := List.getElem?_eq_getElem (by omega)
      obtain ⟨x, hxx⟩ : ∃ x, A[i] = x := ⟨_, rfl⟩
      rw [hxx] at hx
      have hyi := hy (1 + s.code.length + i) (by rw [hnA]; omega) hok
      have hat : (numsL s).getD (1 + s.code.length + i) (0, 0) = x := by
        rw [List.getD_eq_getElem?_getD, nums_atomA hx]; rfl
      simp only [hat] at hyi
      obtain ⟨K, hK⟩ : ∃ K, 1 + s.code.length + i = K := ⟨_, rfl⟩
      have hK1 : 1 + s.code.length + (i + 1) = K + 1 := by omega
      rw [hK] at hyi hok ⊢
      have hL : (inv (K + 1)).length = (inv K).length := by rw [hlen, hlen]
      have hset := setsF_pre (rest := [Slot.ent ⟨0, none, 34, [.v (.int .i64 x.1), .v (.int .i64 x.2)], .cells⟩, Slot.free]) hL
      cases hoki : ok K with
      | true =>
        rw [hoki] at hyi
        repeat' first | (with_reducible first | refine AWP_seq' ?_ | refine k_normal ?_ | refine b_normal ?_ | refine AWP_skip ?_ | refine AWP_block ?_) | ((with_reducible refine And.intro ?_ ?_); · exact Sq) | ((first | with_reducible refine AWP_reg fun KC J hJ hKC => ?_ | (refine hKC _ _ _ _ _ (callY hyi (hrec K) (hcl K) (hcl (K + 1)) hL rfl (Nat.le_succ _) rfl rfl rfl rfl ?_))); simp (maxSteps := 9999999) only [push_cast, seval, ↓reduceIte, hlt, getE_p hx, hset, getS_len, getS_len1, set_len, set_len1, List.append_assoc, List.cons_append, List.nil_append, wrapN (i := i) (n := A.length) (by omega) (by omega)]) | ((with_reducible refine hJ _ _ ?_); clear hJ hKC KC J) | ((with_reducible refine AWP_condT ?_ ?_); · rfl) | ((with_reducible refine AWP_condF ?_ ?_); · rfl)
        refine ⟨⟨i + 1, by omega, fun j hj => ?_⟩, by simp only; omega, ?_, ?_⟩
        · by_cases he : j = K
          · rw [he]; exact hoki
          · exact hok j (by omega)
        · exact Lq
        · simp only [hK1]; exact ⟨_, rfl⟩
      | false =>
        rw [hoki] at hyi
        repeat' first | (with_reducible first | refine AWP_seq' ?_ | refine k_normal ?_ | refine k_ret ?_ | refine b_ret ?_ | refine AWP_ret ?_ | refine AWP_skip ?_ | refine AWP_block ?_) | ((with_reducible refine And.intro ?_ ?_); · exact Sq) | ((first | with_reducible refine AWP_reg fun KC J hJ hKC => ?_ | (refine hKC _ _ _ _ _ (callY hyi (hrec K) (hcl K) (hcl (K + 1)) hL rfl (Nat.le_succ _) rfl rfl rfl rfl ?_))); simp (maxSteps := 9999999) only [push_cast, seval, ↓reduceIte, hlt, getE_p hx, hset, getS_len, getS_len1, set_len, set_len1, List.append_assoc, List.cons_append, List.nil_append, wrapN (i := i) (n := A.length) (by omega) (by omega)]) | ((with_reducible refine hJ _ _ ?_); clear hJ hKC KC J) | ((with_reducible refine AWP_condT ?_ ?_); · rfl)
        have hni : n = K + 1 := by
          rcases hn with ⟨h1, h2⟩ | ⟨k, h1, h2, h3, h4⟩
          · have := h2 (K) (by rw [h1, hnA]; omega); rw [hoki] at this; cases this
          · rcases Nat.lt_trichotomy k (K) with h | h | h
            · have := hok k h; rw [h3] at this; cases this
            · omega
            · have := h4 (K) h; rw [hoki] at this; cases this
        rw [hni, hlen]
        exact ret_itX [_, _] (.inr rfl) rfl rfl (hcl _) (by rw [hlen])
    have hin : i = A.length := by omega
    subst hin
    repeat' first | (with_reducible first | refine AWP_seq' ?_ | refine k_normal ?_ | refine k_exit ?_ | refine b_exit ?_ | refine AWP_exit ?_ | refine AWP_block ?_) | ((with_reducible refine AWP_reg fun KC J hJ hKC => ?_); simp (maxSteps := 9999999) only [push_cast, seval, ↓reduceIte, hlt]) | ((with_reducible refine hJ _ _ ?_); clear hJ hKC KC J) | ((with_reducible refine AWP_condF ?_ ?_); · rfl)
    clear hlt
    refine AWP_loopD (m + 1) (γ := {i : Nat // i ≤ s.stack.length ∧ ∀ j, j < 1 + s.code.length + A.length + i → ok j = true}) (fun i => ⟨[.kref false m 0, .fad [.v (.int .i64 s.v), .v (.int .i64 s.l), .sl false 3 (tRow s.code), .sl false 2 (pRow s.mem), .sl false 3 (sRow s.stack), .sl false 2 (pRow s.out)], .any, .any, .any, .any, .any, .any, .any, .any, .any, .any, .any, .any, .any, .any, .any, .any, .any, .any, .any, .any, .any, .any, .any, .any, .any, .any, .any, .any, .any, .any, .any, .any, .any, .any, .any, .any, .any, .any, .any, .any, .any, .any, .any, .any, .any, .any, .any, .any, .any, .any, .any, .any, .any, .any, .any, .any, .sl false 3 (sRow s.stack), .v (.int .i64 s.stack.length), .v (.int .i64 i.1), .any, .any, .any, .any, .any, .any, .any, .any, .any, .any, .any], inv (1 + s.code.length + A.length + i.1)⟩) (fun i => s.stack.length - i.1) ⟨0, by omega, hok⟩ (fun i => hlen _) (fun i => hcl _) (fun i => ?_) ⟨?_, ?_⟩ ?_
    · simp only [List.map_cons, List.map_nil, ren, ren2, ren1, ren0, mOf_range, Nat.lt_succ_self, if_true]
    · exact Lq
    · exact Fq
    clear hok
    rintro ⟨i, hi, hok⟩
    dsimp only
    by_cases hlt : (i : Int) < (s.stack.length : Int)
    · have hx : s.stack[i]? = some s.stack[i] := List.getElem?_eq_getElem (by omega)
      obtain ⟨x, hxx⟩ : ∃ x, s.stack[i] = x := ⟨_, rfl⟩
      rw [hxx] at hx
      have hyi := hy (1 + s.code.length + A.length + i) (by rw [hnA]; omega) hok
      have hat : (numsL s).getD (1 + s.code.length + A.length + i) (0, 0) = slotQ x := by
        rw [List.getD_eq_getElem?_getD, nums_slotA hx]; rfl
      simp only [hat, slotQ] at hyi
      obtain ⟨K, hK⟩ : ∃ K, 1 + s.code.length + A.length + i = K := ⟨_, rfl⟩
      have hK1 : 1 + s.code.length + A.length + (i + 1) = K + 1 := by omega
      rw [hK] at hyi hok ⊢
      have hL : (inv (K + 1)).length = (inv K).length := by rw [hlen, hlen]
      have hset := setsF_pre (rest := [Slot.ent ⟨0, none, 104, [.v (.bool x.1), .v (.int .i64 x.2.1), .v (.int .i64 x.2.2)], .cells⟩, Slot.free]) hL
      cases hoki : ok K with
      | true =>
        rw [hoki] at hyi
        repeat' first | (with_reducible first | refine AWP_seq' ?_ | refine k_normal ?_ | refine b_normal ?_ | refine AWP_skip ?_ | refine AWP_block ?_) | ((with_reducible refine And.intro ?_ ?_); · exact Sq) | ((first | with_reducible refine AWP_reg fun KC J hJ hKC => ?_ | (refine hKC _ _ _ _ _ (callY hyi (hrec K) (hcl K) (hcl (K + 1)) hL rfl (Nat.le_succ _) rfl rfl rfl rfl ?_))); simp (maxSteps := 9999999) only [push_cast, seval, ↓reduceIte, hlt, getE_s hx, hset, getS_len, getS_len1, set_len, set_len1, List.append_assoc, List.cons_append, List.nil_append, wrapN (i := i) (n := s.stack.length) (by omega) (by omega)]) | ((with_reducible refine hJ _ _ ?_); clear hJ hKC KC J) | ((with_reducible refine AWP_condT ?_ ?_); · rfl) | ((with_reducible refine AWP_condF ?_ ?_); · rfl)
        refine ⟨⟨i + 1, by omega, fun j hj => ?_⟩, by simp only; omega, ?_, ?_⟩
        · by_cases he : j = K
          · rw [he]; exact hoki
          · exact hok j (by omega)
        · exact Lq
        · simp only [hK1]; exact ⟨_, rfl⟩
      | false =>
        rw [hoki] at hyi
        repeat' first | (with_reducible first | refine AWP_seq' ?_ | refine k_normal ?_ | refine k_ret ?_ | refine b_ret ?_ | refine AWP_ret ?_ | refine AWP_skip ?_ | refine AWP_block ?_) | ((with_reducible refine And.intro ?_ ?_); · exact Sq) | ((first | with_reducible refine AWP_reg fun KC J hJ hKC => ?_ | (refine hKC _ _ _ _ _ (callY hyi (hrec K) (hcl K) (hcl (K + 1)) hL rfl (Nat.le_succ _) rfl rfl rfl rfl ?_))); simp (maxSteps := 9999999) only [push_cast, seval, ↓reduceIte, hlt, getE_s hx, hset, getS_len, getS_len1, set_len, set_len1, List.append_assoc, List.cons_append, List.nil_append, wrapN (i := i) (n := s.stack.length) (by omega) (by omega)]) | ((with_reducible refine hJ _ _ ?_); clear hJ hKC KC J) | ((with_reducible refine AWP_condT ?_ ?_); · rfl)
        have hni : n = K + 1 := by
          rcases hn with ⟨h1, h2⟩ | ⟨k, h1, h2, h3, h4⟩
          · have := h2 (K) (by rw [h1, hnA]; omega); rw [hoki] at this; cases this
          · rcases Nat.lt_trichotomy k (K) with h | h | h
            · have := hok k h; rw [h3] at this; cases this
            · omega
            · have := h4 (K) h; rw [hoki] at this; cases this
        rw [hni, hlen]
        exact ret_itX [_, _] (.inr rfl) rfl rfl (hcl _) (by rw [hlen])
    have hin : i = s.stack.length := by omega
    subst hin
    repeat' first | (with_reducible first | refine AWP_seq' ?_ | refine k_normal ?_ | refine k_exit ?_ | refine b_exit ?_ | refine AWP_exit ?_) | ((with_reducible refine AWP_reg fun KC J hJ hKC => ?_); simp (maxSteps := 9999999) only [push_cast, seval, ↓reduceIte, hlt]) | ((with_reducible refine hJ _ _ ?_); clear hJ hKC KC J) | ((with_reducible refine AWP_condF ?_ ?_); · rfl)
    have hni : n = 1 + s.code.length + A.length + s.stack.length := by
      rcases hn with ⟨h1, h2⟩ | ⟨k, h1, h2, h3, h4⟩
      · rw [h1, hnA]
      · have := hok k (by omega); rw [h3] at this; cases this
    rw [hni, hlen]
    exact ret_itX [] (.inl rfl) rfl (by simp) (hcl _) (by rw [hlen])
end Go.Proofs.YtabliglgeiajlaaGreat.AM

namespace Go.Proofs.YtabliglgeiajlaaGreat.AM
open Go Go.RowKit Go.Proofs
set_option maxRecDepth 100000
set_option maxHeartbeats 4000000
@[reducible] def encZ (z : Int × Int × Int) : List D := [.v (.int .i64 z.1), .v (.int .i64 z.2.1), .v (.int .i64 z.2.2)]
def lexB (a b : Int × Int × Int) : Bool := if a.1 = b.1 then (if a.2.1 = b.2.1 then decide (a.2.2 < b.2.2) else decide (a.2.1 < b.2.1)) else decide (a.1 < b.1)
def mayT (ns : List ByteArray) (us : List Nat) (a b : Sta) : Int := if checkF ns us = 0 then (if staB us.length a = true ∧ staB us.length b = true then 0 else 1) else checkF ns us
@[reducible] def encT (a b : Sta) : List D := staF false false false false a ++ staF false false false false b
theorem mvMay_fn (f g : Bool) (ns : List ByteArray) (us : List Nat) (a b : Sta) (hs : Szs ns) (hu : U32 us) (ha : Sml a) (hb : Sml b) :
    Fn Tryz.prog 62 [.agg [.sl f 1 (strRow ns), .sl g 1 (u32Row us)], .agg (encT a b)] [] (.v (.int .i64 (mayT ns us a b))) [] := by
  have h1 := latCheck_fn f g ns us hs hu
  unfold mayT
  by_cases hc : checkF ns us = 0
  · have h2 := stRight_fn f g ns us a hs hu hc ha
    have h3 := stRight_fn f g ns us b hs hu hc hb
    rw [hc] at h1
    rw [if_pos hc]
    obtain ⟨p, hp⟩ : ∃ p, staB us.length a = p := ⟨_, rfl⟩
    obtain ⟨q, hq⟩ : ∃ p, staB us.length b = p := ⟨_, rfl⟩
    rw [hp] at h2
    rw [hq] at h3
    rw [hp, hq]
    simp only [encT, staF, List.cons_append, List.nil_append] at h2 h3 ⊢
    cases p <;> cases q
    all_goals
      refine Fn.of (fn := Tryz.f62) (by kernel_rfl) rfl (by kernel_rfl) ⟨[.agg [.sl f 1 (strRow ns), .sl g 1 (u32Row us)], .agg [.v (.int .i64 a.v), .v (.int .i64 a.l), .sl false 3 (tRow a.code), .sl false 2 (pRow a.mem), .sl false 3 (sRow a.stack), .sl false 2 (pRow a.out), .v (.int .i64 b.v), .v (.int .i64 b.l), .sl false 3 (tRow b.code), .sl false 2 (pRow b.mem), .sl false 3 (sRow b.stack), .sl false 2 (pRow b.out)], .v undef, .v undef, .v undef, .v undef, .v undef, .v undef, .v undef, .v undef, .v undef, .v undef, .v undef, .v undef, .v undef, .v undef, .v undef, .v undef, .v undef, .v undef, .v undef, .v undef, .v undef], []⟩ rfl ?_
      repeat' first | (with_reducible first | refine AWP_seq' ?_ | refine k_normal ?_ | refine k_ret ?_ | refine AWP_ret ?_ | refine AWP_skip ?_) | ((first | with_reducible refine AWP_reg fun KC J hJ hKC => ?_ | (refine hKC _ _ _ _ _ (callV0 (h1) rfl rfl rfl ?_ ?_); (· exact Lq)) | (refine hKC _ _ _ _ _ (callV0 (h2) rfl rfl rfl ?_ ?_); (· exact Lq)) | (refine hKC _ _ _ _ _ (callV0 (h3) rfl rfl rfl ?_ ?_); (· exact Lq))); simp (maxSteps := 9999999) only [push_cast, seval, ↓reduceIte, bne_self_eq_false]) | ((with_reducible refine hJ _ _ ?_); clear hJ hKC KC J) | ((with_reducible refine AWP_condT ?_ ?_); · rfl) | ((with_reducible refine AWP_condF ?_ ?_); · rfl)
      refine ret_plain ?_
      simp (maxSteps := 9999999) only [push_cast, seval, ↓reduceIte, show Tryz.f62.results = #[(.tmp 4)] from rfl]
      exact Lq
  · rw [if_neg hc]
    obtain ⟨c, hcc⟩ : ∃ c, checkF ns us = c := ⟨_, rfl⟩
    rw [hcc] at h1 hc ⊢
    have hc' : (c != 0) = true := by simpa using hc
    simp only [encT, staF, List.cons_append, List.nil_append]
    refine Fn.of (fn := Tryz.f62) (by kernel_rfl) rfl (by kernel_rfl) ⟨[.agg [.sl f 1 (strRow ns), .sl g 1 (u32Row us)], .agg [.v (.int .i64 a.v), .v (.int .i64 a.l), .sl false 3 (tRow a.code), .sl false 2 (pRow a.mem), .sl false 3 (sRow a.stack), .sl false 2 (pRow a.out), .v (.int .i64 b.v), .v (.int .i64 b.l), .sl false 3 (tRow b.code), .sl false 2 (pRow b.mem), .sl false 3 (sRow b.stack), .sl false 2 (pRow b.out)], .v undef, .v undef, .v undef, .v undef, .v undef, .v undef, .v undef, .v undef, .v undef, .v undef, .v undef, .v undef, .v undef, .v undef, .v undef, .v undef, .v undef, .v undef, .v undef, .v undef, .v undef], []⟩ rfl ?_
    repeat' first | (with_reducible first | refine AWP_seq' ?_ | refine k_normal ?_ | refine k_ret ?_ | refine AWP_ret ?_) | ((first | with_reducible refine AWP_reg fun KC J hJ hKC => ?_ | (refine hKC _ _ _ _ _ (callV0 (h1) rfl rfl rfl ?_ ?_); (· exact Lq))); simp (maxSteps := 9999999) only [push_cast, seval, ↓reduceIte, hc']) | ((with_reducible refine hJ _ _ ?_); clear hJ hKC KC J) | ((with_reducible refine AWP_condT ?_ ?_); · rfl)
    refine ret_plain ?_
    simp (maxSteps := 9999999) only [push_cast, seval, ↓reduceIte, show Tryz.f62.results = #[(.tmp 4)] from rfl]
    exact Lq
end Go.Proofs.YtabliglgeiajlaaGreat.AM

namespace Go.Proofs.YtabliglgeiajlaaGreat.AM
open Go Go.RowKit Go.Proofs
theorem tCells_length (l : List (Int × Int × Int)) : (tCells l).length = l.length * 3 := by
  induction l with
  | nil => rfl
  | cons a l ih => simp [tCells, tRow] at *; omega
theorem tCells_app (l m : List (Int × Int × Int)) : tCells (l ++ m) = tCells l ++ tCells m := by simp [tCells, tRow]
@[push_cast] theorem frz_tCells (l : List (Int × Int × Int)) : frzAll (tCells l) = true := by
  induction l with
  | nil => rfl
  | cons a l ih => simpa [tCells, tRow, frzAll, frz, frz0] using ih
@[push_cast] theorem fr_tCells (k g sz : Nat) (c : List D) (l : List (Int × Int × Int)) : (tCells l).map (fr1 k g sz c) = tCells l := by
  induction l with
  | nil => rfl
  | cons a l ih => simpa [tCells, tRow, fr1, fr0] using ih
theorem chunk_t (l : List (Int × Int × Int)) : chunk 3 l.length (tCells l) = tRow l := by
  induction l with
  | nil => rfl
  | cons a l ih => simpa [tCells, tRow, chunk] using ih
theorem ren_tCells (m : Nat → Option Nat) (l : List (Int × Int × Int)) : (tCells l).map (ren m) = tCells l := by
  induction l with
  | nil => rfl
  | cons a l ih => simpa [tCells, tRow, ren, ren2, ren1, ren0] using ih
theorem sCells_length (l : List (Bool × Int × Int)) : (sCells l).length = l.length * 3 := by
  induction l with
  | nil => rfl
  | cons a l ih => simp [sCells, sRow] at *; omega
theorem sCells_app (l m : List (Bool × Int × Int)) : sCells (l ++ m) = sCells l ++ sCells m := by simp [sCells, sRow]
@[push_cast] theorem frz_sCells (l : List (Bool × Int × Int)) : frzAll (sCells l) = true := by
  induction l with
  | nil => rfl
  | cons a l ih => simpa [sCells, sRow, frzAll, frz, frz0] using ih
@[push_cast] theorem fr_sCells (k g sz : Nat) (c : List D) (l : List (Bool × Int × Int)) : (sCells l).map (fr1 k g sz c) = sCells l := by
  induction l with
  | nil => rfl
  | cons a l ih => simpa [sCells, sRow, fr1, fr0] using ih
theorem chunk_s (l : List (Bool × Int × Int)) : chunk 3 l.length (sCells l) = sRow l := by
  induction l with
  | nil => rfl
  | cons a l ih => simpa [sCells, sRow, chunk] using ih
theorem ren_sCells (m : Nat → Option Nat) (l : List (Bool × Int × Int)) : (sCells l).map (ren m) = sCells l := by
  induction l with
  | nil => rfl
  | cons a l ih => simpa [sCells, sRow, ren, ren2, ren1, ren0] using ih
theorem take_len {l : List D} {n : Nat} (h : l.length = n) : l.take n = l := List.take_of_length_le (by omega)
def eR (k n : Nat) : D := if n = 0 then .v (.slice none 0 0) else .ref k (n - 1) n
def σR (p : List Slot) (dd n sz ty : Nat) (cs : List D) : List Slot := if n = 0 then p else p ++ List.replicate dd .dead ++ [.ent ⟨n - 1, some sz, ty, cs, .cells⟩]
theorem rCase (p : List Slot) (k dd n sz ty : Nat) (cs : List D) : (n = 0 ∧ eR k n = .v (.slice none 0 0) ∧ σR p dd n sz ty cs = p) ∨ (∃ j, n = j + 1 ∧ eR k n = .ref k j (j + 1) ∧ σR p dd n sz ty cs = p ++ List.replicate dd .dead ++ [.ent ⟨j, some sz, ty, cs, .cells⟩]) := by
  cases n with
  | zero => exact .inl ⟨rfl, rfl, rfl⟩
  | succ j => exact .inr ⟨j, rfl, rfl, rfl⟩
end Go.Proofs.YtabliglgeiajlaaGreat.AM

namespace Go.Proofs.YtabliglgeiajlaaGreat.AM
open Go Go.RowKit Go.Proofs
set_option maxRecDepth 100000
set_option maxHeartbeats 4000000
theorem Fn.nilR {P : Program} {f : Nat} {full : Bool} {sz : Nat} {res : D} {out : List Slot} (h : ∀ A cap, Fn P f [.v (.slice A 0 cap)] [] res out) : Fn P f [.sl full sz []] [] res out where
  spec := fun N0 ρ w vs hp hs hr => by
    have h0 : 0 < vs.size := by rw [hs]; simp
    have hv : vs[0]? = some vs[0] := Array.getElem?_eq_getElem h0
    have hrep := (hr 0 _ _ rfl hv).sl_inv
    generalize hu : vs[0] = u at hrep
    cases hrep with
    | sl0 _ _ A cap _ =>
      refine (h A cap).spec N0 ρ w vs hp (by rw [hs]; rfl) fun j d u hd hu' => ?_
      cases j with
      | zero =>
        simp only [List.getElem?_cons_zero, Option.some.injEq] at hd
        rw [hv, hu] at hu'
        cases hu'
        subst hd
        exact .fro _ _ (.v _)
      | succ j => simp at hd
    | sl _ _ _ b o cap n g hn hpos => simp at hn; omega
  enter := (h none 0).enter
theorem tCells_dropR (l : List (Int × Int × Int)) (n : Nat) : (tCells l).drop (n * 3) = tCells (l.drop n) := by
  induction n generalizing l with
  | zero => simp
  | succ n ih =>
    cases l with
    | nil => simp [tCells, tRow]
    | cons a l =>
      rw [List.drop_succ_cons, ← ih l, show (n + 1) * 3 = n * 3 + 3 by omega]
      simp [tCells, tRow]
theorem tCells_takeR (l : List (Int × Int × Int)) (n : Nat) : (tCells l).take (n * 3) = tCells (l.take n) := by
  induction n generalizing l with
  | zero => simp [tCells, tRow]
  | succ n ih =>
    cases l with
    | nil => simp [tCells, tRow]
    | cons a l =>
      rw [List.take_succ_cons, show (n + 1) * 3 = n * 3 + 3 by omega]
      have := ih l
      simp only [tCells, tRow, List.map_cons, List.flatten_cons, List.cons_append, List.nil_append] at this ⊢
      rw [← this]; rfl
theorem isNilL_tRowR {l : List (Int × Int × Int)} (h : 0 < l.length) : isNilL (tRow l) = false := by
  cases l with
  | nil => simp at h
  | cons _ _ => rfl
theorem isNilL_sRowR {l : List (Bool × Int × Int)} (h : 0 < l.length) : isNilL (sRow l) = false := by
  cases l with
  | nil => simp at h
  | cons _ _ => rfl
theorem clA_fn (f : Bool) (l : List (Int × Int)) (h0 : 0 < l.length) (hb : l.length ≤ 1000000) : Fn Tryz.prog 216 [.sl f 2 (pRow l)] [] (.ref 0 0 l.length) [.ent ⟨0, some 2, 34, pCells l, .cells⟩] := by
  have hnl := isNilL_pRow h0
  have hfl : (pRow l).flatten = pCells l := rfl
  refine Fn.of (fn := Tryz.f216) (by kernel_rfl) rfl (by kernel_rfl) ⟨[.sl f 2 (pRow l), .v undef, .v undef, .v undef, .v undef, .v undef, .v undef, .v undef], []⟩ rfl ?_
  repeat' first | (with_reducible first | refine AWP_seq' ?_ | refine k_normal ?_ | refine AWP_skip ?_) | ((with_reducible refine And.intro ?_ ?_); · exact Sq) | ((with_reducible refine AWP_reg fun KC J hJ hKC => ?_); simp (maxSteps := 9999999) only [push_cast, seval, ↓reduceIte, hnl, hfl, Nat.zero_add]) | ((with_reducible refine hJ _ _ ?_); clear hJ hKC KC J) | ((with_reducible refine AWP_condF ?_ ?_); · rfl)
  refine AWP_ret ?_
  refine ret_new [1] ?_ (by simp) ?_
  · simp (maxSteps := 9999999) only [push_cast, seval, ↓reduceIte, show Tryz.f216.results = #[.tmp 2] from rfl, pick, mOf, idx, renSlot, ren_pCells]
    exact leD_refl _
  · intro k hk
    exact absurd hk (by simp)
theorem clT_fn (f : Bool) (l : List (Int × Int × Int)) (h0 : 0 < l.length) (hb : l.length ≤ 1000000) : Fn Tryz.prog 165 [.sl f 3 (tRow l)] [] (.ref 0 0 l.length) [.ent ⟨0, some 3, 100, tCells l, .cells⟩] := by
  have hnl := isNilL_tRowR h0
  have hfl : (tRow l).flatten = tCells l := rfl
  refine Fn.of (fn := Tryz.f165) (by kernel_rfl) rfl (by kernel_rfl) ⟨[.sl f 3 (tRow l), .v undef, .v undef, .v undef, .v undef, .v undef, .v undef, .v undef], []⟩ rfl ?_
  repeat' first | (with_reducible first | refine AWP_seq' ?_ | refine k_normal ?_ | refine AWP_skip ?_) | ((with_reducible refine And.intro ?_ ?_); · exact Sq) | ((with_reducible refine AWP_reg fun KC J hJ hKC => ?_); simp (maxSteps := 9999999) only [push_cast, seval, ↓reduceIte, hnl, hfl, Nat.zero_add]) | ((with_reducible refine hJ _ _ ?_); clear hJ hKC KC J) | ((with_reducible refine AWP_condF ?_ ?_); · rfl)
  refine AWP_ret ?_
  refine ret_new [1] ?_ (by simp) ?_
  · simp (maxSteps := 9999999) only [push_cast, seval, ↓reduceIte, show Tryz.f165.results = #[.tmp 2] from rfl, pick, mOf, idx, renSlot, ren_tCells]
    exact leD_refl _
  · intro k hk
    exact absurd hk (by simp)
theorem clT_nil (f : Bool) : Fn (Tryz.prog) 165 [.sl f 3 []] [] (.sl true 3 []) [] := by
  refine Fn.nilR fun A cap => ?_
  refine Fn.of (fn := Tryz.f165) (by kernel_rfl) rfl (by kernel_rfl) ⟨[.v (.slice A 0 cap), .v undef, .v undef, .v undef, .v undef, .v undef, .v undef, .v undef], []⟩ rfl ?_
  cases A
  all_goals
    repeat' first | (with_reducible first | refine AWP_seq' ?_ | refine k_normal ?_ | refine k_ret ?_ | refine AWP_ret ?_ | refine AWP_skip ?_) | ((with_reducible refine AWP_reg fun KC J hJ hKC => ?_); simp (maxSteps := 9999999) only [push_cast, seval, ↓reduceIte, Option.isNone_none, Option.isNone_some]) | ((with_reducible refine hJ _ _ ?_); clear hJ hKC KC J) | ((with_reducible refine AWP_condT ?_ ?_); · rfl) | ((with_reducible refine AWP_condF ?_ ?_); · rfl)
    refine ret_plain ?_
    simp (maxSteps := 9999999) only [push_cast, seval, ↓reduceIte, show Tryz.f165.results = #[(.tmp 2)] from rfl]
    exact Lq
theorem clS_fn (f : Bool) (l : List (Bool × Int × Int)) (h0 : 0 < l.length) (hb : l.length ≤ 1000000) : Fn Tryz.prog 244 [.sl f 3 (sRow l)] [] (.ref 0 0 l.length) [.ent ⟨0, some 3, 104, sCells l, .cells⟩] := by
  have hnl := isNilL_sRowR h0
  have hfl : (sRow l).flatten = sCells l := rfl
  refine Fn.of (fn := Tryz.f244) (by kernel_rfl) rfl (by kernel_rfl) ⟨[.sl f 3 (sRow l), .v undef, .v undef, .v undef, .v undef, .v undef, .v undef, .v undef], []⟩ rfl ?_
  repeat' first | (with_reducible first | refine AWP_seq' ?_ | refine k_normal ?_ | refine AWP_skip ?_) | ((with_reducible refine And.intro ?_ ?_); · exact Sq) | ((with_reducible refine AWP_reg fun KC J hJ hKC => ?_); simp (maxSteps := 9999999) only [push_cast, seval, ↓reduceIte, hnl, hfl, Nat.zero_add]) | ((with_reducible refine hJ _ _ ?_); clear hJ hKC KC J) | ((with_reducible refine AWP_condF ?_ ?_); · rfl)
  refine AWP_ret ?_
  refine ret_new [1] ?_ (by simp) ?_
  · simp (maxSteps := 9999999) only [push_cast, seval, ↓reduceIte, show Tryz.f244.results = #[.tmp 2] from rfl, pick, mOf, idx, renSlot, ren_sCells]
    exact leD_refl _
  · intro k hk
    exact absurd hk (by simp)
theorem clS_nil (f : Bool) : Fn (Tryz.prog) 244 [.sl f 3 []] [] (.sl true 3 []) [] := by
  refine Fn.nilR fun A cap => ?_
  refine Fn.of (fn := Tryz.f244) (by kernel_rfl) rfl (by kernel_rfl) ⟨[.v (.slice A 0 cap), .v undef, .v undef, .v undef, .v undef, .v undef, .v undef, .v undef], []⟩ rfl ?_
  cases A
  all_goals
    repeat' first | (with_reducible first | refine AWP_seq' ?_ | refine k_normal ?_ | refine k_ret ?_ | refine AWP_ret ?_ | refine AWP_skip ?_) | ((with_reducible refine AWP_reg fun KC J hJ hKC => ?_); simp (maxSteps := 9999999) only [push_cast, seval, ↓reduceIte, Option.isNone_none, Option.isNone_some]) | ((with_reducible refine hJ _ _ ?_); clear hJ hKC KC J) | ((with_reducible refine AWP_condT ?_ ?_); · rfl) | ((with_reducible refine AWP_condF ?_ ?_); · rfl)
    refine ret_plain ?_
    simp (maxSteps := 9999999) only [push_cast, seval, ↓reduceIte, show Tryz.f244.results = #[(.tmp 2)] from rfl]
    exact Lq
theorem idxF_casesR {α : Type} (p : α → Bool) (xs : List α) : (idxF p xs = -1 ∧ ∀ x ∈ xs, p x = false) ∨ ∃ i, idxF p xs = (i : Nat) ∧ ∃ h : i < xs.length, p xs[i] = true ∧ ∀ (j : Nat) (hj : j < xs.length), j < i → p xs[j] = false := by
  unfold idxF
  cases h : xs.findIdx? p with
  | none =>
    rw [List.findIdx?_eq_none_iff] at h
    exact .inl ⟨rfl, h⟩
  | some i =>
    rw [List.findIdx?_eq_some_iff_getElem] at h
    obtain ⟨h1, h2, h3⟩ := h
    exact .inr ⟨i, rfl, h1, h2, fun j hj hji => by simpa using h3 j hji⟩
theorem tCells_at {l : List (Int × Int × Int)} {n : Nat} {x : Int × Int × Int} (h : l[n]? = some x) : ((tCells l).drop (n * 3)).take 3 = [.v (.int .i64 x.1), .v (.int .i64 x.2.1), .v (.int .i64 x.2.2)] := by
  obtain ⟨hn, rfl⟩ := List.getElem?_eq_some_iff.1 h
  rw [tCells_dropR, List.drop_eq_getElem_cons hn]
  rfl
theorem tCells_set (l : List (Int × Int × Int)) {a : Nat} (x : Int × Int × Int) (h : a < l.length) : tCells (l.set a x) = (tCells l).take (a * 3) ++ [.v (.int .i64 x.1), .v (.int .i64 x.2.1), .v (.int .i64 x.2.2)] ++ (tCells l).drop (a * 3 + 3) := by
  rw [List.set_eq_take_append_cons_drop, if_pos h, tCells_app, tCells_takeR]
  have h2 : a * 3 + 3 = (a + 1) * 3 := by omega
  rw [h2, tCells_dropR]
  simp [tCells, tRow]
theorem indexFuncTK_fn (xs : List (Int × Int × Int)) (n : Nat) (hn0 : xs.length = n) (cf : Nat) (caps : List D) (p : Int × Int × Int → Bool) (hb : n ≤ 1000000) (hc : frz0All caps = true)
    (hp : ∀ x ∈ xs, Fn Tryz.prog cf (.agg [.v (.int .i64 x.1), .v (.int .i64 x.2.1), .v (.int .i64 x.2.2)] :: caps) [] (.v (.bool (p x))) []) : Fn (Tryz.prog) 196 [.ref 0 0 n, .fn cf caps] [.ent ⟨0, some 3, 100, tCells xs, .cells⟩] (.v (.int .i64 (idxF p xs))) [.ent ⟨0, some 3, 100, tCells xs, .cells⟩] := by
  have hlC : (tCells xs).length = n * 3 := by rw [tCells_length, hn0]
  refine Fn.of (fn := Tryz.f196) (by kernel_rfl) rfl (by kernel_rfl) ⟨[.ref 0 0 n, .fn cf caps, .v undef, .v undef, .v undef, .v undef, .v undef, .v undef, .v undef, .v undef, .v undef, .v undef, .v undef, .v undef, .v undef, .v undef, .v undef, .v undef, .v undef], [.ent ⟨0, some 3, 100, tCells xs, .cells⟩]⟩ rfl ?_
  repeat' first | (with_reducible first | refine AWP_seq' ?_ | refine k_normal ?_ | refine AWP_block ?_) | ((with_reducible refine AWP_reg fun KC J hJ hKC => ?_); simp (maxSteps := 9999999) only [push_cast, seval, ↓reduceIte, hlC]) | ((with_reducible refine hJ _ _ ?_); clear hJ hKC KC J)
  refine AWP_loopF (γ := {i : Nat // i ≤ n ∧ ∀ (j : Nat) (hj : j < xs.length), j < i → p xs[j] = false}) (fun i => ⟨[.ref 0 0 n, .fn cf caps, .any, .any, .any, .any, .any, .v (.int .i64 n), .v (.int .i64 i.1), .any, .any, .any, .any, .any, .any, .any, .any, .any, .any], [.ent ⟨0, some 3, 100, tCells xs, .cells⟩]⟩) (fun i => n - i.1) ⟨0, by simp⟩ ⟨?_, Fq⟩ ?_
  · exact Lq
  · rintro ⟨i, hi, hn⟩
    by_cases hlt : (i : Int) < (n : Int)
    · have hx : xs[i]? = some xs[i] := List.getElem?_eq_getElem (by omega)
      have hfn := hp xs[i] (List.getElem_mem (by omega))
      have hat := tCells_at hx
      repeat' first | (with_reducible first | refine AWP_seq' ?_ | refine k_normal ?_ | refine k_ret ?_ | refine b_normal ?_ | refine b_ret ?_ | refine AWP_ret ?_ | refine AWP_skip ?_ | refine AWP_block ?_) | ((with_reducible refine And.intro ?_ ?_); · exact Sq) | ((first | with_reducible refine AWP_reg fun KC J hJ hKC => ?_ | (refine hKC _ _ _ _ _ (callV0 (hfn) rfl rfl rfl ?_ ?_); (· exact Lq))); simp (maxSteps := 9999999) only [push_cast, seval, ↓reduceIte, hlt, hlC, hat, wrapN (i := i) (n := n) (by omega) (by omega)]) | ((with_reducible refine hJ _ _ ?_); clear hJ hKC KC J) | ((with_reducible refine AWP_condT ?_ ?_); · rfl) | (refine AWP_cond rfl (fun h => ?_) (fun h => ?_) <;> try simp only [decide_eq_true_eq, decide_eq_false_iff_not, Bool.not_eq_true', Bool.not_eq_false', beq_iff_eq, bne_iff_ne, ne_eq, Bool.not_eq_true, Bool.or_eq_true, Bool.and_eq_true, Bool.or_eq_false_iff, Bool.and_eq_false_imp, beq_eq_false_iff_ne, bne_eq_false_iff_eq] at h)
      · refine ret_keys ?_
        simp (maxSteps := 9999999) only [push_cast, seval, ↓reduceIte, show Tryz.f196.results = #[(.tmp 4)] from rfl]
        exact ⟨(by show List.map _ [0] = _; simp only [List.map_cons, List.map_nil, getS, renSlot, ren_tCells]), leD_v (by rw [idxF_at (by omega) h hn])⟩
      · refine ⟨⟨i + 1, by omega, fun j hj hji => ?_⟩, by simp only; omega, ?_, Fq⟩
        · by_cases he : j = i
          · subst he; exact h
          · exact hn j hj (by omega)
        · exact Lq
    · skip
      repeat' first | (with_reducible first | refine AWP_seq' ?_ | refine k_normal ?_ | refine k_exit ?_ | refine b_exit ?_ | refine AWP_ret ?_ | refine AWP_exit ?_) | ((with_reducible refine AWP_reg fun KC J hJ hKC => ?_); simp (maxSteps := 9999999) only [push_cast, seval, ↓reduceIte, hlt, hlC]) | ((with_reducible refine hJ _ _ ?_); clear hJ hKC KC J) | ((with_reducible refine AWP_condF ?_ ?_); · rfl)
      refine ret_keys ?_
      simp (maxSteps := 9999999) only [push_cast, seval, ↓reduceIte, show Tryz.f196.results = #[(.tmp 4)] from rfl]
      exact ⟨(by show List.map _ [0] = _; simp only [List.map_cons, List.map_nil, getS, renSlot, ren_tCells]), leD_v (by rw [idxF_none (fun j hj => hn j hj (by omega))])⟩
theorem deleteFuncT_nil (cf : Nat) (caps : List D) (hc : frz0All caps = true) : Fn (Tryz.prog) 164 [.sl true 3 [], .fn cf caps] [] (.sl true 3 []) [] := by
  have hif := indexFuncT_fn true [] cf caps (fun _ => false) (by simp) hc (fun x hx => by cases hx)
  refine Fn.of (fn := Tryz.f164) (by kernel_rfl) rfl (by kernel_rfl) ⟨[.sl true 3 [], .fn cf caps, .v undef, .v undef, .v undef, .v undef, .v undef, .v undef, .v undef, .v undef, .v undef, .v undef, .v undef, .v undef, .v undef, .v undef, .v undef, .v undef, .v undef, .v undef, .v undef, .v undef, .v undef, .v undef, .v undef, .v undef, .v undef, .v undef, .v undef, .v undef, .v undef, .v undef, .v undef, .v undef, .v undef, .v undef, .v undef, .v undef, .v undef, .v undef, .v undef, .v undef], []⟩ rfl ?_
  repeat' first | (with_reducible first | refine AWP_seq' ?_ | refine k_normal ?_ | refine k_ret ?_ | refine AWP_ret ?_) | ((first | with_reducible refine AWP_reg fun KC J hJ hKC => ?_ | (refine hKC _ _ _ _ _ (callV0 (hif) rfl rfl rfl ?_ ?_); (· exact Lq))); simp (maxSteps := 9999999) only [push_cast, seval, ↓reduceIte, (show idxF (fun _ : Int × Int × Int => false) [] = -1 from rfl)]) | ((with_reducible refine hJ _ _ ?_); clear hJ hKC KC J) | ((with_reducible refine AWP_condT ?_ ?_); · rfl)
  refine ret_plain ?_
  simp (maxSteps := 9999999) only [push_cast, seval, ↓reduceIte, show Tryz.f164.results = #[(.tmp 4)] from rfl]
  exact Lq
theorem deleteFuncT_fn (l : List (Int × Int × Int)) (n : Nat) (hn0 : l.length = n) (cf : Nat) (caps : List D) (q : Int × Int × Int → Bool) (hb : n ≤ 1000000) (hc : frz0All caps = true)
    (hp : ∀ x ∈ l, Fn Tryz.prog cf (.agg [.v (.int .i64 x.1), .v (.int .i64 x.2.1), .v (.int .i64 x.2.2)] :: caps) [] (.v (.bool (!q x))) []) :
    Fn (Tryz.prog) 164 [.ref 0 0 n, .fn cf caps] [.ent ⟨0, some 3, 100, tCells l, .cells⟩] (.sl false 3 (tRow (l.filter q))) [.dead] := by
  have hif := indexFuncTK_fn l n hn0 cf caps (fun x => !q x) hb hc hp
  have hlC : ∀ l : List (Int × Int × Int), l.length = n → (tCells l).length = n * 3 := fun l h => by rw [tCells_length, h]
  have hbm : Nat.beq 0 0 = true := rfl
  refine Fn.of (fn := Tryz.f164) (by kernel_rfl) rfl (by kernel_rfl) ⟨[.ref 0 0 n, .fn cf caps, .v undef, .v undef, .v undef, .v undef, .v undef, .v undef, .v undef, .v undef, .v undef, .v undef, .v undef, .v undef, .v undef, .v undef, .v undef, .v undef, .v undef, .v undef, .v undef, .v undef, .v undef, .v undef, .v undef, .v undef, .v undef, .v undef, .v undef, .v undef, .v undef, .v undef, .v undef, .v undef, .v undef, .v undef, .v undef, .v undef, .v undef, .v undef, .v undef, .v undef], [.ent ⟨0, some 3, 100, tCells l, .cells⟩]⟩ rfl ?_
  rcases idxF_casesR (fun x => !q x) l with ⟨hi, hno⟩ | ⟨i, hi, hil, hpi, hno⟩
  · have hfl : l.filter q = l := List.filter_eq_self.2 fun x hx => by simpa using hno x hx
    rw [hfl]
    have hcS : chunk 3 n (tCells l) = tRow l := by rw [← hn0]; exact chunk_t l
    repeat' first | (with_reducible first | refine AWP_seq' ?_ | refine k_normal ?_) | ((first | with_reducible refine AWP_reg fun KC J hJ hKC => ?_ | (refine hKC _ _ _ _ _ (callK [0] hif rfl rfl rfl (by decide) (by simp) rfl (by simp only [push_cast, pick, mOf, idx, renSlot, ren_tCells]) (by simp only [push_cast, mOf, idx]; exact ⟨leD_refl _, leD_fn hc, trivial⟩) ?_))); simp (maxSteps := 9999999) only [push_cast, seval, ↓reduceIte, hi, backOf, callSets, renSlot, pick, mOf, idx, ren_tCells]) | ((with_reducible refine hJ _ _ ?_); clear hJ hKC KC J) | ((with_reducible refine AWP_condT ?_ ?_); · rfl)
    refine AWP_freeze 0 rfl (by simp (maxSteps := 9999999) only [push_cast, seval, ↓reduceIte]) ?_
    simp (maxSteps := 9999999) only [push_cast, seval, ↓reduceIte, frSt, frSlot, fr3, fr2, fr1, fr0, sameB, arrOf, hbm, hlC l hn0, hcS]
    refine AWP_ret ?_
    refine ret_keys ?_
    simp (maxSteps := 9999999) only [push_cast, seval, ↓reduceIte, show Tryz.f164.results = #[(.tmp 4)] from rfl]
    exact ⟨rfl, leD_refl _⟩
  · skip
    repeat' first | (with_reducible first | refine AWP_seq' ?_ | refine k_normal ?_ | refine AWP_skip ?_ | refine AWP_block ?_) | ((first | with_reducible refine AWP_reg fun KC J hJ hKC => ?_ | (refine hKC _ _ _ _ _ (callK [0] hif rfl rfl rfl (by decide) (by simp) rfl (by simp only [push_cast, pick, mOf, idx, renSlot, ren_tCells]) (by simp only [push_cast, mOf, idx]; exact ⟨leD_refl _, leD_fn hc, trivial⟩) ?_))); simp (maxSteps := 9999999) only [push_cast, seval, ↓reduceIte, hi, backOf, callSets, renSlot, pick, mOf, idx, ren_tCells]) | ((with_reducible refine hJ _ _ ?_); clear hJ hKC KC J) | ((with_reducible refine AWP_condF ?_ ?_); · rfl)
    refine AWP_loopD 1 (γ := {s : List (Int × Int × Int) × Nat × Nat // s.1.length = n ∧ s.2.1 ≤ s.2.2 ∧ s.2.2 ≤ n ∧ s.1.take s.2.1 = (l.take s.2.2).filter q ∧ s.1.drop s.2.2 = l.drop s.2.2}) (fun s => ⟨[.ref 0 0 n, .fn cf caps, .any, .any, .any, .v (.int .i64 s.1.2.1), .v (.int .i64 s.1.2.2), .any, .any, .any, .any, .any, .any, .any, .any, .any, .any, .any, .any, .any, .any, .any, .any, .any, .any, .any, .any, .any, .any, .any, .any, .any, .any, .any, .any, .any, .any, .any, .any, .any, .any, .any], [.ent ⟨0, some 3, 100, tCells s.1.1, .cells⟩]⟩) (fun s => n - s.1.2.2) ⟨(l, i, i + 1), hn0, by simp, by simp only; omega, ?_, rfl⟩ (fun s => rfl) (fun s => ?_) (fun s => ?_) ⟨?_, ?_⟩ ?_
    · simp only
      rw [List.take_succ_eq_append_getElem hil, List.filter_append, List.filter_eq_self.2 (fun x hx => ?_)]
      · simp at hpi; simp [hpi]
      · obtain ⟨j, hj, rfl⟩ := List.mem_iff_getElem.1 hx
        have hj2 : j < i := by rw [List.length_take] at hj; omega
        have := hno j (by omega) hj2
        simpa using this
    · refine clsd_all ?_
      simp only [List.map_cons, List.map_nil, renSlot, ren_tCells]
    · simp only [List.map_cons, List.map_nil, show ren (mOf (List.range 1)) (.fn cf caps) = .fn cf caps from by show D.fn cf (caps.map _) = _; rw [map_frz0 (fun d hd => ren0_frz0 hd) hc]]
      rfl
    · simp only [wrapN (i := i) (n := n) (by omega) (by omega)]
      exact Lq
    · exact Fq
    rintro ⟨⟨l', a, b⟩, h1, h2, h3, h4, h5⟩
    simp only at h1 h2 h3 h4 h5 ⊢
    by_cases hlt : (b : Int) < (n : Int)
    · have hbn : b < n := by omega
      have hx : l[b]? = some l[b] := List.getElem?_eq_getElem (by omega)
      have hxm : l[b] ∈ l := List.getElem_mem (by omega)
      obtain ⟨x, hx0⟩ : ∃ x, l[b] = x := ⟨_, rfl⟩
      rw [hx0] at hx hxm
      have hx' : l'[b]? = some x := by
        have := congrArg (fun m => m[0]?) h5
        simp only [List.getElem?_drop, Nat.add_zero] at this
        rw [this, hx]
      have hfn := hp x hxm
      have hat := tCells_at hx'
      have htk : (l.take (b + 1)).filter q = (l.take b).filter q ++ (if q x = true then [x] else []) := by
        rw [List.take_succ_eq_append_getElem (by omega), List.filter_append, hx0]
        by_cases h : q x = true <;> simp [h]
      have hdr : l'.drop (b + 1) = l.drop (b + 1) := by
        have := congrArg (List.drop 1) h5
        simpa [List.drop_drop, Nat.add_comm] using this
      cases hq : q x with
      | true =>
        rw [hq] at hfn
        have hset := tCells_set l' x (a := a) (by omega)
        rw [hq, if_pos rfl] at htk
        repeat' first | (with_reducible first | refine AWP_seq' ?_ | refine k_normal ?_ | refine b_normal ?_ | refine AWP_skip ?_ | refine AWP_block ?_) | ((with_reducible refine And.intro ?_ ?_); · exact Sq) | ((first | with_reducible refine AWP_reg fun KC J hJ hKC => ?_ | (refine hKC _ _ _ _ _ (callV0 (hfn) rfl rfl rfl ?_ ?_); (· exact Lq))); simp (maxSteps := 9999999) only [push_cast, seval, ↓reduceIte, hlt, hlC l' h1, hat, wrapN (i := a) (n := n) (by omega) (by omega), wrapN (i := b) (n := n) (by omega) (by omega)]) | ((with_reducible refine hJ _ _ ?_); clear hJ hKC KC J) | ((with_reducible refine AWP_condT ?_ ?_); · rfl)
        refine ⟨⟨(l'.set a x, a + 1, b + 1), by simp [h1], by simp only; omega, by simp only; omega, ?_, ?_⟩, by simp only; omega, ?_, ?_⟩
        · simp only
          rw [htk, ← h4, List.take_succ_eq_append_getElem (by simp; omega), List.getElem_set_self, List.take_set_of_le (Nat.le_refl _)]
        · simp only
          rw [List.drop_set_of_lt (by omega), hdr]
        · exact Lq
        · simp only [hset]
          exact ⟨_, rfl⟩
      | false =>
        rw [hq] at hfn
        rw [hq, if_neg (by simp), List.append_nil] at htk
        repeat' first | (with_reducible first | refine AWP_seq' ?_ | refine k_normal ?_ | refine b_normal ?_ | refine AWP_skip ?_ | refine AWP_block ?_) | ((with_reducible refine And.intro ?_ ?_); · exact Sq) | ((first | with_reducible refine AWP_reg fun KC J hJ hKC => ?_ | (refine hKC _ _ _ _ _ (callV0 (hfn) rfl rfl rfl ?_ ?_); (· exact Lq))); simp (maxSteps := 9999999) only [push_cast, seval, ↓reduceIte, hlt, hlC l' h1, hat, wrapN (i := b) (n := n) (by omega) (by omega)]) | ((with_reducible refine hJ _ _ ?_); clear hJ hKC KC J) | ((with_reducible refine AWP_condT ?_ ?_); · rfl) | ((with_reducible refine AWP_condF ?_ ?_); · rfl)
        refine ⟨⟨(l', a, b + 1), h1, by simp only; omega, by simp only; omega, by simp only; rw [htk]; exact h4, hdr⟩, by simp only; omega, ?_, ⟨_, rfl⟩⟩
        exact Lq
    · have hbn : b = n := by omega
      subst hbn
      rw [← hn0, List.take_length] at h4
      have hT : (tCells l').take (a * 3) = tCells (l.filter q) := by rw [tCells_takeR, h4]
      have hFl : (l.filter q).length = a := by rw [← h4]; simp; omega
      obtain ⟨F, hF⟩ : ∃ F, l.filter q = F := ⟨_, rfl⟩
      rw [hF] at hT hFl ⊢
      have hFC : (tCells F).length = a * 3 := by rw [tCells_length, hFl]
      have hcS : chunk 3 a (tCells F) = tRow F := by rw [← hFl]; exact chunk_t F
      repeat' first | (with_reducible first | refine AWP_seq' ?_ | refine k_normal ?_ | refine k_exit ?_ | refine b_exit ?_ | refine AWP_exit ?_) | ((with_reducible refine And.intro ?_ ?_); · exact Sq) | ((with_reducible refine AWP_reg fun KC J hJ hKC => ?_); simp (maxSteps := 9999999) only [push_cast, seval, ↓reduceIte, hlt, hlC l' h1, hT]) | ((with_reducible refine hJ _ _ ?_); clear hJ hKC KC J) | ((with_reducible refine AWP_condF ?_ ?_); · rfl)
      refine AWP_freeze 0 rfl (by simp (maxSteps := 9999999) only [push_cast, seval, ↓reduceIte]) ?_
      simp (maxSteps := 9999999) only [push_cast, seval, ↓reduceIte, frSt, frSlot, fr3, fr2, fr1, fr0, sameB, arrOf, hbm, hFC, hcS]
      refine AWP_ret ?_
      refine ret_keys ?_
      simp (maxSteps := 9999999) only [push_cast, seval, ↓reduceIte, show Tryz.f164.results = #[(.tmp 4)] from rfl]
      exact ⟨rfl, leD_refl _⟩
end Go.Proofs.YtabliglgeiajlaaGreat.AM

namespace Go.Proofs.YtabliglgeiajlaaGreat.AM
open Go Go.RowKit Go.Proofs
set_option maxRecDepth 100000
set_option maxHeartbeats 4000000
def deedB (x : Int × Int × Int) : Bool := !(x.1 == 0)
theorem noop_fn (x : Int × Int × Int) : Fn Tryz.prog 166 [.agg [.v (.int .i64 x.1), .v (.int .i64 x.2.1), .v (.int .i64 x.2.2)]] [] (.v (.bool (!deedB x))) [] := by
  rw [show (!deedB x) = (x.1 == 0) by simp [deedB]]
  refine Fn.of (fn := Tryz.f166) (by kernel_rfl) rfl (by kernel_rfl) ⟨[.agg [.v (.int .i64 x.1), .v (.int .i64 x.2.1), .v (.int .i64 x.2.2)], .v undef, .v undef, .v undef, .v undef, .v undef], []⟩ rfl ?_
  repeat' first | (with_reducible first | refine AWP_seq' ?_ | refine k_normal ?_ | refine AWP_ret ?_) | ((with_reducible refine AWP_reg fun KC J hJ hKC => ?_); simp (maxSteps := 9999999) only [push_cast, seval, ↓reduceIte]) | ((with_reducible refine hJ _ _ ?_); clear hJ hKC KC J)
  refine ret_plain ?_
  simp (maxSteps := 9999999) only [push_cast, seval, ↓reduceIte, show Tryz.f166.results = #[(.tmp 2)] from rfl]
  exact Lq
def numZ (us : List Nat) (z : Int × Int × Int) (p : Int × Int) : Int × Int × Int := (z.1, z.2.1 + absI p.1, if 0 ≤ p.2 then z.2.2 + ((hgt us p.2.toNat : Nat) : Int) else z.2.2)
theorem addZ_num {us : List Nat} {z : Int × Int × Int} {v l : Int} {n : Nat} (h : oddL n l = false) : addZ us z v l = numZ us z (v, l) := by
  have h0 := (oddL_iff.1 h).1
  unfold addZ numZ
  rw [if_pos h0]
theorem atomZ_num {us : List Nat} {n : Nat} : ∀ {l : List (Int × Int)} {z}, (∀ x ∈ l, oddL n x.2 = false) → atomZ us z l = l.foldl (numZ us) z
  | [], _, _ => rfl
  | x :: l, z, h => by
    show atomZ us (addZ us z x.1 x.2) l = l.foldl (numZ us) (numZ us z x)
    rw [addZ_num (h x List.mem_cons_self), atomZ_num fun y hy => h y (List.mem_cons_of_mem _ hy)]
theorem slotZ_num {us : List Nat} {n : Nat} : ∀ {l : List (Bool × Int × Int)} {z}, (∀ x ∈ l, oddL n x.2.2 = false) → slotZ us z l = (l.map slotQ).foldl (numZ us) z
  | [], _, _ => rfl
  | x :: l, z, h => by
    show slotZ us (addZ us z x.2.1 x.2.2) l = (l.map slotQ).foldl (numZ us) (numZ us z (x.2.1, x.2.2))
    rw [addZ_num (h x List.mem_cons_self), slotZ_num fun y hy => h y (List.mem_cons_of_mem _ hy)]
theorem codeS_num {us : List Nat} {n : Nat} {z x : Int × Int × Int} (h : x.1 = 1 → oddL n x.2.2 = false) : codeS us z x = numZ us (z.1 + (if deedB x = true then 1 else 0), z.2) (instQ x) := by
  unfold codeS instQ deedB
  by_cases h1 : x.1 = 1
  · rw [if_pos h1, if_pos h1, addZ_num (h h1), if_pos (by rw [h1]; rfl)]
  · rw [if_neg h1, if_neg h1]
    unfold numZ
    by_cases h0 : x.1 = 0
    · rw [if_pos h0, if_neg (by rw [h0]; simp)]
      simp
    · rw [if_neg h0, if_pos (by simpa using h0)]
      simp
theorem codeZ_num {us : List Nat} {n : Nat} : ∀ {l : List (Int × Int × Int)} {z}, (∀ x ∈ l, x.1 = 1 → oddL n x.2.2 = false) → codeZ us z l = (l.map instQ).foldl (numZ us) (z.1 + ((l.filter deedB).length : Int), z.2)
  | [], z, _ => by simp [codeZ]
  | x :: l, z, h => by
    show codeZ us (codeS us z x) l = (l.map instQ).foldl (numZ us) (numZ us (z.1 + (((x :: l).filter deedB).length : Int), z.2) (instQ x))
    rw [codeZ_num fun y hy => h y (List.mem_cons_of_mem _ hy), codeS_num (h x List.mem_cons_self)]
    congr 1
    have : ((((x :: l).filter deedB).length : Nat) : Int) = (if deedB x = true then 1 else 0) + ((l.filter deedB).length : Int) := by
      rw [List.filter_cons]
      split <;> simp <;> omega
    simp only [numZ, this]
    refine Prod.ext ?_ rfl
    simp only
    omega
theorem sizeZ_num {us : List Nat} {n : Nat} {z : Int × Int × Int} {s : Sta} (h : StaN n s) :
    sizeZ us z s = (numsL s).foldl (numZ us) (z.1 + ((s.code.length + s.mem.length + s.stack.length + s.out.length + (s.code.filter deedB).length : Nat) : Int), z.2) := by
  obtain ⟨h1, h2, h3, h4, _, _, _, _, _, _, hl⟩ := h
  unfold sizeZ
  rw [slotZ_num fun x hx => (h3 x hx).2.2, atomZ_num fun x hx => (h4 x hx).2.2, atomZ_num fun x hx => (h2 x hx).2.2, codeZ_num fun x hx => (h1 x hx).2.2, addZ_num hl]
  unfold numsL
  rw [List.foldl_cons, List.foldl_append, List.foldl_append, List.foldl_append]
  congr 4
  simp only [cntZ, numZ]
  refine Prod.ext ?_ rfl
  simp only
  omega
end Go.Proofs.YtabliglgeiajlaaGreat.AM

namespace Go.Proofs.YtabliglgeiajlaaGreat.AM
open Go Go.RowKit Go.Proofs
set_option maxRecDepth 100000
set_option maxHeartbeats 4000000
theorem eqA_fn (f g : Bool) (xs ys : List (Int × Int)) (hb : xs.length ≤ 9223372036854775807) : Fn Tryz.prog 154 [.sl f 2 (pRow xs), .sl g 2 (pRow ys)] [] (.v (.bool (decide (xs = ys)))) [] := by
  refine Fn.of (fn := Tryz.f154) (by kernel_rfl) rfl (by kernel_rfl) ⟨[.sl f 2 (pRow xs), .sl g 2 (pRow ys), .v undef, .v undef, .v undef, .v undef, .v undef, .v undef, .v undef, .v undef, .v undef, .v undef, .v undef, .v undef, .v undef, .v undef, .v undef, .v undef, .v undef, .v undef, .v undef, .v undef, .v undef, .v undef, .v undef, .v undef], []⟩ rfl ?_
  by_cases hl : xs.length = ys.length
  · have hl' : ((xs.length : Int) != (ys.length : Int)) = false := by simp [hl]
    repeat' first | (with_reducible first | refine AWP_seq' ?_ | refine k_normal ?_ | refine AWP_skip ?_ | refine AWP_block ?_) | ((with_reducible refine AWP_reg fun KC J hJ hKC => ?_); simp (maxSteps := 9999999) only [push_cast, seval, ↓reduceIte, hl']) | ((with_reducible refine hJ _ _ ?_); clear hJ hKC KC J) | ((with_reducible refine AWP_condF ?_ ?_); · rfl)
    refine AWP_loopF (γ := {i : Nat // i ≤ xs.length ∧ ∀ j, j < i → xs[j]? = ys[j]?}) (fun i => ⟨[.sl f 2 (pRow xs), .sl g 2 (pRow ys), .any, .any, .any, .any, .any, .any, .any, .any, .any, .any, .v (.int .i64 xs.length), .v (.int .i64 i.1), .any, .any, .any, .any, .any, .any, .any, .any, .any, .any, .any, .any], []⟩) (fun i => xs.length - i.1) ⟨0, by simp⟩ ⟨?_, Fq⟩ ?_
    · exact Lq
    · rintro ⟨i, hi, hn⟩
      by_cases hlt : (i : Int) < (xs.length : Int)
      · have hx : xs[i]? = some xs[i] := List.getElem?_eq_getElem (by omega)
        have hy : ys[i]? = some ys[i] := List.getElem?_eq_getElem (by omega)
        obtain ⟨a, ha⟩ : ∃ a, xs[i] = a := ⟨_, rfl⟩
        obtain ⟨b, hb2⟩ : ∃ b, ys[i] = b := ⟨_, rfl⟩
        rw [ha] at hx
        rw [hb2] at hy
        by_cases he : a = b
        · have he' : decide (a = b) = true := decide_eq_true he
          repeat' first | (with_reducible first | refine AWP_seq' ?_ | refine k_normal ?_ | refine b_normal ?_ | refine AWP_skip ?_ | refine AWP_block ?_) | ((with_reducible refine And.intro ?_ ?_); · exact Sq) | ((first | with_reducible refine AWP_reg fun KC J hJ hKC => ?_ | with_reducible refine AWP_regD rfl fun KC J hJ hKC => ?_); simp (maxSteps := 9999999) only [push_cast, seval, ↓reduceIte, hlt, getE_p hx, getE_p hy, pair_eq, he', wrapN (i := i) (n := xs.length) (by omega) hb]) | ((first | with_reducible refine hJ _ _ ?_ | (with_reducible refine hJ _ _ ?_ ?_; · kernel_rfl)); clear hJ hKC KC J) | ((with_reducible refine AWP_condT ?_ ?_); · rfl) | ((with_reducible refine AWP_condF ?_ ?_); · rfl)
          refine ⟨⟨i + 1, by omega, fun j hj => ?_⟩, by simp only; omega, ?_, Fq⟩
          · by_cases hji : j = i
            · rw [hji, hx, hy, he]
            · exact hn j (by omega)
          · exact Lq
        · have he' : decide (a = b) = false := decide_eq_false he
          repeat' first | (with_reducible first | refine AWP_seq' ?_ | refine k_normal ?_ | refine k_ret ?_ | refine b_ret ?_ | refine AWP_ret ?_ | refine AWP_skip ?_ | refine AWP_block ?_) | ((with_reducible refine And.intro ?_ ?_); · exact Sq) | ((first | with_reducible refine AWP_reg fun KC J hJ hKC => ?_ | with_reducible refine AWP_regD rfl fun KC J hJ hKC => ?_); simp (maxSteps := 9999999) only [push_cast, seval, ↓reduceIte, hlt, getE_p hx, getE_p hy, pair_eq, he']) | ((first | with_reducible refine hJ _ _ ?_ | (with_reducible refine hJ _ _ ?_ ?_; · kernel_rfl)); clear hJ hKC KC J) | ((with_reducible refine AWP_condT ?_ ?_); · rfl)
          refine ret_plain ?_
          simp (maxSteps := 9999999) only [push_cast, seval, ↓reduceIte, show Tryz.f154.results = #[(.tmp 4)] from rfl]
          rw [decide_eq_false (fun h => he (by rw [h, hy] at hx; exact (Option.some.inj hx).symm))]
          exact leD_refl _
      · skip
        repeat' first | (with_reducible first | refine AWP_seq' ?_ | refine k_normal ?_ | refine k_exit ?_ | refine b_exit ?_ | refine AWP_ret ?_ | refine AWP_exit ?_) | ((with_reducible refine AWP_reg fun KC J hJ hKC => ?_); simp (maxSteps := 9999999) only [push_cast, seval, ↓reduceIte, hlt]) | ((with_reducible refine hJ _ _ ?_); clear hJ hKC KC J) | ((with_reducible refine AWP_condF ?_ ?_); · rfl)
        refine ret_plain ?_
        simp (maxSteps := 9999999) only [push_cast, seval, ↓reduceIte, show Tryz.f154.results = #[(.tmp 4)] from rfl]
        rw [decide_eq_true (list_eq_of hl fun j hj => hn j (by omega))]
        exact leD_refl _
  · have hl' : ((xs.length : Int) != (ys.length : Int)) = true := by simp; omega
    repeat' first | (with_reducible first | refine AWP_seq' ?_ | refine k_normal ?_ | refine k_ret ?_ | refine AWP_ret ?_) | ((with_reducible refine AWP_reg fun KC J hJ hKC => ?_); simp (maxSteps := 9999999) only [push_cast, seval, ↓reduceIte, hl']) | ((with_reducible refine hJ _ _ ?_); clear hJ hKC KC J) | ((with_reducible refine AWP_condT ?_ ?_); · rfl)
    refine ret_plain ?_
    simp (maxSteps := 9999999) only [push_cast, seval, ↓reduceIte, show Tryz.f154.results = #[(.tmp 4)] from rfl]
    rw [decide_eq_false (fun h => hl (by rw [h]))]
    exact leD_refl _
theorem eqS_fn (f g : Bool) (xs ys : List (Bool × Int × Int)) (hb : xs.length ≤ 1000) : Fn Tryz.prog 155 [.sl f 3 (sRow xs), .sl g 3 (sRow ys)] [] (.v (.bool (decide (xs = ys)))) [] := by
  refine Fn.of (fn := Tryz.f155) (by kernel_rfl) rfl (by kernel_rfl) ⟨[.sl f 3 (sRow xs), .sl g 3 (sRow ys), .v undef, .v undef, .v undef, .v undef, .v undef, .v undef, .v undef, .v undef, .v undef, .v undef, .v undef, .v undef, .v undef, .v undef, .v undef, .v undef, .v undef, .v undef, .v undef, .v undef, .v undef, .v undef, .v undef, .v undef], []⟩ rfl ?_
  by_cases hl : xs.length = ys.length
  · have hl' : ((xs.length : Int) != (ys.length : Int)) = false := by simp [hl]
    repeat' first | (with_reducible first | refine AWP_seq' ?_ | refine k_normal ?_ | refine AWP_skip ?_ | refine AWP_block ?_) | ((with_reducible refine AWP_reg fun KC J hJ hKC => ?_); simp (maxSteps := 9999999) only [push_cast, seval, ↓reduceIte, hl']) | ((with_reducible refine hJ _ _ ?_); clear hJ hKC KC J) | ((with_reducible refine AWP_condF ?_ ?_); · rfl)
    refine AWP_loopF (γ := {i : Nat // i ≤ xs.length ∧ ∀ j, j < i → xs[j]? = ys[j]?}) (fun i => ⟨[.sl f 3 (sRow xs), .sl g 3 (sRow ys), .any, .any, .any, .any, .any, .any, .any, .any, .any, .any, .v (.int .i64 xs.length), .v (.int .i64 i.1), .any, .any, .any, .any, .any, .any, .any, .any, .any, .any, .any, .any], []⟩) (fun i => xs.length - i.1) ⟨0, by simp⟩ ⟨?_, Fq⟩ ?_
    · exact Lq
    · rintro ⟨i, hi, hn⟩
      by_cases hlt : (i : Int) < (xs.length : Int)
      · have hx : xs[i]? = some xs[i] := List.getElem?_eq_getElem (by omega)
        have hy : ys[i]? = some ys[i] := List.getElem?_eq_getElem (by omega)
        obtain ⟨⟨a1, a2, a3⟩, ha⟩ : ∃ a, xs[i] = a := ⟨_, rfl⟩
        obtain ⟨⟨b1, b2, b3⟩, hb2⟩ : ∃ b, ys[i] = b := ⟨_, rfl⟩
        rw [ha] at hx
        rw [hb2] at hy
        by_cases he : (a1, a2, a3) = (b1, b2, b3)
        · have he' : decide ((a1, a2, a3) = (b1, b2, b3)) = true := decide_eq_true he
          cases he
          repeat' first | (with_reducible first | refine AWP_seq' ?_ | refine k_normal ?_ | refine b_normal ?_ | refine AWP_skip ?_ | refine AWP_block ?_) | ((with_reducible refine And.intro ?_ ?_); · exact Sq) | ((first | with_reducible refine AWP_reg fun KC J hJ hKC => ?_ | with_reducible refine AWP_regD rfl fun KC J hJ hKC => ?_); simp (maxSteps := 9999999) only [push_cast, seval, ↓reduceIte, hlt, getE_s hx, getE_s hy, beq_self_eq_true, Bool.and_self, Bool.not_true, bne_self_eq_false, wrapN (i := i) (n := xs.length) (by omega) (by omega)]) | ((first | with_reducible refine hJ _ _ ?_ | (with_reducible refine hJ _ _ ?_ ?_; · kernel_rfl)); clear hJ hKC KC J) | ((with_reducible refine AWP_condT ?_ ?_); · rfl) | ((with_reducible refine AWP_condF ?_ ?_); · rfl)
          refine ⟨⟨i + 1, by omega, fun j hj => ?_⟩, by simp only; omega, ?_, Fq⟩
          · by_cases hji : j = i
            · rw [hji, hx, hy]
            · exact hn j (by omega)
          · exact Lq
        · have he' : (a1 == b1 && (a2 == b2 && a3 == b3)) = false := by
            cases h : (a1 == b1 && (a2 == b2 && a3 == b3)) with
            | false => rfl
            | true =>
              simp only [Bool.and_eq_true, beq_iff_eq] at h
              exact absurd (by rw [h.1, h.2.1, h.2.2]) he
          repeat' first | (with_reducible first | refine AWP_seq' ?_ | refine k_normal ?_ | refine k_ret ?_ | refine b_ret ?_ | refine AWP_ret ?_ | refine AWP_skip ?_ | refine AWP_block ?_) | ((with_reducible refine And.intro ?_ ?_); · exact Sq) | ((first | with_reducible refine AWP_reg fun KC J hJ hKC => ?_ | with_reducible refine AWP_regD rfl fun KC J hJ hKC => ?_); simp (maxSteps := 9999999) only [push_cast, seval, ↓reduceIte, hlt, getE_s hx, getE_s hy, he']) | ((first | with_reducible refine hJ _ _ ?_ | (with_reducible refine hJ _ _ ?_ ?_; · kernel_rfl)); clear hJ hKC KC J) | ((with_reducible refine AWP_condT ?_ ?_); · rfl)
          refine ret_plain ?_
          simp (maxSteps := 9999999) only [push_cast, seval, ↓reduceIte, show Tryz.f155.results = #[(.tmp 4)] from rfl]
          rw [decide_eq_false (fun h => he (by rw [h, hy] at hx; exact (Option.some.inj hx).symm))]
          exact leD_refl _
      · skip
        repeat' first | (with_reducible first | refine AWP_seq' ?_ | refine k_normal ?_ | refine k_exit ?_ | refine b_exit ?_ | refine AWP_ret ?_ | refine AWP_exit ?_) | ((with_reducible refine AWP_reg fun KC J hJ hKC => ?_); simp (maxSteps := 9999999) only [push_cast, seval, ↓reduceIte, hlt]) | ((with_reducible refine hJ _ _ ?_); clear hJ hKC KC J) | ((with_reducible refine AWP_condF ?_ ?_); · rfl)
        refine ret_plain ?_
        simp (maxSteps := 9999999) only [push_cast, seval, ↓reduceIte, show Tryz.f155.results = #[(.tmp 4)] from rfl]
        rw [decide_eq_true (list_eq_of hl fun j hj => hn j (by omega))]
        exact leD_refl _
  · have hl' : ((xs.length : Int) != (ys.length : Int)) = true := by simp; omega
    repeat' first | (with_reducible first | refine AWP_seq' ?_ | refine k_normal ?_ | refine k_ret ?_ | refine AWP_ret ?_) | ((with_reducible refine AWP_reg fun KC J hJ hKC => ?_); simp (maxSteps := 9999999) only [push_cast, seval, ↓reduceIte, hl']) | ((with_reducible refine hJ _ _ ?_); clear hJ hKC KC J) | ((with_reducible refine AWP_condT ?_ ?_); · rfl)
    refine ret_plain ?_
    simp (maxSteps := 9999999) only [push_cast, seval, ↓reduceIte, show Tryz.f155.results = #[(.tmp 4)] from rfl]
    rw [decide_eq_false (fun h => hl (by rw [h]))]
    exact leD_refl _
theorem eqT_fn (f g : Bool) (xs ys : List (Int × Int × Int)) (hb : xs.length ≤ 1000) : Fn Tryz.prog 249 [.sl f 3 (tRow xs), .sl g 3 (tRow ys)] [] (.v (.bool (decide (xs = ys)))) [] := by
  refine Fn.of (fn := Tryz.f249) (by kernel_rfl) rfl (by kernel_rfl) ⟨[.sl f 3 (tRow xs), .sl g 3 (tRow ys), .v undef, .v undef, .v undef, .v undef, .v undef, .v undef, .v undef, .v undef, .v undef, .v undef, .v undef, .v undef, .v undef, .v undef, .v undef, .v undef, .v undef, .v undef, .v undef, .v undef, .v undef, .v undef, .v undef, .v undef], []⟩ rfl ?_
  by_cases hl : xs.length = ys.length
  · have hl' : ((xs.length : Int) != (ys.length : Int)) = false := by simp [hl]
    repeat' first | (with_reducible first | refine AWP_seq' ?_ | refine k_normal ?_ | refine AWP_skip ?_ | refine AWP_block ?_) | ((with_reducible refine AWP_reg fun KC J hJ hKC => ?_); simp (maxSteps := 9999999) only [push_cast, seval, ↓reduceIte, hl']) | ((with_reducible refine hJ _ _ ?_); clear hJ hKC KC J) | ((with_reducible refine AWP_condF ?_ ?_); · rfl)
    refine AWP_loopF (γ := {i : Nat // i ≤ xs.length ∧ ∀ j, j < i → xs[j]? = ys[j]?}) (fun i => ⟨[.sl f 3 (tRow xs), .sl g 3 (tRow ys), .any, .any, .any, .any, .any, .any, .any, .any, .any, .any, .v (.int .i64 xs.length), .v (.int .i64 i.1), .any, .any, .any, .any, .any, .any, .any, .any, .any, .any, .any, .any], []⟩) (fun i => xs.length - i.1) ⟨0, by simp⟩ ⟨?_, Fq⟩ ?_
    · exact Lq
    · rintro ⟨i, hi, hn⟩
      by_cases hlt : (i : Int) < (xs.length : Int)
      · have hx : xs[i]? = some xs[i] := List.getElem?_eq_getElem (by omega)
        have hy : ys[i]? = some ys[i] := List.getElem?_eq_getElem (by omega)
        obtain ⟨⟨a1, a2, a3⟩, ha⟩ : ∃ a, xs[i] = a := ⟨_, rfl⟩
        obtain ⟨⟨b1, b2, b3⟩, hb2⟩ : ∃ b, ys[i] = b := ⟨_, rfl⟩
        rw [ha] at hx
        rw [hb2] at hy
        by_cases he : (a1, a2, a3) = (b1, b2, b3)
        · have he' : decide ((a1, a2, a3) = (b1, b2, b3)) = true := decide_eq_true he
          cases he
          repeat' first | (with_reducible first | refine AWP_seq' ?_ | refine k_normal ?_ | refine b_normal ?_ | refine AWP_skip ?_ | refine AWP_block ?_) | ((with_reducible refine And.intro ?_ ?_); · exact Sq) | ((first | with_reducible refine AWP_reg fun KC J hJ hKC => ?_ | with_reducible refine AWP_regD rfl fun KC J hJ hKC => ?_); simp (maxSteps := 9999999) only [push_cast, seval, ↓reduceIte, hlt, getE_t hx, getE_t hy, beq_self_eq_true, Bool.and_self, Bool.not_true, bne_self_eq_false, wrapN (i := i) (n := xs.length) (by omega) (by omega)]) | ((first | with_reducible refine hJ _ _ ?_ | (with_reducible refine hJ _ _ ?_ ?_; · kernel_rfl)); clear hJ hKC KC J) | ((with_reducible refine AWP_condT ?_ ?_); · rfl) | ((with_reducible refine AWP_condF ?_ ?_); · rfl)
          refine ⟨⟨i + 1, by omega, fun j hj => ?_⟩, by simp only; omega, ?_, Fq⟩
          · by_cases hji : j = i
            · rw [hji, hx, hy]
            · exact hn j (by omega)
          · exact Lq
        · have he' : (a1 == b1 && (a2 == b2 && a3 == b3)) = false := by
            cases h : (a1 == b1 && (a2 == b2 && a3 == b3)) with
            | false => rfl
            | true =>
              simp only [Bool.and_eq_true, beq_iff_eq] at h
              exact absurd (by rw [h.1, h.2.1, h.2.2]) he
          repeat' first | (with_reducible first | refine AWP_seq' ?_ | refine k_normal ?_ | refine k_ret ?_ | refine b_ret ?_ | refine AWP_ret ?_ | refine AWP_skip ?_ | refine AWP_block ?_) | ((with_reducible refine And.intro ?_ ?_); · exact Sq) | ((first | with_reducible refine AWP_reg fun KC J hJ hKC => ?_ | with_reducible refine AWP_regD rfl fun KC J hJ hKC => ?_); simp (maxSteps := 9999999) only [push_cast, seval, ↓reduceIte, hlt, getE_t hx, getE_t hy, he']) | ((first | with_reducible refine hJ _ _ ?_ | (with_reducible refine hJ _ _ ?_ ?_; · kernel_rfl)); clear hJ hKC KC J) | ((with_reducible refine AWP_condT ?_ ?_); · rfl)
          refine ret_plain ?_
          simp (maxSteps := 9999999) only [push_cast, seval, ↓reduceIte, show Tryz.f249.results = #[(.tmp 4)] from rfl]
          rw [decide_eq_false (fun h => he (by rw [h, hy] at hx; exact (Option.some.inj hx).symm))]
          exact leD_refl _
      · skip
        repeat' first | (with_reducible first | refine AWP_seq' ?_ | refine k_normal ?_ | refine k_exit ?_ | refine b_exit ?_ | refine AWP_ret ?_ | refine AWP_exit ?_) | ((with_reducible refine AWP_reg fun KC J hJ hKC => ?_); simp (maxSteps := 9999999) only [push_cast, seval, ↓reduceIte, hlt]) | ((with_reducible refine hJ _ _ ?_); clear hJ hKC KC J) | ((with_reducible refine AWP_condF ?_ ?_); · rfl)
        refine ret_plain ?_
        simp (maxSteps := 9999999) only [push_cast, seval, ↓reduceIte, show Tryz.f249.results = #[(.tmp 4)] from rfl]
        rw [decide_eq_true (list_eq_of hl fun j hj => hn j (by omega))]
        exact leD_refl _
  · have hl' : ((xs.length : Int) != (ys.length : Int)) = true := by simp; omega
    repeat' first | (with_reducible first | refine AWP_seq' ?_ | refine k_normal ?_ | refine k_ret ?_ | refine AWP_ret ?_) | ((with_reducible refine AWP_reg fun KC J hJ hKC => ?_); simp (maxSteps := 9999999) only [push_cast, seval, ↓reduceIte, hl']) | ((with_reducible refine hJ _ _ ?_); clear hJ hKC KC J) | ((with_reducible refine AWP_condT ?_ ?_); · rfl)
    refine ret_plain ?_
    simp (maxSteps := 9999999) only [push_cast, seval, ↓reduceIte, show Tryz.f249.results = #[(.tmp 4)] from rfl]
    rw [decide_eq_false (fun h => hl (by rw [h]))]
    exact leD_refl _
theorem codeLike_fn (f g : Bool) (xs ys : List (Int × Int × Int)) (hb : xs.length ≤ 1000) : Fn Tryz.prog 153 [.sl f 3 (tRow xs), .sl g 3 (tRow ys)] [] (.v (.bool (decide (xs = ys)))) [] := by
  have h := eqT_fn f g xs ys hb
  refine Fn.of (fn := Tryz.f153) (by kernel_rfl) rfl (by kernel_rfl) ⟨[.sl f 3 (tRow xs), .sl g 3 (tRow ys), .v undef, .v undef, .v undef, .v undef, .v undef, .v undef], []⟩ rfl ?_
  repeat' first | (with_reducible first | refine AWP_seq' ?_ | refine k_normal ?_ | refine AWP_ret ?_) | ((first | with_reducible refine AWP_reg fun KC J hJ hKC => ?_ | (refine hKC _ _ _ _ _ (callV0 (h) rfl rfl rfl ?_ ?_); (· exact Lq))); simp (maxSteps := 9999999) only [push_cast, seval, ↓reduceIte]) | ((with_reducible refine hJ _ _ ?_); clear hJ hKC KC J)
  refine ret_plain ?_
  simp (maxSteps := 9999999) only [push_cast, seval, ↓reduceIte, show Tryz.f153.results = #[(.tmp 4)] from rfl]
  exact Lq
def likeS (a b : Sta) : Bool := ((a.v == b.v) && (a.l == b.l)) && (decide (a.code = b.code) && (decide (a.mem = b.mem) && (decide (a.stack = b.stack) && decide (a.out = b.out))))
theorem likeS_iff {a b : Sta} : likeS a b = true ↔ a = b := by
  obtain ⟨v, l, c, m, s, o⟩ := a
  obtain ⟨v', l', c', m', s', o'⟩ := b
  simp [likeS]
  constructor
  · rintro ⟨⟨h1, h2⟩, h3, h4, h5, h6⟩; exact ⟨h1, h2, h3, h4, h5, h6⟩
  · rintro ⟨h1, h2, h3, h4, h5, h6⟩; exact ⟨⟨h1, h2⟩, h3, h4, h5, h6⟩
theorem stLike_fn (a b : Sta) (ha : Sml a) : Fn Tryz.prog 64 [.agg (staF false false false false a), .agg (staF false false false false b)] [] (.v (.bool (likeS a b))) [] := by
  obtain ⟨a1, a2, a3, a4⟩ := ha
  have h1 := codeLike_fn false false a.code b.code a1
  have h2 := eqA_fn false false a.mem b.mem (by omega)
  have h3 := eqS_fn false false a.stack b.stack a3
  have h4 := eqA_fn false false a.out b.out (by omega)
  unfold likeS
  obtain ⟨p0, hp0⟩ : ∃ x, (a.v == b.v) = x := ⟨_, rfl⟩
  obtain ⟨p9, hp9⟩ : ∃ x, (a.l == b.l) = x := ⟨_, rfl⟩
  obtain ⟨p1, hp1⟩ : ∃ x, decide (a.code = b.code) = x := ⟨_, rfl⟩
  obtain ⟨p2, hp2⟩ : ∃ x, decide (a.mem = b.mem) = x := ⟨_, rfl⟩
  obtain ⟨p3, hp3⟩ : ∃ x, decide (a.stack = b.stack) = x := ⟨_, rfl⟩
  obtain ⟨p4, hp4⟩ : ∃ x, decide (a.out = b.out) = x := ⟨_, rfl⟩
  rw [hp1] at h1
  rw [hp2] at h2
  rw [hp3] at h3
  rw [hp4] at h4
  rw [hp0, hp9, hp1, hp2, hp3, hp4]
  simp only [staF]
  cases p0 <;> cases p9 <;> cases p1 <;> cases p2 <;> cases p3
  all_goals
    refine Fn.of (fn := Tryz.f64) (by kernel_rfl) rfl (by kernel_rfl) ⟨[.agg [.v (.int .i64 a.v), .v (.int .i64 a.l), .sl false 3 (tRow a.code), .sl false 2 (pRow a.mem), .sl false 3 (sRow a.stack), .sl false 2 (pRow a.out)], .agg [.v (.int .i64 b.v), .v (.int .i64 b.l), .sl false 3 (tRow b.code), .sl false 2 (pRow b.mem), .sl false 3 (sRow b.stack), .sl false 2 (pRow b.out)], .v undef, .v undef, .v undef, .v undef, .v undef, .v undef, .v undef, .v undef, .v undef, .v undef, .v undef, .v undef, .v undef, .v undef, .v undef, .v undef, .v undef, .v undef, .v undef, .v undef, .v undef, .v undef, .v undef, .v undef, .v undef, .v undef, .v undef, .v undef, .v undef, .v undef, .v undef, .v undef, .v undef, .v undef, .v undef, .v undef], []⟩ rfl ?_
    repeat' first | (with_reducible first | refine AWP_seq' ?_ | refine k_normal ?_ | refine AWP_ret ?_) | ((first | with_reducible refine AWP_reg fun KC J hJ hKC => ?_ | (refine hKC _ _ _ _ _ (callV0 (h1) rfl rfl rfl ?_ ?_); (· exact Lq)) | (refine hKC _ _ _ _ _ (callV0 (h2) rfl rfl rfl ?_ ?_); (· exact Lq)) | (refine hKC _ _ _ _ _ (callV0 (h3) rfl rfl rfl ?_ ?_); (· exact Lq)) | (refine hKC _ _ _ _ _ (callV0 (h4) rfl rfl rfl ?_ ?_); (· exact Lq))); simp (maxSteps := 9999999) only [push_cast, seval, ↓reduceIte, hp0, hp9, undef, Bool.and_self, Bool.and_true, Bool.and_false, Bool.false_and, Bool.true_and]) | ((with_reducible refine hJ _ _ ?_); clear hJ hKC KC J)
    refine ret_plain ?_
    simp (maxSteps := 9999999) only [push_cast, seval, ↓reduceIte, show Tryz.f64.results = #[(.tmp 4)] from rfl]
    first | exact Lq | (simp only [Bool.true_and, Bool.and_true, Bool.and_false, Bool.false_and]; exact Lq)
end Go.Proofs.YtabliglgeiajlaaGreat.AM

namespace Go.Proofs.YtabliglgeiajlaaGreat.AM
open Go Go.RowKit Go.Proofs
set_option maxRecDepth 100000
set_option maxHeartbeats 4000000
def upd {α : Type} (l : List α) (i : Nat) (g : α → α) : List α := match l[i]? with | some x => l.set i (g x) | none => l
theorem upd_none {α : Type} {l : List α} {i : Nat} {g : α → α} (h : l.length ≤ i) : upd l i g = l := by
  unfold upd; rw [List.getElem?_eq_none h]
theorem upd_some {α : Type} {l : List α} {i : Nat} {g : α → α} {x : α} (h : l[i]? = some x) : upd l i g = l.set i (g x) := by
  unfold upd; rw [h]
theorem upd_cases {α : Type} (l : List α) (i : Nat) (g : α → α) : upd l i g = l ∨ ∃ p x q, l = p ++ x :: q ∧ upd l i g = p ++ g x :: q ∧ p.length = i := by
  by_cases h : i < l.length
  · refine .inr ⟨l.take i, l[i], l.drop (i + 1), ?_, ?_, by simp; omega⟩
    · rw [List.getElem_cons_drop, List.take_append_drop]
    · rw [upd_some (List.getElem?_eq_getElem h), List.set_eq_take_append_cons_drop, if_pos h]
  · exact .inl (upd_none (by omega))
theorem upd_length {α : Type} (l : List α) (i : Nat) (g : α → α) : (upd l i g).length = l.length := by
  unfold upd; split <;> simp
theorem upd_all {α : Type} {p : α → Bool} {l : List α} {i : Nat} {g : α → α} (h : l.all p = true) (hg : ∀ x ∈ l, p x = true → p (g x) = true) : (upd l i g).all p = true := by
  rcases upd_cases l i g with h1 | ⟨a, x, b, h1, h2, _⟩
  · rw [h1]; exact h
  · rw [h2]
    rw [h1] at h hg
    simp only [List.all_append, List.all_cons, Bool.and_eq_true] at h ⊢
    exact ⟨h.1, hg x (by simp) h.2.1, h.2.2⟩
def befI (i : Nat) (n : Int) : Int := if (i : Int) < n then n - 1 else n
def befC (i : Nat) (x : Int × Int × Int) : Int × Int × Int := if x.1 = 8 then (x.1, befI i x.2.1, x.2.2) else x
def befS (i : Nat) (x : Bool × Int × Int) : Bool × Int × Int := if x.1 = true then (x.1, befI i x.2.1, x.2.2) else x
def instM (f : Int × Int → Int × Int) (x : Int × Int × Int) : Int × Int × Int := if x.1 = 1 then (x.1, f x.2) else x
def slotM (f : Int × Int → Int × Int) (x : Bool × Int × Int) : Bool × Int × Int := (x.1, f x.2)
inductive Do
  | half (b : Nat)
  | bot (b : Int)
def doF : Do → Int × Int → Int × Int
  | .half b, x => (x.1.tdiv 2 * (b : Int), x.2)
  | .bot b, x => (x.1, b)
def atF (k i : Nat) (f : Int × Int → Int × Int) (s : Sta) : Sta :=
  match k with
  | 0 => { s with code := upd s.code i (instM f) }
  | 1 => { s with mem := upd s.mem i f }
  | _ => { s with stack := upd s.stack i (slotM f) }
inductive Mv
  | without (i : Nat)
  | idle (i : Nat)
  | less
  | silent
  | pull (i : Nat)
  | num (k i : Nat) (d : Do)
  | still
def mvF : Mv → Sta → Sta
  | .without i, s => if i < s.code.length then { s with v := befI i s.v, code := (s.code.take i ++ s.code.drop (i + 1)).map (befC i), stack := s.stack.map (befS i) } else s
  | .idle i, s => { s with code := upd s.code i fun _ => (0, 0, 0) }
  | .less, s => { s with mem := s.mem.take (s.mem.length - 1) }
  | .silent, s => { s with out := [] }
  | .pull i, s => if i < s.stack.length then { s with stack := s.stack.take i ++ s.stack.drop (i + 1) } else s
  | .num k i d, s => atF k i (doF d) s
  | .still, s => s
def Bot (us : List Nat) (b : Int) : Prop := ∃ a : Nat, b = (a : Int) ∧ a < us.length ∧ ∀ c, c < us.length → fl us a c = true
def DoOk (us : List Nat) : Do → Prop
  | .half b => b < 2
  | .bot b => Bot us b
def MvOk (us : List Nat) : Mv → Prop
  | .num k _ d => k ≤ 2 ∧ DoOk us d
  | _ => True
theorem befI_in {i : Nat} {n : Int} (h : inB 0 12 n = true) : inB 0 12 (befI i n) = true := by
  rw [inB_iff] at h ⊢; unfold befI; split <;> omega
theorem befC_B {n i : Nat} {x : Int × Int × Int} (h : instrB n x = true) : instrB n (befC i x) = true := by
  unfold befC
  split
  · rename_i h8
    unfold instrB at h ⊢
    simp only [h8] at h ⊢
    rw [if_neg (by omega)] at h ⊢
    simp only [if_true, Bool.and_eq_true] at h ⊢
    exact ⟨h.1, h.2.1, befI_in h.2.2⟩
  · exact h
theorem befS_B {n i : Nat} {x : Bool × Int × Int} (h : slotB n x = true) : slotB n (befS i x) = true := by
  unfold befS
  split
  · rename_i h1
    unfold slotB at h ⊢
    simp only [h1, if_true, Bool.and_eq_true] at h ⊢
    exact ⟨h.1, befI_in h.2⟩
  · exact h
theorem tdiv2 (n : Int) : (0 ≤ n → 0 ≤ n.tdiv 2 ∧ n.tdiv 2 ≤ n ∧ (0 < n → n.tdiv 2 < n)) ∧ (n ≤ 0 → n ≤ n.tdiv 2 ∧ n.tdiv 2 ≤ 0 ∧ (n < 0 → n < n.tdiv 2)) := by
  refine ⟨fun h => ?_, fun h => ?_⟩
  · rw [Int.tdiv_eq_ediv_of_nonneg h]; omega
  · have : n.tdiv 2 = -((-n).tdiv 2) := by rw [Int.neg_tdiv, Int.neg_neg]
    rw [this, Int.tdiv_eq_ediv_of_nonneg (by omega)]; omega
theorem halfI {n : Int} {b : Nat} (hb : b < 2) : n.tdiv 2 * (b : Int) = 0 ∨ n.tdiv 2 * (b : Int) = n.tdiv 2 := by
  rcases (show b = 0 ∨ b = 1 by omega) with rfl | rfl
  · left; simp
  · right; simp
theorem half_in {lo hi n : Int} {b : Nat} (h0 : lo ≤ 0) (h1 : 0 ≤ hi) (hb : b < 2) (h : inB lo hi n = true) : inB lo hi (n.tdiv 2 * (b : Int)) = true := by
  rw [inB_iff] at h ⊢
  have h2 := tdiv2 n
  rcases halfI (n := n) hb with h3 | h3 <;> rw [h3] <;> rcases Int.le_total 0 n with h4 | h4
  · omega
  · omega
  · have := h2.1 h4; omega
  · have := h2.2 h4; omega
theorem oddL_bot {us : List Nat} {b : Int} (h : Bot us b) : oddL us.length b = false := by
  obtain ⟨a, rfl, ha, _⟩ := h
  exact oddL_iff.2 ⟨by omega, by omega⟩
theorem doF_B {us : List Nat} {d : Do} (hd : DoOk us d) {x : Int × Int} (h : atomB us.length x = true) : atomB us.length (doF d x) = true := by
  simp only [atomB, Bool.and_eq_true, Bool.not_eq_true'] at h ⊢
  cases d with
  | half b => exact ⟨half_in (by omega) (by omega) hd h.1, h.2⟩
  | bot b => exact ⟨h.1, oddL_bot hd⟩
theorem instM_B {us : List Nat} {d : Do} (hd : DoOk us d) {x : Int × Int × Int} (h : instrB us.length x = true) : instrB us.length (instM (doF d) x) = true := by
  unfold instM
  split
  · rename_i h1
    unfold instrB at h ⊢
    simp only [h1, if_true] at h ⊢
    exact doF_B (x := x.2) hd h
  · exact h
theorem slotM_B {us : List Nat} {d : Do} (hd : DoOk us d) {x : Bool × Int × Int} (h : slotB us.length x = true) : slotB us.length (slotM (doF d) x) = true := by
  unfold slotB slotM at *
  simp only [Bool.and_eq_true, Bool.not_eq_true'] at h ⊢
  cases d with
  | half b =>
    refine ⟨h.1, ?_⟩
    have h2 := h.2
    simp only [doF]
    split at h2
    · rename_i h3; rw [if_pos h3]; exact half_in (by omega) (by omega) hd h2
    · rename_i h3; rw [if_neg h3]; exact half_in (by omega) (by omega) hd h2
  | bot b => exact ⟨oddL_bot hd, h.2⟩
theorem mv_B {us : List Nat} {m : Mv} (hm : MvOk us m) {s : Sta} (h : staB us.length s = true) : staB us.length (mvF m s) = true := by
  have h0 := h
  simp only [staB, codeB, Bool.and_eq_true, decide_eq_true_eq, Bool.not_eq_true'] at h ⊢
  obtain ⟨⟨a1, a2⟩, a3, a4, a5, a6, a7, a8, a9, a10⟩ := h
  cases m with
  | without i =>
    simp only [mvF]
    split
    · rename_i hi
      refine ⟨⟨?_, ?_⟩, befI_in a3, a4, a5, a6, ?_, by simpa using a8, a9, a10⟩
      · rw [List.all_map, List.all_eq_true]
        intro x hx
        refine befC_B (List.all_eq_true.1 a1 x ?_)
        rcases List.mem_append.1 hx with h | h
        · exact List.mem_of_mem_take h
        · exact List.mem_of_mem_drop h
      · simp only [List.length_map, List.length_append, List.length_take, List.length_drop]; omega
      · rw [List.all_map, List.all_eq_true]
        intro x hx
        exact befS_B (List.all_eq_true.1 a7 x hx)
    · exact ⟨⟨a1, a2⟩, a3, a4, a5, a6, a7, a8, a9, a10⟩
  | idle i =>
    simp only [mvF]
    refine ⟨⟨upd_all a1 fun x hx h => ?_, by rw [upd_length]; exact a2⟩, a3, a4, a5, a6, a7, a8, a9, a10⟩
    rfl
  | less =>
    simp only [mvF]
    refine ⟨⟨a1, a2⟩, a3, a4, ?_, by simp; omega, a7, a8, a9, a10⟩
    rw [List.all_eq_true]
    intro x hx
    exact List.all_eq_true.1 a5 x (List.mem_of_mem_take hx)
  | silent => exact ⟨⟨a1, a2⟩, a3, a4, a5, a6, a7, a8, rfl, by simp [mvF]⟩
  | pull i =>
    simp only [mvF]
    split
    · refine ⟨⟨a1, a2⟩, a3, a4, a5, a6, ?_, ?_, a9, a10⟩
      · rw [List.all_eq_true]
        intro x hx
        refine List.all_eq_true.1 a7 x ?_
        rcases List.mem_append.1 hx with h | h
        · exact List.mem_of_mem_take h
        · exact List.mem_of_mem_drop h
      · simp only [List.length_append, List.length_take, List.length_drop]; omega
    · exact ⟨⟨a1, a2⟩, a3, a4, a5, a6, a7, a8, a9, a10⟩
  | num k i d =>
    simp only [mvF, atF]
    match k with
    | 0 => exact ⟨⟨upd_all a1 fun x _ h => instM_B hm.2 h, by show (upd _ _ _).length ≤ _; rw [upd_length]; exact a2⟩, a3, a4, a5, a6, a7, a8, a9, a10⟩
    | 1 => exact ⟨⟨a1, a2⟩, a3, a4, upd_all a5 fun x _ h => doF_B hm.2 h, by show (upd _ _ _).length ≤ _; rw [upd_length]; exact a6, a7, a8, a9, a10⟩
    | _ + 2 => exact ⟨⟨a1, a2⟩, a3, a4, a5, a6, upd_all a7 fun x _ h => slotM_B hm.2 h, by show (upd _ _ _).length ≤ _; rw [upd_length]; exact a8, a9, a10⟩
  | still => exact ⟨⟨a1, a2⟩, a3, a4, a5, a6, a7, a8, a9, a10⟩
def sA {α : Type} (f : α → Int) (l : List α) : Int := (l.map f).sum
theorem sA_cons {α : Type} (f : α → Int) (x : α) (l : List α) : sA f (x :: l) = f x + sA f l := by simp [sA]
theorem sA_app {α : Type} (f : α → Int) (l m : List α) : sA f (l ++ m) = sA f l + sA f m := by simp [sA, List.sum_append]
theorem sA_map {α β : Type} (f : β → Int) (g : α → β) (l : List α) : sA f (l.map g) = sA (fun x => f (g x)) l := by
  simp only [sA, List.map_map]; rfl
theorem sA_congr {α : Type} {f g : α → Int} (l : List α) (h : ∀ x, f x = g x) : sA f l = sA g l := by rw [show f = g from funext h]
def hN (us : List Nat) (l : Int) : Int := if 0 ≤ l then ((hgt us l.toNat : Nat) : Int) else 0
def cntS (s : Sta) : Nat := s.code.length + s.mem.length + s.stack.length + s.out.length + (s.code.filter deedB).length
def sumA (s : Sta) : Int := absI s.v + (sA (fun x => absI x.2.1) s.code + ((sA (fun x => absI x.1) s.mem + sA (fun x => absI x.1) s.out) + sA (fun x => absI x.2.1) s.stack))
def sumH (us : List Nat) (s : Sta) : Int := hN us s.l + (sA (fun x => if x.1 = 1 then hN us x.2.2 else 0) s.code + ((sA (fun x => hN us x.2) s.mem + sA (fun x => hN us x.2) s.out) + sA (fun x => hN us x.2.2) s.stack))
theorem foldNum (us : List Nat) : ∀ (l : List (Int × Int)) (z : Int × Int × Int), l.foldl (numZ us) z = (z.1, z.2.1 + sA (fun p => absI p.1) l, z.2.2 + sA (fun p => hN us p.2) l)
  | [], z => by simp [sA]
  | p :: l, z => by
    rw [List.foldl_cons, foldNum us l, sA_cons, sA_cons]
    simp only [numZ, hN]
    refine Prod.ext rfl (Prod.ext ?_ ?_)
    · simp only; omega
    · simp only
      split <;> omega
theorem sizeZ_parts {us : List Nat} {n : Nat} {s : Sta} (h : StaN n s) : sizeZ us (0, 0, 0) s = (((cntS s : Nat) : Int), sumA s, sumH us s) := by
  rw [sizeZ_num h, foldNum]
  unfold numsL sumA sumH cntS
  simp only [sA_cons, sA_app, sA_map, Int.zero_add]
  refine Prod.ext rfl (Prod.ext rfl ?_)
  simp only
  congr 2
  refine sA_congr _ fun x => ?_
  unfold instQ hN
  by_cases h1 : x.1 = 1
  · simp only [if_pos h1]
  · simp only [if_neg h1]; rfl
def Sm (us : List Nat) (t s : Sta) : Prop := cntS t < cntS s ∨ (cntS t = cntS s ∧ (sumA t < sumA s ∨ (sumA t = sumA s ∧ sumH us t < sumH us s)))
theorem deed_befC (i : Nat) (x : Int × Int × Int) : deedB (befC i x) = deedB x := by
  unfold deedB befC; split <;> rfl
theorem deed_instM (f : Int × Int → Int × Int) (x : Int × Int × Int) : deedB (instM f x) = deedB x := by
  unfold deedB instM; split <;> rfl
theorem hgt_bot {us : List Nat} (ho : Ord us) {a : Nat} (ha : a < us.length) (h : ∀ c, c < us.length → fl us a c = true) : hgt us a = 0 := by
  unfold hgt hgtK
  refine hgtS_none (Nat.le_refl _) fun c hc => ?_
  by_cases he : c = a
  · subst he; exact bel_self us c
  · have h1 := ho.2.1 c hc a ha he
    have h2 := h c hc
    simp only [bel]
    cases h3 : fl us c a
    · simp
    · exact absurd ⟨h3, h2⟩ h1
theorem hgtS_pos {us : List Nat} {h : Nat → Nat} {a b : Nat} (hb : bel us b a = true) : ∀ {n}, b < n → 0 < hgtS us h a n
  | 0, hn => by omega
  | n + 1, hn => by
    unfold hgtS
    by_cases he : b = n
    · subst he; rw [if_pos hb]; omega
    · have := hgtS_pos (us := us) (h := h) hb (n := n) (by omega)
      split <;> omega
theorem hgt_pos {us : List Nat} {a b : Nat} (hb : b < us.length) (h : bel us b a = true) : 0 < hgt us a := by
  unfold hgt hgtK
  exact hgtS_pos h hb
theorem hN_bot {us : List Nat} (ho : Ord us) {b l : Int} (hb : Bot us b) (hl : oddL us.length l = false) (hne : l ≠ b) : hN us b < hN us l := by
  obtain ⟨a, rfl, ha, hall⟩ := hb
  obtain ⟨c, rfl, hc⟩ := oddL_no hl
  unfold hN
  rw [if_pos (by omega), if_pos (by omega), Int.toNat_natCast, Int.toNat_natCast, hgt_bot ho ha hall]
  have hne' : ¬ a = c := fun h => hne (by rw [h])
  have := hgt_pos (a := c) ha (show bel us a c = true by simp [bel, hne', hall c hc])
  omega
theorem absI_half {n : Int} {b : Nat} (hb : b < 2) (h : n ≠ 0) : absI (n.tdiv 2 * (b : Int)) < absI n := by
  have h2 := tdiv2 n
  unfold absI
  rcases halfI (n := n) hb with h3 | h3 <;> rw [h3] <;> rcases Int.le_total 0 n with h4 | h4
  · split <;> split <;> omega
  · split <;> split <;> omega
  · have := h2.1 h4; split <;> split <;> omega
  · have := h2.2 h4; split <;> split <;> omega
theorem doF_less {us : List Nat} (ho : Ord us) {d : Do} (hd : DoOk us d) {x : Int × Int} (hx : oddL us.length x.2 = false) :
    doF d x = x ∨ absI (doF d x).1 < absI x.1 ∨ (absI (doF d x).1 = absI x.1 ∧ hN us (doF d x).2 < hN us x.2) := by
  obtain ⟨v, l⟩ := x
  cases d with
  | half b =>
    by_cases h : v = 0
    · left; subst h; simp [doF]
    · right; left; exact absI_half hd h
  | bot b =>
    by_cases h : l = b
    · left; subst h; rfl
    · right; right; exact ⟨rfl, hN_bot ho hd hx h⟩
theorem mv_less {us : List Nat} (ho : Ord us) {m : Mv} (hm : MvOk us m) {s : Sta} (h : staB us.length s = true) : mvF m s = s ∨ Sm us (mvF m s) s := by
  have hN := sta_num h
  simp only [staB, codeB, Bool.and_eq_true, decide_eq_true_eq, Bool.not_eq_true'] at h
  obtain ⟨⟨a1, a2⟩, a3, a4, a5, a6, a7, a8, a9, a10⟩ := h
  cases m with
  | without i =>
    simp only [mvF]
    split
    · rename_i hi
      right; left
      have h1 : (((s.code.take i ++ s.code.drop (i + 1)).map (befC i)).filter deedB).length ≤ (s.code.filter deedB).length := by
        rw [List.filter_map, List.length_map, show (deedB ∘ befC i) = deedB from funext (deed_befC i)]
        conv => rhs; rw [← List.take_append_drop i s.code]
        rw [List.filter_append, List.filter_append, List.length_append, List.length_append, ← List.getElem_cons_drop hi, List.filter_cons]
        split
        · rw [List.length_cons]; omega
        · omega
      simp only [cntS, List.length_map, List.length_append, List.length_take, List.length_drop]
      omega
    · left; rfl
  | idle i =>
    simp only [mvF]
    rcases upd_cases s.code i (fun _ => (0, 0, 0)) with h1 | ⟨p, x, q, h1, h2, _⟩
    · left; rw [h1]
    · rw [h2]
      by_cases hd : deedB x = true
      · right; left
        simp only [cntS, h1, List.filter_append, List.filter_cons, hd, if_true, List.length_append, List.length_cons]
        rw [if_neg (by simp [deedB])]
        omega
      · left
        have hx : x = (0, 0, 0) := by
          have := List.all_eq_true.1 a1 x (by rw [h1]; simp)
          obtain ⟨o, v, l⟩ := x
          have ho0 : o = 0 := by simpa [deedB] using hd
          subst ho0
          simp [instrB] at this
          simp [this]
        rw [hx] at h1
        rw [← h1]
  | less =>
    simp only [mvF]
    by_cases h0 : s.mem.length = 0
    · left; rw [List.length_eq_zero_iff.1 h0, List.take_nil, ← List.length_eq_zero_iff.1 h0]
    · right; left
      simp only [cntS, List.length_take]
      omega
  | silent =>
    simp only [mvF]
    by_cases h0 : s.out.length = 0
    · left; rw [← List.length_eq_zero_iff.1 h0]
    · right; left
      simp only [cntS, List.length_nil]
      omega
  | pull i =>
    simp only [mvF]
    split
    · right; left
      simp only [cntS, List.length_append, List.length_take, List.length_drop]
      omega
    · left; rfl
  | num k i d =>
    simp only [mvF, atF]
    match k with
    | 0 =>
      rcases upd_cases s.code i (instM (doF d)) with h1 | ⟨p, x, q, h1, h2, _⟩
      · left; simp only [h1]
      · simp only [h2]
        have hx := hN.code x (by rw [h1]; simp)
        by_cases hx1 : x.1 = 1
        · have e1 : instM (doF d) x = (x.1, doF d x.2) := by unfold instM; rw [if_pos hx1]
          rcases doF_less ho hm.2 (x := x.2) (hx.2.2 hx1) with h3 | h3 | h3
          · left; rw [e1, h3]; rw [← h1]
          · right; right
            refine ⟨?_, .inl ?_⟩
            · simp only [cntS, h1, List.filter_append, List.filter_cons, deed_instM, List.length_append, List.length_cons]
              split <;> simp
            · simp only [sumA, h1, sA_app, sA_cons, e1]; omega
          · right; right
            refine ⟨?_, .inr ⟨?_, ?_⟩⟩
            · simp only [cntS, h1, List.filter_append, List.filter_cons, deed_instM, List.length_append, List.length_cons]
              split <;> simp
            · simp only [sumA, h1, sA_app, sA_cons, e1]; omega
            · simp only [sumH, h1, sA_app, sA_cons, e1, if_pos hx1]; omega
        · left
          rw [show instM (doF d) x = x by unfold instM; rw [if_neg hx1], ← h1]
    | 1 =>
      rcases upd_cases s.mem i (doF d) with h1 | ⟨p, x, q, h1, h2, _⟩
      · left; simp only [h1]
      · simp only [h2]
        have hx := hN.mem x (by rw [h1]; simp)
        rcases doF_less ho hm.2 (x := x) hx.2.2 with h3 | h3 | h3
        · left; rw [h3, ← h1]
        · right; right
          refine ⟨?_, .inl ?_⟩
          · simp only [cntS, h1, List.length_append, List.length_cons]
          · simp only [sumA, h1, sA_app, sA_cons]; omega
        · right; right
          refine ⟨?_, .inr ⟨?_, ?_⟩⟩
          · simp only [cntS, h1, List.length_append, List.length_cons]
          · simp only [sumA, h1, sA_app, sA_cons]; omega
          · simp only [sumH, h1, sA_app, sA_cons]; omega
    | k + 2 =>
      rcases upd_cases s.stack i (slotM (doF d)) with h1 | ⟨p, x, q, h1, h2, _⟩
      · left; simp only [h1]
      · simp only [h2]
        have hx := hN.stack x (by rw [h1]; simp)
        rcases doF_less ho hm.2 (x := x.2) hx.2.2 with h3 | h3 | h3
        · left; rw [show slotM (doF d) x = x by unfold slotM; rw [h3], ← h1]
        · right; right
          refine ⟨?_, .inl ?_⟩
          · simp only [cntS, h1, List.length_append, List.length_cons]
          · simp only [sumA, h1, sA_app, sA_cons, slotM]; omega
        · right; right
          refine ⟨?_, .inr ⟨?_, ?_⟩⟩
          · simp only [cntS, h1, List.length_append, List.length_cons]
          · simp only [sumA, h1, sA_app, sA_cons, slotM]; omega
          · simp only [sumH, h1, sA_app, sA_cons, slotM]; omega
  | still => left; rfl
def placesF (s : Sta) : List (Nat × Nat) := ((List.range s.code.length).filter fun i => (s.code.getD i (0, 0, 0)).1 == 1).map (fun i => (0, i)) ++ (List.range s.mem.length).map (fun i => (1, i)) ++ (List.range s.stack.length).map (fun i => (2, i))
def halfM (p : Nat × Nat) (b : Nat) : List (Mv × Mv) := let m := Mv.num p.1 p.2 (.half b); [(m, m), (m, .still), (.still, m)]
def numM (p : Nat × Nat) : List (Mv × Mv) := halfM p 0 ++ halfM p 1
def botM (b : Int) (p : Nat × Nat) : Mv × Mv := (.num p.1 p.2 (.bot b), .num p.1 p.2 (.bot b))
def movesL (b : Int) (s t : Sta) : List (Mv × Mv) :=
  (List.range s.code.length).map (fun i => (.without i, .without i)) ++ (List.range s.code.length).map (fun i => (.idle i, .idle i)) ++ [(.less, .less), (.silent, .silent)] ++
  (List.range (max s.stack.length t.stack.length)).map (fun i => (.pull i, .pull i)) ++ (placesF s).flatMap numM ++ (placesF s).map (botM b)
def likeT (s t : Sta) (m : Mv × Mv) : Bool := likeS (mvF m.1 s) s && likeS (mvF m.2 t) t
def mkT (s t : Sta) (m : Mv × Mv) : Sta × Sta := (mvF m.1 s, mvF m.2 t)
def allOf (s t : Sta) (l : List (Mv × Mv)) : List (Sta × Sta) := (l.filter fun m => !likeT s t m).map (mkT s t)
def allF (b : Int) (s t : Sta) : List (Sta × Sta) := allOf s t (movesL b s t)
theorem placesF_le {s : Sta} {p : Nat × Nat} (h : p ∈ placesF s) : p.1 ≤ 2 := by
  simp only [placesF, List.mem_append, List.mem_map] at h
  rcases h with (⟨i, _, rfl⟩ | ⟨i, _, rfl⟩) | ⟨i, _, rfl⟩ <;> simp
theorem movesL_ok {us : List Nat} {b : Int} (hb : Bot us b) {s t : Sta} {m : Mv × Mv} (h : m ∈ movesL b s t) : MvOk us m.1 ∧ MvOk us m.2 := by
  simp only [movesL, List.mem_append, List.mem_map, List.mem_cons, List.mem_flatMap, List.not_mem_nil, or_false] at h
  rcases h with ((((⟨i, _, rfl⟩ | ⟨i, _, rfl⟩) | rfl | rfl) | ⟨i, _, rfl⟩) | ⟨p, _, h⟩) | ⟨p, _, rfl⟩
  · exact ⟨trivial, trivial⟩
  · exact ⟨trivial, trivial⟩
  · exact ⟨trivial, trivial⟩
  · exact ⟨trivial, trivial⟩
  · exact ⟨trivial, trivial⟩
  · rename_i hp
    have hk := placesF_le hp
    simp only [numM, halfM, List.mem_append, List.mem_cons, List.not_mem_nil, or_false] at h
    have h0 : ∀ b, b < 2 → MvOk us (.num p.1 p.2 (.half b)) := fun b hb => ⟨hk, hb⟩
    rcases h with (rfl | rfl | rfl) | (rfl | rfl | rfl) <;> exact ⟨by first | trivial | exact h0 _ (by omega), by first | trivial | exact h0 _ (by omega)⟩
  · rename_i hp
    exact ⟨⟨placesF_le hp, hb⟩, ⟨placesF_le hp, hb⟩⟩
def addT (a b : Int × Int × Int) : Int × Int × Int := (a.1 + b.1, a.2.1 + b.2.1, a.2.2 + b.2.2)
def siz2 (us : List Nat) (y : Sta × Sta) : Int × Int × Int := addT (sizeZ us (0, 0, 0) y.1) (sizeZ us (0, 0, 0) y.2)
theorem allF_less {ns : List ByteArray} {us : List Nat} (hc : checkF ns us = 0) {b : Int} (hb : Bot us b) {s t : Sta} (hs : staB us.length s = true) (ht : staB us.length t = true) {y : Sta × Sta} (hy : y ∈ allF b s t) :
    staB us.length y.1 = true ∧ staB us.length y.2 = true ∧ lexB (siz2 us y) (siz2 us (s, t)) = true ∧ lexB (siz2 us (s, t)) (siz2 us y) = false := by
  have ho := (ord_check hc).1
  obtain ⟨m, hm, rfl⟩ := List.mem_map.1 hy
  obtain ⟨hm, hl⟩ := List.mem_filter.1 hm
  obtain ⟨k1, k2⟩ := movesL_ok hb hm
  have b1 := mv_B k1 hs
  have b2 := mv_B k2 ht
  refine ⟨b1, b2, ?_⟩
  have c1 := mv_less ho k1 hs
  have c2 := mv_less ho k2 ht
  have hne : ¬ (mvF m.1 s = s ∧ mvF m.2 t = t) := fun ⟨h1, h2⟩ => by
    simp [likeT, likeS_iff.2 h1, likeS_iff.2 h2] at hl
  simp only [siz2, mkT, sizeZ_parts (sta_num b1), sizeZ_parts (sta_num b2), sizeZ_parts (sta_num hs), sizeZ_parts (sta_num ht), addT]
  have key : ∀ x y : Int × Int × Int, (x.1 < y.1 ∨ (x.1 = y.1 ∧ (x.2.1 < y.2.1 ∨ (x.2.1 = y.2.1 ∧ x.2.2 < y.2.2)))) → lexB x y = true ∧ lexB y x = false := by
    intro x y h
    unfold lexB
    rcases h with h | ⟨h1, h | ⟨h2, h⟩⟩
    · rw [if_neg (by omega), if_neg (by omega)]; simp; omega
    · rw [if_pos h1, if_neg (by omega), if_pos h1.symm, if_neg (by omega)]; simp; omega
    · rw [if_pos h1, if_pos h2, if_pos h1.symm, if_pos h2.symm]; simp; omega
  refine key _ _ ?_
  simp only
  rcases c1 with c1 | c1 <;> rcases c2 with c2 | c2
  · exact absurd ⟨c1, c2⟩ hne
  · rw [c1]; unfold Sm at c2; omega
  · rw [c2]; unfold Sm at c1; omega
  · unfold Sm at c1 c2; omega
end Go.Proofs.YtabliglgeiajlaaGreat.AM

namespace Go.Proofs.YtabliglgeiajlaaGreat.AM
open Go Go.RowKit Go.Proofs
set_option maxRecDepth 100000
set_option maxHeartbeats 4000000
theorem Fn.post {P : Program} {f : Nat} {args : List D} {ext : List Slot} {res res' : D} {out : List Slot} (h : Fn P f args ext res out) (hle : Rle res res') : Fn P f args ext res' out where
  enter := h.enter
  spec := fun N0 ρ w vs hp hs hr => (h.spec N0 ρ w vs hp hs hr).mono fun e w' he => by
    obtain ⟨v, ρ', h1, h2, h3⟩ := he
    exact ⟨v, ρ', h1, h2, hle _ _ _ _ _ h3⟩
theorem mvBefore_fn (i : Nat) (n : Int) (h0 : -20 ≤ n) (h1 : n ≤ 20) : Fn Tryz.prog 242 [.v (.int .i64 n), .fad [.v (.int .i64 (i : Int))]] [] (.v (.int .i64 (befI i n))) [] := by
  have w : IntKind.i64.wrap (n - 1) = n - 1 := wrapI (by omega) (by omega)
  unfold befI
  by_cases h : (i : Int) < n
  · rw [if_pos h]
    refine Fn.of (fn := Tryz.f242) (by kernel_rfl) rfl (by kernel_rfl) ⟨[.v (.int .i64 n), .fad [.v (.int .i64 (i : Int))], .v undef, .v undef, .v undef, .v undef, .v undef, .v undef, .v undef, .v undef], []⟩ rfl ?_
    repeat' first | (with_reducible first | refine AWP_seq' ?_ | refine k_normal ?_ | refine k_ret ?_ | refine AWP_ret ?_) | ((with_reducible refine AWP_reg fun KC J hJ hKC => ?_); simp (maxSteps := 9999999) only [push_cast, seval, ↓reduceIte, w, h, gt_iff_lt]) | ((with_reducible refine hJ _ _ ?_); clear hJ hKC KC J) | ((with_reducible refine AWP_condT ?_ ?_); · rfl)
    refine ret_plain ?_
    simp (maxSteps := 9999999) only [push_cast, seval, ↓reduceIte, show Tryz.f242.results = #[(.tmp 3)] from rfl]
    exact Lq
  · rw [if_neg h]
    refine Fn.of (fn := Tryz.f242) (by kernel_rfl) rfl (by kernel_rfl) ⟨[.v (.int .i64 n), .fad [.v (.int .i64 (i : Int))], .v undef, .v undef, .v undef, .v undef, .v undef, .v undef, .v undef, .v undef], []⟩ rfl ?_
    repeat' first | (with_reducible first | refine AWP_seq' ?_ | refine k_normal ?_ | refine AWP_ret ?_ | refine AWP_skip ?_) | ((with_reducible refine AWP_reg fun KC J hJ hKC => ?_); simp (maxSteps := 9999999) only [push_cast, seval, ↓reduceIte, w, h, gt_iff_lt]) | ((with_reducible refine hJ _ _ ?_); clear hJ hKC KC J) | ((with_reducible refine AWP_condF ?_ ?_); · rfl)
    refine ret_plain ?_
    simp (maxSteps := 9999999) only [push_cast, seval, ↓reduceIte, show Tryz.f242.results = #[(.tmp 3)] from rfl]
    exact Lq
def doN : Do → Nat
  | .half _ => 149
  | .bot _ => 151
def doV : Do → Int
  | .half b => (b : Int)
  | .bot b => b
theorem do_fn {us : List Nat} {d : Do} (hd : DoOk us d) (v l : Int) (h0 : -20 ≤ v) (h1 : v ≤ 20) : Fn Tryz.prog (doN d) [.v (.int .i64 v), .v (.int .i64 l), .fad [.v (.int .i64 (doV d))]] [] (.tup [.v (.int .i64 (doF d (v, l)).1), .v (.int .i64 (doF d (v, l)).2)]) [] := by
  cases d with
  | half b =>
    have h2 := tdiv2 v
    have hh := halfI (n := v) hd
    have hb : -20 ≤ v.tdiv 2 ∧ v.tdiv 2 ≤ 20 := by rcases Int.le_total 0 v with h | h <;> omega
    have w1 : IntKind.i64.wrap (v.tdiv 2) = v.tdiv 2 := wrapI (by omega) (by omega)
    have w2 : IntKind.i64.wrap (v.tdiv 2 * (b : Int)) = v.tdiv 2 * (b : Int) := wrapI (by omega) (by omega)
    show Fn Tryz.prog 149 [.v (.int .i64 v), .v (.int .i64 l), .fad [.v (.int .i64 (b : Int))]] [] (.tup [.v (.int .i64 (v.tdiv 2 * (b : Int))), .v (.int .i64 l)]) []
    refine Fn.of (fn := Tryz.f149) (by kernel_rfl) rfl (by kernel_rfl) ⟨[.v (.int .i64 v), .v (.int .i64 l), .fad [.v (.int .i64 (b : Int))], .v undef, .v undef, .v undef, .v undef, .v undef, .v undef, .v undef, .v undef, .v undef], []⟩ rfl ?_
    repeat' first | (with_reducible first | refine AWP_seq' ?_ | refine k_normal ?_ | refine AWP_ret ?_) | ((with_reducible refine AWP_reg fun KC J hJ hKC => ?_); simp (maxSteps := 9999999) only [push_cast, seval, ↓reduceIte, w1, w2]) | ((with_reducible refine hJ _ _ ?_); clear hJ hKC KC J)
    refine ret_plain ?_
    simp (maxSteps := 9999999) only [push_cast, seval, ↓reduceIte, show Tryz.f149.results = #[(.tmp 5), (.tmp 6)] from rfl]
    exact Lq
  | bot b =>
    show Fn Tryz.prog 151 [.v (.int .i64 v), .v (.int .i64 l), .fad [.v (.int .i64 b)]] [] (.tup [.v (.int .i64 v), .v (.int .i64 b)]) []
    refine Fn.of (fn := Tryz.f151) (by kernel_rfl) rfl (by kernel_rfl) ⟨[.v (.int .i64 v), .v (.int .i64 l), .fad [.v (.int .i64 b)], .v undef, .v undef, .v undef, .v undef, .v undef, .v undef], []⟩ rfl ?_
    repeat' first | (with_reducible first | refine AWP_seq' ?_ | refine k_normal ?_ | refine AWP_ret ?_) | ((first | with_reducible refine AWP_reg fun KC J hJ hKC => ?_ | with_reducible refine AWP_regD rfl fun KC J hJ hKC => ?_); simp (maxSteps := 9999999) only [push_cast, seval, ↓reduceIte]) | ((first | with_reducible refine hJ _ _ ?_ | (with_reducible refine hJ _ _ ?_ ?_; · kernel_rfl)); clear hJ hKC KC J)
    refine ret_plain ?_
    simp (maxSteps := 9999999) only [push_cast, seval, ↓reduceIte, show Tryz.f151.results = #[(.tmp 5), (.tmp 6)] from rfl]
    exact Lq
theorem sCells_dropR (l : List (Bool × Int × Int)) (n : Nat) : (sCells l).drop (n * 3) = sCells (l.drop n) := by
  induction n generalizing l with
  | zero => simp
  | succ n ih =>
    cases l with
    | nil => simp [sCells, sRow]
    | cons a l =>
      rw [List.drop_succ_cons, ← ih l, show (n + 1) * 3 = n * 3 + 3 by omega]
      simp [sCells, sRow]
theorem sCells_takeR (l : List (Bool × Int × Int)) (n : Nat) : (sCells l).take (n * 3) = sCells (l.take n) := by
  induction n generalizing l with
  | zero => simp [sCells, sRow]
  | succ n ih =>
    cases l with
    | nil => simp [sCells, sRow]
    | cons a l =>
      rw [List.take_succ_cons, show (n + 1) * 3 = n * 3 + 3 by omega]
      have := ih l
      simp only [sCells, sRow, List.map_cons, List.flatten_cons, List.cons_append, List.nil_append] at this ⊢
      rw [← this]; rfl
theorem sCells_at {l : List (Bool × Int × Int)} {n : Nat} {x : Bool × Int × Int} (h : l[n]? = some x) : ((sCells l).drop (n * 3)).take 3 = [.v (.bool x.1), .v (.int .i64 x.2.1), .v (.int .i64 x.2.2)] := by
  obtain ⟨hn, rfl⟩ := List.getElem?_eq_some_iff.1 h
  rw [sCells_dropR, List.drop_eq_getElem_cons hn]
  rfl
theorem sCells_set (l : List (Bool × Int × Int)) {a : Nat} (x : Bool × Int × Int) (h : a < l.length) : sCells (l.set a x) = (sCells l).take (a * 3) ++ [.v (.bool x.1), .v (.int .i64 x.2.1), .v (.int .i64 x.2.2)] ++ (sCells l).drop (a * 3 + 3) := by
  rw [List.set_eq_take_append_cons_drop, if_pos h, sCells_app, sCells_takeR]
  have h2 : a * 3 + 3 = (a + 1) * 3 := by omega
  rw [h2, sCells_dropR]
  simp [sCells, sRow]
theorem delT_fn (l : List (Int × Int × Int)) (n i j : Nat) (hn : l.length = n) (hi : i < n) (hj : j = i + 1) (hb : n ≤ 1000000) :
    Fn Tryz.prog 243 [.ref 0 0 n, .v (.int .i64 (i : Int)), .v (.int .i64 (j : Int))] [.ent ⟨0, some 3, 100, tCells l, .cells⟩] (.ref 0 0 (i + (n - j))) [.ent ⟨0, some 3, 100, tCells (l.take i ++ l.drop j), .cells⟩] := by
  have hne : ((i : Int) == (j : Int)) = false := by simp; omega
  have hlC : (tCells l).length = n * 3 := by rw [tCells_length, hn]
  refine Fn.of (fn := Tryz.f243) (by kernel_rfl) rfl (by kernel_rfl) ⟨[.ref 0 0 n, .v (.int .i64 (i : Int)), .v (.int .i64 (j : Int)), .v undef, .v undef, .v undef, .v undef, .v undef, .v undef, .v undef, .v undef, .v undef, .v undef, .v undef, .v undef, .v undef, .v undef, .v undef, .v undef, .v undef, .v undef, .v undef, .v undef, .v undef, .v undef, .v undef, .v undef, .v undef, .v undef, .v undef, .v undef, .v undef, .v undef], [.ent ⟨0, some 3, 100, tCells l, .cells⟩]⟩ rfl ?_
  obtain ⟨k, hk⟩ : ∃ k, i + (n - j) = k := ⟨_, rfl⟩
  obtain ⟨m, hm⟩ : ∃ m, n - j = m := ⟨_, rfl⟩
  rw [hm] at hk
  have hs1 : (((tCells l).drop (j * 3)).take (m * 3)) = tCells (l.drop j) := by
    rw [tCells_dropR, tCells_takeR, List.take_of_length_le (by simp; omega)]
  have hs1l : (tCells (l.drop j)).length = m * 3 := by rw [tCells_length, List.length_drop, hn, hm]
  have hs2 : (tCells l).take (i * 3) = tCells (l.take i) := tCells_takeR l i
  have hs3 : (tCells (l.take i)).length = i * 3 := by rw [tCells_length, List.length_take, hn]; omega
  have hs4 : ((tCells l).drop (i * 3 + m * 3)).length = n * 3 - (i * 3 + m * 3) := by rw [List.length_drop, hlC]
  have hs5 : (tCells (l.take i) ++ tCells (l.drop j) ++ (tCells l).drop (i * 3 + m * 3)).take (k * 3) = tCells (l.take i ++ l.drop j) := by
    rw [tCells_app]
    exact List.take_left' (by rw [List.length_append, hs3, hs1l]; omega)
  repeat' first | (with_reducible first | refine AWP_seq' ?_ | refine k_normal ?_ | refine AWP_skip ?_) | ((with_reducible refine And.intro ?_ ?_); · exact Sq) | ((first | with_reducible refine AWP_reg fun KC J hJ hKC => ?_ | with_reducible refine AWP_regD rfl fun KC J hJ hKC => ?_); simp (maxSteps := 9999999) only [push_cast, seval, ↓reduceIte, hne, hlC, hs1, hs1l, hs2, hm, hk, hs3, hs4, hs5]) | ((first | with_reducible refine hJ _ _ ?_ | (with_reducible refine hJ _ _ ?_ ?_; · kernel_rfl)); clear hJ hKC KC J) | ((with_reducible refine AWP_condF ?_ ?_); · rfl)
  refine AWP_ret ?_
  refine ret_keys ?_
  simp (maxSteps := 9999999) only [push_cast, seval, ↓reduceIte, show Tryz.f243.results = #[(.tmp 6)] from rfl]
  exact ⟨(by show List.map _ [0] = _; simp only [List.map_cons, List.map_nil, getS, renSlot, ren_tCells]), leD_eq (by rw [← hk, ← hm]; rfl)⟩
theorem delS_fn (l : List (Bool × Int × Int)) (n i j : Nat) (hn : l.length = n) (hi : i < n) (hj : j = i + 1) (hb : n ≤ 1000000) :
    Fn Tryz.prog 247 [.ref 0 0 n, .v (.int .i64 (i : Int)), .v (.int .i64 (j : Int))] [.ent ⟨0, some 3, 104, sCells l, .cells⟩] (.sl false 3 (sRow (l.take i ++ l.drop j))) [.dead] := by
  have hne : ((i : Int) == (j : Int)) = false := by simp; omega
  have hlC : (sCells l).length = n * 3 := by rw [sCells_length, hn]
  refine Fn.of (fn := Tryz.f247) (by kernel_rfl) rfl (by kernel_rfl) ⟨[.ref 0 0 n, .v (.int .i64 (i : Int)), .v (.int .i64 (j : Int)), .v undef, .v undef, .v undef, .v undef, .v undef, .v undef, .v undef, .v undef, .v undef, .v undef, .v undef, .v undef, .v undef, .v undef, .v undef, .v undef, .v undef, .v undef, .v undef, .v undef, .v undef, .v undef, .v undef, .v undef, .v undef, .v undef, .v undef, .v undef, .v undef, .v undef], [.ent ⟨0, some 3, 104, sCells l, .cells⟩]⟩ rfl ?_
  obtain ⟨k, hk⟩ : ∃ k, i + (n - j) = k := ⟨_, rfl⟩
  obtain ⟨m, hm⟩ : ∃ m, n - j = m := ⟨_, rfl⟩
  rw [hm] at hk
  have hs1 : (((sCells l).drop (j * 3)).take (m * 3)) = sCells (l.drop j) := by
    rw [sCells_dropR, sCells_takeR, List.take_of_length_le (by simp; omega)]
  have hs1l : (sCells (l.drop j)).length = m * 3 := by rw [sCells_length, List.length_drop, hn, hm]
  have hs2 : (sCells l).take (i * 3) = sCells (l.take i) := sCells_takeR l i
  have hbm : Nat.beq 0 0 = true := rfl
  have hs3 : (sCells (l.take i)).length = i * 3 := by rw [sCells_length, List.length_take, hn]; omega
  have hs4 : ((sCells l).drop (i * 3 + m * 3)).length = n * 3 - (i * 3 + m * 3) := by rw [List.length_drop, hlC]
  have hs5 : (sCells (l.take i) ++ sCells (l.drop j) ++ (sCells l).drop (i * 3 + m * 3)).take (k * 3) = sCells (l.take i ++ l.drop j) := by
    rw [sCells_app]
    exact List.take_left' (by rw [List.length_append, hs3, hs1l]; omega)
  have hLl : (l.take i ++ l.drop j).length = k := by simp; omega
  obtain ⟨L, hL⟩ : ∃ L, l.take i ++ l.drop j = L := ⟨_, rfl⟩
  rw [hL] at hs5 hLl
  have hLC : (sCells L).length = k * 3 := by rw [sCells_length, hLl]
  have hLr : chunk 3 k (sCells L) = sRow L := by rw [← hLl]; exact chunk_s L
  rw [hL]
  repeat' first | (with_reducible first | refine AWP_seq' ?_ | refine k_normal ?_ | refine AWP_skip ?_) | ((with_reducible refine And.intro ?_ ?_); · exact Sq) | ((first | with_reducible refine AWP_reg fun KC J hJ hKC => ?_ | with_reducible refine AWP_regD rfl fun KC J hJ hKC => ?_); simp (maxSteps := 9999999) only [push_cast, seval, ↓reduceIte, hne, hlC, hs1, hs1l, hs2, hm, hk, hs3, hs4, hs5]) | ((first | with_reducible refine hJ _ _ ?_ | (with_reducible refine hJ _ _ ?_ ?_; · kernel_rfl)); clear hJ hKC KC J) | ((with_reducible refine AWP_condF ?_ ?_); · rfl)
  refine AWP_freeze 0 rfl (by simp (maxSteps := 9999999) only [push_cast, seval, ↓reduceIte]) ?_
  simp (maxSteps := 9999999) only [push_cast, seval, ↓reduceIte, frSt, frSlot, fr3, fr2, fr1, fr0, sameB, arrOf, hbm, hLC, hLr]
  refine AWP_ret ?_
  refine ret_keys ?_
  simp (maxSteps := 9999999) only [push_cast, seval, ↓reduceIte, show Tryz.f247.results = #[(.tmp 6)] from rfl]
  exact ⟨rfl, leD_refl _⟩
theorem mvStill_fn (s : Sta) : Fn Tryz.prog 150 [.agg (staF false false false false s)] [] (.agg (staF false false false false s)) [] := by
  simp only [staF]
  refine Fn.of (fn := Tryz.f150) (by kernel_rfl) rfl (by kernel_rfl) ⟨[.agg [.v (.int .i64 s.v), .v (.int .i64 s.l), .sl false 3 (tRow s.code), .sl false 2 (pRow s.mem), .sl false 3 (sRow s.stack), .sl false 2 (pRow s.out)], .v undef, .v undef, .v undef], []⟩ rfl ?_
  repeat' first | (with_reducible first | refine AWP_seq' ?_ | refine k_normal ?_ | refine AWP_ret ?_) | ((with_reducible refine AWP_reg fun KC J hJ hKC => ?_); simp (maxSteps := 9999999) only [push_cast, seval, ↓reduceIte]) | ((with_reducible refine hJ _ _ ?_); clear hJ hKC KC J)
  refine ret_plain ?_
  simp (maxSteps := 9999999) only [push_cast, seval, ↓reduceIte, show Tryz.f150.results = #[(.cell 2 39)] from rfl]
  exact Lq
theorem mvSilent_fn (s : Sta) : Fn Tryz.prog 145 [.agg (staF false false false false s)] [] (.agg (staF false false false false (mvF .silent s))) [] := by
  simp only [staF, mvF, show pRow [] = [] from rfl]
  refine Fn.of (fn := Tryz.f145) (by kernel_rfl) rfl (by kernel_rfl) ⟨[.agg [.v (.int .i64 s.v), .v (.int .i64 s.l), .sl false 3 (tRow s.code), .sl false 2 (pRow s.mem), .sl false 3 (sRow s.stack), .sl false 2 (pRow s.out)], .v undef, .v undef, .v undef, .v undef], []⟩ rfl ?_
  repeat' first | (with_reducible first | refine AWP_seq' ?_ | refine k_normal ?_ | refine AWP_ret ?_) | ((with_reducible refine AWP_reg fun KC J hJ hKC => ?_); simp (maxSteps := 9999999) only [push_cast, seval, ↓reduceIte]) | ((with_reducible refine hJ _ _ ?_); clear hJ hKC KC J)
  refine ret_plain ?_
  simp (maxSteps := 9999999) only [push_cast, seval, ↓reduceIte, show Tryz.f145.results = #[(.cell 2 39)] from rfl]
  exact Lq
theorem mvLess_fn0 (s : Sta) (h : s.mem.length ≤ 15) : Fn Tryz.prog 144 [.agg (staF false false false false s)] [] (.agg (staF false false false false (mvF .less s))) [] := by
  have w : IntKind.i64.wrap ((s.mem.length : Int) - 1) = (s.mem.length : Int) - 1 := wrapI (by omega) (by omega)
  obtain ⟨k, hk⟩ : ∃ k, s.mem.length - 1 = k := ⟨_, rfl⟩
  have hm : (if (0 : Int) > (s.mem.length : Int) - 1 then 0 else (s.mem.length : Int) - 1) = (k : Int) := by split <;> omega
  have hm2 : (if (s.mem.length : Int) - 1 < (0 : Int) then 0 else (s.mem.length : Int) - 1) = (k : Int) := by split <;> omega
  have hkl : k ≤ s.mem.length := by omega
  simp only [staF, mvF]
  rw [hk]
  refine Fn.of (fn := Tryz.f144) (by kernel_rfl) rfl (by kernel_rfl) ⟨[.agg [.v (.int .i64 s.v), .v (.int .i64 s.l), .sl false 3 (tRow s.code), .sl false 2 (pRow s.mem), .sl false 3 (sRow s.stack), .sl false 2 (pRow s.out)], .v undef, .v undef, .v undef, .v undef, .v undef, .v undef, .v undef, .v undef, .v undef, .v undef, .v undef, .v undef], []⟩ rfl ?_
  repeat' first | (with_reducible first | refine AWP_seq' ?_ | refine k_normal ?_ | refine AWP_ret ?_) | ((with_reducible refine And.intro ?_ ?_); · exact Sq) | ((with_reducible refine AWP_reg fun KC J hJ hKC => ?_); simp (maxSteps := 9999999) only [push_cast, seval, ↓reduceIte, w, hm, hm2, Int.toNat_natCast]) | ((with_reducible refine hJ _ _ ?_); clear hJ hKC KC J)
  refine ret_plain ?_
  simp (maxSteps := 9999999) only [push_cast, seval, ↓reduceIte, show Tryz.f144.results = #[(.cell 2 39)] from rfl]
  exact Lq
end Go.Proofs.YtabliglgeiajlaaGreat.AM
