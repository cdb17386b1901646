/- Orders and lattices, without Go. -/
import Derived.Test.YtabliglgeiajlaaGreatV2
set_option linter.unusedSimpArgs false
set_option linter.unusedVariables false
namespace Go.Proofs.YtabliglgeiajlaaGreat.AM
open Go Go.RowKit Go.Proofs

/-- No bits but for labels. -/
def Low (us : List Nat) : Prop := ∀ a, a < us.length → us.getD a 0 < 2 ^ us.length
theorem low_of_may {ns : List ByteArray} {us : List Nat} (h : mayB ns us = true) : Low us := fun a ha => by
  have := (mayB_get h).2 a ha
  simp only [mayAt, Bool.and_eq_true, decide_eq_true_eq] at this
  have h2 := this.2
  rw [Nat.shiftRight_eq_div_pow] at h2
  exact (Nat.div_eq_zero_iff_lt (Nat.two_pow_pos _)).1 h2
theorem Low.bit {us : List Nat} (h : Low us) {a : Nat} (ha : a < us.length) {i : Nat} (hi : fl us a i = true) : i < us.length := by
  rcases Nat.lt_or_ge i us.length with h1 | h1
  · exact h1
  · exfalso
    have : (us.getD a 0).testBit i = false := Nat.testBit_lt_two_pow (Nat.lt_of_lt_of_le (h a ha) (Nat.pow_le_pow_right (by decide) h1))
    rw [fl, this] at hi; cases hi
def Ord (us : List Nat) : Prop := (∀ a, a < us.length → fl us a a = true) ∧ (∀ a, a < us.length → ∀ b, b < us.length → ¬ a = b → ¬ (fl us a b = true ∧ fl us b a = true)) ∧
  (∀ a, a < us.length → ∀ b, b < us.length → ∀ c, c < us.length → fl us a b = true → fl us b c = true → fl us a c = true)
instance (us : List Nat) : Decidable (Ord us) := by unfold Ord; infer_instance
def okAB (us : List Nat) (a b : Nat) : Bool := (if a = b then fl us a a else !(fl us a b && fl us b a)) && (!fl us a b || decide (anB (us.getD b 0) (us.getD a 0) = 0))
theorem okAB_ord {us : List Nat} (hu : U32 us) (hl : Low us) : (∀ a, a < us.length → ∀ b, b < us.length → okAB us a b = true) ↔ Ord us := by
  constructor
  · intro h
    refine ⟨fun a ha => ?_, fun a ha b hb hab ⟨h1, h2⟩ => ?_, fun a ha b hb c hc h1 h2 => ?_⟩
    · have := h a ha a ha
      simp only [okAB, if_true, Bool.and_eq_true] at this
      exact this.1
    · have := h a ha b hb
      simp only [okAB, if_neg hab, h1, h2] at this
      simp at this
    · have := h a ha b hb
      simp only [okAB, h1, Bool.not_true, Bool.false_or, Bool.and_eq_true, decide_eq_true_eq] at this
      exact (anB_zero (hu.get hb) (hu.get ha)).1 this.2 c h2
  · rintro ⟨h1, h2, h3⟩ a ha b hb
    simp only [okAB, Bool.and_eq_true, Bool.or_eq_true, Bool.not_eq_true', decide_eq_true_eq]
    constructor
    · split
      · exact h1 a ha
      · rename_i hab
        have := h2 a ha b hb hab
        cases hx : fl us a b with
        | false => rfl
        | true =>
          cases hy : fl us b a with
          | false => rfl
          | true => exact absurd ⟨hx, hy⟩ this
    · cases hx : fl us a b with
      | false => exact .inl rfl
      | true => exact .inr ((anB_zero (hu.get hb) (hu.get ha)).2 fun i hi => h3 a ha b hb i (hl.bit hb hi) hx hi)
/-- The labels that flow to one. -/
def downN (us : List Nat) (a : Nat) : Nat → Nat
  | 0 => 0
  | i + 1 => downN us a i ||| (((us.getD i 0 >>> a) &&& 1) <<< i)
theorem downN_bit (us : List Nat) (a : Nat) : ∀ (n j : Nat), (downN us a n).testBit j = (decide (j < n) && fl us j a)
  | 0, j => by simp [downN]
  | n + 1, j => by
    rw [downN, Nat.testBit_or, downN_bit us a n j, one_and, Nat.testBit_shiftLeft]
    by_cases h : j = n
    · subst h
      have e : decide (j < j) = false := by simp
      have e2 : decide (j < j + 1) = true := by simp
      rw [e, e2]
      simp only [Bool.false_and, Bool.false_or, Bool.true_and, fl, ge_iff_le, Nat.le_refl, decide_true, Nat.sub_self]
      cases (us.getD j 0).testBit a <;> simp
    · by_cases h2 : j < n
      · have e : decide (j < n) = true := by simp [h2]
        have e2 : decide (j < n + 1) = true := by simp; omega
        have e3 : decide (j ≥ n) = false := by simp; omega
        rw [e, e2, e3]; simp
      · have e : decide (j < n) = false := by simp; omega
        have e2 : decide (j < n + 1) = false := by simp; omega
        rw [e, e2]
        simp only [Bool.false_and, Bool.false_or]
        have hj : j - n ≠ 0 := by omega
        split
        · obtain ⟨m, hm⟩ := Nat.exists_eq_succ_of_ne_zero hj
          rw [hm, Nat.succ_eq_add_one, Nat.testBit_succ]
          simp
        · simp
theorem downN_lt (us : List Nat) (a n : Nat) : downN us a n < 2 ^ n := by
  refine Nat.lt_pow_two_of_testBit _ fun i hi => ?_
  rw [downN_bit]
  have : decide (i < n) = false := by simp; omega
  simp [this]
def joinI (us : List Nat) (a b : Nat) : Int := idxF (fun u => decide (u = us.getD a 0 &&& us.getD b 0)) us
def meetI (us : List Nat) (a b : Nat) : Int := idxF (fun i => decide (downN us i us.length = (downN us a us.length &&& downN us b us.length))) (List.range us.length)
def isJ (us : List Nat) (a b c : Nat) : Prop := (fl us a c = true ∧ fl us b c = true) ∧ ∀ d, d < us.length → fl us a d = true → fl us b d = true → fl us c d = true
def isM (us : List Nat) (a b c : Nat) : Prop := (fl us c a = true ∧ fl us c b = true) ∧ ∀ d, d < us.length → fl us d a = true → fl us d b = true → fl us d c = true
theorem isJ_iff {us : List Nat} (hl : Low us) (ho : Ord us) {a b c : Nat} (ha : a < us.length) (hb : b < us.length) (hc : c < us.length) : isJ us a b c ↔ us.getD c 0 = us.getD a 0 &&& us.getD b 0 := by
  obtain ⟨h1, _, h3⟩ := ho
  constructor
  · rintro ⟨⟨h4, h5⟩, h6⟩
    refine Nat.eq_of_testBit_eq fun i => ?_
    rw [Nat.testBit_and]
    show fl us c i = (fl us a i && fl us b i)
    cases hx : fl us c i with
    | true =>
      have hi := hl.bit hc hx
      rw [h3 a ha c hc i hi h4 hx, h3 b hb c hc i hi h5 hx]; rfl
    | false =>
      cases hy : fl us a i with
      | false => rfl
      | true =>
        cases hz : fl us b i with
        | false => rfl
        | true => have := h6 i (hl.bit ha hy) hy hz; rw [hx] at this; cases this
  · intro h
    have hbit : ∀ i, fl us c i = (fl us a i && fl us b i) := fun i => by
      show (us.getD c 0).testBit i = _
      rw [h, Nat.testBit_and]; rfl
    refine ⟨?_, fun d _ h4 h5 => by rw [hbit, h4, h5]; rfl⟩
    have := hbit c
    rw [h1 c hc] at this
    simpa using this.symm
theorem isM_iff {us : List Nat} (ho : Ord us) {a b c : Nat} (ha : a < us.length) (hb : b < us.length) (hc : c < us.length) : isM us a b c ↔ downN us c us.length = (downN us a us.length &&& downN us b us.length) := by
  obtain ⟨h1, _, h3⟩ := ho
  have hbit : (downN us c us.length = (downN us a us.length &&& downN us b us.length)) ↔ ∀ i, i < us.length → fl us i c = (fl us i a && fl us i b) := by
    constructor
    · intro h i hi
      have := congrArg (fun x => Nat.testBit x i) h
      simp only [downN_bit, Nat.testBit_and] at this
      have e : decide (i < us.length) = true := by simp [hi]
      rw [e] at this
      simpa using this
    · intro h
      refine Nat.eq_of_testBit_eq fun i => ?_
      simp only [downN_bit, Nat.testBit_and]
      by_cases hi : i < us.length
      · rw [h i hi]; simp [hi]
      · simp [hi]
  rw [hbit]
  constructor
  · rintro ⟨⟨h4, h5⟩, h6⟩ i hi
    cases hx : fl us i c with
    | true => rw [h3 i hi c hc a ha hx h4, h3 i hi c hc b hb hx h5]; rfl
    | false =>
      cases hy : fl us i a with
      | false => rfl
      | true =>
        cases hz : fl us i b with
        | false => rfl
        | true => have := h6 i hi hy hz; rw [hx] at this; cases this
  · intro h
    refine ⟨?_, fun d hd h4 h5 => by rw [h d hd, h4, h5]; rfl⟩
    have := h c hc
    rw [h1 c hc] at this
    simpa using this.symm
def Lat (us : List Nat) : Prop := ∀ a, a < us.length → ∀ b, b < us.length → 0 ≤ joinI us a b ∧ 0 ≤ meetI us a b
instance (us : List Nat) : Decidable (Lat us) := by unfold Lat; infer_instance
def checkF (ns : List ByteArray) (us : List Nat) : Int := if mayB ns us = true then if Ord us then if Lat us then 0 else 3 else 2 else 1
end Go.Proofs.YtabliglgeiajlaaGreat.AM
