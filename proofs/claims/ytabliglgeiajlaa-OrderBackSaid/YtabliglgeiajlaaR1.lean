/- Where edges lead, without Go. -/
import Derived.Test.YtabliglgeiajlaaW2
set_option linter.unusedSimpArgs false
set_option linter.unusedVariables false
namespace Go.Proofs.Ytabliglgeiajlaa.AM
open Go Go.RowKit Go.Proofs

theorem rowN_bit (p : Nat → Bool) (m i : Nat) : (rowN p m).testBit i = (decide (i < m) && p i) := by
  induction m with
  | zero => simp [rowN]
  | succ m ih =>
    have hb : (1 <<< m).testBit i = decide (i = m) := by
      rw [Nat.one_shiftLeft, Nat.testBit_two_pow]
      by_cases h : m = i
      · simp [h]
      · have h' : ¬ i = m := fun e => h e.symm
        simp [h, h']
    by_cases hp : p m = true
    · rw [rowN, if_pos hp, Nat.testBit_or, ih, hb]
      by_cases h : i = m
      · subst h; simp [hp]
      · by_cases h2 : i < m
        · simp [h, h2, show i < m + 1 from by omega]
        · simp [h, h2, show ¬ i < m + 1 from by omega]
    · rw [rowN, if_neg hp, ih]
      by_cases h : i = m
      · subst h; simp [hp]
      · by_cases h2 : i < m
        · simp [h2, show i < m + 1 from by omega]
        · simp [h2, show ¬ i < m + 1 from by omega]
theorem upsN_getD (p : Nat → Nat → Bool) (m : Nat) : ∀ (k a : Nat), a < k → (upsN p m k).getD a 0 = rowN (p a) m
  | k + 1, a, h => by
    rw [upsN, List.getD_eq_getElem?_getD]
    by_cases e : a = k
    · subst e
      rw [List.getElem?_append_right (by rw [upsN_length]; omega), upsN_length]; simp
    · rw [List.getElem?_append_left (by rw [upsN_length]; omega), ← List.getD_eq_getElem?_getD]
      exact upsN_getD p m k a (by omega)
theorem upsN_u32 (p : Nat → Nat → Bool) {m : Nat} (hm : m ≤ 8) (k : Nat) : U32 (upsN p m k) := by
  intro u hu
  obtain ⟨a, ha, rfl⟩ := List.mem_iff_getElem.1 hu
  have hk : a < k := by rw [upsN_length] at ha; exact ha
  have := upsN_getD p m k a hk
  rw [List.getD_eq_getElem?_getD, List.getElem?_eq_getElem ha] at this
  simp only [Option.getD_some] at this
  rw [this]
  exact Nat.lt_of_lt_of_le (rowN_lt _ _) (Nat.pow_le_pow_right (by decide) (by omega))
theorem upsN_fl (p : Nat → Nat → Bool) (m k : Nat) {a b : Nat} (ha : a < k) : fl (upsN p m k) a b = (decide (b < m) && p a b) := by
  rw [fl, upsN_getD p m k a ha, rowN_bit]
theorem ups_eq {us : List Nat} {n : Nat} {p : Nat → Nat → Bool} (h1 : us.length = n) (h2 : ∀ a, a < n → us.getD a 0 < 2 ^ n) (h3 : ∀ a, a < n → ∀ b, b < n → fl us a b = p a b) : us = upsN p n n := by
  refine List.ext_getElem (by rw [h1, upsN_length]) fun a ha hb => ?_
  have e1 : us[a] = us.getD a 0 := get_getD ha
  have e2 : (upsN p n n)[a] = (upsN p n n).getD a 0 := get_getD hb
  rw [e1, e2, upsN_getD p n n a (by omega)]
  refine Nat.eq_of_testBit_eq fun i => ?_
  rw [rowN_bit]
  by_cases hi : i < n
  · have := h3 a (by omega) i hi
    rw [fl] at this
    rw [this]; simp [hi]
  · rw [Nat.testBit_lt_two_pow (Nat.lt_of_lt_of_le (h2 a (by omega)) (Nat.pow_le_pow_right (by decide) (by omega)))]; simp [hi]

/-- Edges lead from a label to another one. -/
inductive Reach (l : List (Nat × Nat)) (a : Nat) : Nat → Prop
  | refl : Reach l a a
  | step {b c : Nat} (h : Reach l a b) (he : (b, c) ∈ l) : Reach l a c
theorem Reach.trans {l : List (Nat × Nat)} {a b c : Nat} (h : Reach l a b) (h2 : Reach l b c) : Reach l a c := by
  induction h2 with
  | refl => exact h
  | step _ he ih => exact .step ih he
theorem Reach.front {l : List (Nat × Nat)} {a b c : Nat} (he : (a, b) ∈ l) (h : Reach l b c) : Reach l a c := (Reach.step .refl he).trans h
theorem Reach.ind {l : List (Nat × Nat)} {c : Nat} {q : Nat → Prop} (h0 : q c) (hs : ∀ a b, (a, b) ∈ l → q b → q a) {a : Nat} (h : Reach l a c) : q a := by
  induction h with
  | refl => exact h0
  | step _ he ih => exact ih (hs _ _ he h0)
noncomputable def reachB (l : List (Nat × Nat)) (a b : Nat) : Bool := @decide (Reach l a b) (Classical.propDecidable _)
theorem reachB_iff {l : List (Nat × Nat)} {a b : Nat} : reachB l a b = true ↔ Reach l a b := by unfold reachB; exact @decide_eq_true_iff _ (Classical.propDecidable _)
noncomputable def closU (n : Nat) (l : List (Nat × Nat)) : List Nat := upsN (reachB l) n n
def InN (n : Nat) (l : List (Nat × Nat)) : Prop := ∀ e ∈ l, e.1 < n ∧ e.2 < n
/-- What is told by rows that are closed is where the edges lead. -/
theorem clo_eq {n : Nat} {l : List (Nat × Nat)} {us : List Nat} (hl : InN n l) (h1 : us.length = n) (h2 : ∀ a, a < n → us.getD a 0 < 2 ^ n) (h3 : ∀ a, a < n → fl us a a = true)
    (h4 : ∀ a, a < n → ∀ b, fl us a b = true → Reach l a b) (h5 : ∀ e ∈ l, ∀ c, fl us e.2 c = true → fl us e.1 c = true) : us = closU n l := by
  refine ups_eq h1 h2 fun a ha b hb => ?_
  rw [Bool.eq_iff_iff, reachB_iff]
  refine ⟨h4 a ha b, fun h => ?_⟩
  exact Reach.ind (q := fun a => fl us a b = true) (h3 b hb) (fun a c he hc => h5 _ he b hc) h

/-! ### Round by round -/
def pass1 (o : List Bool) (e : Nat × Nat) : List Bool := if o.getD e.1 false = true then o.set e.2 true else o
def passL (o : List Bool) (l : List (Nat × Nat)) : List Bool := l.foldl pass1 o
def passN (l : List (Nat × Nat)) (o : List Bool) : Nat → List Bool
  | 0 => o
  | k + 1 => passL (passN l o k) l
def leB (o o' : List Bool) : Prop := ∀ b, o.getD b false = true → o'.getD b false = true
theorem getD_set (o : List Bool) (i b : Nat) (hi : i < o.length) : (o.set i true).getD b false = (decide (b = i) || o.getD b false) := by
  simp only [List.getD_eq_getElem?_getD, List.getElem?_set]
  by_cases h : i = b
  · subst h; simp [hi]
  · have h' : ¬ b = i := fun e => h e.symm
    simp [h, h']
theorem pass1_length (o : List Bool) (e : Nat × Nat) : (pass1 o e).length = o.length := by unfold pass1; split <;> simp
theorem passL_length (l : List (Nat × Nat)) : ∀ o : List Bool, (passL o l).length = o.length := by
  induction l with
  | nil => intro o; rfl
  | cons e l ih => intro o; show (passL (pass1 o e) l).length = _; rw [ih, pass1_length]
theorem passN_length (l : List (Nat × Nat)) (o : List Bool) (k : Nat) : (passN l o k).length = o.length := by
  induction k with
  | zero => rfl
  | succ k ih => rw [passN, passL_length, ih]
theorem pass1_le {o : List Bool} {e : Nat × Nat} (he : e.2 < o.length) : leB o (pass1 o e) := by
  intro b hb
  unfold pass1
  split
  · rw [getD_set _ _ _ he, hb]; simp
  · exact hb
theorem passL_le : ∀ {l : List (Nat × Nat)} {o : List Bool}, InN o.length l → leB o (passL o l) := by
  intro l
  induction l with
  | nil => intro o _ b hb; exact hb
  | cons e l ih =>
    intro o hl b hb
    exact ih (o := pass1 o e) (by rw [pass1_length]; exact fun e' he' => hl e' (List.mem_cons_of_mem _ he')) b (pass1_le (hl e (List.mem_cons_self ..)).2 b hb)
theorem cnt_or : ∀ {o o' : List Bool}, o.length = o'.length → leB o o' → o = o' ∨ o.count true < o'.count true := by
  intro o
  induction o with
  | nil => intro o' h _; cases o' with
    | nil => exact .inl rfl
    | cons _ _ => simp at h
  | cons x o ih =>
    intro o' h hle
    cases o' with
    | nil => simp at h
    | cons y o' =>
      have h2 : leB o o' := fun b hb => by have := hle (b + 1); simpa using this (by simpa using hb)
      have h0 := hle 0
      simp only [List.getD_cons_zero] at h0
      have hc := ih (by simpa using h) h2
      cases x with
      | true =>
        rw [h0 rfl]
        rcases hc with rfl | hc
        · exact .inl rfl
        · exact .inr (by simpa using hc)
      | false =>
        cases y with
        | false =>
          rcases hc with rfl | hc
          · exact .inl rfl
          · exact .inr (by simpa using hc)
        | true =>
          refine .inr ?_
          rcases hc with rfl | hc
          · simp
          · simp; omega
theorem leB_eq {o o' : List Bool} (hl : o.length = o'.length) (h : leB o o') (h2 : leB o' o) : o = o' := by
  rcases cnt_or hl h with e | e
  · exact e
  · rcases cnt_or hl.symm h2 with e2 | e2
    · exact e2.symm
    · omega
theorem fix_closed : ∀ {l : List (Nat × Nat)} {o : List Bool}, InN o.length l → passL o l = o → ∀ e ∈ l, o.getD e.1 false = true → o.getD e.2 false = true := by
  intro l
  induction l with
  | nil => intro o _ _ e he; cases he
  | cons e l ih =>
    intro o hl h
    have hlt := hl e (List.mem_cons_self ..)
    have hl' : InN (pass1 o e).length l := by rw [pass1_length]; exact fun e' he' => hl e' (List.mem_cons_of_mem _ he')
    have h1 : passL (pass1 o e) l = o := h
    have h2 : pass1 o e = o := by
      refine (leB_eq (by rw [pass1_length]) (pass1_le hlt.2) ?_).symm
      have := passL_le hl'
      rw [h1] at this
      exact this
    intro e' he' hb
    rcases List.mem_cons.1 he' with rfl | he'
    · rw [← h2]
      unfold pass1
      rw [if_pos hb, getD_set _ _ _ hlt.2]; simp
    · rw [h2] at h1
      exact ih (fun e' he' => hl e' (List.mem_cons_of_mem _ he')) h1 e' he' hb
theorem passN_cnt {l : List (Nat × Nat)} {o : List Bool} (hl : InN o.length l) (h0 : 1 ≤ o.count true) (k : Nat) : passL (passN l o k) l = passN l o k ∨ k + 1 ≤ (passN l o k).count true := by
  induction k with
  | zero => exact .inr h0
  | succ k ih =>
    rcases ih with ih | ih
    · refine .inl ?_
      have : passN l o (k + 1) = passN l o k := ih
      rw [this]; exact ih
    · have hle := passL_le (l := l) (o := passN l o k) (by rw [passN_length]; exact hl)
      rcases cnt_or (by rw [passL_length]) hle with e | e
      · refine .inl ?_
        have : passN l o (k + 1) = passN l o k := e.symm
        rw [this]; exact e.symm
      · exact .inr (by show k + 1 + 1 ≤ (passL (passN l o k) l).count true; omega)
theorem passN_fix {l : List (Nat × Nat)} {o : List Bool} (hl : InN o.length l) (h0 : 1 ≤ o.count true) : passL (passN l o o.length) l = passN l o o.length := by
  rcases passN_cnt hl h0 o.length with h | h
  · exact h
  · have : (passN l o o.length).count true ≤ (passN l o o.length).length := List.count_le_length
    rw [passN_length] at this
    omega
theorem pass1_sound {l : List (Nat × Nat)} {a : Nat} {o : List Bool} {e : Nat × Nat} (he : e ∈ l) (h2 : e.2 < o.length) (h : ∀ b, o.getD b false = true → Reach l a b) : ∀ b, (pass1 o e).getD b false = true → Reach l a b := by
  intro b hb
  unfold pass1 at hb
  split at hb
  · rename_i hx
    rw [getD_set _ _ _ h2] at hb
    simp only [Bool.or_eq_true, decide_eq_true_eq] at hb
    rcases hb with rfl | hb
    · exact .step (h _ hx) he
    · exact h b hb
  · exact h b hb
theorem passL_sound {L : List (Nat × Nat)} {a : Nat} : ∀ {l : List (Nat × Nat)} {o : List Bool}, (∀ e ∈ l, e ∈ L) → InN o.length l → (∀ b, o.getD b false = true → Reach L a b) → ∀ b, (passL o l).getD b false = true → Reach L a b := by
  intro l
  induction l with
  | nil => intro o _ _ h; exact h
  | cons e l ih =>
    intro o hL hl h
    exact ih (o := pass1 o e) (fun e' he' => hL e' (List.mem_cons_of_mem _ he')) (by rw [pass1_length]; exact fun e' he' => hl e' (List.mem_cons_of_mem _ he')) (pass1_sound (hL e (List.mem_cons_self ..)) (hl e (List.mem_cons_self ..)).2 h)
theorem passN_sound {l : List (Nat × Nat)} {a : Nat} {o : List Bool} (hl : InN o.length l) (h : ∀ b, o.getD b false = true → Reach l a b) (k : Nat) : ∀ b, (passN l o k).getD b false = true → Reach l a b := by
  induction k with
  | zero => exact h
  | succ k ih => exact passL_sound (fun e he => he) (by rw [passN_length]; exact hl) ih
theorem passN_le {l : List (Nat × Nat)} {o : List Bool} (hl : InN o.length l) (k : Nat) : leB o (passN l o k) := by
  induction k with
  | zero => exact fun b hb => hb
  | succ k ih => exact fun b hb => passL_le (by rw [passN_length]; exact hl) b (ih b hb)
/-- From one label on. -/
def fromL (n a : Nat) : List Bool := (List.range n).map fun b => decide (a = b)
theorem fromL_length (n a : Nat) : (fromL n a).length = n := by simp [fromL]
theorem fromL_get (n a b : Nat) : (fromL n a).getD b false = (decide (b < n) && decide (a = b)) := by
  simp only [fromL, List.getD_eq_getElem?_getD, List.getElem?_map]
  by_cases h : b < n
  · simp [h]
  · simp [h]
theorem reach_passN {n a : Nat} {l : List (Nat × Nat)} (hl : InN n l) (ha : a < n) {b : Nat} (hb : b < n) : (passN l (fromL n a) n).getD b false = reachB l a b := by
  have hl' : InN (fromL n a).length l := by rw [fromL_length]; exact hl
  rw [Bool.eq_iff_iff, reachB_iff]
  constructor
  · refine passN_sound hl' (fun b hb => ?_) n b
    rw [fromL_get] at hb
    simp only [Bool.and_eq_true, decide_eq_true_eq] at hb
    rw [← hb.2]; exact .refl
  · intro h
    have hfix := passN_fix hl' (by
      refine List.count_pos_iff.2 ?_
      refine List.mem_iff_getElem?.2 ⟨a, ?_⟩
      simp [fromL, ha])
    rw [fromL_length] at hfix
    have hcl := fix_closed (by rw [passN_length, fromL_length]; exact hl) hfix
    have h0 : (passN l (fromL n a) n).getD a false = true := passN_le hl' n a (by rw [fromL_get]; simp [ha])
    clear hfix hb
    induction h with
    | refl => exact h0
    | step _ he ih => exact hcl _ he ih
end Go.Proofs.Ytabliglgeiajlaa.AM
