/- The abstract machine: a region in whatever order its edges allow. -/
import Derived.Test.YtabliglgeiajlaaAm3
set_option linter.unusedSimpArgs false
set_option linter.unusedVariables false
namespace Go.Proofs.Ytabliglgeiajlaa.AM
open Go Go.RowKit

theorem putF_length (fr : List D) (dst : Option Nat) (d : D) : (putF fr dst d).length = fr.length := by cases dst <;> simp [putF]
theorem putF_congr {fr fr' : List D} {t : Nat} (h : fr[t]? = fr'[t]?) (dst : Option Nat) (d : D) : (putF fr dst d)[t]? = (putF fr' dst d)[t]? := by
  cases dst with
  | none => exact h
  | some s =>
    simp only [putF, List.getElem?_set]
    by_cases e : s = t
    · subst e
      have hl : (s < fr.length) ↔ (s < fr'.length) := by
        constructor
        · intro hlt
          rw [List.getElem?_eq_getElem hlt] at h
          exact (List.getElem?_eq_some_iff.1 h.symm).1
        · intro hlt
          rw [List.getElem?_eq_getElem hlt] at h
          exact (List.getElem?_eq_some_iff.1 h).1
      simp [hl]
    · simp [e, h]
theorem putF_ne {fr : List D} {t : Nat} {dst : Option Nat} (h : dst ≠ some t) (d : D) : (putF fr dst d)[t]? = fr[t]? := by
  cases dst with
  | none => rfl
  | some s => simp only [putF, List.getElem?_set]; rw [if_neg (fun e => h (by rw [e]))]
theorem set_congr {α : Type} {l l' : List α} {t : Nat} (h : l[t]? = l'[t]?) (s : Nat) (x : α) : (l.set s x)[t]? = (l'.set s x)[t]? := by
  simp only [List.getElem?_set]
  by_cases e : s = t
  · subst e
    have hl : (s < l.length) ↔ (s < l'.length) := by
      constructor
      · intro hlt
        rw [List.getElem?_eq_getElem hlt] at h
        exact (List.getElem?_eq_some_iff.1 h.symm).1
      · intro hlt
        rw [List.getElem?_eq_getElem hlt] at h
        exact (List.getElem?_eq_some_iff.1 h).1
    simp [hl]
  · simp [e, h]
theorem setsF_congr {σ σ' : List Slot} {t : Nat} (l : List (Nat × Slot)) (h : σ[t]? = σ'[t]?) : (setsF σ l)[t]? = (setsF σ' l)[t]? := by
  induction l generalizing σ σ' with
  | nil => exact h
  | cons p l ih => exact ih (set_congr h _ _)
theorem setsF_ne {σ : List Slot} {t : Nat} (l : List (Nat × Slot)) (h : ∀ p ∈ l, p.1 ≠ t) : (setsF σ l)[t]? = σ[t]? := by
  induction l generalizing σ with
  | nil => rfl
  | cons p l ih =>
    simp only [setsF]
    rw [ih (fun q hq => h q (List.mem_cons_of_mem _ hq)), List.getElem?_set, if_neg (h p List.mem_cons_self)]

theorem fin_fr {t : Nat} {L L' : Nat → Bool} (os : List Oper) : ∀ (rs : List Rec) (i : Nat) (st st' : St), st.fr[t]? = st'.fr[t]? →
    (∀ j o r, os[j]? = some o → rs[j]? = some r → o.dst = some t → L (i + j) = L' (i + j)) → (fin L os rs i st).fr[t]? = (fin L' os rs i st').fr[t]? := by
  induction os with
  | nil => intro rs i st st' h _; simpa [fin] using h
  | cons o os ih =>
    intro rs i st st' h hL
    cases rs with
    | nil => simpa [fin] using h
    | cons r rs =>
      simp only [fin]
      refine ih rs (i + 1) _ _ ?_ (fun j o' r' ho hr hd => by have := hL (j + 1) o' r' (by simpa using ho) (by simpa using hr) hd; rw [show i + 1 + j = i + (j + 1) from by omega]; exact this)
      by_cases hd : o.dst = some t
      · have := hL 0 o r rfl rfl hd
        simp only [Nat.add_zero] at this
        rw [this]
        split
        · exact putF_congr h _ _
        · exact h
      · have e1 : (if L i = true then r.out.app o.dst st else st).fr[t]? = st.fr[t]? := by split; exact putF_ne hd _; rfl
        have e2 : (if L' i = true then r.out.app o.dst st' else st').fr[t]? = st'.fr[t]? := by split; exact putF_ne hd _; rfl
        rw [e1, e2, h]

theorem fin_σ {t : Nat} {L L' : Nat → Bool} (os : List Oper) : ∀ (rs : List Rec) (i : Nat) (st st' : St), st.σ[t]? = st'.σ[t]? →
    (∀ j o r, os[j]? = some o → rs[j]? = some r → (∃ p ∈ r.out.sets, p.1 = t) → L (i + j) = L' (i + j)) → (fin L os rs i st).σ[t]? = (fin L' os rs i st').σ[t]? := by
  induction os with
  | nil => intro rs i st st' h _; simpa [fin] using h
  | cons o os ih =>
    intro rs i st st' h hL
    cases rs with
    | nil => simpa [fin] using h
    | cons r rs =>
      simp only [fin]
      refine ih rs (i + 1) _ _ ?_ (fun j o' r' ho hr hd => by have := hL (j + 1) o' r' (by simpa using ho) (by simpa using hr) hd; rw [show i + 1 + j = i + (j + 1) from by omega]; exact this)
      by_cases hd : ∃ p ∈ r.out.sets, p.1 = t
      · have := hL 0 o r rfl rfl hd
        simp only [Nat.add_zero] at this
        rw [this]
        split
        · exact setsF_congr _ h
        · exact h
      · have hd' : ∀ p ∈ r.out.sets, p.1 ≠ t := fun p hp e => hd ⟨p, hp, e⟩
        have e1 : (if L i = true then r.out.app o.dst st else st).σ[t]? = st.σ[t]? := by split; exact setsF_ne _ hd'; rfl
        have e2 : (if L' i = true then r.out.app o.dst st' else st').σ[t]? = st'.σ[t]? := by split; exact setsF_ne _ hd'; rfl
        rw [e1, e2, h]

theorem fin_none {L : Nat → Bool} (os : List Oper) : ∀ (rs : List Rec) (i : Nat) (st : St), (∀ j, i ≤ j → L j = false) → fin L os rs i st = st := by
  induction os with
  | nil => intro rs i st _; simp [fin]
  | cons o os ih =>
    intro rs i st h
    cases rs with
    | nil => simp [fin]
    | cons r rs =>
      simp only [fin, h i (Nat.le_refl _)]
      exact ih rs (i + 1) st (fun j hj => h j (by omega))

theorem fin_congr {L L' : Nat → Bool} (os : List Oper) : ∀ (rs : List Rec) (i : Nat) (st : St), (∀ j, i ≤ j → j < i + os.length → L j = L' j) → fin L os rs i st = fin L' os rs i st := by
  induction os with
  | nil => intro rs i st _; simp [fin]
  | cons o os ih =>
    intro rs i st h
    cases rs with
    | nil => simp [fin]
    | cons r rs =>
      simp only [fin, h i (Nat.le_refl _) (by simp)]
      exact ih rs (i + 1) _ (fun j h1 h2 => h j (by omega) (by simp at h2 ⊢; omega))

/-- What a step is, where it stands. -/
structure At (P : Program) (ro : Option Nat) (ops : Array Oper) (sl : Nat → Nat) (i : Nat) (o : Oper) (r : Rec) (st : St) : Prop where
  guard : guardB ops o st = some r.run
  skip : r.run = false → r.out = ⟨.v undef, []⟩
  op : r.run = true → OpS P ro o st.eval st.σ r.rd (sl i) r.out
  sets : ∀ p ∈ r.out.sets, p.1 = sl i ∨ p.1 ∈ r.rd

theorem Valid.at_ {P : Program} {ro : Option Nat} {ops : Array Oper} {sl : Nat → Nat} (os : List Oper) : ∀ (k : Nat) (st : St) (rs : List Rec), Valid P ro ops sl os k st rs →
    rs.length = os.length ∧ ∀ (i : Nat) (o : Oper), os[i]? = some o → ∃ r, rs[i]? = some r ∧ At P ro ops sl (k + i) o r (fin (fun j => decide (j < k + i)) os rs k st) ∧
      fin (fun j => decide (j < k + i + 1)) os rs k st = r.out.app o.dst (fin (fun j => decide (j < k + i)) os rs k st) := by
  induction os with
  | nil => intro k st rs h; simp only [Valid] at h; subst h; exact ⟨rfl, fun i o h => by simp at h⟩
  | cons o os ih =>
    intro k st rs h
    obtain ⟨r, rest, rfl, h1, h2, h3, h4, h5⟩ := h
    obtain ⟨hl, hi⟩ := ih (k + 1) _ rest h5
    refine ⟨by simp [hl], fun i o' ho => ?_⟩
    cases i with
    | zero =>
      simp only [List.getElem?_cons_zero, Option.some.injEq] at ho
      subst ho
      have e0 : fin (fun j => decide (j < k + 0)) (o :: os) (r :: rest) k st = st := fin_none _ _ _ _ (fun j hj => by simp; omega)
      refine ⟨r, rfl, ?_, ?_⟩
      · rw [e0]; exact ⟨h1, h2, h3, h4⟩
      · rw [e0]
        simp only [fin]
        rw [if_pos (by simp), fin_none _ _ _ _ (fun j hj => by simp; omega)]
    | succ i =>
      obtain ⟨r', hr', hat, hnext⟩ := hi i o' (by simpa using ho)
      have ek : k + 1 + i = k + (i + 1) := by omega
      have e1 : fin (fun j => decide (j < k + (i + 1))) (o :: os) (r :: rest) k st = fin (fun j => decide (j < k + 1 + i)) os rest (k + 1) (r.out.app o.dst st) := by
        simp only [fin]
        rw [if_pos (by simp), ek]
      have e2 : fin (fun j => decide (j < k + (i + 1) + 1)) (o :: os) (r :: rest) k st = fin (fun j => decide (j < k + 1 + i + 1)) os rest (k + 1) (r.out.app o.dst st) := by
        simp only [fin]
        rw [if_pos (by simp; omega), ek]
      refine ⟨r', by simpa using hr', ?_, ?_⟩
      · rw [e1, ← ek]; exact hat
      · rw [e1, e2]; exact hnext

/-! ### Which operations come before which -/
def befOf (acc : List Nat) (o : Oper) : Nat := o.after.toList.foldl (fun s e => if Region.binds .any e then s ||| 2 ^ e.on ||| acc.getD e.on 0 else s) 0
def befs : List Oper → List Nat → List Nat
  | [], acc => acc
  | o :: os, acc => befs os (acc ++ [befOf acc o])

theorem foldl_bits {acc : List Nat} {j : Nat} (es : List Edge) : ∀ (s : Nat), (es.foldl (fun s e => if Region.binds .any e then s ||| 2 ^ e.on ||| acc.getD e.on 0 else s) s).testBit j = true →
    s.testBit j = true ∨ ∃ e ∈ es, Region.binds .any e = true ∧ (j = e.on ∨ (acc.getD e.on 0).testBit j = true) := by
  induction es with
  | nil => intro s h; exact .inl h
  | cons e es ih =>
    intro s h
    simp only [List.foldl_cons] at h
    rcases ih _ h with h1 | ⟨e', he', h1⟩
    · by_cases hb : Region.binds .any e = true
      · rw [if_pos hb] at h1
        simp only [Nat.testBit_or, Bool.or_eq_true] at h1
        rcases h1 with (h1 | h1) | h1
        · exact .inl h1
        · refine .inr ⟨e, List.mem_cons_self, hb, .inl ?_⟩
          rw [Nat.testBit_two_pow] at h1
          exact (of_decide_eq_true h1).symm
        · exact .inr ⟨e, List.mem_cons_self, hb, .inr h1⟩
      · rw [if_neg hb] at h1
        exact .inl h1
    · exact .inr ⟨e', List.mem_cons_of_mem _ he', h1⟩

/-- A set of operations with all that come before them. -/
def Closed (ops : List Oper) (L : Nat → Bool) : Prop := ∀ i o, ops[i]? = some o → L i = true → ∀ e ∈ o.after.toList, Region.binds .any e = true → L e.on = true

theorem befs_spec {L : Nat → Bool} (all : List Oper) (hc : Closed all L) (os : List Oper) : ∀ (pre : List Oper) (acc : List Nat), all = pre ++ os → acc.length = pre.length →
    (∀ i, i < acc.length → ∀ j, (L i = true ∨ ∃ o, all[i]? = some o ∧ ∀ e ∈ o.after.toList, Region.binds .any e = true → L e.on = true) → (acc.getD i 0).testBit j = true → L j = true) →
    ∀ i, i < all.length → ∀ j, (L i = true ∨ ∃ o, all[i]? = some o ∧ ∀ e ∈ o.after.toList, Region.binds .any e = true → L e.on = true) → ((befs os acc).getD i 0).testBit j = true → L j = true := by
  induction os with
  | nil =>
    intro pre acc he hl hacc i hi j hLi hb
    exact hacc i (by simp [he] at hi; omega) j hLi hb
  | cons o os ih =>
    intro pre acc he hl hacc
    simp only [befs]
    refine ih (pre ++ [o]) (acc ++ [befOf acc o]) (by simp [he]) (by simp [hl]) (fun i hi j hLi hb => ?_)
    by_cases hlt : i < acc.length
    · rw [List.getD_eq_getElem?_getD, List.getElem?_append_left hlt, ← List.getD_eq_getElem?_getD] at hb
      exact hacc i hlt j hLi hb
    · obtain rfl : i = acc.length := by simp at hi; omega
      rw [List.getD_eq_getElem?_getD, List.getElem?_append_right (Nat.le_refl _)] at hb
      simp only [Nat.sub_self, List.getElem?_cons_zero, Option.getD_some] at hb
      have ho : all[acc.length]? = some o := by rw [he, hl, List.getElem?_append_right (Nat.le_refl _)]; simp
      have hes : ∀ e ∈ o.after.toList, Region.binds .any e = true → L e.on = true := by
        rcases hLi with h | ⟨o', ho', h⟩
        · exact hc _ o ho h
        · rw [ho] at ho'; cases ho'; exact h
      unfold befOf at hb
      rcases foldl_bits _ _ hb with h0 | ⟨e, he', hbi, hj⟩
      · simp at h0
      · have hle := hes e he' hbi
        rcases hj with rfl | hj
        · exact hle
        · by_cases hlt' : e.on < acc.length
          · exact hacc e.on hlt' j (.inl hle) hj
          · rw [List.getD_eq_getElem?_getD, List.getElem?_eq_none (by omega)] at hj
            simp at hj

/-! ### The check -/
def tmpsOf (xs : List Operand) : List Nat := xs.filterMap fun | .tmp t => some t | _ => none
def guardT (ops : Array Oper) (o : Oper) : List Nat := match o.guard with | none => [] | some (j, _) => ((ops[j]?).bind (·.dst)).toList
def uT (ops : Array Oper) (o : Oper) : List Nat := tmpsOf o.op.operands.toList ++ guardT ops o ++ o.dst.toList
def meets (a b : List Nat) : Bool := a.any fun x => b.any fun y => Nat.beq x y
def conflict (ops : Array Oper) (sl : Nat → Nat) (i : Nat) (oi : Oper) (ri : Rec) (oj : Oper) (rj : Rec) : Bool :=
  meets oj.dst.toList (uT ops oi) || meets (rj.out.sets.map (·.1)) ((sl i) :: ri.rd)
def chkRow (ops : Array Oper) (bs : List Nat) (sl : Nat → Nat) (i : Nat) (oi : Oper) (ri : Rec) : List Oper → List Rec → Nat → Bool
  | oj :: os, rj :: rs, j => (Nat.beq i j || !conflict ops sl i oi ri oj rj || (if Nat.blt j i then (bs.getD i 0).testBit j else (bs.getD j 0).testBit i)) && chkRow ops bs sl i oi ri os rs (j + 1)
  | _, _, _ => true
def chkAll (ops : Array Oper) (bs : List Nat) (sl : Nat → Nat) (allO : List Oper) (allR : List Rec) : List Oper → List Rec → Nat → Bool
  | oi :: os, ri :: rs, i => (oi.after.toList.all fun e => !Region.binds .any e || Nat.blt e.on i) && chkRow ops bs sl i oi ri allO allR 0 && chkAll ops bs sl allO allR os rs (i + 1)
  | _, _, _ => true
def chk (ops : List Oper) (sl : Nat → Nat) (rs : List Rec) : Bool := chkAll ops.toArray (befs ops []) sl ops rs ops rs 0

theorem meets_of {a b : List Nat} {x : Nat} (ha : x ∈ a) (hb : x ∈ b) : meets a b = true := by
  simp only [meets, List.any_eq_true]
  exact ⟨x, ha, x, hb, Nat.beq_refl x⟩

theorem chkRow_spec {ops : Array Oper} {bs : List Nat} {sl : Nat → Nat} {i : Nat} {oi : Oper} {ri : Rec} (os : List Oper) : ∀ (rs : List Rec) (k : Nat), chkRow ops bs sl i oi ri os rs k = true →
    ∀ j oj rj, os[j]? = some oj → rs[j]? = some rj → i ≠ k + j → conflict ops sl i oi ri oj rj = true → if k + j < i then (bs.getD i 0).testBit (k + j) = true else (bs.getD (k + j) 0).testBit i = true := by
  induction os with
  | nil => intro rs k _ j oj rj h; simp at h
  | cons o os ih =>
    intro rs k h j oj rj ho hr hne hcf
    cases rs with
    | nil => simp at hr
    | cons r rs =>
      simp only [chkRow, Bool.and_eq_true] at h
      cases j with
      | zero =>
        simp only [List.getElem?_cons_zero, Option.some.injEq] at ho hr
        subst ho hr
        have h1 := h.1
        have hn : Nat.beq i k = false := by
          cases hb : Nat.beq i k with
          | false => rfl
          | true => exact absurd (Nat.eq_of_beq_eq_true hb) hne
        rw [hn, hcf] at h1
        simp only [Bool.not_true, Bool.or_self, Bool.false_or] at h1
        simp only [Nat.add_zero]
        by_cases hlt : k < i
        · rw [if_pos hlt]
          rw [if_pos (by simpa [Nat.blt_eq] using hlt)] at h1
          exact h1
        · rw [if_neg hlt]
          rw [if_neg (by simpa [Nat.blt_eq] using hlt)] at h1
          exact h1
      | succ j =>
        have := ih rs (k + 1) h.2 j oj rj (by simpa using ho) (by simpa using hr) (by omega) hcf
        rw [show k + (j + 1) = k + 1 + j from by omega]
        exact this

theorem chkAll_spec {ops : Array Oper} {bs : List Nat} {sl : Nat → Nat} {allO : List Oper} {allR : List Rec} (os : List Oper) : ∀ (rs : List Rec) (k : Nat), chkAll ops bs sl allO allR os rs k = true → rs.length = os.length →
    ∀ i oi ri, os[i]? = some oi → rs[i]? = some ri → (∀ e ∈ oi.after.toList, Region.binds .any e = true → e.on < k + i) ∧ chkRow ops bs sl (k + i) oi ri allO allR 0 = true := by
  induction os with
  | nil => intro rs k _ _ i oi ri h; simp at h
  | cons o os ih =>
    intro rs k h hl i oi ri ho hr
    cases rs with
    | nil => simp at hr
    | cons r rs =>
      simp only [chkAll, Bool.and_eq_true] at h
      cases i with
      | zero =>
        simp only [List.getElem?_cons_zero, Option.some.injEq] at ho hr
        subst ho hr
        refine ⟨fun e he hb => ?_, h.1.2⟩
        have := (List.all_eq_true.1 h.1.1) e he
        rw [hb] at this
        simpa [Nat.blt_eq] using this
      | succ i =>
        rw [show k + (i + 1) = k + 1 + i from by omega]
        exact ih rs (k + 1) h.2 (by simpa using hl) i oi ri (by simpa using ho) (by simpa using hr)

theorem St.ext' {a b : St} (h1 : a.fr = b.fr) (h2 : a.σ = b.σ) : a = b := by cases a; cases b; simp_all

end Go.Proofs.Ytabliglgeiajlaa.AM
