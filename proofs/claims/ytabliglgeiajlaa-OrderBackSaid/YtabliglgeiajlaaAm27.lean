/- The abstract machine: a range over an iterator that has its contract. -/
import Derived.Test.YtabliglgeiajlaaAm26
set_option linter.unusedSimpArgs false
set_option linter.unusedVariables false
namespace Go.Proofs.Ytabliglgeiajlaa.AM
open Go Go.RowKit

/-- An iterator: it yields el 0, el 1, .. up to n, and ends where yield returns false. -/
def ItFn (P : Program) (f : Nat) (caps : List D) (n : Nat) (el : Nat → List D) : Prop :=
  ∀ (m : Nat) (inv : Nat → List Slot) (ok : Nat → Bool) (frr : Nat → List D) (rr : Nat → Loop) (_ : ∀ i, (inv i)[m]? = some (recS (frr i) (rr i))) (_ : ∀ i, Clsd (inv i)) (_ : ∀ i, (inv i).length = m + 1)
    (_ : ∀ i, i < n → (∀ j, j < i → ok j = true) → Yld P m (el i) (inv i) (ok i) (inv (i + 1))) (k : Nat)
    (_ : (k = n ∧ ∀ j, j < k → ok j = true) ∨ (∃ s, s < n ∧ k = s + 1 ∧ ok s = false ∧ ∀ j, j < s → ok j = true)), Fn P f (.kref false m 0 :: caps) (inv 0) .any (inv k)

theorem clsd_snoc {s : List Slot} {fr : List D} {r : Loop} (h : s.map (renSlot (mOf (List.range (s.length + 1)))) = s) (hf : fr.map (ren (mOf (List.range (s.length + 1)))) = fr) : Clsd (s ++ [recS fr r]) := by
  unfold Clsd pick
  refine List.ext_getElem? fun k => ?_
  simp only [List.length_append, List.length_cons, List.length_nil, Nat.zero_add]
  rw [List.getElem?_map]
  by_cases hk : k < s.length
  · rw [List.getElem?_range (by omega), List.getElem?_append_left hk]
    simp only [Option.map_some]
    rw [getS_append hk, getS_eq, List.getElem?_eq_getElem hk]
    have h1 : (s.map (renSlot (mOf (List.range (s.length + 1)))))[k]? = s[k]? := by rw [h]
    rw [List.getElem?_map, List.getElem?_eq_getElem hk] at h1
    simp only [Option.map_some] at h1
    exact h1
  · by_cases hk2 : k = s.length
    · subst hk2
      rw [List.getElem?_range (by omega), List.getElem?_append_right (by omega)]
      simp only [Option.map_some, Nat.sub_self, List.getElem?_cons_zero]
      rw [getS_eq, List.getElem?_append_right (by omega)]
      simp only [Nat.sub_self, List.getElem?_cons_zero, Option.getD_some, recS, renSlot, hf]
    · rw [List.getElem?_eq_none (by simp; omega), List.getElem?_eq_none (by simp; omega)]
      rfl
theorem weakS_free {s t : List Slot} {m k : Nat} (h : s = t ++ List.replicate k .free) (hc : Clsd t) (hl : t.length = m) : WeakS m s t := by
  refine ⟨List.range m, List.nodup_range, fun k hk => by simp [hk], ?_⟩
  rw [h, ← hl, pick_range_append, hc]
  exact leS_refl _
theorem after_none {r : Loop} (h1 : r.state = .ready) (h2 : r.pending = none) : afterRound r none = r := by
  cases r; simp only [afterRound] at *; subst h1; subst h2; rfl
theorem set_snoc {s : List Slot} {a b : Slot} {m : Nat} (h : s.length = m) : (s ++ [a]).set m b = s ++ [b] := by subst h; simp
theorem setsF_self {s t : List Slot} (h : t.length = s.length) : setsF s ((List.range t.length).zip t) = t := by
  have := setsF_pre (rest := []) h
  simpa using this

theorem ok_dec (n : Nat) (ok : Nat → Bool) : (∀ j, j < n → ok j = true) ∨ ∃ s, s < n ∧ ok s = false ∧ ∀ j, j < s → ok j = true := by
  induction n with
  | zero => exact .inl (fun j hj => by omega)
  | succ n ih =>
    rcases ih with h | ⟨s, h6, h7⟩
    · by_cases hn : ok n = true
      · refine .inl (fun j hj => ?_)
        by_cases he : j = n
        · rw [he]; exact hn
        · exact h j (by omega)
      · exact .inr ⟨n, by omega, by simpa using hn, h⟩
    · exact .inr ⟨s, by omega, h7⟩
theorem AWP_range {P : Program} {st : St} {K : Exit → St → Prop} {g : Operand} {ps : Array Tmp} {assign body : Code} {f : Nat} {caps : List D} {n : Nat} {el : Nat → List D} (hg : st.eval g = .fn f caps) (hcaps : frz0All caps = true) (hit : ItFn P f caps n el)
    (hps : ∀ i, i < n → ps.size = (el i).length) (m : Nat) (hm : st.σ.length = m) (hfr : st.fr.map (ren (mOf (List.range (m + 1)))) = st.fr)
    (σs : Nat → List Slot) (hs0 : σs 0 = st.σ) (hsl : ∀ i, (σs i).length = m) (hsc : ∀ i, (σs i).map (renSlot (mOf (List.range (m + 1)))) = σs i) (hsc' : ∀ i, Clsd (σs i))
    (ok : Nat → Bool) (jmp : Exit) (jc : Code) (hj : exitJump jmp = some (some jc))
    (fr1 : Nat → List D) (hassign : ∀ l i r, i < n → AWP P (some l) assign ⟨setsP st.fr (ps.toList.zip (el i)), σs i ++ [recS st.fr r]⟩ (fun e s => e = .normal ∧ s = ⟨fr1 i, σs i ++ [recS st.fr r]⟩))
    (hfr1 : ∀ i, (fr1 i).map (ren (mOf (List.range m))) = fr1 i)
    (hbody : ∀ l i, i < n → (∀ j, j < i → ok j = true) → AWP P (some l) body ⟨fr1 i, σs i⟩ (fun e s => WeakS m s.σ (σs (i + 1)) ∧ e = if ok i = true then .normal else jmp))
    (hdone : (∀ j, j < n → ok j = true) → K .normal ⟨st.fr, σs n ++ [.dead]⟩)
    (hstop : ∀ k, k < n → ok k = false → (∀ j, j < k → ok j = true) → K jmp ⟨st.fr, σs (k + 1) ++ [.dead]⟩) : AWP P none (.rangeFunc g ps assign body) st K := by
  refine AWP_rangeFunc hg fun r h1 h2 h3 h4 h5 => ?_
  rw [hm]
  let rr : Nat → Loop := fun i => match i with | 0 => r | i + 1 => if ok i = true then r else afterRound r (some jc)
  let inv : Nat → List Slot := fun i => σs i ++ [recS st.fr (rr i)]
  have hcl : ∀ i, Clsd (inv i) := fun i => clsd_snoc (by rw [hsl]; exact hsc i) (by rw [hsl]; exact hfr)
  have hlen : ∀ i, (inv i).length = m + 1 := fun i => by simp [inv, hsl]
  have hrec : ∀ i, (inv i)[m]? = some (recS st.fr (rr i)) := fun i => by
    show (σs i ++ [recS st.fr (rr i)])[m]? = _
    rw [List.getElem?_append_right (by rw [hsl]; exact Nat.le_refl _), hsl]
    simp
  have hinv0 : pick (List.range (m + 1)) (st.σ ++ [recS st.fr r]) = inv 0 := by
    have := hcl 0
    unfold Clsd at this
    rw [hlen] at this
    rw [← hs0]
    exact this
  have hy : ∀ i, i < n → (∀ j, j < i → ok j = true) → Yld P m (el i) (inv i) (ok i) (inv (i + 1)) := by
    intro i hi hok
    have hri : rr i = r := by
      cases i with
      | zero => rfl
      | succ i => show (if ok i = true then r else _) = r; rw [if_pos (hok i (by omega))]
    have hset : ∀ b : Slot, (inv i).set m b = σs i ++ [b] := fun b => set_snoc (hsl i)
    have hpick : pick (List.range m) ((inv i).set m (recS st.fr { r with state := .busy })) = σs i := by
      rw [hset]
      have := hsc' i
      unfold Clsd at this
      rw [hsl] at this
      have h9 := pick_range_append (ext := σs i) (rest := [recS st.fr { r with state := .busy }])
      rw [hsl] at h9
      rw [h9]; exact this
    have hcs : ∀ b : Slot, setsF ((inv i).set m b) (callSets (List.range m ++ [m + 1]) (σs (i + 1))) = σs (i + 1) ++ [b] := by
      intro b
      have h9 := callSets_closed (s := m + 1) (hsc' (i + 1))
      rw [hsl] at h9
      rw [hset, h9]
      have h10 := setsF_pre (ext := σs i) (rest := [b]) (out := σs (i + 1)) (by rw [hsl, hsl])
      rw [hsl] at h10
      exact h10
    refine Yld.of (kk := m) (fr := st.fr) (r := r) (by rw [hrec, hri]) h1 (by rw [h3]; exact hps i hi) (fr1 i) (fun l => ?_) (List.range m) (m + 1) (nodup_range1 (by omega)) (by simp) (by rw [hlen]; simp; omega) (σs i) hpick (fr1 i) (hfr1 i) (fun l => ?_)
    · rw [h3, h4]
      show AWP P (some l) assign ⟨_, σs i ++ [recS st.fr (rr i)]⟩ _
      rw [hri]
      have := hassign l i r hi
      show AWP P (some l) assign _ (fun e s => e = .normal ∧ s = ⟨fr1 i, σs i ++ [recS st.fr (rr i)]⟩)
      rw [hri]
      exact this
    · rw [h5]
      refine (hbody l i hi hok).mono fun e s hs => ?_
      obtain ⟨hw, he⟩ := hs
      refine ⟨σs (i + 1), if ok i = true then none else some jc, by simpa using hw, by rw [hsl]; simp, ?_, ?_, ?_, ?_⟩
      · rw [he]
        by_cases h : ok i = true
        · rw [if_pos h, if_pos h]; rfl
        · rw [if_neg h, if_neg h]; exact hj
      · cases ok i <;> rfl
      · rw [hcs, List.getElem?_append_right (by rw [hsl]; exact Nat.le_refl _), hsl]; simp
      · rw [hcs, set_snoc (hsl (i + 1))]
        show σs (i + 1) ++ [recS st.fr (if ok i = true then r else afterRound r (some jc))] = _
        by_cases h : ok i = true
        · rw [if_pos h, if_pos h, after_none h1 h2]
        · rw [if_neg h, if_neg h]
  have hargs : (D.kref false m 0 :: caps).map (ren (mOf (List.range (m + 1)))) = .kref false m 0 :: caps := by
    rw [List.map_cons, map_frz0 (fun d hd => ren_frz0 hd) hcaps]
    congr 1
    show ren0 (mOf (List.range (m + 1))) (.kref false m 0) = _
    simp only [ren0, mOf_range]
    rw [if_pos (by omega)]
  have hfin : ∀ k, setsF (st.σ ++ [recS st.fr r]) (callSets (List.range (m + 1) ++ [m + 1]) (inv k)) = inv k := by
    intro k
    have h9 := callSets_closed (s := m + 1) (hcl k)
    rw [hlen] at h9
    rw [h9]
    have h10 := setsF_self (s := st.σ ++ [recS st.fr r]) (t := inv k) (by rw [hlen]; simp [hm])
    rw [hlen] at h10
    exact h10
  have hdec := ok_dec n ok
  rcases hdec with hall | ⟨s, hs, hsf, hsb⟩
  · refine ⟨.any, inv n, st.fr, rr n, ?_, hlen n, by rw [hfin]; exact hrec n, ?_, .normal, ?_, ?_⟩
    · rw [hargs, hinv0]
      exact hit m inv ok (fun _ => st.fr) rr hrec hcl hlen hy n (.inl ⟨rfl, hall⟩)
    · have : rr n = r := by
        cases n with
        | zero => rfl
        | succ n => show (if ok n = true then r else _) = r; rw [if_pos (hall n (by omega))]
      rw [this, h1]; simp
    · have : rr n = r := by
        cases n with
        | zero => rfl
        | succ n => show (if ok n = true then r else _) = r; rw [if_pos (hall n (by omega))]
      rw [this, h2]; rfl
    · rw [hfin]
      show K .normal ⟨st.fr, (σs n ++ [recS st.fr (rr n)]).set m .dead⟩
      rw [set_snoc (hsl n)]
      exact hdone hall
  · have hrs : rr (s + 1) = afterRound r (some jc) := by show (if ok s = true then r else _) = _; rw [hsf]; simp
    refine ⟨.any, inv (s + 1), st.fr, rr (s + 1), ?_, hlen _, by rw [hfin]; exact hrec _, ?_, jmp, ?_, ?_⟩
    · rw [hargs, hinv0]
      exact hit m inv ok (fun _ => st.fr) rr hrec hcl hlen hy (s + 1) (.inr ⟨s, hs, rfl, hsf, hsb⟩)
    · rw [hrs]; simp [afterRound]
    · rw [hrs, hj]; rfl
    · rw [hfin]
      show K jmp ⟨st.fr, (σs (s + 1) ++ [recS st.fr (rr (s + 1))]).set m .dead⟩
      rw [set_snoc (hsl _)]
      exact hstop s hs hsf hsb
theorem AWP_le {P : Program} {ro : Option Nat} {st : St} {K : Exit → St → Prop} {c : Code} (fr : List D) (h : leF st.fr fr) (hc : AWP P ro c ⟨fr, st.σ⟩ K) : AWP P ro c st K :=
  fun B a w hr Q hQ => hc B a w (hr.le (t := ⟨fr, st.σ⟩) h (leS_refl _)) Q hQ
/-- The same, with the stores between rounds (σs) and where a round has left (σx) apart. -/
theorem AWP_range2 {P : Program} {st : St} {K : Exit → St → Prop} {g : Operand} {ps : Array Tmp} {assign body : Code} {f : Nat} {caps : List D} {n : Nat} {el : Nat → List D} (hg : st.eval g = .fn f caps) (hcaps : frz0All caps = true) (hit : ItFn P f caps n el)
    (hps : ∀ i, i < n → ps.size = (el i).length) (m : Nat) (hm : st.σ.length = m) (hfr : st.fr.map (ren (mOf (List.range (m + 1)))) = st.fr)
    (σs σx : Nat → List Slot) (hs0 : σs 0 = st.σ) (hsl : ∀ i, (σs i).length = m ∧ (σx i).length = m) (hsc : ∀ i, (σs i).map (renSlot (mOf (List.range (m + 1)))) = σs i ∧ (σx i).map (renSlot (mOf (List.range (m + 1)))) = σx i) (hsc' : ∀ i, Clsd (σs i) ∧ Clsd (σx i))
    (ok : Nat → Bool) (jmp : Exit) (jc : Code) (hj : exitJump jmp = some (some jc))
    (fr1 : Nat → List D) (hassign : ∀ l i r σ, i < n → AWP P (some l) assign ⟨setsP st.fr (ps.toList.zip (el i)), σ ++ [recS st.fr r]⟩ (fun e s => e = .normal ∧ s = ⟨fr1 i, σ ++ [recS st.fr r]⟩))
    (hfr1 : ∀ i, (fr1 i).map (ren (mOf (List.range m))) = fr1 i)
    (hbody : ∀ l i, i < n → (∀ j, j < i → ok j = true) → AWP P (some l) body ⟨fr1 i, σs i⟩ (fun e s => (ok i = true ∧ e = .normal ∧ WeakS m s.σ (σs (i + 1))) ∨ (ok i = false ∧ e = jmp ∧ WeakS m s.σ (σx i))))
    (hdone : (∀ j, j < n → ok j = true) → K .normal ⟨st.fr, σs n ++ [.dead]⟩)
    (hstop : ∀ k, k < n → ok k = false → (∀ j, j < k → ok j = true) → K jmp ⟨st.fr, σx k ++ [.dead]⟩) : AWP P none (.rangeFunc g ps assign body) st K := by
  let σq : Nat → List Slot := fun i => match i with | 0 => σs 0 | i + 1 => if ok i = true then σs (i + 1) else σx i
  have hq : ∀ i, (∀ j, j < i → ok j = true) → σq i = σs i := fun i h => by
    cases i with
    | zero => rfl
    | succ i => show (if ok i = true then _ else _) = _; rw [if_pos (h i (by omega))]
  have hall : ∀ (p : List Slot → Prop), (∀ i, p (σs i) ∧ p (σx i)) → ∀ i, p (σq i) := fun p h i => by
    cases i with
    | zero => exact (h 0).1
    | succ i =>
      show p (if ok i = true then _ else _)
      split
      · exact (h (i + 1)).1
      · exact (h i).2
  refine AWP_range hg hcaps hit hps m hm hfr σq hs0 (hall (fun s => s.length = m) hsl) (hall (fun s => s.map (renSlot (mOf (List.range (m + 1)))) = s) hsc) (hall Clsd hsc') ok jmp jc hj fr1 (fun l i r hi => hassign l i r _ hi) hfr1 (fun l i hi hb => ?_) (fun h => ?_) (fun k hk h hb => ?_)
  · rw [hq i hb]
    refine (hbody l i hi hb).mono fun e s h => ?_
    show WeakS m s.σ (if ok i = true then σs (i + 1) else σx i) ∧ _
    rcases h with ⟨h1, h2, h3⟩ | ⟨h1, h2, h3⟩
    · rw [h1]; exact ⟨h3, h2⟩
    · rw [h1]; exact ⟨h3, h2⟩
  · rw [hq n h]; exact hdone h
  · have : σq (k + 1) = σx k := by show (if ok k = true then _ else _) = _; rw [h]; rfl
    rw [this]; exact hstop k hk h hb
theorem AWP_leS {P : Program} {ro : Option Nat} {st : St} {K : Exit → St → Prop} {c : Code} (σ : List Slot) (h : leS st.σ σ) (hc : AWP P ro c ⟨st.fr, σ⟩ K) : AWP P ro c st K :=
  fun B a w hr Q hQ => hc B a w (hr.le (t := ⟨st.fr, σ⟩) (leF_refl _) h) Q hQ
/-- An own block is frozen, ahead of a region. -/
theorem AWP_freezeR {P : Program} {ro : Option Nat} {st : St} {K : Exit → St → Prop} {ops : Array Oper} {dr : Bool} (id k : Nat) {e : Ent} (hk : getC st.σ k = .ent e) (hf : frzAll e.cells = true) (h : AWP P ro (.region id ops dr) (frSt k e.gen (arrOf e) e.cells st) K) : AWP P ro (.region id ops dr) st K := AWP_freeze k hk hf h
attribute [push_cast] setsP List.zip_cons_cons List.zip_nil_left List.zip_nil_right
end Go.Proofs.Ytabliglgeiajlaa.AM
