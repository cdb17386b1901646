/- The abstract machine: a call. -/
import Derived.Test.YtabliglgeiajlaaAm9
set_option linter.unusedSimpArgs false
set_option linter.unusedVariables false
namespace Go.Proofs.Ytabliglgeiajlaa.AM
open Go Go.RowKit

/-- The way back to the caller's keys. -/
def backOf (kl : List Nat) : Nat → Option Nat := fun j => kl[j]?
def callSets (kl : List Nat) (out : List Slot) : List (Nat × Slot) := kl.zip (out.map (renSlot (backOf kl)))
def callρ (kl : List Nat) (n : Nat) (ρ ρ' : Nat → Nat × Nat) : Nat → Nat × Nat := fun k => match mOf kl k with | some j => if j < n then ρ' j else ρ k | none => ρ k

theorem mOf_get {kl : List Nat} (hn : kl.Nodup) {j k : Nat} (h : kl[j]? = some k) : mOf kl k = some j := by
  have gen : ∀ (l : List Nat) (i j : Nat), l.Nodup → l[j]? = some k → idx l k i = some (i + j) := by
    intro l
    induction l with
    | nil => intro i j _ h; simp at h
    | cons x l ih =>
      intro i j hn h
      have hn' := List.nodup_cons.1 hn
      cases j with
      | zero => simp at h; subst h; simp [idx]
      | succ j =>
        have hx : x ≠ k := by rintro rfl; exact hn'.1 (List.mem_of_getElem? (by simpa using h))
        have hb : Nat.beq x k = false := by
          cases hb : Nat.beq x k with
          | false => rfl
          | true => exact absurd (Nat.eq_of_beq_eq_true hb) hx
        simp only [idx, hb]
        rw [ih (i + 1) j hn'.2 (by simpa using h)]
        congr 1; omega
  simpa using gen kl 0 j hn h
theorem mOf_none {kl : List Nat} {k : Nat} (h : k ∉ kl) : mOf kl k = none := by
  cases hx : mOf kl k with
  | none => rfl
  | some j => exact absurd (List.mem_of_getElem? (mOf_some hx)) h

theorem run_call {P : Program} {ρ : Operand → Value} {o : Oper} {c : Call} {fo : Operand} {f : Nat} {cs : Array Value} {w : World} (ho : o.op = .call c) (hcal : c.callee = .value fo) (hf : ρ fo = .func (.func f) #[] cs)
    (he : ∀ args w, (callFunc f args).run P w = .ok (.enter f args) w) : (execOp ρ o).run P w = .ok (.enter f (c.args.map ρ ++ cs)) w := by
  simp only [execOp, ho, resolve, hcal, Deferred.ofValue, hf, Sem.run_bind, Pure.pure, Sem.run, Result.andThen, invoke]
  rw [he]
  simp

theorem run_callB {P : Program} {ρ : Operand → Value} {o : Oper} {c : Call} {fo : Operand} {f : Nat} {cs : Array Value} {w : World} (ho : o.op = .call c) (hcal : c.callee = .value fo) (hf : ρ fo = .func (.func f) cs #[])
    (he : ∀ args w, (callFunc f args).run P w = .ok (.enter f args) w) : (execOp ρ o).run P w = .ok (.enter f (cs ++ c.args.map ρ)) w := by
  simp only [execOp, ho, resolve, hcal, Deferred.ofValue, hf, Sem.run_bind, Pure.pure, Sem.run, Result.andThen, invoke]
  rw [he]
  simp

/-- What is not handed over is others'. -/
def hideN (B : Base) (σ : List Slot) (ρ : Nat → Nat × Nat) (ks : List Nat) : Nat → Prop := fun b => B.N0 b ∨ ∃ k, live σ k ∧ k ∉ ks ∧ (ρ k).1 = b

/-- Some keys are handed over. -/
theorem hand {B : Base} {σ : List Slot} {ρ : Nat → Nat × Nat} {w : World} {ks : List Nat} (hp : Hp B σ ρ w) (hnks : ks.Nodup) :
    Hp (base0 w (hideN B σ ρ ks) (pick ks σ) (pickρ ks ρ)) (pick ks σ) (pickρ ks ρ) w ∧
    Tr (mOf ks) w (Fz B σ ρ w) (Tb σ ρ) (used σ) w (Fz (base0 w (hideN B σ ρ ks) (pick ks σ) (pickρ ks ρ)) (pick ks σ) (pickρ ks ρ) w) (Tb (pick ks σ) (pickρ ks ρ)) (used (pick ks σ)) := by
  have hz : ∀ b, Fz B σ ρ w b → Fz (base0 w (hideN B σ ρ ks) (pick ks σ) (pickρ ks ρ)) (pick ks σ) (pickρ ks ρ) w b := fun b hb =>
    ⟨hb.1, fun h => by rcases h with h | ⟨k, h1, _, h3⟩; exact hb.2.1 h; exact hb.2.2 k h1 h3, fun j hj => by obtain ⟨k, _, h2, h3⟩ := pick_live (ρ := ρ) hj; rw [h3]; exact hb.2.2 k h2⟩
  have hcp : Hp (base0 w (hideN B σ ρ ks) (pick ks σ) (pickρ ks ρ)) (pick ks σ) (pickρ ks ρ) w := {
    ent := fun j e he => pick_entOk hp hz j e he
    inj := fun j j' h h' he => pick_inj hp hnks j j' h h' he
    nf := fun j hj hN => by
      obtain ⟨k, hk1, hk2, hk3⟩ := pick_live (ρ := ρ) hj
      rw [hk3] at hN
      rcases hN with hN | ⟨k', h1, h2, h3⟩
      · exact hp.nf k hk2 hN
      · have := hp.inj k' k h1 hk2 h3
        subst this
        exact h2 (List.mem_of_getElem? hk1)
    own := fun j hj => .inl ⟨j, hj, rfl⟩
    size := Nat.le_refl _
    os := rfl
    tape := rfl
    output := rfl
    base := fun _ _ _ => rfl
    n0 := fun b hb => by
      rcases hb with hb | ⟨k, h1, _, rfl⟩
      · exact Nat.lt_of_lt_of_le (hp.n0 b hb) hp.size
      · exact hp.lt h1
    m0 := Nat.le_refl _
    hist := fun k g hk => ⟨hk, fun _ h => h⟩ }
  exact ⟨hcp, pickTr (ks := ks) hz⟩

/-- And come back. -/
theorem back {B : Base} {σ : List Slot} {ρ ρ' : Nat → Nat × Nat} {w w' : World} {ks : List Nat} {slot : Nat} {out : List Slot} (hp : Hp B σ ρ w)
    (hn : (ks ++ [slot]).Nodup) (hks : ∀ k ∈ ks, k < σ.length) (hfree : out.length ≤ ks.length ∨ σ[slot]? = some .free)
    (hlen : ks.length ≤ out.length) (hlen' : out.length ≤ ks.length + 1)
    (hp' : Hp (base0 w (hideN B σ ρ ks) (pick ks σ) (pickρ ks ρ)) out ρ' w') :
    Move B σ ρ w (setsF σ (callSets (ks ++ [slot]) out)) (callρ (ks ++ [slot]) out.length ρ ρ') w' ∧
    Hp B (setsF σ (callSets (ks ++ [slot]) out)) (callρ (ks ++ [slot]) out.length ρ ρ') w' ∧
    Tr (backOf (ks ++ [slot])) w' (Fz (base0 w (hideN B σ ρ ks) (pick ks σ) (pickρ ks ρ)) out ρ' w') (Tb out ρ') (used out) w'
      (Fz B (setsF σ (callSets (ks ++ [slot]) out)) (callρ (ks ++ [slot]) out.length ρ ρ') w') (Tb (setsF σ (callSets (ks ++ [slot]) out)) (callρ (ks ++ [slot]) out.length ρ ρ')) (used (setsF σ (callSets (ks ++ [slot]) out))) := by
  have hnks : ks.Nodup := (List.nodup_append.1 hn).1
  have hslot : slot ∉ ks := fun h => by
    have := (List.nodup_append.1 hn).2.2 slot h slot (by simp)
    exact this rfl
  have hσ : ∀ k, k = slot ∨ k ∈ ks → σ[k]? = σ[k]? := fun _ _ => rfl
  -- behind the call
  let kl := ks ++ [slot]
  let σ' := setsF σ (callSets kl out)
  let ρc := callρ kl out.length ρ ρ'
  have hσ' : ∀ k, σ'[k]? = (match (mOf kl k).bind (fun j => (out.map (renSlot (backOf kl)))[j]?) with | some s => if k < σ.length then some s else none | none => σ[k]?) := fun k => setsF_zip kl σ _ k hn
  have hlast : ∀ j : Nat, kl[j]? = some slot → j = ks.length := fun j hj => by
    have h2 : kl[ks.length]? = some slot := by simp [kl]
    exact (List.getElem?_inj (List.getElem?_eq_some_iff.1 hj).1 hn).1 (hj.trans h2.symm)
  -- a key that has been handed back
  have hin : ∀ (k j : Nat) (s : Slot), kl[j]? = some k → out[j]? = some s → σ'[k]? = some (renSlot (backOf kl) s) ∧ ρc k = ρ' j := by
    intro k j s hj hs
    have hm : mOf kl k = some j := mOf_get hn hj
    have hlt : j < out.length := (List.getElem?_eq_some_iff.1 hs).1
    refine ⟨?_, by show callρ kl out.length ρ ρ' k = ρ' j; unfold callρ; rw [hm]; exact if_pos hlt⟩
    rw [hσ' k, hm]
    simp only [Option.bind_some, List.getElem?_map, hs, Option.map_some]
    rw [if_pos]
    by_cases hks' : k ∈ ks
    · exact hks k hks'
    · have hk : k = slot := by
        have := List.mem_of_getElem? hj
        simp only [kl, List.mem_append, List.mem_singleton] at this
        exact this.resolve_left hks'
      subst hk
      have hjl := hlast j hj
      have hfree' : σ[k]? = some .free := hfree.resolve_left (by omega)
      exact (List.getElem?_eq_some_iff.1 hfree').1
  -- a key that has not
  have hout : ∀ k : Nat, (∀ j : Nat, kl[j]? = some k → out.length ≤ j) → σ'[k]? = σ[k]? ∧ ρc k = ρ k := by
    intro k hk
    rw [hσ' k]
    cases hm : mOf kl k with
    | none => exact ⟨by simp, by show callρ kl out.length ρ ρ' k = ρ k; unfold callρ; rw [hm]⟩
    | some j =>
      have := hk j (mOf_some hm)
      refine ⟨?_, by show callρ kl out.length ρ ρ' k = ρ k; unfold callρ; rw [hm]; exact if_neg (by omega)⟩
      simp [List.getElem?_eq_none (show out.length ≤ j by omega)]
  have hcases : ∀ k : Nat, (∃ (j : Nat) (s : Slot), kl[j]? = some k ∧ out[j]? = some s) ∨ (∀ j : Nat, kl[j]? = some k → out.length ≤ j) := by
    intro k
    cases hm : mOf kl k with
    | none =>
      refine .inr (fun j hj => ?_)
      rw [mOf_get hn hj] at hm; cases hm
    | some j =>
      by_cases hlt : j < out.length
      · exact .inl ⟨j, out[j], mOf_some hm, List.getElem?_eq_getElem hlt⟩
      · refine .inr (fun j' hj' => ?_)
        have := mOf_get hn hj'
        rw [hm] at this; cases this; omega
  have hnotks : ∀ k : Nat, (∀ j : Nat, kl[j]? = some k → out.length ≤ j) → k ∉ ks := by
    intro k hk hmem
    obtain ⟨j, hj, he⟩ := List.mem_iff_getElem.1 hmem
    have := hk j (by simp [kl, List.getElem?_append_left hj, List.getElem?_eq_getElem hj, he])
    omega
  have hgenren : ∀ {k j : Nat} {e : Ent}, kl[j]? = some k → (∃ s, out[j]? = some s) → σ'[k]? = some (.ent e) → ∃ e0, out[j]? = some (.ent e0) ∧ e = { e0 with cells := e0.cells.map (ren (backOf kl)) } := by
    intro k j e hj ⟨s, hs⟩ he
    rw [(hin k j s hj hs).1] at he
    cases s with
    | free => cases he
    | dead => cases he
    | ent e0 => simp only [renSlot, Option.some.injEq, Slot.ent.injEq] at he; exact ⟨e0, hs, he.symm⟩
  have hlive' : ∀ k : Nat, live σ' k → (∃ j : Nat, kl[j]? = some k ∧ live out j ∧ ρc k = ρ' j) ∨ ((∀ j : Nat, kl[j]? = some k → out.length ≤ j) ∧ live σ k ∧ ρc k = ρ k) := by
    rintro k ⟨e, he⟩
    rcases hcases k with ⟨j, s, hj, hs⟩ | hk
    · obtain ⟨e0, h1, _⟩ := hgenren hj ⟨s, hs⟩ he
      exact .inl ⟨j, hj, ⟨e0, h1⟩, (hin k j s hj hs).2⟩
    · exact .inr ⟨hk, ⟨e, by rw [← (hout k hk).1]; exact he⟩, (hout k hk).2⟩
  have hTb' : ∀ {k j g : Nat} {p : Nat × Nat}, kl[j]? = some k → (∃ s, out[j]? = some s) → Tb σ' ρc k g = some p → Tb out ρ' j g = some p := by
    intro k j g p hj ⟨s, hs⟩ h
    obtain ⟨e, he, hg, hpp⟩ := Tb.live h
    obtain ⟨e0, h1, h2⟩ := hgenren hj ⟨s, hs⟩ he
    have := Tb.of (ρ := ρ') h1
    have hge : e0.gen = e.gen := by rw [h2]
    rw [hge, hg] at this
    rw [this, ← (hin k j s hj hs).2, hpp]
  have hkey : ∀ k j : Nat, ks[j]? = some k → kl[j]? = some k ∧ ∃ s, out[j]? = some s := by
    intro k j hj
    have hlt := (List.getElem?_eq_some_iff.1 hj).1
    exact ⟨by simp [kl, List.getElem?_append_left hlt, hj], out[j], List.getElem?_eq_getElem (by omega)⟩
  have hmove : Move B σ ρ w σ' ρc w' := {
    size := hp'.size
    keep := fun b hb hnl => hp'.base b hb (fun ⟨j, hj, he⟩ => by
      obtain ⟨k, _, h2, h3⟩ := pick_live (ρ := ρ) hj
      exact hnl k h2 (by rw [← h3]; exact he))
    lives := fun k hk => by
      rcases hlive' k hk with ⟨j, hj, hl, hρ⟩ | ⟨_, hl, hρ⟩
      · rw [hρ]
        rcases hp'.own j hl with ⟨j', hj', he⟩ | h
        · obtain ⟨k', _, h2, h3⟩ := pick_live (ρ := ρ) hj'
          exact .inl ⟨k', h2, by rw [← he, h3]⟩
        · exact .inr h
      · exact .inl ⟨k, hl, by rw [hρ]⟩
    uses := fun k g hu => by
      rcases hcases k with ⟨j, s, hj, hs⟩ | hk
      · by_cases hks' : k ∈ ks
        · obtain ⟨j2, hlt2, he2⟩ := List.mem_iff_getElem.1 hks'
          have hj2 : ks[j2]? = some k := by rw [List.getElem?_eq_getElem hlt2, he2]
          have hjj : j = j2 := by
            have := mOf_get hn hj
            rw [mOf_get hn (hkey k j2 hj2).1] at this
            exact (Option.some.inj this).symm
          subst hjj
          obtain ⟨s', hs', hg⟩ := (hp'.hist j g (pick_used hj2 hu)).1
          rw [hs] at hs'; cases hs'
          exact ⟨_, (hin k j s hj hs).1, genOk_ren.2 hg⟩
        · have hk : k = slot := by
            have := List.mem_of_getElem? hj
            simp only [kl, List.mem_append, List.mem_singleton] at this
            exact this.resolve_left hks'
          subst hk
          exfalso
          have hjl := hlast j hj
          have hlt : j < out.length := (List.getElem?_eq_some_iff.1 hs).1
          have hfree' : σ[k]? = some .free := hfree.resolve_left (by omega)
          obtain ⟨s', hs', hg⟩ := hu
          rw [hσ k (.inl rfl), hfree'] at hs'
          cases hs'
          exact hg
      · obtain ⟨s', hs', hg⟩ := hu
        exact ⟨s', by rw [(hout k hk).1]; exact hs', hg⟩
    tabs := fun k g p hu h => by
      rcases hcases k with ⟨j, s, hj, hs⟩ | hk
      · have h1 := hTb' hj ⟨s, hs⟩ h
        by_cases hks' : k ∈ ks
        · obtain ⟨j2, hlt2, he2⟩ := List.mem_iff_getElem.1 hks'
          have hj2 : ks[j2]? = some k := by rw [List.getElem?_eq_getElem hlt2, he2]
          have hjj : j = j2 := by
            have := mOf_get hn hj
            rw [mOf_get hn (hkey k j2 hj2).1] at this
            exact (Option.some.inj this).symm
          subst hjj
          have h2 := (hp'.hist j g (pick_used hj2 hu)).2 p h1
          obtain ⟨k', hk', ht⟩ := pick_Tb h2
          rw [hj2] at hk'; cases hk'
          exact ht
        · have hk : k = slot := by
            have := List.mem_of_getElem? hj
            simp only [kl, List.mem_append, List.mem_singleton] at this
            exact this.resolve_left hks'
          subst hk
          exfalso
          have hjl := hlast j hj
          have hlt : j < out.length := (List.getElem?_eq_some_iff.1 hs).1
          have hfree' : σ[k]? = some .free := hfree.resolve_left (by omega)
          obtain ⟨s', hs', hg⟩ := hu
          rw [hσ k (.inl rfl), hfree'] at hs'
          cases hs'
          exact hg
      · obtain ⟨e, he, hg, hpp⟩ := Tb.live h
        rw [(hout k hk).1] at he
        rw [(hout k hk).2] at hpp
        have := Tb.of (ρ := ρ) he
        rw [hg, hpp] at this
        exact this }
  have hback : ∀ {j k : Nat}, backOf kl j = some k → kl[j]? = some k := fun h => h
  have hTr : Tr (backOf kl) w' (Fz (base0 w (hideN B σ ρ ks) (pick ks σ) (pickρ ks ρ)) out ρ' w') (Tb out ρ') (used out) w' (Fz B σ' ρc w') (Tb σ' ρc) (used σ') := {
    hz := fun b hb => ⟨hb.1, fun h => hb.2.1 (.inl h), fun k hk => by
      rcases hlive' k hk with ⟨j, hj, hl, hρ⟩ | ⟨hk', hl, hρ⟩
      · rw [hρ]; exact hb.2.2 j hl
      · rw [hρ]
        intro he
        exact hb.2.1 (.inr ⟨k, hl, hnotks k hk', he⟩)⟩
    hh := fun _ _ _ => rfl
    hU := fun j k g hm hu => by
      obtain ⟨s, hs, hg⟩ := hu
      exact ⟨_, (hin k j s (hback hm) hs).1, genOk_ren.2 hg⟩
    ht := fun j k g p hm hu h => by
      obtain ⟨s, hs, _⟩ := hu
      exact hTb' (hback hm) ⟨s, hs⟩ h }
  have hhp : Hp B σ' ρc w' := hmove.hp hp (hp'.os) (hp'.tape) (hp'.output)
    (fun k e he => by
      rcases hcases k with ⟨j, s, hj, hs⟩ | hk
      · obtain ⟨e0, h1, h2⟩ := hgenren hj ⟨s, hs⟩ he
        rw [h2, (hin k j s hj hs).2]
        exact hTr.entOk (hp'.ent j e0 h1) rfl
      · rw [(hout k hk).1] at he
        rw [(hout k hk).2]
        refine hmove.entOk (hp.ent k e he) (hp'.base _ (hp.lt ⟨e, he⟩) (fun ⟨j, hj, hjb⟩ => ?_))
        obtain ⟨k', hk1, hk2, hk3⟩ := pick_live (ρ := ρ) hj
        rw [hk3] at hjb
        have := hp.inj k' k hk2 ⟨e, he⟩ hjb
        subst this
        exact hnotks k' hk (List.mem_of_getElem? hk1))
    (fun k k' hk hk' he => by
      rcases hlive' k hk with ⟨j, hj, hl, hρ⟩ | ⟨hkn, hl, hρ⟩ <;> rcases hlive' k' hk' with ⟨j', hj', hl', hρ'⟩ | ⟨hkn', hl', hρ'⟩
      · rw [hρ, hρ'] at he
        have := hp'.inj j j' hl hl' he
        subst this
        rw [hj] at hj'
        exact Option.some.inj hj'
      · exfalso
        rw [hρ, hρ'] at he
        exact hp'.nf j hl (.inr ⟨k', hl', hnotks k' hkn', he.symm⟩)
      · exfalso
        rw [hρ, hρ'] at he
        exact hp'.nf j' hl' (.inr ⟨k, hl, hnotks k hkn, he⟩)
      · rw [hρ, hρ'] at he
        exact hp.inj k k' hl hl' he)
  exact ⟨hmove, hhp, hTr⟩

/-- A call of whatever target: of T it is known what it does at the arguments. -/
theorem call_gen {P : Program} {ro : Option Nat} {o : Oper} {T : (Nat → Nat × Nat) → Array Value → World → (Ending → World → Prop) → Prop} {dargs : List D} {ks : List Nat} {res : D} {out : List Slot} {opd : Operand → D} {σ : List Slot} {slot : Nat}
    (hn : (ks ++ [slot]).Nodup) (hks : ∀ k ∈ ks, k < σ.length) (hfree : out.length ≤ ks.length ∨ σ[slot]? = some .free)
    (hlen : ks.length ≤ out.length) (hlen' : out.length ≤ ks.length + 1)
    (hmono : ∀ ρ vs w R R', T ρ vs w R → (∀ e w', R e w' → R' e w') → T ρ vs w R')
    (hgo : ∀ (B : Base) (st : St) (ρ : Nat → Nat × Nat) (a : Act) (w : World), (∀ x ∈ o.op.operands, st.eval x = opd x) → (∀ k, k = slot ∨ k ∈ ks → st.σ[k]? = σ[k]?) → Hp B st.σ ρ w → FrOk B st ρ a.tmps w →
      ∃ vs : Array Value, vs.size = dargs.length ∧ (∀ (j : Nat) (d : D) (u : Value), dargs[j]? = some d → vs[j]? = some u → Rp B st.σ ρ w d u) ∧
        ∀ next Q, T (pickρ ks ρ) vs w (fun e w' => ∃ v, e = .returned v ∧ next (a.put o.dst v) w') → o.wpIn (FW ro) 0 P a w next Q)
    (hspec : ∀ (N0 : Nat → Prop) (ρ : Nat → Nat × Nat) (w : World) (vs : Array Value), Hp (base0 w N0 (pick ks σ) ρ) (pick ks σ) ρ w → vs.size = dargs.length →
      (∀ (j : Nat) (d : D) (u : Value), (dargs.map (ren (mOf ks)))[j]? = some d → vs[j]? = some u → Rp (base0 w N0 (pick ks σ) ρ) (pick ks σ) ρ w d u) →
      T ρ vs w (fun e w' => ∃ v ρ', e = .returned v ∧ Hp (base0 w N0 (pick ks σ) ρ) out ρ' w' ∧ Rp (base0 w N0 (pick ks σ) ρ) out ρ' w' res v)) :
    OpS P ro o opd σ ks slot ⟨ren (backOf (ks ++ [slot])) res, callSets (ks ++ [slot]) out⟩ := by
  intro B st a w hopd hσ hrel next Q hnext
  obtain ⟨ρ, hp, hfr, hmk⟩ := hrel
  have hnks : ks.Nodup := (List.nodup_append.1 hn).1
  have hpick : pick ks st.σ = pick ks σ := by
    unfold pick
    refine List.map_congr_left fun k hk => ?_
    rw [getS_eq, getS_eq, hσ k (.inr hk)]
  obtain ⟨vs, hvs, hrep, hwp⟩ := hgo B st ρ a w hopd hσ hp hfr
  obtain ⟨hcp, T'⟩ := hand hp hnks
  refine hwp next Q ?_
  rw [← hpick] at hspec
  refine hmono _ _ _ _ _ (hspec _ (pickρ ks ρ) w vs hcp hvs (fun j d u hd hu => ?_)) ?_
  · obtain ⟨d0, hd0, rfl⟩ := map_get hd
    exact T'.ren (hrep j d0 u hd0 hu)
  rintro e w' ⟨v, ρ', rfl, hp', hres⟩
  obtain ⟨hmove, hhp, hTr⟩ := back hp hn (fun k hk => by
    have h1 := hks k hk
    have h2 := hσ k (.inr hk)
    rw [List.getElem?_eq_getElem h1] at h2
    exact (List.getElem?_eq_some_iff.1 h2).1) (hfree.imp id (fun h => by rw [hσ slot (.inl rfl)]; exact h)) hlen hlen' hp'
  exact ⟨v, rfl, hnext _ _ ⟨_, hhp, FrOk.put (fr := st.fr) (hmove.frOk (fr := st.fr) hfr) o.dst (hTr.ren hres), (hmove.marks hp hmk).put o.dst v⟩⟩

/-- **A call.** ks: the keys handed over; the callee's new own block, if there is one, comes to lie at slot. -/
theorem call_sound {P : Program} {ro : Option Nat} {o : Oper} {c : Call} {fo : Operand} {f : Nat} {caps : List D} {ks : List Nat} {res : D} {out : List Slot} {opd : Operand → D} {σ : List Slot} {slot : Nat}
    (ho : o.op = .call c) (hcal : c.callee = .value fo) (hfo : opd fo = .fn f caps) (henter : ∀ args w, (callFunc f args).run P w = .ok (.enter f args) w)
    (hn : (ks ++ [slot]).Nodup) (hks : ∀ k ∈ ks, k < σ.length) (hfree : out.length ≤ ks.length ∨ σ[slot]? = some .free)
    (hlen : ks.length ≤ out.length) (hlen' : out.length ≤ ks.length + 1)
    (hspec : Spec P f ((c.args.toList.map opd ++ caps).map (ren (mOf ks))) (pick ks σ) res out) :
    OpS P ro o opd σ ks slot ⟨ren (backOf (ks ++ [slot])) res, callSets (ks ++ [slot]) out⟩ := by
  refine call_gen (T := fun _ vs w R => Calls P f vs w R) (dargs := c.args.toList.map opd ++ caps) hn hks hfree hlen hlen' (fun _ _ _ _ _ h hr => h.mono hr) (fun B st ρ a w hopd hσ hp hfr => ?_)
    (fun N0 ρ w vs h1 h2 h3 => hspec N0 ρ w vs h1 (by simpa using h2) h3)
  have hoperands : ∀ x, x ∈ o.op.operands ↔ x ∈ c.operands := by intro x; rw [ho]; rfl
  have hfoD : st.eval fo = .fn f caps := by rw [hopd fo ((hoperands fo).2 (by simp [Call.operands, hcal])), hfo]
  have hfoV := hfr.eval fo
  rw [hfoD] at hfoV
  obtain ⟨cs, hfv, hcl, hcr⟩ := hfoV.fn_inv
  refine ⟨c.args.map a.eval ++ cs, by simp [hcl], fun j d u hd0 hu => ?_, fun next Q hT => ?_⟩
  · by_cases hj : j < c.args.size
    · rw [List.getElem?_append_left (by simpa using hj)] at hd0
      obtain ⟨x, hx, rfl⟩ := map_get hd0
      rw [Array.getElem?_append, if_pos (by simpa using hj), Array.getElem?_map] at hu
      have hx' : c.args[j]? = some x := by simpa using hx
      rw [hx'] at hu
      simp only [Option.map_some, Option.some.injEq] at hu
      subst hu
      have hmem : x ∈ c.args := Array.mem_of_getElem? hx'
      rw [← hopd x ((hoperands x).2 (by simp [Call.operands, hcal, hmem]))]
      exact hfr.eval x
    · rw [List.getElem?_append_right (by simp; omega)] at hd0
      rw [Array.getElem?_append, if_neg (by simpa using hj)] at hu
      exact hcr _ _ _ (by simpa using hd0) (by simpa using hu)
  · refine ⟨fun _ _ => trivial, ?_⟩
    have hsem : o.semAt (FW ro).round a.eval = execOp a.eval o := Oper.semAt_eq _ _ _ (fun c' h => by rw [ho] at h; cases h)
    rw [hsem, run_call ho hcal hfv henter, Oper.uponIn_enter]
    refine ⟨fun h => by simp at h, ?_⟩
    refine CallsIn.mono (show CallsIn (FW ro) 0 P f _ w _ from callsIn_wide.2 hT) ?_
    rintro e w' ⟨v, rfl, h⟩
    exact h

/-- A call of a bound function. -/
theorem call_soundB {P : Program} {ro : Option Nat} {o : Oper} {c : Call} {fo : Operand} {f : Nat} {caps : List D} {ks : List Nat} {res : D} {out : List Slot} {opd : Operand → D} {σ : List Slot} {slot : Nat}
    (ho : o.op = .call c) (hcal : c.callee = .value fo) (hfo : opd fo = .bnd f caps) (henter : ∀ args w, (callFunc f args).run P w = .ok (.enter f args) w)
    (hn : (ks ++ [slot]).Nodup) (hks : ∀ k ∈ ks, k < σ.length) (hfree : out.length ≤ ks.length ∨ σ[slot]? = some .free)
    (hlen : ks.length ≤ out.length) (hlen' : out.length ≤ ks.length + 1)
    (hspec : Spec P f ((caps ++ c.args.toList.map opd).map (ren (mOf ks))) (pick ks σ) res out) :
    OpS P ro o opd σ ks slot ⟨ren (backOf (ks ++ [slot])) res, callSets (ks ++ [slot]) out⟩ := by
  refine call_gen (T := fun _ vs w R => Calls P f vs w R) (dargs := caps ++ c.args.toList.map opd) hn hks hfree hlen hlen' (fun _ _ _ _ _ h hr => h.mono hr) (fun B st ρ a w hopd hσ hp hfr => ?_)
    (fun N0 ρ w vs h1 h2 h3 => hspec N0 ρ w vs h1 (by simpa using h2) h3)
  have hoperands : ∀ x, x ∈ o.op.operands ↔ x ∈ c.operands := by intro x; rw [ho]; rfl
  have hfoD : st.eval fo = .bnd f caps := by rw [hopd fo ((hoperands fo).2 (by simp [Call.operands, hcal])), hfo]
  have hfoV := hfr.eval fo
  rw [hfoD] at hfoV
  obtain ⟨cs, hfv, hcl, hcr⟩ := hfoV.bnd_inv
  refine ⟨cs ++ c.args.map a.eval, by simp [hcl], fun j d u hd0 hu => ?_, fun next Q hT => ?_⟩
  · by_cases hj : j < caps.length
    · rw [List.getElem?_append_left hj] at hd0
      rw [Array.getElem?_append, if_pos (by omega)] at hu
      exact hcr _ _ _ hd0 hu
    · rw [List.getElem?_append_right (by omega)] at hd0
      obtain ⟨x, hx, rfl⟩ := map_get hd0
      rw [Array.getElem?_append, if_neg (by omega), ← hcl, Array.getElem?_map] at hu
      have hx' : c.args[j - caps.length]? = some x := by simpa using hx
      rw [hx'] at hu
      simp only [Option.map_some, Option.some.injEq] at hu
      subst hu
      have hmem : x ∈ c.args := Array.mem_of_getElem? hx'
      rw [← hopd x ((hoperands x).2 (by simp [Call.operands, hcal, hmem]))]
      exact hfr.eval x
  · refine ⟨fun _ _ => trivial, ?_⟩
    have hsem : o.semAt (FW ro).round a.eval = execOp a.eval o := Oper.semAt_eq _ _ _ (fun c' h => by rw [ho] at h; cases h)
    rw [hsem, run_callB ho hcal hfv henter, Oper.uponIn_enter]
    refine ⟨fun h => by simp at h, ?_⟩
    refine CallsIn.mono (show CallsIn (FW ro) 0 P f _ w _ from callsIn_wide.2 hT) ?_
    rintro e w' ⟨v, rfl, h⟩
    exact h

/-- A call at which nothing of the own store is handed over. -/
theorem call_plain {P : Program} {ro : Option Nat} {o : Oper} {c : Call} {fo : Operand} {f : Nat} {caps : List D} {res : D} {opd : Operand → D} {σ : List Slot} {slot : Nat}
    (ho : o.op = .call c) (hcal : c.callee = .value fo) (hfo : opd fo = .fn f caps) (henter : ∀ args w, (callFunc f args).run P w = .ok (.enter f args) w)
    (hspec : Spec P f ((c.args.toList.map opd ++ caps).map (ren (mOf []))) [] res []) : OpS P ro o opd σ [] slot ⟨ren (backOf [slot]) res, []⟩ :=
  call_sound (ks := []) (out := []) ho hcal hfo henter (by simp) (fun _ h => by cases h) (.inl (Nat.le_refl _)) (Nat.le_refl _) (by simp) hspec

theorem CallV.intro {P : Program} {ro : Option Nat} {o : Oper} {opd : Operand → D} {σ : List Slot} {slot : Nat} {k : List Nat → Out → Prop} {rd : List Nat} {out : Out} (h : OpS P ro o opd σ rd slot out) (hs : ∀ p ∈ out.sets, p.1 = slot ∨ p.1 ∈ rd) (hk : k rd out) : CallV P ro o opd σ slot k :=
  ⟨rd, out, h, hs, hk⟩
end Go.Proofs.Ytabliglgeiajlaa.AM
