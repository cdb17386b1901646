/- The abstract machine: a function out of its body; a call. -/
import Derived.Test.YtabliglgeiajlaaAm8
set_option linter.unusedSimpArgs false
set_option linter.unusedVariables false
namespace Go.Proofs.Ytabliglgeiajlaa.AM
open Go Go.RowKit

def resSem (tmps : Array Value) : ResultVar → Sem Value
  | .tmp t => pure (tmps.getD t undef)
  | .cell x t => do loadVar t (← asAddr (tmps.getD x undef))
theorem results_eq (fn : Func) (tmps : Array Value) : results fn tmps = (do let vs ← fn.results.mapM (resSem tmps); pure (if h : vs.size = 1 then vs[0] else .tuple vs)) := by
  unfold results
  congr 1
theorem resOne_sound' {P : Program} {B : Base} {st : St} {ρ : Nat → Nat × Nat} {a : Act} {w : World} (hp : Hp B st.σ ρ w) (hf : FrOk B st ρ a.tmps w) {r : ResultVar} {c : Prop} {d : D} {rd : List Nat}
    (h : resOne P st r = some (c, d, rd)) (hc : c) : ∃ v, Rp B st.σ ρ w d v ∧ (resSem a.tmps r).run P w = .ok v w := by
  obtain ⟨v, h1, h2⟩ := resOne_sound hp hf h hc
  refine ⟨v, h1, ?_⟩
  cases r <;> exact h2
theorem resAll_sound {P : Program} {B : Base} {st : St} {ρ : Nat → Nat × Nat} {a : Act} {w : World} (hp : Hp B st.σ ρ w) (hf : FrOk B st ρ a.tmps w) (rs : List ResultVar) : ∀ {c : Prop} {ds : List D},
    resAll P st rs = some (c, ds) → c → ∃ vs : List Value, (rs.mapM (resSem a.tmps)).run P w = .ok vs w ∧
      vs.length = ds.length ∧ ∀ (j : Nat) (d : D) (u : Value), ds[j]? = some d → vs[j]? = some u → Rp B st.σ ρ w d u := by
  induction rs with
  | nil =>
    intro c ds h hc
    simp only [resAll, Option.some.injEq, Prod.mk.injEq] at h
    obtain ⟨rfl, rfl⟩ := h
    exact ⟨[], rfl, rfl, fun j d u hd => by simp at hd⟩
  | cons r rs ih =>
    intro c ds h hc
    simp only [resAll] at h
    cases h1 : resOne P st r with
    | none => rw [h1] at h; cases h
    | some x =>
      obtain ⟨c1, d1, rd⟩ := x
      rw [h1] at h
      simp only at h
      cases h2 : resAll P st rs with
      | none => rw [h2] at h; cases h
      | some y =>
        obtain ⟨c2, ds2⟩ := y
        rw [h2] at h
        simp only [Option.some.injEq, Prod.mk.injEq] at h
        obtain ⟨rfl, rfl⟩ := h
        obtain ⟨v, hv, hr⟩ := resOne_sound' hp hf h1 hc.1
        obtain ⟨vs, hvs, hl, hall⟩ := ih h2 hc.2
        refine ⟨v :: vs, ?_, by simp [hl], fun j d u hd hu => ?_⟩
        · rw [List.mapM_cons, Sem.run_bind, hr]
          simp only [Result.andThen]
          rw [Sem.run_bind, hvs]
          rfl
        · cases j with
          | zero => simp at hd hu; subst hd hu; exact hv
          | succ j => exact hall j d u (by simpa using hd) (by simpa using hu)

theorem resD_sound {P : Program} {fn : Func} {B : Base} {st : St} {ρ : Nat → Nat × Nat} {a : Act} {w : World} (hp : Hp B st.σ ρ w) (hf : FrOk B st ρ a.tmps w) {c : Prop} {d : D}
    (h : resD P fn st = some (c, d)) (hc : c) : ∃ v, (results fn a.tmps).run P w = .ok v w ∧ Rp B st.σ ρ w d v := by
  unfold resD at h
  cases h1 : resAll P st fn.results.toList with
  | none => rw [h1] at h; cases h
  | some x =>
    obtain ⟨c1, ds⟩ := x
    rw [h1] at h
    simp only at h
    have hc1 : c1 := by
      split at h <;> (simp only [Option.some.injEq, Prod.mk.injEq] at h; rw [h.1]; exact hc)
    obtain ⟨vs, hrun, hl, hall⟩ := resAll_sound hp hf _ h1 hc1
    have hr : (results fn a.tmps).run P w = .ok (if h : vs.toArray.size = 1 then vs.toArray[0] else .tuple vs.toArray) w := by
      rw [results_eq, Array.mapM_eq_mapM_toList, Sem.run_bind, Sem.run_map, hrun]
      rfl
    refine ⟨_, hr, ?_⟩
    split at h
    · rename_i d0
      simp only [Option.some.injEq, Prod.mk.injEq] at h
      obtain ⟨_, rfl⟩ := h
      have hl1 : vs.toArray.size = 1 := by simpa using hl
      rw [dif_pos hl1]
      refine hall 0 _ _ rfl ?_
      simp [List.getElem?_eq_getElem (show 0 < vs.length by simp at hl1; omega)]
    · rename_i hne
      simp only [Option.some.injEq, Prod.mk.injEq] at h
      obtain ⟨_, rfl⟩ := h
      rw [dif_neg (by
        intro h1
        have : ds.length = 1 := by simp at h1; omega
        match ds, this with
        | [d], _ => exact hne d rfl)]
      exact .tup _ _ (by simp [hl]) (fun j d u hd hu => hall j d u hd (by simpa using hu))

/-- How a body must end. -/
def retK (P : Program) (fn : Func) (n : Nat) (res : D) (out : List Slot) (e : Exit) (st : St) : Prop :=
  (e = .normal ∨ e = .ret) ∧ ∃ (ks : List Nat) (c : Prop) (d : D), resD P fn st = some (c, d) ∧ c ∧ ks.Nodup ∧ (∀ k, k < n → ks[k]? = some k) ∧ pick ks st.σ = out ∧ leD (ren (mOf ks) d) res

theorem Hp.pickEnd {B : Base} {σ : List Slot} {ρ : Nat → Nat × Nat} {w : World} (hp : Hp B σ ρ w) {ks : List Nat} (hn : ks.Nodup) (hid : ∀ k, k < B.σ0.length → ks[k]? = some k) : Hp B (pick ks σ) (pickρ ks ρ) w where
  ent := fun j e he => pick_entOk hp (fun b hb => ⟨hb.1, hb.2.1, fun j hj => by obtain ⟨k, _, h2, h3⟩ := pick_live (ρ := ρ) hj; rw [h3]; exact hb.2.2 k h2⟩) j e he
  inj := fun j j' h h' he => pick_inj hp hn j j' h h' he
  nf := fun j hj => by obtain ⟨k, _, h2, h3⟩ := pick_live (ρ := ρ) hj; rw [h3]; exact hp.nf k h2
  own := fun j hj => by obtain ⟨k, _, h2, h3⟩ := pick_live (ρ := ρ) hj; rw [h3]; exact hp.own k h2
  size := hp.size
  os := hp.os
  tape := hp.tape
  output := hp.output
  base := hp.base
  n0 := hp.n0
  m0 := hp.m0
  hist := fun k g hk => by
    have hlt : k < B.σ0.length := by obtain ⟨s, hs, _⟩ := hk; exact (List.getElem?_eq_some_iff.1 hs).1
    obtain ⟨h1, h2⟩ := hp.hist k g hk
    refine ⟨pick_used (hid k hlt) h1, fun p hp' => ?_⟩
    obtain ⟨k', hk', ht⟩ := pick_Tb hp'
    rw [hid k hlt] at hk'
    cases hk'
    exact h2 p ht

/-- **A function out of its body.** -/
theorem spec_of_AWP {P : Program} {f : Nat} {fn : Func} {c : Code} {args : List D} {ext : List Slot} {res : D} {out : List Slot} (hf : P.funcs[f]? = some fn) (hb : fn.body = some c)
    (h : AWP P none c ⟨args ++ List.replicate (fn.ntmps - args.length) (.v undef), ext⟩ (retK P fn ext.length res out)) : Spec P f args ext res out := by
  intro N0 ρ w vs hp hsz hargs
  have hci : CallsIn (FW none) 0 P f vs w (fun e w' => ∃ v ρ', e = .returned v ∧ Hp (base0 w N0 ext ρ) out ρ' w' ∧ Rp (base0 w N0 ext ρ) out ρ' w' res v) := by
    refine callsIn_of_wp_marks hf hb trivial ?_ rfl
    refine h (base0 w N0 ext ρ) _ w ⟨ρ, hp, ⟨by simp [hsz], fun t d hd => ?_⟩, [], rfl, List.nodup_nil, fun D hD => by cases hD⟩ _ (fun e st' a' w' hK hr => ?_)
    · by_cases hlt : t < args.length
      · rw [List.getElem?_append_left hlt] at hd
        have hlt' : t < vs.size := by omega
        exact ⟨vs[t], by simp [Array.getElem?_append, hlt'], hargs t d _ hd (by simp [hlt'])⟩
      · rw [List.getElem?_append_right (by omega)] at hd
        have hlt2 : t - args.length < fn.ntmps - args.length := by have := (List.getElem?_eq_some_iff.1 hd).1; simpa using this
        rw [List.getElem?_replicate, if_pos hlt2] at hd
        cases hd
        refine ⟨undef, ?_, .fro _ _ (.v _)⟩
        rw [Array.getElem?_append, if_neg (by omega), Array.getElem?_replicate, if_pos (by rw [hsz]; omega)]
    · obtain ⟨he, ks, cnd, d, hres, hcnd, hn, hid, hpick, hren⟩ := hK
      obtain ⟨ρ', hp', hf', Ds, hd', hnd, hDs⟩ := hr
      have hgo : LeavesInM (FW none) 0 P fn a'.tmps (fun e w' => ∃ v ρ', e = .returned v ∧ Hp (base0 w N0 ext ρ) out ρ' w' ∧ Rp (base0 w N0 ext ρ) out ρ' w' res v) a'.defers .returning w' := by
        rw [hd']
        refine takeMarks (B := base0 w N0 ext ρ) Ds w' hnd hDs (fun w2 e1 e2 e3 e4 e5 => ?_)
        obtain ⟨hp2, hr2⟩ := hp'.marksGone e1 e2 e3 e4 e5
        obtain ⟨v, hrun, hv⟩ := resD_sound hp2 (a := a') ⟨hf'.1, fun t d hd => let ⟨u, x, y⟩ := hf'.2 t d hd; ⟨u, x, hr2 y⟩⟩ hres hcnd
        refine ⟨v, hrun, v, pickρ ks ρ', rfl, ?_, ?_⟩
        · rw [← hpick]; exact hp2.pickEnd hn hid
        · rw [← hpick]
          refine hren.rep ?_
          exact (pickTr (fun b hb => ⟨hb.1, hb.2.1, fun j hj => by obtain ⟨k, _, h2, h3⟩ := pick_live (ρ := ρ') hj; rw [h3]; exact hb.2.2 k h2⟩)).ren hv
      rcases he with rfl | rfl
      · exact hgo
      · exact hgo
  exact callsIn_wide.1 hci

/-! #### A call -/
theorem setsF_nil (σ : List Slot) : setsF σ [] = σ := rfl
theorem setsF_zip (ks : List Nat) : ∀ (σ : List Slot) (os : List Slot) (k : Nat), ks.Nodup →
    (setsF σ (ks.zip os))[k]? = (match (mOf ks k).bind (fun j => os[j]?) with | some s => if k < σ.length then some s else none | none => σ[k]?) := by
  have gen : ∀ (ks : List Nat) (σ os : List Slot) (k i : Nat) (os0 : List Slot), ks.Nodup → os = os0.drop i →
      (setsF σ (ks.zip os))[k]? = (match (idx ks k i).bind (fun j => os0[j]?) with | some s => if k < σ.length then some s else none | none => σ[k]?) := by
    intro ks
    induction ks with
    | nil => intro σ os k i os0 _ _; simp [setsF, idx]
    | cons x l ih =>
      intro σ os k i os0 hn ho
      have hn' := List.nodup_cons.1 hn
      cases os with
      | nil =>
        simp only [List.zip_nil_right, setsF]
        have hle : os0.length ≤ i := by
          have := congrArg List.length ho
          simp at this; omega
        cases hx : idx (x :: l) k i with
        | none => rfl
        | some j =>
          have := (idx_some hx).1
          simp [List.getElem?_eq_none (show os0.length ≤ j by omega)]
      | cons s os =>
        have hs : os0[i]? = some s := by
          have := congrArg (fun l => l[0]?) ho
          simpa [List.getElem?_drop] using this.symm
        have ho' : os = os0.drop (i + 1) := by
          have := congrArg (List.drop 1) ho
          simpa [List.drop_drop, Nat.add_comm] using this
        simp only [List.zip_cons_cons, setsF]
        rw [ih (σ.set x s) os k (i + 1) os0 hn'.2 ho']
        simp only [idx]
        by_cases hxk : x = k
        · subst hxk
          have hnone : idx l x (i + 1) = none := by
            cases hx : idx l x (i + 1) with
            | none => rfl
            | some j =>
              exfalso
              exact hn'.1 (List.mem_of_getElem? (idx_some hx).2)
          simp only [hnone, Option.bind_none, Nat.beq_refl, Option.bind_some, hs, List.getElem?_set, if_true]
        · have hb : Nat.beq x k = false := by
            cases hb : Nat.beq x k with
            | false => rfl
            | true => exact absurd (Nat.eq_of_beq_eq_true hb) hxk
          simp only [hb, List.length_set, List.getElem?_set, if_neg hxk]
  intro σ os k hn
  exact gen ks σ os k 0 os hn (by simp)
end Go.Proofs.Ytabliglgeiajlaa.AM
