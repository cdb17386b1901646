/- The abstract machine: a region in whatever order its edges allow: it comes to the same. -/
import Derived.Test.YtabliglgeiajlaaAm4
set_option linter.unusedSimpArgs false
set_option linter.unusedVariables false
namespace Go.Proofs.Ytabliglgeiajlaa.AM
open Go Go.RowKit

theorem getD_set_self (ls : Array Bool) (i : Nat) (h : i < ls.size) : (ls.setIfInBounds i true).getD i false = true := by
  simp [Array.getD_eq_getD_getElem?, h]
theorem getD_set_other (ls : Array Bool) (i j : Nat) (h : i ≠ j) : (ls.setIfInBounds i true).getD j false = ls.getD j false := by
  simp [Array.getD_eq_getD_getElem?, h]

/-- How many are not listed. -/
def left (ls : Array Bool) : Nat := ls.toList.count false
theorem left_set (ls : Array Bool) (i : Nat) (h : i < ls.size) (hf : ls.getD i false = false) : left (ls.setIfInBounds i true) + 1 = left ls := by
  unfold left
  have hi : i < ls.toList.length := by simpa using h
  have hv : ls.toList[i] = false := by
    simpa [Array.getD_eq_getD_getElem?, h] using hf
  rw [Array.toList_setIfInBounds, List.count_set hi, hv]
  have : 0 < ls.toList.count false := List.count_pos_iff.2 (hv ▸ List.getElem_mem hi)
  have e1 : (false == false) = true := rfl
  have e2 : (true == false) = false := rfl
  rw [e1, e2, if_pos rfl, if_neg (by simp)]
  omega
theorem left_zero (ls : Array Bool) (h : left ls = 0) (i : Nat) (hi : i < ls.size) : ls.getD i false = true := by
  unfold left at h
  rw [List.count_eq_zero] at h
  cases hb : ls.getD i false with
  | true => rfl
  | false =>
    exfalso
    apply h
    have : ls.toList[i]'(by simpa using hi) = false := by simpa [Array.getD_eq_getD_getElem?, hi] using hb
    rw [← this]
    exact List.getElem_mem _

section
variable {P : Program} {ro : Option Nat} {ops : List Oper} {sl : Nat → Nat} {B : Base} {Q : Exit → Act → World → Prop} {st0 : St} {rs : List Rec}

theorem any_sound (hv : Valid P ro ops.toArray sl ops 0 st0 rs) (hc : chk ops sl rs = true)
    (hQ : ∀ a' w', Rel B (fin (fun _ => true) ops rs 0 st0) a' w' → Q .normal a' w') :
    ∀ (fuel : Nat) (ls : Array Bool) (a : Act) (w : World), ls.size = ops.length → Closed ops (fun i => ls.getD i false) → left ls = fuel →
      Rel B (fin (fun i => ls.getD i false) ops rs 0 st0) a w → wpAnyIn (FW ro) 0 P .any ops.toArray Q fuel ls a w := by
  obtain ⟨hlen, hat⟩ := hv.at_
  have hca := chkAll_spec ops rs 0 hc hlen
  simp only [Nat.zero_add] at hca hat
  have hdone : ∀ (ls : Array Bool) (a : Act) (w : World), ls.size = ops.length → left ls = 0 → Rel B (fin (fun i => ls.getD i false) ops rs 0 st0) a w → Q .normal a w := by
    intro ls a w hsz hl hr
    refine hQ a w ?_
    rw [fin_congr (L := fun _ => true) (L' := fun i => ls.getD i false) ops rs 0 st0 (fun j _ hj => (left_zero ls hl j (by omega)).symm)]
    exact hr
  have hready0 : ∀ (ls : Array Bool), ls.size = ops.length → left ls = 0 → Region.ready .any ops.toArray ls = [] := by
    intro ls hsz hl
    rw [List.eq_nil_iff_forall_not_mem]
    intro i hi
    obtain ⟨h1, o, ho, _⟩ := mem_ready.1 hi
    have hlt : i < ops.length := by simpa using (Array.getElem?_eq_some_iff.1 ho).1
    have := left_zero ls hl i (by omega)
    simp only [Array.getD_eq_getD_getElem?] at h1 this
    rw [Array.getElem?_eq_getElem (by omega : i < ls.size)] at h1 this
    simp at h1 this
    rw [h1] at this; cases this
  intro fuel
  induction fuel with
  | zero => exact fun ls a w hsz _ hl hr => ⟨hready0 ls hsz hl, hdone ls a w hsz hl hr⟩
  | succ fuel ih =>
    intro ls a w hsz hcl hl hr
    refine ⟨fun hnil => ?_, fun i hi => ?_⟩
    · -- nothing is ready: then all is listed
      exfalso
      have key : ∀ i, i < ops.length → ls.getD i false = true := by
        intro i
        induction i using Nat.strongRecOn with
        | _ i ihi =>
          intro hlt
          cases hb : ls.getD i false with
          | true => rfl
          | false =>
            exfalso
            have ho : ops[i]? = some ops[i] := List.getElem?_eq_getElem hlt
            obtain ⟨r, hr', _⟩ := hat i _ ho
            have hed := (hca i _ r ho hr').1
            have : i ∈ Region.ready .any ops.toArray ls := mem_ready.2 ⟨by
              simp only [Array.getD_eq_getD_getElem?] at hb ⊢
              rw [Array.getElem?_eq_getElem (by omega : i < ls.size)] at hb ⊢
              simpa using hb, ops[i], by simp, fun e he hbi => ihi e.on (hed e (by simpa using he) hbi) (by have := hed e (by simpa using he) hbi; omega)⟩
            rw [hnil] at this
            cases this
      have : left ls = 0 := by
        unfold left
        rw [List.count_eq_zero]
        intro hm
        obtain ⟨i, hi, he⟩ := List.mem_iff_getElem.1 hm
        have hi' : i < ls.size := by simpa using hi
        have := key i (by omega)
        simp only [Array.getD_eq_getD_getElem?, Array.getElem?_eq_getElem hi'] at this
        simp at he this
        rw [he] at this; cases this
      omega
    · obtain ⟨hnl, o, ho, hed⟩ := mem_ready.1 hi
      have ho' : ops[i]? = some o := by simpa using ho
      have hlt : i < ops.length := (List.getElem?_eq_some_iff.1 ho').1
      have hnot : ls.getD i false = false := by
        simp only [Array.getD_eq_getD_getElem?] at hnl ⊢
        rw [Array.getElem?_eq_getElem (by omega : i < ls.size)] at hnl ⊢
        simpa using hnl
      obtain ⟨r, hr', hst, hnext⟩ := hat i o ho'
      have hrow := chkRow_spec ops rs 0 (hca i o r ho' hr').2
      simp only [Nat.zero_add] at hrow
      have hbef := befs_spec (L := fun i => ls.getD i false) ops hcl ops [] [] rfl rfl (fun i hi => absurd hi (Nat.not_lt_zero _))
      -- who writes what this one uses is listed just if it stands ahead
      have hwr : ∀ j oj rj, ops[j]? = some oj → rs[j]? = some rj → conflict ops.toArray sl i o r oj rj = true → j ≠ i → ls.getD j false = decide (j < i) := by
        intro j oj rj hoj hrj hcf hne
        have := hrow j oj rj hoj hrj (fun e => hne e.symm) hcf
        by_cases hji : j < i
        · rw [if_pos hji] at this
          have := hbef i hlt j (.inr ⟨o, ho', fun e he hb => hed e (by simpa using he) hb⟩) this
          simp [hji, this]
        · rw [if_neg hji] at this
          cases hlj : ls.getD j false with
          | false => simp [hji]
          | true =>
            have h2 := hbef j (List.getElem?_eq_some_iff.1 hoj).1 i (.inl hlj) this
            rw [hnot] at h2; cases h2
      have hfr : ∀ t, t ∈ uT ops.toArray o → (fin (fun i => ls.getD i false) ops rs 0 st0).fr[t]? = (fin (fun j => decide (j < i)) ops rs 0 st0).fr[t]? := by
        intro t ht
        refine fin_fr ops rs 0 st0 st0 rfl (fun j oj rj hoj hrj hd => ?_)
        simp only [Nat.zero_add]
        by_cases hne : j = i
        · subst hne; rw [hnot]; simp
        · exact hwr j oj rj hoj hrj (by simp only [conflict, Bool.or_eq_true]; exact .inl (meets_of (x := t) (by simp [hd]) ht)) hne
      have hσ : ∀ k, k ∈ (sl i) :: r.rd → (fin (fun i => ls.getD i false) ops rs 0 st0).σ[k]? = (fin (fun j => decide (j < i)) ops rs 0 st0).σ[k]? := by
        intro k hk
        refine fin_σ ops rs 0 st0 st0 rfl (fun j oj rj hoj hrj hd => ?_)
        simp only [Nat.zero_add]
        by_cases hne : j = i
        · subst hne; rw [hnot]; simp
        · obtain ⟨p, hp, rfl⟩ := hd
          exact hwr j oj rj hoj hrj (by simp only [conflict, Bool.or_eq_true]; exact .inr (meets_of (x := p.1) (List.mem_map.2 ⟨p, hp, rfl⟩) hk)) hne
      -- the state with this one, too
      have hst' : fin (fun j => (ls.setIfInBounds i true).getD j false) ops rs 0 st0 = r.out.app o.dst (fin (fun i => ls.getD i false) ops rs 0 st0) := by
        refine St.ext' (List.ext_getElem? fun t => ?_) (List.ext_getElem? fun k => ?_)
        · by_cases hd : o.dst = some t
          · have e1 : (fin (fun j => (ls.setIfInBounds i true).getD j false) ops rs 0 st0).fr[t]? = (fin (fun j => decide (j < i + 1)) ops rs 0 st0).fr[t]? := by
              refine fin_fr ops rs 0 st0 st0 rfl (fun j oj rj hoj hrj hdj => ?_)
              simp only [Nat.zero_add]
              by_cases hne : j = i
              · subst hne; rw [getD_set_self _ _ (by omega)]; simp
              · rw [getD_set_other _ _ _ (fun e => hne e.symm), hwr j oj rj hoj hrj (by simp only [conflict, Bool.or_eq_true]; exact .inl (meets_of (x := t) (by simp [hdj]) (by simp [uT, hd]))) hne]
                have : (j < i) ↔ (j < i + 1) := by omega
                simp [this]
            rw [e1, hnext]
            exact (putF_congr (hfr t (by simp [uT, hd])) _ _).symm
          · have e1 : (fin (fun j => (ls.setIfInBounds i true).getD j false) ops rs 0 st0).fr[t]? = (fin (fun i => ls.getD i false) ops rs 0 st0).fr[t]? := by
              refine fin_fr ops rs 0 st0 st0 rfl (fun j oj rj hoj hrj hdj => ?_)
              simp only [Nat.zero_add]
              have hne : j ≠ i := by
                rintro rfl
                rw [ho'] at hoj; cases hoj
                exact hd hdj
              rw [getD_set_other _ _ _ (fun e => hne e.symm)]
            rw [e1]
            exact (putF_ne hd _).symm
        · by_cases hd : ∃ p ∈ r.out.sets, p.1 = k
          · have hk : k ∈ (sl i) :: r.rd := by
              obtain ⟨p, hp, rfl⟩ := hd
              rcases hst.sets p hp with h | h
              · rw [h]; exact List.mem_cons_self
              · exact List.mem_cons_of_mem _ h
            have e1 : (fin (fun j => (ls.setIfInBounds i true).getD j false) ops rs 0 st0).σ[k]? = (fin (fun j => decide (j < i + 1)) ops rs 0 st0).σ[k]? := by
              refine fin_σ ops rs 0 st0 st0 rfl (fun j oj rj hoj hrj hdj => ?_)
              simp only [Nat.zero_add]
              by_cases hne : j = i
              · subst hne; rw [getD_set_self _ _ (by omega)]; simp
              · obtain ⟨p, hp, hpk⟩ := hdj
                rw [getD_set_other _ _ _ (fun e => hne e.symm), hwr j oj rj hoj hrj (by simp only [conflict, Bool.or_eq_true]; exact .inr (meets_of (x := k) (List.mem_map.2 ⟨p, hp, hpk⟩) hk)) hne]
                have : (j < i) ↔ (j < i + 1) := by omega
                simp [this]
            rw [e1, hnext]
            exact (setsF_congr _ (hσ k hk)).symm
          · have e1 : (fin (fun j => (ls.setIfInBounds i true).getD j false) ops rs 0 st0).σ[k]? = (fin (fun i => ls.getD i false) ops rs 0 st0).σ[k]? := by
              refine fin_σ ops rs 0 st0 st0 rfl (fun j oj rj hoj hrj hdj => ?_)
              simp only [Nat.zero_add]
              have hne : j ≠ i := by
                rintro rfl
                rw [hr'] at hrj; cases hrj
                exact hd hdj
              rw [getD_set_other _ _ _ (fun e => hne e.symm)]
            rw [e1]
            exact (setsF_ne _ (fun p hp e => hd ⟨p, hp, e⟩)).symm
      have hcl' : Closed ops (fun j => (ls.setIfInBounds i true).getD j false) := by
        intro j oj hoj hLj e he hb
        by_cases hne : j = i
        · subst hne
          rw [ho'] at hoj; cases hoj
          have := hed e (by simpa using he) hb
          by_cases h2 : j = e.on
          · show (ls.setIfInBounds j true).getD e.on false = true
            rw [← h2]; exact getD_set_self _ _ (by omega)
          · show (ls.setIfInBounds j true).getD e.on false = true
            rw [getD_set_other _ _ _ h2]; exact this
        · have h1 : ls.getD j false = true := by rw [← getD_set_other ls i j (fun e => hne e.symm)]; exact hLj
          have h3 := hcl j oj hoj h1 e he hb
          show (ls.setIfInBounds i true).getD e.on false = true
          by_cases h2 : i = e.on
          · rw [← h2]; exact getD_set_self _ _ (by omega)
          · rw [getD_set_other _ _ _ h2]; exact h3
      have hgo : ∀ a' w', Rel B (r.out.app o.dst (fin (fun i => ls.getD i false) ops rs 0 st0)) a' w' → wpAnyIn (FW ro) 0 P .any ops.toArray Q fuel (ls.setIfInBounds i true) a' w' := by
        intro a' w' hr2
        refine ih _ a' w' (by simpa using hsz) hcl' (by have := left_set ls i (by omega) hnot; omega) ?_
        rw [hst']; exact hr2
      -- the operation itself
      have heval : ∀ x ∈ o.op.operands, (fin (fun i => ls.getD i false) ops rs 0 st0).eval x = (fin (fun j => decide (j < i)) ops rs 0 st0).eval x := by
        intro x hx
        cases x with
        | tmp t =>
          simp only [St.eval, getF_eq]
          rw [hfr t (by
            simp only [uT, List.mem_append]
            exact .inl (.inl (List.mem_filterMap.2 ⟨.tmp t, by simpa using hx, rfl⟩)))]
        | const v => rfl
        | global g => rfl
        | func f => rfl
      have hguard : guardB ops.toArray o (fin (fun i => ls.getD i false) ops rs 0 st0) = some r.run := by
        rw [← hst.guard]
        unfold guardB
        cases hg : o.guard with
        | none => rfl
        | some p =>
          obtain ⟨j, want⟩ := p
          simp only
          cases ht : (ops.toArray[j]?).bind (·.dst) with
          | none => rfl
          | some t =>
            simp only [getF_eq]
            rw [hfr t (by
              simp only [uT, List.mem_append]
              refine .inl (.inr ?_)
              simp only [guardT, hg, ht]
              simp)]
      unfold wpOpIn
      rw [ho]
      simp only
      rw [guardB_wanted hguard hr]
      cases hrun : r.run with
      | true =>
        rw [if_pos rfl]
        exact hst.op hrun B _ a w heval (fun k hk => hσ k (by rcases hk with rfl | h; exact List.mem_cons_self; exact List.mem_cons_of_mem _ h)) hr _ _ hgo
      | false =>
        rw [if_neg (by simp)]
        refine ⟨fun _ _ => trivial, hgo _ _ ?_⟩
        rw [hst.skip hrun]
        exact hr.putUndef o.dst
end
end Go.Proofs.Ytabliglgeiajlaa.AM
