/- The abstract machine: regions, in the text's order and in any order that their edges allow. -/
import Derived.Test.YtabliglgeiajlaaAm2
set_option linter.unusedSimpArgs false
set_option linter.unusedVariables false
namespace Go.Proofs.Ytabliglgeiajlaa.AM
open Go Go.RowKit

def getF : List D → Nat → D
  | [], _ => .any
  | d :: _, 0 => d
  | _ :: l, n + 1 => getF l n
def getS : List Slot → Nat → Slot
  | [], _ => .dead
  | s :: _, 0 => s
  | _ :: l, n + 1 => getS l n
/-- An own block of cells. -/
def getC (l : List Slot) (t : Nat) : Slot :=
  match getS l t with
  | .ent e => match e.kd with
    | .cells => .ent e
    | _ => .dead
  | _ => .dead
theorem getF_eq (l : List D) (t : Nat) : getF l t = (l[t]?).getD .any := by
  induction l generalizing t with
  | nil => simp [getF]
  | cons d l ih => cases t <;> simp [getF, ih]
theorem getS_eq (l : List Slot) (t : Nat) : getS l t = (l[t]?).getD .dead := by
  induction l generalizing t with
  | nil => simp [getS]
  | cons d l ih => cases t <;> simp [getS, ih]
theorem getS_free {l : List Slot} {t : Nat} (h : getS l t = .free) : l[t]? = some .free := by
  rw [getS_eq] at h
  cases hx : l[t]? with
  | none => rw [hx] at h; cases h
  | some s => rw [hx] at h; simpa using h
theorem getS_ent {l : List Slot} {t : Nat} {e : Ent} (h : getS l t = .ent e) : l[t]? = some (.ent e) := by
  rw [getS_eq] at h
  cases hx : l[t]? with
  | none => rw [hx] at h; cases h
  | some s => rw [hx] at h; simpa using h

theorem getC_ent {l : List Slot} {t : Nat} {e : Ent} (h : getC l t = .ent e) : getS l t = .ent e ∧ e.kd = .cells := by
  unfold getC at h
  split at h
  · rename_i e' he
    split at h
    · rename_i hk; cases h; exact ⟨he, hk⟩
    · cases h
  · cases h
theorem getC_congr {l l' : List Slot} {t : Nat} (h : getS l t = getS l' t) : getC l t = getC l' t := by unfold getC; rw [h]

def St.eval (st : St) : Operand → D
  | .tmp t => getF st.fr t
  | .const v => .v v
  | .global _ => .any
  | .func f => .fn f []

theorem FrOk.eval {B : Base} {st : St} {ρ : Nat → Nat × Nat} {a : Act} {w : World} (h : FrOk B st ρ a.tmps w) (x : Operand) : Rp B st.σ ρ w (st.eval x) (a.eval x) := by
  cases x with
  | tmp t =>
    simp only [St.eval, getF_eq, Act.eval]
    cases hx : st.fr[t]? with
    | none => exact .fro _ _ (.any _)
    | some d =>
      obtain ⟨u, hu, hr⟩ := h.2 t d hx
      have : a.tmps.getD t undef = u := by simp [Array.getD_eq_getD_getElem?, hu]
      rw [this]
      exact hr
  | const v => exact .fro _ _ (.v _)
  | global g => exact .fro _ _ (.any _)
  | func f => exact .fro _ _ (.fn f [] #[] rfl (fun j d u hd => by simp at hd))

/-- What comes of an operation: the temporary's value, and what is written into the store. -/
structure Out where
  val : D
  sets : List (Nat × Slot)
def setsF (σ : List Slot) : List (Nat × Slot) → List Slot
  | [] => σ
  | p :: l => setsF (σ.set p.1 p.2) l
def Out.app (out : Out) (dst : Option Nat) (st : St) : St := ⟨putF st.fr dst out.val, setsF st.σ out.sets⟩

/-- The fence that lets all by, in a round or not. -/
abbrev FW (ro : Option Nat) : Fence := { fn := fun _ => True, depth := none, alive := false, round := ro }

/-- An operation is as it is told, wherever its operands and what it reads of the store are so. -/
def OpS (P : Program) (ro : Option Nat) (o : Oper) (opd : Operand → D) (σ0 : List Slot) (rd : List Nat) (slot : Nat) (out : Out) : Prop :=
  ∀ B st a w, (∀ x ∈ o.op.operands, st.eval x = opd x) → (∀ k, k = slot ∨ k ∈ rd → st.σ[k]? = σ0[k]?) → Rel B st a w →
    ∀ next Q, (∀ a' w', Rel B (out.app o.dst st) a' w' → next a' w') → o.wpIn (FW ro) 0 P a w next Q

structure Rec where
  run : Bool
  rd : List Nat
  out : Out

def guardB (ops : Array Oper) (o : Oper) (st : St) : Option Bool :=
  match o.guard with
  | none => some true
  | some (j, want) =>
    match (ops[j]?).bind (·.dst) with
    | none => some false
    | some t =>
      match getF st.fr t with
      | .v (.bool b) => some (b == want)
      | .v (.tuple _) => some false
      | _ => none

theorem guardB_wanted {ops : Array Oper} {o : Oper} {B : Base} {st : St} {a : Act} {w : World} {r : Bool} (hg : guardB ops o st = some r) (h : Rel B st a w) : Region.wanted o (yielded ops a.tmps) = r := by
  obtain ⟨ρ, _, hf, _⟩ := h
  unfold guardB at hg
  unfold Region.wanted
  cases hgd : o.guard with
  | none => rw [hgd] at hg; simpa using hg
  | some p =>
    obtain ⟨j, want⟩ := p
    rw [hgd] at hg
    simp only at hg ⊢
    unfold yielded
    cases ht : (ops[j]?).bind (·.dst) with
    | none => rw [ht] at hg; simp at hg; subst hg; simp
    | some t =>
      rw [ht] at hg
      simp only at hg
      have hv := hf.eval (.tmp t)
      simp only [St.eval, Act.eval] at hv
      simp only [Option.bind_some]
      split at hg
      · rename_i b hb
        rw [hb] at hv
        have e := hv.v_inv
        have : a.tmps[t]? = some (.bool b) := by
          rw [Array.getD_eq_getD_getElem?] at e
          cases hx : a.tmps[t]? with
          | none => rw [hx] at e; simp [undef] at e
          | some y => rw [hx] at e; simpa using e
        rw [this]
        simpa using hg
      · rename_i vs hb
        rw [hb] at hv
        have e := hv.v_inv
        have : ∀ b, a.tmps[t]? ≠ some (.bool b) := by
          intro b hx
          rw [Array.getD_eq_getD_getElem?, hx] at e
          simp at e
        cases hx : a.tmps[t]? with
        | none => simp at hg ⊢; exact hg
        | some y =>
          cases y <;> simp at hg ⊢ <;> first | exact hg | (exact absurd hx (this _))
      · cases hg

/-- The steps of a region in the text's order. -/
def Valid (P : Program) (ro : Option Nat) (ops : Array Oper) (sl : Nat → Nat) : List Oper → Nat → St → List Rec → Prop
  | [], _, _, rs => rs = []
  | o :: os, i, st, rs => ∃ r rest, rs = r :: rest ∧ guardB ops o st = some r.run ∧ (r.run = false → r.out = ⟨.v undef, []⟩) ∧
      (r.run = true → OpS P ro o st.eval st.σ r.rd (sl i) r.out) ∧ (∀ p ∈ r.out.sets, p.1 = sl i ∨ p.1 ∈ r.rd) ∧ Valid P ro ops sl os (i + 1) (r.out.app o.dst st) rest

/-- The state when some of the operations have been done, in the text's order. -/
def fin (L : Nat → Bool) : List Oper → List Rec → Nat → St → St
  | o :: os, r :: rs, i, st => fin L os rs (i + 1) (if L i then r.out.app o.dst st else st)
  | _, _, _, st => st

theorem about_any (P : Program) (w : World) (a : Act) (o : Oper) (ro : Option Nat) : ∀ f, o.about P w a.eval = some f → (FW ro).fn f := fun _ _ => trivial

theorem Rel.putUndef {B : Base} {st : St} {a : Act} {w : World} (h : Rel B st a w) (dst : Option Nat) : Rel B (Out.app ⟨.v undef, []⟩ dst st) (a.put dst undef) w := by
  obtain ⟨ρ, h1, h2, h3⟩ := h
  exact ⟨ρ, h1, FrOk.put (fr := st.fr) h2 dst (.fro _ _ (.v _)), h3.put dst _⟩

theorem seq_sound {P : Program} {ro : Option Nat} {opsA : Array Oper} {sl : Nat → Nat} {B : Base} {Q : Exit → Act → World → Prop} (os : List Oper) :
    ∀ (i : Nat) (st : St) (rs : List Rec) (a : Act) (w : World), (∀ j, os[j]? = opsA[i + j]?) → Valid P ro opsA sl os i st rs → Rel B st a w →
      (∀ a' w', Rel B (fin (fun _ => true) os rs i st) a' w' → Q .normal a' w') → wpOpsIn (FW ro) 0 P opsA Q (List.range' i os.length) a w := by
  induction os with
  | nil =>
    intro i st rs a w _ hv hr hQ
    simp only [Valid] at hv
    subst hv
    simp only [List.length_nil, List.range'_zero, wpOpsIn]
    exact hQ a w hr
  | cons o os ih =>
    intro i st rs a w hj hv hr hQ
    obtain ⟨r, rest, rfl, hg, hskip, hop, hset, hv⟩ := hv
    have h0 : opsA[i]? = some o := by simpa using (hj 0).symm
    simp only [List.length_cons, List.range'_succ, wpOpsIn, h0]
    rw [guardB_wanted hg hr]
    have hj' : ∀ j, os[j]? = opsA[i + 1 + j]? := fun j => by have := hj (j + 1); rw [show i + 1 + j = i + (j + 1) from by omega]; simpa using this
    cases hrun : r.run with
    | true =>
      rw [if_pos rfl]
      refine hop hrun B st a w (fun _ _ => rfl) (fun _ _ => rfl) hr _ _ (fun a' w' hr' => ?_)
      exact ih (i + 1) _ rest a' w' hj' hv hr' (by simpa [fin] using hQ)
    | false =>
      rw [if_neg (by simp)]
      refine ⟨fun _ _ => trivial, ?_⟩
      have e := hskip hrun
      refine ih (i + 1) _ rest _ w hj' hv ?_ (by simpa [fin] using hQ)
      rw [e]
      exact hr.putUndef o.dst

end Go.Proofs.Ytabliglgeiajlaa.AM
