/- The abstract machine: values built of parts. -/
import Derived.Test.YtabliglgeiajlaaAm16
set_option linter.unusedSimpArgs false
set_option linter.unusedVariables false
namespace Go.Proofs.Ytabliglgeiajlaa.AM
open Go Go.RowKit

theorem set_splice {α : Type} (vs : List α) : ∀ (cells : List α) (off n : Nat), off + n + vs.length ≤ cells.length →
    (vs.zipIdx n).foldl (fun (cs : List α) (p : α × Nat) => cs.set (off + p.2) p.1) cells = splice cells (off + n) vs := by
  induction vs with
  | nil => intro cells off n _; simp [splice]
  | cons v vs ih =>
    intro cells off n h
    simp only [List.length_cons] at h
    simp only [List.zipIdx_cons, List.foldl_cons]
    rw [ih (cells.set (off + n) v) off (n + 1) (by simp; omega)]
    apply List.ext_getElem?
    intro j
    rw [splice_get (by simp; omega), splice_get (by simp; omega)]
    simp only [List.length_cons, List.getElem?_set]
    by_cases h1 : off + n = j
    · subst h1
      rw [if_neg (by omega), if_pos (by omega)]
      simp; omega
    · by_cases h2 : off + (n + 1) ≤ j ∧ j < off + (n + 1) + vs.length
      · rw [if_pos h2, if_pos (by omega)]
        rw [show j - (off + n) = (j - (off + (n + 1))) + 1 from by omega]
        simp
      · rw [if_neg h2, if_neg h1, if_neg (by omega)]
theorem fill_splice (cells vs : Array Value) (off : Nat) (h : off + vs.size ≤ cells.size) :
    vs.zipIdx.foldl (fun cs (p : Value × Nat) => cs.setIfInBounds (off + p.2) p.1) cells = (splice cells.toList off vs.toList).toArray := by
  have key : ∀ (l : List (Value × Nat)) (cs : Array Value), (l.foldl (fun cs (p : Value × Nat) => cs.setIfInBounds (off + p.2) p.1) cs).toList = l.foldl (fun (cs : List Value) (p : Value × Nat) => cs.set (off + p.2) p.1) cs.toList := by
    intro l
    induction l with
    | nil => intro cs; rfl
    | cons p l ih => intro cs; simp only [List.foldl_cons]; rw [ih]; simp
  apply Array.ext'
  rw [← Array.foldl_toList, key]
  have := set_splice vs.toList cells.toList off 0 (by simpa using h)
  simp only [Nat.add_zero] at this
  simpa using this

def placesD (P : Program) : List Field → Option (List (Nat × Nat))
  | [] => some []
  | f :: r => match tyI P f.type with
    | some i => match placesD P r with
      | some l => some ((f.offset, i.size) :: l)
      | none => none
    | none => none
theorem placesD_spec {P : Program} : ∀ {fs : List Field} {pl : List (Nat × Nat)}, placesD P fs = some pl → fs.mapM (fun f => (P.info? f.type).map fun i => (f.offset, i.size)) = some pl := by
  intro fs
  induction fs with
  | nil => intro pl h; simp only [placesD, Option.some.injEq] at h; subst h; rfl
  | cons f r ih =>
    intro pl h
    unfold placesD at h
    split at h
    · rename_i i hi
      split at h
      · rename_i l hl
        simp only [Option.some.injEq] at h
        subst h
        obtain ⟨j, h1, _, h2, _⟩ := tyI.spec hi
        simp only [List.mapM_cons, h1, Option.map_some, ih hl, h2]
        rfl
      · cases h
    · cases h

def fillD (pl : List (Nat × Nat)) : List D → List (Nat × D) → Option (Prop × List D)
  | cells, [] => some (True, cells)
  | cells, (i, d) :: r => match pl[i]? with
    | none => none
    | some (off, size) => match fillD pl (splice cells off (cellsD d)) r with
      | none => none
      | some (c, out) => some (((cellsD d).length = size ∧ off + size ≤ cells.length ∧ solidAll (cellsD d) = true) ∧ c, out)
theorem fillD_sound {w : World} {fz : Nat → Prop} {tb : Nat → Nat → Option (Nat × Nat)} {U : Nat → Nat → Prop} {pl : List (Nat × Nat)} {place : Nat → Option (Nat × Nat)} (hpl : ∀ i, place i = pl[i]?) :
    ∀ {ps : List (Nat × D)} {vs : List (Nat × Value)} {cells : List D} {cs : Array Value} {c : Prop} {out : List D}, fillD pl cells ps = some (c, out) → c → RepL (Rep w fz tb U) cells cs.toList →
    ps.length = vs.length → (∀ (j : Nat) (p : Nat × D) (v : Nat × Value), ps[j]? = some p → vs[j]? = some v → p.1 = v.1 ∧ Rep w fz tb U p.2 v.2) →
    ∃ cs', Instr.fill place cs vs = some cs' ∧ RepL (Rep w fz tb U) out cs'.toList := by
  intro ps
  induction ps with
  | nil =>
    intro vs cells cs c out h _ hr hl _
    have : vs = [] := List.eq_nil_of_length_eq_zero hl.symm
    subst this
    simp only [fillD, Option.some.injEq, Prod.mk.injEq] at h
    obtain ⟨_, rfl⟩ := h
    exact ⟨cs, rfl, hr⟩
  | cons p ps ih =>
    intro vs cells cs c out h hc hr hl hp
    obtain ⟨i, d⟩ := p
    cases vs with
    | nil => simp at hl
    | cons v vs =>
      obtain ⟨i', v⟩ := v
      obtain ⟨h1, h2⟩ := hp 0 _ _ rfl rfl
      simp only at h1 h2
      subst h1
      unfold fillD at h
      split at h
      · cases h
      · rename_i off size hpi
        split at h
        · cases h
        · rename_i c' out' hf
          simp only [Option.some.injEq, Prod.mk.injEq] at h
          obtain ⟨rfl, rfl⟩ := h
          obtain ⟨⟨c1, c2, c3⟩, c4⟩ := hc
          have hrep := RepL.cells h2 c3
          have hsz : v.cells.size = size := by have := hrep.1; simp at this; omega
          have hcs : cs.size = cells.length := by have := hr.1; simp at this; omega
          obtain ⟨cs', e1, e2⟩ := ih (cs := (splice cs.toList off v.cells.toList).toArray) hf c4 (by simpa using RepL.splice hr hrep (by omega)) (by simpa using hl) (fun j p' v' hj hv => hp (j + 1) p' v' (by simpa using hj) (by simpa using hv))
          refine ⟨cs', ?_, e2⟩
          unfold Instr.fill
          rw [hpl, hpi]
          simp only
          rw [if_neg (by simp only [bne_iff_ne, ne_eq, gt_iff_lt, Bool.or_eq_true, decide_eq_true_eq, not_or]; omega)]
          rw [fill_splice _ _ _ (by omega)]
          exact e1

def buildD (P : Program) (t : TypeId) (parts : List (Nat × D)) : Option (Prop × D) :=
  match tyI P t with
  | none => none
  | some i => match i.und with
    | .struct fs => match placesD P fs.toList with
      | none => none
      | some pl => match fillD pl (zeroD i.zero) parts with
        | none => none
        | some (c, out) => some (solidAll (zeroD i.zero) = true ∧ c, .agg out)
    | _ => none

section
variable {P : Program} {o : Oper} {opd : Operand → D} {σ : List Slot} {slot : Nat}

theorem parts_rep {B : Base} {σ' : List Slot} {ρ : Nat → Nat × Nat} {w : World} {ev : Operand → Value} {parts : Array (Nat × Operand)} (h : ∀ p ∈ parts, Rp B σ' ρ w (opd p.2) (ev p.2)) :
    ∀ (j : Nat) (p : Nat × D) (v : Nat × Value), (parts.toList.map fun q => (q.1, opd q.2))[j]? = some p → ((parts.map fun (i, x) => (i, ev x)).toList)[j]? = some v → p.1 = v.1 ∧ Rp B σ' ρ w p.2 v.2 := by
  intro j p v hp hv
  obtain ⟨q, hq, rfl⟩ := map_get hp
  rw [Array.toList_map] at hv
  obtain ⟨q', hq', rfl⟩ := map_get hv
  rw [hq] at hq'
  cases hq'
  exact ⟨rfl, h q (Array.mem_of_getElem? (by simpa using hq))⟩

theorem ok_build {t : TypeId} {parts : Array (Nat × Operand)} {c : Prop} {d : D} (ho : o.op = .build t parts) (h : buildD P t (parts.toList.map fun q => (q.1, opd q.2)) = some (c, d)) (hc : c) : PureOk P o opd σ [] d := by
  intro B σ' ρ ev w hp hx _
  unfold buildD at h
  split at h
  · cases h
  · rename_i i hi
    split at h
    · rename_i fs hu
      split at h
      · cases h
      · rename_i pl hpl
        split at h
        · cases h
        · rename_i c' out hf
          simp only [Option.some.injEq, Prod.mk.injEq] at h
          obtain ⟨rfl, rfl⟩ := h
          obtain ⟨hz, hc'⟩ := hc
          obtain ⟨j, h1, h2, _, _, h3⟩ := tyI.spec hi
          obtain ⟨cs', e1, e2⟩ := fillD_sound (w := w) (fz := Fz B σ' ρ w) (tb := Tb σ' ρ) (U := used σ') (place := fun x => pl.toArray[x]?) (fun i => by simp) hf hc' (RepL.zero hz)
            (vs := (parts.map fun (i, x) => (i, ev x)).toList) (by simp) (parts_rep (fun p hp' => hx p.2 (by
              rw [ho]
              have : p.2 ∈ parts.map (fun q => q.2) := Array.mem_map.2 ⟨p, hp', rfl⟩
              simpa [Op.operands] using this)))
          have hb : P.built t (parts.map fun (i, x) => (i, ev x)).toList = some cs' := by
            unfold Program.built
            rw [h1, h2, hu]
            simp only [h3, placesD_spec hpl]
            exact e1
          refine ⟨.agg cs', ?_, .agg _ _ (by simpa using e2.1) (fun j d' u hj hu' => ?_)⟩
          · simp only [execOp, ho]
            exact lift_value (run_build w t _ cs' hb)
          · obtain ⟨v, a1, _, a3⟩ := e2.2 j d' hj
            have : u = v := by
              have : cs'.toList[j]? = some u := by simpa using hu'
              rw [a1] at this; exact (Option.some.inj this).symm
            rw [this]; exact a3
    · cases h
end
end Go.Proofs.Ytabliglgeiajlaa.AM
