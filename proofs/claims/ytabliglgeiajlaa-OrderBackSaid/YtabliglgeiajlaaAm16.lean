/- The abstract machine: alloc, box, store. -/
import Derived.Test.YtabliglgeiajlaaAm15
import Derived.Laws.Tables
import Derived.Laws.CopyRow
set_option linter.unusedSimpArgs false
set_option linter.unusedVariables false
namespace Go.Proofs.Ytabliglgeiajlaa.AM
open Go Go.RowKit

/-- The cells of a value. -/
def cellsD : D → List D
  | .agg ds => ds
  | d => [d]
def solidAll : List D → Bool
  | [] => true
  | d :: l => d.solid && solidAll l
theorem solidAll_get {l : List D} (h : solidAll l = true) {j : Nat} {d : D} (hd : l[j]? = some d) : d.solid = true := by
  induction l generalizing j with
  | nil => simp at hd
  | cons x l ih =>
    simp only [solidAll, Bool.and_eq_true] at h
    cases j with
    | zero => simp at hd; rw [← hd]; exact h.1
    | succ j => exact ih h.2 (by simpa using hd)
def zeroD (z : Value) : List D := z.cells.toList.map .v

/-- Cells that are told. -/
def RepL (R : D → Value → Prop) (ds : List D) (vs : List Value) : Prop := ds.length = vs.length ∧ ∀ (j : Nat) (d : D), ds[j]? = some d → ∃ u, vs[j]? = some u ∧ u.oneCell' = true ∧ R d u

theorem cells_one {v : Value} (h : v.oneCell' = true) : v.cells = #[v] := by cases v <;> first | rfl | cases h
theorem RepL.cells {w : World} {fz : Nat → Prop} {tb : Nat → Nat → Option (Nat × Nat)} {U : Nat → Nat → Prop} {d : D} {u : Value} (h : Rep w fz tb U d u) (hs : solidAll (cellsD d) = true) : RepL (Rep w fz tb U) (cellsD d) u.cells.toList := by
  have one : ∀ d : D, d.solid = true → Rep w fz tb U d u → RepL (Rep w fz tb U) [d] u.cells.toList := by
    intro d hs h
    have h1 := h.solid hs
    rw [cells_one h1]
    refine ⟨rfl, fun j d' hd => ?_⟩
    cases j with
    | zero => simp at hd; subst hd; exact ⟨u, rfl, h1, h⟩
    | succ j => simp at hd
  cases d with
  | agg ds =>
    obtain ⟨cs, rfl, hl, hr⟩ := h.agg_inv
    refine ⟨by simpa [cellsD, Value.cells] using hl, fun j d hd => ?_⟩
    have hlt : j < cs.size := by have := (List.getElem?_eq_some_iff.1 hd).1; simp only [cellsD] at this; omega
    exact ⟨cs[j], by simp [Value.cells, hlt], (hr j d _ hd (by simp [hlt])).solid (solidAll_get hs hd), hr j d _ hd (by simp [hlt])⟩
  | _ => exact one _ (by simpa [cellsD, solidAll] using hs) h
theorem RepL.zero {w : World} {fz : Nat → Prop} {tb : Nat → Nat → Option (Nat × Nat)} {U : Nat → Nat → Prop} {z : Value} (hs : solidAll (zeroD z) = true) : RepL (Rep w fz tb U) (zeroD z) z.cells.toList := by
  refine ⟨by simp [zeroD], fun j d hd => ?_⟩
  have h1 := solidAll_get hs hd
  obtain ⟨v, hv, rfl⟩ := map_get hd
  exact ⟨v, hv, h1, .fro _ _ (.v v)⟩

/-- Some cells replaced. -/
def splice {α : Type} (cells : List α) (off : Nat) (ds : List α) : List α := cells.take off ++ ds ++ cells.drop (off + ds.length)
theorem splice_length {α : Type} {cells ds : List α} {off : Nat} (h : off + ds.length ≤ cells.length) : (splice cells off ds).length = cells.length := by
  simp [splice]; omega
theorem splice_get {α : Type} {cells ds : List α} {off : Nat} (h : off + ds.length ≤ cells.length) (j : Nat) : (splice cells off ds)[j]? = if off ≤ j ∧ j < off + ds.length then ds[j - off]? else cells[j]? := by
  unfold splice
  have hl : (cells.take off).length = off := by simp; omega
  by_cases h1 : j < off
  · rw [List.append_assoc, List.getElem?_append_left (by omega), if_neg (by omega), List.getElem?_take_of_lt h1]
  · by_cases h2 : j < off + ds.length
    · rw [if_pos (by omega), List.append_assoc, List.getElem?_append_right (by omega), hl, List.getElem?_append_left (by omega)]
    · rw [if_neg (by omega), List.getElem?_append_right (by simp; omega), List.getElem?_drop]
      congr 1
      simp
      omega
theorem RepL.splice {R : D → Value → Prop} {cells ds : List D} {cs vs : List Value} {off : Nat} (h1 : RepL R cells cs) (h2 : RepL R ds vs) (h : off + ds.length ≤ cells.length) : RepL R (AM.splice cells off ds) (AM.splice cs off vs) := by
  have h' : off + vs.length ≤ cs.length := by have := h1.1; have := h2.1; omega
  refine ⟨by rw [splice_length h, splice_length h']; exact h1.1, fun j d hd => ?_⟩
  rw [splice_get h] at hd
  rw [splice_get h', ← h2.1]
  split at hd
  · rename_i hc; rw [if_pos hc]; exact h2.2 _ _ hd
  · rename_i hc; rw [if_neg hc]; exact h1.2 _ _ hd

/-! ### The operations -/
def allocD (P : Program) (t : TypeId) (slot : Nat) : Option (Prop × D × List (Nat × Slot)) :=
  match tyI P t with
  | none => none
  | some i => some (solidAll (zeroD i.zero) = true, .ptr slot 0 0, [(slot, .ent ⟨0, none, t, zeroD i.zero, .cells⟩)])
def boxD (t : TypeId) (x : D) (slot : Nat) : Prop × D × List (Nat × Slot) := (solidAll (cellsD x) = true, .ptr slot 0 0, [(slot, .ent ⟨0, none, t, cellsD x, .cells⟩)])
def isFree (σ : List Slot) (slot : Nat) : Prop := getS σ slot = .free
def storeD (P : Program) (t : TypeId) (a x : D) (σ : List Slot) : Option (Prop × List (Nat × Slot) × Nat) :=
  match tyI P t with
  | none => none
  | some i =>
    match a with
    | .ptr k g o =>
      match isLive σ k g with
      | some e => some ((cellsD x).length = i.size ∧ o + i.size ≤ e.cells.length ∧ solidAll (cellsD x) = true, [(k, .ent { e with cells := splice e.cells o (cellsD x) })], k)
      | none => none
    | _ => none

section
variable {P : Program} {o : Oper} {opd : Operand → D} {σ : List Slot} {slot : Nat}

/-- A new own block. -/
theorem put_new {B : Base} {σ' : List Slot} {ρ : Nat → Nat × Nat} {w : World} {t : TypeId} {ds : List D} {cs : Array Value} {arr : Option Nat} {cap : Nat} (hp : Hp B σ' ρ w) (hf : isFree σ slot) (hσ : σ'[slot]? = σ[slot]?)
    (harr : match arr with | none => cs.size = ds.length | some sz => cs.size = cap * sz ∧ ds.length ≤ cs.size)
    (h : ∀ (j : Nat) (d : D), ds[j]? = some d → ∃ u, cs[j]? = some u ∧ u.oneCell' = true ∧ Rp B σ' ρ w d u) {w' : World} (hw : Wr w w' w.heap.size) (hb : w'.heap[w.heap.size]? = some (.cells cs t (0, 0))) :
    Move B σ' ρ w (setsF σ' [(slot, .ent ⟨0, arr, t, ds, .cells⟩)]) (updρ ρ slot (w.heap.size, cap)) w' ∧ Hp B (setsF σ' [(slot, .ent ⟨0, arr, t, ds, .cells⟩)]) (updρ ρ slot (w.heap.size, cap)) w' := by
  have hfree : σ'[slot]? = some .free := by rw [hσ]; exact getS_free hf
  exact put_entC hp (e' := ⟨0, arr, t, ds, .cells⟩) hw (.inl ⟨hfree, rfl⟩) rfl ⟨cs, hb, harr, h⟩

theorem ptr_new {B : Base} {σ' : List Slot} {ρ : Nat → Nat × Nat} {w' : World} {e : Ent} {b cap : Nat} (h : σ'[slot]? = some .free) (he : e.gen = 0) :
    Rp B (setsF σ' [(slot, .ent e)]) (updρ ρ slot (b, cap)) w' (.ptr slot 0 0) (.pointer (some ⟨b, 0, none⟩)) := by
  have hlt : slot < σ'.length := (List.getElem?_eq_some_iff.1 h).1
  have hg : (setsF σ' [(slot, .ent e)])[slot]? = some (.ent e) := by simp [setsF, hlt]
  refine .ptr slot 0 0 _ ⟨_, hg, Nat.zero_le _⟩ rfl (fun b' c hb => ?_)
  have := Tb.of (ρ := updρ ρ slot (b, cap)) hg
  rw [he, hb, updρ_self] at this
  cases this
  rfl

theorem ok_alloc {t : TypeId} {c : Prop} {d : D} {sets : List (Nat × Slot)} (ho : o.op = .alloc t) (h : allocD P t slot = some (c, d, sets)) (hc : c) (hf : isFree σ slot) : WriteOk P o opd σ [] slot d sets := by
  intro B σ' ρ ev w hp hx hσ
  unfold allocD at h
  split at h
  · cases h
  · rename_i i hi
    simp only [Option.some.injEq, Prod.mk.injEq] at h
    obtain ⟨rfl, rfl, rfl⟩ := h
    have hz := tyI.zeroValue hi w
    have hrep : RepL (Rp B σ' ρ w) (zeroD i.zero) i.zero.cells.toList := RepL.zero hc
    have hput := put_new (t := t) (ds := zeroD i.zero) (cs := i.zero.cells) (arr := none) (cap := 0) hp hf (hσ slot (.inl rfl)) (by simp [zeroD]) (fun j d hd => by
      obtain ⟨u, a1, a2, a3⟩ := hrep.2 j d hd
      exact ⟨u, by simpa using a1, a2, a3⟩) (Wr.alloc w (.cells i.zero.cells t)) (heap_alloc_new w _)
    refine ⟨_, _, hput.2, hput.1, .inr ⟨.pointer (some ⟨w.heap.size, 0, none⟩), ?_, ptr_new (by rw [hσ slot (.inl rfl)]; exact getS_free hf) rfl⟩⟩
    simp only [execOp, ho]
    refine lift_value ?_
    unfold Instr.alloc
    rw [Sem.run_bind, hz]
    simp [Result.andThen, newVar, newRow]

theorem ok_box {t : TypeId} {x : Operand} {c : Prop} {d : D} {sets : List (Nat × Slot)} (ho : o.op = .box t x) (h : boxD t (opd x) slot = (c, d, sets)) (hc : c) (hf : isFree σ slot) : WriteOk P o opd σ [] slot d sets := by
  intro B σ' ρ ev w hp hx hσ
  have h1 := hx x (by rw [ho]; simp [Op.operands])
  simp only [boxD, Prod.mk.injEq] at h
  obtain ⟨rfl, rfl, rfl⟩ := h
  have hrep : RepL (Rp B σ' ρ w) (cellsD (opd x)) (ev x).cells.toList := RepL.cells h1 hc
  have hput := put_new (t := t) (ds := cellsD (opd x)) (cs := (ev x).cells) (arr := none) (cap := 0) hp hf (hσ slot (.inl rfl)) (by simpa using hrep.1.symm) (fun j d hd => by
    obtain ⟨u, a1, a2, a3⟩ := hrep.2 j d hd
    exact ⟨u, by simpa using a1, a2, a3⟩) (Wr.alloc w (.cells (ev x).cells t)) (heap_alloc_new w _)
  refine ⟨_, _, hput.2, hput.1, .inr ⟨.pointer (some ⟨w.heap.size, 0, none⟩), ?_, ptr_new (by rw [hσ slot (.inl rfl)]; exact getS_free hf) rfl⟩⟩
  simp only [execOp, ho]
  refine lift_value ?_
  simp [Instr.box, newVar, newRow]

theorem ok_store {t : TypeId} {a x : Operand} {c : Prop} {sets : List (Nat × Slot)} {k : Nat} (ho : o.op = .store t a x) (h : storeD P t (opd a) (opd x) σ = some (c, sets, k)) (hc : c) : WriteOk P o opd σ [k] slot (.v undef) sets := by
  intro B σ' ρ ev w hp hx hσ
  have h1 := hx a (by rw [ho]; simp [Op.operands])
  have h2 := hx x (by rw [ho]; simp [Op.operands])
  unfold storeD at h
  split at h
  · cases h
  · rename_i i hi
    split at h
    · rename_i k' g o' hd
      split at h
      · rename_i e hl
        simp only [Option.some.injEq, Prod.mk.injEq] at h
        obtain ⟨rfl, rfl, rfl⟩ := h
        obtain ⟨c1, c2, c3⟩ := hc
        rw [hd] at h1
        have hl' : isLive σ' k' g = some e := by rw [isLive_congr (hσ k' (.inr (by simp)))]; exact hl
        have hev := ptr_live h1 hl'
        obtain ⟨hk, hge, hkd⟩ := isLive_spec hl'
        obtain ⟨cs, e1, e2, e3⟩ := (hp.ent k' e hk).row hkd
        have hrep : RepL (Rp B σ' ρ w) (cellsD (opd x)) (ev x).cells.toList := RepL.cells h2 c3
        have hlen : (ev x).cells.toList.length = i.size := by rw [← hrep.1, c1]
        have hcl : e.cells.length ≤ cs.size := by
          cases harr : e.arr with
          | none => rw [harr] at e2; simp only at e2; omega
          | some sz => rw [harr] at e2; simp only at e2; omega
        have hst := run_storeCells_at P (ρ k').1 o' e.ty (ev x).cells.toList 0 cs w e1 (by omega) (fun v hv => by
          obtain ⟨j, hj⟩ := List.mem_iff_getElem?.1 hv
          have hlt : j < (cellsD (opd x)).length := by have := (List.getElem?_eq_some_iff.1 hj).1; omega
          obtain ⟨u, a1, a2, _⟩ := hrep.2 j _ (List.getElem?_eq_getElem hlt)
          rw [hj] at a1
          cases a1; exact a2)
        simp only [Nat.add_zero] at hst
        have hput := put_entC hp (k := k') (e' := { e with cells := splice e.cells o' (cellsD (opd x)) }) (b := (ρ k').1) (cap := (ρ k').2) (Wr.setRow w (ρ k').1 (splice cs.toList o' (ev x).cells.toList).toArray)
          (.inr ⟨e, hk, .inl ⟨Nat.le_refl _, rfl⟩⟩) hkd
          ⟨_, setRow_heap w _ cs _ _ _ e1, by
            have l1 : (splice e.cells o' (cellsD (opd x))).length = e.cells.length := splice_length (by omega)
            have l2 : (splice cs.toList o' (ev x).cells.toList).length = cs.toList.length := splice_length (by simp only [Array.length_toList] at *; omega)
            cases harr : e.arr with
            | none => rw [harr] at e2; simp only [List.size_toArray, l1, l2] at e2 ⊢; simpa using e2
            | some sz => rw [harr] at e2; simp only [List.size_toArray, l1, l2] at e2 ⊢; simpa using e2, fun j d hd => by
            rw [splice_get (by omega)] at hd
            rw [List.getElem?_toArray, splice_get (by simp only [Array.length_toList] at *; omega), hlen, ← c1]
            split at hd
            · rename_i hcond
              rw [if_pos hcond]
              exact hrep.2 _ _ hd
            · rename_i hcond
              rw [if_neg hcond]
              obtain ⟨u, a1, a2, a3⟩ := e3 j d hd
              exact ⟨u, by simpa using a1, a2, a3⟩⟩
        refine ⟨_, _, hput.2, hput.1, .inl ⟨?_, rfl⟩⟩
        simp only [execOp, ho]
        rw [hev]
        simp only [Instr.storeAt, Instr.sureAddr, pure_bind, storeVar]
        have hsz : (ev x).cells.size = i.size := by simpa using hlen
        rw [Sem.run_bind, Sem.run_bind, tyI.sizeOf hi w]
        simp only [Result.andThen, hsz, ne_eq, not_true_eq_false, if_false]
        simp only [splice] at hst ⊢
        simp [hst, Result.andThen, Sem.run_bind]
      · cases h
    · cases h
end
end Go.Proofs.Ytabliglgeiajlaa.AM
