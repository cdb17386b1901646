/- The abstract machine: types, and what is read of memory. -/
import Derived.Test.YtabliglgeiajlaaAm6
set_option linter.unusedSimpArgs false
set_option linter.unusedVariables false
namespace Go.Proofs.Ytabliglgeiajlaa.AM
open Go Go.RowKit

/-- What is to be known of a type. -/
structure TyI where
  und : TypeDesc
  size : Nat
  bytes : Nat
  zero : Value
def tyI (P : Program) (t : TypeId) : Option TyI :=
  match P.info? t with
  | some i => match P.underlying t, i.zero with
    | some u, some z => some ⟨u, i.size, i.bytes, z⟩
    | _, _ => none
  | none => none
def isAggD : TypeDesc → Bool
  | .struct _ => true
  | .array _ _ => true
  | _ => false

section
variable {P : Program} {t : TypeId} {i : TyI} (h : tyI P t = some i)
include h
theorem tyI.spec : ∃ j, P.info? t = some j ∧ P.underlying t = some i.und ∧ j.size = i.size ∧ j.bytes = i.bytes ∧ j.zero = some i.zero := by
  unfold tyI at h
  split at h
  · rename_i j hj
    split at h
    · rename_i u z hu hz
      cases h
      exact ⟨j, hj, hu, rfl, rfl, hz⟩
    · cases h
  · cases h
theorem tyI.underlying (w : World) : (underlying t).run P w = .ok i.und w := by
  obtain ⟨j, _, hu, _⟩ := tyI.spec h
  simp [Go.underlying, Go.program, Bind.bind, Sem.bind, Sem.run, hu, Pure.pure]
theorem tyI.typeInfo (w : World) : ∃ j, (typeInfo t).run P w = .ok j w ∧ j.size = i.size ∧ j.bytes = i.bytes ∧ j.zero = some i.zero := by
  obtain ⟨j, hj, _, h1, h2, h3⟩ := tyI.spec h
  exact ⟨j, by simp [Go.typeInfo, Go.program, Bind.bind, Sem.bind, Sem.run, hj, Pure.pure], h1, h2, h3⟩
theorem tyI.sizeOf (w : World) : (sizeOf t).run P w = .ok i.size w := by
  obtain ⟨j, hj, _, h1, _⟩ := tyI.spec h
  simp [Go.sizeOf, Go.typeInfo, Go.program, Bind.bind, Sem.bind, Sem.run, hj, Pure.pure, h1]
theorem tyI.zeroValue (w : World) : (zeroValue t).run P w = .ok i.zero w := by
  obtain ⟨j, hj, _, _, _, h1⟩ := tyI.spec h
  simp [Go.zeroValue, Go.typeInfo, Go.program, Bind.bind, Sem.bind, Sem.run, hj, Pure.pure, h1]
theorem tyI.isAgg (w : World) : (isAgg t).run P w = .ok (isAggD i.und) w := by
  obtain ⟨j, _, hu, _⟩ := tyI.spec h
  simp only [Go.isAgg, Go.underlying, Go.program, Bind.bind, Sem.bind, Sem.run, hu, Pure.pure]
  cases i.und <;> rfl
end

theorem run_bind' {α β : Type} (P : Program) (s : Sem α) (f : α → Sem β) : ∀ w : World, (s.bind f).run P w = match s.run P w with | .ok a w' => (f a).run P w' | .halt h w' => .halt h w' := by
  intro w
  have := Sem.run_bind (P := P) (w := w) s f
  simp only [Bind.bind] at this
  rw [this]
  cases s.run P w <;> rfl

/-! ### Cells in a row -/
theorem add_plain (b o j : Nat) : (⟨b, o, none⟩ : Addr).add j = ⟨b, o + j, none⟩ := by
  unfold Addr.add
  split
  · rename_i h; subst h; rfl
  · rfl
theorem run_loadCellsFrom (P : Program) (w : World) (b o : Nat) (us : List Value) : ∀ (i : Nat) (acc : Array Value), (∀ j u, us[j]? = some u → w.cell? ⟨b, o + (i + j), none⟩ = some u) →
    (loadCellsFrom ⟨b, o, none⟩ i us.length acc).run P w = .ok (acc ++ us.toArray) w := by
  induction us with
  | nil => intro i acc _; simp [loadCellsFrom, Pure.pure, Sem.run]
  | cons u us ih =>
    intro i acc h
    have h0 := h 0 u rfl
    simp only [Nat.add_zero] at h0
    simp only [List.length_cons, loadCellsFrom, load, Bind.bind, Sem.bind, Sem.run, add_plain, h0]
    have := ih (i + 1) (acc.push u) (fun j u' hj => by
      have := h (j + 1) u' (by simpa using hj)
      rw [show i + 1 + j = i + (j + 1) from by omega]; exact this)
    simp only [this]
    simp
theorem run_loadVar_agg {P : Program} {t : TypeId} {i : TyI} (h : tyI P t = some i) (ha : isAggD i.und = true) (w : World) (b o : Nat) (us : List Value) (hl : us.length = i.size)
    (hc : ∀ j u, us[j]? = some u → w.cell? ⟨b, o + j, none⟩ = some u) : (loadVar t ⟨b, o, none⟩).run P w = .ok (.agg us.toArray) w := by
  simp only [loadVar, Bind.bind, run_bind', tyI.isAgg h, ha, if_true, tyI.sizeOf h, loadCells]
  have := run_loadCellsFrom P w b o us 0 #[] (fun j u hj => by rw [Nat.zero_add]; exact hc j u hj)
  rw [hl] at this
  rw [this]
  simp [Pure.pure, Sem.run]
theorem run_loadVar_one {P : Program} {t : TypeId} {i : TyI} (h : tyI P t = some i) (ha : isAggD i.und = false) (w : World) (b o : Nat) (u : Value) (hc : w.cell? ⟨b, o, none⟩ = some u) :
    (loadVar t ⟨b, o, none⟩).run P w = .ok u w := by
  simp [loadVar, Bind.bind, run_bind', tyI.isAgg h, ha, load, Sem.run, hc]

/-! ### What lies at an address -/
def beqN (a b : Nat) : Bool := Nat.beq a b
/-- Read at an address: what must hold, what comes, and which key is looked at. -/
def loadD (ti : Option TyI) (d : D) (σ : List Slot) : Option (Prop × D × List Nat) :=
  match ti with
  | none => none
  | some i =>
    match d with
    | .ptr k g o =>
      match getC σ k with
      | .ent e =>
        match beqN e.gen g with
        | true =>
          match isAggD i.und with
          | true => some (o + i.size ≤ e.cells.length, .agg ((e.cells.drop o).take i.size), [k])
          | false => some (o < e.cells.length, getF e.cells o, [k])
        | false => none
      | _ => none
    | .fad ds =>
      match isAggD i.und with
      | true => some (i.size ≤ ds.length, .agg (ds.take i.size), [])
      | false => some (0 < ds.length, getF ds 0, [])
    | _ => none

theorem cell_at {w : World} {b t j : Nat} {cs : Array Value} {u : Value} (hb : w.heap[b]? = some (.cells cs t (0, 0))) (hu : cs[j]? = some u) : w.cell? ⟨b, j, none⟩ = some u := by
  simp [World.cell?, hb, hu]

theorem getF_some {l : List D} {n : Nat} (h : n < l.length) : l[n]? = some (getF l n) := by
  rw [getF_eq, List.getElem?_eq_getElem h]; rfl

theorem loadD_sound {P : Program} {t : TypeId} {B : Base} {σ : List Slot} {ρ : Nat → Nat × Nat} {w : World} {d val : D} {c : Prop} {rd : List Nat} {u : Value} {a : Addr}
    (hl : loadD (tyI P t) d σ = some (c, val, rd)) (hc : c) (hp : Hp B σ ρ w) (hd : Rp B σ ρ w d u) (ha : u = .pointer (some a)) : ∃ v, (loadVar t a).run P w = .ok v w ∧ Rp B σ ρ w val v := by
  unfold loadD at hl
  cases hti : tyI P t with
  | none => rw [hti] at hl; cases hl
  | some i =>
    rw [hti] at hl
    simp only at hl
    cases d with
    | ptr k g o =>
      simp only at hl
      cases hs : getC σ k with
      | free => rw [hs] at hl; cases hl
      | dead => rw [hs] at hl; cases hl
      | ent e =>
        rw [hs] at hl
        simp only at hl
        cases hg : beqN e.gen g with
        | false => rw [hg] at hl; cases hl
        | true =>
          rw [hg] at hl
          simp only at hl
          have hg' : e.gen = g := Nat.eq_of_beq_eq_true hg
          have hk := getS_ent (getC_ent hs).1
          have htb : Tb σ ρ k g = some (ρ k) := hg' ▸ Tb.of hk
          have hu := (hd.ptr_inv).2 (ρ k).1 (ρ k).2 htb
          rw [ha] at hu
          cases hu
          obtain ⟨cs, h1, h2, h3⟩ := (hp.ent k e hk).row (getC_ent hs).2
          cases hag : isAggD i.und with
          | true =>
            rw [hag] at hl
            simp only [Option.some.injEq, Prod.mk.injEq] at hl
            obtain ⟨rfl, rfl, rfl⟩ := hl
            -- the cells' values
            have hle : o + i.size ≤ cs.size := by
              cases harr : e.arr with
              | none => rw [harr] at h2; simp only at h2; omega
              | some sz => rw [harr] at h2; simp only at h2; omega
            have hus : ((cs.toList.drop o).take i.size).length = i.size := by simp; omega
            refine ⟨_, run_loadVar_agg hti hag w _ o ((cs.toList.drop o).take i.size) hus (fun j u hj => ?_), ?_⟩
            · have hlt : j < i.size := by have := (List.getElem?_eq_some_iff.1 hj).1; omega
              refine cell_at h1 (j := o + j) ?_
              rw [List.getElem?_take_of_lt hlt, List.getElem?_drop] at hj
              simpa using hj
            · refine .agg _ _ (by simp; omega) (fun j d' u' hj hu' => ?_)
              have hlt : j < i.size := by have := (List.getElem?_eq_some_iff.1 hj).1; simp at this; omega
              rw [List.getElem?_take_of_lt hlt, List.getElem?_drop] at hj
              obtain ⟨u2, hu2, _, hr⟩ := h3 (o + j) d' hj
              have : u' = u2 := by
                simp only [List.getElem?_toArray] at hu'
                rw [List.getElem?_take_of_lt hlt, List.getElem?_drop] at hu'
                have e2 : cs.toList[o + j]? = some u2 := by simpa using hu2
                rw [e2] at hu'
                exact (Option.some.inj hu').symm
              rw [this]; exact hr
          | false =>
            rw [hag] at hl
            simp only [Option.some.injEq, Prod.mk.injEq] at hl
            obtain ⟨rfl, rfl, rfl⟩ := hl
            obtain ⟨u2, hu2, _, hr⟩ := h3 o _ (getF_some hc)
            exact ⟨u2, run_loadVar_one hti hag w _ o u2 (cell_at h1 hu2), hr⟩
    | fad ds =>
      simp only at hl
      have hf := hd.fad_inv
      rw [ha] at hf
      cases hf with
      | fad _ b o g hb hcell hr =>
        cases hag : isAggD i.und with
        | true =>
          rw [hag] at hl
          simp only [Option.some.injEq, Prod.mk.injEq] at hl
          obtain ⟨rfl, rfl, rfl⟩ := hl
          refine ⟨_, run_loadVar_agg hti hag w b o ((List.range i.size).map g) (by simp) (fun j u hj => ?_), ?_⟩
          · have hlt : j < i.size := by have := (List.getElem?_eq_some_iff.1 hj).1; simpa using this
            have hj' : u = g j := by simpa [hlt] using hj.symm
            rw [hj']
            exact (hcell j _ (List.getElem?_eq_getElem (by omega))).1
          · refine .agg _ _ (by simp; omega) (fun j d' u' hj hu' => ?_)
            have hlt : j < i.size := by have := (List.getElem?_eq_some_iff.1 hj).1; simp at this; omega
            rw [List.getElem?_take_of_lt hlt] at hj
            have : u' = g j := by simpa [hlt] using hu'.symm
            rw [this]
            exact .fro _ _ (hr j d' hj)
        | false =>
          rw [hag] at hl
          simp only [Option.some.injEq, Prod.mk.injEq] at hl
          obtain ⟨rfl, rfl, rfl⟩ := hl
          have h0 := getF_some hc
          exact ⟨g 0, run_loadVar_one hti hag w b o _ (by simpa using (hcell 0 _ h0).1), .fro _ _ (hr 0 _ h0)⟩
    | _ => simp at hl
end Go.Proofs.Ytabliglgeiajlaa.AM
