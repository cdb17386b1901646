/- The abstract machine: rows of a literal, append. -/
import Derived.Test.YtabliglgeiajlaaAm17
import Derived.Laws.AppendOwn
set_option linter.unusedSimpArgs false
set_option linter.unusedVariables false
namespace Go.Proofs.Ytabliglgeiajlaa.AM
open Go Go.RowKit

/-! ### What is frozen -/
def frz0 : D → Bool
  | .v _ => true
  | .sl _ _ _ => true
  | .fad _ => true
  | _ => false
def frz0All : List D → Bool
  | [] => true
  | d :: l => frz0 d && frz0All l
def frz : D → Bool
  | .fn _ caps => frz0All caps
  | .bnd _ caps => frz0All caps
  | d => frz0 d
def frzAll : List D → Bool
  | [] => true
  | d :: l => frz d && frzAll l
def frzRows : List (List D) → Bool
  | [] => true
  | x :: l => frzAll x && frzRows l
theorem frz0All_get {l : List D} (h : frz0All l = true) {j : Nat} {d : D} (hd : l[j]? = some d) : frz0 d = true := by
  induction l generalizing j with
  | nil => simp at hd
  | cons x l ih =>
    simp only [frz0All, Bool.and_eq_true] at h
    cases j with
    | zero => simp at hd; rw [← hd]; exact h.1
    | succ j => exact ih h.2 (by simpa using hd)
theorem frzAll_get {l : List D} (h : frzAll l = true) {j : Nat} {d : D} (hd : l[j]? = some d) : frz d = true := by
  induction l generalizing j with
  | nil => simp at hd
  | cons x l ih =>
    simp only [frzAll, Bool.and_eq_true] at h
    cases j with
    | zero => simp at hd; rw [← hd]; exact h.1
    | succ j => exact ih h.2 (by simpa using hd)
theorem frzRows_get {l : List (List D)} (h : frzRows l = true) {j : Nat} {d : List D} (hd : l[j]? = some d) : frzAll d = true := by
  induction l generalizing j with
  | nil => simp at hd
  | cons x l ih =>
    simp only [frzRows, Bool.and_eq_true] at h
    cases j with
    | zero => simp at hd; rw [← hd]; exact h.1
    | succ j => exact ih h.2 (by simpa using hd)
section
variable {w : World} {fz : Nat → Prop} {tb : Nat → Nat → Option (Nat × Nat)} {U : Nat → Nat → Prop}
theorem Rep.frz0 {d : D} {u : Value} (hs : AM.frz0 d = true) (h : Rep w fz tb U d u) : RepF w fz d u := by
  cases h with
  | fro _ _ h => exact h
  | agg => cases hs
  | tup => cases hs
  | fn => cases hs
  | bnd => cases hs
  | ref => cases hs
  | ptr => cases hs
  | kref => cases hs
  | refo => cases hs
theorem Rep.frz {d : D} {u : Value} (hs : AM.frz d = true) (h : Rep w fz tb U d u) : RepF w fz d u := by
  cases d with
  | fn f caps =>
    obtain ⟨cs, rfl, hl, hr⟩ := h.fn_inv
    exact .fn f _ cs hl (fun j d u hd hu => Rep.frz0 (frz0All_get hs hd) (hr j d u hd hu))
  | bnd f caps =>
    obtain ⟨cs, rfl, hl, hr⟩ := h.bnd_inv
    exact .bnd f _ cs hl (fun j d u hd hu => Rep.frz0 (frz0All_get hs hd) (hr j d u hd hu))
  | _ => exact Rep.frz0 hs h
end

/-! ### Rows of cells -/
def RepR (R : D → Value → Prop) (sz : Nat) (rows : List (List D)) (cs : List Value) : Prop :=
  rows.length * sz = cs.length ∧ ∀ (i : Nat) (x : List D), rows[i]? = some x → x.length = sz ∧ ∀ (j : Nat) (d : D), x[j]? = some d → ∃ u, cs[i * sz + j]? = some u ∧ u.oneCell' = true ∧ R d u

def rfillD (sz : Nat) : List (List D) → List (Nat × D) → Option (Prop × List (List D))
  | rows, [] => some (True, rows)
  | rows, (i, d) :: r => match rfillD sz (rows.set i (cellsD d)) r with
    | none => none
    | some (c, out) => some (((cellsD d).length = sz ∧ i < rows.length ∧ solidAll (cellsD d) = true) ∧ c, out)
theorem row_lt {i n sz : Nat} (h : i < n) : i * sz + sz ≤ n * sz := by
  have := Nat.mul_le_mul_right sz (show i + 1 ≤ n from h)
  rw [Nat.add_mul] at this
  omega
theorem RepR.set {R : D → Value → Prop} {sz : Nat} {rows : List (List D)} {cs vs : List Value} {ds : List D} {i : Nat} (h : RepR R sz rows cs) (h2 : RepL R ds vs) (hi : i < rows.length) (hl : ds.length = sz) :
    RepR R sz (rows.set i ds) (splice cs (i * sz) vs) := by
  have hb : i * sz + vs.length ≤ cs.length := by
    have := row_lt (sz := sz) hi
    have := h.1
    have := h2.1
    omega
  refine ⟨by rw [splice_length hb, List.length_set]; exact h.1, fun i' x hx => ?_⟩
  rw [List.getElem?_set] at hx
  have hvs : vs.length = sz := by rw [← h2.1, hl]
  by_cases e : i = i'
  · subst e
    rw [if_pos rfl] at hx
    simp only [hi, if_true, Option.some.injEq] at hx
    subst hx
    refine ⟨hl, fun j d hd => ?_⟩
    have hj : j < sz := by have := (List.getElem?_eq_some_iff.1 hd).1; omega
    rw [splice_get hb, if_pos (by omega), show i * sz + j - i * sz = j from by omega]
    exact h2.2 j d hd
  · rw [if_neg e] at hx
    obtain ⟨h3, h4⟩ := h.2 i' x hx
    refine ⟨h3, fun j d hd => ?_⟩
    have hj : j < sz := by have := (List.getElem?_eq_some_iff.1 hd).1; omega
    rw [splice_get hb, if_neg]
    · exact h4 j d hd
    · rw [hvs]
      rcases Nat.lt_or_gt_of_ne e with hlt | hlt
      · have := row_lt (sz := sz) hlt; omega
      · have := row_lt (sz := sz) hlt; omega
theorem rfillD_sound {w : World} {fz : Nat → Prop} {tb : Nat → Nat → Option (Nat × Nat)} {U : Nat → Nat → Prop} {sz : Nat} :
    ∀ {ps : List (Nat × D)} {vs : List (Nat × Value)} {rows : List (List D)} {cs : Array Value} {c : Prop} {out : List (List D)}, rfillD sz rows ps = some (c, out) → c → RepR (Rep w fz tb U) sz rows cs.toList →
    ps.length = vs.length → (∀ (j : Nat) (p : Nat × D) (v : Nat × Value), ps[j]? = some p → vs[j]? = some v → p.1 = v.1 ∧ Rep w fz tb U p.2 v.2) →
    ∃ cs', Instr.fill (fun i => some (i * sz, sz)) cs vs = some cs' ∧ RepR (Rep w fz tb U) sz out cs'.toList ∧ out.length = rows.length := by
  intro ps
  induction ps with
  | nil =>
    intro vs rows cs c out h _ hr hl _
    have : vs = [] := List.eq_nil_of_length_eq_zero hl.symm
    subst this
    simp only [rfillD, Option.some.injEq, Prod.mk.injEq] at h
    obtain ⟨_, rfl⟩ := h
    exact ⟨cs, rfl, hr, rfl⟩
  | cons p ps ih =>
    intro vs rows cs c out h hc hr hl hp
    obtain ⟨i, d⟩ := p
    cases vs with
    | nil => simp at hl
    | cons v vs =>
      obtain ⟨i', v⟩ := v
      obtain ⟨h1, h2⟩ := hp 0 _ _ rfl rfl
      simp only at h1 h2
      subst h1
      unfold rfillD at h
      split at h
      · cases h
      · rename_i c' out' hf
        simp only [Option.some.injEq, Prod.mk.injEq] at h
        obtain ⟨rfl, rfl⟩ := h
        obtain ⟨⟨c1, c2, c3⟩, c4⟩ := hc
        have hrep := RepL.cells h2 c3
        have hsz : v.cells.size = sz := by have := hrep.1; simp at this; omega
        have hcs : cs.size = rows.length * sz := by have := hr.1; simp at this; omega
        have hb := row_lt (sz := sz) c2
        obtain ⟨cs', e1, e2, e3⟩ := ih (cs := (splice cs.toList (i * sz) v.cells.toList).toArray) hf c4 (by simpa using RepR.set hr hrep c2 c1) (by simpa using hl) (fun j p' v' hj hv => hp (j + 1) p' v' (by simpa using hj) (by simpa using hv))
        refine ⟨cs', ?_, e2, by rw [e3, List.length_set]⟩
        unfold Instr.fill
        simp only
        rw [if_neg (by simp only [bne_iff_ne, ne_eq, gt_iff_lt, Bool.or_eq_true, decide_eq_true_eq, not_or]; omega)]
        rw [fill_splice _ _ _ (by omega)]
        exact e1

def buildSliceD (P : Program) (t : TypeId) (len : Nat) (parts : List (Nat × D)) : Option (Prop × D) :=
  match tyI P t with
  | none => none
  | some i => match i.und with
    | .slice e => match tyI P e with
      | none => none
      | some ei => match rfillD ei.size (List.replicate len (zeroD ei.zero)) parts with
        | none => none
        | some (c, out) => some ((solidAll (zeroD ei.zero) = true ∧ (zeroD ei.zero).length = ei.size ∧ 0 < ei.size ∧ len * ei.size ≤ 16777216 ∧ frzRows out = true) ∧ c, .sl true ei.size out)
    | _ => none

theorem rows_zero {w : World} {fz : Nat → Prop} {tb : Nat → Nat → Option (Nat × Nat)} {U : Nat → Nat → Prop} {z : Value} {sz n : Nat} (hs : solidAll (zeroD z) = true) (hl : (zeroD z).length = sz) (h0 : 0 < sz) :
    RepR (Rep w fz tb U) sz (List.replicate n (zeroD z)) ((Array.range (n * sz)).map (fun j => z.cells[j % z.cells.size]!)).toList := by
  have hz : z.cells.size = sz := by simpa [zeroD] using hl
  refine ⟨by simp, fun i x hx => ?_⟩
  rw [List.getElem?_replicate] at hx
  split at hx
  · rename_i hi
    cases hx
    refine ⟨hl, fun j d hd => ?_⟩
    have hj : j < sz := by have := (List.getElem?_eq_some_iff.1 hd).1; omega
    obtain ⟨u, a1, a2, a3⟩ := (RepL.zero (w := w) (fz := fz) (tb := tb) (U := U) hs).2 j d hd
    have hb := row_lt (sz := sz) hi
    refine ⟨u, ?_, a2, a3⟩
    have hmod : (i * sz + j) % sz = j := by rw [Nat.mul_comm, Nat.mul_add_mod]; exact Nat.mod_eq_of_lt hj
    simp only [Array.toList_map, Array.toList_range, List.getElem?_map, List.getElem?_range (show i * sz + j < n * sz by omega), Option.map_some, hz, hmod]
    have : z.cells[j]? = some u := by simpa using a1
    simp [getElem!_def, this]
  · cases hx

section
variable {P : Program} {o : Oper} {opd : Operand → D} {σ : List Slot} {slot : Nat}

/-- A block laid anew, of which no key tells, is frozen. -/
theorem fz_new {B : Base} {σ' : List Slot} {ρ : Nat → Nat × Nat} {w w' : World} (hp : Hp B σ' ρ w) (hs : w.heap.size < w'.heap.size) : Fz B σ' ρ w' w.heap.size :=
  ⟨hs, fun h => by have := hp.n0 _ h; have := hp.size; omega, fun k hk => by have := hp.lt hk; omega⟩

theorem ok_buildSlice {t : TypeId} {len : Nat} {parts : Array (Nat × Operand)} {c : Prop} {d : D} (ho : o.op = .buildSlice t len parts) (h : buildSliceD P t len (parts.toList.map fun q => (q.1, opd q.2)) = some (c, d)) (hc : c) : WriteOk P o opd σ [] slot d [] := by
  intro B σ' ρ ev w hp hx _
  unfold buildSliceD at h
  split at h
  · cases h
  · rename_i i hi
    split at h
    · rename_i e hu
      split at h
      · cases h
      · rename_i ei hei
        split at h
        · cases h
        · rename_i c' out hf
          simp only [Option.some.injEq, Prod.mk.injEq] at h
          obtain ⟨rfl, rfl⟩ := h
          obtain ⟨⟨hz, hzl, h0, h24, hfr⟩, hc'⟩ := hc
          obtain ⟨cs', e1, e2, e3⟩ := rfillD_sound (w := w) (fz := Fz B σ' ρ w) (tb := Tb σ' ρ) (U := used σ') hf hc' (rows_zero (n := len) hz hzl h0)
            (vs := (parts.map fun (i, x) => (i, ev x)).toList) (by simp) (parts_rep (fun p hp' => hx p.2 (by
              rw [ho]
              have : p.2 ∈ parts.map (fun q => q.2) := Array.mem_map.2 ⟨p, hp', rfl⟩
              simpa [Op.operands] using this)))
          have hun := tyI.underlying hi w
          rw [hu] at hun
          have hout : out.length = len := by simpa using e3
          have hrun : (Instr.buildSlice t len (parts.map fun (i, x) => (i, ev x))).run P w = .ok (.slice (some ⟨w.heap.size, 0, none⟩) len len) (w.alloc (.cells cs' e)) := by
            unfold Instr.buildSlice
            rw [Sem.run_bind, hun]
            simp only [Result.andThen]
            rw [Sem.run_bind, tyI.sizeOf hei w]
            simp only [Result.andThen]
            rw [if_neg (by omega)]
            simp only [pure_bind]
            by_cases hl0 : len = 0
            · subst hl0
              simp only [Nat.zero_mul, if_true, pure_bind]
              simp only [Nat.zero_mul] at e1
              have : (Array.map (fun x => (#[] : Array Value)[x % (#[] : Array Value).size]!) (Array.range 0)) = Array.map (fun j => ei.zero.cells[j % ei.zero.cells.size]!) (Array.range 0) := by simp
              rw [this, e1]
              simp [newRow]
            · have hne : len * ei.size ≠ 0 := Nat.mul_ne_zero hl0 (by omega)
              have e1' : Instr.fill (fun i => some (i * ei.size, ei.size)) (Array.map (fun j => ei.zero.cells[j % ei.zero.cells.size]!) (Array.range (len * ei.size))) (Array.map (fun x => (x.fst, ev x.snd)) parts).toList = some cs' := e1
              rw [if_neg hne]
              rw [Sem.run_bind, tyI.zeroValue hei w]
              simp only [Result.andThen]
              rw [e1']
              simp [newRow]
          have hmv := put_frozen hp (Wr.alloc w (.cells cs' e))
          refine ⟨_, ρ, hmv.2, hmv.1, .inr ⟨.slice (some ⟨w.heap.size, 0, none⟩) len len, ?_, .fro _ _ ?_⟩⟩
          · simp only [execOp, ho]
            exact lift_value hrun
          · show RepF _ (Fz B σ' ρ _) _ _
            by_cases hl0 : len = 0
            · have : out = [] := List.eq_nil_of_length_eq_zero (by omega)
              rw [this, hl0]
              exact .sl0 _ _ _ _ (fun _ => rfl)
            · have hcells : ∀ (i : Nat) (x : List D) (j : Nat) (d : D), out[i]? = some x → x[j]? = some d → ∃ u, cs'.toList[i * ei.size + j]? = some u ∧ u.oneCell' = true ∧ Rp B σ' ρ w d u := fun i x j d hi hj => (e2.2 i x hi).2 j d hj
              refine .sl true _ _ w.heap.size 0 len len (fun i j => (cs'.toList[i * ei.size + j]?).getD undef) hout.symm (by omega) (Nat.le_refl _) (fun _ => rfl) (fz_new hp (by simp)) (fun x hx => ?_) (fun i x j d hi hj => ?_) (fun i x j d hi hj => ?_)
              · obtain ⟨i, hi⟩ := List.mem_iff_getElem?.1 hx
                exact (e2.2 i x hi).1
              · obtain ⟨u, a1, a2, a3⟩ := hcells i x j d hi hj
                simp only [a1, Option.getD_some]
                refine ⟨?_, a2⟩
                rw [Nat.zero_add]
                exact cell_at (heap_alloc_new w _) (by simpa using a1)
              · obtain ⟨u, a1, a2, a3⟩ := hcells i x j d hi hj
                simp only [a1, Option.getD_some]
                exact (hmv.1.rp a3).frz (frzAll_get (frzRows_get hfr hi) hj)
    · cases h
end
end Go.Proofs.Ytabliglgeiajlaa.AM
