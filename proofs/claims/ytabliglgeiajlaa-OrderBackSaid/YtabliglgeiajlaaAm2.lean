/- The abstract machine: states, and how they stand to a world. -/
import Derived.Test.YtabliglgeiajlaaAm1
set_option linter.unusedSimpArgs false
set_option linter.unusedVariables false
namespace Go.Proofs.Ytabliglgeiajlaa.AM
open Go Go.RowKit

/-- Kinds of own blocks: cells; the record of a loop over a function; a map with these keys. -/
inductive Kd where
  | cells
  | loop (r : Loop)
  | map (keys : List Value)

/-- An own block: a box (arr = none), or an array of elements of so many cells; or a loop's record (cells: its temporaries), or a map (cells: its values). -/
structure Ent where
  gen : Nat
  arr : Option Nat
  ty : TypeId
  cells : List D
  kd : Kd

inductive Slot where
  | free
  | dead
  | ent (e : Ent)

structure St where
  fr : List D
  σ : List Slot

/-- What holds through a call: the world at its begin, the blocks that it may write, the blocks that are not its own. -/
structure Base where
  w0 : World
  E0 : Nat → Prop
  N0 : Nat → Prop
  σ0 : List Slot
  ρ0 : Nat → Nat × Nat
  m0 : Nat

def live (σ : List Slot) (k : Nat) : Prop := ∃ e, σ[k]? = some (.ent e)
/-- A key and a generation that have been. -/
def genOk : Slot → Nat → Prop
  | .free, _ => False
  | .dead, _ => True
  | .ent e, g => g ≤ e.gen
def used (σ : List Slot) (k g : Nat) : Prop := ∃ s, σ[k]? = some s ∧ genOk s g
def Fz (B : Base) (σ : List Slot) (ρ : Nat → Nat × Nat) (w : World) (b : Nat) : Prop := b < w.heap.size ∧ ¬ B.N0 b ∧ ∀ k, live σ k → (ρ k).1 ≠ b
def Tb (σ : List Slot) (ρ : Nat → Nat × Nat) (k g : Nat) : Option (Nat × Nat) :=
  match σ[k]? with
  | some (.ent e) => if e.gen = g then some (ρ k) else none
  | _ => none
theorem Tb.of {σ : List Slot} {ρ : Nat → Nat × Nat} {k : Nat} {e : Ent} (h : σ[k]? = some (.ent e)) : Tb σ ρ k e.gen = some (ρ k) := by simp [Tb, h]
theorem Tb.live {σ : List Slot} {ρ : Nat → Nat × Nat} {k g : Nat} {p : Nat × Nat} (h : Tb σ ρ k g = some p) : ∃ e, σ[k]? = some (.ent e) ∧ e.gen = g ∧ ρ k = p := by
  unfold Tb at h
  split at h
  · rename_i e he
    by_cases hg : e.gen = g
    · rw [if_pos hg] at h
      exact ⟨e, he, hg, by simpa using h⟩
    · rw [if_neg hg] at h; cases h
  · cases h

def objOf (e : Ent) (cs : Array Value) (o : Obj) : Prop := match e.kd with
  | .cells => o = .cells cs e.ty (0, 0)
  | .loop r => o = .loop { r with tmps := cs }
  | .map keys => ∃ es clock, o = .map es clock ∧ es.toList.map (·.key) = keys ∧ es.map (·.val) = cs
def szOk (e : Ent) (cs : Array Value) (p : Nat × Nat) : Prop := match e.kd with
  | .cells => match e.arr with | none => cs.size = e.cells.length | some sz => cs.size = p.2 * sz ∧ e.cells.length ≤ cs.size
  | _ => cs.size = e.cells.length
theorem objOf_deferred {e : Ent} {cs : Array Value} {x : Option (List Deferred)} (h : objOf e cs (.deferred x)) : False := by
  unfold objOf at h
  split at h
  · cases h
  · cases h
  · obtain ⟨_, _, h, _⟩ := h; cases h
def EntOk (w : World) (fz : Nat → Prop) (tb : Nat → Nat → Option (Nat × Nat)) (U : Nat → Nat → Prop) (e : Ent) (p : Nat × Nat) : Prop :=
  ∃ (cs : Array Value) (o : Obj), w.heap[p.1]? = some o ∧ objOf e cs o ∧ szOk e cs p ∧
    ∀ (j : Nat) (d : D), e.cells[j]? = some d → ∃ u, cs[j]? = some u ∧ (e.kd = .cells → u.oneCell' = true) ∧ Rep w fz tb U d u
theorem EntOk.row {w : World} {fz : Nat → Prop} {tb : Nat → Nat → Option (Nat × Nat)} {U : Nat → Nat → Prop} {e : Ent} {p : Nat × Nat} (h : EntOk w fz tb U e p) (hk : e.kd = .cells) :
    ∃ cs : Array Value, w.heap[p.1]? = some (.cells cs e.ty (0, 0)) ∧ (match e.arr with | none => cs.size = e.cells.length | some sz => cs.size = p.2 * sz ∧ e.cells.length ≤ cs.size) ∧
    ∀ (j : Nat) (d : D), e.cells[j]? = some d → ∃ u, cs[j]? = some u ∧ u.oneCell' = true ∧ Rep w fz tb U d u := by
  obtain ⟨cs, o, h1, h2, h3, h4⟩ := h
  unfold objOf at h2
  unfold szOk at h3
  rw [hk] at h2 h3
  subst h2
  exact ⟨cs, h1, h3, fun j d hd => let ⟨u, a1, a2, a3⟩ := h4 j d hd; ⟨u, a1, a2 hk, a3⟩⟩
theorem EntOk.of_row {w : World} {fz : Nat → Prop} {tb : Nat → Nat → Option (Nat × Nat)} {U : Nat → Nat → Prop} {e : Ent} {p : Nat × Nat} (hk : e.kd = .cells)
    (h : ∃ cs : Array Value, w.heap[p.1]? = some (.cells cs e.ty (0, 0)) ∧ (match e.arr with | none => cs.size = e.cells.length | some sz => cs.size = p.2 * sz ∧ e.cells.length ≤ cs.size) ∧
    ∀ (j : Nat) (d : D), e.cells[j]? = some d → ∃ u, cs[j]? = some u ∧ u.oneCell' = true ∧ Rep w fz tb U d u) : EntOk w fz tb U e p := by
  obtain ⟨cs, h1, h2, h3⟩ := h
  refine ⟨cs, _, h1, ?_, ?_, fun j d hd => let ⟨u, a1, a2, a3⟩ := h3 j d hd; ⟨u, a1, fun _ => a2, a3⟩⟩
  · unfold objOf; rw [hk]
  · unfold szOk; rw [hk]; exact h2

structure Hp (B : Base) (σ : List Slot) (ρ : Nat → Nat × Nat) (w : World) : Prop where
  ent : ∀ k e, σ[k]? = some (.ent e) → EntOk w (Fz B σ ρ w) (Tb σ ρ) (used σ) e (ρ k)
  inj : ∀ k k', live σ k → live σ k' → (ρ k).1 = (ρ k').1 → k = k'
  nf : ∀ k, live σ k → ¬ B.N0 (ρ k).1
  own : ∀ k, live σ k → B.E0 (ρ k).1 ∨ B.w0.heap.size ≤ (ρ k).1
  size : B.w0.heap.size ≤ w.heap.size
  os : w.os = B.w0.os
  tape : w.tape = B.w0.tape
  output : w.output = B.w0.output
  base : ∀ b, b < B.w0.heap.size → ¬ B.E0 b → w.heap[b]? = B.w0.heap[b]?
  n0 : ∀ b, B.N0 b → b < B.w0.heap.size
  m0 : B.m0 ≤ B.w0.heap.size
  hist : ∀ k g, used B.σ0 k g → used σ k g ∧ ∀ p, Tb σ ρ k g = some p → Tb B.σ0 B.ρ0 k g = some p

theorem Hp.lt {B : Base} {σ : List Slot} {ρ : Nat → Nat × Nat} {w : World} (h : Hp B σ ρ w) {k : Nat} (hk : live σ k) : (ρ k).1 < w.heap.size := by
  obtain ⟨e, he⟩ := hk
  obtain ⟨cs, o, hc, _⟩ := h.ent k e he
  exact (Array.getElem?_eq_some_iff.1 hc).1

/-- A value that a state's letters tell. -/
abbrev Rp (B : Base) (σ : List Slot) (ρ : Nat → Nat × Nat) (w : World) (d : D) (u : Value) : Prop := Rep w (Fz B σ ρ w) (Tb σ ρ) (used σ) d u

def FrOk (B : Base) (st : St) (ρ : Nat → Nat × Nat) (tmps : Array Value) (w : World) : Prop :=
  st.fr.length = tmps.size ∧ ∀ (t : Nat) (d : D), st.fr[t]? = some d → ∃ u, tmps[t]? = some u ∧ Rp B st.σ ρ w d u

/-- The marks that loops over iterators leave among the deferred calls: each of a block of its own, which holds no call. -/
def markOf (D : Nat) : Deferred := { target := .collected D, args := #[] }
def Marks (B : Base) (a : Act) (w : World) : Prop := ∃ Ds : List Nat, a.defers = Ds.map markOf ∧ Ds.Nodup ∧ ∀ D ∈ Ds, B.m0 ≤ D ∧ w.heap[D]? = some (.deferred (some []))

def Rel (B : Base) (st : St) (a : Act) (w : World) : Prop := ∃ ρ, Hp B st.σ ρ w ∧ FrOk B st ρ a.tmps w ∧ Marks B a w

/-! ### What is put into a temporary -/
def putF (fr : List D) (dst : Option Nat) (d : D) : List D := match dst with | some t => fr.set t d | none => fr

theorem FrOk.put {B : Base} {fr : List D} {σ : List Slot} {ρ : Nat → Nat × Nat} {a : Act} {w : World} (h : FrOk B ⟨fr, σ⟩ ρ a.tmps w) (dst : Option Nat) {d : D} {u : Value} (hd : Rp B σ ρ w d u) :
    FrOk B ⟨putF fr dst d, σ⟩ ρ (a.put dst u).tmps w := by
  cases dst with
  | none => exact h
  | some t =>
    obtain ⟨hl, hr⟩ := h
    refine ⟨by simpa [putF, Act.put] using hl, fun s d' hs => ?_⟩
    simp only [putF, List.getElem?_set] at hs
    simp only [Act.put, Array.getElem?_setIfInBounds]
    by_cases e : t = s
    · subst e
      by_cases hlt : t < fr.length
      · have hlt' : t < a.tmps.size := by have : fr.length = a.tmps.size := hl; omega
        simp only [if_true, hlt] at hs
        cases hs
        exact ⟨u, by simp [hlt'], hd⟩
      · simp [hlt] at hs
    · rw [if_neg e] at hs
      rw [if_neg e]
      exact hr s d' hs

theorem Marks.put {B : Base} {a : Act} {w : World} (h : Marks B a w) (dst : Option Nat) (u : Value) : Marks B (a.put dst u) w := by
  cases dst <;> exact h

/-- The world is as it was, but for what has been drawn. -/
theorem Hp.of_heap {B : Base} {σ : List Slot} {ρ : Nat → Nat × Nat} {w w' : World} (h : Hp B σ ρ w) (hh : w'.heap = w.heap) (ho : w'.os = w.os) (ht : w'.tape = w.tape) (hp : w'.output = w.output) : Hp B σ ρ w' where
  ent := fun k e he => by
    obtain ⟨cs, o, h1, h0, h2, h3⟩ := h.ent k e he
    exact ⟨cs, o, by rw [hh]; exact h1, h0, h2, fun j d hd => let ⟨u, a1, a2, a3⟩ := h3 j d hd; ⟨u, a1, a2, a3.mono (fun b hb => ⟨by rw [hh]; exact hb.1, hb.2⟩) (fun b _ _ => by rw [hh]) (fun _ _ x => x) (fun _ _ _ _ x => x)⟩⟩
  inj := h.inj
  nf := h.nf
  own := h.own
  size := by rw [hh]; exact h.size
  os := ho.trans h.os
  tape := ht.trans h.tape
  output := hp.trans h.output
  base := fun b hb hE => by rw [hh]; exact h.base b hb hE
  n0 := h.n0
  m0 := h.m0
  hist := h.hist

theorem Rp.of_heap {B : Base} {σ : List Slot} {ρ : Nat → Nat × Nat} {w w' : World} (hh : w'.heap = w.heap) {d : D} {u : Value} (h : Rp B σ ρ w d u) : Rp B σ ρ w' d u :=
  h.mono (fun b hb => ⟨by rw [hh]; exact hb.1, hb.2⟩) (fun b _ _ => by rw [hh]) (fun _ _ x => x) (fun _ _ _ _ x => x)

theorem Rel.of_heap {B : Base} {st : St} {a : Act} {w w' : World} (h : Rel B st a w) (hh : w'.heap = w.heap) (ho : w'.os = w.os) (ht : w'.tape = w.tape) (hp : w'.output = w.output) : Rel B st a w' := by
  obtain ⟨ρ, h1, ⟨h2, h3⟩, h4⟩ := h
  exact ⟨ρ, h1.of_heap hh ho ht hp, ⟨h2, fun t d hd => let ⟨u, a1, a2⟩ := h3 t d hd; ⟨u, a1, Rp.of_heap hh a2⟩⟩, let ⟨Ds, e, n, x⟩ := h4; ⟨Ds, e, n, fun D hD => ⟨(x D hD).1, by rw [hh]; exact (x D hD).2⟩⟩⟩

/-! ### The general step of a world: some own blocks are written, new ones are laid -/
/-- From (σ, ρ, w) to (σ', ρ', w'): what is read stays. -/
structure Move (B : Base) (σ : List Slot) (ρ : Nat → Nat × Nat) (w : World) (σ' : List Slot) (ρ' : Nat → Nat × Nat) (w' : World) : Prop where
  size : w.heap.size ≤ w'.heap.size
  keep : ∀ b, b < w.heap.size → (∀ k, live σ k → (ρ k).1 ≠ b) → w'.heap[b]? = w.heap[b]?
  lives : ∀ k, live σ' k → (∃ k', live σ k' ∧ (ρ' k).1 = (ρ k').1) ∨ w.heap.size ≤ (ρ' k).1
  uses : ∀ k g, used σ k g → used σ' k g
  tabs : ∀ k g p, used σ k g → Tb σ' ρ' k g = some p → Tb σ ρ k g = some p

theorem Move.fz {B : Base} {σ σ' : List Slot} {ρ ρ' : Nat → Nat × Nat} {w w' : World} (m : Move B σ ρ w σ' ρ' w') (b : Nat) (hb : Fz B σ ρ w b) : Fz B σ' ρ' w' b :=
  ⟨Nat.lt_of_lt_of_le hb.1 m.size, hb.2.1, fun k hk => by
    rcases m.lives k hk with ⟨k', h1, h2⟩ | h1
    · rw [h2]; exact hb.2.2 k' h1
    · have := hb.1; omega⟩
theorem Move.rp {B : Base} {σ σ' : List Slot} {ρ ρ' : Nat → Nat × Nat} {w w' : World} (m : Move B σ ρ w σ' ρ' w') {d : D} {u : Value} (h : Rp B σ ρ w d u) : Rp B σ' ρ' w' d u :=
  h.mono m.fz (fun b hb _ => m.keep b hb.1 hb.2.2) m.uses m.tabs
theorem Move.frOk {B : Base} {fr : List D} {σ σ' : List Slot} {ρ ρ' : Nat → Nat × Nat} {w w' : World} (m : Move B σ ρ w σ' ρ' w') {tmps : Array Value} (h : FrOk B ⟨fr, σ⟩ ρ tmps w) : FrOk B ⟨fr, σ'⟩ ρ' tmps w' :=
  ⟨h.1, fun t d hd => let ⟨u, a1, a2⟩ := h.2 t d hd; ⟨u, a1, m.rp a2⟩⟩
theorem Move.marks {B : Base} {σ σ' : List Slot} {ρ ρ' : Nat → Nat × Nat} {w w' : World} (m : Move B σ ρ w σ' ρ' w') (hp : Hp B σ ρ w) {a : Act} (h : Marks B a w) : Marks B a w' := by
  obtain ⟨Ds, e, n, x⟩ := h
  refine ⟨Ds, e, n, fun D hD => ⟨(x D hD).1, ?_⟩⟩
  have x := (x D hD).2
  rw [m.keep D (Array.getElem?_eq_some_iff.1 x).1 (fun k hk => by
    rintro rfl
    obtain ⟨en, he⟩ := hk
    obtain ⟨cs, o, hc, ho, _⟩ := hp.ent k en he
    rw [x] at hc; cases hc; exact objOf_deferred ho)]
  exact x

theorem Move.hp {B : Base} {σ σ' : List Slot} {ρ ρ' : Nat → Nat × Nat} {w w' : World} (m : Move B σ ρ w σ' ρ' w') (h : Hp B σ ρ w) (ho : w'.os = w.os) (ht : w'.tape = w.tape) (hq : w'.output = w.output)
    (hent : ∀ k e, σ'[k]? = some (.ent e) → EntOk w' (Fz B σ' ρ' w') (Tb σ' ρ') (used σ') e (ρ' k))
    (hinj : ∀ k k', live σ' k → live σ' k' → (ρ' k).1 = (ρ' k').1 → k = k') : Hp B σ' ρ' w' where
  ent := hent
  inj := hinj
  nf := fun k hk => by
    rcases m.lives k hk with ⟨k', a1, a2⟩ | a1
    · rw [a2]; exact h.nf k' a1
    · intro hn; have := h.n0 _ hn; have := h.size; omega
  own := fun k hk => by
    rcases m.lives k hk with ⟨k', a1, a2⟩ | a1
    · rw [a2]; exact h.own k' a1
    · exact .inr (Nat.le_trans h.size a1)
  size := Nat.le_trans h.size m.size
  os := ho.trans h.os
  tape := ht.trans h.tape
  output := hq.trans h.output
  base := fun b hb hE => by
    rw [m.keep b (Nat.lt_of_lt_of_le hb h.size) (fun k hk e => by
      rcases h.own k hk with x | x
      · rw [e] at x; exact hE x
      · omega)]
    exact h.base b hb hE
  n0 := h.n0
  m0 := h.m0
  hist := fun k g hk => ⟨m.uses k g (h.hist k g hk).1, fun p hp => (h.hist k g hk).2 p (m.tabs k g p (h.hist k g hk).1 hp)⟩

/-- An entry that is as it was, and whose block is as it was. -/
theorem Move.entOk {B : Base} {σ σ' : List Slot} {ρ ρ' : Nat → Nat × Nat} {w w' : World} (m : Move B σ ρ w σ' ρ' w') {e : Ent} {p : Nat × Nat} (h : EntOk w (Fz B σ ρ w) (Tb σ ρ) (used σ) e p) (hb : w'.heap[p.1]? = w.heap[p.1]?) :
    EntOk w' (Fz B σ' ρ' w') (Tb σ' ρ') (used σ') e p := by
  obtain ⟨cs, o, h1, h0, h2, h3⟩ := h
  exact ⟨cs, o, hb.trans h1, h0, h2, fun j d hd => let ⟨u, a1, a2, a3⟩ := h3 j d hd; ⟨u, a1, a2, m.rp a3⟩⟩

end Go.Proofs.Ytabliglgeiajlaa.AM
