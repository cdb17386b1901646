/- The abstract machine: a block is written, or laid anew. -/
import Derived.Test.YtabliglgeiajlaaAm14
import Derived.Laws.AppendOwn
set_option linter.unusedSimpArgs false
set_option linter.unusedVariables false
namespace Go.Proofs.Ytabliglgeiajlaa.AM
open Go Go.RowKit

def updρ (ρ : Nat → Nat × Nat) (k : Nat) (p : Nat × Nat) : Nat → Nat × Nat := fun j => if j = k then p else ρ j
theorem updρ_self {ρ : Nat → Nat × Nat} {k : Nat} {p : Nat × Nat} : updρ ρ k p k = p := by simp [updρ]
theorem updρ_ne {ρ : Nat → Nat × Nat} {k j : Nat} {p : Nat × Nat} (h : j ≠ k) : updρ ρ k p j = ρ j := by simp [updρ, h]

/-- The worlds differ at one block at most. -/
structure Wr (w w' : World) (b : Nat) : Prop where
  size : w.heap.size ≤ w'.heap.size
  keep : ∀ j, j < w.heap.size → j ≠ b → w'.heap[j]? = w.heap[j]?
  os : w'.os = w.os
  tape : w'.tape = w.tape
  output : w'.output = w.output

/-- **A key's block is written** (or the key gets a new block). -/
theorem put_ent {B : Base} {σ : List Slot} {ρ : Nat → Nat × Nat} {w w' : World} (h : Hp B σ ρ w) {k : Nat} {e' : Ent} {b cap : Nat} (hw : Wr w w' b)
    (hk : (σ[k]? = some .free ∧ b = w.heap.size) ∨ ∃ e, σ[k]? = some (.ent e) ∧ ((e.gen ≤ e'.gen ∧ (b, cap) = ρ k) ∨ (e.gen < e'.gen ∧ b = w.heap.size)))
    (hent : ∃ (cs : Array Value) (o : Obj), w'.heap[b]? = some o ∧ objOf e' cs o ∧ szOk e' cs (b, cap) ∧
      ∀ (j : Nat) (d : D), e'.cells[j]? = some d → ∃ u, cs[j]? = some u ∧ (e'.kd = .cells → u.oneCell' = true) ∧ Rp B σ ρ w d u) :
    Move B σ ρ w (σ.set k (.ent e')) (updρ ρ k (b, cap)) w' ∧ Hp B (σ.set k (.ent e')) (updρ ρ k (b, cap)) w' := by
  have hlt : k < σ.length := by
    rcases hk with ⟨h, _⟩ | ⟨e, h, _⟩ <;> exact (List.getElem?_eq_some_iff.1 h).1
  have hget : ∀ j, (σ.set k (.ent e'))[j]? = if j = k then some (.ent e') else σ[j]? := by
    intro j
    rw [List.getElem?_set]
    by_cases hj : k = j
    · subst hj; simp [hlt]
    · rw [if_neg hj, if_neg (fun h => hj h.symm)]
  have hbcase : (live σ k ∧ (b, cap) = ρ k) ∨ b = w.heap.size := by
    rcases hk with ⟨_, h⟩ | ⟨e, h, ⟨_, h'⟩ | ⟨_, h'⟩⟩
    · exact .inr h
    · exact .inl ⟨⟨e, h⟩, h'⟩
    · exact .inr h'
  have hlive : ∀ j, live (σ.set k (.ent e')) j → j = k ∨ (j ≠ k ∧ live σ j) := by
    rintro j ⟨e, he⟩
    rw [hget] at he
    by_cases hj : j = k
    · exact .inl hj
    · rw [if_neg hj] at he; exact .inr ⟨hj, e, he⟩
  -- no other live key has this block
  have hother : ∀ j, j ≠ k → live σ j → (ρ j).1 ≠ b := by
    intro j hj hl hb
    rcases hbcase with ⟨hlk, h'⟩ | h'
    · exact hj (h.inj j k hl hlk (by rw [hb, ← h']))
    · have := h.lt hl; omega
  have hmove : Move B σ ρ w (σ.set k (.ent e')) (updρ ρ k (b, cap)) w' := {
    size := hw.size
    keep := fun j hj hnl => hw.keep j hj (fun hb => by
      rcases hbcase with ⟨hlk, h'⟩ | h'
      · exact hnl k hlk (by rw [← h', hb])
      · omega)
    lives := fun j hj => by
      rcases hlive j hj with rfl | ⟨hj, hl⟩
      · rw [updρ_self]
        rcases hbcase with ⟨hlk, h'⟩ | h'
        · exact .inl ⟨j, hlk, by rw [← h']⟩
        · exact .inr (by show _ ≤ b; omega)
      · rw [updρ_ne hj]; exact .inl ⟨j, hl, rfl⟩
    uses := fun j g ⟨s, hs, hg⟩ => by
      by_cases hj : j = k
      · subst hj
        refine ⟨.ent e', by rw [hget, if_pos rfl], ?_⟩
        rcases hk with ⟨h1, _⟩ | ⟨e, h1, h2⟩
        · rw [h1] at hs; cases hs; exact hg.elim
        · rw [h1] at hs; cases hs
          have hg' : g ≤ e.gen := hg
          show g ≤ e'.gen
          rcases h2 with ⟨h2, _⟩ | ⟨h2, _⟩ <;> omega
      · exact ⟨s, by rw [hget, if_neg hj]; exact hs, hg⟩
    tabs := fun j g p ⟨s, hs, hg⟩ ht => by
      obtain ⟨e2, he2, hg2, hp2⟩ := Tb.live ht
      rw [hget] at he2
      by_cases hj : j = k
      · subst hj
        rw [if_pos rfl] at he2
        simp only [Option.some.injEq, Slot.ent.injEq] at he2
        subst he2
        rw [updρ_self] at hp2
        rcases hk with ⟨h1, _⟩ | ⟨e, h1, h2⟩
        · rw [h1] at hs; cases hs; exact hg.elim
        · rw [h1] at hs; cases hs
          have hg' : g ≤ e.gen := hg
          rcases h2 with ⟨h2, h3⟩ | ⟨h2, _⟩
          · have he : e.gen = g := by omega
            rw [← he, Tb.of h1, ← h3, hp2]
          · omega
      · rw [if_neg hj] at he2
        rw [updρ_ne hj] at hp2
        have := Tb.of (ρ := ρ) he2
        rw [hg2, hp2] at this
        exact this }
  refine ⟨hmove, hmove.hp h hw.os hw.tape hw.output (fun j e he => ?_) (fun j j' hj hj' hb => ?_)⟩
  · rw [hget] at he
    by_cases hj : j = k
    · subst hj
      rw [if_pos rfl] at he
      simp only [Option.some.injEq, Slot.ent.injEq] at he
      subst he
      rw [updρ_self]
      obtain ⟨cs, o, h1, h0, h2, h3⟩ := hent
      exact ⟨cs, o, h1, h0, h2, fun j d hd => let ⟨u, a1, a2, a3⟩ := h3 j d hd; ⟨u, a1, a2, hmove.rp a3⟩⟩
    · rw [if_neg hj] at he
      rw [updρ_ne hj]
      exact hmove.entOk (h.ent j e he) (hw.keep _ (h.lt ⟨e, he⟩) (hother j hj ⟨e, he⟩))
  · rcases hlive j hj with rfl | ⟨h1, h2⟩ <;> rcases hlive j' hj' with rfl | ⟨h1', h2'⟩
    · rfl
    · rw [updρ_self, updρ_ne h1'] at hb
      exact absurd hb.symm (hother j' h1' h2')
    · rw [updρ_self, updρ_ne h1] at hb
      exact absurd hb (hother j h1 h2)
    · rw [updρ_ne h1, updρ_ne h1'] at hb
      exact h.inj j j' h2 h2' hb

theorem put_entC {B : Base} {σ : List Slot} {ρ : Nat → Nat × Nat} {w w' : World} (h : Hp B σ ρ w) {k : Nat} {e' : Ent} {b cap : Nat} (hw : Wr w w' b)
    (hk : (σ[k]? = some .free ∧ b = w.heap.size) ∨ ∃ e, σ[k]? = some (.ent e) ∧ ((e.gen ≤ e'.gen ∧ (b, cap) = ρ k) ∨ (e.gen < e'.gen ∧ b = w.heap.size)))
    (hkd : e'.kd = .cells)
    (hent : ∃ cs : Array Value, w'.heap[b]? = some (.cells cs e'.ty (0, 0)) ∧ (match e'.arr with | none => cs.size = e'.cells.length | some sz => cs.size = cap * sz ∧ e'.cells.length ≤ cs.size) ∧
      ∀ (j : Nat) (d : D), e'.cells[j]? = some d → ∃ u, cs[j]? = some u ∧ u.oneCell' = true ∧ Rp B σ ρ w d u) :
    Move B σ ρ w (σ.set k (.ent e')) (updρ ρ k (b, cap)) w' ∧ Hp B (σ.set k (.ent e')) (updρ ρ k (b, cap)) w' := by
  obtain ⟨cs, h1, h2, h3⟩ := hent
  refine put_ent h hw hk ⟨cs, _, h1, ?_, ?_, fun j d hd => let ⟨u, a1, a2, a3⟩ := h3 j d hd; ⟨u, a1, fun _ => a2, a3⟩⟩
  · unfold objOf; rw [hkd]
  · unfold szOk; rw [hkd]; exact h2

/-- A new block that belongs to no key: it is frozen at once. -/
theorem put_frozen {B : Base} {σ : List Slot} {ρ : Nat → Nat × Nat} {w w' : World} (h : Hp B σ ρ w) (hw : Wr w w' w.heap.size) : Move B σ ρ w σ ρ w' ∧ Hp B σ ρ w' := by
  have hmove : Move B σ ρ w σ ρ w' := {
    size := hw.size
    keep := fun j hj _ => hw.keep j hj (by omega)
    lives := fun j hj => .inl ⟨j, hj, rfl⟩
    uses := fun _ _ h => h
    tabs := fun _ _ _ _ h => h }
  exact ⟨hmove, hmove.hp h hw.os hw.tape hw.output (fun j e he => hmove.entOk (h.ent j e he) (hw.keep _ (h.lt ⟨e, he⟩) (by have := h.lt ⟨e, he⟩; omega))) h.inj⟩

theorem Wr.alloc (w : World) (o : Obj) : Wr w (w.alloc o) w.heap.size where
  size := by simp
  keep := fun j hj _ => heap_alloc_old w o hj
  os := rfl
  tape := rfl
  output := rfl
theorem Wr.drew_alloc (w : World) (o : Obj) : Wr w (w.drew.alloc o) w.heap.size where
  size := by rw [World.size_alloc]; exact Nat.le_succ _
  keep := fun j hj _ => heap_alloc_old w.drew o hj
  os := rfl
  tape := rfl
  output := rfl
theorem Wr.setRow (w : World) (g : Nat) (cs : Array Value) : Wr w (w.setRow g cs) g where
  size := by simp [World.setRow]
  keep := fun j hj hne => setRow_other w g j cs hne
  os := rfl
  tape := rfl
  output := rfl

/-- An operation that writes: what it comes to, and the store. -/
def WriteOk (P : Program) (o : Oper) (opd : Operand → D) (σ : List Slot) (rd : List Nat) (slot : Nat) (val : D) (sets : List (Nat × Slot)) : Prop :=
  ∀ (B : Base) (σ' : List Slot) (ρ : Nat → Nat × Nat) (ev : Operand → Value) (w : World), Hp B σ' ρ w → (∀ x ∈ o.op.operands, Rp B σ' ρ w (opd x) (ev x)) → (∀ k, k = slot ∨ k ∈ rd → σ'[k]? = σ[k]?) →
    ∃ w' ρ', Hp B (setsF σ' sets) ρ' w' ∧ Move B σ' ρ w (setsF σ' sets) ρ' w' ∧
      (((execOp ev o).run P w = .ok .skip w' ∧ val = .v undef) ∨ ∃ u, (execOp ev o).run P w = .ok (.value u) w' ∧ Rp B (setsF σ' sets) ρ' w' val u)

theorem WriteOk.opS {P : Program} {ro : Option Nat} {o : Oper} {opd : Operand → D} {σ : List Slot} {rd : List Nat} {val : D} {slot : Nat} {sets : List (Nat × Slot)} (h : WriteOk P o opd σ rd slot val sets) (hd : ∀ c, o.op ≠ .defer c) : OpS P ro o opd σ rd slot ⟨val, sets⟩ := by
  intro B st a w hopd hσ hrel next Q hnext
  obtain ⟨ρ, hp, hfr, hmk⟩ := hrel
  obtain ⟨w', ρ', hp', hm, hr⟩ := h B st.σ ρ a.eval w hp (fun x hx => by rw [← hopd x hx]; exact hfr.eval x) hσ
  refine ⟨fun _ _ => trivial, ?_⟩
  rw [Oper.semAt_eq _ _ _ hd]
  rcases hr with ⟨hrun, rfl⟩ | ⟨u, hrun, hu⟩
  · rw [hrun, Oper.uponIn_skip]
    exact hnext _ _ ⟨ρ', hp', FrOk.put (fr := st.fr) (hm.frOk (fr := st.fr) hfr) o.dst (.fro _ _ (.v undef)), (hm.marks hp hmk).put o.dst undef⟩
  · rw [hrun, Oper.uponIn_value]
    exact hnext _ _ ⟨ρ', hp', FrOk.put (fr := st.fr) (hm.frOk (fr := st.fr) hfr) o.dst hu, (hm.marks hp hmk).put o.dst u⟩

end Go.Proofs.Ytabliglgeiajlaa.AM
