/- The abstract machine: an own block is frozen; functions as they are called. -/
import Derived.Test.YtabliglgeiajlaaAm22
set_option linter.unusedSimpArgs false
set_option linter.unusedVariables false
namespace Go.Proofs.Ytabliglgeiajlaa.AM
open Go Go.RowKit

def chunk (sz : Nat) : Nat → List D → List (List D)
  | 0, _ => []
  | n + 1, l => l.take sz :: chunk sz n (l.drop sz)
theorem chunk_length {sz n : Nat} {l : List D} : (chunk sz n l).length = n := by
  induction n generalizing l with
  | zero => rfl
  | succ n ih => simp [chunk, ih]
theorem chunk_get {sz : Nat} : ∀ {n : Nat} {l : List D} {i : Nat} {x : List D}, (chunk sz n l)[i]? = some x → n * sz ≤ l.length → x.length = sz ∧ ∀ (j : Nat) (d : D), x[j]? = some d → l[i * sz + j]? = some d := by
  intro n
  induction n with
  | zero => intro l i x h; simp [chunk] at h
  | succ n ih =>
    intro l i x h hl
    rw [Nat.add_mul] at hl
    cases i with
    | zero =>
      simp only [chunk, List.getElem?_cons_zero, Option.some.injEq] at h
      subst h
      refine ⟨by simp; omega, fun j d hd => ?_⟩
      have hj : j < sz := by have := (List.getElem?_eq_some_iff.1 hd).1; simp at this; omega
      rw [List.getElem?_take_of_lt hj] at hd
      rw [Nat.zero_mul, Nat.zero_add]; exact hd
    | succ i =>
      simp only [chunk, List.getElem?_cons_succ] at h
      obtain ⟨h1, h2⟩ := ih h (by simp; omega)
      refine ⟨h1, fun j d hd => ?_⟩
      have := h2 j d hd
      rw [List.getElem?_drop] at this
      rw [Nat.add_mul, show i * sz + 1 * sz + j = sz + (i * sz + j) from by omega]
      exact this
/-- Rows of one cell. -/
theorem chunk_one {α : Type} (f : α → D) (l : List α) : chunk 1 l.length (l.map f) = l.map fun x => [f x] := by
  induction l with
  | nil => rfl
  | cons a l ih => simp [chunk, ih]

/-! ### Frozen -/
def sameB (j h k g : Nat) : Bool := match Nat.beq j k with
  | true => Nat.beq h g
  | false => false
theorem sameB_eq {j h k g : Nat} (e : sameB j h k g = true) : j = k ∧ h = g := by
  unfold sameB at e
  split at e
  · rename_i e'; exact ⟨Nat.eq_of_beq_eq_true e', Nat.eq_of_beq_eq_true e⟩
  · cases e
def fr0 (k g sz : Nat) (cells : List D) : D → D
  | .ref j h n => match sameB j h k g with
    | true => match Nat.ble (n * sz) cells.length with
      | true => .sl false sz (chunk sz n cells)
      | false => .any
    | false => .ref j h n
  | .ptr j h o => match sameB j h k g with
    | true => .fad (cells.drop o)
    | false => .ptr j h o
  | d => d
def fr1 (k g sz : Nat) (cells : List D) : D → D
  | .fn f caps => .fn f (caps.map (fr0 k g sz cells))
  | .bnd f caps => .bnd f (caps.map (fr0 k g sz cells))
  | d => fr0 k g sz cells d
def fr2 (k g sz : Nat) (cells : List D) : D → D
  | .agg ds => .agg (ds.map (fr1 k g sz cells))
  | d => fr1 k g sz cells d
def fr3 (k g sz : Nat) (cells : List D) : D → D
  | .tup ds => .tup (ds.map (fr2 k g sz cells))
  | d => fr2 k g sz cells d
def frSlot (k g sz : Nat) (cells : List D) : Slot → Slot
  | .ent e => .ent { e with cells := e.cells.map (fr1 k g sz cells) }
  | s => s
def frSt (k g sz : Nat) (cells : List D) (st : St) : St := ⟨st.fr.map (fr3 k g sz cells), (st.σ.map (frSlot k g sz cells)).set k .dead⟩
def arrOf (e : Ent) : Nat := match e.arr with | some sz => sz | none => 1

section
variable {B : Base} {σ : List Slot} {ρ : Nat → Nat × Nat} {w : World} {k : Nat} {e : Ent}
theorem frσ_get {g sz : Nat} {cells : List D} {j : Nat} {s : Slot} (h : ((σ.map (frSlot k g sz cells)).set k .dead)[j]? = some s) : (j = k ∧ s = .dead) ∨ (j ≠ k ∧ ∃ s0, σ[j]? = some s0 ∧ s = frSlot k g sz cells s0) := by
  rw [List.getElem?_set] at h
  by_cases hj : k = j
  · subst hj
    rw [if_pos rfl] at h
    split at h
    · cases h; exact .inl ⟨rfl, rfl⟩
    · cases h
  · rw [if_neg hj] at h
    obtain ⟨s0, h1, h2⟩ := map_get h
    exact .inr ⟨fun e => hj e.symm, s0, h1, h2.symm⟩
theorem frσ_ent {g sz : Nat} {cells : List D} {j : Nat} {e' : Ent} (h : ((σ.map (frSlot k g sz cells)).set k .dead)[j]? = some (.ent e')) : j ≠ k ∧ ∃ e0, σ[j]? = some (.ent e0) ∧ e' = { e0 with cells := e0.cells.map (fr1 k g sz cells) } := by
  rcases frσ_get h with ⟨_, h⟩ | ⟨h1, s0, h2, h3⟩
  · cases h
  · cases s0 with
    | free => cases h3
    | dead => cases h3
    | ent e0 => simp only [frSlot, Slot.ent.injEq] at h3; exact ⟨h1, e0, h2, h3⟩

theorem Rel.freeze {st : St} {a : Act} (h : Rel B st a w) (hkC : getC st.σ k = .ent e) (hf : frzAll e.cells = true) : Rel B (frSt k e.gen (arrOf e) e.cells st) a w := by
  obtain ⟨ρ, hp, ⟨hl, hr⟩, hm⟩ := h
  have hk' := getS_ent (getC_ent hkC).1
  obtain ⟨cs, e1, e2, e3⟩ := (hp.ent k e hk').row (getC_ent hkC).2
  let σ' := (st.σ.map (frSlot k e.gen (arrOf e) e.cells)).set k .dead
  have hmove : Move B st.σ ρ w σ' ρ w := {
    size := Nat.le_refl _
    keep := fun _ _ _ => rfl
    lives := fun j ⟨e', he'⟩ => by
      obtain ⟨_, e0, h1, _⟩ := frσ_ent he'
      exact .inl ⟨j, ⟨e0, h1⟩, rfl⟩
    uses := fun j g ⟨s, hs, hg⟩ => by
      have hlt : j < σ'.length := by
        have := (List.getElem?_eq_some_iff.1 hs).1
        simpa [σ'] using this
      refine ⟨σ'[j], List.getElem?_eq_getElem hlt, ?_⟩
      rcases frσ_get (List.getElem?_eq_getElem hlt) with ⟨_, h2⟩ | ⟨_, s0, h1, h2⟩
      · rw [h2]; trivial
      · rw [hs] at h1
        cases h1
        rw [h2]
        cases s <;> exact hg
    tabs := fun j g p _ ht => by
      obtain ⟨e', he', hg, hp'⟩ := Tb.live ht
      obtain ⟨_, e0, h1, h2⟩ := frσ_ent he'
      have := Tb.of (ρ := ρ) h1
      have hge : e0.gen = e'.gen := by rw [h2]
      rw [hge, hg, hp'] at this
      exact this }
  have hfz : Fz B σ' ρ w (ρ k).1 := ⟨hp.lt ⟨e, hk'⟩, hp.nf k ⟨e, hk'⟩, fun j ⟨e', he'⟩ hb => by
    obtain ⟨hne, e0, h1, _⟩ := frσ_ent he'
    exact hne (hp.inj j k ⟨e0, h1⟩ ⟨e, hk'⟩ hb)⟩
  have htb : Tb st.σ ρ k e.gen = some (ρ k) := Tb.of hk'
  have hcell : ∀ (j : Nat) (d : D), e.cells[j]? = some d → ∃ u, w.cell? ⟨(ρ k).1, j, none⟩ = some u ∧ u.oneCell' = true ∧ RepF w (Fz B σ' ρ w) d u := by
    intro j d hd
    obtain ⟨u, a1, a2, a3⟩ := e3 j d hd
    exact ⟨u, cell_at e1 a1, a2, (hmove.rp a3).frz (frzAll_get hf hd)⟩
  have t0 : ∀ {d : D} {u : Value}, Rp B st.σ ρ w d u → Rp B σ' ρ w (fr0 k e.gen (arrOf e) e.cells d) u := by
    intro d u hd
    cases d with
    | ref j h n =>
      simp only [fr0]
      split
      · rename_i hs
        obtain ⟨h1, h2⟩ := sameB_eq hs
        subst h1; subst h2
        split
        · rename_i hb
          have hle : n * arrOf e ≤ e.cells.length := Nat.le_of_ble_eq_true hb
          obtain ⟨hu, hc⟩ := hd.ref_inv.2 _ _ htb
          rw [hu]
          refine .fro _ _ ?_
          cases n with
          | zero => exact .sl0 _ _ _ _ (fun h => by cases h)
          | succ n =>
            refine .sl false _ _ (ρ j).1 0 (ρ j).2 (n + 1) (fun i l => (w.cell? ⟨(ρ j).1, i * arrOf e + l, none⟩).getD undef) chunk_length.symm (by omega) hc (fun h => by cases h) hfz (fun x hx => ?_) (fun i x l d hi hj => ?_) (fun i x l d hi hj => ?_)
            · obtain ⟨i, hi⟩ := List.mem_iff_getElem?.1 hx
              exact (chunk_get hi hle).1
            · obtain ⟨u, a1, a2, a3⟩ := hcell _ _ ((chunk_get hi hle).2 l d hj)
              simp only [Nat.zero_add, a1, Option.getD_some]
              exact ⟨trivial, a2⟩
            · obtain ⟨u, a1, a2, a3⟩ := hcell _ _ ((chunk_get hi hle).2 l d hj)
              simp only [a1, Option.getD_some]
              exact a3
        · exact .fro _ _ (.any _)
      · exact hmove.rp hd
    | ptr j h o =>
      simp only [fr0]
      split
      · rename_i hs
        obtain ⟨h1, h2⟩ := sameB_eq hs
        subst h1; subst h2
        have hu := hd.ptr_inv.2 _ _ htb
        rw [hu]
        refine .fro _ _ (.fad _ (ρ j).1 o (fun l => (w.cell? ⟨(ρ j).1, o + l, none⟩).getD undef) hfz (fun l d hl => ?_) (fun l d hl => ?_))
        · rw [List.getElem?_drop] at hl
          obtain ⟨u, a1, a2, a3⟩ := hcell _ _ hl
          simp only [a1, Option.getD_some]
          exact ⟨trivial, a2⟩
        · rw [List.getElem?_drop] at hl
          obtain ⟨u, a1, a2, a3⟩ := hcell _ _ hl
          simp only [a1, Option.getD_some]
          exact a3
      · exact hmove.rp hd
    | _ => exact hmove.rp hd
  have t1 : ∀ {d : D} {u : Value}, Rp B st.σ ρ w d u → Rp B σ' ρ w (fr1 k e.gen (arrOf e) e.cells d) u := by
    intro d u hd
    cases d with
    | fn f caps =>
      obtain ⟨cs', rfl, h1, h2⟩ := hd.fn_inv
      refine .fn f _ cs' (by simpa using h1) (fun j d u hd hu => ?_)
      obtain ⟨d0, hd0, rfl⟩ := map_get hd
      exact t0 (h2 j d0 u hd0 hu)
    | bnd f caps =>
      obtain ⟨cs', rfl, h1, h2⟩ := hd.bnd_inv
      refine .bnd f _ cs' (by simpa using h1) (fun j d u hd hu => ?_)
      obtain ⟨d0, hd0, rfl⟩ := map_get hd
      exact t0 (h2 j d0 u hd0 hu)
    | _ => exact t0 hd
  have t2 : ∀ {d : D} {u : Value}, Rp B st.σ ρ w d u → Rp B σ' ρ w (fr2 k e.gen (arrOf e) e.cells d) u := by
    intro d u hd
    cases d with
    | agg ds =>
      obtain ⟨cs', rfl, h1, h2⟩ := hd.agg_inv
      refine .agg _ cs' (by simpa using h1) (fun j d u hd hu => ?_)
      obtain ⟨d0, hd0, rfl⟩ := map_get hd
      exact t1 (h2 j d0 u hd0 hu)
    | _ => exact t1 hd
  have t3 : ∀ {d : D} {u : Value}, Rp B st.σ ρ w d u → Rp B σ' ρ w (fr3 k e.gen (arrOf e) e.cells d) u := by
    intro d u hd
    cases d with
    | tup ds =>
      obtain ⟨cs', rfl, h1, h2⟩ := hd.tup_inv
      refine .tup _ cs' (by simpa using h1) (fun j d u hd hu => ?_)
      obtain ⟨d0, hd0, rfl⟩ := map_get hd
      exact t2 (h2 j d0 u hd0 hu)
    | _ => exact t2 hd
  refine ⟨ρ, hmove.hp hp rfl rfl rfl (fun j e' he' => ?_) (fun j j' ⟨a, ha⟩ ⟨b, hb⟩ hjj => ?_), ⟨by simpa [frSt] using hl, fun j d hd => ?_⟩, hm⟩
  · obtain ⟨hne, e0, h1, rfl⟩ := frσ_ent he'
    obtain ⟨c', o, c1, c0, c2, c3⟩ := hp.ent j e0 h1
    refine ⟨c', o, c1, c0, by simpa [szOk] using c2, fun l d hd => ?_⟩
    obtain ⟨d0, hd0, rfl⟩ := map_get hd
    obtain ⟨u, a1, a2, a3⟩ := c3 l d0 hd0
    exact ⟨u, a1, a2, t1 a3⟩
  · obtain ⟨_, e0, h1, _⟩ := frσ_ent ha
    obtain ⟨_, e0', h1', _⟩ := frσ_ent hb
    exact hp.inj j j' ⟨e0, h1⟩ ⟨e0', h1'⟩ hjj
  · obtain ⟨d0, hd0, rfl⟩ := map_get hd
    obtain ⟨u, a1, a2⟩ := hr j d0 hd0
    exact ⟨u, a1, t3 a2⟩
end

/-- **An own block is frozen**, ahead of what comes. -/
theorem AWP_freeze {P : Program} {ro : Option Nat} {c : Code} {st : St} {K : Exit → St → Prop} (k : Nat) {e : Ent} (hk : getC st.σ k = .ent e) (hf : frzAll e.cells = true) (h : AWP P ro c (frSt k e.gen (arrOf e) e.cells st) K) : AWP P ro c st K :=
  fun B a w hr Q hQ => h B a w (hr.freeze hk hf) Q hQ

/-! ### A function, as it is called -/
structure Fn (P : Program) (f : Nat) (args : List D) (ext : List Slot) (res : D) (out : List Slot) : Prop where
  spec : Spec P f args ext res out
  enter : ∀ args w, (callFunc f args).run P w = .ok (.enter f args) w
theorem Fn.of {P : Program} {f : Nat} {fn : Func} {c : Code} {args : List D} {ext : List Slot} {res : D} {out : List Slot} (hf : P.funcs[f]? = some fn) (hb : fn.body = some c) (hn : (fn.name == "runtime.NumGoroutine") = false)
    (st : St) (hst : (⟨args ++ List.replicate (fn.ntmps - args.length) (.v undef), ext⟩ : St) = st) (h : AWP P none c st (retK P fn ext.length res out)) : Fn P f args ext res out where
  spec := spec_of_AWP hf hb (by rw [hst]; exact h)
  enter := fun args w => by
    have hn' : ¬ fn.name = "runtime.NumGoroutine" := by simpa using hn
    simp [callFunc, Go.program, Bind.bind, Sem.bind, Sem.run, hf, hb, hn', Pure.pure]

/-- Less is told of the arguments. -/
theorem Spec.le {P : Program} {f : Nat} {args args' : List D} {ext : List Slot} {res : D} {out : List Slot} (h : Spec P f args' ext res out) (hle : leF args args') : Spec P f args ext res out :=
  fun N0 ρ w vs hp hs hr => h N0 ρ w vs hp (by rw [hs]; exact (leF_get hle).1) (fun j d u hd hu => by
    obtain ⟨a, ha, hl⟩ := (leF_get hle).2 j d hd
    exact hl.rep (hr j a u ha hu))
theorem callV0 {P : Program} {ro : Option Nat} {o : Oper} {c : Call} {fo : Operand} {f : Nat} {caps args : List D} {res : D} {opd : Operand → D} {σ : List Slot} {slot : Nat} {k : List Nat → Out → Prop} (hfn : Fn P f args [] res [])
    (ho : o.op = .call c) (hcal : c.callee = .value fo) (hfo : opd fo = .fn f caps) (hargs : leF ((c.args.toList.map opd ++ caps).map (ren (mOf []))) args) (hk : k [] ⟨ren (backOf [slot]) res, []⟩) : CallV P ro o opd σ slot k :=
  CallV.intro (call_plain ho hcal hfo hfn.enter (hfn.spec.le hargs)) (fun p hp => by cases hp) hk
/-- A call at which keys are handed over. -/
theorem callK {P : Program} {ro : Option Nat} {o : Oper} {c : Call} {fo : Operand} {f : Nat} {caps args : List D} {ext : List Slot} {res : D} {out : List Slot} {opd : Operand → D} {σ : List Slot} {slot : Nat} {k : List Nat → Out → Prop} (ks : List Nat) (hfn : Fn P f args ext res out)
    (ho : o.op = .call c) (hcal : c.callee = .value fo) (hfo : opd fo = .fn f caps) (hn : (ks ++ [slot]).Nodup) (hks : ∀ k ∈ ks, k < σ.length) (hlen : ks.length = out.length) (hext : pick ks σ = ext)
    (hargs : leF ((c.args.toList.map opd ++ caps).map (ren (mOf ks))) args) (hk : k ks ⟨ren (backOf (ks ++ [slot])) res, callSets (ks ++ [slot]) out⟩) : CallV P ro o opd σ slot k := by
  subst hext
  refine CallV.intro (call_sound ho hcal hfo hfn.enter hn hks (.inl (by omega)) (by omega) (by omega) (hfn.spec.le hargs)) (fun p hp => ?_) hk
  have := (List.of_mem_zip hp).1
  simp only [List.mem_append, List.mem_singleton] at this
  exact this.symm
/-- A call that gives a new own block: it comes to lie at the call's slot. -/
theorem callN {P : Program} {ro : Option Nat} {o : Oper} {c : Call} {fo : Operand} {f : Nat} {caps args : List D} {ext : List Slot} {res : D} {out : List Slot} {opd : Operand → D} {σ : List Slot} {slot : Nat} {k : List Nat → Out → Prop} (ks : List Nat) (hfn : Fn P f args ext res out)
    (ho : o.op = .call c) (hcal : c.callee = .value fo) (hfo : opd fo = .fn f caps) (hn : (ks ++ [slot]).Nodup) (hks : ∀ k ∈ ks, k < σ.length) (hfree : getS σ slot = .free) (hlen : ks.length + 1 = out.length) (hext : pick ks σ = ext)
    (hargs : leF ((c.args.toList.map opd ++ caps).map (ren (mOf ks))) args) (hk : k ks ⟨ren (backOf (ks ++ [slot])) res, callSets (ks ++ [slot]) out⟩) : CallV P ro o opd σ slot k := by
  subst hext
  refine CallV.intro (call_sound ho hcal hfo hfn.enter hn hks (.inr (getS_free hfree)) (by omega) (by omega) (hfn.spec.le hargs)) (fun p hp => ?_) hk
  have := (List.of_mem_zip hp).1
  simp only [List.mem_append, List.mem_singleton] at this
  exact this.symm
/-- A call of a bound function. -/
theorem callB {P : Program} {ro : Option Nat} {o : Oper} {c : Call} {fo : Operand} {f : Nat} {caps args : List D} {ext : List Slot} {res : D} {out : List Slot} {opd : Operand → D} {σ : List Slot} {slot : Nat} {k : List Nat → Out → Prop} (ks : List Nat) (hfn : Fn P f args ext res out)
    (ho : o.op = .call c) (hcal : c.callee = .value fo) (hfo : opd fo = .bnd f caps) (hn : (ks ++ [slot]).Nodup) (hks : ∀ k ∈ ks, k < σ.length) (hlen : ks.length = out.length) (hext : pick ks σ = ext)
    (hargs : leF ((caps ++ c.args.toList.map opd).map (ren (mOf ks))) args) (hk : k ks ⟨ren (backOf (ks ++ [slot])) res, callSets (ks ++ [slot]) out⟩) : CallV P ro o opd σ slot k := by
  subst hext
  refine CallV.intro (call_soundB ho hcal hfo hfn.enter hn hks (.inl (by omega)) (by omega) (by omega) (hfn.spec.le hargs)) (fun p hp => ?_) hk
  have := (List.of_mem_zip hp).1
  simp only [List.mem_append, List.mem_singleton] at this
  exact this.symm
attribute [push_cast] ren ren2 ren1 ren0 resD resAll resOne
end Go.Proofs.Ytabliglgeiajlaa.AM
