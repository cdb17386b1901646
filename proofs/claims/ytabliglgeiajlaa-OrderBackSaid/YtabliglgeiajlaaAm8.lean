/- The abstract machine: keys renamed; what a Go function does (Spec); a function out of its body; a call. -/
import Derived.Test.YtabliglgeiajlaaAm7
import Derived.RangeFuncLeaves
import Derived.RangeFuncRecord
set_option linter.unusedSimpArgs false
set_option linter.unusedVariables false
namespace Go.Proofs.Ytabliglgeiajlaa.AM
open Go Go.RowKit

def ren0 (m : Nat → Option Nat) : D → D
  | .ptr k g o => match m k with | some j => .ptr j g o | none => .any
  | .ref k g n => match m k with | some j => .ref j g n | none => .any
  | .agg _ => .any
  | .tup _ => .any
  | .fn _ _ => .any
  | .bnd _ _ => .any
  | .kref b k g => match m k with | some j => .kref b j g | none => .any
  | .refo k g o n => match m k with | some j => .refo j g o n | none => .any
  | .any => .any
  | .v x => .v x
  | .sl f z xs => .sl f z xs
  | .fad ds => .fad ds
def ren1 (m : Nat → Option Nat) : D → D
  | .fn f caps => .fn f (caps.map (ren0 m))
  | .bnd f caps => .bnd f (caps.map (ren0 m))
  | d => ren0 m d
def ren2 (m : Nat → Option Nat) : D → D
  | .agg ds => .agg (ds.map (ren1 m))
  | d => ren1 m d
def ren (m : Nat → Option Nat) : D → D
  | .tup ds => .tup (ds.map (ren2 m))
  | d => ren2 m d
def renSlot (m : Nat → Option Nat) : Slot → Slot
  | .ent e => .ent { e with cells := e.cells.map (ren m) }
  | .free => .free
  | .dead => .dead

/-- What stays when keys are renamed. -/
structure Tr (m : Nat → Option Nat) (w : World) (fz : Nat → Prop) (tb : Nat → Nat → Option (Nat × Nat)) (U : Nat → Nat → Prop) (w' : World) (fz' : Nat → Prop) (tb' : Nat → Nat → Option (Nat × Nat)) (U' : Nat → Nat → Prop) : Prop where
  hz : ∀ b, fz b → fz' b
  hh : ∀ b, fz b → isCells w b → w'.heap[b]? = w.heap[b]?
  hU : ∀ k j g, m k = some j → U k g → U' j g
  ht : ∀ k j g p, m k = some j → U k g → tb' j g = some p → tb k g = some p

section
variable {m : Nat → Option Nat} {w w' : World} {fz fz' : Nat → Prop} {tb tb' : Nat → Nat → Option (Nat × Nat)} {U U' : Nat → Nat → Prop}
theorem Tr.ren0 (T : Tr m w fz tb U w' fz' tb' U') {d : D} {u : Value} (h : Rep w fz tb U d u) : Rep w' fz' tb' U' (ren0 m d) u := by
  cases h with
  | fro _ _ h =>
    cases d with
    | any => exact .fro _ _ (.any _)
    | v x => exact .fro _ _ (h.mono T.hz T.hh)
    | agg ds => exact .fro _ _ (.any _)
    | sl f z xs => exact .fro _ _ (h.mono T.hz T.hh)
    | fad ds => exact .fro _ _ (h.mono T.hz T.hh)
    | fn f caps => exact .fro _ _ (.any _)
    | bnd f caps => exact .fro _ _ (.any _)
    | tup ds => exact .fro _ _ (.any _)
    | ref k g n => cases h
    | ptr k g o => cases h
    | kref b k g => cases h
    | refo k g o n => cases h
  | agg => exact .fro _ _ (.any _)
  | tup => exact .fro _ _ (.any _)
  | fn => exact .fro _ _ (.any _)
  | bnd => exact .fro _ _ (.any _)
  | ref k g n u hk h1 h =>
    simp only [AM.ren0]
    split
    · rename_i j hj; exact .ref j g n u (T.hU k j g hj hk) h1 (fun b c hb => h b c (T.ht k j g _ hj hk hb))
    · exact .fro _ _ (.any _)
  | ptr k g o u hk h1 h =>
    simp only [AM.ren0]
    split
    · rename_i j hj; exact .ptr j g o u (T.hU k j g hj hk) h1 (fun b c hb => h b c (T.ht k j g _ hj hk hb))
    · exact .fro _ _ (.any _)
  | kref b k g u hk h1 h =>
    simp only [AM.ren0]
    split
    · rename_i j hj; exact .kref b j g u (T.hU k j g hj hk) h1 (fun b c hb => h b c (T.ht k j g _ hj hk hb))
    · exact .fro _ _ (.any _)
  | refo k g o n u hk h1 h =>
    simp only [AM.ren0]
    split
    · rename_i j hj; exact .refo j g o n u (T.hU k j g hj hk) h1 (fun b c hb => h b c (T.ht k j g _ hj hk hb))
    · exact .fro _ _ (.any _)
theorem map_get {α β : Type} {f : α → β} {l : List α} {j : Nat} {y : β} (h : (l.map f)[j]? = some y) : ∃ x, l[j]? = some x ∧ f x = y := by
  rw [List.getElem?_map] at h
  cases hx : l[j]? with
  | none => rw [hx] at h; cases h
  | some x => rw [hx] at h; exact ⟨x, rfl, by simpa using h⟩
theorem Tr.ren1 (T : Tr m w fz tb U w' fz' tb' U') {d : D} {u : Value} (h : Rep w fz tb U d u) : Rep w' fz' tb' U' (ren1 m d) u := by
  cases d with
  | fn f caps =>
    obtain ⟨cs, rfl, hl, hr⟩ := h.fn_inv
    refine .fn f _ cs (by simpa using hl) (fun j d u hd hu => ?_)
    obtain ⟨d0, hd0, rfl⟩ := map_get hd
    exact T.ren0 (hr j d0 u hd0 hu)
  | bnd f caps =>
    obtain ⟨cs, rfl, hl, hr⟩ := h.bnd_inv
    refine .bnd f _ cs (by simpa using hl) (fun j d u hd hu => ?_)
    obtain ⟨d0, hd0, rfl⟩ := map_get hd
    exact T.ren0 (hr j d0 u hd0 hu)
  | _ => exact T.ren0 h
theorem Tr.ren2 (T : Tr m w fz tb U w' fz' tb' U') {d : D} {u : Value} (h : Rep w fz tb U d u) : Rep w' fz' tb' U' (ren2 m d) u := by
  cases d with
  | agg ds =>
    obtain ⟨cs, rfl, hl, hr⟩ := h.agg_inv
    refine .agg _ cs (by simpa using hl) (fun j d u hd hu => ?_)
    obtain ⟨d0, hd0, rfl⟩ := map_get hd
    exact T.ren1 (hr j d0 u hd0 hu)
  | _ => exact T.ren1 h
theorem Tr.ren (T : Tr m w fz tb U w' fz' tb' U') {d : D} {u : Value} (h : Rep w fz tb U d u) : Rep w' fz' tb' U' (ren m d) u := by
  cases d with
  | tup ds =>
    obtain ⟨cs, rfl, hl, hr⟩ := h.tup_inv
    refine .tup _ cs (by simpa using hl) (fun j d u hd hu => ?_)
    obtain ⟨d0, hd0, rfl⟩ := map_get hd
    exact T.ren2 (hr j d0 u hd0 hu)
  | _ => exact T.ren2 h
theorem Tr.entOk (T : Tr m w fz tb U w' fz' tb' U') {e : Ent} {p : Nat × Nat} (h : EntOk w fz tb U e p) (hb : w'.heap[p.1]? = w.heap[p.1]?) : EntOk w' fz' tb' U' { e with cells := e.cells.map (AM.ren m) } p := by
  obtain ⟨cs, o, h1, h0, h2, h3⟩ := h
  refine ⟨cs, o, hb.trans h1, h0, by simpa [szOk] using h2, fun j d hd => ?_⟩
  obtain ⟨d0, hd0, rfl⟩ := map_get hd
  obtain ⟨u, a1, a2, a3⟩ := h3 j d0 hd0
  exact ⟨u, a1, a2, T.ren a3⟩
end

/-! ### Some keys picked out -/
def idx : List Nat → Nat → Nat → Option Nat
  | [], _, _ => none
  | x :: l, k, i => match Nat.beq x k with
    | true => some i
    | false => idx l k (i + 1)
theorem idx_some {ks : List Nat} : ∀ {k i j : Nat}, idx ks k i = some j → i ≤ j ∧ ks[j - i]? = some k := by
  induction ks with
  | nil => intro k i j h; cases h
  | cons x l ih =>
    intro k i j h
    simp only [idx] at h
    split at h
    · rename_i hx
      cases h
      exact ⟨Nat.le_refl _, by simp [Nat.eq_of_beq_eq_true hx]⟩
    · obtain ⟨h1, h2⟩ := ih h
      refine ⟨by omega, ?_⟩
      rw [show j - i = (j - (i + 1)) + 1 from by omega]
      simpa using h2
abbrev mOf (ks : List Nat) : Nat → Option Nat := fun k => idx ks k 0
theorem mOf_some {ks : List Nat} {k j : Nat} (h : mOf ks k = some j) : ks[j]? = some k := by simpa using (idx_some h).2
def pick (ks : List Nat) (σ : List Slot) : List Slot := ks.map fun k => renSlot (mOf ks) (getS σ k)
def pickρ (ks : List Nat) (ρ : Nat → Nat × Nat) : Nat → Nat × Nat := fun j => ρ (ks.getD j 0)

section
variable {ks : List Nat} {σ : List Slot} {ρ : Nat → Nat × Nat}
theorem pick_ent {j : Nat} {e : Ent} (h : (pick ks σ)[j]? = some (.ent e)) : ∃ k e0, ks[j]? = some k ∧ σ[k]? = some (.ent e0) ∧ e = { e0 with cells := e0.cells.map (ren (mOf ks)) } ∧ pickρ ks ρ j = ρ k := by
  obtain ⟨k, hk, hs⟩ := map_get h
  cases hg : getS σ k with
  | free => rw [hg] at hs; cases hs
  | dead => rw [hg] at hs; cases hs
  | ent e0 =>
    rw [hg] at hs
    simp only [renSlot, Slot.ent.injEq] at hs
    exact ⟨k, e0, hk, getS_ent hg, hs.symm, by simp [pickρ, List.getD_eq_getElem?_getD, hk]⟩
theorem pick_live {j : Nat} (h : live (pick ks σ) j) : ∃ k, ks[j]? = some k ∧ live σ k ∧ pickρ ks ρ j = ρ k := by
  obtain ⟨e, he⟩ := h
  obtain ⟨k, e0, h1, h2, _, h3⟩ := pick_ent (ρ := ρ) he
  exact ⟨k, h1, ⟨e0, h2⟩, h3⟩
theorem pick_get {j k : Nat} (h : ks[j]? = some k) : (pick ks σ)[j]? = some (renSlot (mOf ks) (getS σ k)) := by simp [pick, h]
theorem genOk_ren {m : Nat → Option Nat} {s : Slot} {g : Nat} : genOk (renSlot m s) g ↔ genOk s g := by cases s <;> exact Iff.rfl
theorem pick_used {j k g : Nat} (h : ks[j]? = some k) (hu : used σ k g) : used (pick ks σ) j g := by
  obtain ⟨s, hs, hg⟩ := hu
  refine ⟨_, pick_get h, genOk_ren.2 ?_⟩
  rw [getS_eq, hs]
  exact hg
theorem pick_Tb {j g : Nat} {p : Nat × Nat} (h : Tb (pick ks σ) (pickρ ks ρ) j g = some p) : ∃ k, ks[j]? = some k ∧ Tb σ ρ k g = some p := by
  obtain ⟨e, he, hg, hp⟩ := Tb.live h
  obtain ⟨k, e0, h1, h2, h3, h4⟩ := pick_ent (ρ := ρ) he
  refine ⟨k, h1, ?_⟩
  have := Tb.of (ρ := ρ) h2
  rw [← h4, hp] at this
  have hge : e0.gen = e.gen := by rw [h3]
  rw [hge, hg] at this
  exact this
theorem pick_inj {B : Base} {w : World} (hp : Hp B σ ρ w) (hn : ks.Nodup) (j j' : Nat) (h : live (pick ks σ) j) (h' : live (pick ks σ) j') (he : (pickρ ks ρ j).1 = (pickρ ks ρ j').1) : j = j' := by
  obtain ⟨k, h1, h2, h3⟩ := pick_live (ρ := ρ) h
  obtain ⟨k', h1', h2', h3'⟩ := pick_live (ρ := ρ) h'
  rw [h3, h3'] at he
  have := hp.inj k k' h2 h2' he
  subst this
  exact (List.getElem?_inj (List.getElem?_eq_some_iff.1 h1).1 hn).1 (h1.trans h1'.symm)

/-- The transport of what is told, to the keys picked. -/
theorem pickTr {B B' : Base} {w : World} (hz : ∀ b, Fz B σ ρ w b → Fz B' (pick ks σ) (pickρ ks ρ) w b) :
    Tr (mOf ks) w (Fz B σ ρ w) (Tb σ ρ) (used σ) w (Fz B' (pick ks σ) (pickρ ks ρ) w) (Tb (pick ks σ) (pickρ ks ρ)) (used (pick ks σ)) where
  hz := hz
  hh := fun _ _ _ => rfl
  hU := fun k j g hm hu => pick_used (mOf_some hm) hu
  ht := fun k j g p hm _ h => by
    obtain ⟨k', h1, h2⟩ := pick_Tb h
    rw [mOf_some hm] at h1
    cases h1
    exact h2
theorem pick_entOk {B B' : Base} {w : World} (hp : Hp B σ ρ w) (hz : ∀ b, Fz B σ ρ w b → Fz B' (pick ks σ) (pickρ ks ρ) w b) (j : Nat) (e : Ent) (h : (pick ks σ)[j]? = some (.ent e)) :
    EntOk w (Fz B' (pick ks σ) (pickρ ks ρ) w) (Tb (pick ks σ) (pickρ ks ρ)) (used (pick ks σ)) e (pickρ ks ρ j) := by
  obtain ⟨k, e0, h1, h2, h3, h4⟩ := pick_ent (ρ := ρ) h
  rw [h3, h4]
  exact (pickTr hz).entOk (hp.ent k e0 h2) rfl
end

/-! ### What a Go function does -/
/-- The base of a call: the world at its begin; it may write what was handed to it, by key; the blocks of N0 are others'. -/
def base0 (w : World) (N0 : Nat → Prop) (ext : List Slot) (ρ : Nat → Nat × Nat) : Base := ⟨w, fun b => ∃ k, live ext k ∧ (ρ k).1 = b, N0, ext, ρ, w.heap.size⟩

/-- Called at args (the store handed over: ext), the function returns res, and the store is out then. -/
def Spec (P : Program) (f : Nat) (args : List D) (ext : List Slot) (res : D) (out : List Slot) : Prop :=
  ∀ (N0 : Nat → Prop) (ρ : Nat → Nat × Nat) (w : World) (vs : Array Value), Hp (base0 w N0 ext ρ) ext ρ w → vs.size = args.length →
    (∀ (j : Nat) (d : D) (u : Value), args[j]? = some d → vs[j]? = some u → Rp (base0 w N0 ext ρ) ext ρ w d u) →
    Calls P f vs w (fun e w' => ∃ v ρ', e = .returned v ∧ Hp (base0 w N0 ext ρ) out ρ' w' ∧ Rp (base0 w N0 ext ρ) out ρ' w' res v)

/-! #### A function out of its body -/
def isDef (w : World) (b : Nat) : Prop := w.heap[b]? = some (.deferred (some []))
theorem isDef_cells {w : World} {b : Nat} (h : isCells w b) : ¬ isDef w b := by
  obtain ⟨c, t, f, hc⟩ := h
  intro h; unfold isDef at h; rw [hc] at h; cases h
theorem takeMarks {P : Program} {fn : Func} {B : Base} {tmps : Array Value} {R : Ending → World → Prop} (Ds : List Nat) : ∀ (w : World), Ds.Nodup → (∀ D ∈ Ds, B.w0.heap.size ≤ D ∧ w.heap[D]? = some (.deferred (some []))) →
    (∀ w', w'.os = w.os → w'.tape = w.tape → w'.output = w.output → w'.heap.size = w.heap.size → (∀ b, b < B.w0.heap.size ∨ ¬ isDef w b → w'.heap[b]? = w.heap[b]?) → LeavesIn (FW none) 0 P fn tmps R [] .returning w') →
    LeavesInM (FW none) 0 P fn tmps R (Ds.map markOf) .returning w := by
  induction Ds with
  | nil => intro w _ _ h; exact h w rfl rfl rfl rfl (fun _ _ => rfl)
  | cons D Ds ih =>
    intro w hn hD h
    have h0 := hD D List.mem_cons_self
    have hnd := List.nodup_cons.1 hn
    refine ⟨by simp, .inl ⟨D, _, rfl, run_takeDeferred h0.2, ?_⟩⟩
    refine ih _ hnd.2 (fun D' hD' => ⟨(hD D' (List.mem_cons_of_mem _ hD')).1, ?_⟩) (fun w' e1 e2 e3 e4 e5 => ?_)
    · rw [World.putObj_heap_other (by rintro rfl; exact hnd.1 hD')]
      exact (hD D' (List.mem_cons_of_mem _ hD')).2
    · have hpo : ∀ b, b < B.w0.heap.size ∨ ¬ isDef w b → (w.putObj D (.deferred none)).heap[b]? = w.heap[b]? := fun b hb => by
        refine World.putObj_heap_other ?_
        rintro rfl
        rcases hb with hb | hb
        · have := h0.1; omega
        · exact hb h0.2
      refine h w' e1 e2 e3 (by rw [e4]; simp [World.putObj]) (fun b hb => ?_)
      rw [e5 b (hb.imp id (fun hc => by unfold isDef; rw [hpo b (.inr hc)]; exact hc)), hpo b hb]

/-- The world but for the marks' blocks. -/
theorem Hp.marksGone {B : Base} {σ : List Slot} {ρ : Nat → Nat × Nat} {w w' : World} (h : Hp B σ ρ w) (e1 : w'.os = w.os) (e2 : w'.tape = w.tape) (e3 : w'.output = w.output) (e4 : w'.heap.size = w.heap.size)
    (e5 : ∀ b, b < B.w0.heap.size ∨ ¬ isDef w b → w'.heap[b]? = w.heap[b]?) : Hp B σ ρ w' ∧ ∀ {d u}, Rp B σ ρ w d u → Rp B σ ρ w' d u := by
  have hz : ∀ b, Fz B σ ρ w b → Fz B σ ρ w' b := fun b hb => ⟨by rw [e4]; exact hb.1, hb.2⟩
  have hr : ∀ {d u}, Rp B σ ρ w d u → Rp B σ ρ w' d u := fun hd => hd.mono hz (fun b _ hc => e5 b (.inr (isDef_cells hc))) (fun _ _ x => x) (fun _ _ _ _ x => x)
  refine ⟨{ ent := fun k e he => ?_, inj := h.inj, nf := h.nf, own := h.own, size := by rw [e4]; exact h.size, os := e1.trans h.os, tape := e2.trans h.tape, output := e3.trans h.output, base := fun b hb hE => by rw [e5 b (.inl hb)]; exact h.base b hb hE, n0 := h.n0, m0 := h.m0, hist := h.hist }, hr⟩
  obtain ⟨cs, o, h1, h0, h2, h3⟩ := h.ent k e he
  refine ⟨cs, o, by rw [e5 _ (.inr (fun hd => by unfold isDef at hd; rw [h1] at hd; cases hd; exact objOf_deferred h0))]; exact h1, h0, h2, fun j d hd => ?_⟩
  obtain ⟨u, a1, a2, a3⟩ := h3 j d hd
  exact ⟨u, a1, a2, hr a3⟩

/-- A result's variable. -/
def resOne (P : Program) (st : St) : ResultVar → Option (Prop × D × List Nat)
  | .tmp t => some (True, getF st.fr t, [])
  | .cell a t => loadD (tyI P t) (getF st.fr a) st.σ
def resAll (P : Program) (st : St) : List ResultVar → Option (Prop × List D)
  | [] => some (True, [])
  | r :: rs =>
    match resOne P st r with
    | none => none
    | some (c, d, _) =>
      match resAll P st rs with
      | none => none
      | some (c', ds) => some (c ∧ c', d :: ds)
def resD (P : Program) (fn : Func) (st : St) : Option (Prop × D) :=
  match resAll P st fn.results.toList with
  | none => none
  | some (c, ds) =>
    match ds with
    | [d] => some (c, d)
    | ds => some (c, .tup ds)

theorem resOne_sound {P : Program} {B : Base} {st : St} {ρ : Nat → Nat × Nat} {a : Act} {w : World} (hp : Hp B st.σ ρ w) (hf : FrOk B st ρ a.tmps w) {r : ResultVar} {c : Prop} {d : D} {rd : List Nat}
    (h : resOne P st r = some (c, d, rd)) (hc : c) : ∃ v, Rp B st.σ ρ w d v ∧ (match r with | .tmp t => (pure (a.tmps.getD t undef) : Sem Value) | .cell x t => do loadVar t (← asAddr (a.tmps.getD x undef))).run P w = .ok v w := by
  cases r with
  | tmp t =>
    simp only [resOne, Option.some.injEq, Prod.mk.injEq] at h
    obtain ⟨rfl, rfl, rfl⟩ := h
    exact ⟨_, hf.eval (.tmp t), rfl⟩
  | cell x t =>
    simp only [resOne] at h
    have hv := hf.eval (.tmp x)
    simp only [St.eval, Act.eval] at hv
    -- the address
    have ha : ∃ ad, a.tmps.getD x undef = .pointer (some ad) := by
      unfold loadD at h
      split at h
      · cases h
      · split at h
        · rename_i i hi dd k g o hdd
          split at h
          · rename_i e he
            split at h
            · rename_i hg
              have hg' : e.gen = g := Nat.eq_of_beq_eq_true hg
              rw [hdd] at hv
              exact ⟨_, hv.ptr_inv.2 _ _ (hg' ▸ Tb.of (getS_ent (getC_ent he).1))⟩
            · cases h
          · cases h
        · rename_i ds hdd
          rw [hdd] at hv
          have := hv.fad_inv
          generalize a.tmps.getD x undef = u at this
          cases this with
          | fad _ b o g _ _ _ => exact ⟨_, rfl⟩
        · cases h
    obtain ⟨ad, had⟩ := ha
    obtain ⟨v, h1, h2⟩ := loadD_sound h hc hp hv had
    refine ⟨v, h2, ?_⟩
    simp only [Bind.bind, run_bind', had, asAddr, Pure.pure, Sem.run]
    exact h1

end Go.Proofs.Ytabliglgeiajlaa.AM
