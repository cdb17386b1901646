/- The abstract machine: less is told; loops; own arrays that are frozen. -/
import Derived.Test.YtabliglgeiajlaaAm20
set_option linter.unusedSimpArgs false
set_option linter.unusedVariables false
namespace Go.Proofs.Ytabliglgeiajlaa.AM
open Go Go.RowKit

def leSl (s t : Slot) : Prop := t = .dead ∨ s = t ∨ ∃ e cs, s = .ent e ∧ t = .ent { e with cells := cs } ∧ leF e.cells cs
def leS : List Slot → List Slot → Prop
  | [], [] => True
  | a :: l, b :: m => leSl a b ∧ leS l m
  | _, _ => False
theorem leS_get {l m : List Slot} (h : leS l m) : l.length = m.length ∧ ∀ (j : Nat) (b : Slot), m[j]? = some b → ∃ a, l[j]? = some a ∧ leSl a b := by
  induction l generalizing m with
  | nil => cases m with
    | nil => exact ⟨rfl, fun j b hb => by simp at hb⟩
    | cons _ _ => exact h.elim
  | cons a l ih =>
    cases m with
    | nil => exact h.elim
    | cons b m =>
      obtain ⟨h1, h2⟩ := ih h.2
      refine ⟨by simp [h1], fun j c hc => ?_⟩
      cases j with
      | zero => simp at hc; subst hc; exact ⟨a, rfl, h.1⟩
      | succ j => exact h2 j c (by simpa using hc)
theorem leS_ent {l m : List Slot} (h : leS l m) {k : Nat} {e : Ent} (hk : m[k]? = some (.ent e)) : ∃ e0, l[k]? = some (.ent e0) ∧ e = { e0 with cells := e.cells } ∧ (e0.cells = e.cells ∨ leF e0.cells e.cells) := by
  obtain ⟨a, ha, hle⟩ := (leS_get h).2 k _ hk
  rcases hle with h | rfl | ⟨e0, cs, rfl, h2, h3⟩
  · cases h
  · exact ⟨e, ha, rfl, .inl rfl⟩
  · simp only [Slot.ent.injEq] at h2
    subst h2
    exact ⟨e0, ha, rfl, .inr h3⟩

theorem Rel.le {B : Base} {s t : St} {a : Act} {w : World} (h : Rel B s a w) (hf : leF s.fr t.fr) (hs : leS s.σ t.σ) : Rel B t a w := by
  obtain ⟨ρ, hp, ⟨hl, hr⟩, hm⟩ := h
  have hlive : ∀ k, live t.σ k → live s.σ k := fun k ⟨e, he⟩ => by obtain ⟨e0, h1, _⟩ := leS_ent hs he; exact ⟨e0, h1⟩
  have hmove : Move B s.σ ρ w t.σ ρ w := {
    size := Nat.le_refl _
    keep := fun _ _ _ => rfl
    lives := fun k hk => .inl ⟨k, hlive k hk, rfl⟩
    uses := fun k g ⟨x, hx, hg⟩ => by
      have hlt : k < t.σ.length := by rw [← (leS_get hs).1]; exact (List.getElem?_eq_some_iff.1 hx).1
      refine ⟨t.σ[k], List.getElem?_eq_getElem hlt, ?_⟩
      obtain ⟨b, hb, hle⟩ := (leS_get hs).2 k _ (List.getElem?_eq_getElem hlt)
      rw [hx] at hb
      cases hb
      rcases hle with h | h | ⟨e, cs, h1, h2, _⟩
      · rw [h]; trivial
      · rw [← h]; exact hg
      · rw [h2]; rw [h1] at hg; exact hg
    tabs := fun k g p _ ht => by
      obtain ⟨e, he, hg, hp⟩ := Tb.live ht
      obtain ⟨e0, h1, h2, _⟩ := leS_ent hs he
      have := Tb.of (ρ := ρ) h1
      have hge : e0.gen = e.gen := by rw [h2]
      rw [hge, hg, hp] at this
      exact this }
  refine ⟨ρ, hmove.hp hp rfl rfl rfl (fun k e he => ?_) (fun k k' hk hk' => hp.inj k k' (hlive k hk) (hlive k' hk')), ⟨by rw [← (leF_get hf).1]; exact hl, fun j b hb => ?_⟩, hm⟩
  · obtain ⟨e0, h1, h2, h3⟩ := leS_ent hs he
    obtain ⟨cs, o, c1, c0, c2, c3⟩ := hmove.entOk (hp.ent k e0 h1) rfl
    have hty : e0.ty = e.ty := by rw [h2]
    have harr : e0.arr = e.arr := by rw [h2]
    have hkd : e0.kd = e.kd := by rw [h2]
    have hlen : e0.cells.length = e.cells.length := by
      rcases h3 with h3 | h3
      · rw [h3]
      · exact (leF_get h3).1
    refine ⟨cs, o, c1, by unfold objOf at c0 ⊢; rw [← hkd, ← hty]; exact c0, by unfold szOk at c2 ⊢; rw [← hkd, ← harr, ← hlen]; exact c2, fun j d hd => ?_⟩
    rw [← hkd]
    rcases h3 with h3 | h3
    · exact c3 j d (by rw [h3]; exact hd)
    · obtain ⟨d0, hd0, hle⟩ := (leF_get h3).2 j d hd
      obtain ⟨u, a1, a2, a3⟩ := c3 j d0 hd0
      exact ⟨u, a1, a2, hle.rep a3⟩
  · obtain ⟨d0, hd0, hle⟩ := (leF_get hf).2 j b hb
    obtain ⟨u, h1, h2⟩ := hr j d0 hd0
    exact ⟨u, h1, hle.rep (hmove.rp h2)⟩

/-- Some keys are picked out: the first n stay as they are. -/
theorem Rel.pick {B : Base} {s : St} {a : Act} {w : World} (h : Rel B s a w) {ks : List Nat} (hn : ks.Nodup) (hid : ∀ k g, used B.σ0 k g → ks[k]? = some k) : Rel B ⟨s.fr.map (ren (mOf ks)), AM.pick ks s.σ⟩ a w := by
  obtain ⟨ρ, hp, ⟨hl, hr⟩, hm⟩ := h
  have hz : ∀ b, Fz B s.σ ρ w b → Fz B (AM.pick ks s.σ) (pickρ ks ρ) w b := fun b hb => ⟨hb.1, hb.2.1, fun j hj => by obtain ⟨k, _, h2, h3⟩ := pick_live (ρ := ρ) hj; rw [h3]; exact hb.2.2 k h2⟩
  refine ⟨pickρ ks ρ, {
    ent := fun j e he => pick_entOk hp hz j e he
    inj := fun j j' h h' he => pick_inj hp hn j j' h h' he
    nf := fun j hj => by obtain ⟨k, _, h2, h3⟩ := pick_live (ρ := ρ) hj; rw [h3]; exact hp.nf k h2
    own := fun j hj => by obtain ⟨k, _, h2, h3⟩ := pick_live (ρ := ρ) hj; rw [h3]; exact hp.own k h2
    size := hp.size
    os := hp.os
    tape := hp.tape
    output := hp.output
    base := hp.base
    n0 := hp.n0
    m0 := hp.m0
    hist := fun k g hk => by
      have hks := hid k g hk
      obtain ⟨h1, h2⟩ := hp.hist k g hk
      refine ⟨pick_used hks h1, fun p hp' => ?_⟩
      obtain ⟨k', hk', ht⟩ := pick_Tb hp'
      rw [hks] at hk'
      cases hk'
      exact h2 p ht }, ⟨by simpa using hl, fun j d hd => ?_⟩, hm⟩
  obtain ⟨d0, hd0, rfl⟩ := map_get hd
  obtain ⟨u, h1, h2⟩ := hr j d0 hd0
  exact ⟨u, h1, (pickTr (ks := ks) hz).ren h2⟩

/-- Less is told of a state; the first n keys stay. -/
def Weak (n : Nat) (s t : St) : Prop := ∃ ks : List Nat, ks.Nodup ∧ (∀ k, k < n → ks[k]? = some k) ∧ leF (s.fr.map (ren (mOf ks))) t.fr ∧ leS (pick ks s.σ) t.σ
theorem Rel.weak {B : Base} {s t : St} {a : Act} {w : World} {n : Nat} (h : Rel B s a w) (hw : Weak n s t) (hn : ∀ k g, used B.σ0 k g → k < n) : Rel B t a w := by
  obtain ⟨ks, h1, h2, h3, h4⟩ := hw
  exact (h.pick h1 (fun k g hk => h2 k (hn k g hk))).le h3 h4
theorem Rel.used_lt {B : Base} {s : St} {a : Act} {w : World} (h : Rel B s a w) : ∀ k g, used B.σ0 k g → k < s.σ.length := by
  obtain ⟨ρ, hp, _⟩ := h
  intro k g hk
  obtain ⟨x, hx, _⟩ := (hp.hist k g hk).1
  exact (List.getElem?_eq_some_iff.1 hx).1

section
variable {P : Program} {ro : Option Nat} {st : St} {K : Exit → St → Prop}
/-- Less is told ahead of what comes. -/
theorem AWP_weak {c : Code} (t : St) (hw : Weak st.σ.length st t) (h : AWP P ro c t K) : AWP P ro c st K := fun B a w hr Q hQ => h B a w (hr.weak hw hr.used_lt) Q hQ

/-- **A loop**: what its head is told, by a ghost, and a number that falls. -/
theorem AWP_loopW {γ : Type} {c : Code} (inv : γ → St) (m : γ → Nat) (g0 : γ) (h0 : Weak st.σ.length st (inv g0))
    (round : ∀ g, AWP P ro c (inv g) (thenK (fun s' => ∃ g', m g' < m g ∧ Weak st.σ.length s' (inv g')) K)) : AWP P ro (.loop c) st K := fun B a w hr Q hQ => by
  intro b k cs hro hb hrm
  have hlt := hr.used_lt
  have key : ∀ j g a w, m g = j → Rel B (inv g) a w →
      ∃ e a' w', Q e a' w' ∧ ArrivesIn (Machine.fenced P (FW ro)) P (lone (b.atR a (.code c :: .inLoop c :: k)) cs w) b k cs e a' w' := by
    intro j
    induction j using Nat.strongRecOn with
    | _ j ih =>
      intro g a w hj hrel
      have hw := round g B a w hrel (fun e a' w' => (e = .normal ∧ ∃ g', m g' < m g ∧ Rel B (inv g') a' w') ∨ (e ≠ .normal ∧ Q e a' w')) (fun e st' a' w' hK hr' => by
        cases e with
        | normal => obtain ⟨g', hg, hI'⟩ := hK; exact .inl ⟨rfl, g', hg, hr'.weak hI' hlt⟩
        | exit id => exact .inr ⟨by simp, hQ _ _ _ _ hK hr'⟩
        | goto l => exact .inr ⟨by simp, hQ _ _ _ _ hK hr'⟩
        | ret => exact .inr ⟨by simp, hQ _ _ _ _ hK hr'⟩
        | panic c => exact .inr ⟨by simp, hQ _ _ _ _ hK hr'⟩
        | outgrown => exact .inr ⟨by simp, hQ _ _ _ _ hK hr'⟩)
      obtain ⟨e, a₁, w₁, hq, harr⟩ := hw b (.inLoop c :: k) cs hro hb hrm
      rcases hq with ⟨rfl, g', hg, hr'⟩ | ⟨hne, hq⟩
      · obtain ⟨e₂, a₂, w₂, hq₂, harr₂⟩ := ih (m g') (hj ▸ hg) g' a₁ w₁ rfl hr'
        exact ⟨e₂, a₂, w₂, hq₂, .of_steps (StepsIn.trans harr (.one (fenced_calm hb hrm rfl) stepR_inLoop)) harr₂⟩
      · exact ⟨e, a₁, w₁, hq, .pass (x := .inLoop c) rfl (fun _ _ => .inl hne) harr⟩
  obtain ⟨e, a', w', hq, harr⟩ := key _ g0 a w rfl (hr.weak h0 hlt)
  exact ⟨e, a', w', hq, .of_steps (.one (fenced_calm hb hrm rfl) stepR_loop) harr⟩
end

/-! ### What simp needs -/
@[simp] theorem leSl_self {a : Slot} : leSl a a ↔ True := by simp [leSl]
@[simp] theorem leSl_dead {a : Slot} : leSl a .dead ↔ True := by simp [leSl]
theorem leSl_ent {a b : Ent} (h1 : a.gen = b.gen) (h2 : a.arr = b.arr) (h3 : a.ty = b.ty) (h5 : a.kd = b.kd) (h4 : leF a.cells b.cells) : leSl (.ent a) (.ent b) := by
  refine .inr (.inr ⟨a, b.cells, rfl, ?_, h4⟩)
  cases a; cases b; simp_all
end Go.Proofs.Ytabliglgeiajlaa.AM
