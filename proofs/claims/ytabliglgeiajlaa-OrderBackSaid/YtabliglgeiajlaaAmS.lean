/- The abstract machine: scopes. -/
import Derived.Test.YtabliglgeiajlaaAm28
set_option linter.unusedSimpArgs false
set_option linter.unusedVariables false
namespace Go.Proofs.Ytabliglgeiajlaa.AM
open Go Go.RowKit

theorem stepR_scope {P : Program} {b : Frame} {a : Act} {k : List Item} {cs : List Frame} {w : World} {c : Code} :
    step P (lone (b.atR a (.code (.scope c) :: k)) cs w) = .next (lone (b.atR a (.code c :: .inScope c :: k)) cs w) :=
  step_lone_go (by simp [stepG, stepG.exec, Frame.atR])
theorem stepR_inScope {P : Program} {b : Frame} {a : Act} {k : List Item} {cs : List Frame} {w : World} {c : Code} :
    step P (lone (b.atR a (.inScope c :: k)) cs w) = .next (lone (b.atR a k) cs w) :=
  step_lone_go (by simp [stepG, stepG.exec, Frame.atR])
/-- What comes behind a scope: no jump leaves it. -/
def scopeQ (Q : Exit → Act → World → Prop) : Exit → Act → World → Prop
  | .goto _, _, _ => False
  | e, a, w => Q e a w
theorem wpIn_scope {F : Fence} {n : Nat} {P : Program} {Q : Exit → Act → World → Prop} {a : Act} {w : World} {c : Code} (h : c.wpIn F n P (scopeQ Q) a w) : (Code.scope c).wpIn F n P Q a w := by
  intro b k cs hro hb hr
  have h0 : (lone (b.atR a (.code (.scope c) :: k)) cs w).fenced P F := fenced_calm hb hr rfl
  obtain ⟨e, a₁, w₁, hq, harr⟩ := h b (.inScope c :: k) cs hro hb hr
  cases e with
  | normal => exact ⟨.normal, a₁, w₁, hq, .head h0 stepR_scope (StepsIn.trans harr (.one (fenced_calm hb hr rfl) stepR_inScope))⟩
  | exit id' =>
    have hx : exitTo id' (.inScope c :: k) = exitTo id' k := by simp [exitTo]
    exact ⟨.exit id', a₁, w₁, hq, fun k' hk => .head h0 stepR_scope (harr.1 k' (by rw [hx]; exact hk)),
        fun hr' hk => let ⟨k₁, h1, h2⟩ := harr.2 hr' (by rw [hx]; exact hk); ⟨k₁, h1, .head h0 stepR_scope h2⟩⟩
  | goto l => exact hq.elim
  | ret => exact ⟨_, a₁, w₁, hq, .of_steps (.one h0 stepR_scope) harr⟩
  | panic ch => exact ⟨_, a₁, w₁, hq, .of_steps (.one h0 stepR_scope) harr⟩
  | outgrown => exact ⟨_, a₁, w₁, hq, .of_steps (.one h0 stepR_scope) harr⟩
def scopeK (K : Exit → St → Prop) : Exit → St → Prop
  | .goto _, _ => False
  | e, s => K e s
theorem AWP_scope {P : Program} {ro : Option Nat} {st : St} {K : Exit → St → Prop} {c : Code} (h : AWP P ro c st (scopeK K)) : AWP P ro (.scope c) st K := fun B a w hr Q hQ => by
  refine wpIn_scope (h B a w hr _ (fun e st' a' w' hK hr' => ?_))
  cases e with
  | goto l => exact hK.elim
  | exit id => exact hQ _ _ _ _ hK hr'
  | normal => exact hQ _ _ _ _ hK hr'
  | ret => exact hQ _ _ _ _ hK hr'
  | panic c => exact hQ _ _ _ _ hK hr'
  | outgrown => exact hQ _ _ _ _ hK hr'
theorem s_normal {K : Exit → St → Prop} {s : St} (h : K .normal s) : scopeK K .normal s := h
theorem s_ret {K : Exit → St → Prop} {s : St} (h : K .ret s) : scopeK K .ret s := h
theorem s_exit {K : Exit → St → Prop} {s : St} {id : Nat} (h : K (.exit id) s) : scopeK K (.exit id) s := h

/-! ### A loop whose rounds leave blocks behind -/
section
variable {m : Nat → Option Nat}
theorem leD0_ren {f : D → D} (h1 : f .any = .any) (h2 : ∀ x, f (.v x) = .v x) (h3 : ∀ b sz xs, f (.sl b sz xs) = .sl b sz xs) {a b : D} (h : leD0 a b) : leD0 (f a) (f b) := by
  rcases h with rfl | rfl | ⟨rfl, b, sz, rfl⟩
  · rw [h1]; exact .inl rfl
  · exact leD0_refl _
  · rw [h2, h3]; exact .inr (.inr ⟨rfl, b, sz, rfl⟩)
theorem leF0_ren {f : D → D} (h : ∀ a b, leD0 a b → leD0 (f a) (f b)) : ∀ {l k : List D}, leF0 l k → leF0 (l.map f) (k.map f)
  | [], [], _ => trivial
  | _ :: _, _ :: _, hl => ⟨h _ _ hl.1, leF0_ren h hl.2⟩
theorem leD1_ren {f g : D → D} (h1 : f .any = .any) (h2 : ∀ x, f (.v x) = .v x) (h3 : ∀ b sz xs, f (.sl b sz xs) = .sl b sz xs) (ha : ∀ ds, f (.agg ds) = .agg (ds.map g)) (hg : ∀ a b, leD0 a b → leD0 (g a) (g b)) {a b : D} (h : leD1 a b) : leD1 (f a) (f b) := by
  rcases h with h | ⟨ds, es, rfl, rfl, h⟩
  · exact .inl (leD0_ren h1 h2 h3 h)
  · rw [ha, ha]; exact .inr ⟨_, _, rfl, rfl, leF0_ren hg h⟩
theorem leF1_ren {f : D → D} (h : ∀ a b, leD1 a b → leD1 (f a) (f b)) : ∀ {l k : List D}, leF1 l k → leF1 (l.map f) (k.map f)
  | [], [], _ => trivial
  | _ :: _, _ :: _, hl => ⟨h _ _ hl.1, leF1_ren h hl.2⟩
theorem leD_ren {a b : D} (h : leD a b) : leD (ren m a) (ren m b) := by
  have h0 : ∀ a b, leD0 a b → leD0 (ren1 m a) (ren1 m b) := fun a b h => leD0_ren rfl (fun _ => rfl) (fun _ _ _ => rfl) h
  have h1 : ∀ a b, leD1 a b → leD1 (ren2 m a) (ren2 m b) := fun a b h => leD1_ren rfl (fun _ => rfl) (fun _ _ _ => rfl) (fun _ => rfl) h0 h
  rcases h with h | ⟨ds, es, rfl, rfl, h⟩
  · exact .inl (leD1_ren (f := ren m) rfl (fun _ => rfl) (fun _ _ _ => rfl) (fun _ => rfl) h0 h)
  · exact .inr ⟨_, _, rfl, rfl, leF1_ren h1 h⟩
theorem leF_ren : ∀ {l k : List D}, leF l k → leF (l.map (ren m)) (k.map (ren m))
  | [], [], _ => trivial
  | _ :: _, _ :: _, hl => ⟨leD_ren hl.1, leF_ren hl.2⟩
end
theorem weak_drop {n : Nat} {s t : St} (hl : t.σ.length = n) (hc : Clsd t.σ) (hf : t.fr.map (ren (mOf (List.range n))) = t.fr) (h1 : leF s.fr t.fr) (h2 : ∃ ext, s.σ = t.σ ++ ext) : Weak n s t := by
  refine ⟨List.range n, List.nodup_range, fun k hk => by simp [hk], ?_, ?_⟩
  · rw [← hf]; exact leF_ren h1
  · obtain ⟨ext, h2⟩ := h2
    rw [h2, ← hl, pick_range_append, hc]
    exact leS_refl _
theorem clsd_all {σ : List Slot} (h : σ.map (renSlot (mOf (List.range σ.length))) = σ) : Clsd σ := by
  unfold Clsd pick
  refine List.ext_getElem? fun k => ?_
  rw [List.getElem?_map]
  by_cases hk : k < σ.length
  · rw [List.getElem?_range hk]
    simp only [Option.map_some]
    have h1 : (σ.map (renSlot (mOf (List.range σ.length))))[k]? = σ[k]? := by rw [h]
    rw [List.getElem?_map, List.getElem?_eq_getElem hk] at h1
    rw [getS_eq, List.getElem?_eq_getElem hk]
    simpa using h1
  · rw [List.getElem?_eq_none (by simp; omega), List.getElem?_eq_none (by omega)]
    rfl
/-- A loop whose head is told by a ghost; a round may leave blocks behind, of which nothing is told. -/
theorem AWP_loopD {P : Program} {ro : Option Nat} {st : St} {K : Exit → St → Prop} {γ : Type} {c : Code} (n : Nat) (inv : γ → St) (m : γ → Nat) (g0 : γ) (hl : ∀ g, (inv g).σ.length = n) (hc : ∀ g, Clsd (inv g).σ) (hf : ∀ g, (inv g).fr.map (ren (mOf (List.range n))) = (inv g).fr)
    (h0 : leF st.fr (inv g0).fr ∧ ∃ k, st.σ = (inv g0).σ ++ List.replicate k .free)
    (round : ∀ g, AWP P ro c (inv g) (thenK (fun s' => ∃ g', m g' < m g ∧ leF s'.fr (inv g').fr ∧ ∃ ext, s'.σ = (inv g').σ ++ ext) K)) : AWP P ro (.loop c) st K := by
  refine AWP_to (inv g0) h0.1 h0.2 ?_
  refine AWP_loopW inv m g0 (weak_drop (by rw [hl]) (hc g0) (by rw [hl]; exact hf g0) (leF_refl _) ⟨[], (List.append_nil _).symm⟩) fun g => (round g).mono fun e s h => ?_
  cases e with
  | normal =>
    obtain ⟨g', h1, h2, h3⟩ := h
    exact ⟨g', h1, by rw [hl]; exact weak_drop (hl g') (hc g') (hf g') h2 h3⟩
  | exit id => exact h
  | goto l => exact h
  | ret => exact h
  | panic c => exact h
  | outgrown => exact h
end Go.Proofs.Ytabliglgeiajlaa.AM
