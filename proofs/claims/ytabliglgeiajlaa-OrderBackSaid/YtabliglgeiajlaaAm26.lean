/- The abstract machine: how a function with keys ends; loops whose store is not looked at. -/
import Derived.Test.YtabliglgeiajlaaAm25
set_option linter.unusedSimpArgs false
set_option linter.unusedVariables false
namespace Go.Proofs.Ytabliglgeiajlaa.AM
open Go Go.RowKit

theorem ite_intro {p : Prop} [Decidable p] {a b : Prop} (h1 : p → a) (h2 : ¬ p → b) : if p then a else b := by
  by_cases h : p
  · rw [if_pos h]; exact h1 h
  · rw [if_neg h]; exact h2 h
theorem ren0_frz0 {m : Nat → Option Nat} {d : D} (h : frz0 d = true) : ren0 m d = d := by cases d <;> first | rfl | (simp [frz0] at h; done)
theorem ren_frz0 {m : Nat → Option Nat} {d : D} (h : frz0 d = true) : ren m d = d := by cases d <;> first | rfl | (simp [frz0] at h; done)
theorem map_frz0 {f : D → D} (hf : ∀ d, frz0 d = true → f d = d) : ∀ {l : List D}, frz0All l = true → l.map f = l
  | [], _ => rfl
  | d :: l, h => by
    simp only [frz0All, Bool.and_eq_true] at h
    rw [List.map_cons, hf d h.1, map_frz0 hf h.2]
/-- What a closure has taken along. -/
theorem leF_caps {m : Nat → Option Nat} {caps : List D} (h : frz0All caps = true) : leF (caps.map (ren m)) caps := by rw [map_frz0 (fun d hd => ren_frz0 hd) h]; exact leF_refl _
theorem leD_fn {m : Nat → Option Nat} {f : Nat} {caps : List D} (h : frz0All caps = true) : leD (ren m (.fn f caps)) (.fn f caps) := by
  show leD (.fn f (caps.map (ren0 m))) _
  rw [map_frz0 (fun d hd => ren0_frz0 hd) h]; exact leD_refl _
theorem ret_keys {P : Program} {fn : Func} {n : Nat} {res : D} {out : List Slot} {st : St} (h : match resD P fn st with | some (c, d) => c ∧ pick (List.range n) st.σ = out ∧ leD (ren (mOf (List.range n)) d) res | none => False) : retK P fn n res out .ret st := by
  split at h
  · rename_i c d hd
    exact ⟨.inr rfl, List.range n, c, d, hd, h.1, List.nodup_range, fun k hk => by simp [hk], h.2.1, h.2.2⟩
  · exact h.elim
theorem end_plain {P : Program} {fn : Func} {res : D} {st : St} (h : match resD P fn st with | some (c, d) => c ∧ leD (ren (mOf []) d) res | none => False) : retK P fn 0 res [] .normal st := by
  split at h
  · rename_i c d hd
    exact ⟨.inl rfl, [], c, d, hd, h.1, by simp, fun k hk => by omega, rfl, h.2⟩
  · exact h.elim
theorem end_keys {P : Program} {fn : Func} {n : Nat} {res : D} {out : List Slot} {st : St} (h : match resD P fn st with | some (c, d) => c ∧ pick (List.range n) st.σ = out ∧ leD (ren (mOf (List.range n)) d) res | none => False) : retK P fn n res out .normal st := by
  split at h
  · rename_i c d hd
    exact ⟨.inl rfl, List.range n, c, d, hd, h.1, List.nodup_range, fun k hk => by simp [hk], h.2.1, h.2.2⟩
  · exact h.elim

/-- How an iterator ends. -/
theorem ret_it {P : Program} {fn : Func} {st : St} {out : List Slot} {m : Nat} (k : Nat) {e : Exit} (he : e = .normal ∨ e = .ret) (hr : fn.results = #[]) (hσ : st.σ = out ++ List.replicate k .free) (hcl : Clsd out) (hl : out.length = m) : retK P fn m .any out e st := by
  refine ⟨he, List.range m, True, .tup [], by simp [resD, hr, resAll], trivial, List.nodup_range, fun k hk => by simp [hk], ?_, leD_any⟩
  rw [hσ, ← hl, pick_range_append]; exact hcl
theorem free_append {σ : List Slot} {n k : Nat} {e : Ent} : (σ ++ List.replicate n .free)[k]? = some (.ent e) ↔ σ[k]? = some (.ent e) := ent_append
theorem Tb_free {σ : List Slot} {n : Nat} {ρ : Nat → Nat × Nat} {k g : Nat} {p : Nat × Nat} (h : Tb σ ρ k g = some p) : Tb (σ ++ List.replicate n .free) ρ k g = some p := by
  obtain ⟨e, he, hg, hp⟩ := Tb.live h
  have := Tb.of (ρ := ρ) (ent_append (n := n).2 he)
  rw [hg, hp] at this
  exact this
theorem Move.unroom (B : Base) (σ : List Slot) (ρ : Nat → Nat × Nat) (w : World) (n : Nat) : Move B (σ ++ List.replicate n .free) ρ w σ ρ w where
  size := Nat.le_refl _
  keep := fun _ _ _ => rfl
  lives := fun k hk => .inl ⟨k, live_append.2 hk, rfl⟩
  uses := fun k g hk => used_append.1 hk
  tabs := fun _ _ _ _ h => Tb_free h
/-- Free slots at the end are dropped. -/
theorem Rel.unroom {B : Base} {fr : List D} {σ : List Slot} {a : Act} {w : World} {n : Nat} (h : Rel B ⟨fr, σ ++ List.replicate n .free⟩ a w) : Rel B ⟨fr, σ⟩ a w := by
  obtain ⟨ρ, h1, h2, h3⟩ := h
  have m := Move.unroom B σ ρ w n
  exact ⟨ρ, m.hp h1 rfl rfl rfl (fun k e he => m.entOk (h1.ent k e (ent_append.2 he)) rfl) (fun k k' hk hk' he => h1.inj k k' (live_append.2 hk) (live_append.2 hk') he), m.frOk (fr := fr) h2, h3⟩

section
variable {P : Program} {ro : Option Nat} {st : St} {K : Exit → St → Prop}
/-- A loop whose head is told by a ghost: frames are weakened, the store is as it is told. -/
theorem AWP_loopF {γ : Type} {c : Code} (inv : γ → St) (m : γ → Nat) (g0 : γ) (h0 : leF st.fr (inv g0).fr ∧ ∃ k, st.σ = (inv g0).σ ++ List.replicate k .free)
    (round : ∀ g, AWP P ro c (inv g) (thenK (fun s' => ∃ g', m g' < m g ∧ leF s'.fr (inv g').fr ∧ ∃ k, s'.σ = (inv g').σ ++ List.replicate k .free) K)) : AWP P ro (.loop c) st K := fun B a w hr Q hQ => by
  intro b k cs hro hb hrm
  have key : ∀ j g a w, m g = j → Rel B (inv g) a w →
      ∃ e a' w', Q e a' w' ∧ ArrivesIn (Machine.fenced P (FW ro)) P (lone (b.atR a (.code c :: .inLoop c :: k)) cs w) b k cs e a' w' := by
    intro j
    induction j using Nat.strongRecOn with
    | _ j ih =>
      intro g a w hj hrel
      have hw := round g B a w hrel (fun e a' w' => (e = .normal ∧ ∃ g', m g' < m g ∧ Rel B (inv g') a' w') ∨ (e ≠ .normal ∧ Q e a' w')) (fun e st' a' w' hK hr' => by
        cases e with
        | normal => obtain ⟨g', hg, h1, n, h2⟩ := hK; exact .inl ⟨rfl, g', hg, (hr'.le (t := ⟨(inv g').fr, (inv g').σ ++ List.replicate n .free⟩) h1 (by rw [h2]; exact leS_refl _)).unroom⟩
        | exit id => exact .inr ⟨by simp, hQ _ _ _ _ hK hr'⟩
        | goto l => exact .inr ⟨by simp, hQ _ _ _ _ hK hr'⟩
        | ret => exact .inr ⟨by simp, hQ _ _ _ _ hK hr'⟩
        | panic c => exact .inr ⟨by simp, hQ _ _ _ _ hK hr'⟩
        | outgrown => exact .inr ⟨by simp, hQ _ _ _ _ hK hr'⟩)
      obtain ⟨e, a₁, w₁, hq, harr⟩ := hw b (.inLoop c :: k) cs hro hb hrm
      rcases hq with ⟨rfl, g', hg, hr'⟩ | ⟨hne, hq⟩
      · obtain ⟨e₂, a₂, w₂, hq₂, harr₂⟩ := ih (m g') (hj ▸ hg) g' a₁ w₁ rfl hr'
        exact ⟨e₂, a₂, w₂, hq₂, .of_steps (StepsIn.trans harr (.one (fenced_calm hb hrm rfl) stepR_inLoop)) harr₂⟩
      · exact ⟨e, a₁, w₁, hq, .pass (x := .inLoop c) rfl (fun _ _ => .inl hne) harr⟩
  obtain ⟨e, a', w', hq, harr⟩ := key _ g0 a w rfl (let ⟨h1, n, h2⟩ := h0; (hr.le (t := ⟨(inv g0).fr, (inv g0).σ ++ List.replicate n .free⟩) h1 (by rw [h2]; exact leS_refl _)).unroom)
  exact ⟨e, a', w', hq, .of_steps (.one (fenced_calm hb hrm rfl) stepR_loop) harr⟩
end
attribute [push_cast] Bool.not_eq_true' Bool.not_eq_false' decide_true decide_false Int.natCast_zero Int.cast_ofNat_Int
end Go.Proofs.Ytabliglgeiajlaa.AM
