/- The machine: parts of code, behind which blocks are forgotten. -/
import Derived.Test.YtabliglgeiajlaaGreatMc
set_option linter.unusedSimpArgs false
set_option linter.unusedVariables false
namespace Go.Proofs.YtabliglgeiajlaaGreat.AM
open Go Go.RowKit Go.Proofs

section
variable {P : Program} {ro : Option Nat} {st : St} {K : Exit → St → Prop} {c c2 : Code}
theorem holdB (id : Nat) (h : Hold (AWP P ro (.block id c) st K)) : AWP P ro (.block id c) st K := by unfold Hold at h; exact h
/-- A part that may leave blocks behind, of which nothing is told then. -/
theorem AWP_cutW (n : Nat) (t : St) (h0 : ∃ (p : List Slot) (k : Nat), st.σ = p ++ List.replicate k .free ∧ p.length = n) (h1 : AWP P ro c st (fun e s => (e = .normal ∧ Weak n s t) ∨ (e ≠ .normal ∧ K e s))) (h2 : AWP P ro c2 t K) : Hold (AWP P ro c st (thenK (fun s => AWP P ro c2 s K) K)) := by
  unfold Hold
  intro B a w hr Q hQ
  obtain ⟨p, k, hp, hl⟩ := h0
  have hr0 : Rel B ⟨st.fr, p ++ List.replicate k .free⟩ a w := by rw [← hp]; exact hr
  have hlt := hr0.unroom.used_lt
  simp only [hl] at hlt
  refine h1 B a w hr Q (fun e s a' w' hK hr' => ?_)
  rcases hK with ⟨rfl, hw⟩ | ⟨hne, hK⟩
  · exact hQ .normal t a' w' h2 (hr'.weak hw hlt)
  · cases e with
    | normal => exact absurd rfl hne
    | exit id => exact hQ _ _ _ _ hK hr'
    | goto l => exact hQ _ _ _ _ hK hr'
    | ret => exact hQ _ _ _ _ hK hr'
    | panic c => exact hQ _ _ _ _ hK hr'
    | outgrown => exact hQ _ _ _ _ hK hr'
end
/-! ### What is told of arguments, more or less -/
def Rle (a b : D) : Prop := ∀ w fz tb U u, Rep w fz tb U a u → Rep w fz tb U b u
theorem Rle.refl (a : D) : Rle a a := fun _ _ _ _ _ h => h
theorem Rle.full (sz : Nat) (xs : List (List D)) : Rle (.sl true sz xs) (.sl false sz xs) := fun w fz tb U u h => by
  refine .fro _ _ ?_
  have h1 := h.sl_inv
  generalize hx : D.sl true sz xs = d at h1
  cases h1 with
  | sl0 full sz' A cap h0 => cases hx; exact .sl0 false _ A cap (fun h => by cases h)
  | sl full sz' xs' b o cap n g hn h0 hc hf hb hw hcell hr => cases hx; exact .sl false _ _ b o cap n g hn h0 hc (fun h => by cases h) hb hw hcell hr
  | any x => cases hx
  | v x => cases hx
  | agg ds cs h hr => cases hx
  | tup ds cs h hr => cases hx
  | fn f caps cs h hr => cases hx
  | bnd f caps cs h hr => cases hx
  | fad ds b o g hb hc hr => cases hx
inductive RleF : List D → List D → Prop
  | nil : RleF [] []
  | cons {a b : D} {l m : List D} (h : Rle a b) (hs : RleF l m) : RleF (a :: l) (b :: m)
theorem RleF.get {l m : List D} (h : RleF l m) : l.length = m.length ∧ ∀ (j : Nat) (a b : D), l[j]? = some a → m[j]? = some b → Rle a b := by
  induction h with
  | nil => exact ⟨rfl, fun j a b h => by simp at h⟩
  | cons h hs ih =>
    refine ⟨by simp [ih.1], fun j a b ha hb => ?_⟩
    cases j with
    | zero => simp at ha hb; subst ha; subst hb; exact h
    | succ j => simp at ha hb; exact ih.2 j a b ha hb
theorem RleF.refl : ∀ l, RleF l l
  | [] => .nil
  | a :: l => .cons (.refl a) (RleF.refl l)
theorem Rle.agg {ds es : List D} (h : RleF ds es) : Rle (.agg ds) (.agg es) := fun w fz tb U u hu => by
  obtain ⟨cs, rfl, hl, hr⟩ := hu.agg_inv
  obtain ⟨h1, h2⟩ := h.get
  refine .agg es cs (by omega) (fun j d v hd hv => ?_)
  have hj : j < ds.length := by rw [h1]; exact (List.getElem?_eq_some_iff.1 hd).1
  exact h2 j ds[j] d (List.getElem?_eq_getElem hj) hd _ _ _ _ _ (hr j ds[j] v (List.getElem?_eq_getElem hj) hv)
theorem Fn.pre {P : Program} {f : Nat} {args args' : List D} {ext : List Slot} {res : D} {out : List Slot} (h : Fn P f args' ext res out) (hle : RleF args args') : Fn P f args ext res out where
  enter := h.enter
  spec := fun N0 ρ w vs hp hs hr => h.spec N0 ρ w vs hp (by rw [hs]; exact hle.get.1) (fun j d u hd hu => by
    have hj : j < args.length := by rw [hle.get.1]; exact (List.getElem?_eq_some_iff.1 hd).1
    exact hle.get.2 j args[j] d (List.getElem?_eq_getElem hj) hd _ _ _ _ _ (hr j args[j] u (List.getElem?_eq_getElem hj) hu))
end Go.Proofs.YtabliglgeiajlaaGreat.AM
