/- Programs of choices, plainly. -/
import Derived.Test.YtabliglgeiajlaaU5
set_option linter.unusedSimpArgs false
set_option linter.unusedVariables false
namespace Go.Proofs.Ytabliglgeiajlaa.AM
open Go Go.RowKit Go.Proofs

/-- A program of choices: it ends, is refused, or takes a choice below a bound. -/
inductive Cp (α : Type) where
  | ret (x : α)
  | bad (e : Int)
  | take (b : Int) (k : Int → Cp α)
namespace Cp
variable {α β γ : Type}
def bind : Cp α → (α → Cp β) → Cp β
  | .ret x, f => f x
  | .bad e, _ => .bad e
  | .take b k, f => .take b fun n => (k n).bind f
def run : Cp α → Dr → Except Int (Dr × α)
  | .ret x, d => .ok (d, x)
  | .bad e, _ => .error e
  | .take b k, d => if (takeF d b).2.2 = 0 then (k (takeF d b).2.1).run (takeF d b).1 else .error (takeF d b).2.2
theorem run_bind (c : Cp α) (f : α → Cp β) (d : Dr) : (c.bind f).run d = match c.run d with | .ok (d', x) => (f x).run d' | .error e => .error e := by
  induction c generalizing d with
  | ret x => rfl
  | bad e => rfl
  | take b k ih =>
    simp only [bind, run]
    by_cases h : (takeF d b).2.2 = 0
    · rw [if_pos h, if_pos h, ih]
    · rw [if_neg h, if_neg h]
/-- So many of one. -/
def times (c : Cp α) : Nat → Cp (List α)
  | 0 => .ret []
  | n + 1 => (times c n).bind fun l => c.bind fun x => .ret (l ++ [x])
/-- Rows: so many at most. -/
def rows (c : Cp α) (most : Int) : Cp (List α) := .take (most + 1) fun n => c.times n.toNat
end Cp
/-- Draws, a choice, and what is wrong. -/
abbrev M3 := Dr × Int × Int
/-- A function of draws does what a program of choices tells. -/
def Is {α : Type} (f : M3 → M3 × α) (c : Cp α) : Prop :=
  (∀ d n, match c.run d with | .ok (d', x) => ∃ n', f (d, n, 0) = ((d', n', 0), x) | .error e => e ≠ 0 ∧ (f (d, n, 0)).1.2.2 = e) ∧ ∀ d n e, e ≠ 0 → (f (d, n, e)).1.2.2 = e
section
variable {α β : Type}
theorem Is.bind {f : M3 → M3 × α} {c : Cp α} {g : α → M3 → M3 × β} {k : α → Cp β} (h : Is f c) (hg : ∀ x, Is (g x) (k x)) : Is (fun m => g (f m).2 (f m).1) (c.bind k) := by
  refine ⟨fun d n => ?_, fun d n e he => ?_⟩
  · have h1 := h.1 d n
    rw [Cp.run_bind]
    cases hr : c.run d with
    | error e =>
      rw [hr] at h1
      obtain ⟨he, h2⟩ := h1
      obtain ⟨⟨⟨d1, n1, e1⟩, x⟩, hf⟩ : ∃ r, f (d, n, 0) = r := ⟨_, rfl⟩
      rw [hf] at h2
      simp only at h2
      subst h2
      exact ⟨he, by simp only [hf]; exact (hg x).2 d1 n1 e1 he⟩
    | ok r =>
      obtain ⟨d', x⟩ := r
      rw [hr] at h1
      obtain ⟨n', hf⟩ := h1
      have h3 := (hg x).1 d' n'
      simp only [hf]
      exact h3
  · have h1 := h.2 d n e he
    obtain ⟨⟨⟨d1, n1, e1⟩, x⟩, hf⟩ : ∃ r, f (d, n, e) = r := ⟨_, rfl⟩
    rw [hf] at h1
    simp only at h1
    subst h1
    simp only [hf]
    exact (hg x).2 d1 n1 e1 he
theorem Is.ret (x : α) : Is (fun m => (m, x)) (.ret x) := ⟨fun d n => ⟨n, rfl⟩, fun _ _ _ _ => rfl⟩
theorem Is.ext {f g : M3 → M3 × α} {c : Cp α} (h : Is f c) (he : ∀ m, f m = g m) : Is g c := by
  rw [show g = f from (funext he).symm]; exact h
/-- So many of one. -/
def timesF (one : M3 → M3 × α) : Nat → M3 → M3 × List α
  | 0, m => (m, [])
  | n + 1, m => let r := timesF one n m; let x := one r.1; (x.1, r.2 ++ [x.2])
theorem Is.times {f : M3 → M3 × α} {c : Cp α} (h : Is f c) : ∀ n, Is (timesF f n) (c.times n)
  | 0 => .ret []
  | n + 1 => (Is.bind (Is.times h n) (g := fun l m => ((f m).1, l ++ [(f m).2])) (k := fun l => c.bind fun x => .ret (l ++ [x])) fun l => (Is.bind h (g := fun x m => (m, l ++ [x])) (k := fun x => .ret (l ++ [x])) fun x => .ret (l ++ [x]))).ext fun m => rfl
end
/-- A choice that is taken: nothing more is, if something is wrong. -/
def tookP (m t : M3) : M3 := if m.2.2 = 0 then if t.2.2 = 0 then t else (m.1, 0, t.2.2) else (m.1, 0, m.2.2)
/-- An answer of draws. -/
def Ans (t : Dr → M3) (c : Cp Int) : Prop := ∀ d, match c.run d with | .ok (d', x) => t d = (d', x, 0) | .error e => e ≠ 0 ∧ (t d).2.2 = e
theorem is_tookP {t : Dr → M3} {c : Cp Int} (h : Ans t c) : Is (fun m => (tookP m (t m.1), (tookP m (t m.1)).2.1)) c := by
  refine ⟨fun d n => ?_, fun d n e he => by simp only [tookP]; rw [if_neg he]⟩
  have := h d
  cases hr : c.run d with
  | error e =>
    rw [hr] at this
    obtain ⟨he, h2⟩ := this
    refine ⟨he, ?_⟩
    simp only [tookP, if_true]
    rw [if_neg (by rw [h2]; exact he)]
    exact h2
  | ok r =>
    obtain ⟨d', x⟩ := r
    rw [hr] at this
    simp only at this
    simp only [tookP, this, if_true]
    exact ⟨x, rfl⟩
/-- One choice below a bound; a number; one by weights. -/
def oneC (b : Int) : Cp Int := .take b .ret
def numC (v : Int) : Cp Int := if v < 0 ∨ 20 < v then .bad 1 else .take (2 * v + 1) fun n => .ret (madeI n)
def opC (ws : List Int) : Cp Int := if weightsB ws = false then .bad 1 else .take ws.sum fun n => .ret (pickI ws n)
theorem ans_one (b : Int) : Ans (fun d => takeF d b) (oneC b) := fun d => by
  simp only [oneC, Cp.run]
  split
  · rename_i h
    split at h
    · rename_i h0; cases h; exact Prod.ext rfl (Prod.ext rfl h0)
    · cases h
  · rename_i h
    split at h
    · cases h
    · rename_i h0; cases h; exact ⟨h0, rfl⟩
theorem ans_num (v : Int) : Ans (fun d => signedF d v) (numC v) := fun d => by
  simp only [numC, signedF]
  by_cases hv : v < 0 ∨ 20 < v
  · rw [if_pos hv, if_pos hv]; exact ⟨by decide, rfl⟩
  · rw [if_neg hv, if_neg hv]
    simp only [Cp.run]
    by_cases h0 : (takeF d (2 * v + 1)).2.2 = 0
    · rw [if_pos h0, if_pos h0]
    · rw [if_neg h0, if_neg h0]; exact ⟨h0, rfl⟩
theorem ans_op (ws : List Int) : Ans (fun d => weightedF d ws) (opC ws) := fun d => by
  simp only [opC, weightedF]
  by_cases hv : weightsB ws = false
  · rw [if_pos hv, if_pos hv]; exact ⟨by decide, rfl⟩
  · rw [if_neg hv, if_neg hv]
    simp only [Cp.run]
    by_cases h0 : (takeF d ws.sum).2.2 = 0
    · rw [if_pos h0, if_pos h0]
    · rw [if_neg h0, if_neg h0]; exact ⟨h0, rfl⟩
end Go.Proofs.Ytabliglgeiajlaa.AM
