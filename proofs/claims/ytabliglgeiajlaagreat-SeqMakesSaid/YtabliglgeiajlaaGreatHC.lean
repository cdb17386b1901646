/- Programs of choices, plainly. -/
import Derived.Test.YtabliglgeiajlaaGreatU5
set_option linter.unusedSimpArgs false
set_option linter.unusedVariables false
namespace Go.Proofs.YtabliglgeiajlaaGreat.AM
open Go Go.RowKit Go.Proofs

/-- A program of choices: it ends, is refused, or takes a choice below a bound. -/
inductive Cp (α : Type) where
  | ret (x : α)
  | bad (e : Int)
  | take (b : Int) (k : Int → Cp α)
namespace Cp
variable {α β γ : Type}
def bind : Cp α → (α → Cp β) → Cp β
  | .ret x, f => f x
  | .bad e, _ => .bad e
  | .take b k, f => .take b fun n => (k n).bind f
theorem bind_assoc (c : Cp α) (f : α → Cp β) (g : β → Cp γ) : (c.bind f).bind g = c.bind fun x => (f x).bind g := by
  induction c with
  | ret x => rfl
  | bad e => rfl
  | take b k ih => simp only [bind, ih]
def run : Cp α → Dr → Except Int (Dr × α)
  | .ret x, d => .ok (d, x)
  | .bad e, _ => .error e
  | .take b k, d => if (takeF d b).2.2 = 0 then (k (takeF d b).2.1).run (takeF d b).1 else .error (takeF d b).2.2
/-- The errors that it tells are none of 0. -/
def Nz : Cp α → Prop
  | .ret _ => True
  | .bad e => e ≠ 0
  | .take _ k => ∀ n, (k n).Nz
theorem run_bind (c : Cp α) (f : α → Cp β) (d : Dr) : (c.bind f).run d = match c.run d with | .ok (d', x) => (f x).run d' | .error e => .error e := by
  induction c generalizing d with
  | ret x => rfl
  | bad e => rfl
  | take b k ih =>
    simp only [bind, run]
    by_cases h : (takeF d b).2.2 = 0
    · rw [if_pos h, if_pos h, ih]
    · rw [if_neg h, if_neg h]
/-- What choices make: all of them are taken, each is below its bound. -/
def path : Cp α → List Int → Option α
  | .ret x, [] => some x
  | .take b k, n :: cs => if 0 ≤ n ∧ n < b then (k n).path cs else none
  | _, _ => none
theorem path_bind (c : Cp α) (f : α → Cp β) {cs ds : List Int} {x : α} {y : β} (h1 : c.path cs = some x) (h2 : (f x).path ds = some y) : (c.bind f).path (cs ++ ds) = some y := by
  induction c generalizing cs with
  | ret z =>
    cases cs with
    | nil => simp only [path, Option.some.injEq] at h1; subst h1; exact h2
    | cons _ _ => simp [path] at h1
  | bad e => cases cs <;> simp [path] at h1
  | take b k ih =>
    cases cs with
    | nil => simp [path] at h1
    | cons n cs =>
      simp only [path] at h1
      split at h1
      · rename_i hn
        simp only [bind, List.cons_append, path]
        rw [if_pos hn]
        exact ih n h1
      · cases h1
theorem bind_path (c : Cp α) (f : α → Cp β) {cs : List Int} {y : β} (h : (c.bind f).path cs = some y) : ∃ xs bs x, cs = xs ++ bs ∧ c.path xs = some x ∧ (f x).path bs = some y := by
  induction c generalizing cs with
  | ret z => exact ⟨[], cs, z, rfl, rfl, h⟩
  | bad e => cases cs <;> simp [bind, path] at h
  | take b k ih =>
    cases cs with
    | nil => simp [bind, path] at h
    | cons n cs =>
      simp only [bind, path] at h
      split at h
      · rename_i hn
        obtain ⟨xs, bs, x, h1, h2, h3⟩ := ih n h
        exact ⟨n :: xs, bs, x, by rw [h1]; rfl, by simp only [path]; rw [if_pos hn]; exact h2, h3⟩
      · cases h
theorem takeF_ok {d : Dr} {b : Int} (h : (takeF d b).2.2 = 0) : rightB d.l d.g d.a = true ∧ 1 ≤ b ∧ d.g.length < 2000 ∧ 0 ≤ (takeF d b).2.1 ∧ (takeF d b).2.1 < b ∧ (takeF d b).1 = ⟨d.l, (if d.a < d.l.length then d.a + 1 else d.a), d.g ++ [(takeF d b).2.1]⟩ ∧ (takeF d b).2.1 = choiceI d.l d.a b := by
  unfold takeF at h ⊢
  split
  · rename_i hc; rw [if_pos hc] at h; cases h
  · rename_i hc
    rw [if_neg hc] at h
    split
    · rename_i hg; rw [if_pos hg] at h; cases h
    · rename_i hg
      have hr : rightB d.l d.g d.a = true := by
        cases hh : rightB d.l d.g d.a with
        | true => rfl
        | false => exact absurd (.inl hh) hc
      have hb : 1 ≤ b := by
        by_cases hb : b < 1
        · exact absurd (.inr hb) hc
        · omega
      have hgl : d.g.length ≤ 2000 := by
        simp only [rightB, Bool.and_eq_true, decide_eq_true_eq] at hr
        exact hr.1.2
      have := choiceI_range d.l d.a hb
      exact ⟨hr, hb, by omega, this.1, this.2, rfl, rfl⟩
/-- What is made is made by the choices that were logged. -/
theorem run_path (c : Cp α) {d d' : Dr} {x : α} (h : c.run d = .ok (d', x)) : ∃ cs, c.path cs = some x ∧ d'.g = d.g ++ cs ∧ d'.l = d.l := by
  induction c generalizing d with
  | ret z => simp only [run, Except.ok.injEq, Prod.mk.injEq] at h; obtain ⟨rfl, rfl⟩ := h; exact ⟨[], rfl, by simp, rfl⟩
  | bad e => simp [run] at h
  | take b k ih =>
    simp only [run] at h
    split at h
    · rename_i h0
      obtain ⟨cs, h1, h2, h3⟩ := ih _ h
      obtain ⟨_, _, _, h4, h5, h6, _⟩ := takeF_ok h0
      refine ⟨(takeF d b).2.1 :: cs, by simp only [path]; rw [if_pos ⟨h4, h5⟩]; exact h1, ?_, ?_⟩
      · rw [h2, h6]; simp
      · rw [h3, h6]
    · cases h
/-- Choices that make something make it, wherever they stand in a row. -/
theorem path_run (c : Cp α) {cs L g : List Int} {a : Nat} {x : α} (h : c.path cs = some x) (hL : L.length ≤ 500) (hg : g.length + cs.length ≤ 2000) (hp : ∃ post, L.drop a = cs ++ post) :
    c.run ⟨L, a, g⟩ = .ok (⟨L, ((a + cs.length : Nat) : Int), g ++ cs⟩, x) := by
  induction c generalizing cs g a with
  | ret z =>
    cases cs with
    | nil => simp only [path, Option.some.injEq] at h; subst h; simp [run]
    | cons _ _ => simp [path] at h
  | bad e => cases cs <;> simp [path] at h
  | take b k ih =>
    cases cs with
    | nil => simp [path] at h
    | cons n cs =>
      simp only [path] at h
      split at h
      · rename_i hn
        obtain ⟨post, hp⟩ := hp
        simp only [List.length_cons] at hg
        have ha : L[a]? = some n := by
          have : (L.drop a)[0]? = some n := by rw [hp]; rfl
          rw [List.getElem?_drop] at this; simpa using this
        have hal : a < L.length := (List.getElem?_eq_some_iff.1 ha).1
        have hr : rightB L g (a : Int) = true := by simp [rightB]; omega
        have ht : takeF ⟨L, a, g⟩ b = (⟨L, ((a + 1 : Nat) : Int), g ++ [n]⟩, n, 0) := by
          rw [takeF_0 hr (by omega) (by omega)]
          have hc : choiceI L (a : Int) b = n := by
            unfold choiceI
            rw [if_pos (by omega), Int.toNat_natCast, List.getD_eq_getElem?_getD, ha]
            exact Int.emod_eq_of_lt hn.1 hn.2
          rw [hc, if_pos (by omega)]
          simp
        simp only [run, ht, if_true]
        rw [ih n h (by simp; omega) ⟨post, by rw [← List.drop_drop, hp]; rfl⟩]
        simp only [List.length_cons, List.append_assoc, List.cons_append, List.nil_append]
        rw [show a + 1 + cs.length = a + (cs.length + 1) from by omega]
      · cases h
/-- All that it may make. -/
def All (p : α → Prop) : Cp α → Prop
  | .ret x => p x
  | .bad _ => True
  | .take b k => ∀ n, 0 ≤ n → n < b → (k n).All p
theorem all_path {p : α → Prop} (c : Cp α) (h : c.All p) {cs : List Int} {x : α} (hc : c.path cs = some x) : p x := by
  induction c generalizing cs with
  | ret z =>
    cases cs with
    | nil => simp only [path, Option.some.injEq] at hc; subst hc; exact h
    | cons _ _ => simp [path] at hc
  | bad e => cases cs <;> simp [path] at hc
  | take b k ih =>
    cases cs with
    | nil => simp [path] at hc
    | cons n cs =>
      simp only [path] at hc
      split at hc
      · rename_i hn; exact ih n (h n hn.1 hn.2) hc
      · cases hc
theorem all_bind {p : α → Prop} {q : β → Prop} (c : Cp α) (f : α → Cp β) (h : c.All p) (hf : ∀ x, p x → (f x).All q) : (c.bind f).All q := by
  induction c with
  | ret z => exact hf z h
  | bad e => trivial
  | take b k ih => exact fun n h0 h1 => ih n (h n h0 h1)
theorem all_mono {p q : α → Prop} (c : Cp α) (h : c.All p) (hpq : ∀ x, p x → q x) : c.All q := by
  induction c with
  | ret z => exact hpq z h
  | bad e => trivial
  | take b k ih => exact fun n h0 h1 => ih n (h n h0 h1)
/-- At most so many choices are taken. -/
def Deep : Nat → Cp α → Prop
  | _, .ret _ => True
  | _, .bad _ => True
  | 0, .take _ _ => False
  | n + 1, .take b k => ∀ m, 0 ≤ m → m < b → Deep n (k m)
theorem deep_mono {n m : Nat} (c : Cp α) (h : Deep n c) (hm : n ≤ m) : Deep m c := by
  induction c generalizing n m with
  | ret z => cases m <;> trivial
  | bad e => cases m <;> trivial
  | take b k ih =>
    cases n with
    | zero => exact h.elim
    | succ n =>
      cases m with
      | zero => omega
      | succ m => exact fun j h0 h1 => ih j (h j h0 h1) (by omega)
theorem deep_bind {n m : Nat} {p : α → Prop} (c : Cp α) (f : α → Cp β) (h : Deep n c) (hp : c.All p) (hf : ∀ x, p x → Deep m (f x)) : Deep (n + m) (c.bind f) := by
  induction c generalizing n with
  | ret z => exact deep_mono _ (hf z hp) (by omega)
  | bad e => cases n + m <;> trivial
  | take b k ih =>
    cases n with
    | zero => exact h.elim
    | succ n =>
      rw [show n + 1 + m = (n + m) + 1 from by omega]
      exact fun j h0 h1 => ih j (h j h0 h1) (hp j h0 h1)
theorem path_deep {n : Nat} (c : Cp α) (h : Deep n c) {cs : List Int} {x : α} (hc : c.path cs = some x) : cs.length ≤ n := by
  induction c generalizing n cs with
  | ret z =>
    cases cs with
    | nil => simp
    | cons _ _ => simp [path] at hc
  | bad e => cases cs <;> simp [path] at hc
  | take b k ih =>
    cases cs with
    | nil => simp
    | cons j cs =>
      cases n with
      | zero => exact h.elim
      | succ n =>
        simp only [path] at hc
        split at hc
        · rename_i hn
          have := ih j (h j hn.1 hn.2) hc
          simp only [List.length_cons]; omega
        · cases hc
/-- So many of one. -/
def times (c : Cp α) : Nat → Cp (List α)
  | 0 => .ret []
  | n + 1 => (times c n).bind fun l => c.bind fun x => .ret (l ++ [x])
theorem all_times {p : α → Prop} {c : Cp α} (h : c.All p) : ∀ n, (c.times n).All fun l => l.length = n ∧ ∀ x ∈ l, p x
  | 0 => ⟨rfl, fun x hx => by cases hx⟩
  | n + 1 => all_bind _ _ (all_times h n) fun l hl => all_bind _ _ h fun x hx => ⟨by simp [hl.1], fun y hy => by
      rcases List.mem_append.1 hy with hy | hy
      · exact hl.2 y hy
      · rw [List.mem_singleton.1 hy]; exact hx⟩
theorem all_true (c : Cp α) : c.All fun _ => True := by
  induction c with
  | ret z => trivial
  | bad e => trivial
  | take b k ih => exact fun n _ _ => ih n
theorem deep_times {m : Nat} {c : Cp α} (h : Deep m c) : ∀ n, Deep (n * m) (c.times n)
  | 0 => by cases 0 * m <;> trivial
  | n + 1 => by
    rw [Nat.succ_mul]
    exact deep_bind _ _ (deep_times h n) (all_true _) fun l _ => deep_mono _ (deep_bind (m := 0) _ _ h (all_true _) fun x _ => trivial) (by omega)
/-- Rows: so many at most. -/
def rows (c : Cp α) (most : Int) : Cp (List α) := .take (most + 1) fun n => c.times n.toNat
end Cp
/-- Draws, a choice, and what is wrong. -/
abbrev M3 := Dr × Int × Int
/-- A function of draws does what a program of choices tells. -/
def Is {α : Type} (f : M3 → M3 × α) (c : Cp α) : Prop :=
  (∀ d n, match c.run d with | .ok (d', x) => ∃ n', f (d, n, 0) = ((d', n', 0), x) | .error e => e ≠ 0 ∧ (f (d, n, 0)).1.2.2 = e) ∧ ∀ d n e, e ≠ 0 → (f (d, n, e)).1.2.2 = e
section
variable {α β : Type}
theorem Is.bind {f : M3 → M3 × α} {c : Cp α} {g : α → M3 → M3 × β} {k : α → Cp β} (h : Is f c) (hg : ∀ x, Is (g x) (k x)) : Is (fun m => g (f m).2 (f m).1) (c.bind k) := by
  refine ⟨fun d n => ?_, fun d n e he => ?_⟩
  · have h1 := h.1 d n
    rw [Cp.run_bind]
    cases hr : c.run d with
    | error e =>
      rw [hr] at h1
      obtain ⟨he, h2⟩ := h1
      obtain ⟨⟨⟨d1, n1, e1⟩, x⟩, hf⟩ : ∃ r, f (d, n, 0) = r := ⟨_, rfl⟩
      rw [hf] at h2
      simp only at h2
      subst h2
      exact ⟨he, by simp only [hf]; exact (hg x).2 d1 n1 e1 he⟩
    | ok r =>
      obtain ⟨d', x⟩ := r
      rw [hr] at h1
      obtain ⟨n', hf⟩ := h1
      have h3 := (hg x).1 d' n'
      simp only [hf]
      exact h3
  · have h1 := h.2 d n e he
    obtain ⟨⟨⟨d1, n1, e1⟩, x⟩, hf⟩ : ∃ r, f (d, n, e) = r := ⟨_, rfl⟩
    rw [hf] at h1
    simp only at h1
    subst h1
    simp only [hf]
    exact (hg x).2 d1 n1 e1 he
theorem Is.ret (x : α) : Is (fun m => (m, x)) (.ret x) := ⟨fun d n => ⟨n, rfl⟩, fun _ _ _ _ => rfl⟩
theorem Is.ext {f g : M3 → M3 × α} {c : Cp α} (h : Is f c) (he : ∀ m, f m = g m) : Is g c := by
  rw [show g = f from (funext he).symm]; exact h
/-- Where there is nothing wrong yet is enough. -/
theorem Is.ext0 {f g : M3 → M3 × α} {c : Cp α} (h : Is f c) (he : ∀ d n, f (d, n, 0) = g (d, n, 0)) (hn : ∀ d n e, e ≠ 0 → (g (d, n, e)).1.2.2 = e) : Is g c :=
  ⟨fun d n => by rw [← he]; exact h.1 d n, hn⟩
/-- So many of one. -/
def timesF (one : M3 → M3 × α) : Nat → M3 → M3 × List α
  | 0, m => (m, [])
  | n + 1, m => let r := timesF one n m; let x := one r.1; (x.1, r.2 ++ [x.2])
theorem Is.times {f : M3 → M3 × α} {c : Cp α} (h : Is f c) : ∀ n, Is (timesF f n) (c.times n)
  | 0 => .ret []
  | n + 1 => (Is.bind (Is.times h n) (g := fun l m => ((f m).1, l ++ [(f m).2])) (k := fun l => c.bind fun x => .ret (l ++ [x])) fun l => (Is.bind h (g := fun x m => (m, l ++ [x])) (k := fun x => .ret (l ++ [x])) fun x => .ret (l ++ [x]))).ext fun m => rfl
end
/-- A choice that is taken: nothing more is, if something is wrong. -/
def tookP (m t : M3) : M3 := if m.2.2 = 0 then if t.2.2 = 0 then t else (m.1, 0, t.2.2) else (m.1, 0, m.2.2)
/-- The same, as the reference tells it. -/
def tookR (m t : M3) : M3 := if m.2.2 = 0 then if t.2.2 = 0 then t else (Dr.z, 0, t.2.2) else m
/-- An answer of draws. -/
def Ans (t : Dr → M3) (c : Cp Int) : Prop := ∀ d, match c.run d with | .ok (d', x) => t d = (d', x, 0) | .error e => e ≠ 0 ∧ (t d).2.2 = e
theorem is_tookP {t : Dr → M3} {c : Cp Int} (h : Ans t c) : Is (fun m => (tookP m (t m.1), (tookP m (t m.1)).2.1)) c := by
  refine ⟨fun d n => ?_, fun d n e he => by simp only [tookP]; rw [if_neg he]⟩
  have := h d
  cases hr : c.run d with
  | error e =>
    rw [hr] at this
    obtain ⟨he, h2⟩ := this
    refine ⟨he, ?_⟩
    simp only [tookP, if_true]
    rw [if_neg (by rw [h2]; exact he)]
    exact h2
  | ok r =>
    obtain ⟨d', x⟩ := r
    rw [hr] at this
    simp only at this
    simp only [tookP, this, if_true]
    exact ⟨x, rfl⟩
theorem is_tookR {t : Dr → M3} {c : Cp Int} (h : Ans t c) : Is (fun m => (tookR m (t m.1), (tookR m (t m.1)).2.1)) c := by
  refine ⟨fun d n => ?_, fun d n e he => by simp only [tookR]; rw [if_neg he]⟩
  have := h d
  cases hr : c.run d with
  | error e =>
    rw [hr] at this
    obtain ⟨he, h2⟩ := this
    refine ⟨he, ?_⟩
    simp only [tookR, if_true]
    rw [if_neg (by rw [h2]; exact he)]
    exact h2
  | ok r =>
    obtain ⟨d', x⟩ := r
    rw [hr] at this
    simp only at this
    simp only [tookR, this, if_true]
    exact ⟨x, rfl⟩
/-- One choice below a bound; a number; one by weights. -/
def oneC (b : Int) : Cp Int := .take b .ret
def numC (v : Int) : Cp Int := if v < 0 ∨ 20 < v then .bad 1 else .take (2 * v + 1) fun n => .ret (madeI n)
def opC (ws : List Int) : Cp Int := if weightsB ws = false then .bad 1 else .take ws.sum fun n => .ret (pickI ws n)
theorem ans_one (b : Int) : Ans (fun d => takeF d b) (oneC b) := fun d => by
  simp only [oneC, Cp.run]
  split
  · rename_i h
    split at h
    · rename_i h0; cases h; exact Prod.ext rfl (Prod.ext rfl h0)
    · cases h
  · rename_i h
    split at h
    · cases h
    · rename_i h0; cases h; exact ⟨h0, rfl⟩
theorem ans_num (v : Int) : Ans (fun d => signedF d v) (numC v) := fun d => by
  simp only [numC, signedF]
  by_cases hv : v < 0 ∨ 20 < v
  · rw [if_pos hv, if_pos hv]; exact ⟨by decide, rfl⟩
  · rw [if_neg hv, if_neg hv]
    simp only [Cp.run]
    by_cases h0 : (takeF d (2 * v + 1)).2.2 = 0
    · rw [if_pos h0, if_pos h0]
    · rw [if_neg h0, if_neg h0]; exact ⟨h0, rfl⟩
theorem ans_op (ws : List Int) : Ans (fun d => weightedF d ws) (opC ws) := fun d => by
  simp only [opC, weightedF]
  by_cases hv : weightsB ws = false
  · rw [if_pos hv, if_pos hv]; exact ⟨by decide, rfl⟩
  · rw [if_neg hv, if_neg hv]
    simp only [Cp.run]
    by_cases h0 : (takeF d ws.sum).2.2 = 0
    · rw [if_pos h0, if_pos h0]
    · rw [if_neg h0, if_neg h0]; exact ⟨h0, rfl⟩
end Go.Proofs.YtabliglgeiajlaaGreat.AM
