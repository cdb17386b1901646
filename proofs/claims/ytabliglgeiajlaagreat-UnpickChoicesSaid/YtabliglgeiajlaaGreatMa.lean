/- The abstract machine, the first part. -/
import Derived.WalkKit
import Derived.Orders
import Derived.CallsIn
import Derived.OrdersIn
import Derived.LeavingIn
import Derived.RangeFuncLeaves
import Derived.RangeFuncRecord
import Derived.Shelf.Abstract
import Derived.Laws.StructEq
set_option linter.unusedSimpArgs false
set_option linter.unusedVariables false
/- An abstract machine for proofs: values, their representation in a world, and what keeps it. -/
namespace Go.Proofs.YtabliglgeiajlaaGreat.AM
open Go Go.RowKit

inductive D where
 | any
 | v (x : Value)
 | agg (ds : List D)
 | sl (full : Bool) (sz : Nat) (xs : List (List D))
 | fad (ds : List D)
 | fn (f : Nat) (caps : List D)
 | bnd (f : Nat) (caps : List D)
 | tup (ds : List D)
 | ref (k g n : Nat)
 | ptr (k g o : Nat)
 | kref (m : Bool) (k g : Nat)
 | refo (k g o n : Nat)

def zSo (m : Bool) (b : Nat) : Value := match m with | true => .map (some b) | false => .func (.yield b) #[] #[]

inductive RepF (w : World) (fz : Nat → Prop) : D → Value → Prop
 | any (x : Value) : RepF w fz .any x
 | v (x : Value) : RepF w fz (.v x) x
 | agg (ds : List D) (cs : Array Value) (h : ds.length = cs.size) (hr : ∀ (j : Nat) (d : D) (u : Value), ds[j]? = some d → cs[j]? = some u → RepF w fz d u) : RepF w fz (.agg ds) (.agg cs)
 | tup (ds : List D) (cs : Array Value) (h : ds.length = cs.size) (hr : ∀ (j : Nat) (d : D) (u : Value), ds[j]? = some d → cs[j]? = some u → RepF w fz d u) : RepF w fz (.tup ds) (.tuple cs)
 | fn (f : Nat) (caps : List D) (cs : Array Value) (h : caps.length = cs.size) (hr : ∀ (j : Nat) (d : D) (u : Value), caps[j]? = some d → cs[j]? = some u → RepF w fz d u) : RepF w fz (.fn f caps) (.func (.func f) #[] cs)
 | bnd (f : Nat) (caps : List D) (cs : Array Value) (h : caps.length = cs.size) (hr : ∀ (j : Nat) (d : D) (u : Value), caps[j]? = some d → cs[j]? = some u → RepF w fz d u) : RepF w fz (.bnd f caps) (.func (.func f) cs #[])
 | sl0 (full : Bool) (sz : Nat) (A : Option Addr) (cap : Nat) (h : full = true → cap = 0) : RepF w fz (.sl full sz []) (.slice A 0 cap)
 | sl (full : Bool) (sz : Nat) (xs : List (List D)) (b o cap n : Nat) (g : Nat → Nat → Value) (hn : n = xs.length) (h0 : 0 < n) (hc : n ≤ cap) (hf : full = true → cap = n) (hb : fz b)
   (hw : ∀ x ∈ xs, x.length = sz)
   (hcell : ∀ (i : Nat) (x : List D) (j : Nat) (d : D), xs[i]? = some x → x[j]? = some d → w.cell? ⟨b, o + i * sz + j, none⟩ = some (g i j) ∧ (g i j).oneCell' = true)
   (hr : ∀ (i : Nat) (x : List D) (j : Nat) (d : D), xs[i]? = some x → x[j]? = some d → RepF w fz d (g i j)) : RepF w fz (.sl full sz xs) (.slice (some ⟨b, o, none⟩) n cap)
 | fad (ds : List D) (b o : Nat) (g : Nat → Value) (hb : fz b)
   (hcell : ∀ (j : Nat) (d : D), ds[j]? = some d → w.cell? ⟨b, o + j, none⟩ = some (g j) ∧ (g j).oneCell' = true)
   (hr : ∀ (j : Nat) (d : D), ds[j]? = some d → RepF w fz d (g j)) : RepF w fz (.fad ds) (.pointer (some ⟨b, o, none⟩))

theorem zFf {w w' : World} {p : Addr} (h : w'.heap[p.block]? = w.heap[p.block]?) : w'.cell? p = w.cell? p := by simp only [World.cell?, h]

def zFb (w : World) (b : Nat) : Prop := ∃ c t f, w.heap[b]? = some (.cells c t f)
theorem zHf {w : World} {b o : Nat} {u : Value} (h : w.cell? ⟨b, o, none⟩ = some u) : zFb w b := by
 simp only [World.cell?] at h
 split at h
 ·rename_i c t f hc; exact ⟨_, _, _, hc⟩
 ·cases h

theorem RepF.mono {w w' : World} {fz fz' : Nat → Prop} (hz : ∀ b, fz b → fz' b) (hh : ∀ b, fz b → zFb w b → w'.heap[b]? = w.heap[b]?) {d : D} {u : Value} (h : RepF w fz d u) : RepF w' fz' d u := by
 induction h with
 | any x => exact .any x
 | v x => exact .v x
 | agg ds cs h _ ih => exact .agg ds cs h ih
 | tup ds cs h _ ih => exact .tup ds cs h ih
 | fn f caps cs h _ ih => exact .fn f caps cs h ih
 | bnd f caps cs h _ ih => exact .bnd f caps cs h ih
 | sl0 full sz A cap h => exact .sl0 full sz A cap h
 | sl full sz xs b o cap n g hn h0 hc hf hb hw hcell _ ih =>
  exact .sl full sz xs b o cap n g hn h0 hc hf (hz b hb) hw (fun i x j d hi hj => by
   have hc' := hcell i x j d hi hj
   rw [zFf (p := ⟨b, o + i * sz + j, none⟩) (hh b hb (zHf hc'.1))]; exact hc') ih
 | fad ds b o g hb hcell _ ih =>
  exact .fad ds b o g (hz b hb) (fun j d hj => by
   have hc' := hcell j d hj
   rw [zFf (p := ⟨b, o + j, none⟩) (hh b hb (zHf hc'.1))]; exact hc') ih

inductive Rep (w : World) (fz : Nat → Prop) (tb : Nat → Nat → Option (Nat × Nat)) (U : Nat → Nat → Prop) : D → Value → Prop
 | fro (d : D) (u : Value) (h : RepF w fz d u) : Rep w fz tb U d u
 | agg (ds : List D) (cs : Array Value) (h : ds.length = cs.size) (hr : ∀ (j : Nat) (d : D) (u : Value), ds[j]? = some d → cs[j]? = some u → Rep w fz tb U d u) : Rep w fz tb U (.agg ds) (.agg cs)
 | tup (ds : List D) (cs : Array Value) (h : ds.length = cs.size) (hr : ∀ (j : Nat) (d : D) (u : Value), ds[j]? = some d → cs[j]? = some u → Rep w fz tb U d u) : Rep w fz tb U (.tup ds) (.tuple cs)
 | fn (f : Nat) (caps : List D) (cs : Array Value) (h : caps.length = cs.size) (hr : ∀ (j : Nat) (d : D) (u : Value), caps[j]? = some d → cs[j]? = some u → Rep w fz tb U d u) : Rep w fz tb U (.fn f caps) (.func (.func f) #[] cs)
 | bnd (f : Nat) (caps : List D) (cs : Array Value) (h : caps.length = cs.size) (hr : ∀ (j : Nat) (d : D) (u : Value), caps[j]? = some d → cs[j]? = some u → Rep w fz tb U d u) : Rep w fz tb U (.bnd f caps) (.func (.func f) cs #[])
 | ref (k g n : Nat) (u : Value) (hk : U k g) (h1 : u.oneCell' = true) (h : ∀ b c, tb k g = some (b, c) → u = .slice (some ⟨b, 0, none⟩) n c ∧ n ≤ c) : Rep w fz tb U (.ref k g n) u
 | ptr (k g o : Nat) (u : Value) (hk : U k g) (h1 : u.oneCell' = true) (h : ∀ b c, tb k g = some (b, c) → u = .pointer (some ⟨b, o, none⟩)) : Rep w fz tb U (.ptr k g o) u
 | kref (m : Bool) (k g : Nat) (u : Value) (hk : U k g) (h1 : u.oneCell' = true) (h : ∀ b c, tb k g = some (b, c) → u = zSo m b) : Rep w fz tb U (.kref m k g) u
 | refo (k g o n : Nat) (u : Value) (hk : U k g) (h1 : u.oneCell' = true) (h : ∀ b c, tb k g = some (b, c) → ∃ A cap, u = .slice A n cap ∧ (0 < n → A = some ⟨b, o, none⟩)) : Rep w fz tb U (.refo k g o n) u

theorem Rep.mono {w w' : World} {fz fz' : Nat → Prop} {tb tb' : Nat → Nat → Option (Nat × Nat)} {U U' : Nat → Nat → Prop} (hz : ∀ b, fz b → fz' b) (hh : ∀ b, fz b → zFb w b → w'.heap[b]? = w.heap[b]?) (hU : ∀ k g, U k g → U' k g)
  (ht : ∀ k g p, U k g → tb' k g = some p → tb k g = some p) {d : D} {u : Value} (h : Rep w fz tb U d u) : Rep w' fz' tb' U' d u := by
 induction h with
 | fro d u h => exact .fro d u (h.mono hz hh)
 | agg ds cs h _ ih => exact .agg ds cs h ih
 | tup ds cs h _ ih => exact .tup ds cs h ih
 | fn f caps cs h _ ih => exact .fn f caps cs h ih
 | bnd f caps cs h _ ih => exact .bnd f caps cs h ih
 | ref k g n u hk h1 h => exact .ref k g n u (hU k g hk) h1 (fun b c hb => h b c (ht k g _ hk hb))
 | ptr k g o u hk h1 h => exact .ptr k g o u (hU k g hk) h1 (fun b c hb => h b c (ht k g _ hk hb))
 | kref m k g u hk h1 h => exact .kref m k g u (hU k g hk) h1 (fun b c hb => h b c (ht k g _ hk hb))
 | refo k g o n u hk h1 h => exact .refo k g o n u (hU k g hk) h1 (fun b c hb => h b c (ht k g _ hk hb))

section inv
variable {w : World} {fz : Nat → Prop} {tb : Nat → Nat → Option (Nat × Nat)} {U : Nat → Nat → Prop}
theorem Rep.v_inv {x u : Value} (h : Rep w fz tb U (.v x) u) : u = x := by
 cases h with
 | fro _ _ h => cases h; rfl
theorem Rep.agg_inv {ds : List D} {u : Value} (h : Rep w fz tb U (.agg ds) u) : ∃ cs, u = .agg cs ∧ ds.length = cs.size ∧ ∀ (j : Nat) (d : D) (u : Value), ds[j]? = some d → cs[j]? = some u → Rep w fz tb U d u := by
 cases h with
 | fro _ _ h => cases h with
  | agg _ cs h hr => exact ⟨cs, rfl, h, fun j d u hd hu => .fro _ _ (hr j d u hd hu)⟩
 | agg _ cs h hr => exact ⟨cs, rfl, h, hr⟩
theorem Rep.tup_inv {ds : List D} {u : Value} (h : Rep w fz tb U (.tup ds) u) : ∃ cs, u = .tuple cs ∧ ds.length = cs.size ∧ ∀ (j : Nat) (d : D) (u : Value), ds[j]? = some d → cs[j]? = some u → Rep w fz tb U d u := by
 cases h with
 | fro _ _ h => cases h with
  | tup _ cs h hr => exact ⟨cs, rfl, h, fun j d u hd hu => .fro _ _ (hr j d u hd hu)⟩
 | tup _ cs h hr => exact ⟨cs, rfl, h, hr⟩
theorem Rep.fn_inv {f : Nat} {caps : List D} {u : Value} (h : Rep w fz tb U (.fn f caps) u) : ∃ cs, u = .func (.func f) #[] cs ∧ caps.length = cs.size ∧ ∀ (j : Nat) (d : D) (u : Value), caps[j]? = some d → cs[j]? = some u → Rep w fz tb U d u := by
 cases h with
 | fro _ _ h => cases h with
  | fn _ _ cs h hr => exact ⟨cs, rfl, h, fun j d u hd hu => .fro _ _ (hr j d u hd hu)⟩
 | fn _ _ cs h hr => exact ⟨cs, rfl, h, hr⟩
theorem Rep.bnd_inv {f : Nat} {caps : List D} {u : Value} (h : Rep w fz tb U (.bnd f caps) u) : ∃ cs, u = .func (.func f) cs #[] ∧ caps.length = cs.size ∧ ∀ (j : Nat) (d : D) (u : Value), caps[j]? = some d → cs[j]? = some u → Rep w fz tb U d u := by
 cases h with
 | fro _ _ h => cases h with
  | bnd _ _ cs h hr => exact ⟨cs, rfl, h, fun j d u hd hu => .fro _ _ (hr j d u hd hu)⟩
 | bnd _ _ cs h hr => exact ⟨cs, rfl, h, hr⟩
theorem Rep.ref_inv {k g n : Nat} {u : Value} (h : Rep w fz tb U (.ref k g n) u) : U k g ∧ ∀ b c, tb k g = some (b, c) → u = .slice (some ⟨b, 0, none⟩) n c ∧ n ≤ c := by
 cases h with
 | fro _ _ h => cases h
 | ref _ _ _ _ hk _ h => exact ⟨hk, h⟩
theorem Rep.ptr_inv {k g o : Nat} {u : Value} (h : Rep w fz tb U (.ptr k g o) u) : U k g ∧ ∀ b c, tb k g = some (b, c) → u = .pointer (some ⟨b, o, none⟩) := by
 cases h with
 | fro _ _ h => cases h
 | ptr _ _ _ _ hk _ h => exact ⟨hk, h⟩
theorem Rep.kref_inv {m : Bool} {k g : Nat} {u : Value} (h : Rep w fz tb U (.kref m k g) u) : U k g ∧ ∀ b c, tb k g = some (b, c) → u = zSo m b := by
 cases h with
 | fro _ _ h => cases h
 | kref _ _ _ _ hk _ h => exact ⟨hk, h⟩
theorem Rep.refo_inv {k g o n : Nat} {u : Value} (h : Rep w fz tb U (.refo k g o n) u) : U k g ∧ ∀ b c, tb k g = some (b, c) → ∃ A cap, u = .slice A n cap ∧ (0 < n → A = some ⟨b, o, none⟩) := by
 cases h with
 | fro _ _ h => cases h
 | refo _ _ _ _ _ hk _ h => exact ⟨hk, h⟩
theorem Rep.sl_inv {full : Bool} {sz : Nat} {xs : List (List D)} {u : Value} (h : Rep w fz tb U (.sl full sz xs) u) : RepF w fz (.sl full sz xs) u := by
 cases h with
 | fro _ _ h => exact h
theorem Rep.fad_inv {ds : List D} {u : Value} (h : Rep w fz tb U (.fad ds) u) : RepF w fz (.fad ds) u := by
 cases h with
 | fro _ _ h => exact h
end inv

def D.solid : D → Bool
 | .v x => x.oneCell'
 | .sl .. | .fad _ | .fn .. | .bnd .. | .ref .. | .ptr .. | .kref .. | .refo .. => true
 | _ => false
theorem Rep.solid {w : World} {fz : Nat → Prop} {tb : Nat → Nat → Option (Nat × Nat)} {U : Nat → Nat → Prop} {d : D} {u : Value} (hs : d.solid = true) (h : Rep w fz tb U d u) : u.oneCell' = true := by
 cases h with
 | fro _ _ h =>
  cases h <;> first | (simp [D.solid] at hs; done) | (simpa [D.solid] using hs) | rfl
 | agg => simp [D.solid] at hs
 | tup => simp [D.solid] at hs
 | fn => rfl
 | bnd => rfl
 | ref _ _ _ _ _ h1 _ => exact h1
 | ptr _ _ _ _ _ h1 _ => exact h1
 | kref _ _ _ _ _ h1 _ => exact h1
 | refo _ _ _ _ _ _ h1 _ => exact h1

def leD0 (a b : D) : Prop := b = .any ∨ a = b ∨ (a = .v (.slice none 0 0) ∧ ∃ f sz, b = .sl f sz [])
def zJD : List D → List D → Prop
 | [], [] => True
 | a :: l, b :: m => leD0 a b ∧ zJD l m
 | _, _ => False
def leD1 (a b : D) : Prop := leD0 a b ∨ ∃ ds es, a = .agg ds ∧ b = .agg es ∧ zJD ds es
def zKS : List D → List D → Prop
 | [], [] => True
 | a :: l, b :: m => leD1 a b ∧ zKS l m
 | _, _ => False
def leD (a b : D) : Prop := leD1 a b ∨ ∃ ds es, a = .tup ds ∧ b = .tup es ∧ zKS ds es
def leF : List D → List D → Prop
 | [], [] => True
 | a :: l, b :: m => leD a b ∧ leF l m
 | _, _ => False
theorem zGM (a : D) : leD0 a a := .inr (.inl rfl)
theorem zJp (a : D) : leD1 a a := .inl (zGM a)
theorem zN (a : D) : leD a a := .inl (zJp a)
theorem zCq : ∀ l : List D, leF l l
 | [] => trivial
 | a :: l => ⟨zN a, zCq l⟩
theorem zPc {l m : List D} (h : zJD l m) : l.length = m.length ∧ ∀ (j : Nat) (b : D), m[j]? = some b → ∃ a, l[j]? = some a ∧ leD0 a b := by
 induction l generalizing m with
 | nil => cases m with
  | nil => exact ⟨rfl, fun j b hb => by simp at hb⟩
  | cons _ _ => exact h.elim
 | cons a l ih =>
  cases m with
  | nil => exact h.elim
  | cons b m =>
   obtain ⟨h1, h2⟩ := ih h.2
   refine ⟨by simp [h1], fun j c hc => ?_⟩
   cases j with
   | zero => simp at hc; subst hc; exact ⟨a, rfl, h.1⟩
   | succ j => exact h2 j c (by simpa using hc)
theorem zPY {l m : List D} (h : zKS l m) : l.length = m.length ∧ ∀ (j : Nat) (b : D), m[j]? = some b → ∃ a, l[j]? = some a ∧ leD1 a b := by
 induction l generalizing m with
 | nil => cases m with
  | nil => exact ⟨rfl, fun j b hb => by simp at hb⟩
  | cons _ _ => exact h.elim
 | cons a l ih =>
  cases m with
  | nil => exact h.elim
  | cons b m =>
   obtain ⟨h1, h2⟩ := ih h.2
   refine ⟨by simp [h1], fun j c hc => ?_⟩
   cases j with
   | zero => simp at hc; subst hc; exact ⟨a, rfl, h.1⟩
   | succ j => exact h2 j c (by simpa using hc)
theorem zEh {l m : List D} (h : leF l m) : l.length = m.length ∧ ∀ (j : Nat) (b : D), m[j]? = some b → ∃ a, l[j]? = some a ∧ leD a b := by
 induction l generalizing m with
 | nil => cases m with
  | nil => exact ⟨rfl, fun j b hb => by simp at hb⟩
  | cons _ _ => exact h.elim
 | cons a l ih =>
  cases m with
  | nil => exact h.elim
  | cons b m =>
   obtain ⟨h1, h2⟩ := ih h.2
   refine ⟨by simp [h1], fun j c hc => ?_⟩
   cases j with
   | zero => simp at hc; subst hc; exact ⟨a, rfl, h.1⟩
   | succ j => exact h2 j c (by simpa using hc)
section
variable {w : World} {fz : Nat → Prop} {tb : Nat → Nat → Option (Nat × Nat)} {U : Nat → Nat → Prop}
theorem leD0.rep {a b : D} {u : Value} (h : leD0 a b) (hr : Rep w fz tb U a u) : Rep w fz tb U b u := by
 rcases h with rfl | rfl | ⟨rfl, f, sz, rfl⟩
 ·exact .fro _ _ (.any _)
 ·exact hr
 ·rw [hr.v_inv]; exact .fro _ _ (.sl0 _ _ _ _ (fun _ => rfl))
theorem leD1.rep {a b : D} {u : Value} (h : leD1 a b) (hr : Rep w fz tb U a u) : Rep w fz tb U b u := by
 rcases h with h | ⟨ds, es, rfl, rfl, h⟩
 ·exact h.rep hr
 ·obtain ⟨cs, rfl, hl, hr⟩ := hr.agg_inv
  obtain ⟨h1, h2⟩ := zPc h
  refine .agg _ cs (by omega) (fun j d u hd hu => ?_)
  obtain ⟨a, ha, hle⟩ := h2 j d hd
  exact hle.rep (hr j a u ha hu)
theorem leD.rep {a b : D} {u : Value} (h : leD a b) (hr : Rep w fz tb U a u) : Rep w fz tb U b u := by
 rcases h with h | ⟨ds, es, rfl, rfl, h⟩
 ·exact h.rep hr
 ·obtain ⟨cs, rfl, hl, hr⟩ := hr.tup_inv
  obtain ⟨h1, h2⟩ := zPY h
  refine .tup _ cs (by omega) (fun j d u hd hu => ?_)
  obtain ⟨a, ha, hle⟩ := h2 j d hd
  exact hle.rep (hr j a u ha hu)
end
theorem zLC {a : D} : leD0 a .any := .inl rfl
theorem zIq {f : Bool} {sz : Nat} : leD0 (.v (.slice none 0 0)) (.sl f sz []) := .inr (.inr ⟨rfl, f, sz, rfl⟩)
theorem zNK {a b : D} (h : leD0 a b) : leD a b := .inl (.inl h)
theorem zLy {ds es : List D} (h : zJD ds es) : leD1 (.agg ds) (.agg es) := .inr ⟨ds, es, rfl, rfl, h⟩
theorem zRe {ds es : List D} (h : zJD ds es) : leD (.agg ds) (.agg es) := .inl (zLy h)
theorem zQg {ds es : List D} (h : zKS ds es) : leD (.tup ds) (.tup es) := .inr ⟨ds, es, rfl, rfl, h⟩
theorem zOA {a b : D} {l m : List D} (h : leD0 a b) (h2 : zJD l m) : zJD (a :: l) (b :: m) := ⟨h, h2⟩
theorem zOM {a b : D} {l m : List D} (h : leD1 a b) (h2 : zKS l m) : zKS (a :: l) (b :: m) := ⟨h, h2⟩
theorem zCy {a b : D} {l m : List D} (h : leD a b) (h2 : leF l m) : leF (a :: l) (b :: m) := ⟨h, h2⟩
theorem zPy : zJD [] [] := trivial
theorem zPg : zKS [] [] := trivial
theorem zCL : leF [] [] := trivial
theorem zNh {a : D} : leD a .any := zNK zLC
theorem zKY {f : Bool} {sz : Nat} : leD (.v (.slice none 0 0)) (.sl f sz []) := zNK zIq
theorem zAF {a b : Value} (h : a = b) : leD (.v a) (.v b) := by rw [h]; exact zN _

inductive Kd where
 | cells
 | loop (r : Loop)
 | map (keys : List Value)

structure Ent where
 gen : Nat
 arr : Option Nat
 ty : TypeId
 cells : List D
 kd : Kd

inductive Slot where
 | free
 | dead
 | ent (e : Ent)

structure St where
 fr : List D
 σ : List Slot

structure Base where
 w0 : World
 E0 : Nat → Prop
 N0 : Nat → Prop
 σ0 : List Slot
 ρ0 : Nat → Nat × Nat
 m0 : Nat

def live (σ : List Slot) (k : Nat) : Prop := ∃ e, σ[k]? = some (.ent e)
def zPw : Slot → Nat → Prop
 | .free, _ => False
 | .dead, _ => True
 | .ent e, g => g ≤ e.gen
def zBX (σ : List Slot) (k g : Nat) : Prop := ∃ s, σ[k]? = some s ∧ zPw s g
def Fz (B : Base) (σ : List Slot) (ρ : Nat → Nat × Nat) (w : World) (b : Nat) : Prop := b < w.heap.size ∧ ¬ B.N0 b ∧ ∀ k, live σ k → (ρ k).1 ≠ b
def Tb (σ : List Slot) (ρ : Nat → Nat × Nat) (k g : Nat) : Option (Nat × Nat) :=
 match σ[k]? with
 | some (.ent e) => if e.gen = g then some (ρ k) else none
 | _ => none
theorem Tb.of {σ : List Slot} {ρ : Nat → Nat × Nat} {k : Nat} {e : Ent} (h : σ[k]? = some (.ent e)) : Tb σ ρ k e.gen = some (ρ k) := by simp [Tb, h]
theorem Tb.live {σ : List Slot} {ρ : Nat → Nat × Nat} {k g : Nat} {p : Nat × Nat} (h : Tb σ ρ k g = some p) : ∃ e, σ[k]? = some (.ent e) ∧ e.gen = g ∧ ρ k = p := by
 unfold Tb at h
 split at h
 ·rename_i e he
  by_cases hg : e.gen = g
  ·rw [if_pos hg] at h
   exact ⟨e, he, hg, by simpa using h⟩
  ·rw [if_neg hg] at h; cases h
 ·cases h

def zGt (e : Ent) (cs : Array Value) (o : Obj) : Prop := match e.kd with
 | .cells => o = .cells cs e.ty (0, 0)
 | .loop r => o = .loop { r with tmps := cs }
 | .map keys => ∃ es clock, o = .map es clock ∧ es.toList.map (·.key) = keys ∧ es.map (·.val) = cs
def zLL (e : Ent) (cs : Array Value) (p : Nat × Nat) : Prop := match e.kd with
 | .cells => match e.arr with | none => cs.size = e.cells.length | some sz => cs.size = p.2 * sz ∧ e.cells.length ≤ cs.size
 | _ => cs.size = e.cells.length
theorem zCu {e : Ent} {cs : Array Value} {x : Option (List Deferred)} (h : zGt e cs (.deferred x)) : False := by
 unfold zGt at h
 split at h
 ·cases h
 ·cases h
 ·obtain ⟨_, _, h, _⟩ := h; cases h
def EntOk (w : World) (fz : Nat → Prop) (tb : Nat → Nat → Option (Nat × Nat)) (U : Nat → Nat → Prop) (e : Ent) (p : Nat × Nat) : Prop :=
 ∃ (cs : Array Value) (o : Obj), w.heap[p.1]? = some o ∧ zGt e cs o ∧ zLL e cs p ∧
  ∀ (j : Nat) (d : D), e.cells[j]? = some d → ∃ u, cs[j]? = some u ∧ (e.kd = .cells → u.oneCell' = true) ∧ Rep w fz tb U d u
theorem EntOk.row {w : World} {fz : Nat → Prop} {tb : Nat → Nat → Option (Nat × Nat)} {U : Nat → Nat → Prop} {e : Ent} {p : Nat × Nat} (h : EntOk w fz tb U e p) (hk : e.kd = .cells) :
  ∃ cs : Array Value, w.heap[p.1]? = some (.cells cs e.ty (0, 0)) ∧ (match e.arr with | none => cs.size = e.cells.length | some sz => cs.size = p.2 * sz ∧ e.cells.length ≤ cs.size) ∧
  ∀ (j : Nat) (d : D), e.cells[j]? = some d → ∃ u, cs[j]? = some u ∧ u.oneCell' = true ∧ Rep w fz tb U d u := by
 obtain ⟨cs, o, h1, h2, h3, h4⟩ := h
 unfold zGt at h2
 unfold zLL at h3
 rw [hk] at h2 h3
 subst h2
 exact ⟨cs, h1, h3, fun j d hd => let ⟨u, a1, a2, a3⟩ := h4 j d hd; ⟨u, a1, a2 hk, a3⟩⟩
structure Hp (B : Base) (σ : List Slot) (ρ : Nat → Nat × Nat) (w : World) : Prop where
 ent : ∀ k e, σ[k]? = some (.ent e) → EntOk w (Fz B σ ρ w) (Tb σ ρ) (zBX σ) e (ρ k)
 inj : ∀ k k', live σ k → live σ k' → (ρ k).1 = (ρ k').1 → k = k'
 nf : ∀ k, live σ k → ¬ B.N0 (ρ k).1
 own : ∀ k, live σ k → B.E0 (ρ k).1 ∨ B.w0.heap.size ≤ (ρ k).1
 size : B.w0.heap.size ≤ w.heap.size
 os : w.os = B.w0.os
 tape : w.tape = B.w0.tape
 output : w.output = B.w0.output
 base : ∀ b, b < B.w0.heap.size → ¬ B.E0 b → w.heap[b]? = B.w0.heap[b]?
 n0 : ∀ b, B.N0 b → b < B.w0.heap.size
 m0 : B.m0 ≤ B.w0.heap.size
 hist : ∀ k g, zBX B.σ0 k g → zBX σ k g ∧ ∀ p, Tb σ ρ k g = some p → Tb B.σ0 B.ρ0 k g = some p

theorem Hp.lt {B : Base} {σ : List Slot} {ρ : Nat → Nat × Nat} {w : World} (h : Hp B σ ρ w) {k : Nat} (hk : live σ k) : (ρ k).1 < w.heap.size := by
 obtain ⟨e, he⟩ := hk
 obtain ⟨cs, o, hc, _⟩ := h.ent k e he
 exact (Array.getElem?_eq_some_iff.1 hc).1

abbrev Rp (B : Base) (σ : List Slot) (ρ : Nat → Nat × Nat) (w : World) (d : D) (u : Value) : Prop := Rep w (Fz B σ ρ w) (Tb σ ρ) (zBX σ) d u

def FrOk (B : Base) (st : St) (ρ : Nat → Nat × Nat) (tmps : Array Value) (w : World) : Prop :=
 st.fr.length = tmps.size ∧ ∀ (t : Nat) (d : D), st.fr[t]? = some d → ∃ u, tmps[t]? = some u ∧ Rp B st.σ ρ w d u

def zFH (D : Nat) : Deferred := { target := .collected D, args := #[] }
def Marks (B : Base) (a : Act) (w : World) : Prop := ∃ Ds : List Nat, a.defers = Ds.map zFH ∧ Ds.Nodup ∧ ∀ D ∈ Ds, B.m0 ≤ D ∧ w.heap[D]? = some (.deferred (some []))

def Rel (B : Base) (st : St) (a : Act) (w : World) : Prop := ∃ ρ, Hp B st.σ ρ w ∧ FrOk B st ρ a.tmps w ∧ Marks B a w

def zJA (fr : List D) (dst : Option Nat) (d : D) : List D := match dst with | some t => fr.set t d | none => fr

theorem FrOk.put {B : Base} {fr : List D} {σ : List Slot} {ρ : Nat → Nat × Nat} {a : Act} {w : World} (h : FrOk B ⟨fr, σ⟩ ρ a.tmps w) (dst : Option Nat) {d : D} {u : Value} (hd : Rp B σ ρ w d u) :
  FrOk B ⟨zJA fr dst d, σ⟩ ρ (a.put dst u).tmps w := by
 cases dst with
 | none => exact h
 | some t =>
  obtain ⟨hl, hr⟩ := h
  refine ⟨by simpa [zJA, Act.put] using hl, fun s d' hs => ?_⟩
  simp only [zJA, List.getElem?_set] at hs
  simp only [Act.put, Array.getElem?_setIfInBounds]
  by_cases e : t = s
  ·subst e
   by_cases hlt : t < fr.length
   ·have hlt' : t < a.tmps.size := by have : fr.length = a.tmps.size := hl; omega
    simp only [if_true, hlt] at hs
    cases hs
    exact ⟨u, by simp [hlt'], hd⟩
   ·simp [hlt] at hs
  ·rw [if_neg e] at hs
   rw [if_neg e]
   exact hr s d' hs

theorem Marks.put {B : Base} {a : Act} {w : World} (h : Marks B a w) (dst : Option Nat) (u : Value) : Marks B (a.put dst u) w := by
 cases dst <;> exact h

theorem Hp.of_heap {B : Base} {σ : List Slot} {ρ : Nat → Nat × Nat} {w w' : World} (h : Hp B σ ρ w) (hh : w'.heap = w.heap) (ho : w'.os = w.os) (ht : w'.tape = w.tape) (hp : w'.output = w.output) : Hp B σ ρ w' where
 ent := fun k e he => by
  obtain ⟨cs, o, h1, h0, h2, h3⟩ := h.ent k e he
  exact ⟨cs, o, by rw [hh]; exact h1, h0, h2, fun j d hd => let ⟨u, a1, a2, a3⟩ := h3 j d hd; ⟨u, a1, a2, a3.mono (fun b hb => ⟨by rw [hh]; exact hb.1, hb.2⟩) (fun b _ _ => by rw [hh]) (fun _ _ x => x) (fun _ _ _ _ x => x)⟩⟩
 inj := h.inj
 nf := h.nf
 own := h.own
 size := by rw [hh]; exact h.size
 os := ho.trans h.os
 tape := ht.trans h.tape
 output := hp.trans h.output
 base := fun b hb hE => by rw [hh]; exact h.base b hb hE
 n0 := h.n0
 m0 := h.m0
 hist := h.hist

theorem Rp.of_heap {B : Base} {σ : List Slot} {ρ : Nat → Nat × Nat} {w w' : World} (hh : w'.heap = w.heap) {d : D} {u : Value} (h : Rp B σ ρ w d u) : Rp B σ ρ w' d u :=
 h.mono (fun b hb => ⟨by rw [hh]; exact hb.1, hb.2⟩) (fun b _ _ => by rw [hh]) (fun _ _ x => x) (fun _ _ _ _ x => x)

theorem Rel.of_heap {B : Base} {st : St} {a : Act} {w w' : World} (h : Rel B st a w) (hh : w'.heap = w.heap) (ho : w'.os = w.os) (ht : w'.tape = w.tape) (hp : w'.output = w.output) : Rel B st a w' := by
 obtain ⟨ρ, h1, ⟨h2, h3⟩, h4⟩ := h
 exact ⟨ρ, h1.of_heap hh ho ht hp, ⟨h2, fun t d hd => let ⟨u, a1, a2⟩ := h3 t d hd; ⟨u, a1, Rp.of_heap hh a2⟩⟩, let ⟨Ds, e, n, x⟩ := h4; ⟨Ds, e, n, fun D hD => ⟨(x D hD).1, by rw [hh]; exact (x D hD).2⟩⟩⟩

structure Move (B : Base) (σ : List Slot) (ρ : Nat → Nat × Nat) (w : World) (σ' : List Slot) (ρ' : Nat → Nat × Nat) (w' : World) : Prop where
 size : w.heap.size ≤ w'.heap.size
 keep : ∀ b, b < w.heap.size → (∀ k, live σ k → (ρ k).1 ≠ b) → w'.heap[b]? = w.heap[b]?
 lives : ∀ k, live σ' k → (∃ k', live σ k' ∧ (ρ' k).1 = (ρ k').1) ∨ w.heap.size ≤ (ρ' k).1
 uses : ∀ k g, zBX σ k g → zBX σ' k g
 tabs : ∀ k g p, zBX σ k g → Tb σ' ρ' k g = some p → Tb σ ρ k g = some p

theorem Move.fz {B : Base} {σ σ' : List Slot} {ρ ρ' : Nat → Nat × Nat} {w w' : World} (m : Move B σ ρ w σ' ρ' w') (b : Nat) (hb : Fz B σ ρ w b) : Fz B σ' ρ' w' b :=
 ⟨Nat.lt_of_lt_of_le hb.1 m.size, hb.2.1, fun k hk => by
  rcases m.lives k hk with ⟨k', h1, h2⟩ | h1
  ·rw [h2]; exact hb.2.2 k' h1
  ·have := hb.1; omega⟩
theorem Move.rp {B : Base} {σ σ' : List Slot} {ρ ρ' : Nat → Nat × Nat} {w w' : World} (m : Move B σ ρ w σ' ρ' w') {d : D} {u : Value} (h : Rp B σ ρ w d u) : Rp B σ' ρ' w' d u :=
 h.mono m.fz (fun b hb _ => m.keep b hb.1 hb.2.2) m.uses m.tabs
theorem Move.frOk {B : Base} {fr : List D} {σ σ' : List Slot} {ρ ρ' : Nat → Nat × Nat} {w w' : World} (m : Move B σ ρ w σ' ρ' w') {tmps : Array Value} (h : FrOk B ⟨fr, σ⟩ ρ tmps w) : FrOk B ⟨fr, σ'⟩ ρ' tmps w' :=
 ⟨h.1, fun t d hd => let ⟨u, a1, a2⟩ := h.2 t d hd; ⟨u, a1, m.rp a2⟩⟩
theorem Move.marks {B : Base} {σ σ' : List Slot} {ρ ρ' : Nat → Nat × Nat} {w w' : World} (m : Move B σ ρ w σ' ρ' w') (hp : Hp B σ ρ w) {a : Act} (h : Marks B a w) : Marks B a w' := by
 obtain ⟨Ds, e, n, x⟩ := h
 refine ⟨Ds, e, n, fun D hD => ⟨(x D hD).1, ?_⟩⟩
 have x := (x D hD).2
 rw [m.keep D (Array.getElem?_eq_some_iff.1 x).1 (fun k hk => by
  rintro rfl
  obtain ⟨en, he⟩ := hk
  obtain ⟨cs, o, hc, ho, _⟩ := hp.ent k en he
  rw [x] at hc; cases hc; exact zCu ho)]
 exact x

theorem Move.hp {B : Base} {σ σ' : List Slot} {ρ ρ' : Nat → Nat × Nat} {w w' : World} (m : Move B σ ρ w σ' ρ' w') (h : Hp B σ ρ w) (ho : w'.os = w.os) (ht : w'.tape = w.tape) (hq : w'.output = w.output)
  (hent : ∀ k e, σ'[k]? = some (.ent e) → EntOk w' (Fz B σ' ρ' w') (Tb σ' ρ') (zBX σ') e (ρ' k))
  (hinj : ∀ k k', live σ' k → live σ' k' → (ρ' k).1 = (ρ' k').1 → k = k') : Hp B σ' ρ' w' where
 ent := hent
 inj := hinj
 nf := fun k hk => by
  rcases m.lives k hk with ⟨k', a1, a2⟩ | a1
  ·rw [a2]; exact h.nf k' a1
  ·intro hn; have := h.n0 _ hn; have := h.size; omega
 own := fun k hk => by
  rcases m.lives k hk with ⟨k', a1, a2⟩ | a1
  ·rw [a2]; exact h.own k' a1
  ·exact .inr (Nat.le_trans h.size a1)
 size := Nat.le_trans h.size m.size
 os := ho.trans h.os
 tape := ht.trans h.tape
 output := hq.trans h.output
 base := fun b hb hE => by
  rw [m.keep b (Nat.lt_of_lt_of_le hb h.size) (fun k hk e => by
   rcases h.own k hk with x | x
   ·rw [e] at x; exact hE x
   ·omega)]
  exact h.base b hb hE
 n0 := h.n0
 m0 := h.m0
 hist := fun k g hk => ⟨m.uses k g (h.hist k g hk).1, fun p hp => (h.hist k g hk).2 p (m.tabs k g p (h.hist k g hk).1 hp)⟩

theorem Move.entOk {B : Base} {σ σ' : List Slot} {ρ ρ' : Nat → Nat × Nat} {w w' : World} (m : Move B σ ρ w σ' ρ' w') {e : Ent} {p : Nat × Nat} (h : EntOk w (Fz B σ ρ w) (Tb σ ρ) (zBX σ) e p) (hb : w'.heap[p.1]? = w.heap[p.1]?) :
  EntOk w' (Fz B σ' ρ' w') (Tb σ' ρ') (zBX σ') e p := by
 obtain ⟨cs, o, h1, h0, h2, h3⟩ := h
 exact ⟨cs, o, hb.trans h1, h0, h2, fun j d hd => let ⟨u, a1, a2, a3⟩ := h3 j d hd; ⟨u, a1, a2, m.rp a3⟩⟩


def zDn : List D → Nat → D
 | [], _ => .any
 | d :: _, 0 => d
 | _ :: l, n + 1 => zDn l n
def zBH : List Slot → Nat → Slot
 | [], _ => .dead
 | s :: _, 0 => s
 | _ :: l, n + 1 => zBH l n
def zEL (l : List Slot) (t : Nat) : Slot :=
 match zBH l t with
 | .ent e => match e.kd with
  | .cells => .ent e
  | _ => .dead
 | _ => .dead
theorem zHV (l : List D) (t : Nat) : zDn l t = (l[t]?).getD .any := by
 induction l generalizing t with
 | nil => simp [zDn]
 | cons d l ih => cases t <;> simp [zDn, ih]
theorem zBD (l : List Slot) (t : Nat) : zBH l t = (l[t]?).getD .dead := by
 induction l generalizing t with
 | nil => simp [zBH]
 | cons d l ih => cases t <;> simp [zBH, ih]
theorem zBj {l : List Slot} {t : Nat} (h : zBH l t = .free) : l[t]? = some .free := by
 rw [zBD] at h
 cases hx : l[t]? with
 | none => rw [hx] at h; cases h
 | some s => rw [hx] at h; simpa using h
theorem zCe {l : List Slot} {t : Nat} {e : Ent} (h : zBH l t = .ent e) : l[t]? = some (.ent e) := by
 rw [zBD] at h
 cases hx : l[t]? with
 | none => rw [hx] at h; cases h
 | some s => rw [hx] at h; simpa using h

theorem zCf {l : List Slot} {t : Nat} {e : Ent} (h : zEL l t = .ent e) : zBH l t = .ent e ∧ e.kd = .cells := by
 unfold zEL at h
 split at h
 ·rename_i e' he
  split at h
  ·rename_i hk; cases h; exact ⟨he, hk⟩
  ·cases h
 ·cases h
theorem zHZ {l l' : List Slot} {t : Nat} (h : zBH l t = zBH l' t) : zEL l t = zEL l' t := by unfold zEL; rw [h]

def St.eval (st : St) : Operand → D
 | .tmp t => zDn st.fr t
 | .const v => .v v
 | .global _ => .any
 | .func f => .fn f []

theorem FrOk.eval {B : Base} {st : St} {ρ : Nat → Nat × Nat} {a : Act} {w : World} (h : FrOk B st ρ a.tmps w) (x : Operand) : Rp B st.σ ρ w (st.eval x) (a.eval x) := by
 cases x with
 | tmp t =>
  simp only [St.eval, zHV, Act.eval]
  cases hx : st.fr[t]? with
  | none => exact .fro _ _ (.any _)
  | some d =>
   obtain ⟨u, hu, hr⟩ := h.2 t d hx
   have : a.tmps.getD t undef = u := by simp [Array.getD_eq_getD_getElem?, hu]
   rw [this]
   exact hr
 | const v => exact .fro _ _ (.v _)
 | global g => exact .fro _ _ (.any _)
 | func f => exact .fro _ _ (.fn f [] #[] rfl (fun j d u hd => by simp at hd))

structure Out where
 val : D
 sets : List (Nat × Slot)
def zAS (σ : List Slot) : List (Nat × Slot) → List Slot
 | [] => σ
 | p :: l => zAS (σ.set p.1 p.2) l
def Out.app (out : Out) (dst : Option Nat) (st : St) : St := ⟨zJA st.fr dst out.val, zAS st.σ out.sets⟩

abbrev FW (ro : Option Nat) : Fence := { fn := fun _ => True, depth := none, alive := false, round := ro }

def OpS (P : Program) (ro : Option Nat) (o : Oper) (opd : Operand → D) (σ0 : List Slot) (rd : List Nat) (slot : Nat) (out : Out) : Prop :=
 ∀ B st a w, (∀ x ∈ o.op.operands, st.eval x = opd x) → (∀ k, k = slot ∨ k ∈ rd → st.σ[k]? = σ0[k]?) → Rel B st a w →
  ∀ next Q, (∀ a' w', Rel B (out.app o.dst st) a' w' → next a' w') → o.wpIn (FW ro) 0 P a w next Q

structure Rec where
 run : Bool
 rd : List Nat
 out : Out

def zCs (ops : Array Oper) (o : Oper) (st : St) : Option Bool :=
 match o.guard with
 | none => some true
 | some (j, want) =>
  match (ops[j]?).bind (·.dst) with
  | none => some false
  | some t =>
   match zDn st.fr t with
   | .v (.bool b) => some (b == want)
   | .v (.tuple _) => some false
   | _ => none

theorem zEx {ops : Array Oper} {o : Oper} {B : Base} {st : St} {a : Act} {w : World} {r : Bool} (hg : zCs ops o st = some r) (h : Rel B st a w) : Region.wanted o (yielded ops a.tmps) = r := by
 obtain ⟨ρ, _, hf, _⟩ := h
 unfold zCs at hg
 unfold Region.wanted
 cases hgd : o.guard with
 | none => rw [hgd] at hg; simpa using hg
 | some p =>
  obtain ⟨j, want⟩ := p
  rw [hgd] at hg
  simp only at hg ⊢
  unfold yielded
  cases ht : (ops[j]?).bind (·.dst) with
  | none => rw [ht] at hg; simp at hg; subst hg; simp
  | some t =>
   rw [ht] at hg
   simp only at hg
   have hv := hf.eval (.tmp t)
   simp only [St.eval, Act.eval] at hv
   simp only [Option.bind_some]
   split at hg
   ·rename_i b hb
    rw [hb] at hv
    have e := hv.v_inv
    have : a.tmps[t]? = some (.bool b) := by
     rw [Array.getD_eq_getD_getElem?] at e
     cases hx : a.tmps[t]? with
     | none => rw [hx] at e; simp [undef] at e
     | some y => rw [hx] at e; simpa using e
    rw [this]
    simpa using hg
   ·rename_i vs hb
    rw [hb] at hv
    have e := hv.v_inv
    have : ∀ b, a.tmps[t]? ≠ some (.bool b) := by
     intro b hx
     rw [Array.getD_eq_getD_getElem?, hx] at e
     simp at e
    cases hx : a.tmps[t]? with
    | none => simp at hg ⊢; exact hg
    | some y =>
     cases y <;> simp at hg ⊢ <;> first | exact hg | (exact absurd hx (this _))
   ·cases hg

def Valid (P : Program) (ro : Option Nat) (ops : Array Oper) (sl : Nat → Nat) : List Oper → Nat → St → List Rec → Prop
 | [], _, _, rs => rs = []
 | o :: os, i, st, rs => ∃ r rest, rs = r :: rest ∧ zCs ops o st = some r.run ∧ (r.run = false → r.out = ⟨.v undef, []⟩) ∧
   (r.run = true → OpS P ro o st.eval st.σ r.rd (sl i) r.out) ∧ (∀ p ∈ r.out.sets, p.1 = sl i ∨ p.1 ∈ r.rd) ∧ Valid P ro ops sl os (i + 1) (r.out.app o.dst st) rest

def fin (L : Nat → Bool) : List Oper → List Rec → Nat → St → St
 | o :: os, r :: rs, i, st => fin L os rs (i + 1) (if L i then r.out.app o.dst st else st)
 | _, _, _, st => st

theorem Rel.putUndef {B : Base} {st : St} {a : Act} {w : World} (h : Rel B st a w) (dst : Option Nat) : Rel B (Out.app ⟨.v undef, []⟩ dst st) (a.put dst undef) w := by
 obtain ⟨ρ, h1, h2, h3⟩ := h
 exact ⟨ρ, h1, FrOk.put (fr := st.fr) h2 dst (.fro _ _ (.v _)), h3.put dst _⟩

theorem zNy {P : Program} {ro : Option Nat} {opsA : Array Oper} {sl : Nat → Nat} {B : Base} {Q : Exit → Act → World → Prop} (os : List Oper) :
  ∀ (i : Nat) (st : St) (rs : List Rec) (a : Act) (w : World), (∀ j, os[j]? = opsA[i + j]?) → Valid P ro opsA sl os i st rs → Rel B st a w →
   (∀ a' w', Rel B (fin (fun _ => true) os rs i st) a' w' → Q .normal a' w') → wpOpsIn (FW ro) 0 P opsA Q (List.range' i os.length) a w := by
 induction os with
 | nil =>
  intro i st rs a w _ hv hr hQ
  simp only [Valid] at hv
  subst hv
  simp only [List.length_nil, List.range'_zero, wpOpsIn]
  exact hQ a w hr
 | cons o os ih =>
  intro i st rs a w hj hv hr hQ
  obtain ⟨r, rest, rfl, hg, hskip, hop, hset, hv⟩ := hv
  have h0 : opsA[i]? = some o := by simpa using (hj 0).symm
  simp only [List.length_cons, List.range'_succ, wpOpsIn, h0]
  rw [zEx hg hr]
  have hj' : ∀ j, os[j]? = opsA[i + 1 + j]? := fun j => by have := hj (j + 1); rw [show i + 1 + j = i + (j + 1) from by omega]; simpa using this
  cases hrun : r.run with
  | true =>
   rw [if_pos rfl]
   refine hop hrun B st a w (fun _ _ => rfl) (fun _ _ => rfl) hr _ _ (fun a' w' hr' => ?_)
   exact ih (i + 1) _ rest a' w' hj' hv hr' (by simpa [fin] using hQ)
  | false =>
   rw [if_neg (by simp)]
   refine ⟨fun _ _ => trivial, ?_⟩
   have e := hskip hrun
   refine ih (i + 1) _ rest _ w hj' hv ?_ (by simpa [fin] using hQ)
   rw [e]
   exact hr.putUndef o.dst


theorem zIh {fr fr' : List D} {t : Nat} (h : fr[t]? = fr'[t]?) (dst : Option Nat) (d : D) : (zJA fr dst d)[t]? = (zJA fr' dst d)[t]? := by
 cases dst with
 | none => exact h
 | some s =>
  simp only [zJA, List.getElem?_set]
  by_cases e : s = t
  ·subst e
   have hl : (s < fr.length) ↔ (s < fr'.length) := by
    constructor
    ·intro hlt
     rw [List.getElem?_eq_getElem hlt] at h
     exact (List.getElem?_eq_some_iff.1 h.symm).1
    ·intro hlt
     rw [List.getElem?_eq_getElem hlt] at h
     exact (List.getElem?_eq_some_iff.1 h).1
   simp [hl]
  ·simp [e, h]
theorem zJw {fr : List D} {t : Nat} {dst : Option Nat} (h : dst ≠ some t) (d : D) : (zJA fr dst d)[t]? = fr[t]? := by
 cases dst with
 | none => rfl
 | some s => simp only [zJA, List.getElem?_set]; rw [if_neg (fun e => h (by rw [e]))]
theorem zNw {α : Type} {l l' : List α} {t : Nat} (h : l[t]? = l'[t]?) (s : Nat) (x : α) : (l.set s x)[t]? = (l'.set s x)[t]? := by
 simp only [List.getElem?_set]
 by_cases e : s = t
 ·subst e
  have hl : (s < l.length) ↔ (s < l'.length) := by
   constructor
   ·intro hlt
    rw [List.getElem?_eq_getElem hlt] at h
    exact (List.getElem?_eq_some_iff.1 h.symm).1
   ·intro hlt
    rw [List.getElem?_eq_getElem hlt] at h
    exact (List.getElem?_eq_some_iff.1 h).1
  simp [hl]
 ·simp [e, h]
theorem zGu {σ σ' : List Slot} {t : Nat} (l : List (Nat × Slot)) (h : σ[t]? = σ'[t]?) : (zAS σ l)[t]? = (zAS σ' l)[t]? := by
 induction l generalizing σ σ' with
 | nil => exact h
 | cons p l ih => exact ih (zNw h _ _)
theorem zIW {σ : List Slot} {t : Nat} (l : List (Nat × Slot)) (h : ∀ p ∈ l, p.1 ≠ t) : (zAS σ l)[t]? = σ[t]? := by
 induction l generalizing σ with
 | nil => rfl
 | cons p l ih =>
  simp only [zAS]
  rw [ih (fun q hq => h q (List.mem_cons_of_mem _ hq)), List.getElem?_set, if_neg (h p List.mem_cons_self)]

theorem zNI {t : Nat} {L L' : Nat → Bool} (os : List Oper) : ∀ (rs : List Rec) (i : Nat) (st st' : St), st.fr[t]? = st'.fr[t]? →
  (∀ j o r, os[j]? = some o → rs[j]? = some r → o.dst = some t → L (i + j) = L' (i + j)) → (fin L os rs i st).fr[t]? = (fin L' os rs i st').fr[t]? := by
 induction os with
 | nil => intro rs i st st' h _; simpa [fin] using h
 | cons o os ih =>
  intro rs i st st' h hL
  cases rs with
  | nil => simpa [fin] using h
  | cons r rs =>
   simp only [fin]
   refine ih rs (i + 1) _ _ ?_ (fun j o' r' ho hr hd => by have := hL (j + 1) o' r' (by simpa using ho) (by simpa using hr) hd; rw [show i + 1 + j = i + (j + 1) from by omega]; exact this)
   by_cases hd : o.dst = some t
   ·have := hL 0 o r rfl rfl hd
    simp only [Nat.add_zero] at this
    rw [this]
    split
    ·exact zIh h _ _
    ·exact h
   ·have e1 : (if L i = true then r.out.app o.dst st else st).fr[t]? = st.fr[t]? := by split; exact zJw hd _; rfl
    have e2 : (if L' i = true then r.out.app o.dst st' else st').fr[t]? = st'.fr[t]? := by split; exact zJw hd _; rfl
    rw [e1, e2, h]

theorem zQR {t : Nat} {L L' : Nat → Bool} (os : List Oper) : ∀ (rs : List Rec) (i : Nat) (st st' : St), st.σ[t]? = st'.σ[t]? →
  (∀ j o r, os[j]? = some o → rs[j]? = some r → (∃ p ∈ r.out.sets, p.1 = t) → L (i + j) = L' (i + j)) → (fin L os rs i st).σ[t]? = (fin L' os rs i st').σ[t]? := by
 induction os with
 | nil => intro rs i st st' h _; simpa [fin] using h
 | cons o os ih =>
  intro rs i st st' h hL
  cases rs with
  | nil => simpa [fin] using h
  | cons r rs =>
   simp only [fin]
   refine ih rs (i + 1) _ _ ?_ (fun j o' r' ho hr hd => by have := hL (j + 1) o' r' (by simpa using ho) (by simpa using hr) hd; rw [show i + 1 + j = i + (j + 1) from by omega]; exact this)
   by_cases hd : ∃ p ∈ r.out.sets, p.1 = t
   ·have := hL 0 o r rfl rfl hd
    simp only [Nat.add_zero] at this
    rw [this]
    split
    ·exact zGu _ h
    ·exact h
   ·have hd' : ∀ p ∈ r.out.sets, p.1 ≠ t := fun p hp e => hd ⟨p, hp, e⟩
    have e1 : (if L i = true then r.out.app o.dst st else st).σ[t]? = st.σ[t]? := by split; exact zIW _ hd'; rfl
    have e2 : (if L' i = true then r.out.app o.dst st' else st').σ[t]? = st'.σ[t]? := by split; exact zIW _ hd'; rfl
    rw [e1, e2, h]

theorem zIo {L : Nat → Bool} (os : List Oper) : ∀ (rs : List Rec) (i : Nat) (st : St), (∀ j, i ≤ j → L j = false) → fin L os rs i st = st := by
 induction os with
 | nil => intro rs i st _; simp [fin]
 | cons o os ih =>
  intro rs i st h
  cases rs with
  | nil => simp [fin]
  | cons r rs =>
   simp only [fin, h i (Nat.le_refl _)]
   exact ih rs (i + 1) st (fun j hj => h j (by omega))

theorem zOb {L L' : Nat → Bool} (os : List Oper) : ∀ (rs : List Rec) (i : Nat) (st : St), (∀ j, i ≤ j → j < i + os.length → L j = L' j) → fin L os rs i st = fin L' os rs i st := by
 induction os with
 | nil => intro rs i st _; simp [fin]
 | cons o os ih =>
  intro rs i st h
  cases rs with
  | nil => simp [fin]
  | cons r rs =>
   simp only [fin, h i (Nat.le_refl _) (by simp)]
   exact ih rs (i + 1) _ (fun j h1 h2 => h j (by omega) (by simp at h2 ⊢; omega))

structure At (P : Program) (ro : Option Nat) (ops : Array Oper) (sl : Nat → Nat) (i : Nat) (o : Oper) (r : Rec) (st : St) : Prop where
 guard : zCs ops o st = some r.run
 skip : r.run = false → r.out = ⟨.v undef, []⟩
 op : r.run = true → OpS P ro o st.eval st.σ r.rd (sl i) r.out
 sets : ∀ p ∈ r.out.sets, p.1 = sl i ∨ p.1 ∈ r.rd

theorem Valid.at_ {P : Program} {ro : Option Nat} {ops : Array Oper} {sl : Nat → Nat} (os : List Oper) : ∀ (k : Nat) (st : St) (rs : List Rec), Valid P ro ops sl os k st rs →
  rs.length = os.length ∧ ∀ (i : Nat) (o : Oper), os[i]? = some o → ∃ r, rs[i]? = some r ∧ At P ro ops sl (k + i) o r (fin (fun j => decide (j < k + i)) os rs k st) ∧
   fin (fun j => decide (j < k + i + 1)) os rs k st = r.out.app o.dst (fin (fun j => decide (j < k + i)) os rs k st) := by
 induction os with
 | nil => intro k st rs h; simp only [Valid] at h; subst h; exact ⟨rfl, fun i o h => by simp at h⟩
 | cons o os ih =>
  intro k st rs h
  obtain ⟨r, rest, rfl, h1, h2, h3, h4, h5⟩ := h
  obtain ⟨hl, hi⟩ := ih (k + 1) _ rest h5
  refine ⟨by simp [hl], fun i o' ho => ?_⟩
  cases i with
  | zero =>
   simp only [List.getElem?_cons_zero, Option.some.injEq] at ho
   subst ho
   have e0 : fin (fun j => decide (j < k + 0)) (o :: os) (r :: rest) k st = st := zIo _ _ _ _ (fun j hj => by simp; omega)
   refine ⟨r, rfl, ?_, ?_⟩
   ·rw [e0]; exact ⟨h1, h2, h3, h4⟩
   ·rw [e0]
    simp only [fin]
    rw [if_pos (by simp), zIo _ _ _ _ (fun j hj => by simp; omega)]
  | succ i =>
   obtain ⟨r', hr', hat, hnext⟩ := hi i o' (by simpa using ho)
   have ek : k + 1 + i = k + (i + 1) := by omega
   have e1 : fin (fun j => decide (j < k + (i + 1))) (o :: os) (r :: rest) k st = fin (fun j => decide (j < k + 1 + i)) os rest (k + 1) (r.out.app o.dst st) := by
    simp only [fin]
    rw [if_pos (by simp), ek]
   have e2 : fin (fun j => decide (j < k + (i + 1) + 1)) (o :: os) (r :: rest) k st = fin (fun j => decide (j < k + 1 + i + 1)) os rest (k + 1) (r.out.app o.dst st) := by
    simp only [fin]
    rw [if_pos (by simp; omega), ek]
   refine ⟨r', by simpa using hr', ?_, ?_⟩
   ·rw [e1, ← ek]; exact hat
   ·rw [e1, e2]; exact hnext

def zPu (acc : List Nat) (o : Oper) : Nat := o.after.toList.foldl (fun s e => if Region.binds .any e then s ||| 2 ^ e.on ||| acc.getD e.on 0 else s) 0
def zRN : List Oper → List Nat → List Nat
 | [], acc => acc
 | o :: os, acc => zRN os (acc ++ [zPu acc o])

theorem zMk {acc : List Nat} {j : Nat} (es : List Edge) : ∀ (s : Nat), (es.foldl (fun s e => if Region.binds .any e then s ||| 2 ^ e.on ||| acc.getD e.on 0 else s) s).testBit j = true →
  s.testBit j = true ∨ ∃ e ∈ es, Region.binds .any e = true ∧ (j = e.on ∨ (acc.getD e.on 0).testBit j = true) := by
 induction es with
 | nil => intro s h; exact .inl h
 | cons e es ih =>
  intro s h
  simp only [List.foldl_cons] at h
  rcases ih _ h with h1 | ⟨e', he', h1⟩
  ·by_cases hb : Region.binds .any e = true
   ·rw [if_pos hb] at h1
    simp only [Nat.testBit_or, Bool.or_eq_true] at h1
    rcases h1 with (h1 | h1) | h1
    ·exact .inl h1
    ·refine .inr ⟨e, List.mem_cons_self, hb, .inl ?_⟩
     rw [Nat.testBit_two_pow] at h1
     exact (of_decide_eq_true h1).symm
    ·exact .inr ⟨e, List.mem_cons_self, hb, .inr h1⟩
   ·rw [if_neg hb] at h1
    exact .inl h1
  ·exact .inr ⟨e', List.mem_cons_of_mem _ he', h1⟩

def zMS (ops : List Oper) (L : Nat → Bool) : Prop := ∀ i o, ops[i]? = some o → L i = true → ∀ e ∈ o.after.toList, Region.binds .any e = true → L e.on = true

theorem zOV {L : Nat → Bool} (all : List Oper) (hc : zMS all L) (os : List Oper) : ∀ (pre : List Oper) (acc : List Nat), all = pre ++ os → acc.length = pre.length →
  (∀ i, i < acc.length → ∀ j, (L i = true ∨ ∃ o, all[i]? = some o ∧ ∀ e ∈ o.after.toList, Region.binds .any e = true → L e.on = true) → (acc.getD i 0).testBit j = true → L j = true) →
  ∀ i, i < all.length → ∀ j, (L i = true ∨ ∃ o, all[i]? = some o ∧ ∀ e ∈ o.after.toList, Region.binds .any e = true → L e.on = true) → ((zRN os acc).getD i 0).testBit j = true → L j = true := by
 induction os with
 | nil =>
  intro pre acc he hl hacc i hi j hLi hb
  exact hacc i (by simp [he] at hi; omega) j hLi hb
 | cons o os ih =>
  intro pre acc he hl hacc
  simp only [zRN]
  refine ih (pre ++ [o]) (acc ++ [zPu acc o]) (by simp [he]) (by simp [hl]) (fun i hi j hLi hb => ?_)
  by_cases hlt : i < acc.length
  ·rw [List.getD_eq_getElem?_getD, List.getElem?_append_left hlt, ← List.getD_eq_getElem?_getD] at hb
   exact hacc i hlt j hLi hb
  ·obtain rfl : i = acc.length := by simp at hi; omega
   rw [List.getD_eq_getElem?_getD, List.getElem?_append_right (Nat.le_refl _)] at hb
   simp only [Nat.sub_self, List.getElem?_cons_zero, Option.getD_some] at hb
   have ho : all[acc.length]? = some o := by rw [he, hl, List.getElem?_append_right (Nat.le_refl _)]; simp
   have hes : ∀ e ∈ o.after.toList, Region.binds .any e = true → L e.on = true := by
    rcases hLi with h | ⟨o', ho', h⟩
    ·exact hc _ o ho h
    ·rw [ho] at ho'; cases ho'; exact h
   unfold zPu at hb
   rcases zMk _ _ hb with h0 | ⟨e, he', hbi, hj⟩
   ·simp at h0
   ·have hle := hes e he' hbi
    rcases hj with rfl | hj
    ·exact hle
    ·by_cases hlt' : e.on < acc.length
     ·exact hacc e.on hlt' j (.inl hle) hj
     ·rw [List.getD_eq_getElem?_getD, List.getElem?_eq_none (by omega)] at hj
      simp at hj

def zST (xs : List Operand) : List Nat := xs.filterMap fun | .tmp t => some t | _ => none
def zPm (ops : Array Oper) (o : Oper) : List Nat := match o.guard with | none => [] | some (j, _) => ((ops[j]?).bind (·.dst)).toList
def uT (ops : Array Oper) (o : Oper) : List Nat := zST o.op.operands.toList ++ zPm ops o ++ o.dst.toList
def zNP (a b : List Nat) : Bool := a.any fun x => b.any fun y => Nat.beq x y
def zDB (ops : Array Oper) (sl : Nat → Nat) (i : Nat) (oi : Oper) (ri : Rec) (oj : Oper) (rj : Rec) : Bool :=
 zNP oj.dst.toList (uT ops oi) || zNP (rj.out.sets.map (·.1)) ((sl i) :: ri.rd)
def zIR (ops : Array Oper) (bs : List Nat) (sl : Nat → Nat) (i : Nat) (oi : Oper) (ri : Rec) : List Oper → List Rec → Nat → Bool
 | oj :: os, rj :: rs, j => (Nat.beq i j || !zDB ops sl i oi ri oj rj || (if Nat.blt j i then (bs.getD i 0).testBit j else (bs.getD j 0).testBit i)) && zIR ops bs sl i oi ri os rs (j + 1)
 | _, _, _ => true
def zKJ (ops : Array Oper) (bs : List Nat) (sl : Nat → Nat) (allO : List Oper) (allR : List Rec) : List Oper → List Rec → Nat → Bool
 | oi :: os, ri :: rs, i => (oi.after.toList.all fun e => !Region.binds .any e || Nat.blt e.on i) && zIR ops bs sl i oi ri allO allR 0 && zKJ ops bs sl allO allR os rs (i + 1)
 | _, _, _ => true
def chk (ops : List Oper) (sl : Nat → Nat) (rs : List Rec) : Bool := zKJ ops.toArray (zRN ops []) sl ops rs ops rs 0

theorem zFn {a b : List Nat} {x : Nat} (ha : x ∈ a) (hb : x ∈ b) : zNP a b = true := by
 simp only [zNP, List.any_eq_true]
 exact ⟨x, ha, x, hb, Nat.beq_refl x⟩

theorem zLg {ops : Array Oper} {bs : List Nat} {sl : Nat → Nat} {i : Nat} {oi : Oper} {ri : Rec} (os : List Oper) : ∀ (rs : List Rec) (k : Nat), zIR ops bs sl i oi ri os rs k = true →
  ∀ j oj rj, os[j]? = some oj → rs[j]? = some rj → i ≠ k + j → zDB ops sl i oi ri oj rj = true → if k + j < i then (bs.getD i 0).testBit (k + j) = true else (bs.getD (k + j) 0).testBit i = true := by
 induction os with
 | nil => intro rs k _ j oj rj h; simp at h
 | cons o os ih =>
  intro rs k h j oj rj ho hr hne hcf
  cases rs with
  | nil => simp at hr
  | cons r rs =>
   simp only [zIR, Bool.and_eq_true] at h
   cases j with
   | zero =>
    simp only [List.getElem?_cons_zero, Option.some.injEq] at ho hr
    subst ho hr
    have h1 := h.1
    have hn : Nat.beq i k = false := by
     cases hb : Nat.beq i k with
     | false => rfl
     | true => exact absurd (Nat.eq_of_beq_eq_true hb) hne
    rw [hn, hcf] at h1
    simp only [Bool.not_true, Bool.or_self, Bool.false_or] at h1
    simp only [Nat.add_zero]
    by_cases hlt : k < i
    ·rw [if_pos hlt]
     rw [if_pos (by simpa [Nat.blt_eq] using hlt)] at h1
     exact h1
    ·rw [if_neg hlt]
     rw [if_neg (by simpa [Nat.blt_eq] using hlt)] at h1
     exact h1
   | succ j =>
    have := ih rs (k + 1) h.2 j oj rj (by simpa using ho) (by simpa using hr) (by omega) hcf
    rw [show k + (j + 1) = k + 1 + j from by omega]
    exact this

theorem zLT {ops : Array Oper} {bs : List Nat} {sl : Nat → Nat} {allO : List Oper} {allR : List Rec} (os : List Oper) : ∀ (rs : List Rec) (k : Nat), zKJ ops bs sl allO allR os rs k = true → rs.length = os.length →
  ∀ i oi ri, os[i]? = some oi → rs[i]? = some ri → (∀ e ∈ oi.after.toList, Region.binds .any e = true → e.on < k + i) ∧ zIR ops bs sl (k + i) oi ri allO allR 0 = true := by
 induction os with
 | nil => intro rs k _ _ i oi ri h; simp at h
 | cons o os ih =>
  intro rs k h hl i oi ri ho hr
  cases rs with
  | nil => simp at hr
  | cons r rs =>
   simp only [zKJ, Bool.and_eq_true] at h
   cases i with
   | zero =>
    simp only [List.getElem?_cons_zero, Option.some.injEq] at ho hr
    subst ho hr
    refine ⟨fun e he hb => ?_, h.1.2⟩
    have := (List.all_eq_true.1 h.1.1) e he
    rw [hb] at this
    simpa [Nat.blt_eq] using this
   | succ i =>
    rw [show k + (i + 1) = k + 1 + i from by omega]
    exact ih rs (k + 1) h.2 (by simpa using hl) i oi ri (by simpa using ho) (by simpa using hr)

theorem St.ext' {a b : St} (h1 : a.fr = b.fr) (h2 : a.σ = b.σ) : a = b := by cases a; cases b; simp_all


theorem zCY (ls : Array Bool) (i : Nat) (h : i < ls.size) : (ls.setIfInBounds i true).getD i false = true := by
 simp [Array.getD_eq_getD_getElem?, h]
theorem zAr (ls : Array Bool) (i j : Nat) (h : i ≠ j) : (ls.setIfInBounds i true).getD j false = ls.getD j false := by
 simp [Array.getD_eq_getD_getElem?, h]

def left (ls : Array Bool) : Nat := ls.toList.count false
theorem zPr (ls : Array Bool) (i : Nat) (h : i < ls.size) (hf : ls.getD i false = false) : left (ls.setIfInBounds i true) + 1 = left ls := by
 unfold left
 have hi : i < ls.toList.length := by simpa using h
 have hv : ls.toList[i] = false := by
  simpa [Array.getD_eq_getD_getElem?, h] using hf
 rw [Array.toList_setIfInBounds, List.count_set hi, hv]
 have : 0 < ls.toList.count false := List.count_pos_iff.2 (hv ▸ List.getElem_mem hi)
 have e1 : (false == false) = true := rfl
 have e2 : (true == false) = false := rfl
 rw [e1, e2, if_pos rfl, if_neg (by simp)]
 omega
theorem zJZ (ls : Array Bool) (h : left ls = 0) (i : Nat) (hi : i < ls.size) : ls.getD i false = true := by
 unfold left at h
 rw [List.count_eq_zero] at h
 cases hb : ls.getD i false with
 | true => rfl
 | false =>
  exfalso
  apply h
  have : ls.toList[i]'(by simpa using hi) = false := by simpa [Array.getD_eq_getD_getElem?, hi] using hb
  rw [← this]
  exact List.getElem_mem _

section
variable {P : Program} {ro : Option Nat} {ops : List Oper} {sl : Nat → Nat} {B : Base} {Q : Exit → Act → World → Prop} {st0 : St} {rs : List Rec}

theorem zOt (hv : Valid P ro ops.toArray sl ops 0 st0 rs) (hc : chk ops sl rs = true)
  (hQ : ∀ a' w', Rel B (fin (fun _ => true) ops rs 0 st0) a' w' → Q .normal a' w') :
  ∀ (fuel : Nat) (ls : Array Bool) (a : Act) (w : World), ls.size = ops.length → zMS ops (fun i => ls.getD i false) → left ls = fuel →
   Rel B (fin (fun i => ls.getD i false) ops rs 0 st0) a w → wpAnyIn (FW ro) 0 P .any ops.toArray Q fuel ls a w := by
 obtain ⟨hlen, hat⟩ := hv.at_
 have hca := zLT ops rs 0 hc hlen
 simp only [Nat.zero_add] at hca hat
 have hdone : ∀ (ls : Array Bool) (a : Act) (w : World), ls.size = ops.length → left ls = 0 → Rel B (fin (fun i => ls.getD i false) ops rs 0 st0) a w → Q .normal a w := by
  intro ls a w hsz hl hr
  refine hQ a w ?_
  rw [zOb (L := fun _ => true) (L' := fun i => ls.getD i false) ops rs 0 st0 (fun j _ hj => (zJZ ls hl j (by omega)).symm)]
  exact hr
 have hready0 : ∀ (ls : Array Bool), ls.size = ops.length → left ls = 0 → Region.ready .any ops.toArray ls = [] := by
  intro ls hsz hl
  rw [List.eq_nil_iff_forall_not_mem]
  intro i hi
  obtain ⟨h1, o, ho, _⟩ := mem_ready.1 hi
  have hlt : i < ops.length := by simpa using (Array.getElem?_eq_some_iff.1 ho).1
  have := zJZ ls hl i (by omega)
  simp only [Array.getD_eq_getD_getElem?] at h1 this
  rw [Array.getElem?_eq_getElem (by omega : i < ls.size)] at h1 this
  simp at h1 this
  rw [h1] at this; cases this
 intro fuel
 induction fuel with
 | zero => exact fun ls a w hsz _ hl hr => ⟨hready0 ls hsz hl, hdone ls a w hsz hl hr⟩
 | succ fuel ih =>
  intro ls a w hsz hcl hl hr
  refine ⟨fun hnil => ?_, fun i hi => ?_⟩
  ·-- nothing is ready: then all is listed
   exfalso
   have key : ∀ i, i < ops.length → ls.getD i false = true := by
    intro i
    induction i using Nat.strongRecOn with
    | _ i ihi =>
     intro hlt
     cases hb : ls.getD i false with
     | true => rfl
     | false =>
      exfalso
      have ho : ops[i]? = some ops[i] := List.getElem?_eq_getElem hlt
      obtain ⟨r, hr', _⟩ := hat i _ ho
      have hed := (hca i _ r ho hr').1
      have : i ∈ Region.ready .any ops.toArray ls := mem_ready.2 ⟨by
       simp only [Array.getD_eq_getD_getElem?] at hb ⊢
       rw [Array.getElem?_eq_getElem (by omega : i < ls.size)] at hb ⊢
       simpa using hb, ops[i], by simp, fun e he hbi => ihi e.on (hed e (by simpa using he) hbi) (by have := hed e (by simpa using he) hbi; omega)⟩
      rw [hnil] at this
      cases this
   have : left ls = 0 := by
    unfold left
    rw [List.count_eq_zero]
    intro hm
    obtain ⟨i, hi, he⟩ := List.mem_iff_getElem.1 hm
    have hi' : i < ls.size := by simpa using hi
    have := key i (by omega)
    simp only [Array.getD_eq_getD_getElem?, Array.getElem?_eq_getElem hi'] at this
    simp at he this
    rw [he] at this; cases this
   omega
  ·obtain ⟨hnl, o, ho, hed⟩ := mem_ready.1 hi
   have ho' : ops[i]? = some o := by simpa using ho
   have hlt : i < ops.length := (List.getElem?_eq_some_iff.1 ho').1
   have hnot : ls.getD i false = false := by
    simp only [Array.getD_eq_getD_getElem?] at hnl ⊢
    rw [Array.getElem?_eq_getElem (by omega : i < ls.size)] at hnl ⊢
    simpa using hnl
   obtain ⟨r, hr', hst, hnext⟩ := hat i o ho'
   have hrow := zLg ops rs 0 (hca i o r ho' hr').2
   simp only [Nat.zero_add] at hrow
   have hbef := zOV (L := fun i => ls.getD i false) ops hcl ops [] [] rfl rfl (fun i hi => absurd hi (Nat.not_lt_zero _))
   -- who writes what this one uses is listed just if it stands ahead
   have hwr : ∀ j oj rj, ops[j]? = some oj → rs[j]? = some rj → zDB ops.toArray sl i o r oj rj = true → j ≠ i → ls.getD j false = decide (j < i) := by
    intro j oj rj hoj hrj hcf hne
    have := hrow j oj rj hoj hrj (fun e => hne e.symm) hcf
    by_cases hji : j < i
    ·rw [if_pos hji] at this
     have := hbef i hlt j (.inr ⟨o, ho', fun e he hb => hed e (by simpa using he) hb⟩) this
     simp [hji, this]
    ·rw [if_neg hji] at this
     cases hlj : ls.getD j false with
     | false => simp [hji]
     | true =>
      have h2 := hbef j (List.getElem?_eq_some_iff.1 hoj).1 i (.inl hlj) this
      rw [hnot] at h2; cases h2
   have hfr : ∀ t, t ∈ uT ops.toArray o → (fin (fun i => ls.getD i false) ops rs 0 st0).fr[t]? = (fin (fun j => decide (j < i)) ops rs 0 st0).fr[t]? := by
    intro t ht
    refine zNI ops rs 0 st0 st0 rfl (fun j oj rj hoj hrj hd => ?_)
    simp only [Nat.zero_add]
    by_cases hne : j = i
    ·subst hne; rw [hnot]; simp
    ·exact hwr j oj rj hoj hrj (by simp only [zDB, Bool.or_eq_true]; exact .inl (zFn (x := t) (by simp [hd]) ht)) hne
   have hσ : ∀ k, k ∈ (sl i) :: r.rd → (fin (fun i => ls.getD i false) ops rs 0 st0).σ[k]? = (fin (fun j => decide (j < i)) ops rs 0 st0).σ[k]? := by
    intro k hk
    refine zQR ops rs 0 st0 st0 rfl (fun j oj rj hoj hrj hd => ?_)
    simp only [Nat.zero_add]
    by_cases hne : j = i
    ·subst hne; rw [hnot]; simp
    ·obtain ⟨p, hp, rfl⟩ := hd
     exact hwr j oj rj hoj hrj (by simp only [zDB, Bool.or_eq_true]; exact .inr (zFn (x := p.1) (List.mem_map.2 ⟨p, hp, rfl⟩) hk)) hne
   -- the state with this one, too
   have hst' : fin (fun j => (ls.setIfInBounds i true).getD j false) ops rs 0 st0 = r.out.app o.dst (fin (fun i => ls.getD i false) ops rs 0 st0) := by
    refine St.ext' (List.ext_getElem? fun t => ?_) (List.ext_getElem? fun k => ?_)
    ·by_cases hd : o.dst = some t
     ·have e1 : (fin (fun j => (ls.setIfInBounds i true).getD j false) ops rs 0 st0).fr[t]? = (fin (fun j => decide (j < i + 1)) ops rs 0 st0).fr[t]? := by
       refine zNI ops rs 0 st0 st0 rfl (fun j oj rj hoj hrj hdj => ?_)
       simp only [Nat.zero_add]
       by_cases hne : j = i
       ·subst hne; rw [zCY _ _ (by omega)]; simp
       ·rw [zAr _ _ _ (fun e => hne e.symm), hwr j oj rj hoj hrj (by simp only [zDB, Bool.or_eq_true]; exact .inl (zFn (x := t) (by simp [hdj]) (by simp [uT, hd]))) hne]
        have : (j < i) ↔ (j < i + 1) := by omega
        simp [this]
      rw [e1, hnext]
      exact (zIh (hfr t (by simp [uT, hd])) _ _).symm
     ·have e1 : (fin (fun j => (ls.setIfInBounds i true).getD j false) ops rs 0 st0).fr[t]? = (fin (fun i => ls.getD i false) ops rs 0 st0).fr[t]? := by
       refine zNI ops rs 0 st0 st0 rfl (fun j oj rj hoj hrj hdj => ?_)
       simp only [Nat.zero_add]
       have hne : j ≠ i := by
        rintro rfl
        rw [ho'] at hoj; cases hoj
        exact hd hdj
       rw [zAr _ _ _ (fun e => hne e.symm)]
      rw [e1]
      exact (zJw hd _).symm
    ·by_cases hd : ∃ p ∈ r.out.sets, p.1 = k
     ·have hk : k ∈ (sl i) :: r.rd := by
       obtain ⟨p, hp, rfl⟩ := hd
       rcases hst.sets p hp with h | h
       ·rw [h]; exact List.mem_cons_self
       ·exact List.mem_cons_of_mem _ h
      have e1 : (fin (fun j => (ls.setIfInBounds i true).getD j false) ops rs 0 st0).σ[k]? = (fin (fun j => decide (j < i + 1)) ops rs 0 st0).σ[k]? := by
       refine zQR ops rs 0 st0 st0 rfl (fun j oj rj hoj hrj hdj => ?_)
       simp only [Nat.zero_add]
       by_cases hne : j = i
       ·subst hne; rw [zCY _ _ (by omega)]; simp
       ·obtain ⟨p, hp, hpk⟩ := hdj
        rw [zAr _ _ _ (fun e => hne e.symm), hwr j oj rj hoj hrj (by simp only [zDB, Bool.or_eq_true]; exact .inr (zFn (x := k) (List.mem_map.2 ⟨p, hp, hpk⟩) hk)) hne]
        have : (j < i) ↔ (j < i + 1) := by omega
        simp [this]
      rw [e1, hnext]
      exact (zGu _ (hσ k hk)).symm
     ·have e1 : (fin (fun j => (ls.setIfInBounds i true).getD j false) ops rs 0 st0).σ[k]? = (fin (fun i => ls.getD i false) ops rs 0 st0).σ[k]? := by
       refine zQR ops rs 0 st0 st0 rfl (fun j oj rj hoj hrj hdj => ?_)
       simp only [Nat.zero_add]
       have hne : j ≠ i := by
        rintro rfl
        rw [hr'] at hrj; cases hrj
        exact hd hdj
       rw [zAr _ _ _ (fun e => hne e.symm)]
      rw [e1]
      exact (zIW _ (fun p hp e => hd ⟨p, hp, e⟩)).symm
   have hcl' : zMS ops (fun j => (ls.setIfInBounds i true).getD j false) := by
    intro j oj hoj hLj e he hb
    by_cases hne : j = i
    ·subst hne
     rw [ho'] at hoj; cases hoj
     have := hed e (by simpa using he) hb
     by_cases h2 : j = e.on
     ·show (ls.setIfInBounds j true).getD e.on false = true
      rw [← h2]; exact zCY _ _ (by omega)
     ·show (ls.setIfInBounds j true).getD e.on false = true
      rw [zAr _ _ _ h2]; exact this
    ·have h1 : ls.getD j false = true := by rw [← zAr ls i j (fun e => hne e.symm)]; exact hLj
     have h3 := hcl j oj hoj h1 e he hb
     show (ls.setIfInBounds i true).getD e.on false = true
     by_cases h2 : i = e.on
     ·rw [← h2]; exact zCY _ _ (by omega)
     ·rw [zAr _ _ _ h2]; exact h3
   have hgo : ∀ a' w', Rel B (r.out.app o.dst (fin (fun i => ls.getD i false) ops rs 0 st0)) a' w' → wpAnyIn (FW ro) 0 P .any ops.toArray Q fuel (ls.setIfInBounds i true) a' w' := by
    intro a' w' hr2
    refine ih _ a' w' (by simpa using hsz) hcl' (by have := zPr ls i (by omega) hnot; omega) ?_
    rw [hst']; exact hr2
   -- the operation itself
   have heval : ∀ x ∈ o.op.operands, (fin (fun i => ls.getD i false) ops rs 0 st0).eval x = (fin (fun j => decide (j < i)) ops rs 0 st0).eval x := by
    intro x hx
    cases x with
    | tmp t =>
     simp only [St.eval, zHV]
     rw [hfr t (by
      simp only [uT, List.mem_append]
      exact .inl (.inl (List.mem_filterMap.2 ⟨.tmp t, by simpa using hx, rfl⟩)))]
    | const v => rfl
    | global g => rfl
    | func f => rfl
   have hguard : zCs ops.toArray o (fin (fun i => ls.getD i false) ops rs 0 st0) = some r.run := by
    rw [← hst.guard]
    unfold zCs
    cases hg : o.guard with
    | none => rfl
    | some p =>
     obtain ⟨j, want⟩ := p
     simp only
     cases ht : (ops.toArray[j]?).bind (·.dst) with
     | none => rfl
     | some t =>
      simp only [zHV]
      rw [hfr t (by
       simp only [uT, List.mem_append]
       refine .inl (.inr ?_)
       simp only [zPm, hg, ht]
       simp)]
   unfold wpOpIn
   rw [ho]
   simp only
   rw [zEx hguard hr]
   cases hrun : r.run with
   | true =>
    rw [if_pos rfl]
    exact hst.op hrun B _ a w heval (fun k hk => hσ k (by rcases hk with rfl | h; exact List.mem_cons_self; exact List.mem_cons_of_mem _ h)) hr _ _ hgo
   | false =>
    rw [if_neg (by simp)]
    refine ⟨fun _ _ => trivial, hgo _ _ ?_⟩
    rw [hst.skip hrun]
    exact hr.putUndef o.dst
end

def AWP (P : Program) (ro : Option Nat) (c : Code) (st : St) (K : Exit → St → Prop) : Prop :=
 ∀ B a w, Rel B st a w → ∀ Q : Exit → Act → World → Prop, (∀ e st' a' w', K e st' → Rel B st' a' w' → Q e a' w') → c.wpIn (FW ro) 0 P Q a w

section
variable {P : Program} {ro : Option Nat} {st : St} {K K' : Exit → St → Prop}

theorem AWP.mono {c : Code} (h : AWP P ro c st K) (hk : ∀ e s, K e s → K' e s) : AWP P ro c st K' :=
 fun B a w hr Q hQ => h B a w hr Q (fun e st' a' w' hK => hQ e st' a' w' (hk e st' hK))
theorem zJ (h : K .normal st) : AWP P ro .skip st K := fun _ a w hr _ hQ => wpIn_skip (hQ _ _ a w h hr)
theorem zI (h : K .ret st) : AWP P ro .ret st K := fun _ a w hr _ hQ => wpIn_ret (hQ _ _ a w h hr)
theorem zQ {id : Nat} (h : K (.exit id) st) : AWP P ro (.exit id) st K := fun _ a w hr _ hQ => wpIn_exit (hQ _ _ a w h hr)
def zGo (J : St → Prop) (K : Exit → St → Prop) : Exit → St → Prop
 | .normal, s => J s
 | e, s => K e s
theorem zA {x y : Code} (h : AWP P ro x st (zGo (fun s => AWP P ro y s K) K)) : AWP P ro (.seq x y) st K := fun B a w hr Q hQ => by
 refine wpIn_seq (h B a w hr _ (fun e st' a' w' hK hr' => ?_))
 cases e with
 | normal => exact hK B a' w' hr' Q hQ
 | exit id => exact hQ _ _ _ _ hK hr'
 | goto l => exact hQ _ _ _ _ hK hr'
 | ret => exact hQ _ _ _ _ hK hr'
 | panic c => exact hQ _ _ _ _ hK hr'
 | outgrown => exact hQ _ _ _ _ hK hr'
theorem zs {c : Operand} {x y : Code} {t : Bool} (hc : st.eval c = .v (.bool t)) (ht : t = true → AWP P ro x st K) (hf : t = false → AWP P ro y st K) : AWP P ro (.cond c x y) st K := fun B a w hr Q hQ => by
 obtain ⟨ρ, _, hfr, _⟩ := id hr
 have hv := hfr.eval c
 rw [hc] at hv
 have e := hv.v_inv
 refine wpIn_cond_split e (fun h => ht h B a w hr Q hQ) (fun h => hf h B a w hr Q hQ)

def zEH (id : Nat) (K : Exit → St → Prop) : Exit → St → Prop
 | .exit id', s => if id' = id then K .normal s else K (.exit id') s
 | e, s => K e s
theorem zG {id : Nat} {c : Code} (h : AWP P ro c st (zEH id K)) : AWP P ro (.block id c) st K := fun B a w hr Q hQ => by
 refine wpIn_block (h B a w hr _ (fun e st' a' w' hK hr' => ?_))
 cases e with
 | exit id' =>
  simp only [zEH] at hK
  simp only [Exit.inBlock]
  split
  ·rename_i he; rw [if_pos he] at hK; exact hQ _ _ _ _ hK hr'
  ·rename_i he; rw [if_neg he] at hK; exact hQ _ _ _ _ hK hr'
 | normal => exact hQ _ _ _ _ hK hr'
 | goto l => exact hQ _ _ _ _ hK hr'
 | ret => exact hQ _ _ _ _ hK hr'
 | panic c => exact hQ _ _ _ _ hK hr'
 | outgrown => exact hQ _ _ _ _ hK hr'

end

theorem zGr {σ : List Slot} {n k g : Nat} : zBX (σ ++ List.replicate n .free) k g ↔ zBX σ k g := by
 constructor
 ·rintro ⟨s, hs, hne⟩
  by_cases hk : k < σ.length
  ·rw [List.getElem?_append_left hk] at hs; exact ⟨s, hs, hne⟩
  ·rw [List.getElem?_append_right (by omega), List.getElem?_replicate] at hs
   split at hs
   ·cases hs; exact hne.elim
   ·cases hs
 ·rintro ⟨s, hs, hne⟩
  have hk : k < σ.length := (List.getElem?_eq_some_iff.1 hs).1
  exact ⟨s, by rw [List.getElem?_append_left hk]; exact hs, hne⟩
theorem zCB {σ : List Slot} {n k : Nat} {e : Ent} : (σ ++ List.replicate n .free)[k]? = some (.ent e) ↔ σ[k]? = some (.ent e) := by
 constructor
 ·intro hs
  by_cases hk : k < σ.length
  ·rwa [List.getElem?_append_left hk] at hs
  ·rw [List.getElem?_append_right (by omega), List.getElem?_replicate] at hs
   split at hs <;> cases hs
 ·intro hs
  have hk : k < σ.length := (List.getElem?_eq_some_iff.1 hs).1
  rwa [List.getElem?_append_left hk]
theorem zBO {σ : List Slot} {n k : Nat} : live (σ ++ List.replicate n .free) k ↔ live σ k :=
 ⟨fun ⟨e, he⟩ => ⟨e, zCB.1 he⟩, fun ⟨e, he⟩ => ⟨e, zCB.2 he⟩⟩
theorem zOa {σ : List Slot} {n : Nat} {ρ : Nat → Nat × Nat} {k g : Nat} {p : Nat × Nat} (h : Tb (σ ++ List.replicate n .free) ρ k g = some p) : Tb σ ρ k g = some p := by
 obtain ⟨e, he, hg, hp⟩ := Tb.live h
 have := Tb.of (ρ := ρ) (zCB.1 he)
 rw [hg, hp] at this
 exact this
theorem Move.room (B : Base) (σ : List Slot) (ρ : Nat → Nat × Nat) (w : World) (n : Nat) : Move B σ ρ w (σ ++ List.replicate n .free) ρ w where
 size := Nat.le_refl _
 keep := fun _ _ _ => rfl
 lives := fun k hk => .inl ⟨k, zBO.1 hk, rfl⟩
 uses := fun k g hk => zGr.2 hk
 tabs := fun _ _ _ _ h => zOa h
theorem Rel.room {B : Base} {st : St} {a : Act} {w : World} (h : Rel B st a w) (n : Nat) : Rel B ⟨st.fr, st.σ ++ List.replicate n .free⟩ a w := by
 obtain ⟨ρ, h1, h2, h3⟩ := h
 have m := Move.room B st.σ ρ w n
 exact ⟨ρ, m.hp h1 rfl rfl rfl (fun k e he => m.entOk (h1.ent k e (zCB.1 he)) rfl) (fun k k' hk hk' he => h1.inj k k' (zBO.1 hk) (zBO.1 hk') he), m.frOk (fr := st.fr) h2, h3⟩

inductive SR where
 | no
 | call
 | yes (c : Prop) (rd : List Nat) (out : Out)

def zJc : Callee → Bool
 | .builtin b => match b with
  | .append => true
  | _ => false
 | _ => true
def zAi (o : Oper) : Bool :=
 match o.op with
 | .alloc _ => true
 | .box _ _ => true
 | .buildSlice _ _ _ => true
 | .makeSlice _ _ _ => true
 | .makeMap _ _ => true
 | .call k => zJc k.callee
 | _ => false
def zHI : Nat := 1000000
def zDy : List Oper → Nat → List Nat
 | [], _ => []
 | o :: os, nx => if zAi o then nx :: zDy os (nx + 1) else zHI :: zDy os nx
def zFQ : List Oper → Nat
 | [] => 0
 | o :: os => if zAi o then zFQ os + 1 else zFQ os

def CallV (P : Program) (ro : Option Nat) (o : Oper) (opd : Operand → D) (σ : List Slot) (slot : Nat) (k : List Nat → Out → Prop) : Prop :=
 ∃ rd out, OpS P ro o opd σ rd slot out ∧ (∀ p ∈ out.sets, p.1 = slot ∨ p.1 ∈ rd) ∧ k rd out

section
variable (step : Oper → (Operand → D) → List Slot → Nat → SR)
def rvc (opsA : Array Oper) (KC : Oper → List Oper → Nat → St → List Rec → Prop) (K : List Rec → St → Prop) : List Oper → Nat → St → List Rec → Prop
 | [], _, st, recs => K recs st
 | o :: os, nx, st, recs =>
  match zCs opsA o st with
  | none => False
  | some g =>
   if g = true then
    match step o st.eval st.σ (if zAi o then nx else zHI) with
    | .no => False
    | .call => KC o os nx st recs
    | .yes c rd out => c ∧ rvc opsA KC K os (if zAi o then nx + 1 else nx) (out.app o.dst st) (recs ++ [⟨true, rd, out⟩])
   else rvc opsA KC K os (if zAi o then nx + 1 else nx) (Out.app ⟨.v undef, []⟩ o.dst st) (recs ++ [⟨false, [], ⟨.v undef, []⟩⟩])
def zKH (P : Program) (ro : Option Nat) (opsA : Array Oper) (K : List Rec → St → Prop) : List Oper → Nat → St → List Rec → Prop
 | [], _, st, recs => K recs st
 | o :: os, nx, st, recs =>
  match zCs opsA o st with
  | none => False
  | some g =>
   if g = true then
    match step o st.eval st.σ (if zAi o then nx else zHI) with
    | .no => False
    | .call => CallV P ro o st.eval st.σ (if zAi o then nx else zHI) (fun rd out => zKH P ro opsA K os (if zAi o then nx + 1 else nx) (out.app o.dst st) (recs ++ [⟨true, rd, out⟩]))
    | .yes c rd out => c ∧ zKH P ro opsA K os (if zAi o then nx + 1 else nx) (out.app o.dst st) (recs ++ [⟨true, rd, out⟩])
   else zKH P ro opsA K os (if zAi o then nx + 1 else nx) (Out.app ⟨.v undef, []⟩ o.dst st) (recs ++ [⟨false, [], ⟨.v undef, []⟩⟩])
def zQL (P : Program) (ro : Option Nat) (opsA : Array Oper) (K : List Rec → St → Prop) (o : Oper) (os : List Oper) (nx : Nat) (st : St) (recs : List Rec) : Prop :=
 CallV P ro o st.eval st.σ (if zAi o then nx else zHI) (fun rd out => zKH step P ro opsA K os (if zAi o then nx + 1 else nx) (out.app o.dst st) (recs ++ [⟨true, rd, out⟩]))
theorem zKX (P : Program) (ro : Option Nat) (opsA : Array Oper) (K : List Rec → St → Prop) (os : List Oper) : ∀ nx st recs, rvc step opsA (zQL step P ro opsA K) K os nx st recs = zKH step P ro opsA K os nx st recs := by
 induction os with
 | nil => intro nx st recs; rfl
 | cons o os ih =>
  intro nx st recs
  simp only [rvc, zKH, ih]
  cases zCs opsA o st with
  | none => rfl
  | some g =>
   simp only
   split
   ·cases step o st.eval st.σ (if zAi o then nx else zHI) <;> rfl
   ·rfl

def zNO (P : Program) (ro : Option Nat) : Prop := ∀ o opd σ slot c rd out, step o opd σ slot = .yes c rd out → c → OpS P ro o opd σ rd slot out ∧ ∀ p ∈ out.sets, p.1 = slot ∨ p.1 ∈ rd

variable {step}
theorem zId {P : Program} {ro : Option Nat} {opsA : Array Oper} {K : List Rec → St → Prop} (hs : zNO step P ro) {sl : Nat → Nat} (os : List Oper) : ∀ (i nx : Nat) (st : St) (recs : List Rec),
  (∀ j, j < os.length → sl (i + j) = (zDy os nx).getD j 0) → zKH step P ro opsA K os nx st recs → ∃ rs, Valid P ro opsA sl os i st rs ∧ K (recs ++ rs) (fin (fun _ => true) os rs i st) := by
 induction os with
 | nil => intro i nx st recs _ h; exact ⟨[], rfl, by simpa [fin, zKH] using h⟩
 | cons o os ih =>
  intro i nx st recs hsl h
  have h0 : sl i = if zAi o then nx else zHI := by
   have := hsl 0 (by simp)
   simp only [Nat.add_zero, zDy] at this
   rw [this]
   split <;> rfl
  have hsl' : ∀ j, j < os.length → sl (i + 1 + j) = (zDy os (if zAi o then nx + 1 else nx)).getD j 0 := fun j hj => by
   have := hsl (j + 1) (by simpa using hj)
   rw [show i + 1 + j = i + (j + 1) from by omega, this]
   simp only [zDy]
   split <;> simp
  simp only [zKH] at h
  cases hg : zCs opsA o st with
  | none => rw [hg] at h; exact h.elim
  | some g =>
   rw [hg] at h
   simp only at h
   cases g with
   | true =>
    rw [if_pos rfl] at h
    cases hst : step o st.eval st.σ (if zAi o then nx else zHI) with
    | no => rw [hst] at h; exact h.elim
    | call =>
     rw [hst] at h
     obtain ⟨rd, out, hop, hset, h⟩ := h
     obtain ⟨rs, hv, hK⟩ := ih (i + 1) _ _ _ hsl' h
     exact ⟨⟨true, rd, out⟩ :: rs, ⟨_, rs, rfl, hg, (fun h => by cases h), fun _ => by rw [h0]; exact hop, by rw [h0]; exact hset, hv⟩, by simpa [fin] using hK⟩
    | yes c rd out =>
     rw [hst] at h
     obtain ⟨hc, h⟩ := h
     obtain ⟨hop, hset⟩ := hs _ _ _ _ _ _ _ hst hc
     obtain ⟨rs, hv, hK⟩ := ih (i + 1) _ _ _ hsl' h
     exact ⟨⟨true, rd, out⟩ :: rs, ⟨_, rs, rfl, hg, (fun h => by cases h), fun _ => by rw [h0]; exact hop, by rw [h0]; exact hset, hv⟩, by simpa [fin] using hK⟩
   | false =>
    rw [if_neg (by simp)] at h
    obtain ⟨rs, hv, hK⟩ := ih (i + 1) _ _ _ hsl' h
    exact ⟨⟨false, [], ⟨.v undef, []⟩⟩ :: rs, ⟨_, rs, rfl, hg, fun _ => rfl, (fun h => by cases h), (fun p hp => by cases hp), hv⟩, by simpa [fin] using hK⟩

def zLd (st : St) (n : Nat) : St := ⟨st.fr, st.σ ++ List.replicate n .free⟩

theorem zNH {P : Program} {ro : Option Nat} {id : Nat} {ops : List Oper} {st : St} {K : Exit → St → Prop} (hs : zNO step P ro)
  (h : ∀ (KC : Oper → List Oper → Nat → St → List Rec → Prop) (J : List Rec → St → Prop), (∀ recs s, K .normal s → J recs s) →
   (∀ o os nx s recs, CallV P ro o s.eval s.σ (if zAi o then nx else zHI) (fun rd out => rvc step ops.toArray KC J os (if zAi o then nx + 1 else nx) (out.app o.dst s) (recs ++ [⟨true, rd, out⟩])) → KC o os nx s recs) →
   rvc step ops.toArray KC J ops st.σ.length (zLd st (zFQ ops)) []) : AWP P ro (.region id ops.toArray false) st K := fun B a w hr Q hQ => by
 have hx := h (zQL step P ro ops.toArray (fun _ s => K .normal s)) (fun _ s => K .normal s) (fun _ _ h => h) (fun o os nx s recs hc => by
  unfold zQL
  simp only [zKX] at hc
  exact hc)
 rw [zKX] at hx
 obtain ⟨rs, hv, hK⟩ := zId hs (sl := fun j => (zDy ops st.σ.length).getD j 0) ops 0 _ _ _ (fun j _ => by simp) hx
 refine wpIn_region ?_
 rw [List.range_eq_range', List.size_toArray]
 exact zNy ops 0 _ rs a w (fun j => by simp) hv (hr.room _) (fun a' w' hr' => hQ _ _ _ _ hK hr')

theorem zHF {P : Program} {ro : Option Nat} {id : Nat} {ops : List Oper} {st : St} {K : Exit → St → Prop} (hs : zNO step P ro) (hm : P.follows .mixedOrders = true)
  (h : ∀ (KC : Oper → List Oper → Nat → St → List Rec → Prop) (J : List Rec → St → Prop), (∀ recs s, chk ops (fun j => (zDy ops st.σ.length).getD j 0) recs = true → K .normal s → J recs s) →
   (∀ o os nx s recs, CallV P ro o s.eval s.σ (if zAi o then nx else zHI) (fun rd out => rvc step ops.toArray KC J os (if zAi o then nx + 1 else nx) (out.app o.dst s) (recs ++ [⟨true, rd, out⟩])) → KC o os nx s recs) →
   rvc step ops.toArray KC J ops st.σ.length (zLd st (zFQ ops)) []) : AWP P ro (.region id ops.toArray true) st K := fun B a w hr Q hQ => by
 have hx := h (zQL step P ro ops.toArray (fun recs s => chk ops (fun j => (zDy ops st.σ.length).getD j 0) recs = true ∧ K .normal s)) (fun recs s => chk ops (fun j => (zDy ops st.σ.length).getD j 0) recs = true ∧ K .normal s)
  (fun _ _ h1 h2 => ⟨h1, h2⟩) (fun o os nx s recs hc => by
  unfold zQL
  simp only [zKX] at hc
  exact hc)
 rw [zKX] at hx
 obtain ⟨rs, hv, hchk, hK⟩ := zId hs (sl := fun j => (zDy ops st.σ.length).getD j 0) ops 0 _ _ _ (fun j _ => by simp) hx
 refine wpIn_region_any hm ?_
 rw [List.size_toArray]
 refine zOt hv (by simpa using hchk) (fun a' w' hr' => hQ _ _ _ _ hK hr') ops.length _ a _ (by simp) (fun i o ho hL => ?_) ?_ ?_
 ·exfalso
  simp [Array.getD_eq_getD_getElem?, Array.getElem?_replicate] at hL
  split at hL <;> simp at hL
 ·simp [left]
 ·rw [zIo _ _ _ _ (fun j _ => by simp [Array.getD_eq_getD_getElem?, Array.getElem?_replicate]; split <;> rfl)]
  exact (hr.room _).of_heap rfl rfl rfl rfl
end


structure TyI where
 und : TypeDesc
 size : Nat
 bytes : Nat
 zero : Value
def tyI (P : Program) (t : TypeId) : Option TyI :=
 match P.info? t with
 | some i => match P.underlying t, i.zero with
  | some u, some z => some ⟨u, i.size, i.bytes, z⟩
  | _, _ => none
 | none => none
def zCw : TypeDesc → Bool
 | .struct _ => true
 | .array _ _ => true
 | _ => false

section
variable {P : Program} {t : TypeId} {i : TyI} (h : tyI P t = some i)
include h
theorem tyI.spec : ∃ j, P.info? t = some j ∧ P.underlying t = some i.und ∧ j.size = i.size ∧ j.bytes = i.bytes ∧ j.zero = some i.zero := by
 unfold tyI at h
 split at h
 ·rename_i j hj
  split at h
  ·rename_i u z hu hz
   cases h
   exact ⟨j, hj, hu, rfl, rfl, hz⟩
  ·cases h
 ·cases h
theorem tyI.underlying (w : World) : (underlying t).run P w = .ok i.und w := by
 obtain ⟨j, _, hu, _⟩ := tyI.spec h
 simp [Go.underlying, Go.program, Bind.bind, Sem.bind, Sem.run, hu, Pure.pure]
theorem tyI.typeInfo (w : World) : ∃ j, (typeInfo t).run P w = .ok j w ∧ j.size = i.size ∧ j.bytes = i.bytes ∧ j.zero = some i.zero := by
 obtain ⟨j, hj, _, h1, h2, h3⟩ := tyI.spec h
 exact ⟨j, by simp [Go.typeInfo, Go.program, Bind.bind, Sem.bind, Sem.run, hj, Pure.pure], h1, h2, h3⟩
theorem tyI.sizeOf (w : World) : (sizeOf t).run P w = .ok i.size w := by
 obtain ⟨j, hj, _, h1, _⟩ := tyI.spec h
 simp [Go.sizeOf, Go.typeInfo, Go.program, Bind.bind, Sem.bind, Sem.run, hj, Pure.pure, h1]
theorem tyI.zeroValue (w : World) : (zeroValue t).run P w = .ok i.zero w := by
 obtain ⟨j, hj, _, _, _, h1⟩ := tyI.spec h
 simp [Go.zeroValue, Go.typeInfo, Go.program, Bind.bind, Sem.bind, Sem.run, hj, Pure.pure, h1]
theorem tyI.isAgg (w : World) : (isAgg t).run P w = .ok (zCw i.und) w := by
 obtain ⟨j, _, hu, _⟩ := tyI.spec h
 simp only [Go.isAgg, Go.underlying, Go.program, Bind.bind, Sem.bind, Sem.run, hu, Pure.pure]
 cases i.und <;> rfl
end

theorem zGO {α β : Type} (P : Program) (s : Sem α) (f : α → Sem β) : ∀ w : World, (s.bind f).run P w = match s.run P w with | .ok a w' => (f a).run P w' | .halt h w' => .halt h w' := by
 intro w
 have := Sem.run_bind (P := P) (w := w) s f
 simp only [Bind.bind] at this
 rw [this]
 cases s.run P w <;> rfl

theorem zAX (b o j : Nat) : (⟨b, o, none⟩ : Addr).add j = ⟨b, o + j, none⟩ := by
 unfold Addr.add
 split
 ·rename_i h; subst h; rfl
 ·rfl
theorem zGE (P : Program) (w : World) (b o : Nat) (us : List Value) : ∀ (i : Nat) (acc : Array Value), (∀ j u, us[j]? = some u → w.cell? ⟨b, o + (i + j), none⟩ = some u) →
  (loadCellsFrom ⟨b, o, none⟩ i us.length acc).run P w = .ok (acc ++ us.toArray) w := by
 induction us with
 | nil => intro i acc _; simp [loadCellsFrom, Pure.pure, Sem.run]
 | cons u us ih =>
  intro i acc h
  have h0 := h 0 u rfl
  simp only [Nat.add_zero] at h0
  simp only [List.length_cons, loadCellsFrom, load, Bind.bind, Sem.bind, Sem.run, zAX, h0]
  have := ih (i + 1) (acc.push u) (fun j u' hj => by
   have := h (j + 1) u' (by simpa using hj)
   rw [show i + 1 + j = i + (j + 1) from by omega]; exact this)
  simp only [this]
  simp
theorem zDx {P : Program} {t : TypeId} {i : TyI} (h : tyI P t = some i) (ha : zCw i.und = true) (w : World) (b o : Nat) (us : List Value) (hl : us.length = i.size)
  (hc : ∀ j u, us[j]? = some u → w.cell? ⟨b, o + j, none⟩ = some u) : (loadVar t ⟨b, o, none⟩).run P w = .ok (.agg us.toArray) w := by
 simp only [loadVar, Bind.bind, zGO, tyI.isAgg h, ha, if_true, tyI.sizeOf h, loadCells]
 have := zGE P w b o us 0 #[] (fun j u hj => by rw [Nat.zero_add]; exact hc j u hj)
 rw [hl] at this
 rw [this]
 simp [Pure.pure, Sem.run]
theorem zEA {P : Program} {t : TypeId} {i : TyI} (h : tyI P t = some i) (ha : zCw i.und = false) (w : World) (b o : Nat) (u : Value) (hc : w.cell? ⟨b, o, none⟩ = some u) :
  (loadVar t ⟨b, o, none⟩).run P w = .ok u w := by
 simp [loadVar, Bind.bind, zGO, tyI.isAgg h, ha, load, Sem.run, hc]

def zOY (a b : Nat) : Bool := Nat.beq a b
def zES (ti : Option TyI) (d : D) (σ : List Slot) : Option (Prop × D × List Nat) :=
 match ti with
 | none => none
 | some i =>
  match d with
  | .ptr k g o =>
   match zEL σ k with
   | .ent e =>
    match zOY e.gen g with
    | true =>
     match zCw i.und with
     | true => some (o + i.size ≤ e.cells.length, .agg ((e.cells.drop o).take i.size), [k])
     | false => some (o < e.cells.length, zDn e.cells o, [k])
    | false => none
   | _ => none
  | .fad ds =>
   match zCw i.und with
   | true => some (i.size ≤ ds.length, .agg (ds.take i.size), [])
   | false => some (0 < ds.length, zDn ds 0, [])
  | _ => none

theorem zDm {w : World} {b t j : Nat} {cs : Array Value} {u : Value} (hb : w.heap[b]? = some (.cells cs t (0, 0))) (hu : cs[j]? = some u) : w.cell? ⟨b, j, none⟩ = some u := by
 simp [World.cell?, hb, hu]

theorem zEq {l : List D} {n : Nat} (h : n < l.length) : l[n]? = some (zDn l n) := by
 rw [zHV, List.getElem?_eq_getElem h]; rfl

theorem zGy {P : Program} {t : TypeId} {B : Base} {σ : List Slot} {ρ : Nat → Nat × Nat} {w : World} {d val : D} {c : Prop} {rd : List Nat} {u : Value} {a : Addr}
  (hl : zES (tyI P t) d σ = some (c, val, rd)) (hc : c) (hp : Hp B σ ρ w) (hd : Rp B σ ρ w d u) (ha : u = .pointer (some a)) : ∃ v, (loadVar t a).run P w = .ok v w ∧ Rp B σ ρ w val v := by
 unfold zES at hl
 cases hti : tyI P t with
 | none => rw [hti] at hl; cases hl
 | some i =>
  rw [hti] at hl
  simp only at hl
  cases d with
  | ptr k g o =>
   simp only at hl
   cases hs : zEL σ k with
   | free => rw [hs] at hl; cases hl
   | dead => rw [hs] at hl; cases hl
   | ent e =>
    rw [hs] at hl
    simp only at hl
    cases hg : zOY e.gen g with
    | false => rw [hg] at hl; cases hl
    | true =>
     rw [hg] at hl
     simp only at hl
     have hg' : e.gen = g := Nat.eq_of_beq_eq_true hg
     have hk := zCe (zCf hs).1
     have htb : Tb σ ρ k g = some (ρ k) := hg' ▸ Tb.of hk
     have hu := (hd.ptr_inv).2 (ρ k).1 (ρ k).2 htb
     rw [ha] at hu
     cases hu
     obtain ⟨cs, h1, h2, h3⟩ := (hp.ent k e hk).row (zCf hs).2
     cases hag : zCw i.und with
     | true =>
      rw [hag] at hl
      simp only [Option.some.injEq, Prod.mk.injEq] at hl
      obtain ⟨rfl, rfl, rfl⟩ := hl
      -- the cells' values
      have hle : o + i.size ≤ cs.size := by
       cases harr : e.arr with
       | none => rw [harr] at h2; simp only at h2; omega
       | some sz => rw [harr] at h2; simp only at h2; omega
      have hus : ((cs.toList.drop o).take i.size).length = i.size := by simp; omega
      refine ⟨_, zDx hti hag w _ o ((cs.toList.drop o).take i.size) hus (fun j u hj => ?_), ?_⟩
      ·have hlt : j < i.size := by have := (List.getElem?_eq_some_iff.1 hj).1; omega
       refine zDm h1 (j := o + j) ?_
       rw [List.getElem?_take_of_lt hlt, List.getElem?_drop] at hj
       simpa using hj
      ·refine .agg _ _ (by simp; omega) (fun j d' u' hj hu' => ?_)
       have hlt : j < i.size := by have := (List.getElem?_eq_some_iff.1 hj).1; simp at this; omega
       rw [List.getElem?_take_of_lt hlt, List.getElem?_drop] at hj
       obtain ⟨u2, hu2, _, hr⟩ := h3 (o + j) d' hj
       have : u' = u2 := by
        simp only [List.getElem?_toArray] at hu'
        rw [List.getElem?_take_of_lt hlt, List.getElem?_drop] at hu'
        have e2 : cs.toList[o + j]? = some u2 := by simpa using hu2
        rw [e2] at hu'
        exact (Option.some.inj hu').symm
       rw [this]; exact hr
     | false =>
      rw [hag] at hl
      simp only [Option.some.injEq, Prod.mk.injEq] at hl
      obtain ⟨rfl, rfl, rfl⟩ := hl
      obtain ⟨u2, hu2, _, hr⟩ := h3 o _ (zEq hc)
      exact ⟨u2, zEA hti hag w _ o u2 (zDm h1 hu2), hr⟩
  | fad ds =>
   simp only at hl
   have hf := hd.fad_inv
   rw [ha] at hf
   cases hf with
   | fad _ b o g hb hcell hr =>
    cases hag : zCw i.und with
    | true =>
     rw [hag] at hl
     simp only [Option.some.injEq, Prod.mk.injEq] at hl
     obtain ⟨rfl, rfl, rfl⟩ := hl
     refine ⟨_, zDx hti hag w b o ((List.range i.size).map g) (by simp) (fun j u hj => ?_), ?_⟩
     ·have hlt : j < i.size := by have := (List.getElem?_eq_some_iff.1 hj).1; simpa using this
      have hj' : u = g j := by simpa [hlt] using hj.symm
      rw [hj']
      exact (hcell j _ (List.getElem?_eq_getElem (by omega))).1
     ·refine .agg _ _ (by simp; omega) (fun j d' u' hj hu' => ?_)
      have hlt : j < i.size := by have := (List.getElem?_eq_some_iff.1 hj).1; simp at this; omega
      rw [List.getElem?_take_of_lt hlt] at hj
      have : u' = g j := by simpa [hlt] using hu'.symm
      rw [this]
      exact .fro _ _ (hr j d' hj)
    | false =>
     rw [hag] at hl
     simp only [Option.some.injEq, Prod.mk.injEq] at hl
     obtain ⟨rfl, rfl, rfl⟩ := hl
     have h0 := zEq hc
     exact ⟨g 0, zEA hti hag w b o _ (by simpa using (hcell 0 _ h0).1), .fro _ _ (hr 0 _ h0)⟩
  | _ => simp at hl

def ren0 (m : Nat → Option Nat) : D → D
 | .ptr k g o => match m k with | some j => .ptr j g o | none => .any
 | .ref k g n => match m k with | some j => .ref j g n | none => .any
 | .agg _ => .any
 | .tup _ => .any
 | .fn _ _ => .any
 | .bnd _ _ => .any
 | .kref b k g => match m k with | some j => .kref b j g | none => .any
 | .refo k g o n => match m k with | some j => .refo j g o n | none => .any
 | .any => .any
 | .v x => .v x
 | .sl f z xs => .sl f z xs
 | .fad ds => .fad ds
def ren1 (m : Nat → Option Nat) : D → D
 | .fn f caps => .fn f (caps.map (ren0 m))
 | .bnd f caps => .bnd f (caps.map (ren0 m))
 | d => ren0 m d
def ren2 (m : Nat → Option Nat) : D → D
 | .agg ds => .agg (ds.map (ren1 m))
 | d => ren1 m d
def ren (m : Nat → Option Nat) : D → D
 | .tup ds => .tup (ds.map (ren2 m))
 | d => ren2 m d
def zT (m : Nat → Option Nat) : Slot → Slot
 | .ent e => .ent { e with cells := e.cells.map (ren m) }
 | .free => .free
 | .dead => .dead

structure Tr (m : Nat → Option Nat) (w : World) (fz : Nat → Prop) (tb : Nat → Nat → Option (Nat × Nat)) (U : Nat → Nat → Prop) (w' : World) (fz' : Nat → Prop) (tb' : Nat → Nat → Option (Nat × Nat)) (U' : Nat → Nat → Prop) : Prop where
 hz : ∀ b, fz b → fz' b
 hh : ∀ b, fz b → zFb w b → w'.heap[b]? = w.heap[b]?
 hU : ∀ k j g, m k = some j → U k g → U' j g
 ht : ∀ k j g p, m k = some j → U k g → tb' j g = some p → tb k g = some p

section
variable {m : Nat → Option Nat} {w w' : World} {fz fz' : Nat → Prop} {tb tb' : Nat → Nat → Option (Nat × Nat)} {U U' : Nat → Nat → Prop}
theorem Tr.ren0 (T : Tr m w fz tb U w' fz' tb' U') {d : D} {u : Value} (h : Rep w fz tb U d u) : Rep w' fz' tb' U' (ren0 m d) u := by
 cases h with
 | fro _ _ h =>
  cases d with
  | any => exact .fro _ _ (.any _)
  | v x => exact .fro _ _ (h.mono T.hz T.hh)
  | agg ds => exact .fro _ _ (.any _)
  | sl f z xs => exact .fro _ _ (h.mono T.hz T.hh)
  | fad ds => exact .fro _ _ (h.mono T.hz T.hh)
  | fn f caps => exact .fro _ _ (.any _)
  | bnd f caps => exact .fro _ _ (.any _)
  | tup ds => exact .fro _ _ (.any _)
  | ref k g n => cases h
  | ptr k g o => cases h
  | kref b k g => cases h
  | refo k g o n => cases h
 | agg => exact .fro _ _ (.any _)
 | tup => exact .fro _ _ (.any _)
 | fn => exact .fro _ _ (.any _)
 | bnd => exact .fro _ _ (.any _)
 | ref k g n u hk h1 h =>
  simp only [AM.ren0]
  split
  ·rename_i j hj; exact .ref j g n u (T.hU k j g hj hk) h1 (fun b c hb => h b c (T.ht k j g _ hj hk hb))
  ·exact .fro _ _ (.any _)
 | ptr k g o u hk h1 h =>
  simp only [AM.ren0]
  split
  ·rename_i j hj; exact .ptr j g o u (T.hU k j g hj hk) h1 (fun b c hb => h b c (T.ht k j g _ hj hk hb))
  ·exact .fro _ _ (.any _)
 | kref b k g u hk h1 h =>
  simp only [AM.ren0]
  split
  ·rename_i j hj; exact .kref b j g u (T.hU k j g hj hk) h1 (fun b c hb => h b c (T.ht k j g _ hj hk hb))
  ·exact .fro _ _ (.any _)
 | refo k g o n u hk h1 h =>
  simp only [AM.ren0]
  split
  ·rename_i j hj; exact .refo j g o n u (T.hU k j g hj hk) h1 (fun b c hb => h b c (T.ht k j g _ hj hk hb))
  ·exact .fro _ _ (.any _)
theorem zAE {α β : Type} {f : α → β} {l : List α} {j : Nat} {y : β} (h : (l.map f)[j]? = some y) : ∃ x, l[j]? = some x ∧ f x = y := by
 rw [List.getElem?_map] at h
 cases hx : l[j]? with
 | none => rw [hx] at h; cases h
 | some x => rw [hx] at h; exact ⟨x, rfl, by simpa using h⟩
theorem Tr.ren1 (T : Tr m w fz tb U w' fz' tb' U') {d : D} {u : Value} (h : Rep w fz tb U d u) : Rep w' fz' tb' U' (ren1 m d) u := by
 cases d with
 | fn f caps =>
  obtain ⟨cs, rfl, hl, hr⟩ := h.fn_inv
  refine .fn f _ cs (by simpa using hl) (fun j d u hd hu => ?_)
  obtain ⟨d0, hd0, rfl⟩ := zAE hd
  exact T.ren0 (hr j d0 u hd0 hu)
 | bnd f caps =>
  obtain ⟨cs, rfl, hl, hr⟩ := h.bnd_inv
  refine .bnd f _ cs (by simpa using hl) (fun j d u hd hu => ?_)
  obtain ⟨d0, hd0, rfl⟩ := zAE hd
  exact T.ren0 (hr j d0 u hd0 hu)
 | _ => exact T.ren0 h
theorem Tr.ren2 (T : Tr m w fz tb U w' fz' tb' U') {d : D} {u : Value} (h : Rep w fz tb U d u) : Rep w' fz' tb' U' (ren2 m d) u := by
 cases d with
 | agg ds =>
  obtain ⟨cs, rfl, hl, hr⟩ := h.agg_inv
  refine .agg _ cs (by simpa using hl) (fun j d u hd hu => ?_)
  obtain ⟨d0, hd0, rfl⟩ := zAE hd
  exact T.ren1 (hr j d0 u hd0 hu)
 | _ => exact T.ren1 h
theorem Tr.ren (T : Tr m w fz tb U w' fz' tb' U') {d : D} {u : Value} (h : Rep w fz tb U d u) : Rep w' fz' tb' U' (ren m d) u := by
 cases d with
 | tup ds =>
  obtain ⟨cs, rfl, hl, hr⟩ := h.tup_inv
  refine .tup _ cs (by simpa using hl) (fun j d u hd hu => ?_)
  obtain ⟨d0, hd0, rfl⟩ := zAE hd
  exact T.ren2 (hr j d0 u hd0 hu)
 | _ => exact T.ren2 h
theorem Tr.entOk (T : Tr m w fz tb U w' fz' tb' U') {e : Ent} {p : Nat × Nat} (h : EntOk w fz tb U e p) (hb : w'.heap[p.1]? = w.heap[p.1]?) : EntOk w' fz' tb' U' { e with cells := e.cells.map (AM.ren m) } p := by
 obtain ⟨cs, o, h1, h0, h2, h3⟩ := h
 refine ⟨cs, o, hb.trans h1, h0, by simpa [zLL] using h2, fun j d hd => ?_⟩
 obtain ⟨d0, hd0, rfl⟩ := zAE hd
 obtain ⟨u, a1, a2, a3⟩ := h3 j d0 hd0
 exact ⟨u, a1, a2, T.ren a3⟩
end

def idx : List Nat → Nat → Nat → Option Nat
 | [], _, _ => none
 | x :: l, k, i => match Nat.beq x k with
  | true => some i
  | false => idx l k (i + 1)
theorem zIE {ks : List Nat} : ∀ {k i j : Nat}, idx ks k i = some j → i ≤ j ∧ ks[j - i]? = some k := by
 induction ks with
 | nil => intro k i j h; cases h
 | cons x l ih =>
  intro k i j h
  simp only [idx] at h
  split at h
  ·rename_i hx
   cases h
   exact ⟨Nat.le_refl _, by simp [Nat.eq_of_beq_eq_true hx]⟩
  ·obtain ⟨h1, h2⟩ := ih h
   refine ⟨by omega, ?_⟩
   rw [show j - i = (j - (i + 1)) + 1 from by omega]
   simpa using h2
abbrev mOf (ks : List Nat) : Nat → Option Nat := fun k => idx ks k 0
theorem zEQ {ks : List Nat} {k j : Nat} (h : mOf ks k = some j) : ks[j]? = some k := by simpa using (zIE h).2
def pick (ks : List Nat) (σ : List Slot) : List Slot := ks.map fun k => zT (mOf ks) (zBH σ k)
def zAZ (ks : List Nat) (ρ : Nat → Nat × Nat) : Nat → Nat × Nat := fun j => ρ (ks.getD j 0)

section
variable {ks : List Nat} {σ : List Slot} {ρ : Nat → Nat × Nat}
theorem zFs {j : Nat} {e : Ent} (h : (pick ks σ)[j]? = some (.ent e)) : ∃ k e0, ks[j]? = some k ∧ σ[k]? = some (.ent e0) ∧ e = { e0 with cells := e0.cells.map (ren (mOf ks)) } ∧ zAZ ks ρ j = ρ k := by
 obtain ⟨k, hk, hs⟩ := zAE h
 cases hg : zBH σ k with
 | free => rw [hg] at hs; cases hs
 | dead => rw [hg] at hs; cases hs
 | ent e0 =>
  rw [hg] at hs
  simp only [zT, Slot.ent.injEq] at hs
  exact ⟨k, e0, hk, zCe hg, hs.symm, by simp [zAZ, List.getD_eq_getElem?_getD, hk]⟩
theorem zAd {j : Nat} (h : live (pick ks σ) j) : ∃ k, ks[j]? = some k ∧ live σ k ∧ zAZ ks ρ j = ρ k := by
 obtain ⟨e, he⟩ := h
 obtain ⟨k, e0, h1, h2, _, h3⟩ := zFs (ρ := ρ) he
 exact ⟨k, h1, ⟨e0, h2⟩, h3⟩
theorem zMH {j k : Nat} (h : ks[j]? = some k) : (pick ks σ)[j]? = some (zT (mOf ks) (zBH σ k)) := by simp [pick, h]
theorem zEa {m : Nat → Option Nat} {s : Slot} {g : Nat} : zPw (zT m s) g ↔ zPw s g := by cases s <;> exact Iff.rfl
theorem zDh {j k g : Nat} (h : ks[j]? = some k) (hu : zBX σ k g) : zBX (pick ks σ) j g := by
 obtain ⟨s, hs, hg⟩ := hu
 refine ⟨_, zMH h, zEa.2 ?_⟩
 rw [zBD, hs]
 exact hg
theorem zHQ {j g : Nat} {p : Nat × Nat} (h : Tb (pick ks σ) (zAZ ks ρ) j g = some p) : ∃ k, ks[j]? = some k ∧ Tb σ ρ k g = some p := by
 obtain ⟨e, he, hg, hp⟩ := Tb.live h
 obtain ⟨k, e0, h1, h2, h3, h4⟩ := zFs (ρ := ρ) he
 refine ⟨k, h1, ?_⟩
 have := Tb.of (ρ := ρ) h2
 rw [← h4, hp] at this
 have hge : e0.gen = e.gen := by rw [h3]
 rw [hge, hg] at this
 exact this
theorem zHj {B : Base} {w : World} (hp : Hp B σ ρ w) (hn : ks.Nodup) (j j' : Nat) (h : live (pick ks σ) j) (h' : live (pick ks σ) j') (he : (zAZ ks ρ j).1 = (zAZ ks ρ j').1) : j = j' := by
 obtain ⟨k, h1, h2, h3⟩ := zAd (ρ := ρ) h
 obtain ⟨k', h1', h2', h3'⟩ := zAd (ρ := ρ) h'
 rw [h3, h3'] at he
 have := hp.inj k k' h2 h2' he
 subst this
 exact (List.getElem?_inj (List.getElem?_eq_some_iff.1 h1).1 hn).1 (h1.trans h1'.symm)

theorem zJv {B B' : Base} {w : World} (hz : ∀ b, Fz B σ ρ w b → Fz B' (pick ks σ) (zAZ ks ρ) w b) :
  Tr (mOf ks) w (Fz B σ ρ w) (Tb σ ρ) (zBX σ) w (Fz B' (pick ks σ) (zAZ ks ρ) w) (Tb (pick ks σ) (zAZ ks ρ)) (zBX (pick ks σ)) where
 hz := hz
 hh := fun _ _ _ => rfl
 hU := fun k j g hm hu => zDh (zEQ hm) hu
 ht := fun k j g p hm _ h => by
  obtain ⟨k', h1, h2⟩ := zHQ h
  rw [zEQ hm] at h1
  cases h1
  exact h2
theorem zFO {B B' : Base} {w : World} (hp : Hp B σ ρ w) (hz : ∀ b, Fz B σ ρ w b → Fz B' (pick ks σ) (zAZ ks ρ) w b) (j : Nat) (e : Ent) (h : (pick ks σ)[j]? = some (.ent e)) :
  EntOk w (Fz B' (pick ks σ) (zAZ ks ρ) w) (Tb (pick ks σ) (zAZ ks ρ)) (zBX (pick ks σ)) e (zAZ ks ρ j) := by
 obtain ⟨k, e0, h1, h2, h3, h4⟩ := zFs (ρ := ρ) h
 rw [h3, h4]
 exact (zJv hz).entOk (hp.ent k e0 h2) rfl
end

def zAU (w : World) (N0 : Nat → Prop) (ext : List Slot) (ρ : Nat → Nat × Nat) : Base := ⟨w, fun b => ∃ k, live ext k ∧ (ρ k).1 = b, N0, ext, ρ, w.heap.size⟩

def Spec (P : Program) (f : Nat) (args : List D) (ext : List Slot) (res : D) (out : List Slot) : Prop :=
 ∀ (N0 : Nat → Prop) (ρ : Nat → Nat × Nat) (w : World) (vs : Array Value), Hp (zAU w N0 ext ρ) ext ρ w → vs.size = args.length →
  (∀ (j : Nat) (d : D) (u : Value), args[j]? = some d → vs[j]? = some u → Rp (zAU w N0 ext ρ) ext ρ w d u) →
  Calls P f vs w (fun e w' => ∃ v ρ', e = .returned v ∧ Hp (zAU w N0 ext ρ) out ρ' w' ∧ Rp (zAU w N0 ext ρ) out ρ' w' res v)

def zIF (w : World) (b : Nat) : Prop := w.heap[b]? = some (.deferred (some []))
theorem zLX {w : World} {b : Nat} (h : zFb w b) : ¬ zIF w b := by
 obtain ⟨c, t, f, hc⟩ := h
 intro h; unfold zIF at h; rw [hc] at h; cases h
theorem zOo {P : Program} {fn : Func} {B : Base} {tmps : Array Value} {R : Ending → World → Prop} (Ds : List Nat) : ∀ (w : World), Ds.Nodup → (∀ D ∈ Ds, B.w0.heap.size ≤ D ∧ w.heap[D]? = some (.deferred (some []))) →
  (∀ w', w'.os = w.os → w'.tape = w.tape → w'.output = w.output → w'.heap.size = w.heap.size → (∀ b, b < B.w0.heap.size ∨ ¬ zIF w b → w'.heap[b]? = w.heap[b]?) → LeavesIn (FW none) 0 P fn tmps R [] .returning w') →
  LeavesInM (FW none) 0 P fn tmps R (Ds.map zFH) .returning w := by
 induction Ds with
 | nil => intro w _ _ h; exact h w rfl rfl rfl rfl (fun _ _ => rfl)
 | cons D Ds ih =>
  intro w hn hD h
  have h0 := hD D List.mem_cons_self
  have hnd := List.nodup_cons.1 hn
  refine ⟨by simp, .inl ⟨D, _, rfl, run_takeDeferred h0.2, ?_⟩⟩
  refine ih _ hnd.2 (fun D' hD' => ⟨(hD D' (List.mem_cons_of_mem _ hD')).1, ?_⟩) (fun w' e1 e2 e3 e4 e5 => ?_)
  ·rw [World.putObj_heap_other (by rintro rfl; exact hnd.1 hD')]
   exact (hD D' (List.mem_cons_of_mem _ hD')).2
  ·have hpo : ∀ b, b < B.w0.heap.size ∨ ¬ zIF w b → (w.putObj D (.deferred none)).heap[b]? = w.heap[b]? := fun b hb => by
    refine World.putObj_heap_other ?_
    rintro rfl
    rcases hb with hb | hb
    ·have := h0.1; omega
    ·exact hb h0.2
   refine h w' e1 e2 e3 (by rw [e4]; simp [World.putObj]) (fun b hb => ?_)
   rw [e5 b (hb.imp id (fun hc => by unfold zIF; rw [hpo b (.inr hc)]; exact hc)), hpo b hb]

theorem Hp.marksGone {B : Base} {σ : List Slot} {ρ : Nat → Nat × Nat} {w w' : World} (h : Hp B σ ρ w) (e1 : w'.os = w.os) (e2 : w'.tape = w.tape) (e3 : w'.output = w.output) (e4 : w'.heap.size = w.heap.size)
  (e5 : ∀ b, b < B.w0.heap.size ∨ ¬ zIF w b → w'.heap[b]? = w.heap[b]?) : Hp B σ ρ w' ∧ ∀ {d u}, Rp B σ ρ w d u → Rp B σ ρ w' d u := by
 have hz : ∀ b, Fz B σ ρ w b → Fz B σ ρ w' b := fun b hb => ⟨by rw [e4]; exact hb.1, hb.2⟩
 have hr : ∀ {d u}, Rp B σ ρ w d u → Rp B σ ρ w' d u := fun hd => hd.mono hz (fun b _ hc => e5 b (.inr (zLX hc))) (fun _ _ x => x) (fun _ _ _ _ x => x)
 refine ⟨{ ent := fun k e he => ?_, inj := h.inj, nf := h.nf, own := h.own, size := by rw [e4]; exact h.size, os := e1.trans h.os, tape := e2.trans h.tape, output := e3.trans h.output, base := fun b hb hE => by rw [e5 b (.inl hb)]; exact h.base b hb hE, n0 := h.n0, m0 := h.m0, hist := h.hist }, hr⟩
 obtain ⟨cs, o, h1, h0, h2, h3⟩ := h.ent k e he
 refine ⟨cs, o, by rw [e5 _ (.inr (fun hd => by unfold zIF at hd; rw [h1] at hd; cases hd; exact zCu h0))]; exact h1, h0, h2, fun j d hd => ?_⟩
 obtain ⟨u, a1, a2, a3⟩ := h3 j d hd
 exact ⟨u, a1, a2, hr a3⟩

def zFA (P : Program) (st : St) : ResultVar → Option (Prop × D × List Nat)
 | .tmp t => some (True, zDn st.fr t, [])
 | .cell a t => zES (tyI P t) (zDn st.fr a) st.σ
def zDq (P : Program) (st : St) : List ResultVar → Option (Prop × List D)
 | [] => some (True, [])
 | r :: rs =>
  match zFA P st r with
  | none => none
  | some (c, d, _) =>
   match zDq P st rs with
   | none => none
   | some (c', ds) => some (c ∧ c', d :: ds)
def zHK (P : Program) (fn : Func) (st : St) : Option (Prop × D) :=
 match zDq P st fn.results.toList with
 | none => none
 | some (c, ds) =>
  match ds with
  | [d] => some (c, d)
  | ds => some (c, .tup ds)

theorem zJx {P : Program} {B : Base} {st : St} {ρ : Nat → Nat × Nat} {a : Act} {w : World} (hp : Hp B st.σ ρ w) (hf : FrOk B st ρ a.tmps w) {r : ResultVar} {c : Prop} {d : D} {rd : List Nat}
  (h : zFA P st r = some (c, d, rd)) (hc : c) : ∃ v, Rp B st.σ ρ w d v ∧ (match r with | .tmp t => (pure (a.tmps.getD t undef) : Sem Value) | .cell x t => do loadVar t (← asAddr (a.tmps.getD x undef))).run P w = .ok v w := by
 cases r with
 | tmp t =>
  simp only [zFA, Option.some.injEq, Prod.mk.injEq] at h
  obtain ⟨rfl, rfl, rfl⟩ := h
  exact ⟨_, hf.eval (.tmp t), rfl⟩
 | cell x t =>
  simp only [zFA] at h
  have hv := hf.eval (.tmp x)
  simp only [St.eval, Act.eval] at hv
  -- the address
  have ha : ∃ ad, a.tmps.getD x undef = .pointer (some ad) := by
   unfold zES at h
   split at h
   ·cases h
   ·split at h
    ·rename_i i hi dd k g o hdd
     split at h
     ·rename_i e he
      split at h
      ·rename_i hg
       have hg' : e.gen = g := Nat.eq_of_beq_eq_true hg
       rw [hdd] at hv
       exact ⟨_, hv.ptr_inv.2 _ _ (hg' ▸ Tb.of (zCe (zCf he).1))⟩
      ·cases h
     ·cases h
    ·rename_i ds hdd
     rw [hdd] at hv
     have := hv.fad_inv
     generalize a.tmps.getD x undef = u at this
     cases this with
     | fad _ b o g _ _ _ => exact ⟨_, rfl⟩
    ·cases h
  obtain ⟨ad, had⟩ := ha
  obtain ⟨v, h1, h2⟩ := zGy h hc hp hv had
  refine ⟨v, h2, ?_⟩
  simp only [Bind.bind, zGO, had, asAddr, Pure.pure, Sem.run]
  exact h1


def zMo (tmps : Array Value) : ResultVar → Sem Value
 | .tmp t => pure (tmps.getD t undef)
 | .cell x t => do loadVar t (← asAddr (tmps.getD x undef))
theorem zMb (fn : Func) (tmps : Array Value) : results fn tmps = (do let vs ← fn.results.mapM (zMo tmps); pure (if h : vs.size = 1 then vs[0] else .tuple vs)) := by
 unfold results
 congr 1
theorem zIz {P : Program} {B : Base} {st : St} {ρ : Nat → Nat × Nat} {a : Act} {w : World} (hp : Hp B st.σ ρ w) (hf : FrOk B st ρ a.tmps w) {r : ResultVar} {c : Prop} {d : D} {rd : List Nat}
  (h : zFA P st r = some (c, d, rd)) (hc : c) : ∃ v, Rp B st.σ ρ w d v ∧ (zMo a.tmps r).run P w = .ok v w := by
 obtain ⟨v, h1, h2⟩ := zJx hp hf h hc
 refine ⟨v, h1, ?_⟩
 cases r <;> exact h2
theorem zKM {P : Program} {B : Base} {st : St} {ρ : Nat → Nat × Nat} {a : Act} {w : World} (hp : Hp B st.σ ρ w) (hf : FrOk B st ρ a.tmps w) (rs : List ResultVar) : ∀ {c : Prop} {ds : List D},
  zDq P st rs = some (c, ds) → c → ∃ vs : List Value, (rs.mapM (zMo a.tmps)).run P w = .ok vs w ∧
   vs.length = ds.length ∧ ∀ (j : Nat) (d : D) (u : Value), ds[j]? = some d → vs[j]? = some u → Rp B st.σ ρ w d u := by
 induction rs with
 | nil =>
  intro c ds h hc
  simp only [zDq, Option.some.injEq, Prod.mk.injEq] at h
  obtain ⟨rfl, rfl⟩ := h
  exact ⟨[], rfl, rfl, fun j d u hd => by simp at hd⟩
 | cons r rs ih =>
  intro c ds h hc
  simp only [zDq] at h
  cases h1 : zFA P st r with
  | none => rw [h1] at h; cases h
  | some x =>
   obtain ⟨c1, d1, rd⟩ := x
   rw [h1] at h
   simp only at h
   cases h2 : zDq P st rs with
   | none => rw [h2] at h; cases h
   | some y =>
    obtain ⟨c2, ds2⟩ := y
    rw [h2] at h
    simp only [Option.some.injEq, Prod.mk.injEq] at h
    obtain ⟨rfl, rfl⟩ := h
    obtain ⟨v, hv, hr⟩ := zIz hp hf h1 hc.1
    obtain ⟨vs, hvs, hl, hall⟩ := ih h2 hc.2
    refine ⟨v :: vs, ?_, by simp [hl], fun j d u hd hu => ?_⟩
    ·rw [List.mapM_cons, Sem.run_bind, hr]
     simp only [Result.andThen]
     rw [Sem.run_bind, hvs]
     rfl
    ·cases j with
     | zero => simp at hd hu; subst hd hu; exact hv
     | succ j => exact hall j d u (by simpa using hd) (by simpa using hu)

theorem zMg {P : Program} {fn : Func} {B : Base} {st : St} {ρ : Nat → Nat × Nat} {a : Act} {w : World} (hp : Hp B st.σ ρ w) (hf : FrOk B st ρ a.tmps w) {c : Prop} {d : D}
  (h : zHK P fn st = some (c, d)) (hc : c) : ∃ v, (results fn a.tmps).run P w = .ok v w ∧ Rp B st.σ ρ w d v := by
 unfold zHK at h
 cases h1 : zDq P st fn.results.toList with
 | none => rw [h1] at h; cases h
 | some x =>
  obtain ⟨c1, ds⟩ := x
  rw [h1] at h
  simp only at h
  have hc1 : c1 := by
   split at h <;> (simp only [Option.some.injEq, Prod.mk.injEq] at h; rw [h.1]; exact hc)
  obtain ⟨vs, hrun, hl, hall⟩ := zKM hp hf _ h1 hc1
  have hr : (results fn a.tmps).run P w = .ok (if h : vs.toArray.size = 1 then vs.toArray[0] else .tuple vs.toArray) w := by
   rw [zMb, Array.mapM_eq_mapM_toList, Sem.run_bind, Sem.run_map, hrun]
   rfl
  refine ⟨_, hr, ?_⟩
  split at h
  ·rename_i d0
   simp only [Option.some.injEq, Prod.mk.injEq] at h
   obtain ⟨_, rfl⟩ := h
   have hl1 : vs.toArray.size = 1 := by simpa using hl
   rw [dif_pos hl1]
   refine hall 0 _ _ rfl ?_
   simp [List.getElem?_eq_getElem (show 0 < vs.length by simp at hl1; omega)]
  ·rename_i hne
   simp only [Option.some.injEq, Prod.mk.injEq] at h
   obtain ⟨_, rfl⟩ := h
   rw [dif_neg (by
    intro h1
    have : ds.length = 1 := by simp at h1; omega
    match ds, this with
    | [d], _ => exact hne d rfl)]
   exact .tup _ _ (by simp [hl]) (fun j d u hd hu => hall j d u hd (by simpa using hu))

def zIv (P : Program) (fn : Func) (n : Nat) (res : D) (out : List Slot) (e : Exit) (st : St) : Prop :=
 (e = .normal ∨ e = .ret) ∧ ∃ (ks : List Nat) (c : Prop) (d : D), zHK P fn st = some (c, d) ∧ c ∧ ks.Nodup ∧ (∀ k, k < n → ks[k]? = some k) ∧ pick ks st.σ = out ∧ leD (ren (mOf ks) d) res

theorem Hp.pickEnd {B : Base} {σ : List Slot} {ρ : Nat → Nat × Nat} {w : World} (hp : Hp B σ ρ w) {ks : List Nat} (hn : ks.Nodup) (hid : ∀ k, k < B.σ0.length → ks[k]? = some k) : Hp B (pick ks σ) (zAZ ks ρ) w where
 ent := fun j e he => zFO hp (fun b hb => ⟨hb.1, hb.2.1, fun j hj => by obtain ⟨k, _, h2, h3⟩ := zAd (ρ := ρ) hj; rw [h3]; exact hb.2.2 k h2⟩) j e he
 inj := fun j j' h h' he => zHj hp hn j j' h h' he
 nf := fun j hj => by obtain ⟨k, _, h2, h3⟩ := zAd (ρ := ρ) hj; rw [h3]; exact hp.nf k h2
 own := fun j hj => by obtain ⟨k, _, h2, h3⟩ := zAd (ρ := ρ) hj; rw [h3]; exact hp.own k h2
 size := hp.size
 os := hp.os
 tape := hp.tape
 output := hp.output
 base := hp.base
 n0 := hp.n0
 m0 := hp.m0
 hist := fun k g hk => by
  have hlt : k < B.σ0.length := by obtain ⟨s, hs, _⟩ := hk; exact (List.getElem?_eq_some_iff.1 hs).1
  obtain ⟨h1, h2⟩ := hp.hist k g hk
  refine ⟨zDh (hid k hlt) h1, fun p hp' => ?_⟩
  obtain ⟨k', hk', ht⟩ := zHQ hp'
  rw [hid k hlt] at hk'
  cases hk'
  exact h2 p ht

theorem zLU {P : Program} {f : Nat} {fn : Func} {c : Code} {args : List D} {ext : List Slot} {res : D} {out : List Slot} (hf : P.funcs[f]? = some fn) (hb : fn.body = some c)
  (h : AWP P none c ⟨args ++ List.replicate (fn.ntmps - args.length) (.v undef), ext⟩ (zIv P fn ext.length res out)) : Spec P f args ext res out := by
 intro N0 ρ w vs hp hsz hargs
 have hci : CallsIn (FW none) 0 P f vs w (fun e w' => ∃ v ρ', e = .returned v ∧ Hp (zAU w N0 ext ρ) out ρ' w' ∧ Rp (zAU w N0 ext ρ) out ρ' w' res v) := by
  refine callsIn_of_wp_marks hf hb trivial ?_ rfl
  refine h (zAU w N0 ext ρ) _ w ⟨ρ, hp, ⟨by simp [hsz], fun t d hd => ?_⟩, [], rfl, List.nodup_nil, fun D hD => by cases hD⟩ _ (fun e st' a' w' hK hr => ?_)
  ·by_cases hlt : t < args.length
   ·rw [List.getElem?_append_left hlt] at hd
    have hlt' : t < vs.size := by omega
    exact ⟨vs[t], by simp [Array.getElem?_append, hlt'], hargs t d _ hd (by simp [hlt'])⟩
   ·rw [List.getElem?_append_right (by omega)] at hd
    have hlt2 : t - args.length < fn.ntmps - args.length := by have := (List.getElem?_eq_some_iff.1 hd).1; simpa using this
    rw [List.getElem?_replicate, if_pos hlt2] at hd
    cases hd
    refine ⟨undef, ?_, .fro _ _ (.v _)⟩
    rw [Array.getElem?_append, if_neg (by omega), Array.getElem?_replicate, if_pos (by rw [hsz]; omega)]
  ·obtain ⟨he, ks, cnd, d, hres, hcnd, hn, hid, hpick, hren⟩ := hK
   obtain ⟨ρ', hp', hf', Ds, hd', hnd, hDs⟩ := hr
   have hgo : LeavesInM (FW none) 0 P fn a'.tmps (fun e w' => ∃ v ρ', e = .returned v ∧ Hp (zAU w N0 ext ρ) out ρ' w' ∧ Rp (zAU w N0 ext ρ) out ρ' w' res v) a'.defers .returning w' := by
    rw [hd']
    refine zOo (B := zAU w N0 ext ρ) Ds w' hnd hDs (fun w2 e1 e2 e3 e4 e5 => ?_)
    obtain ⟨hp2, hr2⟩ := hp'.marksGone e1 e2 e3 e4 e5
    obtain ⟨v, hrun, hv⟩ := zMg hp2 (a := a') ⟨hf'.1, fun t d hd => let ⟨u, x, y⟩ := hf'.2 t d hd; ⟨u, x, hr2 y⟩⟩ hres hcnd
    refine ⟨v, hrun, v, zAZ ks ρ', rfl, ?_, ?_⟩
    ·rw [← hpick]; exact hp2.pickEnd hn hid
    ·rw [← hpick]
     refine hren.rep ?_
     exact (zJv (fun b hb => ⟨hb.1, hb.2.1, fun j hj => by obtain ⟨k, _, h2, h3⟩ := zAd (ρ := ρ') hj; rw [h3]; exact hb.2.2 k h2⟩)).ren hv
   rcases he with rfl | rfl
   ·exact hgo
   ·exact hgo
 exact callsIn_wide.1 hci

theorem zJj (ks : List Nat) : ∀ (σ : List Slot) (os : List Slot) (k : Nat), ks.Nodup →
  (zAS σ (ks.zip os))[k]? = (match (mOf ks k).bind (fun j => os[j]?) with | some s => if k < σ.length then some s else none | none => σ[k]?) := by
 have gen : ∀ (ks : List Nat) (σ os : List Slot) (k i : Nat) (os0 : List Slot), ks.Nodup → os = os0.drop i →
   (zAS σ (ks.zip os))[k]? = (match (idx ks k i).bind (fun j => os0[j]?) with | some s => if k < σ.length then some s else none | none => σ[k]?) := by
  intro ks
  induction ks with
  | nil => intro σ os k i os0 _ _; simp [zAS, idx]
  | cons x l ih =>
   intro σ os k i os0 hn ho
   have hn' := List.nodup_cons.1 hn
   cases os with
   | nil =>
    simp only [List.zip_nil_right, zAS]
    have hle : os0.length ≤ i := by
     have := congrArg List.length ho
     simp at this; omega
    cases hx : idx (x :: l) k i with
    | none => rfl
    | some j =>
     have := (zIE hx).1
     simp [List.getElem?_eq_none (show os0.length ≤ j by omega)]
   | cons s os =>
    have hs : os0[i]? = some s := by
     have := congrArg (fun l => l[0]?) ho
     simpa [List.getElem?_drop] using this.symm
    have ho' : os = os0.drop (i + 1) := by
     have := congrArg (List.drop 1) ho
     simpa [List.drop_drop, Nat.add_comm] using this
    simp only [List.zip_cons_cons, zAS]
    rw [ih (σ.set x s) os k (i + 1) os0 hn'.2 ho']
    simp only [idx]
    by_cases hxk : x = k
    ·subst hxk
     have hnone : idx l x (i + 1) = none := by
      cases hx : idx l x (i + 1) with
      | none => rfl
      | some j =>
       exfalso
       exact hn'.1 (List.mem_of_getElem? (zIE hx).2)
     simp only [hnone, Option.bind_none, Nat.beq_refl, Option.bind_some, hs, List.getElem?_set, if_true]
    ·have hb : Nat.beq x k = false := by
      cases hb : Nat.beq x k with
      | false => rfl
      | true => exact absurd (Nat.eq_of_beq_eq_true hb) hxk
     simp only [hb, List.length_set, List.getElem?_set, if_neg hxk]
 intro σ os k hn
 exact gen ks σ os k 0 os hn (by simp)

def zy (kl : List Nat) : Nat → Option Nat := fun j => kl[j]?
def zf (kl : List Nat) (out : List Slot) : List (Nat × Slot) := kl.zip (out.map (zT (zy kl)))
def zDg (kl : List Nat) (n : Nat) (ρ ρ' : Nat → Nat × Nat) : Nat → Nat × Nat := fun k => match mOf kl k with | some j => if j < n then ρ' j else ρ k | none => ρ k

theorem zDJ {kl : List Nat} (hn : kl.Nodup) {j k : Nat} (h : kl[j]? = some k) : mOf kl k = some j := by
 have gen : ∀ (l : List Nat) (i j : Nat), l.Nodup → l[j]? = some k → idx l k i = some (i + j) := by
  intro l
  induction l with
  | nil => intro i j _ h; simp at h
  | cons x l ih =>
   intro i j hn h
   have hn' := List.nodup_cons.1 hn
   cases j with
   | zero => simp at h; subst h; simp [idx]
   | succ j =>
    have hx : x ≠ k := by rintro rfl; exact hn'.1 (List.mem_of_getElem? (by simpa using h))
    have hb : Nat.beq x k = false := by
     cases hb : Nat.beq x k with
     | false => rfl
     | true => exact absurd (Nat.eq_of_beq_eq_true hb) hx
    simp only [idx, hb]
    rw [ih (i + 1) j hn'.2 (by simpa using h)]
    congr 1; omega
 simpa using gen kl 0 j hn h
theorem zQE {kl : List Nat} {k : Nat} (h : k ∉ kl) : mOf kl k = none := by
 cases hx : mOf kl k with
 | none => rfl
 | some j => exact absurd (List.mem_of_getElem? (zEQ hx)) h

theorem zPM {P : Program} {ρ : Operand → Value} {o : Oper} {c : Call} {fo : Operand} {f : Nat} {cs : Array Value} {w : World} (ho : o.op = .call c) (hcal : c.callee = .value fo) (hf : ρ fo = .func (.func f) #[] cs)
  (he : ∀ args w, (callFunc f args).run P w = .ok (.enter f args) w) : (execOp ρ o).run P w = .ok (.enter f (c.args.map ρ ++ cs)) w := by
 simp only [execOp, ho, resolve, hcal, Deferred.ofValue, hf, Sem.run_bind, Pure.pure, Sem.run, Result.andThen, invoke]
 rw [he]
 simp

theorem zON {P : Program} {ρ : Operand → Value} {o : Oper} {c : Call} {fo : Operand} {f : Nat} {cs : Array Value} {w : World} (ho : o.op = .call c) (hcal : c.callee = .value fo) (hf : ρ fo = .func (.func f) cs #[])
  (he : ∀ args w, (callFunc f args).run P w = .ok (.enter f args) w) : (execOp ρ o).run P w = .ok (.enter f (cs ++ c.args.map ρ)) w := by
 simp only [execOp, ho, resolve, hcal, Deferred.ofValue, hf, Sem.run_bind, Pure.pure, Sem.run, Result.andThen, invoke]
 rw [he]
 simp

def zFp (B : Base) (σ : List Slot) (ρ : Nat → Nat × Nat) (ks : List Nat) : Nat → Prop := fun b => B.N0 b ∨ ∃ k, live σ k ∧ k ∉ ks ∧ (ρ k).1 = b

theorem zSP {B : Base} {σ : List Slot} {ρ : Nat → Nat × Nat} {w : World} {ks : List Nat} (hp : Hp B σ ρ w) (hnks : ks.Nodup) :
  Hp (zAU w (zFp B σ ρ ks) (pick ks σ) (zAZ ks ρ)) (pick ks σ) (zAZ ks ρ) w ∧
  Tr (mOf ks) w (Fz B σ ρ w) (Tb σ ρ) (zBX σ) w (Fz (zAU w (zFp B σ ρ ks) (pick ks σ) (zAZ ks ρ)) (pick ks σ) (zAZ ks ρ) w) (Tb (pick ks σ) (zAZ ks ρ)) (zBX (pick ks σ)) := by
 have hz : ∀ b, Fz B σ ρ w b → Fz (zAU w (zFp B σ ρ ks) (pick ks σ) (zAZ ks ρ)) (pick ks σ) (zAZ ks ρ) w b := fun b hb =>
  ⟨hb.1, fun h => by rcases h with h | ⟨k, h1, _, h3⟩; exact hb.2.1 h; exact hb.2.2 k h1 h3, fun j hj => by obtain ⟨k, _, h2, h3⟩ := zAd (ρ := ρ) hj; rw [h3]; exact hb.2.2 k h2⟩
 have hcp : Hp (zAU w (zFp B σ ρ ks) (pick ks σ) (zAZ ks ρ)) (pick ks σ) (zAZ ks ρ) w := {
  ent := fun j e he => zFO hp hz j e he
  inj := fun j j' h h' he => zHj hp hnks j j' h h' he
  nf := fun j hj hN => by
   obtain ⟨k, hk1, hk2, hk3⟩ := zAd (ρ := ρ) hj
   rw [hk3] at hN
   rcases hN with hN | ⟨k', h1, h2, h3⟩
   ·exact hp.nf k hk2 hN
   ·have := hp.inj k' k h1 hk2 h3
    subst this
    exact h2 (List.mem_of_getElem? hk1)
  own := fun j hj => .inl ⟨j, hj, rfl⟩
  size := Nat.le_refl _
  os := rfl
  tape := rfl
  output := rfl
  base := fun _ _ _ => rfl
  n0 := fun b hb => by
   rcases hb with hb | ⟨k, h1, _, rfl⟩
   ·exact Nat.lt_of_lt_of_le (hp.n0 b hb) hp.size
   ·exact hp.lt h1
  m0 := Nat.le_refl _
  hist := fun k g hk => ⟨hk, fun _ h => h⟩ }
 exact ⟨hcp, zJv (ks := ks) hz⟩

theorem zQz {B : Base} {σ : List Slot} {ρ ρ' : Nat → Nat × Nat} {w w' : World} {ks : List Nat} {slot : Nat} {out : List Slot} (hp : Hp B σ ρ w)
  (hn : (ks ++ [slot]).Nodup) (hks : ∀ k ∈ ks, k < σ.length) (hfree : out.length ≤ ks.length ∨ σ[slot]? = some .free)
  (hlen : ks.length ≤ out.length) (hlen' : out.length ≤ ks.length + 1)
  (hp' : Hp (zAU w (zFp B σ ρ ks) (pick ks σ) (zAZ ks ρ)) out ρ' w') :
  Move B σ ρ w (zAS σ (zf (ks ++ [slot]) out)) (zDg (ks ++ [slot]) out.length ρ ρ') w' ∧
  Hp B (zAS σ (zf (ks ++ [slot]) out)) (zDg (ks ++ [slot]) out.length ρ ρ') w' ∧
  Tr (zy (ks ++ [slot])) w' (Fz (zAU w (zFp B σ ρ ks) (pick ks σ) (zAZ ks ρ)) out ρ' w') (Tb out ρ') (zBX out) w'
   (Fz B (zAS σ (zf (ks ++ [slot]) out)) (zDg (ks ++ [slot]) out.length ρ ρ') w') (Tb (zAS σ (zf (ks ++ [slot]) out)) (zDg (ks ++ [slot]) out.length ρ ρ')) (zBX (zAS σ (zf (ks ++ [slot]) out))) := by
 have hnks : ks.Nodup := (List.nodup_append.1 hn).1
 have hslot : slot ∉ ks := fun h => by
  have := (List.nodup_append.1 hn).2.2 slot h slot (by simp)
  exact this rfl
 have hσ : ∀ k, k = slot ∨ k ∈ ks → σ[k]? = σ[k]? := fun _ _ => rfl
 -- behind the call
 let kl := ks ++ [slot]
 let σ' := zAS σ (zf kl out)
 let ρc := zDg kl out.length ρ ρ'
 have hσ' : ∀ k, σ'[k]? = (match (mOf kl k).bind (fun j => (out.map (zT (zy kl)))[j]?) with | some s => if k < σ.length then some s else none | none => σ[k]?) := fun k => zJj kl σ _ k hn
 have hlast : ∀ j : Nat, kl[j]? = some slot → j = ks.length := fun j hj => by
  have h2 : kl[ks.length]? = some slot := by simp [kl]
  exact (List.getElem?_inj (List.getElem?_eq_some_iff.1 hj).1 hn).1 (hj.trans h2.symm)
 -- a key that has been handed zQz
 have hin : ∀ (k j : Nat) (s : Slot), kl[j]? = some k → out[j]? = some s → σ'[k]? = some (zT (zy kl) s) ∧ ρc k = ρ' j := by
  intro k j s hj hs
  have hm : mOf kl k = some j := zDJ hn hj
  have hlt : j < out.length := (List.getElem?_eq_some_iff.1 hs).1
  refine ⟨?_, by show zDg kl out.length ρ ρ' k = ρ' j; unfold zDg; rw [hm]; exact if_pos hlt⟩
  rw [hσ' k, hm]
  simp only [Option.bind_some, List.getElem?_map, hs, Option.map_some]
  rw [if_pos]
  by_cases hks' : k ∈ ks
  ·exact hks k hks'
  ·have hk : k = slot := by
    have := List.mem_of_getElem? hj
    simp only [kl, List.mem_append, List.mem_singleton] at this
    exact this.resolve_left hks'
   subst hk
   have hjl := hlast j hj
   have hfree' : σ[k]? = some .free := hfree.resolve_left (by omega)
   exact (List.getElem?_eq_some_iff.1 hfree').1
 -- a key that has not
 have hout : ∀ k : Nat, (∀ j : Nat, kl[j]? = some k → out.length ≤ j) → σ'[k]? = σ[k]? ∧ ρc k = ρ k := by
  intro k hk
  rw [hσ' k]
  cases hm : mOf kl k with
  | none => exact ⟨by simp, by show zDg kl out.length ρ ρ' k = ρ k; unfold zDg; rw [hm]⟩
  | some j =>
   have := hk j (zEQ hm)
   refine ⟨?_, by show zDg kl out.length ρ ρ' k = ρ k; unfold zDg; rw [hm]; exact if_neg (by omega)⟩
   simp [List.getElem?_eq_none (show out.length ≤ j by omega)]
 have hcases : ∀ k : Nat, (∃ (j : Nat) (s : Slot), kl[j]? = some k ∧ out[j]? = some s) ∨ (∀ j : Nat, kl[j]? = some k → out.length ≤ j) := by
  intro k
  cases hm : mOf kl k with
  | none =>
   refine .inr (fun j hj => ?_)
   rw [zDJ hn hj] at hm; cases hm
  | some j =>
   by_cases hlt : j < out.length
   ·exact .inl ⟨j, out[j], zEQ hm, List.getElem?_eq_getElem hlt⟩
   ·refine .inr (fun j' hj' => ?_)
    have := zDJ hn hj'
    rw [hm] at this; cases this; omega
 have hnotks : ∀ k : Nat, (∀ j : Nat, kl[j]? = some k → out.length ≤ j) → k ∉ ks := by
  intro k hk hmem
  obtain ⟨j, hj, he⟩ := List.mem_iff_getElem.1 hmem
  have := hk j (by simp [kl, List.getElem?_append_left hj, List.getElem?_eq_getElem hj, he])
  omega
 have hgenren : ∀ {k j : Nat} {e : Ent}, kl[j]? = some k → (∃ s, out[j]? = some s) → σ'[k]? = some (.ent e) → ∃ e0, out[j]? = some (.ent e0) ∧ e = { e0 with cells := e0.cells.map (ren (zy kl)) } := by
  intro k j e hj ⟨s, hs⟩ he
  rw [(hin k j s hj hs).1] at he
  cases s with
  | free => cases he
  | dead => cases he
  | ent e0 => simp only [zT, Option.some.injEq, Slot.ent.injEq] at he; exact ⟨e0, hs, he.symm⟩
 have hlive' : ∀ k : Nat, live σ' k → (∃ j : Nat, kl[j]? = some k ∧ live out j ∧ ρc k = ρ' j) ∨ ((∀ j : Nat, kl[j]? = some k → out.length ≤ j) ∧ live σ k ∧ ρc k = ρ k) := by
  rintro k ⟨e, he⟩
  rcases hcases k with ⟨j, s, hj, hs⟩ | hk
  ·obtain ⟨e0, h1, _⟩ := hgenren hj ⟨s, hs⟩ he
   exact .inl ⟨j, hj, ⟨e0, h1⟩, (hin k j s hj hs).2⟩
  ·exact .inr ⟨hk, ⟨e, by rw [← (hout k hk).1]; exact he⟩, (hout k hk).2⟩
 have hTb' : ∀ {k j g : Nat} {p : Nat × Nat}, kl[j]? = some k → (∃ s, out[j]? = some s) → Tb σ' ρc k g = some p → Tb out ρ' j g = some p := by
  intro k j g p hj ⟨s, hs⟩ h
  obtain ⟨e, he, hg, hpp⟩ := Tb.live h
  obtain ⟨e0, h1, h2⟩ := hgenren hj ⟨s, hs⟩ he
  have := Tb.of (ρ := ρ') h1
  have hge : e0.gen = e.gen := by rw [h2]
  rw [hge, hg] at this
  rw [this, ← (hin k j s hj hs).2, hpp]
 have hkey : ∀ k j : Nat, ks[j]? = some k → kl[j]? = some k ∧ ∃ s, out[j]? = some s := by
  intro k j hj
  have hlt := (List.getElem?_eq_some_iff.1 hj).1
  exact ⟨by simp [kl, List.getElem?_append_left hlt, hj], out[j], List.getElem?_eq_getElem (by omega)⟩
 have hmove : Move B σ ρ w σ' ρc w' := {
  size := hp'.size
  keep := fun b hb hnl => hp'.base b hb (fun ⟨j, hj, he⟩ => by
   obtain ⟨k, _, h2, h3⟩ := zAd (ρ := ρ) hj
   exact hnl k h2 (by rw [← h3]; exact he))
  lives := fun k hk => by
   rcases hlive' k hk with ⟨j, hj, hl, hρ⟩ | ⟨_, hl, hρ⟩
   ·rw [hρ]
    rcases hp'.own j hl with ⟨j', hj', he⟩ | h
    ·obtain ⟨k', _, h2, h3⟩ := zAd (ρ := ρ) hj'
     exact .inl ⟨k', h2, by rw [← he, h3]⟩
    ·exact .inr h
   ·exact .inl ⟨k, hl, by rw [hρ]⟩
  uses := fun k g hu => by
   rcases hcases k with ⟨j, s, hj, hs⟩ | hk
   ·by_cases hks' : k ∈ ks
    ·obtain ⟨j2, hlt2, he2⟩ := List.mem_iff_getElem.1 hks'
     have hj2 : ks[j2]? = some k := by rw [List.getElem?_eq_getElem hlt2, he2]
     have hjj : j = j2 := by
      have := zDJ hn hj
      rw [zDJ hn (hkey k j2 hj2).1] at this
      exact (Option.some.inj this).symm
     subst hjj
     obtain ⟨s', hs', hg⟩ := (hp'.hist j g (zDh hj2 hu)).1
     rw [hs] at hs'; cases hs'
     exact ⟨_, (hin k j s hj hs).1, zEa.2 hg⟩
    ·have hk : k = slot := by
      have := List.mem_of_getElem? hj
      simp only [kl, List.mem_append, List.mem_singleton] at this
      exact this.resolve_left hks'
     subst hk
     exfalso
     have hjl := hlast j hj
     have hlt : j < out.length := (List.getElem?_eq_some_iff.1 hs).1
     have hfree' : σ[k]? = some .free := hfree.resolve_left (by omega)
     obtain ⟨s', hs', hg⟩ := hu
     rw [hσ k (.inl rfl), hfree'] at hs'
     cases hs'
     exact hg
   ·obtain ⟨s', hs', hg⟩ := hu
    exact ⟨s', by rw [(hout k hk).1]; exact hs', hg⟩
  tabs := fun k g p hu h => by
   rcases hcases k with ⟨j, s, hj, hs⟩ | hk
   ·have h1 := hTb' hj ⟨s, hs⟩ h
    by_cases hks' : k ∈ ks
    ·obtain ⟨j2, hlt2, he2⟩ := List.mem_iff_getElem.1 hks'
     have hj2 : ks[j2]? = some k := by rw [List.getElem?_eq_getElem hlt2, he2]
     have hjj : j = j2 := by
      have := zDJ hn hj
      rw [zDJ hn (hkey k j2 hj2).1] at this
      exact (Option.some.inj this).symm
     subst hjj
     have h2 := (hp'.hist j g (zDh hj2 hu)).2 p h1
     obtain ⟨k', hk', ht⟩ := zHQ h2
     rw [hj2] at hk'; cases hk'
     exact ht
    ·have hk : k = slot := by
      have := List.mem_of_getElem? hj
      simp only [kl, List.mem_append, List.mem_singleton] at this
      exact this.resolve_left hks'
     subst hk
     exfalso
     have hjl := hlast j hj
     have hlt : j < out.length := (List.getElem?_eq_some_iff.1 hs).1
     have hfree' : σ[k]? = some .free := hfree.resolve_left (by omega)
     obtain ⟨s', hs', hg⟩ := hu
     rw [hσ k (.inl rfl), hfree'] at hs'
     cases hs'
     exact hg
   ·obtain ⟨e, he, hg, hpp⟩ := Tb.live h
    rw [(hout k hk).1] at he
    rw [(hout k hk).2] at hpp
    have := Tb.of (ρ := ρ) he
    rw [hg, hpp] at this
    exact this }
 have hback : ∀ {j k : Nat}, zy kl j = some k → kl[j]? = some k := fun h => h
 have hTr : Tr (zy kl) w' (Fz (zAU w (zFp B σ ρ ks) (pick ks σ) (zAZ ks ρ)) out ρ' w') (Tb out ρ') (zBX out) w' (Fz B σ' ρc w') (Tb σ' ρc) (zBX σ') := {
  hz := fun b hb => ⟨hb.1, fun h => hb.2.1 (.inl h), fun k hk => by
   rcases hlive' k hk with ⟨j, hj, hl, hρ⟩ | ⟨hk', hl, hρ⟩
   ·rw [hρ]; exact hb.2.2 j hl
   ·rw [hρ]
    intro he
    exact hb.2.1 (.inr ⟨k, hl, hnotks k hk', he⟩)⟩
  hh := fun _ _ _ => rfl
  hU := fun j k g hm hu => by
   obtain ⟨s, hs, hg⟩ := hu
   exact ⟨_, (hin k j s (hback hm) hs).1, zEa.2 hg⟩
  ht := fun j k g p hm hu h => by
   obtain ⟨s, hs, _⟩ := hu
   exact hTb' (hback hm) ⟨s, hs⟩ h }
 have hhp : Hp B σ' ρc w' := hmove.hp hp (hp'.os) (hp'.tape) (hp'.output)
  (fun k e he => by
   rcases hcases k with ⟨j, s, hj, hs⟩ | hk
   ·obtain ⟨e0, h1, h2⟩ := hgenren hj ⟨s, hs⟩ he
    rw [h2, (hin k j s hj hs).2]
    exact hTr.entOk (hp'.ent j e0 h1) rfl
   ·rw [(hout k hk).1] at he
    rw [(hout k hk).2]
    refine hmove.entOk (hp.ent k e he) (hp'.base _ (hp.lt ⟨e, he⟩) (fun ⟨j, hj, hjb⟩ => ?_))
    obtain ⟨k', hk1, hk2, hk3⟩ := zAd (ρ := ρ) hj
    rw [hk3] at hjb
    have := hp.inj k' k hk2 ⟨e, he⟩ hjb
    subst this
    exact hnotks k' hk (List.mem_of_getElem? hk1))
  (fun k k' hk hk' he => by
   rcases hlive' k hk with ⟨j, hj, hl, hρ⟩ | ⟨hkn, hl, hρ⟩ <;> rcases hlive' k' hk' with ⟨j', hj', hl', hρ'⟩ | ⟨hkn', hl', hρ'⟩
   ·rw [hρ, hρ'] at he
    have := hp'.inj j j' hl hl' he
    subst this
    rw [hj] at hj'
    exact Option.some.inj hj'
   ·exfalso
    rw [hρ, hρ'] at he
    exact hp'.nf j hl (.inr ⟨k', hl', hnotks k' hkn', he.symm⟩)
   ·exfalso
    rw [hρ, hρ'] at he
    exact hp'.nf j' hl' (.inr ⟨k, hl, hnotks k hkn, he⟩)
   ·rw [hρ, hρ'] at he
    exact hp.inj k k' hl hl' he)
 exact ⟨hmove, hhp, hTr⟩

theorem zHt {P : Program} {ro : Option Nat} {o : Oper} {T : (Nat → Nat × Nat) → Array Value → World → (Ending → World → Prop) → Prop} {dargs : List D} {ks : List Nat} {res : D} {out : List Slot} {opd : Operand → D} {σ : List Slot} {slot : Nat}
  (hn : (ks ++ [slot]).Nodup) (hks : ∀ k ∈ ks, k < σ.length) (hfree : out.length ≤ ks.length ∨ σ[slot]? = some .free)
  (hlen : ks.length ≤ out.length) (hlen' : out.length ≤ ks.length + 1)
  (hmono : ∀ ρ vs w R R', T ρ vs w R → (∀ e w', R e w' → R' e w') → T ρ vs w R')
  (hgo : ∀ (B : Base) (st : St) (ρ : Nat → Nat × Nat) (a : Act) (w : World), (∀ x ∈ o.op.operands, st.eval x = opd x) → (∀ k, k = slot ∨ k ∈ ks → st.σ[k]? = σ[k]?) → Hp B st.σ ρ w → FrOk B st ρ a.tmps w →
   ∃ vs : Array Value, vs.size = dargs.length ∧ (∀ (j : Nat) (d : D) (u : Value), dargs[j]? = some d → vs[j]? = some u → Rp B st.σ ρ w d u) ∧
    ∀ next Q, T (zAZ ks ρ) vs w (fun e w' => ∃ v, e = .returned v ∧ next (a.put o.dst v) w') → o.wpIn (FW ro) 0 P a w next Q)
  (hspec : ∀ (N0 : Nat → Prop) (ρ : Nat → Nat × Nat) (w : World) (vs : Array Value), Hp (zAU w N0 (pick ks σ) ρ) (pick ks σ) ρ w → vs.size = dargs.length →
   (∀ (j : Nat) (d : D) (u : Value), (dargs.map (ren (mOf ks)))[j]? = some d → vs[j]? = some u → Rp (zAU w N0 (pick ks σ) ρ) (pick ks σ) ρ w d u) →
   T ρ vs w (fun e w' => ∃ v ρ', e = .returned v ∧ Hp (zAU w N0 (pick ks σ) ρ) out ρ' w' ∧ Rp (zAU w N0 (pick ks σ) ρ) out ρ' w' res v)) :
  OpS P ro o opd σ ks slot ⟨ren (zy (ks ++ [slot])) res, zf (ks ++ [slot]) out⟩ := by
 intro B st a w hopd hσ hrel next Q hnext
 obtain ⟨ρ, hp, hfr, hmk⟩ := hrel
 have hnks : ks.Nodup := (List.nodup_append.1 hn).1
 have hpick : pick ks st.σ = pick ks σ := by
  unfold pick
  refine List.map_congr_left fun k hk => ?_
  rw [zBD, zBD, hσ k (.inr hk)]
 obtain ⟨vs, hvs, hrep, hwp⟩ := hgo B st ρ a w hopd hσ hp hfr
 obtain ⟨hcp, T'⟩ := zSP hp hnks
 refine hwp next Q ?_
 rw [← hpick] at hspec
 refine hmono _ _ _ _ _ (hspec _ (zAZ ks ρ) w vs hcp hvs (fun j d u hd hu => ?_)) ?_
 ·obtain ⟨d0, hd0, rfl⟩ := zAE hd
  exact T'.ren (hrep j d0 u hd0 hu)
 rintro e w' ⟨v, ρ', rfl, hp', hres⟩
 obtain ⟨hmove, hhp, hTr⟩ := zQz hp hn (fun k hk => by
  have h1 := hks k hk
  have h2 := hσ k (.inr hk)
  rw [List.getElem?_eq_getElem h1] at h2
  exact (List.getElem?_eq_some_iff.1 h2).1) (hfree.imp id (fun h => by rw [hσ slot (.inl rfl)]; exact h)) hlen hlen' hp'
 exact ⟨v, rfl, hnext _ _ ⟨_, hhp, FrOk.put (fr := st.fr) (hmove.frOk (fr := st.fr) hfr) o.dst (hTr.ren hres), (hmove.marks hp hmk).put o.dst v⟩⟩

theorem zFB {P : Program} {ro : Option Nat} {o : Oper} {c : Call} {fo : Operand} {f : Nat} {caps : List D} {ks : List Nat} {res : D} {out : List Slot} {opd : Operand → D} {σ : List Slot} {slot : Nat}
  (ho : o.op = .call c) (hcal : c.callee = .value fo) (hfo : opd fo = .fn f caps) (henter : ∀ args w, (callFunc f args).run P w = .ok (.enter f args) w)
  (hn : (ks ++ [slot]).Nodup) (hks : ∀ k ∈ ks, k < σ.length) (hfree : out.length ≤ ks.length ∨ σ[slot]? = some .free)
  (hlen : ks.length ≤ out.length) (hlen' : out.length ≤ ks.length + 1)
  (hspec : Spec P f ((c.args.toList.map opd ++ caps).map (ren (mOf ks))) (pick ks σ) res out) :
  OpS P ro o opd σ ks slot ⟨ren (zy (ks ++ [slot])) res, zf (ks ++ [slot]) out⟩ := by
 refine zHt (T := fun _ vs w R => Calls P f vs w R) (dargs := c.args.toList.map opd ++ caps) hn hks hfree hlen hlen' (fun _ _ _ _ _ h hr => h.mono hr) (fun B st ρ a w hopd hσ hp hfr => ?_)
  (fun N0 ρ w vs h1 h2 h3 => hspec N0 ρ w vs h1 (by simpa using h2) h3)
 have hoperands : ∀ x, x ∈ o.op.operands ↔ x ∈ c.operands := by intro x; rw [ho]; rfl
 have hfoD : st.eval fo = .fn f caps := by rw [hopd fo ((hoperands fo).2 (by simp [Call.operands, hcal])), hfo]
 have hfoV := hfr.eval fo
 rw [hfoD] at hfoV
 obtain ⟨cs, hfv, hcl, hcr⟩ := hfoV.fn_inv
 refine ⟨c.args.map a.eval ++ cs, by simp [hcl], fun j d u hd0 hu => ?_, fun next Q hT => ?_⟩
 ·by_cases hj : j < c.args.size
  ·rw [List.getElem?_append_left (by simpa using hj)] at hd0
   obtain ⟨x, hx, rfl⟩ := zAE hd0
   rw [Array.getElem?_append, if_pos (by simpa using hj), Array.getElem?_map] at hu
   have hx' : c.args[j]? = some x := by simpa using hx
   rw [hx'] at hu
   simp only [Option.map_some, Option.some.injEq] at hu
   subst hu
   have hmem : x ∈ c.args := Array.mem_of_getElem? hx'
   rw [← hopd x ((hoperands x).2 (by simp [Call.operands, hcal, hmem]))]
   exact hfr.eval x
  ·rw [List.getElem?_append_right (by simp; omega)] at hd0
   rw [Array.getElem?_append, if_neg (by simpa using hj)] at hu
   exact hcr _ _ _ (by simpa using hd0) (by simpa using hu)
 ·refine ⟨fun _ _ => trivial, ?_⟩
  have hsem : o.semAt (FW ro).round a.eval = execOp a.eval o := Oper.semAt_eq _ _ _ (fun c' h => by rw [ho] at h; cases h)
  rw [hsem, zPM ho hcal hfv henter, Oper.uponIn_enter]
  refine ⟨fun h => by simp at h, ?_⟩
  refine CallsIn.mono (show CallsIn (FW ro) 0 P f _ w _ from callsIn_wide.2 hT) ?_
  rintro e w' ⟨v, rfl, h⟩
  exact h

theorem zKt {P : Program} {ro : Option Nat} {o : Oper} {c : Call} {fo : Operand} {f : Nat} {caps : List D} {ks : List Nat} {res : D} {out : List Slot} {opd : Operand → D} {σ : List Slot} {slot : Nat}
  (ho : o.op = .call c) (hcal : c.callee = .value fo) (hfo : opd fo = .bnd f caps) (henter : ∀ args w, (callFunc f args).run P w = .ok (.enter f args) w)
  (hn : (ks ++ [slot]).Nodup) (hks : ∀ k ∈ ks, k < σ.length) (hfree : out.length ≤ ks.length ∨ σ[slot]? = some .free)
  (hlen : ks.length ≤ out.length) (hlen' : out.length ≤ ks.length + 1)
  (hspec : Spec P f ((caps ++ c.args.toList.map opd).map (ren (mOf ks))) (pick ks σ) res out) :
  OpS P ro o opd σ ks slot ⟨ren (zy (ks ++ [slot])) res, zf (ks ++ [slot]) out⟩ := by
 refine zHt (T := fun _ vs w R => Calls P f vs w R) (dargs := caps ++ c.args.toList.map opd) hn hks hfree hlen hlen' (fun _ _ _ _ _ h hr => h.mono hr) (fun B st ρ a w hopd hσ hp hfr => ?_)
  (fun N0 ρ w vs h1 h2 h3 => hspec N0 ρ w vs h1 (by simpa using h2) h3)
 have hoperands : ∀ x, x ∈ o.op.operands ↔ x ∈ c.operands := by intro x; rw [ho]; rfl
 have hfoD : st.eval fo = .bnd f caps := by rw [hopd fo ((hoperands fo).2 (by simp [Call.operands, hcal])), hfo]
 have hfoV := hfr.eval fo
 rw [hfoD] at hfoV
 obtain ⟨cs, hfv, hcl, hcr⟩ := hfoV.bnd_inv
 refine ⟨cs ++ c.args.map a.eval, by simp [hcl], fun j d u hd0 hu => ?_, fun next Q hT => ?_⟩
 ·by_cases hj : j < caps.length
  ·rw [List.getElem?_append_left hj] at hd0
   rw [Array.getElem?_append, if_pos (by omega)] at hu
   exact hcr _ _ _ hd0 hu
  ·rw [List.getElem?_append_right (by omega)] at hd0
   obtain ⟨x, hx, rfl⟩ := zAE hd0
   rw [Array.getElem?_append, if_neg (by omega), ← hcl, Array.getElem?_map] at hu
   have hx' : c.args[j - caps.length]? = some x := by simpa using hx
   rw [hx'] at hu
   simp only [Option.map_some, Option.some.injEq] at hu
   subst hu
   have hmem : x ∈ c.args := Array.mem_of_getElem? hx'
   rw [← hopd x ((hoperands x).2 (by simp [Call.operands, hcal, hmem]))]
   exact hfr.eval x
 ·refine ⟨fun _ _ => trivial, ?_⟩
  have hsem : o.semAt (FW ro).round a.eval = execOp a.eval o := Oper.semAt_eq _ _ _ (fun c' h => by rw [ho] at h; cases h)
  rw [hsem, zON ho hcal hfv henter, Oper.uponIn_enter]
  refine ⟨fun h => by simp at h, ?_⟩
  refine CallsIn.mono (show CallsIn (FW ro) 0 P f _ w _ from callsIn_wide.2 hT) ?_
  rintro e w' ⟨v, rfl, h⟩
  exact h

theorem zMd {P : Program} {ro : Option Nat} {o : Oper} {c : Call} {fo : Operand} {f : Nat} {caps : List D} {res : D} {opd : Operand → D} {σ : List Slot} {slot : Nat}
  (ho : o.op = .call c) (hcal : c.callee = .value fo) (hfo : opd fo = .fn f caps) (henter : ∀ args w, (callFunc f args).run P w = .ok (.enter f args) w)
  (hspec : Spec P f ((c.args.toList.map opd ++ caps).map (ren (mOf []))) [] res []) : OpS P ro o opd σ [] slot ⟨ren (zy [slot]) res, []⟩ :=
 zFB (ks := []) (out := []) ho hcal hfo henter (by simp) (fun _ h => by cases h) (.inl (Nat.le_refl _)) (Nat.le_refl _) (by simp) hspec

theorem CallV.intro {P : Program} {ro : Option Nat} {o : Oper} {opd : Operand → D} {σ : List Slot} {slot : Nat} {k : List Nat → Out → Prop} {rd : List Nat} {out : Out} (h : OpS P ro o opd σ rd slot out) (hs : ∀ p ∈ out.sets, p.1 = slot ∨ p.1 ∈ rd) (hk : k rd out) : CallV P ro o opd σ slot k :=
 ⟨rd, out, h, hs, hk⟩

def PureOk (P : Program) (o : Oper) (opd : Operand → D) (σ : List Slot) (rd : List Nat) (val : D) : Prop :=
 ∀ (B : Base) (σ' : List Slot) (ρ : Nat → Nat × Nat) (ev : Operand → Value) (w : World), Hp B σ' ρ w → (∀ x ∈ o.op.operands, Rp B σ' ρ w (opd x) (ev x)) → (∀ k ∈ rd, σ'[k]? = σ[k]?) →
  ∃ u, (execOp ev o).run P w = .ok (.value u) w ∧ Rp B σ' ρ w val u

theorem PureOk.opS {P : Program} {ro : Option Nat} {o : Oper} {opd : Operand → D} {σ : List Slot} {rd : List Nat} {val : D} {slot : Nat} (h : PureOk P o opd σ rd val) (hd : ∀ c, o.op ≠ .defer c) : OpS P ro o opd σ rd slot ⟨val, []⟩ := by
 intro B st a w hopd hσ hrel next Q hnext
 obtain ⟨ρ, hp, hfr, hmk⟩ := hrel
 obtain ⟨u, hrun, hu⟩ := h B st.σ ρ a.eval w hp (fun x hx => by rw [← hopd x hx]; exact hfr.eval x) (fun k hk => hσ k (.inr hk))
 refine ⟨fun _ _ => trivial, ?_⟩
 rw [Oper.semAt_eq _ _ _ hd, hrun, Oper.uponIn_value]
 exact hnext _ _ ⟨ρ, hp, FrOk.put (fr := st.fr) hfr o.dst hu, hmk.put o.dst u⟩

def zRa : IntKind → IntKind → Bool
 | .i8, .i8 => true | .i16, .i16 => true | .i32, .i32 => true | .i64, .i64 => true
 | .u8, .u8 => true | .u16, .u16 => true | .u32, .u32 => true | .u64, .u64 => true
 | _, _ => false
theorem zNU {a b : IntKind} (h : zRa a b = true) : a = b := by cases a <;> cases b <;> first | rfl | cases h
def zDj (op : BinOp) (k : IntKind) (a b : Int) : Int :=
 let x := BitVec.ofInt k.bits a
 let y := BitVec.ofInt k.bits b
 match op with
 | .and => k.wrap (x &&& y).toNat
 | .or => k.wrap (x ||| y).toNat
 | .xor => k.wrap (x ^^^ y).toNat
 | .andNot => k.wrap (x &&& ~~~y).toNat
 | _ => 0
def zQp (k : IntKind) (a b : Int) : Int := k.wrap (a * 2 ^ min b.toNat k.bits)
def zRD (k : IntKind) (a b : Int) : Int := a.fdiv (2 ^ min b.toNat k.bits)
def zMU (op : BinOp) (k : IntKind) (a b : Int) : Option (Prop × Value) :=
 match op with
 | .add => some (True, .int k (k.wrap (a + b)))
 | .sub => some (True, .int k (k.wrap (a - b)))
 | .mul => some (True, .int k (k.wrap (a * b)))
 | .quo => some (b ≠ 0, .int k (k.wrap (a.tdiv b)))
 | .rem => some (b ≠ 0, .int k (a.tmod b))
 | .and => some (True, .int k (zDj .and k a b))
 | .or => some (True, .int k (zDj .or k a b))
 | .xor => some (True, .int k (zDj .xor k a b))
 | .andNot => some (True, .int k (zDj .andNot k a b))
 | .eql => some (True, .bool (a == b))
 | .neq => some (True, .bool (a != b))
 | .lss => some (True, .bool (decide (a < b)))
 | .leq => some (True, .bool (decide (a ≤ b)))
 | .gtr => some (True, .bool (decide (b < a)))
 | .geq => some (True, .bool (decide (b ≤ a)))
 | _ => none
def zMO (op : BinOp) (a b : ByteArray) : Option (Prop × Value) :=
 match op with
 | .add => some (a.size + b.size ≤ 9223372036854775807, .string (a ++ b))
 | .eql => some (True, .bool (a.toList == b.toList))
 | .neq => some (True, .bool (!(a.toList == b.toList)))
 | .lss => some (True, .bool (Op.bytesLess a.toList b.toList))
 | .leq => some (True, .bool (Op.bytesLess a.toList b.toList || a.toList == b.toList))
 | .gtr => some (True, .bool (!(Op.bytesLess a.toList b.toList || a.toList == b.toList)))
 | .geq => some (True, .bool (!(Op.bytesLess a.toList b.toList)))
 | _ => none
def zKN (op : BinOp) (u : TypeDesc) (a b : Bool) : Option (Prop × Value) :=
 match u with
 | .bool => match op with
  | .eql => some (True, .bool (a == b))
  | .neq => some (True, .bool (!(a == b)))
  | _ => none
 | _ => none
def zBQ {α : Type} : List α → Bool
 | [] => true
 | _ :: _ => false
def zIX (op : BinOp) (u : TypeDesc) (b : Bool) : Option (Prop × Value) :=
 match u with
 | .slice _ => match op with
  | .eql => some (True, .bool b)
  | .neq => some (True, .bool (!b))
  | _ => none
 | _ => none
def zKi (ti : Option TyI) (op : BinOp) (x y : Value) : Option (Prop × Value) :=
 match x with
 | .int k a => match y with
  | .int k' b => match op with
   | .shl => some (0 ≤ b, .int k (zQp k a b))
   | .shr => some (0 ≤ b, .int k (zRD k a b))
   | _ => match zRa k k' with
    | true => zMU op k a b
    | false => none
  | _ => none
 | .string a => match y with
  | .string b => zMO op a b
  | _ => none
 | .bool a => match y with
  | .bool b => match ti with
   | some i => zKN op i.und a b
   | none => none
  | _ => none
 | .slice A _ _ => match y with
  | .slice none _ _ => match ti with
   | some i => zIX op i.und A.isNone
   | none => none
  | _ => none
 | _ => none
theorem zGB {P : Program} {t : TypeId} {i : TyI} {op : BinOp} {A B : Option Addr} {n c n' c' : Nat} {v : Value} {p : Prop} (hi : tyI P t = some i) (hB : B = none) (h : zIX op i.und A.isNone = some (p, v)) (w : World) (xo yo : Operand) :
  (do eqGuard op t xo yo (.slice A n c) (.slice B n' c'); binOp op t (.slice A n c) (.slice B n' c') : Sem Value).run P w = .ok v w := by
 subst hB
 have hg : (eqGuard op t xo yo (.slice A n c) (.slice none n' c')).run P w = .ok () w := by unfold eqGuard; split <;> rfl
 rw [Sem.run_bind, hg]
 simp only [Result.andThen]
 unfold zIX at h
 split at h
 ·rename_i e hu
  obtain ⟨_, _, hun, _⟩ := tyI.spec hi
  rw [hu] at hun
  have he : (Op.equal t (.slice A n c) (.slice none n' c')).run P w = .ok A.isNone w := by
   have key : ∀ d, (Op.equalIn (d + 1) t (.slice A n c) (.slice none n' c')).run P w = .ok A.isNone w := fun d => by
    cases A <;> simp [Op.equalIn, run_underlying hun]
   exact key 9999
  split at h
  ·cases h
   show (Op.equal t (.slice A n c) (.slice none n' c') >>= fun r => pure (Value.bool r) : Sem Value).run P w = _
   rw [Sem.run_bind, he]; rfl
  ·cases h
   show (Op.equal t (.slice A n c) (.slice none n' c') >>= fun r => pure (Value.bool (!r)) : Sem Value).run P w = _
   rw [Sem.run_bind, he]; rfl
  ·cases h
 ·cases h

theorem zKQ {P : Program} {t : TypeId} {op : BinOp} {x y v : Value} {c : Prop} (h : zKi (tyI P t) op x y = some (c, v)) (hc : c) (w : World) (xo yo : Operand) :
  (do eqGuard op t xo yo x y; binOp op t x y : Sem Value).run P w = .ok v w := by
 unfold zKi at h
 split at h
 ·rename_i k a
  split at h
  ·rename_i k' b
   have hg : (eqGuard op t xo yo (.int k a) (.int k' b)).run P w = .ok () w := by unfold eqGuard; split <;> rfl
   rw [Sem.run_bind, hg]
   simp only [Result.andThen]
   split at h
   ·simp only [Option.some.injEq, Prod.mk.injEq] at h
    obtain ⟨rfl, rfl⟩ := h
    simp [binOp, Op.shift, zQp, show ¬ b < 0 from by omega]
   ·simp only [Option.some.injEq, Prod.mk.injEq] at h
    obtain ⟨rfl, rfl⟩ := h
    simp [binOp, Op.shift, zRD, show ¬ b < 0 from by omega]
   ·split at h
    ·rename_i hk
     have := zNU hk
     subst this
     unfold zMU at h
     split at h <;> first
      | (simp only [Option.some.injEq, Prod.mk.injEq] at h; obtain ⟨rfl, rfl⟩ := h; simp [binOp, Op.intArith, Op.intDiv, Op.intBits, Op.intCmp, zDj, hc]; done)
      | (simp only [Option.some.injEq, Prod.mk.injEq] at h; obtain ⟨rfl, rfl⟩ := h; simp [binOp, Op.intArith, Op.intDiv, Op.intBits, Op.intCmp, zDj])
      | cases h
    ·cases h
  ·cases h
 ·rename_i a
  split at h
  ·rename_i b
   have hg : (eqGuard op t xo yo (.string a) (.string b)).run P w = .ok () w := by unfold eqGuard; split <;> rfl
   rw [Sem.run_bind, hg]
   simp only [Result.andThen]
   unfold zMO at h
   split at h
   ·simp only [Option.some.injEq, Prod.mk.injEq] at h
    obtain ⟨rfl, rfl⟩ := h
    have : ¬ (((a.size + b.size : Nat) : Int) > IntKind.i64.max) := by simp [IntKind.max, IntKind.signed, IntKind.bits]; omega
    simp only [binOp, Op.stringOp, if_neg this]
    rfl
   all_goals first
    | (simp only [Option.some.injEq, Prod.mk.injEq] at h; obtain ⟨rfl, rfl⟩ := h; simp [binOp, Op.stringOp]; done)
    | cases h
  ·cases h
 ·rename_i a
  split at h
  ·rename_i b
   have hg : (eqGuard op t xo yo (.bool a) (.bool b)).run P w = .ok () w := by unfold eqGuard; split <;> rfl
   rw [Sem.run_bind, hg]
   simp only [Result.andThen]
   split at h
   ·rename_i i hi
    unfold zKN at h
    split at h
    ·rename_i hu
     obtain ⟨_, _, hun, _⟩ := tyI.spec hi
     rw [hu] at hun
     have e : (Op.equal t (.bool a) (.bool b)).run P w = .ok (a == b) w := run_equalIn_bool w 9999 t a b hun
     split at h
     ·simp only [Option.some.injEq, Prod.mk.injEq] at h
      obtain ⟨rfl, rfl⟩ := h
      show (Op.equal t (.bool a) (.bool b) >>= fun r => pure (Value.bool r) : Sem Value).run P w = _
      rw [Sem.run_bind, e]
      rfl
     ·simp only [Option.some.injEq, Prod.mk.injEq] at h
      obtain ⟨rfl, rfl⟩ := h
      show (Op.equal t (.bool a) (.bool b) >>= fun r => pure (Value.bool (!r)) : Sem Value).run P w = _
      rw [Sem.run_bind, e]
      rfl
     ·cases h
    ·cases h
   ·cases h
  ·cases h
 ·rename_i A n c
  split at h
  ·split at h
   ·rename_i i hi
    exact zGB hi rfl h w xo yo
   ·cases h
  ·cases h
 ·cases h

inductive EK where
 | int
 | bool
 | str
def zSB (P : Program) (t : TypeId) : Option EK := match P.underlying t with
 | some (.int _) => some .int
 | some .bool => some .bool
 | some .string => some .str
 | _ => none
def zPO (P : Program) : List Field → Option (List (Nat × EK))
 | [] => some []
 | f :: fs => if f.name = "_" then none else match zSB P f.type, zPO P fs with
  | some k, some l => some ((f.offset, k) :: l)
  | _, _ => none
def zEG (P : Program) (t : TypeId) : Option (List (Nat × EK)) :=
 match P.eqGuardType P.depth t, P.stoodInHeld t, P.underlying t with
 | false, false, some (.struct fs) => zPO P fs.toList
 | _, _, _ => none
def eqV (k : EK) (a b : D) : Option Bool := match k with
 | .int => match a with
  | .v (.int ka x) => match b with
   | .v (.int kb y) => match zRa ka kb with
    | true => some (x == y)
    | false => none
   | _ => none
  | _ => none
 | .bool => match a with
  | .v (.bool x) => match b with
   | .v (.bool y) => some (x == y)
   | _ => none
  | _ => none
 | .str => match a with
  | .v (.string x) => match b with
   | .v (.string y) => some (x.toList == y.toList)
   | _ => none
  | _ => none
def zGT (ds es : List D) : List (Nat × EK) → Option Bool
 | [] => some true
 | q :: l => match eqV q.2 (zDn ds q.1) (zDn es q.1) with
  | none => none
  | some r => match zGT ds es l with
   | none => none
   | some s => some (r && s)
def zKq (ot : Option (List (Nat × EK))) (op : BinOp) (ds es : List D) : Option (Prop × Value) := match ot with
 | none => none
 | some l => match zGT ds es l with
  | none => none
  | some r => match op with
   | .eql => some (True, .bool r)
   | .neq => some (True, .bool (!r))
   | _ => none
theorem zPP {l : List D} {n : Nat} {x : Value} (h : zDn l n = .v x) : l[n]? = some (.v x) := by
 induction l generalizing n with
 | nil => cases h
 | cons d l ih => cases n with
  | zero => simp only [zDn] at h; simp [h]
  | succ n => simp only [zDn] at h; simpa using ih h
theorem zOp {P : Program} {d : Nat} {t : TypeId} {k : EK} {a b : D} {r : Bool} (hk : zSB P t = some k) (h : eqV k a b = some r) :
  ∃ x y, a = .v x ∧ b = .v y ∧ (∀ w, (Op.equalIn (d + 1) t x y).run P w = .ok r w) ∧ ∀ (cs : Array Value) (n : Nat) (u : Value) w, cs[n]? = some u → (part t cs n).run P w = .ok u w := by
 have hpart : ∀ T, P.underlying t = some T → (zCw T = false) → ∀ (cs : Array Value) (n : Nat) (u : Value) w, cs[n]? = some u → (part t cs n).run P w = .ok u w := by
  intro T hT ha cs n u w hu
  cases T <;> first | (simp [zCw] at ha; done) | simp [part, isAgg, run_underlying hT, hu]
 unfold zSB at hk
 split at hk
 ·rename_i k' hu
  cases hk
  simp only [eqV] at h
  split at h
  ·split at h
   ·rename_i ka x _ kb y
    split at h
    ·rename_i hb
     cases h
     have := zNU hb
     subst this
     exact ⟨_, _, rfl, rfl, fun w => run_equalIn_int w d t ka k' x y hu, hpart _ hu rfl⟩
    ·cases h
   ·cases h
  ·cases h
 ·rename_i hu
  cases hk
  simp only [eqV] at h
  split at h
  ·split at h
   ·cases h
    exact ⟨_, _, rfl, rfl, fun w => run_equalIn_bool' w d t _ _ hu, hpart _ hu rfl⟩
   ·cases h
  ·cases h
 ·rename_i hu
  cases hk
  simp only [eqV] at h
  split at h
  ·split at h
   ·cases h
    exact ⟨_, _, rfl, rfl, fun w => run_equalIn_string w d t _ _ hu, hpart _ hu rfl⟩
   ·cases h
  ·cases h
 ·cases hk
theorem zKT {P : Program} {d : Nat} {R : D → Value → Prop} (hR : ∀ x u, R (.v x) u → u = x) {ds es : List D} {cs bs : Array Value}
  (h1 : ds.length = cs.size) (h2 : es.length = bs.size) (r1 : ∀ (j : Nat) (d : D) (u : Value), ds[j]? = some d → cs[j]? = some u → R d u) (r2 : ∀ (j : Nat) (d : D) (u : Value), es[j]? = some d → bs[j]? = some u → R d u) (w : World) :
  ∀ {fs : List Field} {l : List (Nat × EK)} {r : Bool}, zPO P fs = some l → zGT ds es l = some r → (Op.eqFields (d + 1) cs bs fs).run P w = .ok r w := by
 intro fs
 induction fs with
 | nil =>
  intro l r hl hr
  simp only [zPO, Option.some.injEq] at hl
  subst hl
  simp only [zGT, Option.some.injEq] at hr
  subst hr
  rfl
 | cons f fs ih =>
  intro l r hl hr
  unfold zPO at hl
  split at hl
  ·cases hl
  ·rename_i hn
   split at hl
   ·rename_i k l' hk hl'
    cases hl
    simp only [zGT] at hr
    split at hr
    ·cases hr
    ·rename_i b hb
     split at hr
     ·cases hr
     ·rename_i s hs
      cases hr
      obtain ⟨x, y, hx, hy, he, hp⟩ := zOp (d := d) hk hb
      have gx := zPP hx
      have gy := zPP hy
      have lx := (List.getElem?_eq_some_iff.1 gx).1
      have ly := (List.getElem?_eq_some_iff.1 gy).1
      have cx : cs[f.offset]? = some x := by
       have hc : cs[f.offset]? = some cs[f.offset] := Array.getElem?_eq_getElem (by omega)
       rw [hc, hR _ _ (r1 _ _ _ gx hc)]
      have cy : bs[f.offset]? = some y := by
       have hc : bs[f.offset]? = some bs[f.offset] := Array.getElem?_eq_getElem (by omega)
       rw [hc, hR _ _ (r2 _ _ _ gy hc)]
      simp only [Op.eqFields]
      rw [if_pos hn, Sem.run_bind, hp cs _ _ w cx]
      simp only [Result.andThen]
      rw [Sem.run_bind, hp bs _ _ w cy]
      simp only [Result.andThen]
      rw [Sem.run_bind, he w]
      simp only [Result.andThen]
      cases b with
      | false => simp
      | true => simpa using ih hl' hs
   ·cases hl
theorem zKE {P : Program} {t : TypeId} {op : BinOp} {R : D → Value → Prop} (hR : ∀ x u, R (.v x) u → u = x) {ds es : List D} {cs bs : Array Value} {v : Value} {c : Prop} (h : zKq (zEG P t) op ds es = some (c, v))
  (h1 : ds.length = cs.size) (h2 : es.length = bs.size) (r1 : ∀ (j : Nat) (d : D) (u : Value), ds[j]? = some d → cs[j]? = some u → R d u) (r2 : ∀ (j : Nat) (d : D) (u : Value), es[j]? = some d → bs[j]? = some u → R d u) (w : World) (xo yo : Operand) :
  (do eqGuard op t xo yo (.agg cs) (.agg bs); binOp op t (.agg cs) (.agg bs) : Sem Value).run P w = .ok v w := by
 unfold zKq at h
 split at h
 ·cases h
 ·rename_i l hl
  split at h
  ·cases h
  ·rename_i r hr
   unfold zEG at hl
   split at hl
   ·rename_i fs g1 g2 g3
    have hf : P.fieldsOf t = fs := by simp [Program.fieldsOf, g3]
    have he : (Op.equalIn 10000 t (.agg cs) (.agg bs)).run P w = .ok r w := by
     rw [run_equalIn_agg w 9999 t cs bs (by rw [hf]; exact g3) g2, hf]
     exact zKT (d := 9998) hR h1 h2 r1 r2 w hl hr
    rw [Sem.run_bind, run_eqGuard_agg w op t xo yo cs bs g1]
    simp only [Result.andThen]
    split at h
    ·cases h
     rw [run_eql_struct, he]; rfl
    ·cases h
     rw [run_neq_struct, he]; rfl
    ·cases h
   ·cases hl

def zPn (ti : Option TyI) (ot : Option (List (Nat × EK))) (op : BinOp) (x y : D) : Option (Prop × Value) :=
 match x with
 | .v a => match y with
  | .v b => zKi ti op a b
  | _ => none
 | .agg ds => match y with
  | .agg es => zKq ot op ds es
  | _ => none
 | .sl _ _ xs => match y with
  | .v (.slice none _ _) => match zBQ xs with
   | true => none
   | false => match ti with
    | some i => zIX op i.und false
    | none => none
  | _ => none
 | _ => none

def unD (op : UnOp) (x : D) : Option Value :=
 match x with
 | .v (.bool b) => match op with
  | .not => some (.bool (!b))
  | _ => none
 | .v (.int k n) => match op with
  | .neg => some (.int k (k.wrap (0 - n)))
  | _ => none
 | _ => none

def zLV (src dst : Option TyI) (x : D) : Option Value :=
 match src, dst with
 | some _, some i =>
  match x with
  | .v (.int _ n) => match i.und with
   | .int k => some (.int k (k.wrap n))
   | .string => some (.string (Utf8.encode n))
   | _ => none
  | .v (.string s) => match i.und with
   | .string => some (.string s)
   | _ => none
  | _ => none
 | _, _ => none

def zAv (x : Option D) (dflt : Int) : Option Int :=
 match x with
 | none => some dflt
 | some d => match d with
  | .v (.int _ n) => some n
  | _ => none
def sub (l : List (List D)) (lo hi : Nat) : List (List D) := (l.take hi).drop lo


def zEt (xs : List (List D)) (n : Nat) : List D := (xs[n]?).getD []
def zBS (s : ByteArray) (i : Int) : Int := ((s.data.toList.getD i.toNat 0).toNat : Int)
def zAD (σ : List Slot) (k g : Nat) : Option Ent :=
 match zEL σ k with
 | .ent e => match zOY e.gen g with
  | true => some e
  | false => none
 | _ => none
theorem zAY {σ : List Slot} {k g : Nat} {e : Ent} (h : zAD σ k g = some e) : σ[k]? = some (.ent e) ∧ e.gen = g ∧ e.kd = .cells := by
 unfold zAD at h
 cases hs : zEL σ k with
 | free => rw [hs] at h; cases h
 | dead => rw [hs] at h; cases h
 | ent e' =>
  rw [hs] at h
  simp only at h
  cases hg : zOY e'.gen g with
  | false => rw [hg] at h; cases h
  | true => rw [hg] at h; cases h; exact ⟨zCe (zCf hs).1, Nat.eq_of_beq_eq_true hg, (zCf hs).2⟩

def zGC (ti : Option TyI) (f : Nat) : Option Field :=
 match ti with
 | some i => match i.und with
  | .struct fs => fs[f]?
  | _ => none
 | none => none

def zCr (P : Program) (s : TypeId) (x : D) (f : Nat) (σ : List Slot) : Option (Prop × D × List Nat) :=
 match zGC (tyI P s) f with
 | none => none
 | some fl =>
  match tyI P fl.type with
  | none => none
  | some fi =>
   match x with
   | .ptr k g o => match zAD σ k g with
    | some _ => some (fi.size ≠ 0, .ptr k g (o + fl.offset), [k])
    | none => none
   | .fad ds => some (fi.size ≠ 0, .fad (ds.drop fl.offset), [])
   | _ => none
def zIK (P : Program) (s : TypeId) (x : D) (f : Nat) : Option (Prop × D) :=
 match zGC (tyI P s) f with
 | none => none
 | some fl =>
  match tyI P fl.type with
  | none => none
  | some fi =>
   match x with
   | .agg ds =>
    match zCw fi.und with
    | true => some (fl.offset + fi.size ≤ ds.length, .agg ((ds.drop fl.offset).take fi.size))
    | false => some (fl.offset < ds.length, zDn ds fl.offset)
   | _ => none
def zCz (P : Program) (t : TypeId) (x ix : D) (σ : List Slot) : Option (Prop × D × List Nat) :=
 match tyI P t with
 | none => none
 | some ti =>
  match ti.und with
  | .slice e =>
   match tyI P e with
   | none => none
   | some ei =>
    match ix with
    | .v (.int _ i) =>
     match x with
     | .sl _ sz xs => some (sz = ei.size ∧ 0 ≤ i ∧ i < (xs.length : Int), .fad (zEt xs i.toNat), [])
     | .ref k g n => match zAD σ k g with
      | some _ => some (0 ≤ i ∧ i < (n : Int), .ptr k g (i.toNat * ei.size), [k])
      | none => none
     | _ => none
    | _ => none
  | .array n e =>
   match tyI P e with
   | none => none
   | some ei =>
    match ix with
    | .v (.int _ i) =>
     match x with
     | .ptr k g o => match zAD σ k g with
      | some _ => some (0 ≤ i ∧ i < (n : Int), .ptr k g (o + i.toNat * ei.size), [k])
      | none => none
     | .fad ds => some (0 ≤ i ∧ i < (n : Int), .fad (ds.drop (i.toNat * ei.size)), [])
     | _ => none
    | _ => none
  | _ => none
def zIG (x ix : D) (ti : Option TyI) : Option (Prop × D) :=
 match ti with
 | none => none
 | some i => match i.und with
  | .string => match x with
   | .v (.string s) => match ix with
    | .v (.int _ n) => some (0 ≤ n ∧ n < (s.size : Int), .v (.int .u8 (zBS s n)))
    | _ => none
   | _ => none
  | _ => none
def zHr (s : ByteArray) (lo hi : Option D) (mx : Option D) : Option (Prop × D) :=
 match mx with
 | some _ => none
 | none =>
  match zAv lo 0, zAv hi s.size with
  | some l, some h => some (0 ≤ l ∧ l ≤ h ∧ h ≤ (s.size : Int), .v (.string (s.extract l.toNat h.toNat)))
  | _, _ => none
def zFC (P : Program) (t : TypeId) (x : D) (lo hi mx : Option D) (σ : List Slot) : Option (Prop × D × List Nat) :=
 match tyI P t with
 | none => none
 | some ti =>
  match ti.und with
  | .string => match x with
   | .v (.string s) => match zHr s lo hi mx with
    | some (c, d) => some (c, d, [])
    | none => none
   | _ => none
  | .slice e =>
   match tyI P e with
   | none => none
   | some ei =>
    match x with
    | .sl full sz xs =>
     match mx with
     | none => match zAv lo 0, zAv hi xs.length with
      | some l, some h => some (sz = ei.size ∧ 0 ≤ l ∧ l ≤ h ∧ h ≤ (xs.length : Int), .sl false sz (sub xs l.toNat h.toNat), [])
      | _, _ => none
     | some m => match zAv lo 0, zAv hi xs.length, zAv (some m) 0 with
      | some l, some h, some m => some (sz = ei.size ∧ 0 ≤ l ∧ l ≤ h ∧ h ≤ (xs.length : Int) ∧ m = h, .sl true sz (sub xs l.toNat h.toNat), [])
      | _, _, _ => none
    | .v (.slice none 0 0) => -- nil stays nil
     match mx with
     | none => match zAv lo 0, zAv hi 0 with
      | some l, some h => some (0 ≤ l ∧ l ≤ h ∧ h ≤ 0, .v (.slice none 0 0), [])
      | _, _ => none
     | some m => match zAv lo 0, zAv hi 0, zAv (some m) 0 with
      | some l, some h, some m => some (0 ≤ l ∧ l ≤ h ∧ h ≤ 0 ∧ m = h, .v (.slice none 0 0), [])
      | _, _, _ => none
    | .ref k g n =>
     match mx with
     | none => match lo with
      | none => match zAv hi n with
       | some h => match zAD σ k g with
        | some _ => some (0 ≤ h ∧ h ≤ (n : Int), .ref k g h.toNat, [k])
        | none => none
       | none => none
      | some lo' => match zAv (some lo') 0, zAv hi n with
       | some l, some h => match zAD σ k g with
        | some en => some (0 ≤ l ∧ l ≤ h ∧ 0 < ei.size ∧ en.arr = some ei.size ∧ h.toNat * ei.size ≤ en.cells.length, .refo k g (l.toNat * ei.size) (h.toNat - l.toNat), [k])
        | none => none
       | _, _ => none
     | some m => match zAv lo 0, zAv hi n, zAv (some m) 0 with
      | some l, some h, some m => match zAD σ k g with
       | some en => some (0 ≤ l ∧ l ≤ h ∧ h ≤ m ∧ 0 < ei.size ∧ en.arr = some ei.size ∧ m.toNat * ei.size ≤ en.cells.length, .any, [k])
       | none => none
      | _, _, _ => none
    | _ => none
  | _ => none
def zEF (x : D) (ix : Nat) : Option (Prop × D) :=
 match x with
 | .tup ds => some (ix < ds.length, zDn ds ix)
 | _ => none
def zDT (x : D) (σ : List Slot) : Option (D × List Nat) :=
 match x with
 | .ptr k g o => match zAD σ k g with
  | some _ => some (.ptr k g o, [k])
  | none => none
 | .fad ds => some (.fad ds, [])
 | .fn f caps => some (.fn f caps, [])
 | _ => none
def zQF (ti : Option TyI) (x : D) (σ : List Slot) : Option (D × List Nat) :=
 match ti with
 | none => none
 | some i =>
  match i.und with
  | .string => match x with
   | .v (.string s) => some (.v (.int .i64 s.size), [])
   | _ => none
  | .slice _ => match x with
   | .sl _ _ xs => some (.v (.int .i64 xs.length), [])
   | .v (.slice _ n _) => some (.v (.int .i64 n), [])
   | .ref k g n => match zAD σ k g with
    | some _ => some (.v (.int .i64 n), [k])
    | none => none
   | _ => none
  | _ => none
def zQT (x y : D) : Option D :=
 match x with
 | .v (.int k a) => match y with
  | .v (.int _ b) => some (.v (.int k (if b < a then b else a)))
  | _ => none
 | _ => none
def zPX (x y : D) : Option D :=
 match x with
 | .v (.int k a) => match y with
  | .v (.int _ b) => some (.v (.int k (if b > a then b else a)))
  | _ => none
 | _ => none

theorem za {P : Program} {s : Sem Value} {v : Value} {w w' : World} (h : s.run P w = .ok v w') : (do pure (Next.value (← s)) : Sem Next).run P w = .ok (.value v) w' := by
 rw [Sem.run_bind, h]; rfl

section
variable {P : Program} {o : Oper} {opd : Operand → D} {σ : List Slot}

theorem zRK {x : Operand} (ho : o.op = .move x) : PureOk P o opd σ [] (opd x) := by
 intro B σ' ρ ev w hp hx _
 exact ⟨ev x, by simp only [execOp, ho]; rfl, hx x (by rw [ho]; simp [Op.operands])⟩
theorem zOk {x : Operand} (ho : o.op = .assign x) : PureOk P o opd σ [] (opd x) := by
 intro B σ' ρ ev w hp hx _
 exact ⟨ev x, by simp only [execOp, ho]; rfl, hx x (by rw [ho]; simp [Op.operands])⟩
theorem zRF {c x y : Operand} {t : Bool} (ho : o.op = .pick c x y) (hc : opd c = .v (.bool t)) : PureOk P o opd σ [] (match t with | true => opd x | false => opd y) := by
 intro B σ' ρ ev w hp hx _
 have h1 := hx c (by rw [ho]; simp [Op.operands])
 rw [hc] at h1
 have e := h1.v_inv
 refine ⟨if t then ev x else ev y, ?_, ?_⟩
 ·simp only [execOp, ho, e, asBool]; rfl
 ·cases t
  ·exact hx y (by rw [ho]; simp [Op.operands])
  ·exact hx x (by rw [ho]; simp [Op.operands])
theorem zSC {op : BinOp} {t yt : TypeId} {x y : Operand} {c : Prop} {v : Value} (ho : o.op = .binOp op t x y yt) (h : zPn (tyI P t) (zEG P t) op (opd x) (opd y) = some (c, v)) (hc : c) : PureOk P o opd σ [] (.v v) := by
 intro B σ' ρ ev w hp hx _
 have h1 := hx x (by rw [ho]; simp [Op.operands])
 have h2 := hx y (by rw [ho]; simp [Op.operands])
 unfold zPn at h
 split at h
 ·rename_i a ha
  split at h
  ·rename_i b hb
   rw [ha] at h1
   rw [hb] at h2
   refine ⟨v, ?_, .fro _ _ (.v _)⟩
   simp only [execOp, ho]
   refine za ?_
   rw [h1.v_inv, h2.v_inv]
   exact zKQ h hc w x y
  ·cases h
 ·rename_i ds hds
  split at h
  ·rename_i es hes
   rw [hds] at h1
   rw [hes] at h2
   obtain ⟨cs, e1, l1, r1⟩ := h1.agg_inv
   obtain ⟨bs, e2, l2, r2⟩ := h2.agg_inv
   refine ⟨v, ?_, .fro _ _ (.v _)⟩
   simp only [execOp, ho]
   refine za ?_
   rw [e1, e2]
   exact zKE (R := Rp B σ' ρ w) (fun x u h => h.v_inv) h l1 l2 r1 r2 w x y
  ·cases h
 ·rename_i full sz xs hxd
  split at h
  ·rename_i n' c' hyd
   rw [hxd] at h1
   rw [hyd] at h2
   split at h
   ·cases h
   ·rename_i hnl
    split at h
    ·rename_i i hi
     have hsl := h1.sl_inv
     refine ⟨v, ?_, .fro _ _ (.v _)⟩
     simp only [execOp, ho]
     refine za ?_
     rw [h2.v_inv]
     generalize ev x = u at hsl
     cases hsl with
     | sl0 => simp [zBQ] at hnl
     | sl _ _ _ b o' cap n g hn hpos hcap hf hb hw hcell hr => exact zGB (A := some ⟨b, o', none⟩) hi rfl h w x y
    ·cases h
  ·cases h
 ·cases h
theorem zSw {op : UnOp} {t : TypeId} {x : Operand} {v : Value} (ho : o.op = .unOp op t x) (h : unD op (opd x) = some v) : PureOk P o opd σ [] (.v v) := by
 intro B σ' ρ ev w hp hx _
 have h1 := hx x (by rw [ho]; simp [Op.operands])
 unfold unD at h
 split at h
 ·rename_i b hb
  rw [hb] at h1
  split at h
  ·cases h
   refine ⟨_, ?_, .fro _ _ (.v _)⟩
   simp only [execOp, ho, h1.v_inv]
   exact za rfl
  ·cases h
 ·rename_i k n hb
  rw [hb] at h1
  split at h
  ·cases h
   refine ⟨_, ?_, .fro _ _ (.v _)⟩
   simp only [execOp, ho, h1.v_inv]
   exact za rfl
  ·cases h
 ·cases h
theorem zRV {src dst : TypeId} {x : Operand} {v : Value} (ho : o.op = .convert src dst x) (h : zLV (tyI P src) (tyI P dst) (opd x) = some v) : PureOk P o opd σ [] (.v v) := by
 intro B σ' ρ ev w hp hx _
 have h1 := hx x (by rw [ho]; simp [Op.operands])
 unfold zLV at h
 split at h
 ·rename_i si i hs hd
  have us := tyI.underlying hs w
  have ud := tyI.underlying hd w
  refine ⟨v, ?_, .fro _ _ (.v _)⟩
  simp only [execOp, ho]
  refine za ?_
  split at h
  ·rename_i k n hb
   rw [hb] at h1
   rw [h1.v_inv]
   unfold convert
   rw [Sem.run_bind, us]
   simp only [Result.andThen]
   rw [Sem.run_bind, ud]
   simp only [Result.andThen]
   split at h
   ·rename_i k' hu; cases h; rw [hu]; rfl
   ·rename_i hu
    cases h
    rw [hu]
    rfl
   ·cases h
  ·rename_i s hb
   rw [hb] at h1
   rw [h1.v_inv]
   unfold convert
   rw [Sem.run_bind, us]
   simp only [Result.andThen]
   rw [Sem.run_bind, ud]
   simp only [Result.andThen]
   split at h
   ·rename_i hu; cases h; rw [hu]; rfl
   ·cases h
  ·cases h
 ·cases h
theorem zRX {t : TypeId} {x : Operand} {c : Prop} {d : D} {rd : List Nat} (ho : o.op = .load t x) (h : zES (tyI P t) (opd x) σ = some (c, d, rd)) (hc : c) : PureOk P o opd σ rd d := by
 intro B σ' ρ ev w hp hx hrd
 have h1 := hx x (by rw [ho]; simp [Op.operands])
 -- the store is the same where it is looked at
 have h' : zES (tyI P t) (opd x) σ' = some (c, d, rd) := by
  unfold zES at h ⊢
  split
  ·rename_i ht; rw [ht] at h; cases h
  ·rename_i i ht
   rw [ht] at h
   simp only at h
   split
   ·rename_i k g o' hd
    rw [hd] at h
    simp only at h
    have hk : zEL σ' k = zEL σ k := by
     refine zHZ ?_
     rw [zBD, zBD, hrd k (by
      cases hs : zEL σ k with
      | free => rw [hs] at h; cases h
      | dead => rw [hs] at h; cases h
      | ent e =>
       rw [hs] at h
       simp only at h
       split at h
       ·split at h <;> (simp only [Option.some.injEq, Prod.mk.injEq] at h; rw [← h.2.2]; simp)
       ·cases h)]
    rw [hk]; exact h
   ·rename_i ds hd
    rw [hd] at h; exact h
   ·rename_i hne1 hne2
    exfalso
    split at h
    ·rename_i k g o' hd; exact hne1 k g o' hd
    ·rename_i ds hd; exact hne2 ds hd
    ·cases h
 -- the address
 have ha : ∃ ad, ev x = .pointer (some ad) := by
  unfold zES at h'
  split at h'
  ·cases h'
  ·split at h'
   ·rename_i i hi dd k g o' hdd
    split at h'
    ·rename_i e he
     split at h'
     ·rename_i hg
      have hg' : e.gen = g := Nat.eq_of_beq_eq_true hg
      rw [hdd] at h1
      exact ⟨_, h1.ptr_inv.2 _ _ (hg' ▸ Tb.of (zCe (zCf he).1))⟩
     ·cases h'
    ·cases h'
   ·rename_i ds hdd
    rw [hdd] at h1
    have := h1.fad_inv
    generalize ev x = u at this
    cases this with
    | fad _ b o g _ _ _ => exact ⟨_, rfl⟩
   ·cases h'
 obtain ⟨ad, had⟩ := ha
 obtain ⟨v, h2, h3⟩ := zGy h' hc hp h1 had
 refine ⟨v, ?_, h3⟩
 simp only [execOp, ho]
 refine za ?_
 simp only [Instr.loadAt, Instr.sureAddr, had, Sem.run_bind]
 exact h2
theorem zMm {x : Operand} {ix : Nat} {c : Prop} {d : D} (ho : o.op = .extract x ix) (h : zEF (opd x) ix = some (c, d)) (hc : c) : PureOk P o opd σ [] d := by
 intro B σ' ρ ev w hp hx _
 have h1 := hx x (by rw [ho]; simp [Op.operands])
 unfold zEF at h
 split at h
 ·rename_i ds hd
  simp only [Option.some.injEq, Prod.mk.injEq] at h
  obtain ⟨rfl, rfl⟩ := h
  rw [hd] at h1
  obtain ⟨cs, hev, hl, hr⟩ := h1.tup_inv
  have hlt : ix < cs.size := by omega
  refine ⟨cs[ix], ?_, hr ix _ _ (zEq hc) (by simp [hlt])⟩
  simp only [execOp, ho, hev]
  refine za ?_
  simp [Instr.extract, hlt]
 ·cases h
theorem zMu {f : Nat} {first : Array Operand} (ho : o.op = .makeFunc (.func f) first #[]) : PureOk P o opd σ [] (.bnd f (first.toList.map opd)) := by
 intro B σ' ρ ev w hp hx _
 refine ⟨.func (.func f) (first.map ev) #[], ?_, .bnd f _ _ (by simp) (fun j d u hd hu => ?_)⟩
 ·simp only [execOp, ho]
  exact za (by simp [Instr.makeFunc])
 ·obtain ⟨x, hx', rfl⟩ := zAE hd
  rw [Array.getElem?_map] at hu
  have hx'' : first[j]? = some x := by simpa using hx'
  rw [hx''] at hu
  simp only [Option.map_some, Option.some.injEq] at hu
  subst hu
  exact hx x (by rw [ho]; simp [Op.operands]; exact Array.mem_of_getElem? hx'')
theorem zLp {f : Nat} {caps : Array Operand} (ho : o.op = .makeFunc (.func f) #[] caps) : PureOk P o opd σ [] (.fn f (caps.toList.map opd)) := by
 intro B σ' ρ ev w hp hx _
 refine ⟨.func (.func f) #[] (caps.map ev), ?_, .fn f _ _ (by simp) (fun j d u hd hu => ?_)⟩
 ·simp only [execOp, ho]
  exact za (by simp [Instr.makeFunc, Pure.pure, Sem.run])
 ·obtain ⟨y, hy, rfl⟩ := zAE hd
  have hy' : caps[j]? = some y := by simpa using hy
  rw [Array.getElem?_map, hy'] at hu
  simp only [Option.map_some, Option.some.injEq] at hu
  subst hu
  exact hx y (by rw [ho]; simp [Op.operands, Array.mem_of_getElem? hy'])
end
end Go.Proofs.YtabliglgeiajlaaGreat.AM
