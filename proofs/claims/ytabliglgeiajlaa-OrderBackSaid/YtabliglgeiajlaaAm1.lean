/- An abstract machine for proofs: values, their representation in a world, and what keeps it. -/
import Derived.WalkKit
import Derived.Orders
import Derived.CallsIn
import Derived.OrdersIn
import Derived.LeavingIn
set_option linter.unusedSimpArgs false
set_option linter.unusedVariables false
namespace Go.Proofs.Ytabliglgeiajlaa.AM
open Go Go.RowKit

/-- Abstract values. sl: a slice that is not written any more, with its elements' cells; fad: the address of such cells; ref: a slice of an own array, by key and generation; ptr: an address in an own block. -/
inductive D where
  | any
  | v (x : Value)
  | agg (ds : List D)
  | sl (full : Bool) (sz : Nat) (xs : List (List D))
  | fad (ds : List D)
  | fn (f : Nat) (caps : List D)
  | bnd (f : Nat) (caps : List D)
  | tup (ds : List D)
  | ref (k g n : Nat)
  | ptr (k g o : Nat)
  | kref (m : Bool) (k g : Nat)
  | refo (k g o n : Nat)

/-- A reference to a map's block, or the yield of a loop's. -/
def keyV (m : Bool) (b : Nat) : Value := match m with | true => .map (some b) | false => .func (.yield b) #[] #[]

/-- What is frozen: blocks of fz are not written any more. -/
inductive RepF (w : World) (fz : Nat → Prop) : D → Value → Prop
  | any (x : Value) : RepF w fz .any x
  | v (x : Value) : RepF w fz (.v x) x
  | agg (ds : List D) (cs : Array Value) (h : ds.length = cs.size) (hr : ∀ (j : Nat) (d : D) (u : Value), ds[j]? = some d → cs[j]? = some u → RepF w fz d u) : RepF w fz (.agg ds) (.agg cs)
  | tup (ds : List D) (cs : Array Value) (h : ds.length = cs.size) (hr : ∀ (j : Nat) (d : D) (u : Value), ds[j]? = some d → cs[j]? = some u → RepF w fz d u) : RepF w fz (.tup ds) (.tuple cs)
  | fn (f : Nat) (caps : List D) (cs : Array Value) (h : caps.length = cs.size) (hr : ∀ (j : Nat) (d : D) (u : Value), caps[j]? = some d → cs[j]? = some u → RepF w fz d u) : RepF w fz (.fn f caps) (.func (.func f) #[] cs)
  | bnd (f : Nat) (caps : List D) (cs : Array Value) (h : caps.length = cs.size) (hr : ∀ (j : Nat) (d : D) (u : Value), caps[j]? = some d → cs[j]? = some u → RepF w fz d u) : RepF w fz (.bnd f caps) (.func (.func f) cs #[])
  | sl0 (full : Bool) (sz : Nat) (A : Option Addr) (cap : Nat) (h : full = true → cap = 0) : RepF w fz (.sl full sz []) (.slice A 0 cap)
  | sl (full : Bool) (sz : Nat) (xs : List (List D)) (b o cap n : Nat) (g : Nat → Nat → Value) (hn : n = xs.length) (h0 : 0 < n) (hc : n ≤ cap) (hf : full = true → cap = n) (hb : fz b)
      (hw : ∀ x ∈ xs, x.length = sz)
      (hcell : ∀ (i : Nat) (x : List D) (j : Nat) (d : D), xs[i]? = some x → x[j]? = some d → w.cell? ⟨b, o + i * sz + j, none⟩ = some (g i j) ∧ (g i j).oneCell' = true)
      (hr : ∀ (i : Nat) (x : List D) (j : Nat) (d : D), xs[i]? = some x → x[j]? = some d → RepF w fz d (g i j)) : RepF w fz (.sl full sz xs) (.slice (some ⟨b, o, none⟩) n cap)
  | fad (ds : List D) (b o : Nat) (g : Nat → Value) (hb : fz b)
      (hcell : ∀ (j : Nat) (d : D), ds[j]? = some d → w.cell? ⟨b, o + j, none⟩ = some (g j) ∧ (g j).oneCell' = true)
      (hr : ∀ (j : Nat) (d : D), ds[j]? = some d → RepF w fz d (g j)) : RepF w fz (.fad ds) (.pointer (some ⟨b, o, none⟩))

theorem cell_of_heap {w w' : World} {p : Addr} (h : w'.heap[p.block]? = w.heap[p.block]?) : w'.cell? p = w.cell? p := by simp only [World.cell?, h]

def isCells (w : World) (b : Nat) : Prop := ∃ c t f, w.heap[b]? = some (.cells c t f)
theorem isCells_of {w : World} {b o : Nat} {u : Value} (h : w.cell? ⟨b, o, none⟩ = some u) : isCells w b := by
  simp only [World.cell?] at h
  split at h
  · rename_i c t f hc; exact ⟨_, _, _, hc⟩
  · cases h

theorem RepF.mono {w w' : World} {fz fz' : Nat → Prop} (hz : ∀ b, fz b → fz' b) (hh : ∀ b, fz b → isCells w b → w'.heap[b]? = w.heap[b]?) {d : D} {u : Value} (h : RepF w fz d u) : RepF w' fz' d u := by
  induction h with
  | any x => exact .any x
  | v x => exact .v x
  | agg ds cs h _ ih => exact .agg ds cs h ih
  | tup ds cs h _ ih => exact .tup ds cs h ih
  | fn f caps cs h _ ih => exact .fn f caps cs h ih
  | bnd f caps cs h _ ih => exact .bnd f caps cs h ih
  | sl0 full sz A cap h => exact .sl0 full sz A cap h
  | sl full sz xs b o cap n g hn h0 hc hf hb hw hcell _ ih =>
    exact .sl full sz xs b o cap n g hn h0 hc hf (hz b hb) hw (fun i x j d hi hj => by
      have hc' := hcell i x j d hi hj
      rw [cell_of_heap (p := ⟨b, o + i * sz + j, none⟩) (hh b hb (isCells_of hc'.1))]; exact hc') ih
  | fad ds b o g hb hcell _ ih =>
    exact .fad ds b o g (hz b hb) (fun j d hj => by
      have hc' := hcell j d hj
      rw [cell_of_heap (p := ⟨b, o + j, none⟩) (hh b hb (isCells_of hc'.1))]; exact hc') ih

/-- With references to own blocks: tb tells where a key's block lies, and its room, if it is of that generation. -/
inductive Rep (w : World) (fz : Nat → Prop) (tb : Nat → Nat → Option (Nat × Nat)) (U : Nat → Nat → Prop) : D → Value → Prop
  | fro (d : D) (u : Value) (h : RepF w fz d u) : Rep w fz tb U d u
  | agg (ds : List D) (cs : Array Value) (h : ds.length = cs.size) (hr : ∀ (j : Nat) (d : D) (u : Value), ds[j]? = some d → cs[j]? = some u → Rep w fz tb U d u) : Rep w fz tb U (.agg ds) (.agg cs)
  | tup (ds : List D) (cs : Array Value) (h : ds.length = cs.size) (hr : ∀ (j : Nat) (d : D) (u : Value), ds[j]? = some d → cs[j]? = some u → Rep w fz tb U d u) : Rep w fz tb U (.tup ds) (.tuple cs)
  | fn (f : Nat) (caps : List D) (cs : Array Value) (h : caps.length = cs.size) (hr : ∀ (j : Nat) (d : D) (u : Value), caps[j]? = some d → cs[j]? = some u → Rep w fz tb U d u) : Rep w fz tb U (.fn f caps) (.func (.func f) #[] cs)
  | bnd (f : Nat) (caps : List D) (cs : Array Value) (h : caps.length = cs.size) (hr : ∀ (j : Nat) (d : D) (u : Value), caps[j]? = some d → cs[j]? = some u → Rep w fz tb U d u) : Rep w fz tb U (.bnd f caps) (.func (.func f) cs #[])
  | ref (k g n : Nat) (u : Value) (hk : U k g) (h1 : u.oneCell' = true) (h : ∀ b c, tb k g = some (b, c) → u = .slice (some ⟨b, 0, none⟩) n c ∧ n ≤ c) : Rep w fz tb U (.ref k g n) u
  | ptr (k g o : Nat) (u : Value) (hk : U k g) (h1 : u.oneCell' = true) (h : ∀ b c, tb k g = some (b, c) → u = .pointer (some ⟨b, o, none⟩)) : Rep w fz tb U (.ptr k g o) u
  | kref (m : Bool) (k g : Nat) (u : Value) (hk : U k g) (h1 : u.oneCell' = true) (h : ∀ b c, tb k g = some (b, c) → u = keyV m b) : Rep w fz tb U (.kref m k g) u
  | refo (k g o n : Nat) (u : Value) (hk : U k g) (h1 : u.oneCell' = true) (h : ∀ b c, tb k g = some (b, c) → ∃ A cap, u = .slice A n cap ∧ (0 < n → A = some ⟨b, o, none⟩)) : Rep w fz tb U (.refo k g o n) u

theorem Rep.mono {w w' : World} {fz fz' : Nat → Prop} {tb tb' : Nat → Nat → Option (Nat × Nat)} {U U' : Nat → Nat → Prop} (hz : ∀ b, fz b → fz' b) (hh : ∀ b, fz b → isCells w b → w'.heap[b]? = w.heap[b]?) (hU : ∀ k g, U k g → U' k g)
    (ht : ∀ k g p, U k g → tb' k g = some p → tb k g = some p) {d : D} {u : Value} (h : Rep w fz tb U d u) : Rep w' fz' tb' U' d u := by
  induction h with
  | fro d u h => exact .fro d u (h.mono hz hh)
  | agg ds cs h _ ih => exact .agg ds cs h ih
  | tup ds cs h _ ih => exact .tup ds cs h ih
  | fn f caps cs h _ ih => exact .fn f caps cs h ih
  | bnd f caps cs h _ ih => exact .bnd f caps cs h ih
  | ref k g n u hk h1 h => exact .ref k g n u (hU k g hk) h1 (fun b c hb => h b c (ht k g _ hk hb))
  | ptr k g o u hk h1 h => exact .ptr k g o u (hU k g hk) h1 (fun b c hb => h b c (ht k g _ hk hb))
  | kref m k g u hk h1 h => exact .kref m k g u (hU k g hk) h1 (fun b c hb => h b c (ht k g _ hk hb))
  | refo k g o n u hk h1 h => exact .refo k g o n u (hU k g hk) h1 (fun b c hb => h b c (ht k g _ hk hb))

section inv
variable {w : World} {fz : Nat → Prop} {tb : Nat → Nat → Option (Nat × Nat)} {U : Nat → Nat → Prop}
theorem Rep.v_inv {x u : Value} (h : Rep w fz tb U (.v x) u) : u = x := by
  cases h with
  | fro _ _ h => cases h; rfl
theorem Rep.agg_inv {ds : List D} {u : Value} (h : Rep w fz tb U (.agg ds) u) : ∃ cs, u = .agg cs ∧ ds.length = cs.size ∧ ∀ (j : Nat) (d : D) (u : Value), ds[j]? = some d → cs[j]? = some u → Rep w fz tb U d u := by
  cases h with
  | fro _ _ h => cases h with
    | agg _ cs h hr => exact ⟨cs, rfl, h, fun j d u hd hu => .fro _ _ (hr j d u hd hu)⟩
  | agg _ cs h hr => exact ⟨cs, rfl, h, hr⟩
theorem Rep.tup_inv {ds : List D} {u : Value} (h : Rep w fz tb U (.tup ds) u) : ∃ cs, u = .tuple cs ∧ ds.length = cs.size ∧ ∀ (j : Nat) (d : D) (u : Value), ds[j]? = some d → cs[j]? = some u → Rep w fz tb U d u := by
  cases h with
  | fro _ _ h => cases h with
    | tup _ cs h hr => exact ⟨cs, rfl, h, fun j d u hd hu => .fro _ _ (hr j d u hd hu)⟩
  | tup _ cs h hr => exact ⟨cs, rfl, h, hr⟩
theorem Rep.fn_inv {f : Nat} {caps : List D} {u : Value} (h : Rep w fz tb U (.fn f caps) u) : ∃ cs, u = .func (.func f) #[] cs ∧ caps.length = cs.size ∧ ∀ (j : Nat) (d : D) (u : Value), caps[j]? = some d → cs[j]? = some u → Rep w fz tb U d u := by
  cases h with
  | fro _ _ h => cases h with
    | fn _ _ cs h hr => exact ⟨cs, rfl, h, fun j d u hd hu => .fro _ _ (hr j d u hd hu)⟩
  | fn _ _ cs h hr => exact ⟨cs, rfl, h, hr⟩
theorem Rep.bnd_inv {f : Nat} {caps : List D} {u : Value} (h : Rep w fz tb U (.bnd f caps) u) : ∃ cs, u = .func (.func f) cs #[] ∧ caps.length = cs.size ∧ ∀ (j : Nat) (d : D) (u : Value), caps[j]? = some d → cs[j]? = some u → Rep w fz tb U d u := by
  cases h with
  | fro _ _ h => cases h with
    | bnd _ _ cs h hr => exact ⟨cs, rfl, h, fun j d u hd hu => .fro _ _ (hr j d u hd hu)⟩
  | bnd _ _ cs h hr => exact ⟨cs, rfl, h, hr⟩
theorem Rep.ref_inv {k g n : Nat} {u : Value} (h : Rep w fz tb U (.ref k g n) u) : U k g ∧ ∀ b c, tb k g = some (b, c) → u = .slice (some ⟨b, 0, none⟩) n c ∧ n ≤ c := by
  cases h with
  | fro _ _ h => cases h
  | ref _ _ _ _ hk _ h => exact ⟨hk, h⟩
theorem Rep.ptr_inv {k g o : Nat} {u : Value} (h : Rep w fz tb U (.ptr k g o) u) : U k g ∧ ∀ b c, tb k g = some (b, c) → u = .pointer (some ⟨b, o, none⟩) := by
  cases h with
  | fro _ _ h => cases h
  | ptr _ _ _ _ hk _ h => exact ⟨hk, h⟩
theorem Rep.kref_inv {m : Bool} {k g : Nat} {u : Value} (h : Rep w fz tb U (.kref m k g) u) : U k g ∧ ∀ b c, tb k g = some (b, c) → u = keyV m b := by
  cases h with
  | fro _ _ h => cases h
  | kref _ _ _ _ hk _ h => exact ⟨hk, h⟩
theorem Rep.refo_inv {k g o n : Nat} {u : Value} (h : Rep w fz tb U (.refo k g o n) u) : U k g ∧ ∀ b c, tb k g = some (b, c) → ∃ A cap, u = .slice A n cap ∧ (0 < n → A = some ⟨b, o, none⟩) := by
  cases h with
  | fro _ _ h => cases h
  | refo _ _ _ _ _ hk _ h => exact ⟨hk, h⟩
theorem Rep.sl_inv {full : Bool} {sz : Nat} {xs : List (List D)} {u : Value} (h : Rep w fz tb U (.sl full sz xs) u) : RepF w fz (.sl full sz xs) u := by
  cases h with
  | fro _ _ h => exact h
theorem Rep.fad_inv {ds : List D} {u : Value} (h : Rep w fz tb U (.fad ds) u) : RepF w fz (.fad ds) u := by
  cases h with
  | fro _ _ h => exact h
end inv

/-- Values of one cell that are known. -/
def D.solid : D → Bool
  | .v x => x.oneCell'
  | .sl .. | .fad _ | .fn .. | .bnd .. | .ref .. | .ptr .. | .kref .. | .refo .. => true
  | _ => false
theorem Rep.solid {w : World} {fz : Nat → Prop} {tb : Nat → Nat → Option (Nat × Nat)} {U : Nat → Nat → Prop} {d : D} {u : Value} (hs : d.solid = true) (h : Rep w fz tb U d u) : u.oneCell' = true := by
  cases h with
  | fro _ _ h =>
    cases h <;> first | (simp [D.solid] at hs; done) | (simpa [D.solid] using hs) | rfl
  | agg => simp [D.solid] at hs
  | tup => simp [D.solid] at hs
  | fn => rfl
  | bnd => rfl
  | ref _ _ _ _ _ h1 _ => exact h1
  | ptr _ _ _ _ _ h1 _ => exact h1
  | kref _ _ _ _ _ h1 _ => exact h1
  | refo _ _ _ _ _ _ h1 _ => exact h1

/-! ### Less is told of a value -/
def leD0 (a b : D) : Prop := b = .any ∨ a = b ∨ (a = .v (.slice none 0 0) ∧ ∃ f sz, b = .sl f sz [])
def leF0 : List D → List D → Prop
  | [], [] => True
  | a :: l, b :: m => leD0 a b ∧ leF0 l m
  | _, _ => False
def leD1 (a b : D) : Prop := leD0 a b ∨ ∃ ds es, a = .agg ds ∧ b = .agg es ∧ leF0 ds es
def leF1 : List D → List D → Prop
  | [], [] => True
  | a :: l, b :: m => leD1 a b ∧ leF1 l m
  | _, _ => False
def leD (a b : D) : Prop := leD1 a b ∨ ∃ ds es, a = .tup ds ∧ b = .tup es ∧ leF1 ds es
def leF : List D → List D → Prop
  | [], [] => True
  | a :: l, b :: m => leD a b ∧ leF l m
  | _, _ => False
theorem leD0_refl (a : D) : leD0 a a := .inr (.inl rfl)
theorem leD1_refl (a : D) : leD1 a a := .inl (leD0_refl a)
theorem leD_refl (a : D) : leD a a := .inl (leD1_refl a)
theorem leF0_refl : ∀ l : List D, leF0 l l
  | [] => trivial
  | a :: l => ⟨leD0_refl a, leF0_refl l⟩
theorem leF1_refl : ∀ l : List D, leF1 l l
  | [] => trivial
  | a :: l => ⟨leD1_refl a, leF1_refl l⟩
theorem leF_refl : ∀ l : List D, leF l l
  | [] => trivial
  | a :: l => ⟨leD_refl a, leF_refl l⟩
theorem leF0_get {l m : List D} (h : leF0 l m) : l.length = m.length ∧ ∀ (j : Nat) (b : D), m[j]? = some b → ∃ a, l[j]? = some a ∧ leD0 a b := by
  induction l generalizing m with
  | nil => cases m with
    | nil => exact ⟨rfl, fun j b hb => by simp at hb⟩
    | cons _ _ => exact h.elim
  | cons a l ih =>
    cases m with
    | nil => exact h.elim
    | cons b m =>
      obtain ⟨h1, h2⟩ := ih h.2
      refine ⟨by simp [h1], fun j c hc => ?_⟩
      cases j with
      | zero => simp at hc; subst hc; exact ⟨a, rfl, h.1⟩
      | succ j => exact h2 j c (by simpa using hc)
theorem leF1_get {l m : List D} (h : leF1 l m) : l.length = m.length ∧ ∀ (j : Nat) (b : D), m[j]? = some b → ∃ a, l[j]? = some a ∧ leD1 a b := by
  induction l generalizing m with
  | nil => cases m with
    | nil => exact ⟨rfl, fun j b hb => by simp at hb⟩
    | cons _ _ => exact h.elim
  | cons a l ih =>
    cases m with
    | nil => exact h.elim
    | cons b m =>
      obtain ⟨h1, h2⟩ := ih h.2
      refine ⟨by simp [h1], fun j c hc => ?_⟩
      cases j with
      | zero => simp at hc; subst hc; exact ⟨a, rfl, h.1⟩
      | succ j => exact h2 j c (by simpa using hc)
theorem leF_get {l m : List D} (h : leF l m) : l.length = m.length ∧ ∀ (j : Nat) (b : D), m[j]? = some b → ∃ a, l[j]? = some a ∧ leD a b := by
  induction l generalizing m with
  | nil => cases m with
    | nil => exact ⟨rfl, fun j b hb => by simp at hb⟩
    | cons _ _ => exact h.elim
  | cons a l ih =>
    cases m with
    | nil => exact h.elim
    | cons b m =>
      obtain ⟨h1, h2⟩ := ih h.2
      refine ⟨by simp [h1], fun j c hc => ?_⟩
      cases j with
      | zero => simp at hc; subst hc; exact ⟨a, rfl, h.1⟩
      | succ j => exact h2 j c (by simpa using hc)
section
variable {w : World} {fz : Nat → Prop} {tb : Nat → Nat → Option (Nat × Nat)} {U : Nat → Nat → Prop}
theorem leD0.rep {a b : D} {u : Value} (h : leD0 a b) (hr : Rep w fz tb U a u) : Rep w fz tb U b u := by
  rcases h with rfl | rfl | ⟨rfl, f, sz, rfl⟩
  · exact .fro _ _ (.any _)
  · exact hr
  · rw [hr.v_inv]; exact .fro _ _ (.sl0 _ _ _ _ (fun _ => rfl))
theorem leD1.rep {a b : D} {u : Value} (h : leD1 a b) (hr : Rep w fz tb U a u) : Rep w fz tb U b u := by
  rcases h with h | ⟨ds, es, rfl, rfl, h⟩
  · exact h.rep hr
  · obtain ⟨cs, rfl, hl, hr⟩ := hr.agg_inv
    obtain ⟨h1, h2⟩ := leF0_get h
    refine .agg _ cs (by omega) (fun j d u hd hu => ?_)
    obtain ⟨a, ha, hle⟩ := h2 j d hd
    exact hle.rep (hr j a u ha hu)
theorem leD.rep {a b : D} {u : Value} (h : leD a b) (hr : Rep w fz tb U a u) : Rep w fz tb U b u := by
  rcases h with h | ⟨ds, es, rfl, rfl, h⟩
  · exact h.rep hr
  · obtain ⟨cs, rfl, hl, hr⟩ := hr.tup_inv
    obtain ⟨h1, h2⟩ := leF1_get h
    refine .tup _ cs (by omega) (fun j d u hd hu => ?_)
    obtain ⟨a, ha, hle⟩ := h2 j d hd
    exact hle.rep (hr j a u ha hu)
end
theorem leD0_any {a : D} : leD0 a .any := .inl rfl
theorem leD0_nil {f : Bool} {sz : Nat} : leD0 (.v (.slice none 0 0)) (.sl f sz []) := .inr (.inr ⟨rfl, f, sz, rfl⟩)
theorem leD_of0 {a b : D} (h : leD0 a b) : leD a b := .inl (.inl h)
theorem leD1_agg {ds es : List D} (h : leF0 ds es) : leD1 (.agg ds) (.agg es) := .inr ⟨ds, es, rfl, rfl, h⟩
theorem leD_agg {ds es : List D} (h : leF0 ds es) : leD (.agg ds) (.agg es) := .inl (leD1_agg h)
theorem leD_tup {ds es : List D} (h : leF1 ds es) : leD (.tup ds) (.tup es) := .inr ⟨ds, es, rfl, rfl, h⟩
theorem leF0_cons {a b : D} {l m : List D} (h : leD0 a b) (h2 : leF0 l m) : leF0 (a :: l) (b :: m) := ⟨h, h2⟩
theorem leF1_cons {a b : D} {l m : List D} (h : leD1 a b) (h2 : leF1 l m) : leF1 (a :: l) (b :: m) := ⟨h, h2⟩
theorem leF_cons {a b : D} {l m : List D} (h : leD a b) (h2 : leF l m) : leF (a :: l) (b :: m) := ⟨h, h2⟩
theorem leF0_nil : leF0 [] [] := trivial
theorem leF1_nil : leF1 [] [] := trivial
theorem leF_nil : leF [] [] := trivial
theorem leD_any {a : D} : leD a .any := leD_of0 leD0_any
theorem leD_nil {f : Bool} {sz : Nat} : leD (.v (.slice none 0 0)) (.sl f sz []) := leD_of0 leD0_nil
theorem leD_v {a b : Value} (h : a = b) : leD (.v a) (.v b) := by rw [h]; exact leD_refl _
theorem leD_eq {a b : D} (h : a = b) : leD a b := by rw [h]; exact leD_refl _

end Go.Proofs.Ytabliglgeiajlaa.AM
