/- The abstract machine: what comes in as data. -/
import Derived.Test.YtabliglgeiajlaaAm27
import Derived.WalkKit
import Derived.ProofKit
import Derived.OpenShut
import Derived.ShutString
import Derived.ChangeOld
import Derived.Below
import Derived.SizedLaws
set_option linter.unusedSimpArgs false
set_option linter.unusedVariables false
namespace Go.Proofs.Ytabliglgeiajlaa.AM
open Go Go.RowKit

/-- Kinds of data: a struct is told by its fields, one after the other. -/
inductive Kk where
  | bool
  | int (k : IntKind)
  | str
  | sl (e : Kk)
  | st (ks : Kk)
  | unit
  | pair (k ks : Kk)
def Kk.width : Kk → Nat
  | .bool => 1
  | .int _ => 1
  | .str => 1
  | .sl _ => 1
  | .st ks => ks.width
  | .unit => 0
  | .pair k ks => k.width + ks.width
inductive Tg where
  | ty (t : TypeId)
  | fl (fs : List Field) (off : Nat)
/-- A type is of a kind. -/
inductive Conf (P : Program) : Tg → Kk → Prop
  | bool {t : TypeId} (h : P.underlying t = some .bool) : Conf P (.ty t) .bool
  | int {t : TypeId} {k : IntKind} (h : P.underlying t = some (.int k)) : Conf P (.ty t) (.int k)
  | str {t : TypeId} (h : P.underlying t = some .string) : Conf P (.ty t) .str
  | sl {t e : TypeId} {k : Kk} (h : P.underlying t = some (.slice e)) (hc : P.cellsOf e = k.width) (h0 : 0 < k.width) (he : Conf P (.ty e) k) : Conf P (.ty t) (.sl k)
  | st {t : TypeId} {fs : Array Field} {ks : Kk} (h : P.underlying t = some (.struct fs)) (hc : P.cellsOf t = ks.width) (he : Conf P (.fl fs.toList 0) ks) : Conf P (.ty t) (.st ks)
  | unit {off : Nat} : Conf P (.fl [] off) .unit
  | pair {f : Field} {fs : List Field} {off : Nat} {k ks : Kk} (ho : f.offset = off) (hc : P.cellsOf f.type = k.width) (hk : Conf P (.ty f.type) k) (hs : Conf P (.fl fs (off + k.width)) ks) : Conf P (.fl (f :: fs) off) (.pair k ks)
/-- What a kind's cells look like. -/
inductive Shape : Kk → List D → Prop
  | bool (b : Bool) : Shape .bool [.v (.bool b)]
  | int (k : IntKind) (n : Int) (h : (Lit.int k n).wf = true) : Shape (.int k) [.v (.int k n)]
  | str (s : ByteArray) (h : s.size ≤ maxLen) : Shape .str [.v (.string s)]
  | sl (k : Kk) (xs : List (List D)) (h : ∀ x ∈ xs, Shape k x) (hl : xs.length ≤ maxLen) : Shape (.sl k) [.sl false k.width xs]
  | st (ks : Kk) (ds : List D) (h : Shape ks ds) : Shape (.st ks) ds
  | unit : Shape .unit []
  | pair (k ks : Kk) (a b : List D) (h : Shape k a) (h2 : Shape ks b) : Shape (.pair k ks) (a ++ b)
theorem Shape.width {k : Kk} {ds : List D} (h : Shape k ds) : ds.length = k.width := by
  induction h with
  | pair k ks a b _ _ h1 h2 => simp [Kk.width, h1, h2]
  | st ks ds _ h => exact h
  | _ => rfl

def Good (w : World) (fz : Nat → Prop) (ds : List D) (us : List Value) : Prop := ds.length = us.length ∧ ∀ (j : Nat) (d : D) (u : Value), ds[j]? = some d → us[j]? = some u → u.oneCell' = true ∧ RepF w fz d u
theorem Good.one {w : World} {fz : Nat → Prop} {d : D} {u : Value} (h1 : u.oneCell' = true) (h2 : RepF w fz d u) : Good w fz [d] [u] := by
  refine ⟨rfl, fun j d' u' hd hu => ?_⟩
  cases j with
  | zero => simp at hd hu; subst hd; subst hu; exact ⟨h1, h2⟩
  | succ j => simp at hd
theorem Good.app {w : World} {fz : Nat → Prop} {a b : List D} {x y : List Value} (h1 : Good w fz a x) (h2 : Good w fz b y) : Good w fz (a ++ b) (x ++ y) := by
  refine ⟨by simp [h1.1, h2.1], fun j d u hd hu => ?_⟩
  by_cases hj : j < a.length
  · rw [List.getElem?_append_left hj] at hd
    rw [List.getElem?_append_left (by rw [← h1.1]; exact hj)] at hu
    exact h1.2 j d u hd hu
  · rw [List.getElem?_append_right (by omega)] at hd
    rw [List.getElem?_append_right (by rw [← h1.1]; omega), ← h1.1] at hu
    exact h2.2 _ d u hd hu
theorem addr_none {w : World} {a : Addr} {v : Value} (h : w.cell? (a.add 0) = some v) : a.spot = none ∧ a.block < w.heap.size := by
  obtain ⟨b, o, sp⟩ := a
  cases sp with
  | none =>
    refine ⟨rfl, ?_⟩
    rw [add_plain] at h
    simp only [World.cell?] at h
    split at h
    · rename_i hh; exact (Array.getElem?_eq_some_iff.1 hh).1
    · cases h
  | some s =>
    exfalso
    simp only [World.cell?] at h
    split at h
    · have : ((⟨b, o, some s⟩ : Addr).add 0).spot.isSome = true := by unfold Addr.add; rfl
      rw [this] at h
      simp at h
    · cases h

theorem trod_shape {H : Type} {enc : TypeId × Value → H} {P : Program} {w : World} {base : Nat} {spare : Nat → Bool} {held : Bool} {fz : Nat → Prop} (hfz : ∀ b, b < w.heap.size → fz b) {tg : Tg} {k : Kk} (hk : Conf P tg k) :
    match tg with
    | .ty t => ∀ fuel cs x, DataW.trod enc P w base spare held fuel t cs = some x → ∃ ds, Shape k ds ∧ Good w fz ds cs
    | .fl fs off => ∀ (n : Nat) (cs : List Value) (xs : List (DataW H × List MemPlace)), off + k.width ≤ cs.length →
        (∀ (i : Nat) (f : Field), fs[i]? = some f → ∃ x, DataW.trod enc P w base spare held n f.type ((cs.drop f.offset).take (P.cellsOf f.type)) = some x) → ∃ ds, Shape k ds ∧ Good w fz ds ((cs.drop off).take k.width) := by
  induction hk with
  | bool h =>
    intro fuel cs x hx
    obtain ⟨b, rfl, _⟩ := DataW.trod_bool h hx
    exact ⟨_, .bool b, .one rfl (.v _)⟩
  | int h =>
    intro fuel cs x hx
    obtain ⟨n, rfl, _, hw⟩ := DataW.trod_int h hx
    exact ⟨_, .int _ n hw, .one rfl (.v _)⟩
  | str h =>
    intro fuel cs x hx
    obtain ⟨s, rfl, _, hs⟩ := DataW.trod_string h hx
    exact ⟨_, .str s hs, .one rfl (.v _)⟩
  | @sl t e k h hc h0 he ih =>
    intro fuel cs x hx
    rcases DataW.trod_slice h hx with ⟨rfl, _⟩ | ⟨a, len, cap, elems, rest, n, _, rfl, _, hb, hl, hm, hlen, hel, _, _⟩
    · exact ⟨_, .sl k [] (fun x hx => by cases hx) (Nat.zero_le _), .one rfl (.sl0 _ _ _ _ (fun h => by cases h))⟩
    · have hrow : ∀ i, i < len → ∃ ds cs', w.cells? base (a.add (i * k.width)) k.width = some cs' ∧ Shape k ds ∧ Good w fz ds cs' := by
        intro i hi
        have h1 := hel i hi
        rw [hc, List.getElem?_eq_getElem (by omega : i < elems.length), Option.bind_eq_some_iff] at h1
        obtain ⟨cs', h2, h3⟩ := h1
        obtain ⟨ds, h4, h5⟩ := ih n cs' _ h3
        exact ⟨ds, cs', h2, h4, h5⟩
      by_cases hz : len = 0
      · subst hz
        exact ⟨_, .sl k [] (fun x hx => by cases hx) (Nat.zero_le _), .one rfl (.sl0 _ _ _ _ (fun h => by cases h))⟩
      · obtain ⟨rows, hrl, hrows⟩ : ∃ rows : List (List D × List Value), rows.length = len ∧ ∀ i r, rows[i]? = some r → w.cells? base (a.add (i * k.width)) k.width = some r.2 ∧ Shape k r.1 ∧ Good w fz r.1 r.2 := by
          clear hz hl hm hx hel
          have : ∀ m, m ≤ len → ∃ rows : List (List D × List Value), rows.length = m ∧ ∀ i r, rows[i]? = some r → w.cells? base (a.add (i * k.width)) k.width = some r.2 ∧ Shape k r.1 ∧ Good w fz r.1 r.2 := by
            intro m
            induction m with
            | zero => intro _; exact ⟨[], rfl, fun i r h => by simp at h⟩
            | succ m ihm =>
              intro hm'
              obtain ⟨rows, h1, h2⟩ := ihm (by omega)
              obtain ⟨ds, cs', h3, h4, h5⟩ := hrow m (by omega)
              refine ⟨rows ++ [(ds, cs')], by simp [h1], fun i r hr => ?_⟩
              by_cases hi : i < rows.length
              · rw [List.getElem?_append_left hi] at hr; exact h2 i r hr
              · rw [List.getElem?_append_right (by omega)] at hr
                have hi2 : i = m := by have := (List.getElem?_eq_some_iff.1 hr).1; simp at this; omega
                subst hi2
                rw [h1] at hr
                simp at hr
                subst hr
                exact ⟨h3, h4, h5⟩
          exact this len (Nat.le_refl _)
        have hcell0 : ∀ (i : Nat) (r : List D × List Value) (j : Nat), rows[i]? = some r → j < k.width → w.cell? ((a.add (i * k.width)).add j) = r.2[j]? := by
          intro i r j hr hj
          exact (World.cells?_some (hrows i r hr).1).2.2 j hj
        obtain ⟨r0, hr0⟩ : ∃ r0, rows[0]? = some r0 := ⟨rows[0]'(by omega), List.getElem?_eq_getElem (by omega)⟩
        have hr0' := hrows 0 r0 hr0
        have hl0 : r0.2.length = k.width := (World.cells?_some hr0'.1).2.1
        have hspot := addr_none (w := w) (a := a) (v := r0.2[0]) (by
          have := hcell0 0 r0 0 hr0 h0
          rw [Nat.zero_mul, List.getElem?_eq_getElem (by omega)] at this
          have hadd : a.add 0 = (a.add 0).add 0 := by
            obtain ⟨b, o, sp⟩ := a
            cases sp with
            | none => rw [add_plain, add_plain]
            | some s => simp [Addr.add]
          rw [hadd]; exact this)
        obtain ⟨b, o, sp⟩ := a
        obtain ⟨rfl, hblt⟩ := hspot
        refine ⟨_, .sl k (rows.map (·.1)) (fun x hx => ?_) (by simp; omega), .one rfl (.sl false k.width (rows.map (·.1)) b o cap len (fun i j => ((rows[i]?).bind (fun r => r.2[j]?)).getD undef) (by simp [hrl]) (by omega) hl (fun h => by cases h) (hfz b hblt) (fun x hx => ?_) (fun i x j d hi hj => ?_) (fun i x j d hi hj => ?_))⟩
        · obtain ⟨r, hr, rfl⟩ := List.mem_map.1 hx
          obtain ⟨i, hi⟩ := List.mem_iff_getElem?.1 hr
          exact (hrows i r hi).2.1
        · obtain ⟨r, hr, rfl⟩ := List.mem_map.1 hx
          obtain ⟨i, hi⟩ := List.mem_iff_getElem?.1 hr
          exact (hrows i r hi).2.1.width
        · obtain ⟨r, hr, rfl⟩ := map_get hi
          obtain ⟨_, hs, hg⟩ := hrows i r hr
          have hjl : j < r.1.length := (List.getElem?_eq_some_iff.1 hj).1
          have hj2 : j < r.2.length := by rw [← hg.1]; exact hjl
          have := hcell0 i r j hr (by rw [← hs.width]; exact hjl)
          rw [add_plain, add_plain] at this
          simp only [hr, Option.bind_some]
          rw [this, List.getElem?_eq_getElem hj2]
          exact ⟨rfl, (hg.2 j d _ hj (List.getElem?_eq_getElem hj2)).1⟩
        · obtain ⟨r, hr, rfl⟩ := map_get hi
          obtain ⟨_, hs, hg⟩ := hrows i r hr
          have hjl : j < r.1.length := (List.getElem?_eq_some_iff.1 hj).1
          have hj2 : j < r.2.length := by rw [← hg.1]; exact hjl
          simp only [hr, Option.bind_some]
          rw [List.getElem?_eq_getElem hj2]
          exact (hg.2 j d _ hj (List.getElem?_eq_getElem hj2)).2
  | @st t fs ks h hc he ih =>
    intro fuel cs x hx
    obtain ⟨xs, n, _, _, hl, hlen, hf⟩ := DataW.trod_struct h hx
    obtain ⟨ds, h1, h2⟩ := ih n cs xs (by rw [hl, hc]; omega) (fun i f hif => by
      have hif' : fs[i]? = some f := by simpa using hif
      have hlt : i < fs.size := (Array.getElem?_eq_some_iff.1 hif').1
      exact ⟨xs[i], by rw [hf i f hif', List.getElem?_eq_getElem (by omega)]⟩)
    refine ⟨ds, .st ks ds h1, ?_⟩
    rw [List.drop_zero, List.take_of_length_le (by omega)] at h2
    exact h2
  | unit =>
    intro n cs xs _ _
    exact ⟨[], .unit, by simp [Kk.width], fun j d u hd => by simp at hd⟩
  | @pair f fs off k ks ho hc hk hs ih1 ih2 =>
    intro n cs xs hle hf
    simp only [Kk.width] at hle
    obtain ⟨x, hx⟩ := hf 0 f rfl
    rw [ho, hc] at hx
    obtain ⟨a, ha1, ha2⟩ := ih1 n _ x hx
    obtain ⟨b, hb1, hb2⟩ := ih2 n cs xs (by omega) (fun i g hg => hf (i + 1) g (by simpa using hg))
    refine ⟨a ++ b, .pair k ks a b ha1 hb1, ?_⟩
    have : (cs.drop off).take (k.width + ks.width) = (cs.drop off).take k.width ++ (cs.drop (off + k.width)).take ks.width := by
      rw [List.take_add, List.drop_drop]
    show Good w fz (a ++ b) ((cs.drop off).take (k.width + ks.width))
    rw [this]
    exact ha2.app hb2

/-! ### Arguments -/
theorem hp0 (w : World) : Hp (base0 w (fun _ => False) [] (fun _ => (0, 0))) [] (fun _ => (0, 0)) w where
  ent := fun k e h => by simp at h
  inj := fun k k' ⟨e, h⟩ => by simp at h
  nf := fun k ⟨e, h⟩ => by simp at h
  own := fun k ⟨e, h⟩ => by simp at h
  size := Nat.le_refl _
  os := rfl
  tape := rfl
  output := rfl
  base := fun _ _ _ => rfl
  n0 := fun _ h => h.elim
  m0 := Nat.le_refl _
  hist := fun k g hk => ⟨hk, fun _ h => h⟩
abbrev Rp0 (w : World) (d : D) (u : Value) : Prop := Rp (base0 w (fun _ => False) [] (fun _ => (0, 0))) [] (fun _ => (0, 0)) w d u
theorem fz0 (w : World) (b : Nat) (h : b < w.heap.size) : Fz (base0 w (fun _ => False) [] (fun _ => (0, 0))) [] (fun _ => (0, 0)) w b := ⟨h, fun h => h, fun k ⟨e, h⟩ => by simp at h⟩
section
variable {H : Type} {enc : TypeId × Value → H} {P : Program} {w : World} {base : Nat} {spare : Nat → Bool} {held : Bool} {t : TypeId} {v : Value} {d : DataW H} {ps : List MemPlace} {r : Reach} {b' : Nat}
theorem arg_struct {ks : Kk} (hc : Conf P (.ty t) (.st ks)) (hv : Value.okWide P w r b' t v) (h : DataW.Trod enc P w base spare held t v d ps) : ∃ ds, Shape ks ds ∧ Rp0 w (.agg ds) v := by
  obtain ⟨fuel, hf⟩ := h
  obtain ⟨ds, h1, h2⟩ := trod_shape (fz0 w) hc fuel _ _ hf
  cases h1 with
  | st _ _ h1 =>
    cases hc with
    | st hu _ _ =>
      simp only [Value.okWide, hu] at hv
      obtain ⟨cs, rfl, _, _⟩ := hv
      refine ⟨ds, h1, .fro _ _ (.agg ds cs (by have := h2.1; simpa [Value.cells] using this) (fun j d u hd hu => ?_))⟩
      exact (h2.2 j d u hd (by simpa [Value.cells] using hu)).2
theorem arg_one {k : Kk} (hc : Conf P (.ty t) k) (hv : Value.okWide P w r b' t v) (h : DataW.Trod enc P w base spare held t v d ps) (hk : match k with | .bool | .int _ | .str | .sl _ => True | _ => False) : ∃ e, Shape k [e] ∧ Rp0 w e v := by
  obtain ⟨fuel, hf⟩ := h
  obtain ⟨ds, h1, h2⟩ := trod_shape (fz0 w) hc fuel _ _ hf
  have hone : v.cells = #[v] := by
    cases hc with
    | bool hu => simp only [Value.okWide, hu, Cell.okWide] at hv; cases v <;> simp_all [Cell.ok, Value.cells]
    | int hu => simp only [Value.okWide, hu, Cell.okWide] at hv; cases v <;> simp_all [Cell.ok, Value.cells]
    | str hu => simp only [Value.okWide, hu, Cell.okWide] at hv; cases v <;> simp_all [Cell.ok, Value.cells]
    | sl hu => simp only [Value.okWide, hu, Cell.okWide] at hv; cases v <;> simp_all [Cell.ok, Value.cells]
    | st => exact hk.elim
  rw [hone] at h2
  obtain ⟨hl, hr⟩ := h2
  match ds, hl with
  | [e], _ => exact ⟨e, h1, .fro _ _ (hr 0 e v rfl rfl).2⟩
end
/-- A law's walk, out of its function. -/
theorem law_of {P : Program} {n : Nat} {args : List D} {vs : Array Value} {w : World} (h : Fn P n args [] (.v (.bool true)) []) (hs : vs.size = args.length)
    (ha : ∀ (j : Nat) (d : D) (u : Value), args[j]? = some d → vs[j]? = some u → Rp0 w d u) : Calls P n vs w (fun e w' => e = .returned (.bool true) ∧ Below w.heap.size w w') := by
  refine (h.spec (fun _ => False) (fun _ => (0, 0)) w vs (hp0 w) hs ha).mono ?_
  rintro e w' ⟨v, ρ', rfl, hp, hr⟩
  rw [hr.v_inv]
  exact ⟨rfl, hp.os, hp.tape, hp.output, hp.size, fun k hk => hp.base k hk (fun ⟨j, ⟨e, he⟩, _⟩ => by simp at he)⟩

/-! ### Kinds -/
theorem shape_int {k : IntKind} {e : D} (h : Shape (.int k) [e]) : ∃ n, e = .v (.int k n) ∧ (Lit.int k n).wf = true := by
  generalize hd : [e] = ds at h
  cases h with
  | int _ n hw => cases hd; exact ⟨n, rfl, hw⟩
theorem shape_bool {e : D} (h : Shape .bool [e]) : ∃ b, e = .v (.bool b) := by
  generalize hd : [e] = ds at h
  cases h with
  | bool b => cases hd; exact ⟨b, rfl⟩
theorem shape_str {e : D} (h : Shape .str [e]) : ∃ s : ByteArray, e = .v (.string s) ∧ s.size ≤ maxLen := by
  generalize hd : [e] = ds at h
  cases h with
  | str s hs => cases hd; exact ⟨s, rfl, hs⟩
theorem shape_sl {k : Kk} {e : D} (h : Shape (.sl k) [e]) : ∃ xs, e = .sl false k.width xs ∧ (∀ x ∈ xs, Shape k x) ∧ xs.length ≤ maxLen := by
  generalize hd : [e] = ds at h
  cases h with
  | sl _ xs hs hl => cases hd; exact ⟨xs, rfl, hs, hl⟩
theorem shape_pair {k ks : Kk} {ds : List D} (h : Shape (.pair k ks) ds) : ∃ a b, ds = a ++ b ∧ Shape k a ∧ Shape ks b := by
  cases h with
  | pair _ _ a b h1 h2 => exact ⟨a, b, rfl, h1, h2⟩
theorem shape_unit {ds : List D} (h : Shape .unit ds) : ds = [] := by
  cases h; rfl
theorem shape_st {ks : Kk} {ds : List D} (h : Shape (.st ks) ds) : Shape ks ds := by
  cases h; assumption
theorem shape_one {k : Kk} {ds : List D} (h : Shape k ds) (hw : k.width = 1) : ∃ e, ds = [e] ∧ Shape k [e] := by
  have := h.width
  rw [hw] at this
  match ds, this with
  | [e], _ => exact ⟨e, rfl, h⟩
/-- Rows of a kind, told by a function. -/
theorem shape_rows {α : Type} {k : Kk} (f : α → List D) (hf : ∀ x, Shape k x → ∃ a, x = f a) : ∀ {xs : List (List D)}, (∀ x ∈ xs, Shape k x) → ∃ l : List α, xs = l.map f
  | [], _ => ⟨[], rfl⟩
  | x :: xs, h => by
    obtain ⟨a, rfl⟩ := hf x (h x (by simp))
    obtain ⟨l, rfl⟩ := shape_rows f hf (xs := xs) (fun y hy => h y (by simp [hy]))
    exact ⟨a :: l, rfl⟩
/-- Of a choice, simp looks at what it hangs on alone. -/
theorem ite_c0 {α : Sort _} {x y : α} {b c : Prop} {s : Decidable b} [Decidable c] (h₁ : b = c) : ite b x y = ite c x y := by subst h₁; congr
attribute [congr] ite_c0
attribute [push_cast] beq_self_eq_true bne_self_eq_false
/-- A place to stop at: what is behind a first part is held back until the part's end is told. -/
@[irreducible] def Hold (p : Prop) : Prop := p
def ToS (t : St) (e : Exit) (s : St) : Prop := e = .normal ∧ leF s.fr t.fr ∧ ∃ k, s.σ = t.σ ++ List.replicate k .free
theorem to_of {t s : St} (h1 : leF s.fr t.fr) (h2 : ∃ k, s.σ = t.σ ++ List.replicate k .free) : ToS t .normal s := ⟨rfl, h1, h2⟩
section
variable {P : Program} {ro : Option Nat} {st : St} {K : Exit → St → Prop} {ops : Array Oper} {dr : Bool} {c c2 : Code}
theorem hold (id : Nat) (h : Hold (AWP P ro (.seq (.seq (.region id ops dr) c) c2) st K)) : AWP P ro (.seq (.seq (.region id ops dr) c) c2) st K := by unfold Hold at h; exact h
theorem hold1 (id : Nat) (h : Hold (AWP P ro (.seq (.region id ops dr) c2) st K)) : AWP P ro (.seq (.region id ops dr) c2) st K := by unfold Hold at h; exact h
theorem AWP_to {c : Code} (t : St) (h1 : leF st.fr t.fr) (h2 : ∃ k, st.σ = t.σ ++ List.replicate k .free) (h : AWP P ro c t K) : AWP P ro c st K := fun B a w hr Q hQ => by
  obtain ⟨k, hk⟩ := h2
  refine h B a w ?_ Q hQ
  have := hr.le (t := ⟨t.fr, t.σ ++ List.replicate k .free⟩) h1 (by rw [hk]; exact leS_refl _)
  exact this.unroom
theorem AWP_cut (t : St) (h1 : AWP P ro c st (ToS t)) (h2 : AWP P ro c2 t K) : Hold (AWP P ro (.seq c c2) st K) := by
  unfold Hold
  refine AWP_seq' (h1.mono fun e s hs => ?_)
  obtain ⟨rfl, h3, h4⟩ := hs
  exact AWP_to t h3 h4 h2
/-- The same, where the part may end elsewhere. -/
theorem AWP_cut2 (t : St) (h1 : AWP P ro c st (fun e s => ToS t e s ∨ (e ≠ .normal ∧ K e s))) (h2 : AWP P ro c2 t K) : Hold (AWP P ro (.seq c c2) st K) := by
  unfold Hold
  refine AWP_seq' (h1.mono fun e s hs => ?_)
  rcases hs with ⟨rfl, h3, h4⟩ | ⟨h3, h4⟩
  · exact AWP_to t h3 h4 h2
  · cases e <;> first | exact absurd rfl h3 | exact h4
end
theorem ret_new {P : Program} {fn : Func} {n : Nat} {res : D} {out : List Slot} {st : St} (ks : List Nat) (h : match resD P fn st with | some (c, d) => c ∧ pick ks st.σ = out ∧ leD (ren (mOf ks) d) res | none => False) (hn : ks.Nodup) (hk : ∀ k, k < n → ks[k]? = some k) : retK P fn n res out .ret st := by
  split at h
  · rename_i c d hd
    exact ⟨.inr rfl, ks, c, d, hd, h.1, hn, hk, h.2.1, h.2.2⟩
  · exact h.elim
end Go.Proofs.Ytabliglgeiajlaa.AM
