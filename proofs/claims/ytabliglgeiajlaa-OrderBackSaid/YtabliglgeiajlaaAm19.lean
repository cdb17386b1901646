/- The abstract machine: append. -/
import Derived.Test.YtabliglgeiajlaaAm18
set_option linter.unusedSimpArgs false
set_option linter.unusedVariables false
namespace Go.Proofs.Ytabliglgeiajlaa.AM
open Go Go.RowKit

theorem flatten_length {α : Type} {sz : Nat} {rows : List (List α)} (hl : ∀ x ∈ rows, x.length = sz) : rows.flatten.length = rows.length * sz := by
  induction rows with
  | nil => simp
  | cons x r ih =>
    simp only [List.flatten_cons, List.length_append, List.length_cons]
    rw [ih (fun y hy => hl y (by simp [hy])), hl x (by simp), Nat.add_mul]
    omega
theorem flatten_get {α : Type} {sz : Nat} (h0 : 0 < sz) : ∀ {rows : List (List α)} (_ : ∀ x ∈ rows, x.length = sz) (k : Nat) (d : α), rows.flatten[k]? = some d → ∃ x, rows[k / sz]? = some x ∧ x[k % sz]? = some d := by
  intro rows
  induction rows with
  | nil => intro _ k d h; simp at h
  | cons x r ih =>
    intro hl k d h
    have hx := hl x (by simp)
    by_cases hk : k < sz
    · rw [Nat.div_eq_of_lt hk, Nat.mod_eq_of_lt hk]
      rw [List.flatten_cons, List.getElem?_append_left (by omega)] at h
      exact ⟨x, rfl, h⟩
    · rw [List.flatten_cons, List.getElem?_append_right (by omega), hx] at h
      obtain ⟨y, h1, h2⟩ := ih (fun y hy => hl y (by simp [hy])) _ _ h
      have hd : k / sz = (k - sz) / sz + 1 := by rw [← Nat.add_div_right _ h0]; congr 1; omega
      have hm : k % sz = (k - sz) % sz := by rw [← Nat.mod_eq_sub_mod (by omega)]
      rw [hd, hm]
      exact ⟨y, by simpa using h1, h2⟩

def isZ : Nat → Bool
  | 0 => true
  | _ + 1 => false
/-- What is appended: what must hold, its cells, how many elements, whether none, and the keys that are looked at. -/
def srcD (x : D) (σ : List Slot) (size : Nat) : Option (Prop × List D × Nat × Bool × List Nat) :=
  match x with
  | .sl _ sz ys => some (sz = size, ys.flatten, ys.length, isNilL ys, [])
  | .v (.slice _ 0 _) => some (True, [], 0, true, [])
  | .ref k g m => match isLive σ k g with
    | some en => some (en.arr = some size ∧ m * size ≤ en.cells.length, en.cells.take (m * size), m, isZ m, [k])
    | none => none
  | _ => none
theorem srcD_sound {B : Base} {σ σ' : List Slot} {ρ : Nat → Nat × Nat} {w : World} {x : D} {u : Value} {size m : Nat} {c : Prop} {ds : List D} {z : Bool} {rd : List Nat} (h : srcD x σ size = some (c, ds, m, z, rd)) (hc : c) (h0 : 0 < size)
    (hp : Hp B σ' ρ w) (hx : Rp B σ' ρ w x u) (hrd : ∀ k ∈ rd, σ'[k]? = σ[k]?) :
    ∃ (A : Option Addr) (cap : Nat) (news : List Value), u = .slice A m cap ∧ news.length = m * size ∧ RepL (Rp B σ' ρ w) ds news ∧ (z = true ↔ m = 0) ∧ (0 < m → ∃ a : Addr, A = some a ∧ ∀ j v, news[j]? = some v → w.cell? (a.add j) = some v) := by
  unfold srcD at h
  split at h
  · rename_i full sz ys
    simp only [Option.some.injEq, Prod.mk.injEq] at h
    obtain ⟨rfl, rfl, rfl, rfl, rfl⟩ := h
    have hsl := hx.sl_inv
    subst hc
    cases hsl with
    | sl0 _ _ A cap _ => exact ⟨A, cap, [], rfl, by simp, ⟨rfl, fun j d hd => by simp at hd⟩, by simp [isNilL], fun h => by simp at h⟩
    | sl _ _ _ b o cap n g hn hpos hcap hf hb hw hcell hr =>
      have hfl := flatten_length hw
      have hkey : ∀ (k : Nat) (d : D), ys.flatten[k]? = some d → w.cell? ⟨b, o + k, none⟩ = some (g (k / sz) (k % sz)) ∧ (g (k / sz) (k % sz)).oneCell' = true ∧ RepF w (Fz B σ' ρ w) d (g (k / sz) (k % sz)) := by
        intro k d hd
        obtain ⟨x, h1, h2⟩ := flatten_get h0 hw k d hd
        have := hcell _ _ _ _ h1 h2
        rw [show o + k / sz * sz + k % sz = o + k from by rw [Nat.add_assoc, Nat.mul_comm, Nat.div_add_mod]] at this
        exact ⟨this.1, this.2, hr _ _ _ _ h1 h2⟩
      refine ⟨some ⟨b, o, none⟩, cap, (List.range ys.flatten.length).map (fun k => g (k / sz) (k % sz)), by rw [hn], by simp [hfl], ⟨by simp, fun j d hd => ?_⟩, ?_, fun _ => ⟨_, rfl, fun j v hv => ?_⟩⟩
      · have hlt := (List.getElem?_eq_some_iff.1 hd).1
        obtain ⟨_, h2, h3⟩ := hkey j d hd
        exact ⟨_, by rw [List.getElem?_map, List.getElem?_range hlt]; rfl, h2, .fro _ _ h3⟩
      · cases ys with
        | nil => simp at hn; omega
        | cons y ys => simp [isNilL]
      · have hlt : j < ys.flatten.length := by have := (List.getElem?_eq_some_iff.1 hv).1; simpa using this
        rw [List.getElem?_map, List.getElem?_range hlt] at hv
        simp only [Option.map_some, Option.some.injEq] at hv
        rw [add_plain, ← hv]
        exact (hkey j _ (List.getElem?_eq_getElem hlt)).1
  · simp only [Option.some.injEq, Prod.mk.injEq] at h
    obtain ⟨rfl, rfl, rfl, rfl, rfl⟩ := h
    exact ⟨_, _, [], hx.v_inv, by simp, ⟨rfl, fun j d hd => by simp at hd⟩, by simp, fun h => by omega⟩
  · rename_i k g m'
    split at h
    · rename_i en hl
      simp only [Option.some.injEq, Prod.mk.injEq] at h
      obtain ⟨rfl, rfl, rfl, rfl, rfl⟩ := h
      obtain ⟨c1, c2⟩ := hc
      have hl' : isLive σ' k g = some en := by rw [isLive_congr (hrd k (by simp))]; exact hl
      have hev := ref_live hx hl'
      obtain ⟨hk, hge, hkd⟩ := isLive_spec hl'
      obtain ⟨cs, e1, e2, e3⟩ := (hp.ent k en hk).row hkd
      rw [c1] at e2
      simp only at e2
      refine ⟨some ⟨(ρ k).1, 0, none⟩, (ρ k).2, cs.toList.take (m' * size), hev.1, by simp; omega, ⟨by simp; omega, fun j d hd => ?_⟩, by cases m' <;> simp [isZ], fun _ => ⟨_, rfl, fun j v hv => ?_⟩⟩
      · have hlt : j < m' * size := by have := (List.getElem?_eq_some_iff.1 hd).1; simp at this; omega
        rw [List.getElem?_take_of_lt hlt] at hd
        obtain ⟨u, a1, a2, a3⟩ := e3 j d hd
        exact ⟨u, by rw [List.getElem?_take_of_lt hlt]; simpa using a1, a2, a3⟩
      · have hlt : j < m' * size := by have := (List.getElem?_eq_some_iff.1 hv).1; simp at this; omega
        rw [List.getElem?_take_of_lt hlt] at hv
        rw [add_plain, Nat.zero_add]
        exact cell_at e1 (by simpa using hv)
    · cases h
  · cases h

/-- To nothing, or to what has no room, something is appended: a new array. -/
def appendD (P : Program) (t : TypeId) (s x : D) (σ : List Slot) (slot : Nat) : Option (Prop × D × List (Nat × Slot) × List Nat) :=
  match tyI P t with
  | none => none
  | some i => match i.und with
    | .slice e => match tyI P e with
      | none => none
      | some ei => match srcD x σ ei.size with
        | none => none
        | some (c, ds, m, z, rd) =>
          match s with
          | .v (.slice none 0 0) =>
            match z with
            | true => some (c ∧ 0 < ei.size, .v (.slice none 0 0), [], rd)
            | false => some (c ∧ 0 < ei.size ∧ (zeroD ei.zero).length = ei.size ∧ m * ei.bytes ≤ 140737488355328 ∧ m ≤ 9223372036854775807, .ref slot 0 m, [(slot, .ent ⟨0, some ei.size, e, ds, .cells⟩)], rd)
          | .sl true sz xs =>
            match z with
            | true => some (c ∧ 0 < ei.size, .sl true sz xs, [], rd)
            | false => some (c ∧ sz = ei.size ∧ 0 < ei.size ∧ (zeroD ei.zero).length = ei.size ∧ (xs.length + m) * ei.bytes ≤ 140737488355328 ∧ xs.length + m ≤ 9223372036854775807, .ref slot 0 (xs.length + m), [(slot, .ent ⟨0, some ei.size, e, xs.flatten ++ ds, .cells⟩)], rd)
          | .ref k g n =>
            match isLive σ k g with
            | none => none
            | some en => match z with
              | true => some (c ∧ 0 < ei.size, .ref k g n, [], k :: rd)
              | false => some (c ∧ 0 < ei.size ∧ (zeroD ei.zero).length = ei.size ∧ en.arr = some ei.size ∧ en.ty = e ∧ n * ei.size ≤ en.cells.length ∧ (n + m) * ei.bytes ≤ 140737488355328 ∧ n + m ≤ 9223372036854775807,
                  .ref k (en.gen + 1) (n + m), [(k, .ent ⟨en.gen + 1, some ei.size, e, en.cells.take (n * ei.size) ++ ds, .cells⟩)], k :: rd)
          | _ => none
    | _ => none

theorem RepL.app {R : D → Value → Prop} {a b : List D} {x y : List Value} (h1 : RepL R a x) (h2 : RepL R b y) : RepL R (a ++ b) (x ++ y) := by
  refine ⟨by rw [List.length_append, List.length_append, h1.1, h2.1], fun j d hd => ?_⟩
  by_cases hj : j < a.length
  · rw [List.getElem?_append_left hj] at hd
    rw [List.getElem?_append_left (by rw [← h1.1]; exact hj)]
    exact h1.2 j d hd
  · rw [List.getElem?_append_right (by omega)] at hd
    rw [List.getElem?_append_right (by rw [← h1.1]; omega), ← h1.1]
    exact h2.2 _ d hd
theorem RepL.one {R : D → Value → Prop} {a : List D} {x : List Value} (h : RepL R a x) : ∀ u ∈ x, u.oneCell' = true := by
  intro u hu
  obtain ⟨j, hj⟩ := List.mem_iff_getElem?.1 hu
  have hlt : j < a.length := by have := (List.getElem?_eq_some_iff.1 hj).1; have := h.1; omega
  obtain ⟨v, a1, a2, _⟩ := h.2 j _ (List.getElem?_eq_getElem hlt)
  rw [hj] at a1
  cases a1
  exact a2

theorem ref_new {B : Base} {σ' : List Slot} {ρ : Nat → Nat × Nat} {w' : World} {k : Nat} {e : Ent} {b cap n : Nat} (hlt : k < σ'.length) (hn : n ≤ cap) :
    Rp B (setsF σ' [(k, .ent e)]) (updρ ρ k (b, cap)) w' (.ref k e.gen n) (.slice (some ⟨b, 0, none⟩) n cap) := by
  have hg : (setsF σ' [(k, .ent e)])[k]? = some (.ent e) := by simp [setsF, hlt]
  refine .ref k e.gen n _ ⟨_, hg, Nat.le_refl _⟩ rfl (fun b' c hb => ?_)
  have := Tb.of (ρ := updρ ρ k (b, cap)) hg
  rw [hb, updρ_self] at this
  cases this
  exact ⟨rfl, hn⟩

section
variable {P : Program} {o : Oper} {opd : Operand → D} {σ : List Slot} {slot : Nat}

theorem run_append_none_at {t ty e : TypeId} {i : TyI} {ei : TyI} (hi : tyI P t = some i) (hu : i.und = .slice e) (hei : tyI P e = some ei) (w : World) (A B : Option Addr) (n cap cap2 : Nat) (hn : n ≤ cap) :
    (Builtin.append_ #[t, t] ty #[.slice A n cap, .slice B 0 cap2]).run P w = .ok (.slice A n cap) w := by
  obtain ⟨j, _, h2, _⟩ := tyI.spec hi
  rw [hu] at h2
  obtain ⟨j', h3, _, h4, _⟩ := tyI.spec hei
  have hu' := run_underlying (w := w) h2
  cases A <;> cases B <;> simp [Builtin.append_, hu', sizeOf, typeInfo, h3, Builtin.lenOf, hn, Builtin.firstCells, loadCells, loadCellsFrom, storeCells]

theorem ok_append {t : TypeId} {s x : Operand} {cs : Call} {c : Prop} {d : D} {sets : List (Nat × Slot)} {rd : List Nat} (ho : o.op = .call cs) (hcal : cs.callee = .builtin .append) (hargs : cs.args = #[s, x]) (hty : cs.argTypes = #[t, t])
    (h : appendD P t (opd s) (opd x) σ slot = some (c, d, sets, rd)) (hc : c) (hf : isFree σ slot) : WriteOk P o opd σ rd slot d sets := by
  intro B σ' ρ ev w hp hx hσ
  have hmem : ∀ y, y ∈ #[s, x] → y ∈ o.op.operands := by
    intro y hy
    rw [ho]
    simp only [Op.operands, Call.operands, hargs]
    exact Array.mem_append.2 (.inr hy)
  have h1 := hx s (hmem s (by simp))
  have h2 := hx x (hmem x (by simp))
  have hexec : ∀ v w', (Builtin.append_ #[t, t] o.type #[ev s, ev x]).run P w = .ok v w' → (execOp ev o).run P w = .ok (.value v) w' := by
    intro v w' hr
    refine run_builtin ho hcal ?_
    rw [hargs, hty]
    exact lift_value (by simpa using hr)
  unfold appendD at h
  split at h
  · cases h
  · rename_i i hi
    split at h
    · rename_i e hu
      split at h
      · cases h
      · rename_i ei hei
        split at h
        · cases h
        · rename_i c' ds m z rd' hsrc
          obtain ⟨jt, hjt, ht, _⟩ := tyI.spec hi
          rw [hu] at ht
          obtain ⟨je, hje, _, hjs, hjb, hjz⟩ := tyI.spec hei
          have hcap_ge : ∀ need old, need ≤ grownCap w need old e := fun need old => grownCap_ge w need old e
          split at h
          · -- nil
            rename_i hs
            rw [hs] at h1
            have hev := h1.v_inv
            split at h
            · simp only [Option.some.injEq, Prod.mk.injEq] at h
              obtain ⟨rfl, rfl, rfl, rfl⟩ := h
              obtain ⟨hc', h0⟩ := hc
              obtain ⟨A, cap, news, e1, e2, e3, e4, e5⟩ := srcD_sound hsrc hc' h0 hp h2 (fun k hk => hσ k (.inr hk))
              have hm : m = 0 := e4.1 rfl
              subst hm
              refine ⟨w, ρ, hp, ⟨Nat.le_refl _, fun _ _ _ => rfl, fun k hk => .inl ⟨k, hk, rfl⟩, fun _ _ h => h, fun _ _ _ _ h => h⟩, .inr ⟨.slice none 0 0, hexec _ _ ?_, .fro _ _ (.v _)⟩⟩
              rw [hev, e1]
              exact run_append_none_at hi hu hei w none A 0 0 cap (Nat.le_refl _)
            · simp only [Option.some.injEq, Prod.mk.injEq] at h
              obtain ⟨rfl, rfl, rfl, rfl⟩ := h
              obtain ⟨hc', h0, hzl, hb, h63⟩ := hc
              obtain ⟨A, cap, news, e1, e2, e3, e4, e5⟩ := srcD_sound hsrc hc' h0 hp h2 (fun k hk => hσ k (.inr hk))
              have hm : 0 < m := by rcases Nat.eq_zero_or_pos m with h | h; · have := e4.2 h; cases this
                                    · exact h
              obtain ⟨a, rfl, hcell⟩ := e5 hm
              have hr := run_append_nil (P := P) w t o.type e je ei.zero ht hje hjz a m cap news (by rw [hjs]; exact e2) hcell hm (by omega) (by rw [hjb]; omega)
              have hge := hcap_ge m 0
              have hzs : ei.zero.cells.size = ei.size := by simpa [zeroD] using hzl
              have hput := put_new (t := e) (ds := ds) (arr := some ei.size) (cap := grownCap w m 0 e) hp hf (hσ slot (.inl rfl)) (cs := news.toArray ++ Builtin.zeroCells ei.zero.cells (grownCap w m 0 e - m)) (by
                refine ⟨?_, ?_⟩
                · simp only [Array.size_append, List.size_toArray, size_zeroCells, hzs, e2]
                  rw [← Nat.add_mul]; congr 1; omega
                · simp only [Array.size_append, List.size_toArray]
                  have := e3.1
                  omega) (fun j d hd => by
                obtain ⟨u, a1, a2, a3⟩ := e3.2 j d hd
                refine ⟨u, ?_, a2, a3⟩
                rw [Array.getElem?_append, if_pos (by have := (List.getElem?_eq_some_iff.1 a1).1; simpa using this)]
                simpa using a1) (Wr.drew_alloc w _) (heap_alloc_new w.drew _)
              refine ⟨_, _, hput.2, hput.1, .inr ⟨_, hexec _ _ (by rw [hev, e1]; exact hr), ?_⟩⟩
              refine ref_new (e := ⟨0, some ei.size, e, ds, .cells⟩) ?_ hge
              have hfree : σ'[slot]? = some .free := by rw [hσ slot (.inl rfl)]; exact getS_free hf
              exact (List.getElem?_eq_some_iff.1 hfree).1
          · -- a clipped one
            rename_i sz xs hs
            rw [hs] at h1
            have hsl := h1.sl_inv
            split at h
            · simp only [Option.some.injEq, Prod.mk.injEq] at h
              obtain ⟨rfl, rfl, rfl, rfl⟩ := h
              obtain ⟨hc', h0⟩ := hc
              obtain ⟨A, cap, news, e1, e2, e3, e4, e5⟩ := srcD_sound hsrc hc' h0 hp h2 (fun k hk => hσ k (.inr hk))
              have hm : m = 0 := e4.1 rfl
              subst hm
              refine ⟨w, ρ, hp, ⟨Nat.le_refl _, fun _ _ _ => rfl, fun k hk => .inl ⟨k, hk, rfl⟩, fun _ _ h => h, fun _ _ _ _ h => h⟩, .inr ⟨ev s, hexec _ _ ?_, h1⟩⟩
              rw [e1]
              generalize ev s = u at hsl
              cases hsl with
              | sl0 _ _ A' cap' hf' => exact run_append_none_at hi hu hei w A' A 0 cap' cap (Nat.zero_le _)
              | sl _ _ _ b o' cap' n g hn hpos hcap _ _ _ _ _ => exact run_append_none_at hi hu hei w _ A n cap' cap hcap
            · simp only [Option.some.injEq, Prod.mk.injEq] at h
              obtain ⟨rfl, rfl, rfl, rfl⟩ := h
              obtain ⟨hc', hse, h0, hzl, hb, h63⟩ := hc
              obtain ⟨A, cap, news, e1, e2, e3, e4, e5⟩ := srcD_sound hsrc hc' h0 hp h2 (fun k hk => hσ k (.inr hk))
              have hm : 0 < m := by rcases Nat.eq_zero_or_pos m with h | h; · have := e4.2 h; cases this
                                    · exact h
              obtain ⟨a, rfl, hcell⟩ := e5 hm
              have hzs : ei.zero.cells.size = ei.size := by simpa [zeroD] using hzl
              obtain ⟨A0, cap0, olds, o1, o2, o3, _, o5⟩ := srcD_sound (x := .sl true sz xs) (σ := σ) (size := ei.size) rfl hse h0 hp h1 (fun k hk => by cases hk)
              have hcap0 : A0 = none ∧ xs.length = 0 ∧ cap0 = 0 ∨ cap0 = xs.length := by
                rw [o1] at hsl
                generalize hxl : xs.length = xl at *
                cases hsl with
                | sl0 _ _ _ _ hfull => have := hfull rfl; simp at hxl; omega
                | sl _ _ _ b o' cap' n g hn hpos hcap hfull _ _ _ _ => exact .inr (hfull rfl)
              have hge := hcap_ge (xs.length + m) cap0
              have hfin : ∃ w', (Builtin.append_ #[t, t] o.type #[ev s, ev x]).run P w = .ok (.slice (some ⟨w.heap.size, 0, none⟩) (xs.length + m) (grownCap w (xs.length + m) cap0 e)) w' ∧
                  w' = w.drew.alloc (.cells (olds.toArray ++ news.toArray ++ Builtin.zeroCells ei.zero.cells (grownCap w (xs.length + m) cap0 e - (xs.length + m))) e) := by
                refine ⟨_, ?_, rfl⟩
                rw [e1, o1]
                by_cases hx0 : xs.length = 0
                · have holds : olds = [] := List.eq_nil_of_length_eq_zero (by rw [o2, hx0]; simp)
                  have hc0 : cap0 = 0 := by rcases hcap0 with h | h <;> omega
                  subst holds
                  rw [hx0, hc0]
                  cases A0 with
                  | none =>
                    have hr := run_append_nil (P := P) w t o.type e je ei.zero ht hje hjz a m cap news (by rw [hjs]; exact e2) hcell hm (by omega) (by rw [hjb]; rw [hx0] at hb; simp only [Nat.zero_add] at hb; omega)
                    simpa using hr
                  | some b0 =>
                    have hr := run_append_grow (P := P) w t o.type e je ei.zero ht hje hjz b0 0 0 [] (by simp) (fun j v hv => by simp at hv) a m cap news (by rw [hjs]; exact e2) hcell (by omega) (by omega) (by rw [hjb]; exact growslice_fits (by omega) (by rw [hx0] at hb; exact hb))
                    exact hr
                · obtain ⟨a0, rfl, hcell0⟩ := o5 (by omega)
                  have hc0 : cap0 = xs.length := by rcases hcap0 with h | h <;> omega
                  exact run_append_grow (P := P) w t o.type e je ei.zero ht hje hjz a0 xs.length cap0 olds (by rw [hjs]; exact o2) hcell0 a m cap news (by rw [hjs]; exact e2) hcell (by omega) (by omega) (by rw [hjb]; exact growslice_fits (by omega) hb)
              obtain ⟨w', hr, rfl⟩ := hfin
              have hall := RepL.app o3 e3
              have hput := put_new (t := e) (ds := xs.flatten ++ ds) (arr := some ei.size) (cap := grownCap w (xs.length + m) cap0 e) hp hf (hσ slot (.inl rfl)) (cs := olds.toArray ++ news.toArray ++ Builtin.zeroCells ei.zero.cells (grownCap w (xs.length + m) cap0 e - (xs.length + m))) (by
                refine ⟨?_, ?_⟩
                · simp only [Array.size_append, List.size_toArray, size_zeroCells, hzs, e2, o2]
                  rw [← Nat.add_mul, ← Nat.add_mul]; congr 1; omega
                · simp only [Array.size_append, List.size_toArray]
                  have := hall.1
                  simp only [List.length_append] at this ⊢
                  omega) (fun j d hd => by
                obtain ⟨u, a1, a2, a3⟩ := hall.2 j d hd
                refine ⟨u, ?_, a2, a3⟩
                have hlt := (List.getElem?_eq_some_iff.1 a1).1
                rw [Array.getElem?_append, if_pos (by simpa using hlt)]
                simpa using a1) (Wr.drew_alloc w _) (heap_alloc_new w.drew _)
              refine ⟨_, _, hput.2, hput.1, .inr ⟨_, hexec _ _ hr, ?_⟩⟩
              refine ref_new (e := ⟨0, some ei.size, e, xs.flatten ++ ds, .cells⟩) ?_ hge
              have hfree : σ'[slot]? = some .free := by rw [hσ slot (.inl rfl)]; exact getS_free hf
              exact (List.getElem?_eq_some_iff.1 hfree).1
          · -- an own array
            rename_i k g n hs
            rw [hs] at h1
            split at h
            · cases h
            · rename_i en hl
              have hl' : ∀ (hk : σ'[k]? = σ[k]?), isLive σ' k g = some en := fun hk => by rw [isLive_congr hk]; exact hl
              split at h
              · simp only [Option.some.injEq, Prod.mk.injEq] at h
                obtain ⟨rfl, rfl, rfl, rfl⟩ := h
                obtain ⟨hc', h0⟩ := hc
                obtain ⟨A, cap, news, e1, e2, e3, e4, e5⟩ := srcD_sound hsrc hc' h0 hp h2 (fun k hk => hσ k (.inr (by simp [hk])))
                have hm : m = 0 := e4.1 rfl
                subst hm
                have hev := ref_live h1 (hl' (hσ k (.inr (by simp))))
                refine ⟨w, ρ, hp, ⟨Nat.le_refl _, fun _ _ _ => rfl, fun k hk => .inl ⟨k, hk, rfl⟩, fun _ _ h => h, fun _ _ _ _ h => h⟩, .inr ⟨ev s, hexec _ _ ?_, h1⟩⟩
                rw [e1, hev.1]
                exact run_append_none_at hi hu hei w _ A n _ cap hev.2
              · simp only [Option.some.injEq, Prod.mk.injEq] at h
                obtain ⟨rfl, rfl, rfl, rfl⟩ := h
                obtain ⟨hc', h0, hzl, harr, hty', hnl, hb, h63⟩ := hc
                have hl2 := hl' (hσ k (.inr (by simp)))
                obtain ⟨A, cap, news, e1, e2, e3, e4, e5⟩ := srcD_sound hsrc hc' h0 hp h2 (fun k hk => hσ k (.inr (by simp [hk])))
                have hm : 0 < m := by rcases Nat.eq_zero_or_pos m with h | h; · have := e4.2 h; cases this
                                      · exact h
                obtain ⟨a, rfl, hcell⟩ := e5 hm
                have hzs : ei.zero.cells.size = ei.size := by simpa [zeroD] using hzl
                have hev := ref_live h1 hl2
                obtain ⟨hk, hge, hkd⟩ := isLive_spec hl2
                obtain ⟨cells, f1, f2, f3⟩ := (hp.ent k en hk).row hkd
                rw [harr] at f2
                simp only at f2
                rw [hty'] at f1
                have hlt : k < σ'.length := (List.getElem?_eq_some_iff.1 hk).1
                have hold : RepL (Rp B σ' ρ w) (en.cells.take (n * ei.size)) (cells.toList.take (n * ei.size)) := by
                  refine ⟨by simp; omega, fun j d hd => ?_⟩
                  have hj : j < n * ei.size := by have := (List.getElem?_eq_some_iff.1 hd).1; simp at this; omega
                  rw [List.getElem?_take_of_lt hj] at hd
                  obtain ⟨u, a1, a2, a3⟩ := f3 j d hd
                  exact ⟨u, by rw [List.getElem?_take_of_lt hj]; simpa using a1, a2, a3⟩
                have hall := RepL.app hold e3
                by_cases hroom : n + m ≤ (ρ k).2
                · have hfit : n * ei.size + news.length ≤ cells.size := by rw [e2, f2.1, ← Nat.add_mul]; exact Nat.mul_le_mul_right _ hroom
                  have hr := run_append_room (P := P) w t o.type e je ht hje (ρ k).1 n (ρ k).2 cells f1 a m cap news (by rw [hjs]; exact e2) hcell e3.one hroom (by rw [hjs]; exact hfit)
                  have hput := put_entC hp (k := k) (e' := ⟨en.gen + 1, some ei.size, e, en.cells.take (n * ei.size) ++ ds, .cells⟩) (b := (ρ k).1) (cap := (ρ k).2) (Wr.setRow w (ρ k).1 _) (.inr ⟨en, hk, .inl ⟨Nat.le_succ _, rfl⟩⟩) rfl
                    ⟨_, setRow_heap w _ cells (cells.toList.take (n * je.size) ++ news ++ cells.toList.drop (n * je.size + news.length)).toArray _ _ f1, by
                      have := hall.1
                      simp only [List.length_append, List.length_take, Array.length_toList] at this
                      simp only [List.size_toArray, List.length_append, List.length_take, List.length_drop, Array.length_toList, hjs]
                      refine ⟨by rw [← f2.1]; omega, by omega⟩, fun j d hd => by
                      obtain ⟨u, a1, a2, a3⟩ := hall.2 j d hd
                      have hlt := (List.getElem?_eq_some_iff.1 a1).1
                      refine ⟨u, ?_, a2, a3⟩
                      rw [List.getElem?_toArray, hjs, List.getElem?_append_left hlt]
                      exact a1⟩
                  refine ⟨_, _, hput.2, hput.1, .inr ⟨_, hexec _ _ (by rw [e1, hev.1]; exact hr), ref_new (e := ⟨en.gen + 1, some ei.size, e, en.cells.take (n * ei.size) ++ ds, .cells⟩) hlt hroom⟩⟩
                · have hr := run_append_grow (P := P) w t o.type e je ei.zero ht hje hjz ⟨(ρ k).1, 0, none⟩ n (ρ k).2 (cells.toList.take (n * ei.size)) (by rw [hjs]; simp; omega) (fun j v hv => by
                      have hj : j < n * ei.size := by have := (List.getElem?_eq_some_iff.1 hv).1; simp at this; omega
                      rw [List.getElem?_take_of_lt hj] at hv
                      rw [add_plain, Nat.zero_add]
                      exact cell_at f1 (by simpa using hv)) a m cap news (by rw [hjs]; exact e2) hcell (by omega) (by omega) (by rw [hjb]; exact growslice_fits (by omega) hb)
                  have hge' := hcap_ge (n + m) (ρ k).2
                  have hput := put_entC hp (k := k) (e' := ⟨en.gen + 1, some ei.size, e, en.cells.take (n * ei.size) ++ ds, .cells⟩) (b := w.heap.size) (cap := grownCap w (n + m) (ρ k).2 e)
                    (Wr.drew_alloc w (.cells ((cells.toList.take (n * ei.size)).toArray ++ news.toArray ++ Builtin.zeroCells ei.zero.cells (grownCap w (n + m) (ρ k).2 e - (n + m))) e)) (.inr ⟨en, hk, .inr ⟨Nat.lt_succ_self _, rfl⟩⟩) rfl
                    ⟨_, heap_alloc_new w.drew _, by
                      have h1' := hall.1
                      simp only [List.length_append, List.length_take, Array.length_toList] at h1'
                      have h2' : (List.take (n * ei.size) cells.toList).length = n * ei.size := by simp; omega
                      simp only [Array.size_append, List.size_toArray, size_zeroCells, hzs, e2, h2']
                      refine ⟨by rw [← Nat.add_mul, ← Nat.add_mul]; congr 1; omega, ?_⟩
                      simp only [List.length_append, List.length_take]
                      have := e3.1
                      omega, fun j d hd => by
                      obtain ⟨u, a1, a2, a3⟩ := hall.2 j d hd
                      have hlt := (List.getElem?_eq_some_iff.1 a1).1
                      refine ⟨u, ?_, a2, a3⟩
                      rw [Array.getElem?_append, if_pos (by simpa using hlt)]
                      simpa using a1⟩
                  refine ⟨_, _, hput.2, hput.1, .inr ⟨_, hexec _ _ (by rw [e1, hev.1]; exact hr), ref_new (e := ⟨en.gen + 1, some ei.size, e, en.cells.take (n * ei.size) ++ ds, .cells⟩) hlt hge'⟩⟩
          · cases h
    · cases h
end
end Go.Proofs.Ytabliglgeiajlaa.AM
