/- The abstract machine: append in place, clear. -/
import Derived.Test.YtabliglgeiajlaaAm19
set_option linter.unusedSimpArgs false
set_option linter.unusedVariables false
namespace Go.Proofs.Ytabliglgeiajlaa.AM
open Go Go.RowKit

def appendInD (P : Program) (t : TypeId) (s x : D) (σ : List Slot) : Option (Prop × D × List (Nat × Slot) × List Nat) :=
  match tyI P t with
  | none => none
  | some i => match i.und with
    | .slice e => match tyI P e with
      | none => none
      | some ei => match s with
        | .ref k g n => match x with
          | .refo k2 g2 o m => match Nat.beq k k2 with
            | true => match isLive σ k g with
              | some en => some (g2 = g ∧ 0 < ei.size ∧ en.arr = some ei.size ∧ en.ty = e ∧ (n + m) * ei.size ≤ en.cells.length ∧ o + m * ei.size ≤ en.cells.length,
                  .ref k g (n + m), [(k, .ent { en with cells := splice en.cells (n * ei.size) ((en.cells.drop o).take (m * ei.size)) })], [k])
              | none => none
            | false => none
          | _ => none
        | _ => none
    | _ => none
def clearD (P : Program) (t : TypeId) (x : D) (σ : List Slot) : Option (Prop × List (Nat × Slot) × Nat) :=
  match tyI P t with
  | none => none
  | some i => match i.und with
    | .slice e => match tyI P e with
      | none => none
      | some ei => match x with
        | .refo k g o n => match isLive σ k g with
          | some en => some (0 < ei.size ∧ (zeroD ei.zero).length = ei.size ∧ solidAll (zeroD ei.zero) = true ∧ en.arr = some ei.size ∧ en.ty = e ∧ o + n * ei.size ≤ en.cells.length, [(k, .ent { en with cells := en.cells.take o })], k)
          | none => none
        | _ => none
    | _ => none

section
variable {P : Program} {o : Oper} {opd : Operand → D} {σ : List Slot} {slot : Nat}
theorem ref_keep {B : Base} {σ' : List Slot} {ρ : Nat → Nat × Nat} {w' : World} {k g n : Nat} {e : Ent} (hlt : k < σ'.length) (hg : e.gen = g) (hn : n ≤ (ρ k).2) :
    Rp B (setsF σ' [(k, .ent e)]) (updρ ρ k ((ρ k).1, (ρ k).2)) w' (.ref k g n) (.slice (some ⟨(ρ k).1, 0, none⟩) n (ρ k).2) := by
  subst hg
  exact ref_new hlt hn
theorem ok_appendIn {t : TypeId} {s x : Operand} {cs : Call} {c : Prop} {d : D} {sets : List (Nat × Slot)} {rd : List Nat} (ho : o.op = .call cs) (hcal : cs.callee = .builtin .append) (hargs : cs.args = #[s, x]) (hty : cs.argTypes = #[t, t])
    (h : appendInD P t (opd s) (opd x) σ = some (c, d, sets, rd)) (hc : c) : WriteOk P o opd σ rd slot d sets := by
  intro B σ' ρ ev w hp hx hσ
  have hmem : ∀ y, y ∈ #[s, x] → y ∈ o.op.operands := by
    intro y hy
    rw [ho]
    simp only [Op.operands, Call.operands, hargs]
    exact Array.mem_append.2 (.inr hy)
  have h1 := hx s (hmem s (by simp))
  have h2 := hx x (hmem x (by simp))
  have hexec : ∀ v w', (Builtin.append_ #[t, t] o.type #[ev s, ev x]).run P w = .ok v w' → (execOp ev o).run P w = .ok (.value v) w' := by
    intro v w' hr
    refine run_builtin ho hcal ?_
    rw [hargs, hty]
    exact lift_value (by simpa using hr)
  unfold appendInD at h
  split at h
  · cases h
  · rename_i i hi
    split at h
    · rename_i e hu
      split at h
      · cases h
      · rename_i ei hei
        split at h
        · rename_i k g n hs
          split at h
          · rename_i k2 g2 o2 m hxd
            split at h
            · rename_i hbk
              have := Nat.eq_of_beq_eq_true hbk
              subst this
              split at h
              · rename_i en hl
                simp only [Option.some.injEq, Prod.mk.injEq] at h
                obtain ⟨rfl, rfl, rfl, rfl⟩ := h
                obtain ⟨rfl, h0, harr, hty', hnm, hom⟩ := hc
                obtain ⟨jt, hjt, ht, _⟩ := tyI.spec hi
                rw [hu] at ht
                obtain ⟨je, hje, _, hjs, hjb, hjz⟩ := tyI.spec hei
                rw [hs] at h1
                rw [hxd] at h2
                have hl2 : isLive σ' k g2 = some en := by rw [isLive_congr (hσ k (.inr (by simp)))]; exact hl
                have hev := ref_live h1 hl2
                have hroom : n + m ≤ (ρ k).2 := own_cap hp hl2 harr h0 hnm
                obtain ⟨hk, hge, hkd⟩ := isLive_spec hl2
                obtain ⟨cells, f1, f2, f3⟩ := (hp.ent k en hk).row hkd
                rw [harr] at f2
                simp only at f2
                have hlt : k < σ'.length := (List.getElem?_eq_some_iff.1 hk).1
                obtain ⟨A, cap, hxv, hA⟩ := h2.refo_inv.2 _ _ (hge ▸ Tb.of hk)
                have hnm' : n * ei.size + m * ei.size ≤ en.cells.length := by rw [← Nat.add_mul]; exact hnm
                have hdl : ((en.cells.drop o2).take (m * ei.size)).length = m * ei.size := by simp; omega
                have hnl : ((cells.toList.drop o2).take (m * ei.size)).length = m * ei.size := by simp; omega
                have hrow : ∀ (j : Nat) (d : D), ((en.cells.drop o2).take (m * ei.size))[j]? = some d → ∃ u, ((cells.toList.drop o2).take (m * ei.size))[j]? = some u ∧ u.oneCell' = true ∧ Rp B σ' ρ w d u := by
                  intro j d hd
                  have hj : j < m * ei.size := by have := (List.getElem?_eq_some_iff.1 hd).1; rw [hdl] at this; exact this
                  rw [List.getElem?_take_of_lt hj, List.getElem?_drop] at hd
                  obtain ⟨u, a1, a2, a3⟩ := f3 _ d hd
                  exact ⟨u, by rw [List.getElem?_take_of_lt hj, List.getElem?_drop]; simpa using a1, a2, a3⟩
                have hrun : (Builtin.append_ #[t, t] o.type #[ev s, ev x]).run P w = .ok (.slice (some ⟨(ρ k).1, 0, none⟩) (n + m) (ρ k).2) (if m = 0 then w else w.setRow (ρ k).1 (splice cells.toList (n * ei.size) ((cells.toList.drop o2).take (m * ei.size))).toArray) := by
                  rw [hev.1, hxv]
                  by_cases hm : m = 0
                  · subst hm
                    rw [if_pos rfl]
                    exact run_append_none_at hi hu hei w _ A n _ cap hev.2
                  · rw [if_neg hm, hA (by omega)]
                    have hr := run_append_room (P := P) w t o.type e je ht hje (ρ k).1 n (ρ k).2 cells (by rw [← hty']; exact f1) ⟨(ρ k).1, o2, none⟩ m cap ((cells.toList.drop o2).take (m * ei.size)) (by rw [hjs]; exact hnl) (fun j v hv => by
                      have hj : j < m * ei.size := by have := (List.getElem?_eq_some_iff.1 hv).1; rw [hnl] at this; exact this
                      rw [List.getElem?_take_of_lt hj, List.getElem?_drop] at hv
                      rw [add_plain]
                      exact cell_at f1 (by simpa using hv)) (fun v hv => by
                      obtain ⟨j, hj⟩ := List.mem_iff_getElem?.1 hv
                      have hjl : j < m * ei.size := by have := (List.getElem?_eq_some_iff.1 hj).1; rw [hnl] at this; exact this
                      obtain ⟨u, a1, a2, _⟩ := hrow j _ (List.getElem?_eq_getElem (by rw [hdl]; exact hjl))
                      rw [hj] at a1; cases a1; exact a2) hroom (by rw [hjs, hnl]; omega)
                    rw [hr, hjs]; rfl
                have hcl : (splice cells.toList (n * ei.size) ((cells.toList.drop o2).take (m * ei.size))).length = cells.toList.length := splice_length (by rw [hnl]; simp; omega)
                have hel : (splice en.cells (n * ei.size) ((en.cells.drop o2).take (m * ei.size))).length = en.cells.length := splice_length (by rw [hdl]; omega)
                have hent : ∃ cs : Array Value, (if m = 0 then w else w.setRow (ρ k).1 (splice cells.toList (n * ei.size) ((cells.toList.drop o2).take (m * ei.size))).toArray).heap[(ρ k).1]? = some (.cells cs en.ty (0, 0)) ∧ (cs.size = (ρ k).2 * ei.size ∧ (splice en.cells (n * ei.size) ((en.cells.drop o2).take (m * ei.size))).length ≤ cs.size) ∧
                    ∀ (j : Nat) (d : D), (splice en.cells (n * ei.size) ((en.cells.drop o2).take (m * ei.size)))[j]? = some d → ∃ u, cs[j]? = some u ∧ u.oneCell' = true ∧ Rp B σ' ρ w d u := by
                  have hgo : ∀ (j : Nat) (d : D), (splice en.cells (n * ei.size) ((en.cells.drop o2).take (m * ei.size)))[j]? = some d → ∃ u, (splice cells.toList (n * ei.size) ((cells.toList.drop o2).take (m * ei.size)))[j]? = some u ∧ u.oneCell' = true ∧ Rp B σ' ρ w d u := by
                    intro j d hd
                    rw [splice_get (by rw [hdl]; omega), hdl] at hd
                    rw [splice_get (by rw [hnl]; simp; omega), hnl]
                    split at hd
                    · rename_i hcond
                      rw [if_pos hcond]
                      exact hrow _ d hd
                    · rename_i hcond
                      rw [if_neg hcond]
                      obtain ⟨u, a1, a2, a3⟩ := f3 j d hd
                      exact ⟨u, by simpa using a1, a2, a3⟩
                  by_cases hm : m = 0
                  · subst hm
                    have hsp : splice cells.toList (n * ei.size) ((cells.toList.drop o2).take (0 * ei.size)) = cells.toList := by simp [splice]
                    rw [if_pos rfl]
                    refine ⟨cells, f1, ⟨f2.1, by rw [hel]; exact f2.2⟩, fun j d hd => ?_⟩
                    obtain ⟨u, a1, a2, a3⟩ := hgo j d hd
                    rw [hsp] at a1
                    exact ⟨u, by simpa using a1, a2, a3⟩
                  · rw [if_neg hm]
                    refine ⟨_, setRow_heap w _ cells _ _ _ f1, ⟨by rw [List.size_toArray, hcl]; simpa using f2.1, by rw [List.size_toArray, hcl, hel]; simpa using f2.2⟩, fun j d hd => ?_⟩
                    obtain ⟨u, a1, a2, a3⟩ := hgo j d hd
                    exact ⟨u, by rw [List.getElem?_toArray]; exact a1, a2, a3⟩
                have hwr : Wr w (if m = 0 then w else w.setRow (ρ k).1 (splice cells.toList (n * ei.size) ((cells.toList.drop o2).take (m * ei.size))).toArray) (ρ k).1 := by
                  split
                  · exact ⟨Nat.le_refl _, fun _ _ _ => rfl, rfl, rfl, rfl⟩
                  · exact Wr.setRow w (ρ k).1 _
                have hput := put_entC hp (k := k) (e' := { en with cells := splice en.cells (n * ei.size) ((en.cells.drop o2).take (m * ei.size)) }) (b := (ρ k).1) (cap := (ρ k).2) hwr
                  (.inr ⟨en, hk, .inl ⟨Nat.le_refl _, rfl⟩⟩) hkd (by
                    obtain ⟨cs, q1, q2, q3⟩ := hent
                    exact ⟨cs, q1, by rw [harr]; exact q2, q3⟩)
                exact ⟨_, _, hput.2, hput.1, .inr ⟨_, hexec _ _ hrun, ref_keep (e := { en with cells := splice en.cells (n * ei.size) ((en.cells.drop o2).take (m * ei.size)) }) hlt hge hroom⟩⟩
              · cases h
            · cases h
          · cases h
        · cases h
    · cases h
theorem ok_clear {t : TypeId} {x : Operand} {cs : Call} {c : Prop} {sets : List (Nat × Slot)} {k : Nat} (ho : o.op = .call cs) (hcal : cs.callee = .builtin .clear) (hargs : cs.args = #[x]) (hty : cs.argTypes = #[t])
    (h : clearD P t (opd x) σ = some (c, sets, k)) (hc : c) : WriteOk P o opd σ [k] slot .any sets := by
  intro B σ' ρ ev w hp hx hσ
  have h1 := hx x (by
    rw [ho]
    simp only [Op.operands, Call.operands, hargs]
    exact Array.mem_append.2 (.inr (by simp)))
  have hexec : ∀ v w', (Builtin.clear_ #[t] o.type #[ev x]).run P w = .ok v w' → (execOp ev o).run P w = .ok (.value v) w' := by
    intro v w' hr
    refine run_builtin ho hcal ?_
    rw [hargs, hty]
    exact lift_value (by simpa using hr)
  unfold clearD at h
  split at h
  · cases h
  · rename_i i hi
    split at h
    · rename_i e hu
      split at h
      · cases h
      · rename_i ei hei
        split at h
        · rename_i k' g o2 n hxd
          split at h
          · rename_i en hl
            simp only [Option.some.injEq, Prod.mk.injEq] at h
            obtain ⟨rfl, rfl, rfl⟩ := h
            obtain ⟨h0, hzl, hzs, harr, hty', hle⟩ := hc
            rw [hxd] at h1
            have hl2 : isLive σ' k' g = some en := by rw [isLive_congr (hσ k' (.inr (by simp)))]; exact hl
            obtain ⟨hk, hge, hkd⟩ := isLive_spec hl2
            obtain ⟨cells, f1, f2, f3⟩ := (hp.ent k' en hk).row hkd
            rw [harr] at f2
            simp only at f2
            obtain ⟨A, cap, hxv, hA⟩ := h1.refo_inv.2 _ _ (hge ▸ Tb.of hk)
            have hun := tyI.underlying hi w
            rw [hu] at hun
            have hz : ei.zero.cells.size = ei.size := by simpa [zeroD] using hzl
            have hzc : (Builtin.zeroCells ei.zero.cells n).toList.length = n * ei.size := by simp [Builtin.zeroCells, hz]
            have hone : ∀ v ∈ (Builtin.zeroCells ei.zero.cells n).toList, v.oneCell' = true := by
              intro v hv
              simp only [Builtin.zeroCells, Array.toList_map, Array.toList_range, List.mem_map, List.mem_range] at hv
              obtain ⟨j, _, rfl⟩ := hv
              have hj : j % ei.zero.cells.size < ei.zero.cells.size := Nat.mod_lt _ (by omega)
              have hj2 : j % ei.zero.cells.size < (zeroD ei.zero).length := by rw [hzl, ← hz]; exact hj
              obtain ⟨u, a1, a2, _⟩ := (RepL.zero (w := w) (fz := fun _ => False) (tb := fun _ _ => none) (U := fun _ _ => False) hzs).2 _ _ (List.getElem?_eq_getElem hj2)
              have : ei.zero.cells[j % ei.zero.cells.size]? = some u := by simpa using a1
              simp only [getElem!_def, this]
              exact a2
            have hrun : (Builtin.clear_ #[t] o.type #[ev x]).run P w = .ok (.tuple #[]) (if n = 0 then w else w.setRow (ρ k').1 (splice cells.toList o2 (Builtin.zeroCells ei.zero.cells n).toList).toArray) := by
              rw [hxv]
              cases n with
              | zero =>
                rw [if_pos rfl]
                cases A <;> simp [Builtin.clear_, hun, Sem.run_bind, Result.andThen]
              | succ n =>
                rw [if_neg (by omega), hA (by omega)]
                have hst := run_storeCells_at P (ρ k').1 o2 en.ty (Builtin.zeroCells ei.zero.cells (n + 1)).toList 0 cells w f1 (by omega) hone
                simp only [Nat.add_zero] at hst
                have hzv := tyI.zeroValue hei w
                simp only [splice] at hst ⊢
                simp [Builtin.clear_, Sem.run_bind, hun, Result.andThen, hzv, hst]
            have hput : ∀ (w' : World) (cs : Array Value), Wr w w' (ρ k').1 → w'.heap[(ρ k').1]? = some (.cells cs en.ty (0, 0)) → cs.size = cells.size → (∀ j, j < o2 → cs[j]? = cells[j]?) →
                Move B σ' ρ w (setsF σ' [(k', .ent { en with cells := en.cells.take o2 })]) (updρ ρ k' ((ρ k').1, (ρ k').2)) w' ∧ Hp B (setsF σ' [(k', .ent { en with cells := en.cells.take o2 })]) (updρ ρ k' ((ρ k').1, (ρ k').2)) w' := by
              intro w' cs hw hcs hsz hpre
              refine put_entC hp (k := k') (e' := { en with cells := en.cells.take o2 }) (b := (ρ k').1) (cap := (ρ k').2) hw (.inr ⟨en, hk, .inl ⟨Nat.le_refl _, rfl⟩⟩) hkd ⟨cs, hcs, ?_, fun j d hd => ?_⟩
              · rw [harr]
                simp only [List.length_take]
                exact ⟨by rw [hsz]; exact f2.1, by rw [hsz]; omega⟩
              · have hj : j < o2 := by have := (List.getElem?_eq_some_iff.1 hd).1; simp at this; omega
                rw [List.getElem?_take_of_lt hj] at hd
                obtain ⟨u, a1, a2, a3⟩ := f3 j d hd
                exact ⟨u, by rw [hpre j hj]; exact a1, a2, a3⟩
            by_cases hn : n = 0
            · rw [if_pos hn] at hrun
              obtain ⟨h2, h3⟩ := hput w cells ⟨Nat.le_refl _, fun _ _ _ => rfl, rfl, rfl, rfl⟩ f1 rfl (fun _ _ => rfl)
              exact ⟨_, _, h3, h2, .inr ⟨_, hexec _ _ hrun, .fro _ _ (.any _)⟩⟩
            · rw [if_neg hn] at hrun
              have hcl : (splice cells.toList o2 (Builtin.zeroCells ei.zero.cells n).toList).length = cells.toList.length := splice_length (by rw [hzc]; simp; omega)
              obtain ⟨h2, h3⟩ := hput _ (splice cells.toList o2 (Builtin.zeroCells ei.zero.cells n).toList).toArray (Wr.setRow w (ρ k').1 _) (setRow_heap w _ cells _ _ _ f1) (by rw [List.size_toArray, hcl]; simp) (fun j hj => by
                rw [List.getElem?_toArray, splice_get (by rw [hzc]; simp; omega), if_neg (by omega)]; simp)
              exact ⟨_, _, h3, h2, .inr ⟨_, hexec _ _ hrun, .fro _ _ (.any _)⟩⟩
          · cases h
        · cases h
    · cases h
end
end Go.Proofs.Ytabliglgeiajlaa.AM
