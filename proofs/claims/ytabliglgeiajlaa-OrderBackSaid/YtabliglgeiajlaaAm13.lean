/- The abstract machine: operations that write nothing: addresses, parts, cuts, lengths. -/
import Derived.Test.YtabliglgeiajlaaAm12
set_option linter.unusedSimpArgs false
set_option linter.unusedVariables false
namespace Go.Proofs.Ytabliglgeiajlaa.AM
open Go Go.RowKit

section
variable {P : Program} {o : Oper} {opd : Operand → D} {σ : List Slot}

theorem isLive_congr {σ σ' : List Slot} {k g : Nat} (h : σ'[k]? = σ[k]?) : isLive σ' k g = isLive σ k g := by
  unfold isLive
  have e : getS σ' k = getS σ k := by rw [getS_eq, getS_eq, h]
  rw [getC_congr e]

theorem ptr_live {B : Base} {σ : List Slot} {ρ : Nat → Nat × Nat} {w : World} {k g o : Nat} {e : Ent} {u : Value} (h : Rp B σ ρ w (.ptr k g o) u) (hl : isLive σ k g = some e) : u = .pointer (some ⟨(ρ k).1, o, none⟩) := by
  obtain ⟨h1, h2, _⟩ := isLive_spec hl
  exact h.ptr_inv.2 _ _ (h2 ▸ Tb.of h1)
theorem ref_live {B : Base} {σ : List Slot} {ρ : Nat → Nat × Nat} {w : World} {k g n : Nat} {e : Ent} {u : Value} (h : Rp B σ ρ w (.ref k g n) u) (hl : isLive σ k g = some e) : u = .slice (some ⟨(ρ k).1, 0, none⟩) n (ρ k).2 ∧ n ≤ (ρ k).2 := by
  obtain ⟨h1, h2, _⟩ := isLive_spec hl
  exact h.ref_inv.2 _ _ (h2 ▸ Tb.of h1)
theorem live_used {σ : List Slot} {k g : Nat} {e : Ent} (hl : isLive σ k g = some e) : used σ k g := by
  obtain ⟨h1, h2, _⟩ := isLive_spec hl
  exact ⟨_, h1, by rw [← h2]; exact Nat.le_refl _⟩
/-- The address of another cell of a live block. -/
theorem ptr_mk {B : Base} {σ : List Slot} {ρ : Nat → Nat × Nat} {w : World} {k g : Nat} (o : Nat) {e : Ent} (hl : isLive σ k g = some e) : Rp B σ ρ w (.ptr k g o) (.pointer (some ⟨(ρ k).1, o, none⟩)) := by
  obtain ⟨h1, h2, _⟩ := isLive_spec hl
  refine .ptr k g o _ (live_used hl) rfl (fun b c hb => ?_)
  rw [← h2, Tb.of h1] at hb
  rw [Option.some.inj hb]

theorem fieldOf_spec {s : TypeId} {f : Nat} {fl : Field} (h : fieldOf (tyI P s) f = some fl) (w : World) : ∃ fs, (underlying s).run P w = .ok (.struct fs) w ∧ fs[f]? = some fl := by
  unfold fieldOf at h
  split at h
  · rename_i i hi
    split at h
    · rename_i fs hu
      have := tyI.underlying hi w
      rw [hu] at this
      exact ⟨fs, this, h⟩
    · cases h
  · cases h

theorem ok_fieldAddr {s : TypeId} {x : Operand} {f : Nat} {c : Prop} {d : D} {rd : List Nat} (ho : o.op = .fieldAddr s x f) (h : fieldAddrD P s (opd x) f σ = some (c, d, rd)) (hc : c) : PureOk P o opd σ rd d := by
  intro B σ' ρ ev w hp hx hrd
  have h1 := hx x (by rw [ho]; simp [Op.operands])
  unfold fieldAddrD at h
  split at h
  · cases h
  · rename_i fl hfl
    obtain ⟨fs, hu, hf⟩ := fieldOf_spec hfl w
    split at h
    · cases h
    · rename_i fi hfi
      have hsz := tyI.sizeOf hfi w
      have hrun : ∀ b o' (hs : fi.size ≠ 0), (Instr.fieldAt s (.pointer (some ⟨b, o', none⟩)) f).run P w = .ok (.pointer (some ⟨b, o' + fl.offset, none⟩)) w := by
        intro b o' hs
        unfold Instr.fieldAt
        rw [Sem.run_bind, hu]
        simp only [Result.andThen, hf]
        simp only [Instr.sureAddr, fieldPlace]
        simp only [pure_bind]
        rw [Sem.run_bind, Sem.run_bind, hsz]
        simp only [Result.andThen, if_neg hs, add_plain]
        rfl
      split at h
      · rename_i k g o' hd
        split at h
        · rename_i e hl
          simp only [Option.some.injEq, Prod.mk.injEq] at h
          obtain ⟨rfl, rfl, rfl⟩ := h
          rw [hd] at h1
          have hl' : isLive σ' k g = some e := by rw [isLive_congr (hrd k (by simp))]; exact hl
          have hev := ptr_live h1 hl'
          refine ⟨_, ?_, ptr_mk _ hl'⟩
          simp only [execOp, ho]
          rw [hev]
          exact lift_value (hrun _ _ hc)
        · cases h
      · rename_i ds hd
        simp only [Option.some.injEq, Prod.mk.injEq] at h
        obtain ⟨rfl, rfl, rfl⟩ := h
        rw [hd] at h1
        have hfa := h1.fad_inv
        generalize hev : ev x = u at hfa
        cases hfa with
        | fad _ b o' g hb hcell hr =>
          refine ⟨_, ?_, .fro _ _ (.fad _ b (o' + fl.offset) (fun j => g (fl.offset + j)) hb (fun j d' hj => ?_) (fun j d' hj => ?_))⟩
          · simp only [execOp, ho, hev]
            exact lift_value (hrun _ _ hc)
          · rw [List.getElem?_drop] at hj
            have := hcell _ _ hj
            rw [show o' + fl.offset + j = o' + (fl.offset + j) from by omega]
            exact this
          · rw [List.getElem?_drop] at hj
            exact hr _ _ hj
      · cases h

theorem ok_field {s : TypeId} {x : Operand} {f : Nat} {c : Prop} {d : D} (ho : o.op = .field s x f) (h : fieldD P s (opd x) f = some (c, d)) (hc : c) : PureOk P o opd σ [] d := by
  intro B σ' ρ ev w hp hx _
  have h1 := hx x (by rw [ho]; simp [Op.operands])
  unfold fieldD at h
  split at h
  · cases h
  · rename_i fl hfl
    obtain ⟨fs, hu, hf⟩ := fieldOf_spec hfl w
    split at h
    · cases h
    · rename_i fi hfi
      split at h
      · rename_i ds hd
        rw [hd] at h1
        obtain ⟨cs, hev, hl, hr⟩ := h1.agg_inv
        have hpart : ∀ v, (part fl.type cs fl.offset).run P w = .ok v w → (execOp ev o).run P w = .ok (.value v) w := by
          intro v hv
          simp only [execOp, ho]
          refine lift_value ?_
          unfold Instr.field
          rw [Sem.run_bind, hu]
          simp only [Result.andThen, hf, hev, asAgg, pure_bind]
          exact hv
        have hag := tyI.isAgg hfi w
        have hsz := tyI.sizeOf hfi w
        split at h
        · rename_i ha
          simp only [Option.some.injEq, Prod.mk.injEq] at h
          obtain ⟨rfl, rfl⟩ := h
          refine ⟨.agg (cs.extract fl.offset (fl.offset + fi.size)), hpart _ ?_, .agg _ _ (by simp; omega) (fun j d' u' hj hu' => ?_)⟩
          · unfold part
            rw [Sem.run_bind, hag, ha]
            simp only [Result.andThen, if_true]
            rw [Sem.run_bind, hsz]
            rfl
          · have hlt : j < fi.size := by have := (List.getElem?_eq_some_iff.1 hj).1; simp at this; omega
            rw [List.getElem?_take_of_lt hlt, List.getElem?_drop] at hj
            refine hr _ _ _ hj ?_
            rw [Array.getElem?_extract] at hu'
            split at hu'
            · exact hu'
            · cases hu'
        · rename_i ha
          simp only [Option.some.injEq, Prod.mk.injEq] at h
          obtain ⟨rfl, rfl⟩ := h
          have hlt : fl.offset < cs.size := by omega
          refine ⟨cs[fl.offset], hpart _ ?_, hr _ _ _ (getF_some hc) (by simp [hlt])⟩
          unfold part
          rw [Sem.run_bind, hag, ha]
          simp only [Result.andThen]
          rw [if_neg (by simp)]
          simp [hlt, Pure.pure, Sem.run]
      · cases h

theorem tyI.elem {t e : TypeId} {i : TyI} (h : tyI P t = some i) (hu : i.und = .slice e) : P.underlying t = some (.slice (P.elem t)) ∧ P.elem t = e := by
  obtain ⟨j, _, h2, _⟩ := tyI.spec h
  rw [hu] at h2
  have : P.elem t = e := by simp only [Program.elem, h2]
  exact ⟨by rw [this]; exact h2, this⟩

theorem getE_some {xs : List (List D)} {n : Nat} (h : n < xs.length) : xs[n]? = some (getE xs n) := by
  unfold getE; rw [List.getElem?_eq_getElem h]; rfl

theorem ok_indexAddr {t : TypeId} {x ix : Operand} {c : Prop} {d : D} {rd : List Nat} (ho : o.op = .indexAddr t x ix) (h : indexAddrD P t (opd x) (opd ix) σ = some (c, d, rd)) (hc : c) : PureOk P o opd σ rd d := by
  intro B σ' ρ ev w hp hx hrd
  have h1 := hx x (by rw [ho]; simp [Op.operands])
  have h2 := hx ix (by rw [ho]; simp [Op.operands])
  unfold indexAddrD at h
  split at h
  · cases h
  · rename_i ti hti
    split at h
    · rename_i e hu
      have hun := tyI.underlying hti w
      rw [hu] at hun
      split at h
      · cases h
      · rename_i ei hei
        have hsz := tyI.sizeOf hei w
        split at h
        · rename_i ik i hi
          rw [hi] at h2
          have hrun : ∀ (b o' n cap : Nat), 0 ≤ i → i < (n : Int) → (Instr.indexAt t (.slice (some ⟨b, o', none⟩) n cap) (.int ik i)).run P w = .ok (.pointer (some ⟨b, o' + i.toNat * ei.size, none⟩)) w := by
            intro b o' n cap h0 h3
            have h4 := (tyI.elem hti hu).2
            rw [run_indexAt_slice (h := (tyI.elem hti hu).1), if_pos ⟨h0, h3⟩, h4, hsz]
            simp only [Result.andThen, add_plain]
          split at h
          · rename_i full sz xs hd
            simp only [Option.some.injEq, Prod.mk.injEq] at h
            obtain ⟨rfl, rfl, rfl⟩ := h
            obtain ⟨hse, h0, h3⟩ := hc
            rw [hd] at h1
            have hsl := h1.sl_inv
            generalize hev : ev x = u at hsl
            cases hsl with
            | sl0 => simp at h3; omega
            | sl _ _ _ b o' cap n g hn hpos hcap hf hb hw hcell hr =>
              have hlt : i.toNat < xs.length := by omega
              have hx0 := getE_some hlt
              refine ⟨_, ?_, .fro _ _ (.fad _ b (o' + i.toNat * ei.size) (g i.toNat) hb (fun j d' hj => ?_) (fun j d' hj => hr _ _ _ _ hx0 hj))⟩
              · simp only [execOp, ho, hev, h2.v_inv]
                exact lift_value (hrun b o' n cap h0 (by omega))
              · have := hcell _ _ _ _ hx0 hj
                rw [hse] at this
                exact this
          · rename_i k g n hd
            split at h
            · rename_i en hl
              simp only [Option.some.injEq, Prod.mk.injEq] at h
              obtain ⟨rfl, rfl, rfl⟩ := h
              obtain ⟨h0, h3⟩ := hc
              rw [hd] at h1
              have hl' : isLive σ' k g = some en := by rw [isLive_congr (hrd k (by simp))]; exact hl
              have hev := (ref_live h1 hl').1
              refine ⟨_, ?_, ptr_mk _ hl'⟩
              simp only [execOp, ho, hev, h2.v_inv]
              have := hrun (ρ k).1 0 n (ρ k).2 h0 h3
              rw [Nat.zero_add] at this
              exact lift_value this
            · cases h
          · cases h
        · cases h
    · cases h
end
end Go.Proofs.Ytabliglgeiajlaa.AM
