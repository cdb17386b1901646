/- The abstract machine, the second part. -/
import Derived.Laws.Slices
import Derived.Laws.AppendOwn
import Derived.Laws.Tables
import Derived.Laws.CopyRow
import Derived.Test.YtabliglgeiajlaaGreatMa
set_option linter.unusedSimpArgs false
set_option linter.unusedVariables false
/- The abstract machine: operations that write nothing: addresses, parts, cuts, lengths. -/
namespace Go.Proofs.YtabliglgeiajlaaGreat.AM
open Go Go.RowKit

section
variable {P : Program} {o : Oper} {opd : Operand → D} {σ : List Slot}

theorem zAO {σ σ' : List Slot} {k g : Nat} (h : σ'[k]? = σ[k]?) : zAD σ' k g = zAD σ k g := by
  unfold zAD
  have e : zBH σ' k = zBH σ k := by rw [zBD, zBD, h]
  rw [zHZ e]

theorem zFc {B : Base} {σ : List Slot} {ρ : Nat → Nat × Nat} {w : World} {k g o : Nat} {e : Ent} {u : Value} (h : Rp B σ ρ w (.ptr k g o) u) (hl : zAD σ k g = some e) : u = .pointer (some ⟨(ρ k).1, o, none⟩) := by
  obtain ⟨h1, h2, _⟩ := zAY hl
  exact h.ptr_inv.2 _ _ (h2 ▸ Tb.of h1)
theorem zCK {B : Base} {σ : List Slot} {ρ : Nat → Nat × Nat} {w : World} {k g n : Nat} {e : Ent} {u : Value} (h : Rp B σ ρ w (.ref k g n) u) (hl : zAD σ k g = some e) : u = .slice (some ⟨(ρ k).1, 0, none⟩) n (ρ k).2 ∧ n ≤ (ρ k).2 := by
  obtain ⟨h1, h2, _⟩ := zAY hl
  exact h.ref_inv.2 _ _ (h2 ▸ Tb.of h1)
theorem zGP {σ : List Slot} {k g : Nat} {e : Ent} (hl : zAD σ k g = some e) : zBX σ k g := by
  obtain ⟨h1, h2, _⟩ := zAY hl
  exact ⟨_, h1, by rw [← h2]; exact Nat.le_refl _⟩
theorem zKg {B : Base} {σ : List Slot} {ρ : Nat → Nat × Nat} {w : World} {k g : Nat} (o : Nat) {e : Ent} (hl : zAD σ k g = some e) : Rp B σ ρ w (.ptr k g o) (.pointer (some ⟨(ρ k).1, o, none⟩)) := by
  obtain ⟨h1, h2, _⟩ := zAY hl
  refine .ptr k g o _ (zGP hl) rfl (fun b c hb => ?_)
  rw [← h2, Tb.of h1] at hb
  rw [Option.some.inj hb]

theorem zFe {s : TypeId} {f : Nat} {fl : Field} (h : zGC (tyI P s) f = some fl) (w : World) : ∃ fs, (underlying s).run P w = .ok (.struct fs) w ∧ fs[f]? = some fl := by
  unfold zGC at h
  split at h
  · rename_i i hi
    split at h
    · rename_i fs hu
      have := tyI.underlying hi w
      rw [hu] at this
      exact ⟨fs, this, h⟩
    · cases h
  · cases h

theorem zKe {s : TypeId} {x : Operand} {f : Nat} {c : Prop} {d : D} {rd : List Nat} (ho : o.op = .fieldAddr s x f) (h : zCr P s (opd x) f σ = some (c, d, rd)) (hc : c) : PureOk P o opd σ rd d := by
  intro B σ' ρ ev w hp hx hrd
  have h1 := hx x (by rw [ho]; simp [Op.operands])
  unfold zCr at h
  split at h
  · cases h
  · rename_i fl hfl
    obtain ⟨fs, hu, hf⟩ := zFe hfl w
    split at h
    · cases h
    · rename_i fi hfi
      have hsz := tyI.sizeOf hfi w
      have hrun : ∀ b o' (hs : fi.size ≠ 0), (Instr.fieldAt s (.pointer (some ⟨b, o', none⟩)) f).run P w = .ok (.pointer (some ⟨b, o' + fl.offset, none⟩)) w := by
        intro b o' hs
        unfold Instr.fieldAt
        rw [Sem.run_bind, hu]
        simp only [Result.andThen, hf]
        simp only [Instr.sureAddr, fieldPlace]
        simp only [pure_bind]
        rw [Sem.run_bind, Sem.run_bind, hsz]
        simp only [Result.andThen, if_neg hs, zAX]
        rfl
      split at h
      · rename_i k g o' hd
        split at h
        · rename_i e hl
          simp only [Option.some.injEq, Prod.mk.injEq] at h
          obtain ⟨rfl, rfl, rfl⟩ := h
          rw [hd] at h1
          have hl' : zAD σ' k g = some e := by rw [zAO (hrd k (by simp))]; exact hl
          have hev := zFc h1 hl'
          refine ⟨_, ?_, zKg _ hl'⟩
          simp only [execOp, ho]
          rw [hev]
          exact za (hrun _ _ hc)
        · cases h
      · rename_i ds hd
        simp only [Option.some.injEq, Prod.mk.injEq] at h
        obtain ⟨rfl, rfl, rfl⟩ := h
        rw [hd] at h1
        have hfa := h1.fad_inv
        generalize hev : ev x = u at hfa
        cases hfa with
        | fad _ b o' g hb hcell hr =>
          refine ⟨_, ?_, .fro _ _ (.fad _ b (o' + fl.offset) (fun j => g (fl.offset + j)) hb (fun j d' hj => ?_) (fun j d' hj => ?_))⟩
          · simp only [execOp, ho, hev]
            exact za (hrun _ _ hc)
          · rw [List.getElem?_drop] at hj
            have := hcell _ _ hj
            rw [show o' + fl.offset + j = o' + (fl.offset + j) from by omega]
            exact this
          · rw [List.getElem?_drop] at hj
            exact hr _ _ hj
      · cases h

theorem zPt {s : TypeId} {x : Operand} {f : Nat} {c : Prop} {d : D} (ho : o.op = .field s x f) (h : zIK P s (opd x) f = some (c, d)) (hc : c) : PureOk P o opd σ [] d := by
  intro B σ' ρ ev w hp hx _
  have h1 := hx x (by rw [ho]; simp [Op.operands])
  unfold zIK at h
  split at h
  · cases h
  · rename_i fl hfl
    obtain ⟨fs, hu, hf⟩ := zFe hfl w
    split at h
    · cases h
    · rename_i fi hfi
      split at h
      · rename_i ds hd
        rw [hd] at h1
        obtain ⟨cs, hev, hl, hr⟩ := h1.agg_inv
        have hpart : ∀ v, (part fl.type cs fl.offset).run P w = .ok v w → (execOp ev o).run P w = .ok (.value v) w := by
          intro v hv
          simp only [execOp, ho]
          refine za ?_
          unfold Instr.field
          rw [Sem.run_bind, hu]
          simp only [Result.andThen, hf, hev, asAgg, pure_bind]
          exact hv
        have hag := tyI.isAgg hfi w
        have hsz := tyI.sizeOf hfi w
        split at h
        · rename_i ha
          simp only [Option.some.injEq, Prod.mk.injEq] at h
          obtain ⟨rfl, rfl⟩ := h
          refine ⟨.agg (cs.extract fl.offset (fl.offset + fi.size)), hpart _ ?_, .agg _ _ (by simp; omega) (fun j d' u' hj hu' => ?_)⟩
          · unfold part
            rw [Sem.run_bind, hag, ha]
            simp only [Result.andThen, if_true]
            rw [Sem.run_bind, hsz]
            rfl
          · have hlt : j < fi.size := by have := (List.getElem?_eq_some_iff.1 hj).1; simp at this; omega
            rw [List.getElem?_take_of_lt hlt, List.getElem?_drop] at hj
            refine hr _ _ _ hj ?_
            rw [Array.getElem?_extract] at hu'
            split at hu'
            · exact hu'
            · cases hu'
        · rename_i ha
          simp only [Option.some.injEq, Prod.mk.injEq] at h
          obtain ⟨rfl, rfl⟩ := h
          have hlt : fl.offset < cs.size := by omega
          refine ⟨cs[fl.offset], hpart _ ?_, hr _ _ _ (zEq hc) (by simp [hlt])⟩
          unfold part
          rw [Sem.run_bind, hag, ha]
          simp only [Result.andThen]
          rw [if_neg (by simp)]
          simp [hlt, Pure.pure, Sem.run]
      · cases h

theorem tyI.elem {t e : TypeId} {i : TyI} (h : tyI P t = some i) (hu : i.und = .slice e) : P.underlying t = some (.slice (P.elem t)) ∧ P.elem t = e := by
  obtain ⟨j, _, h2, _⟩ := tyI.spec h
  rw [hu] at h2
  have : P.elem t = e := by simp only [Program.elem, h2]
  exact ⟨by rw [this]; exact h2, this⟩

theorem zOK {xs : List (List D)} {n : Nat} (h : n < xs.length) : xs[n]? = some (zEt xs n) := by
  unfold zEt; rw [List.getElem?_eq_getElem h]; rfl

theorem zKo {t : TypeId} {x ix : Operand} {c : Prop} {d : D} {rd : List Nat} (ho : o.op = .indexAddr t x ix) (h : zCz P t (opd x) (opd ix) σ = some (c, d, rd)) (hc : c) : PureOk P o opd σ rd d := by
  intro B σ' ρ ev w hp hx hrd
  have h1 := hx x (by rw [ho]; simp [Op.operands])
  have h2 := hx ix (by rw [ho]; simp [Op.operands])
  unfold zCz at h
  split at h
  · cases h
  · rename_i ti hti
    split at h
    · rename_i e hu
      have hun := tyI.underlying hti w
      rw [hu] at hun
      split at h
      · cases h
      · rename_i ei hei
        have hsz := tyI.sizeOf hei w
        split at h
        · rename_i ik i hi
          rw [hi] at h2
          have hrun : ∀ (b o' n cap : Nat), 0 ≤ i → i < (n : Int) → (Instr.indexAt t (.slice (some ⟨b, o', none⟩) n cap) (.int ik i)).run P w = .ok (.pointer (some ⟨b, o' + i.toNat * ei.size, none⟩)) w := by
            intro b o' n cap h0 h3
            have h4 := (tyI.elem hti hu).2
            rw [run_indexAt_slice (h := (tyI.elem hti hu).1), if_pos ⟨h0, h3⟩, h4, hsz]
            simp only [Result.andThen, zAX]
          split at h
          · rename_i full sz xs hd
            simp only [Option.some.injEq, Prod.mk.injEq] at h
            obtain ⟨rfl, rfl, rfl⟩ := h
            obtain ⟨hse, h0, h3⟩ := hc
            rw [hd] at h1
            have hsl := h1.sl_inv
            generalize hev : ev x = u at hsl
            cases hsl with
            | sl0 => simp at h3; omega
            | sl _ _ _ b o' cap n g hn hpos hcap hf hb hw hcell hr =>
              have hlt : i.toNat < xs.length := by omega
              have hx0 := zOK hlt
              refine ⟨_, ?_, .fro _ _ (.fad _ b (o' + i.toNat * ei.size) (g i.toNat) hb (fun j d' hj => ?_) (fun j d' hj => hr _ _ _ _ hx0 hj))⟩
              · simp only [execOp, ho, hev, h2.v_inv]
                exact za (hrun b o' n cap h0 (by omega))
              · have := hcell _ _ _ _ hx0 hj
                rw [hse] at this
                exact this
          · rename_i k g n hd
            split at h
            · rename_i en hl
              simp only [Option.some.injEq, Prod.mk.injEq] at h
              obtain ⟨rfl, rfl, rfl⟩ := h
              obtain ⟨h0, h3⟩ := hc
              rw [hd] at h1
              have hl' : zAD σ' k g = some en := by rw [zAO (hrd k (by simp))]; exact hl
              have hev := (zCK h1 hl').1
              refine ⟨_, ?_, zKg _ hl'⟩
              simp only [execOp, ho, hev, h2.v_inv]
              have := hrun (ρ k).1 0 n (ρ k).2 h0 h3
              rw [Nat.zero_add] at this
              exact za this
            · cases h
          · cases h
        · cases h
    · rename_i len e hu
      have hpt := (tyI.spec hti)
      obtain ⟨_, _, hun, _⟩ := hpt
      rw [hu] at hun
      have hlen : P.arrayLen t = len := by simp only [Program.arrayLen, hun]
      have hel : P.elem t = e := by simp only [Program.elem, hun]
      split at h
      · cases h
      · rename_i ei hei
        have hsz := tyI.sizeOf hei w
        split at h
        · rename_i ik i hi
          rw [hi] at h2
          have hrun : ∀ (b o' : Nat), 0 ≤ i → i < (len : Int) → (Instr.indexAt t (.pointer (some ⟨b, o', none⟩)) (.int ik i)).run P w = .ok (.pointer (some ⟨b, o' + i.toNat * ei.size, none⟩)) w := by
            intro b o' h0 h3
            rw [run_indexAt_array (h := by rw [hlen, hel]; exact hun), hlen, if_pos ⟨h0, h3⟩, hel, hsz]
            simp only [Result.andThen, zAX]
          split at h
          · rename_i k g o' hd
            split at h
            · rename_i en hl
              simp only [Option.some.injEq, Prod.mk.injEq] at h
              obtain ⟨rfl, rfl, rfl⟩ := h
              obtain ⟨h0, h3⟩ := hc
              rw [hd] at h1
              have hl' : zAD σ' k g = some en := by rw [zAO (hrd k (by simp))]; exact hl
              have hev := zFc h1 hl'
              refine ⟨_, ?_, zKg _ hl'⟩
              simp only [execOp, ho, hev, h2.v_inv]
              exact za (hrun (ρ k).1 o' h0 h3)
            · cases h
          · rename_i ds hd
            simp only [Option.some.injEq, Prod.mk.injEq] at h
            obtain ⟨rfl, rfl, rfl⟩ := h
            obtain ⟨h0, h3⟩ := hc
            rw [hd] at h1
            have hf := h1.fad_inv
            generalize hev : ev x = u at hf
            cases hf with
            | fad _ b o' g hb hcell hr =>
              refine ⟨_, ?_, .fro _ _ (.fad _ b (o' + i.toNat * ei.size) (fun j => g (i.toNat * ei.size + j)) hb (fun j d' hj => ?_) (fun j d' hj => ?_))⟩
              · simp only [execOp, ho, hev, h2.v_inv]
                exact za (hrun b o' h0 h3)
              · rw [List.getElem?_drop] at hj
                rw [Nat.add_assoc]
                exact hcell _ _ hj
              · rw [List.getElem?_drop] at hj
                exact hr _ _ hj
          · cases h
        · cases h
    · cases h
end

def isB (o : Option Value) (d i : Int) : Prop := (o = none ∧ i = d) ∨ ∃ k, o = some (.int k i)
theorem zIT {P : Program} {s : Bool} {lo hi mx : Option Value} {l h m : Int} {len cap : Nat} (hl : isB lo 0 l) (hh : isB hi len h) (hm : isB mx cap m) (hx : mx ≠ none → hi ≠ none)
    (h0 : 0 ≤ l) (h1 : l ≤ h) (h2 : h ≤ m) (h3 : m ≤ cap) (w : World) : (Instr.sliceBounds s len cap lo hi mx).run P w = .ok (l.toNat, h.toNat, m.toNat) w := by
  have eh : (h.toNat : Int) = h := Int.toNat_of_nonneg (by omega)
  have em : (m.toNat : Int) = m := Int.toNat_of_nonneg (by omega)
  have hh0 : 0 ≤ h := by omega
  have hm0 : 0 ≤ m := by omega
  rcases hm with ⟨rfl, rfl⟩ | ⟨km, rfl⟩
  · rcases hh with ⟨rfl, rfl⟩ | ⟨kh, rfl⟩ <;> rcases hl with ⟨rfl, rfl⟩ | ⟨kl, rfl⟩ <;>
      simp_all [Instr.sliceBounds, run_sliceBound]
  · rcases hh with ⟨rfl, rfl⟩ | ⟨kh, rfl⟩
    · exact absurd rfl (hx (by simp))
    · rcases hl with ⟨rfl, rfl⟩ | ⟨kl, rfl⟩ <;>
      simp_all [Instr.sliceBounds, run_sliceBound]

section
variable {P : Program} {o : Oper} {opd : Operand → D} {σ : List Slot}

theorem zMw {B : Base} {σ' : List Slot} {ρ : Nat → Nat × Nat} {w : World} {ev : Operand → Value} {x : Option Operand} {d i : Int} (h : zAv (x.map opd) d = some i)
    (hx : ∀ y, x = some y → Rp B σ' ρ w (opd y) (ev y)) : isB (x.map ev) d i := by
  cases x with
  | none => simp only [zAv, Option.map_none, Option.some.injEq] at h; exact .inl ⟨rfl, h.symm⟩
  | some y =>
    have := hx y rfl
    simp only [zAv, Option.map_some] at h
    split at h
    · rename_i k n hd
      rw [hd] at this
      cases h
      exact .inr ⟨k, by rw [Option.map_some, this.v_inv]⟩
    · cases h

theorem zPC {t : TypeId} {x ix : Operand} {c : Prop} {d : D} (ho : o.op = .index t x ix) (h : zIG (opd x) (opd ix) (tyI P t) = some (c, d)) (hc : c) : PureOk P o opd σ [] d := by
  intro B σ' ρ ev w hp hx _
  have h1 := hx x (by rw [ho]; simp [Op.operands])
  have h2 := hx ix (by rw [ho]; simp [Op.operands])
  unfold zIG at h
  split at h
  · cases h
  · rename_i i hi
    split at h
    · rename_i hu
      split at h
      · rename_i s hs
        split at h
        · rename_i k n hn
          simp only [Option.some.injEq, Prod.mk.injEq] at h
          obtain ⟨rfl, rfl⟩ := h
          rw [hs] at h1
          rw [hn] at h2
          refine ⟨_, ?_, .fro _ _ (.v _)⟩
          simp only [execOp, ho, h1.v_inv, h2.v_inv]
          refine za ?_
          have hun := tyI.underlying hi w
          rw [hu] at hun
          have hlt : n.toNat < s.size := by omega
          have hb : (s[n.toNat]'hlt).toNat = (zBS s n : Int) := by
            unfold zBS
            rw [List.getD_eq_getElem?_getD]
            have : n.toNat < s.data.toList.length := by simpa using hlt
            rw [List.getElem?_eq_getElem this]
            rfl
          unfold Instr.index
          simp only [asIntOf, pure_bind]
          rw [Sem.run_bind, hun]
          simp only [Result.andThen, if_pos hc.1]
          rw [show s[n.toNat]? = some s[n.toNat] from getElem?_pos s _ hlt]
          simp only [Pure.pure, Sem.run, hb]
        · cases h
      · cases h
    · cases h

theorem zOS {t : TypeId} {x : Operand} {lo hi mx : Option Operand} (y : Operand) (h : lo = some y ∨ hi = some y ∨ mx = some y) : y ∈ (Op.slice t x lo hi mx).operands := by
  rcases h with rfl | rfl | rfl <;> simp [Op.operands]

theorem zJy {B : Base} {σ' : List Slot} {ρ : Nat → Nat × Nat} {w : World} {k g sz h : Nat} {en : Ent} (hp : Hp B σ' ρ w) (hl : zAD σ' k g = some en) (ha : en.arr = some sz) (h0 : 0 < sz) (hh : h * sz ≤ en.cells.length) : h ≤ (ρ k).2 := by
  obtain ⟨hk, _, hkd⟩ := zAY hl
  obtain ⟨cs, _, e2, _⟩ := (hp.ent k en hk).row hkd
  rw [ha] at e2
  simp only at e2
  exact Nat.le_of_mul_le_mul_right (a := h) (by omega) h0
theorem zLe {t : TypeId} {x : Operand} {lo hi mx : Option Operand} {c : Prop} {d : D} {rd : List Nat} (ho : o.op = .slice t x lo hi mx)
    (h : zFC P t (opd x) (lo.map opd) (hi.map opd) (mx.map opd) σ = some (c, d, rd)) (hm : mx ≠ none → hi ≠ none) (hc : c) : PureOk P o opd σ rd d := by
  intro B σ' ρ ev w hp hx hrd
  have h1 := hx x (by rw [ho]; simp [Op.operands])
  have hbd : ∀ (z : Option Operand) (d i : Int), (z = lo ∨ z = hi ∨ z = mx) → zAv (z.map opd) d = some i → isB (z.map ev) d i := fun z d i hz hb =>
    zMw hb (fun y hy => hx y (by rw [ho]; exact zOS y (by rcases hz with rfl | rfl | rfl; exact .inl hy; exact .inr (.inl hy); exact .inr (.inr hy))))
  unfold zFC at h
  split at h
  · cases h
  · rename_i ti hti
    split at h
    · rename_i hu
      split at h
      · rename_i s hs
        split at h
        · rename_i c' d' hstr
          simp only [Option.some.injEq, Prod.mk.injEq] at h
          obtain ⟨rfl, rfl, rfl⟩ := h
          unfold zHr at hstr
          split at hstr
          · cases hstr
          · rename_i hmx
            have hmx' : mx = none := by cases mx <;> simp_all
            subst hmx'
            split at hstr
            · rename_i l hh hl1 hh1
              simp only [Option.some.injEq, Prod.mk.injEq] at hstr
              obtain ⟨rfl, rfl⟩ := hstr
              rw [hs] at h1
              refine ⟨_, ?_, .fro _ _ (.v _)⟩
              obtain ⟨j, _, hund, _⟩ := tyI.spec hti
              rw [hu] at hund
              simp only [execOp, ho, h1.v_inv, Option.map_none]
              refine za ?_
              rw [run_sliceAt_string (h := hund)]
              unfold Instr.slice
              rw [Sem.run_bind, run_underlying hund]
              simp only [Result.andThen, Option.isSome_none]
              have := zIT (P := P) (s := false) (w := w) (len := s.size) (cap := s.size) (hbd lo _ _ (.inl rfl) hl1) (hbd hi _ _ (.inr (.inl rfl)) hh1) (mx := none) (.inl ⟨rfl, rfl⟩) (fun h => absurd rfl h) hc.1 hc.2.1 hc.2.2 (Int.le_refl _)
              simp only [Bool.false_eq_true, if_false, pure_bind]
              rw [Sem.run_bind, this]
              rfl
            · cases hstr
        · cases h
      · cases h
    · rename_i e hu
      have hel := tyI.elem hti hu
      split at h
      · cases h
      · rename_i ei hei
        have hsz := tyI.sizeOf hei w
        have hrun : ∀ (A : Option Addr) (n cap : Nat) (l hh m : Int), isB (lo.map ev) 0 l → isB (hi.map ev) n hh → isB (mx.map ev) cap m → 0 ≤ l → l ≤ hh → hh ≤ m → m ≤ cap →
            (Instr.sliceAt t (.slice A n cap) (lo.map ev) (hi.map ev) (mx.map ev)).run P w = .ok (sliced A l.toNat hh.toNat m.toNat ei.size) w := by
          intro A n cap l hh m i1 i2 i3 c0 c1 c2 c3
          rw [run_sliceAt_slice (h := hel.1), run_slice_any (ht := hel.1), zIT i1 i2 i3 (fun h' => by simpa using hm (by simpa using h')) c0 c1 c2 c3]
          simp only [Result.andThen, hel.2, hsz]
        split at h
        · rename_i full sz xs hxd
          rw [hxd] at h1
          have hsl := h1.sl_inv
          -- what a part comes to
          have hpart : ∀ (l hh m : Nat) (fu : Bool) (A : Option Addr) (n cap : Nat), RepF w (Fz B σ' ρ w) (.sl full sz xs) (.slice A n cap) → sz = ei.size → l ≤ hh → hh ≤ xs.length → hh ≤ m → m ≤ cap → (fu = true → m = hh) →
              RepF w (Fz B σ' ρ w) (.sl fu sz (sub xs l hh)) (sliced A l hh m ei.size) := by
            intro l hh m fu A n cap hR hse h1 h2 h3 h4 h5
            have hlen : (sub xs l hh).length = hh - l := by simp [sub]; omega
            unfold sliced
            by_cases he : hh = l
            · have : sub xs l hh = [] := List.eq_nil_of_length_eq_zero (by omega)
              rw [this, show hh - l = 0 by omega]
              exact .sl0 _ _ _ _ (fun hf => by have := h5 hf; omega)
            · rw [if_neg (by omega : ¬ m = l)]
              cases hR with
              | sl0 => simp at h2; omega
              | sl _ _ _ b o' cap n g hn hpos hcap hf hb hw hcell hr =>
                have hget : ∀ (i : Nat) (x : List D), (sub xs l hh)[i]? = some x → xs[l + i]? = some x := by
                  intro i x hi
                  simp only [sub, List.getElem?_drop] at hi
                  rw [List.getElem?_take] at hi
                  split at hi
                  · exact hi
                  · cases hi
                simp only [Option.map_some, zAX]
                refine .sl fu sz _ b (o' + l * ei.size) (m - l) (hh - l) (fun i j => g (l + i) j) (by omega) (by omega) (by omega) (fun hf => by have := h5 hf; omega) hb (fun x hx => ?_) (fun i x j d hi hj => ?_) (fun i x j d hi hj => hr _ _ _ _ (hget i x hi) hj)
                · exact hw x (List.mem_of_mem_take (List.mem_of_mem_drop hx))
                · have := hcell _ _ _ _ (hget i x hi) hj
                  rw [← hse, show o' + l * sz + i * sz + j = o' + (l + i) * sz + j from by rw [Nat.add_mul]; omega]
                  exact this
          have hform : ∃ A n cap, ev x = .slice A n cap ∧ n = xs.length ∧ n ≤ cap := by
            generalize ev x = u at hsl
            cases hsl with
            | sl0 _ _ A cap _ => exact ⟨A, 0, cap, rfl, rfl, Nat.zero_le _⟩
            | sl _ _ _ b o' cap n g hn _ hcap _ _ _ _ _ => exact ⟨_, n, cap, rfl, hn, hcap⟩
          obtain ⟨A, n, cap, hev, hn, hcap⟩ := hform
          rw [hev] at hsl
          split at h
          · rename_i hmx
            have hmx' : mx = none := by cases mx <;> simp_all
            subst hmx'
            split at h
            · rename_i l hh hl1 hh1
              simp only [Option.some.injEq, Prod.mk.injEq] at h
              obtain ⟨rfl, rfl, rfl⟩ := h
              obtain ⟨hse, c0, c1, c2⟩ := hc
              have := hrun A n cap l hh cap (hbd lo _ _ (.inl rfl) hl1) (by rw [hn]; exact hbd hi _ _ (.inr (.inl rfl)) hh1) (.inl ⟨rfl, rfl⟩) c0 c1 (by omega) (Int.le_refl _)
              refine ⟨_, ?_, .fro _ _ (hpart l.toNat hh.toNat cap false A n cap hsl hse (by omega) (by omega) (by omega) (Nat.le_refl _) (fun h => by cases h))⟩
              simp only [execOp, ho]
              rw [hev]
              exact za this
            · cases h
          · rename_i m' hmx
            split at h
            · rename_i l hh m hl1 hh1 hm1
              simp only [Option.some.injEq, Prod.mk.injEq] at h
              obtain ⟨rfl, rfl, rfl⟩ := h
              obtain ⟨hse, c0, c1, c2, rfl⟩ := hc
              have hm2 : isB (mx.map ev) cap m := by
                rcases hbd mx _ _ (.inr (.inr rfl)) (by rw [hmx]; exact hm1) with ⟨e, _⟩ | e
                · exfalso; cases mx <;> simp_all
                · exact .inr e
              have := hrun A n cap l m m (hbd lo _ _ (.inl rfl) hl1) (by rw [hn]; exact hbd hi _ _ (.inr (.inl rfl)) hh1) hm2 c0 c1 (Int.le_refl _) (by omega)
              refine ⟨_, ?_, .fro _ _ (hpart l.toNat m.toNat m.toNat true A n cap hsl hse (by omega) (by omega) (Nat.le_refl _) (by omega) (fun _ => rfl))⟩
              simp only [execOp, ho]
              rw [hev]
              exact za this
            · cases h
        · -- nil stays nil
          rename_i hxd
          rw [hxd] at h1
          have hev := h1.v_inv
          split at h
          · rename_i hmx
            have hmx' : mx = none := by cases mx <;> simp_all
            subst hmx'
            split at h
            · rename_i l hh hl1 hh1
              simp only [Option.some.injEq, Prod.mk.injEq] at h
              obtain ⟨rfl, rfl, rfl⟩ := h
              obtain ⟨c0, c1, c2⟩ := hc
              have := hrun none 0 0 l hh 0 (hbd lo _ _ (.inl rfl) hl1) (hbd hi _ _ (.inr (.inl rfl)) hh1) (.inl ⟨rfl, rfl⟩) c0 c1 (by omega) (by omega)
              refine ⟨.slice none 0 0, ?_, .fro _ _ (.v _)⟩
              simp only [execOp, ho]
              rw [hev]
              refine za (this.trans ?_)
              have e1 : l = 0 := by omega
              have e2 : hh = 0 := by omega
              subst e1; subst e2
              simp [sliced]
            · cases h
          · rename_i m' hmx
            split at h
            · rename_i l hh m hl1 hh1 hm1
              simp only [Option.some.injEq, Prod.mk.injEq] at h
              obtain ⟨rfl, rfl, rfl⟩ := h
              obtain ⟨c0, c1, c2, rfl⟩ := hc
              have hm2 : isB (mx.map ev) 0 m := by
                rcases hbd mx _ _ (.inr (.inr rfl)) (by rw [hmx]; exact hm1) with ⟨e, _⟩ | e
                · exfalso; cases mx <;> simp_all
                · exact .inr e
              have := hrun none 0 0 l m m (hbd lo _ _ (.inl rfl) hl1) (hbd hi _ _ (.inr (.inl rfl)) hh1) hm2 c0 c1 (by omega) (by omega)
              refine ⟨.slice none 0 0, ?_, .fro _ _ (.v _)⟩
              simp only [execOp, ho]
              rw [hev]
              refine za (this.trans ?_)
              have e1 : l = 0 := by omega
              have e2 : m = 0 := by omega
              subst e1; subst e2
              simp [sliced]
            · cases h
        · rename_i k g n hxd
          rw [hxd] at h1
          split at h
          · rename_i hmx
            have hmx' : mx = none := by cases mx <;> simp_all
            subst hmx'
            split at h
            · rename_i hlo
              have hlo' : lo = none := by cases lo <;> simp_all
              subst hlo'
              split at h
              · rename_i hh hh1
                split at h
                · rename_i en hl
                  simp only [Option.some.injEq, Prod.mk.injEq] at h
                  obtain ⟨rfl, rfl, rfl⟩ := h
                  obtain ⟨c0, c1⟩ := hc
                  have hl' : zAD σ' k g = some en := by rw [zAO (hrd k (by simp))]; exact hl
                  have hev := zCK h1 hl'
                  have := hrun (some ⟨(ρ k).1, 0, none⟩) n (ρ k).2 0 hh (ρ k).2 (.inl ⟨rfl, rfl⟩) (hbd hi _ _ (.inr (.inl rfl)) hh1) (.inl ⟨rfl, rfl⟩) (Int.le_refl _) c0 (by omega) (Int.le_refl _)
                  refine ⟨.slice (some ⟨(ρ k).1, 0, none⟩) hh.toNat (ρ k).2, ?_, .ref k g _ _ (zGP hl') rfl (fun b c' hb => ?_)⟩
                  · simp only [execOp, ho]
                    rw [hev.1]
                    refine za (this.trans ?_)
                    simp [sliced, zAX]
                  · obtain ⟨h3, h4, _⟩ := zAY hl'
                    rw [← h4, Tb.of h3] at hb
                    rw [Option.some.inj hb]
                    exact ⟨rfl, by have := hev.2; rw [Option.some.inj hb] at this; omega⟩
                · cases h
              · cases h
            · rename_i lo' hlo
              split at h
              · rename_i l hh hl1 hh1
                split at h
                · rename_i en hl
                  simp only [Option.some.injEq, Prod.mk.injEq] at h
                  obtain ⟨rfl, rfl, rfl⟩ := h
                  obtain ⟨c0, c1, c2, c3, c4⟩ := hc
                  have hl' : zAD σ' k g = some en := by rw [zAO (hrd k (by simp))]; exact hl
                  have hev := zCK h1 hl'
                  have hcap := zJy hp hl' c3 c2 c4
                  have := hrun (some ⟨(ρ k).1, 0, none⟩) n (ρ k).2 l hh (ρ k).2 (hbd lo _ _ (.inl rfl) (by rw [hlo]; exact hl1)) (hbd hi _ _ (.inr (.inl rfl)) hh1) (.inl ⟨rfl, rfl⟩) c0 c1 (by omega) (Int.le_refl _)
                  refine ⟨sliced (some ⟨(ρ k).1, 0, none⟩) l.toNat hh.toNat ((ρ k).2 : Int).toNat ei.size, ?_, .refo k g _ _ _ (zGP hl') rfl (fun b c' hb => ?_)⟩
                  · simp only [execOp, ho]
                    rw [hev.1]
                    exact za this
                  · obtain ⟨h3, h4, _⟩ := zAY hl'
                    rw [← h4, Tb.of h3] at hb
                    rw [Option.some.inj hb]
                    refine ⟨_, _, rfl, fun hpos => ?_⟩
                    have hb2 : (ρ k).2 = c' := by rw [Option.some.inj hb]
                    rw [if_neg (by omega)]
                    simp [zAX]
                · cases h
              · cases h
          · rename_i m' hmx
            split at h
            · rename_i l hh m hl1 hh1 hm1
              split at h
              · rename_i en hl
                simp only [Option.some.injEq, Prod.mk.injEq] at h
                obtain ⟨rfl, rfl, rfl⟩ := h
                obtain ⟨c0, c1, c2, c3, c4, c5⟩ := hc
                have hl' : zAD σ' k g = some en := by rw [zAO (hrd k (by simp))]; exact hl
                have hev := zCK h1 hl'
                have hcap := zJy hp hl' c4 c3 c5
                have hm2 : isB (mx.map ev) (ρ k).2 m := by
                  rcases hbd mx _ _ (.inr (.inr rfl)) (by rw [hmx]; exact hm1) with ⟨e, _⟩ | e
                  · exfalso; cases mx <;> simp_all
                  · exact .inr e
                have := hrun (some ⟨(ρ k).1, 0, none⟩) n (ρ k).2 l hh m (hbd lo _ _ (.inl rfl) hl1) (hbd hi _ _ (.inr (.inl rfl)) hh1) hm2 c0 c1 c2 (by omega)
                refine ⟨sliced (some ⟨(ρ k).1, 0, none⟩) l.toNat hh.toNat m.toNat ei.size, ?_, .fro _ _ (.any _)⟩
                simp only [execOp, ho]
                rw [hev.1]
                exact za this
              · cases h
            · cases h
        · cases h
    · cases h

theorem zLv {x : Operand} {d : D} {rd : List Nat} (ho : o.op = .nilCheck x) (h : zDT (opd x) σ = some (d, rd)) : PureOk P o opd σ rd d := by
  intro B σ' ρ ev w hp hx hrd
  have h1 := hx x (by rw [ho]; simp [Op.operands])
  unfold zDT at h
  split at h
  · rename_i k g o' hd
    split at h
    · rename_i e hl
      simp only [Option.some.injEq, Prod.mk.injEq] at h
      obtain ⟨rfl, rfl⟩ := h
      rw [hd] at h1
      have hl' : zAD σ' k g = some e := by rw [zAO (hrd k (by simp))]; exact hl
      have hev := zFc h1 hl'
      refine ⟨_, ?_, zKg o' hl'⟩
      simp only [execOp, ho]
      rw [hev]
      rfl
    · cases h
  · rename_i ds hd
    simp only [Option.some.injEq, Prod.mk.injEq] at h
    obtain ⟨rfl, rfl⟩ := h
    rw [hd] at h1
    have h2 := h1.fad_inv
    refine ⟨ev x, ?_, h1⟩
    generalize hev : ev x = u at h2
    cases h2 with
    | fad _ b o' g _ _ _ =>
      simp only [execOp, ho]
      rw [hev]
      rfl
  · rename_i f caps hd
    simp only [Option.some.injEq, Prod.mk.injEq] at h
    obtain ⟨rfl, rfl⟩ := h
    rw [hd] at h1
    obtain ⟨cs, hev, _⟩ := h1.fn_inv
    refine ⟨ev x, ?_, h1⟩
    simp only [execOp, ho]
    rw [hev]
    rfl
  · cases h

theorem zBN {b : Builtin} {c : Call} {ev : Operand → Value} {v : Value} {w w' : World} (ho : o.op = .call c) (hcal : c.callee = .builtin b)
    (hr : (builtin b c.argTypes o.type (c.args.map fun | .const _ => true | _ => false) (c.args.map ev)).run P w = .ok (.value v) w') : (execOp ev o).run P w = .ok (.value v) w' := by
  simp only [execOp, ho, resolve, hcal, pure_bind, invoke]
  exact hr
end

def zDC (ρ : Nat → Nat × Nat) (k : Nat) (p : Nat × Nat) : Nat → Nat × Nat := fun j => if j = k then p else ρ j
theorem zBh {ρ : Nat → Nat × Nat} {k : Nat} {p : Nat × Nat} : zDC ρ k p k = p := by simp [zDC]
theorem zDo {ρ : Nat → Nat × Nat} {k j : Nat} {p : Nat × Nat} (h : j ≠ k) : zDC ρ k p j = ρ j := by simp [zDC, h]

structure Wr (w w' : World) (b : Nat) : Prop where
  size : w.heap.size ≤ w'.heap.size
  keep : ∀ j, j < w.heap.size → j ≠ b → w'.heap[j]? = w.heap[j]?
  os : w'.os = w.os
  tape : w'.tape = w.tape
  output : w'.output = w.output

theorem zGL {B : Base} {σ : List Slot} {ρ : Nat → Nat × Nat} {w w' : World} (h : Hp B σ ρ w) {k : Nat} {e' : Ent} {b cap : Nat} (hw : Wr w w' b)
    (hk : (σ[k]? = some .free ∧ b = w.heap.size) ∨ ∃ e, σ[k]? = some (.ent e) ∧ ((e.gen ≤ e'.gen ∧ (b, cap) = ρ k) ∨ (e.gen < e'.gen ∧ b = w.heap.size)))
    (hent : ∃ (cs : Array Value) (o : Obj), w'.heap[b]? = some o ∧ zGt e' cs o ∧ zLL e' cs (b, cap) ∧
      ∀ (j : Nat) (d : D), e'.cells[j]? = some d → ∃ u, cs[j]? = some u ∧ (e'.kd = .cells → u.oneCell' = true) ∧ Rp B σ ρ w d u) :
    Move B σ ρ w (σ.set k (.ent e')) (zDC ρ k (b, cap)) w' ∧ Hp B (σ.set k (.ent e')) (zDC ρ k (b, cap)) w' := by
  have hlt : k < σ.length := by
    rcases hk with ⟨h, _⟩ | ⟨e, h, _⟩ <;> exact (List.getElem?_eq_some_iff.1 h).1
  have hget : ∀ j, (σ.set k (.ent e'))[j]? = if j = k then some (.ent e') else σ[j]? := by
    intro j
    rw [List.getElem?_set]
    by_cases hj : k = j
    · subst hj; simp [hlt]
    · rw [if_neg hj, if_neg (fun h => hj h.symm)]
  have hbcase : (live σ k ∧ (b, cap) = ρ k) ∨ b = w.heap.size := by
    rcases hk with ⟨_, h⟩ | ⟨e, h, ⟨_, h'⟩ | ⟨_, h'⟩⟩
    · exact .inr h
    · exact .inl ⟨⟨e, h⟩, h'⟩
    · exact .inr h'
  have hlive : ∀ j, live (σ.set k (.ent e')) j → j = k ∨ (j ≠ k ∧ live σ j) := by
    rintro j ⟨e, he⟩
    rw [hget] at he
    by_cases hj : j = k
    · exact .inl hj
    · rw [if_neg hj] at he; exact .inr ⟨hj, e, he⟩
  -- no other live key has this block
  have hother : ∀ j, j ≠ k → live σ j → (ρ j).1 ≠ b := by
    intro j hj hl hb
    rcases hbcase with ⟨hlk, h'⟩ | h'
    · exact hj (h.inj j k hl hlk (by rw [hb, ← h']))
    · have := h.lt hl; omega
  have hmove : Move B σ ρ w (σ.set k (.ent e')) (zDC ρ k (b, cap)) w' := {
    size := hw.size
    keep := fun j hj hnl => hw.keep j hj (fun hb => by
      rcases hbcase with ⟨hlk, h'⟩ | h'
      · exact hnl k hlk (by rw [← h', hb])
      · omega)
    lives := fun j hj => by
      rcases hlive j hj with rfl | ⟨hj, hl⟩
      · rw [zBh]
        rcases hbcase with ⟨hlk, h'⟩ | h'
        · exact .inl ⟨j, hlk, by rw [← h']⟩
        · exact .inr (by show _ ≤ b; omega)
      · rw [zDo hj]; exact .inl ⟨j, hl, rfl⟩
    uses := fun j g ⟨s, hs, hg⟩ => by
      by_cases hj : j = k
      · subst hj
        refine ⟨.ent e', by rw [hget, if_pos rfl], ?_⟩
        rcases hk with ⟨h1, _⟩ | ⟨e, h1, h2⟩
        · rw [h1] at hs; cases hs; exact hg.elim
        · rw [h1] at hs; cases hs
          have hg' : g ≤ e.gen := hg
          show g ≤ e'.gen
          rcases h2 with ⟨h2, _⟩ | ⟨h2, _⟩ <;> omega
      · exact ⟨s, by rw [hget, if_neg hj]; exact hs, hg⟩
    tabs := fun j g p ⟨s, hs, hg⟩ ht => by
      obtain ⟨e2, he2, hg2, hp2⟩ := Tb.live ht
      rw [hget] at he2
      by_cases hj : j = k
      · subst hj
        rw [if_pos rfl] at he2
        simp only [Option.some.injEq, Slot.ent.injEq] at he2
        subst he2
        rw [zBh] at hp2
        rcases hk with ⟨h1, _⟩ | ⟨e, h1, h2⟩
        · rw [h1] at hs; cases hs; exact hg.elim
        · rw [h1] at hs; cases hs
          have hg' : g ≤ e.gen := hg
          rcases h2 with ⟨h2, h3⟩ | ⟨h2, _⟩
          · have he : e.gen = g := by omega
            rw [← he, Tb.of h1, ← h3, hp2]
          · omega
      · rw [if_neg hj] at he2
        rw [zDo hj] at hp2
        have := Tb.of (ρ := ρ) he2
        rw [hg2, hp2] at this
        exact this }
  refine ⟨hmove, hmove.hp h hw.os hw.tape hw.output (fun j e he => ?_) (fun j j' hj hj' hb => ?_)⟩
  · rw [hget] at he
    by_cases hj : j = k
    · subst hj
      rw [if_pos rfl] at he
      simp only [Option.some.injEq, Slot.ent.injEq] at he
      subst he
      rw [zBh]
      obtain ⟨cs, o, h1, h0, h2, h3⟩ := hent
      exact ⟨cs, o, h1, h0, h2, fun j d hd => let ⟨u, a1, a2, a3⟩ := h3 j d hd; ⟨u, a1, a2, hmove.rp a3⟩⟩
    · rw [if_neg hj] at he
      rw [zDo hj]
      exact hmove.entOk (h.ent j e he) (hw.keep _ (h.lt ⟨e, he⟩) (hother j hj ⟨e, he⟩))
  · rcases hlive j hj with rfl | ⟨h1, h2⟩ <;> rcases hlive j' hj' with rfl | ⟨h1', h2'⟩
    · rfl
    · rw [zBh, zDo h1'] at hb
      exact absurd hb.symm (hother j' h1' h2')
    · rw [zBh, zDo h1] at hb
      exact absurd hb (hother j h1 h2)
    · rw [zDo h1, zDo h1'] at hb
      exact h.inj j j' h2 h2' hb

theorem zDi {B : Base} {σ : List Slot} {ρ : Nat → Nat × Nat} {w w' : World} (h : Hp B σ ρ w) {k : Nat} {e' : Ent} {b cap : Nat} (hw : Wr w w' b)
    (hk : (σ[k]? = some .free ∧ b = w.heap.size) ∨ ∃ e, σ[k]? = some (.ent e) ∧ ((e.gen ≤ e'.gen ∧ (b, cap) = ρ k) ∨ (e.gen < e'.gen ∧ b = w.heap.size)))
    (hkd : e'.kd = .cells)
    (hent : ∃ cs : Array Value, w'.heap[b]? = some (.cells cs e'.ty (0, 0)) ∧ (match e'.arr with | none => cs.size = e'.cells.length | some sz => cs.size = cap * sz ∧ e'.cells.length ≤ cs.size) ∧
      ∀ (j : Nat) (d : D), e'.cells[j]? = some d → ∃ u, cs[j]? = some u ∧ u.oneCell' = true ∧ Rp B σ ρ w d u) :
    Move B σ ρ w (σ.set k (.ent e')) (zDC ρ k (b, cap)) w' ∧ Hp B (σ.set k (.ent e')) (zDC ρ k (b, cap)) w' := by
  obtain ⟨cs, h1, h2, h3⟩ := hent
  refine zGL h hw hk ⟨cs, _, h1, ?_, ?_, fun j d hd => let ⟨u, a1, a2, a3⟩ := h3 j d hd; ⟨u, a1, fun _ => a2, a3⟩⟩
  · unfold zGt; rw [hkd]
  · unfold zLL; rw [hkd]; exact h2

theorem zHu {B : Base} {σ : List Slot} {ρ : Nat → Nat × Nat} {w w' : World} (h : Hp B σ ρ w) (hw : Wr w w' w.heap.size) : Move B σ ρ w σ ρ w' ∧ Hp B σ ρ w' := by
  have hmove : Move B σ ρ w σ ρ w' := {
    size := hw.size
    keep := fun j hj _ => hw.keep j hj (by omega)
    lives := fun j hj => .inl ⟨j, hj, rfl⟩
    uses := fun _ _ h => h
    tabs := fun _ _ _ _ h => h }
  exact ⟨hmove, hmove.hp h hw.os hw.tape hw.output (fun j e he => hmove.entOk (h.ent j e he) (hw.keep _ (h.lt ⟨e, he⟩) (by have := h.lt ⟨e, he⟩; omega))) h.inj⟩

theorem Wr.alloc (w : World) (o : Obj) : Wr w (w.alloc o) w.heap.size where
  size := by simp
  keep := fun j hj _ => heap_alloc_old w o hj
  os := rfl
  tape := rfl
  output := rfl
theorem Wr.drew_alloc (w : World) (o : Obj) : Wr w (w.drew.alloc o) w.heap.size where
  size := by rw [World.size_alloc]; exact Nat.le_succ _
  keep := fun j hj _ => heap_alloc_old w.drew o hj
  os := rfl
  tape := rfl
  output := rfl
theorem Wr.setRow (w : World) (g : Nat) (cs : Array Value) : Wr w (w.setRow g cs) g where
  size := by simp [World.setRow]
  keep := fun j hj hne => setRow_other w g j cs hne
  os := rfl
  tape := rfl
  output := rfl

def WriteOk (P : Program) (o : Oper) (opd : Operand → D) (σ : List Slot) (rd : List Nat) (slot : Nat) (val : D) (sets : List (Nat × Slot)) : Prop :=
  ∀ (B : Base) (σ' : List Slot) (ρ : Nat → Nat × Nat) (ev : Operand → Value) (w : World), Hp B σ' ρ w → (∀ x ∈ o.op.operands, Rp B σ' ρ w (opd x) (ev x)) → (∀ k, k = slot ∨ k ∈ rd → σ'[k]? = σ[k]?) →
    ∃ w' ρ', Hp B (zAS σ' sets) ρ' w' ∧ Move B σ' ρ w (zAS σ' sets) ρ' w' ∧
      (((execOp ev o).run P w = .ok .skip w' ∧ val = .v undef) ∨ ∃ u, (execOp ev o).run P w = .ok (.value u) w' ∧ Rp B (zAS σ' sets) ρ' w' val u)

theorem WriteOk.opS {P : Program} {ro : Option Nat} {o : Oper} {opd : Operand → D} {σ : List Slot} {rd : List Nat} {val : D} {slot : Nat} {sets : List (Nat × Slot)} (h : WriteOk P o opd σ rd slot val sets) (hd : ∀ c, o.op ≠ .defer c) : OpS P ro o opd σ rd slot ⟨val, sets⟩ := by
  intro B st a w hopd hσ hrel next Q hnext
  obtain ⟨ρ, hp, hfr, hmk⟩ := hrel
  obtain ⟨w', ρ', hp', hm, hr⟩ := h B st.σ ρ a.eval w hp (fun x hx => by rw [← hopd x hx]; exact hfr.eval x) hσ
  refine ⟨fun _ _ => trivial, ?_⟩
  rw [Oper.semAt_eq _ _ _ hd]
  rcases hr with ⟨hrun, rfl⟩ | ⟨u, hrun, hu⟩
  · rw [hrun, Oper.uponIn_skip]
    exact hnext _ _ ⟨ρ', hp', FrOk.put (fr := st.fr) (hm.frOk (fr := st.fr) hfr) o.dst (.fro _ _ (.v undef)), (hm.marks hp hmk).put o.dst undef⟩
  · rw [hrun, Oper.uponIn_value]
    exact hnext _ _ ⟨ρ', hp', FrOk.put (fr := st.fr) (hm.frOk (fr := st.fr) hfr) o.dst hu, (hm.marks hp hmk).put o.dst u⟩


def zAx : D → List D
  | .agg ds => ds
  | d => [d]
def zAc : List D → Bool
  | [] => true
  | d :: l => d.solid && zAc l
theorem zFx {l : List D} (h : zAc l = true) {j : Nat} {d : D} (hd : l[j]? = some d) : d.solid = true := by
  induction l generalizing j with
  | nil => simp at hd
  | cons x l ih =>
    simp only [zAc, Bool.and_eq_true] at h
    cases j with
    | zero => simp at hd; rw [← hd]; exact h.1
    | succ j => exact ih h.2 (by simpa using hd)
def zAl (z : Value) : List D := z.cells.toList.map .v

def RepL (R : D → Value → Prop) (ds : List D) (vs : List Value) : Prop := ds.length = vs.length ∧ ∀ (j : Nat) (d : D), ds[j]? = some d → ∃ u, vs[j]? = some u ∧ u.oneCell' = true ∧ R d u

theorem zOj {v : Value} (h : v.oneCell' = true) : v.cells = #[v] := by cases v <;> first | rfl | cases h
theorem RepL.cells {w : World} {fz : Nat → Prop} {tb : Nat → Nat → Option (Nat × Nat)} {U : Nat → Nat → Prop} {d : D} {u : Value} (h : Rep w fz tb U d u) (hs : zAc (zAx d) = true) : RepL (Rep w fz tb U) (zAx d) u.cells.toList := by
  have one : ∀ d : D, d.solid = true → Rep w fz tb U d u → RepL (Rep w fz tb U) [d] u.cells.toList := by
    intro d hs h
    have h1 := h.solid hs
    rw [zOj h1]
    refine ⟨rfl, fun j d' hd => ?_⟩
    cases j with
    | zero => simp at hd; subst hd; exact ⟨u, rfl, h1, h⟩
    | succ j => simp at hd
  cases d with
  | agg ds =>
    obtain ⟨cs, rfl, hl, hr⟩ := h.agg_inv
    refine ⟨by simpa [zAx, Value.cells] using hl, fun j d hd => ?_⟩
    have hlt : j < cs.size := by have := (List.getElem?_eq_some_iff.1 hd).1; simp only [zAx] at this; omega
    exact ⟨cs[j], by simp [Value.cells, hlt], (hr j d _ hd (by simp [hlt])).solid (zFx hs hd), hr j d _ hd (by simp [hlt])⟩
  | _ => exact one _ (by simpa [zAx, zAc] using hs) h
theorem RepL.zero {w : World} {fz : Nat → Prop} {tb : Nat → Nat → Option (Nat × Nat)} {U : Nat → Nat → Prop} {z : Value} (hs : zAc (zAl z) = true) : RepL (Rep w fz tb U) (zAl z) z.cells.toList := by
  refine ⟨by simp [zAl], fun j d hd => ?_⟩
  have h1 := zFx hs hd
  obtain ⟨v, hv, rfl⟩ := zAE hd
  exact ⟨v, hv, h1, .fro _ _ (.v v)⟩

def splice {α : Type} (cells : List α) (off : Nat) (ds : List α) : List α := cells.take off ++ ds ++ cells.drop (off + ds.length)
theorem zAn {α : Type} {cells ds : List α} {off : Nat} (h : off + ds.length ≤ cells.length) : (splice cells off ds).length = cells.length := by
  simp [splice]; omega
theorem zAs {α : Type} {cells ds : List α} {off : Nat} (h : off + ds.length ≤ cells.length) (j : Nat) : (splice cells off ds)[j]? = if off ≤ j ∧ j < off + ds.length then ds[j - off]? else cells[j]? := by
  unfold splice
  have hl : (cells.take off).length = off := by simp; omega
  by_cases h1 : j < off
  · rw [List.append_assoc, List.getElem?_append_left (by omega), if_neg (by omega), List.getElem?_take_of_lt h1]
  · by_cases h2 : j < off + ds.length
    · rw [if_pos (by omega), List.append_assoc, List.getElem?_append_right (by omega), hl, List.getElem?_append_left (by omega)]
    · rw [if_neg (by omega), List.getElem?_append_right (by simp; omega), List.getElem?_drop]
      congr 1
      simp
      omega
theorem RepL.splice {R : D → Value → Prop} {cells ds : List D} {cs vs : List Value} {off : Nat} (h1 : RepL R cells cs) (h2 : RepL R ds vs) (h : off + ds.length ≤ cells.length) : RepL R (AM.splice cells off ds) (AM.splice cs off vs) := by
  have h' : off + vs.length ≤ cs.length := by have := h1.1; have := h2.1; omega
  refine ⟨by rw [zAn h, zAn h']; exact h1.1, fun j d hd => ?_⟩
  rw [zAs h] at hd
  rw [zAs h', ← h2.1]
  split at hd
  · rename_i hc; rw [if_pos hc]; exact h2.2 _ _ hd
  · rename_i hc; rw [if_neg hc]; exact h1.2 _ _ hd

def zIS (P : Program) (t : TypeId) (slot : Nat) : Option (Prop × D × List (Nat × Slot)) :=
  match tyI P t with
  | none => none
  | some i => some (zAc (zAl i.zero) = true, .ptr slot 0 0, [(slot, .ent ⟨0, none, t, zAl i.zero, .cells⟩)])
def zQH (t : TypeId) (x : D) (slot : Nat) : Prop × D × List (Nat × Slot) := (zAc (zAx x) = true, .ptr slot 0 0, [(slot, .ent ⟨0, none, t, zAx x, .cells⟩)])
def zCg (σ : List Slot) (slot : Nat) : Prop := zBH σ slot = .free
def zIl (P : Program) (t : TypeId) (a x : D) (σ : List Slot) : Option (Prop × List (Nat × Slot) × Nat) :=
  match tyI P t with
  | none => none
  | some i =>
    match a with
    | .ptr k g o =>
      match zAD σ k g with
      | some e => some ((zAx x).length = i.size ∧ o + i.size ≤ e.cells.length ∧ zAc (zAx x) = true, [(k, .ent { e with cells := splice e.cells o (zAx x) })], k)
      | none => none
    | _ => none

section
variable {P : Program} {o : Oper} {opd : Operand → D} {σ : List Slot} {slot : Nat}

theorem zFa {B : Base} {σ' : List Slot} {ρ : Nat → Nat × Nat} {w : World} {t : TypeId} {ds : List D} {cs : Array Value} {arr : Option Nat} {cap : Nat} (hp : Hp B σ' ρ w) (hf : zCg σ slot) (hσ : σ'[slot]? = σ[slot]?)
    (harr : match arr with | none => cs.size = ds.length | some sz => cs.size = cap * sz ∧ ds.length ≤ cs.size)
    (h : ∀ (j : Nat) (d : D), ds[j]? = some d → ∃ u, cs[j]? = some u ∧ u.oneCell' = true ∧ Rp B σ' ρ w d u) {w' : World} (hw : Wr w w' w.heap.size) (hb : w'.heap[w.heap.size]? = some (.cells cs t (0, 0))) :
    Move B σ' ρ w (zAS σ' [(slot, .ent ⟨0, arr, t, ds, .cells⟩)]) (zDC ρ slot (w.heap.size, cap)) w' ∧ Hp B (zAS σ' [(slot, .ent ⟨0, arr, t, ds, .cells⟩)]) (zDC ρ slot (w.heap.size, cap)) w' := by
  have hfree : σ'[slot]? = some .free := by rw [hσ]; exact zBj hf
  exact zDi hp (e' := ⟨0, arr, t, ds, .cells⟩) hw (.inl ⟨hfree, rfl⟩) rfl ⟨cs, hb, harr, h⟩

theorem zNp {B : Base} {σ' : List Slot} {ρ : Nat → Nat × Nat} {w' : World} {e : Ent} {b cap : Nat} (h : σ'[slot]? = some .free) (he : e.gen = 0) :
    Rp B (zAS σ' [(slot, .ent e)]) (zDC ρ slot (b, cap)) w' (.ptr slot 0 0) (.pointer (some ⟨b, 0, none⟩)) := by
  have hlt : slot < σ'.length := (List.getElem?_eq_some_iff.1 h).1
  have hg : (zAS σ' [(slot, .ent e)])[slot]? = some (.ent e) := by simp [zAS, hlt]
  refine .ptr slot 0 0 _ ⟨_, hg, Nat.zero_le _⟩ rfl (fun b' c hb => ?_)
  have := Tb.of (ρ := zDC ρ slot (b, cap)) hg
  rw [he, hb, zBh] at this
  cases this
  rfl

theorem zPE {t : TypeId} {c : Prop} {d : D} {sets : List (Nat × Slot)} (ho : o.op = .alloc t) (h : zIS P t slot = some (c, d, sets)) (hc : c) (hf : zCg σ slot) : WriteOk P o opd σ [] slot d sets := by
  intro B σ' ρ ev w hp hx hσ
  unfold zIS at h
  split at h
  · cases h
  · rename_i i hi
    simp only [Option.some.injEq, Prod.mk.injEq] at h
    obtain ⟨rfl, rfl, rfl⟩ := h
    have hz := tyI.zeroValue hi w
    have hrep : RepL (Rp B σ' ρ w) (zAl i.zero) i.zero.cells.toList := RepL.zero hc
    have hput := zFa (t := t) (ds := zAl i.zero) (cs := i.zero.cells) (arr := none) (cap := 0) hp hf (hσ slot (.inl rfl)) (by simp [zAl]) (fun j d hd => by
      obtain ⟨u, a1, a2, a3⟩ := hrep.2 j d hd
      exact ⟨u, by simpa using a1, a2, a3⟩) (Wr.alloc w (.cells i.zero.cells t)) (heap_alloc_new w _)
    refine ⟨_, _, hput.2, hput.1, .inr ⟨.pointer (some ⟨w.heap.size, 0, none⟩), ?_, zNp (by rw [hσ slot (.inl rfl)]; exact zBj hf) rfl⟩⟩
    simp only [execOp, ho]
    refine za ?_
    unfold Instr.alloc
    rw [Sem.run_bind, hz]
    simp [Result.andThen, newVar, newRow]

theorem zSa {t : TypeId} {x : Operand} {c : Prop} {d : D} {sets : List (Nat × Slot)} (ho : o.op = .box t x) (h : zQH t (opd x) slot = (c, d, sets)) (hc : c) (hf : zCg σ slot) : WriteOk P o opd σ [] slot d sets := by
  intro B σ' ρ ev w hp hx hσ
  have h1 := hx x (by rw [ho]; simp [Op.operands])
  simp only [zQH, Prod.mk.injEq] at h
  obtain ⟨rfl, rfl, rfl⟩ := h
  have hrep : RepL (Rp B σ' ρ w) (zAx (opd x)) (ev x).cells.toList := RepL.cells h1 hc
  have hput := zFa (t := t) (ds := zAx (opd x)) (cs := (ev x).cells) (arr := none) (cap := 0) hp hf (hσ slot (.inl rfl)) (by simpa using hrep.1.symm) (fun j d hd => by
    obtain ⟨u, a1, a2, a3⟩ := hrep.2 j d hd
    exact ⟨u, by simpa using a1, a2, a3⟩) (Wr.alloc w (.cells (ev x).cells t)) (heap_alloc_new w _)
  refine ⟨_, _, hput.2, hput.1, .inr ⟨.pointer (some ⟨w.heap.size, 0, none⟩), ?_, zNp (by rw [hσ slot (.inl rfl)]; exact zBj hf) rfl⟩⟩
  simp only [execOp, ho]
  refine za ?_
  simp [Instr.box, newVar, newRow]

theorem zPj {t : TypeId} {a x : Operand} {c : Prop} {sets : List (Nat × Slot)} {k : Nat} (ho : o.op = .store t a x) (h : zIl P t (opd a) (opd x) σ = some (c, sets, k)) (hc : c) : WriteOk P o opd σ [k] slot (.v undef) sets := by
  intro B σ' ρ ev w hp hx hσ
  have h1 := hx a (by rw [ho]; simp [Op.operands])
  have h2 := hx x (by rw [ho]; simp [Op.operands])
  unfold zIl at h
  split at h
  · cases h
  · rename_i i hi
    split at h
    · rename_i k' g o' hd
      split at h
      · rename_i e hl
        simp only [Option.some.injEq, Prod.mk.injEq] at h
        obtain ⟨rfl, rfl, rfl⟩ := h
        obtain ⟨c1, c2, c3⟩ := hc
        rw [hd] at h1
        have hl' : zAD σ' k' g = some e := by rw [zAO (hσ k' (.inr (by simp)))]; exact hl
        have hev := zFc h1 hl'
        obtain ⟨hk, hge, hkd⟩ := zAY hl'
        obtain ⟨cs, e1, e2, e3⟩ := (hp.ent k' e hk).row hkd
        have hrep : RepL (Rp B σ' ρ w) (zAx (opd x)) (ev x).cells.toList := RepL.cells h2 c3
        have hlen : (ev x).cells.toList.length = i.size := by rw [← hrep.1, c1]
        have hcl : e.cells.length ≤ cs.size := by
          cases harr : e.arr with
          | none => rw [harr] at e2; simp only at e2; omega
          | some sz => rw [harr] at e2; simp only at e2; omega
        have hst := run_storeCells_at P (ρ k').1 o' e.ty (ev x).cells.toList 0 cs w e1 (by omega) (fun v hv => by
          obtain ⟨j, hj⟩ := List.mem_iff_getElem?.1 hv
          have hlt : j < (zAx (opd x)).length := by have := (List.getElem?_eq_some_iff.1 hj).1; omega
          obtain ⟨u, a1, a2, _⟩ := hrep.2 j _ (List.getElem?_eq_getElem hlt)
          rw [hj] at a1
          cases a1; exact a2)
        simp only [Nat.add_zero] at hst
        have hput := zDi hp (k := k') (e' := { e with cells := splice e.cells o' (zAx (opd x)) }) (b := (ρ k').1) (cap := (ρ k').2) (Wr.setRow w (ρ k').1 (splice cs.toList o' (ev x).cells.toList).toArray)
          (.inr ⟨e, hk, .inl ⟨Nat.le_refl _, rfl⟩⟩) hkd
          ⟨_, setRow_heap w _ cs _ _ _ e1, by
            have l1 : (splice e.cells o' (zAx (opd x))).length = e.cells.length := zAn (by omega)
            have l2 : (splice cs.toList o' (ev x).cells.toList).length = cs.toList.length := zAn (by simp only [Array.length_toList] at *; omega)
            cases harr : e.arr with
            | none => rw [harr] at e2; simp only [List.size_toArray, l1, l2] at e2 ⊢; simpa using e2
            | some sz => rw [harr] at e2; simp only [List.size_toArray, l1, l2] at e2 ⊢; simpa using e2, fun j d hd => by
            rw [zAs (by omega)] at hd
            rw [List.getElem?_toArray, zAs (by simp only [Array.length_toList] at *; omega), hlen, ← c1]
            split at hd
            · rename_i hcond
              rw [if_pos hcond]
              exact hrep.2 _ _ hd
            · rename_i hcond
              rw [if_neg hcond]
              obtain ⟨u, a1, a2, a3⟩ := e3 j d hd
              exact ⟨u, by simpa using a1, a2, a3⟩⟩
        refine ⟨_, _, hput.2, hput.1, .inl ⟨?_, rfl⟩⟩
        simp only [execOp, ho]
        rw [hev]
        simp only [Instr.storeAt, Instr.sureAddr, pure_bind, storeVar]
        have hsz : (ev x).cells.size = i.size := by simpa using hlen
        rw [Sem.run_bind, Sem.run_bind, tyI.sizeOf hi w]
        simp only [Result.andThen, hsz, ne_eq, not_true_eq_false, if_false]
        simp only [splice] at hst ⊢
        simp [hst, Result.andThen, Sem.run_bind]
      · cases h
    · cases h
end

def zHC (kind : TypeDesc) (kv : Value) : List Value → List D → Option (Option D)
  | [], _ => some none
  | _ :: _, [] => none
  | k :: ks, d :: ds =>
    match Instr.sameNow kind kv k with
    | some true => some (some d)
    | some false => zHC kind kv ks ds
    | none => none
def zNJ : TypeDesc → Bool
  | .int _ => true
  | .string => true
  | _ => false
def zIL (σ : List Slot) (k g : Nat) : Option (Ent × List Value) :=
  match zBH σ k with
  | .ent e => match e.kd with
    | .map keys => match zOY e.gen g with
      | true => some (e, keys)
      | false => none
    | _ => none
  | _ => none
def zLj (P : Program) (t : TypeId) : Option (TypeDesc × Value) :=
  match tyI P t with
  | some i => match i.und with
    | .map kt et => match tyI P kt with
      | some ik => match tyI P et with
        | some ie => some (ik.und, ie.zero)
        | none => none
      | none => none
    | _ => none
  | none => none
def zEC (t : TypeId) (slot : Nat) : D × List (Nat × Slot) := (.kref true slot 0, [(slot, .ent ⟨0, none, t, [], .map []⟩)])
def zFk (P : Program) (t : TypeId) (m k x : D) (σ : List Slot) : Option (Prop × List (Nat × Slot) × Nat) :=
  match zLj P t with
  | none => none
  | some (kind, _) =>
    match m with
    | .kref true b g =>
      match k with
      | .v kv =>
        match zIL σ b g with
        | none => none
        | some (e, keys) =>
          match zHC kind kv keys e.cells with
          | some none => some (zNJ kind = true, [(b, .ent { e with cells := e.cells ++ [x], kd := .map (keys ++ [kv]) })], b)
          | _ => none
      | _ => none
    | _ => none
def zKp : Value → D
  | .agg cs => .agg (cs.toList.map .v)
  | v => .v v
def zFw (P : Program) (t : TypeId) (m k : D) (σ : List Slot) : Option (Prop × D × List Nat) :=
  match zLj P t with
  | none => none
  | some (kind, z) =>
    match m with
    | .kref true b g =>
      match k with
      | .v kv =>
        match zIL σ b g with
        | none => none
        | some (e, keys) =>
          match zHC kind kv keys e.cells with
          | some (some d) => some (zNJ kind = true, .tup [d, .v (.bool true)], [b])
          | some none => some (zNJ kind = true, .tup [zKp z, .v (.bool false)], [b])
          | none => none
      | _ => none
    | _ => none

section
variable {P : Program} {o : Oper} {opd : Operand → D} {σ : List Slot} {slot : Nat}

theorem zMM {w : World} {fz : Nat → Prop} {tb : Nat → Nat → Option (Nat × Nat)} {U : Nat → Nat → Prop} {z : Value} : Rep w fz tb U (zKp z) z := by
  cases z with
  | agg cs =>
    refine .agg _ cs (by simp) (fun j d u hd hu => ?_)
    obtain ⟨v, hv, rfl⟩ := zAE hd
    have : cs[j]? = some v := by simpa using hv
    rw [this] at hu
    cases hu
    exact .fro _ _ (.v _)
  | _ => exact .fro _ _ (.v _)
theorem zIa {t : TypeId} {kind : TypeDesc} {z : Value} (h : zLj P t = some (kind, z)) (w : World) : ∃ kt et, (underlying t).run P w = .ok (.map kt et) w ∧ (underlying kt).run P w = .ok kind w ∧ (zeroValue et).run P w = .ok z w := by
  unfold zLj at h
  split at h
  · rename_i i hi
    split at h
    · rename_i kt et hu
      split at h
      · rename_i ik hk
        split at h
        · rename_i ie he
          cases h
          exact ⟨kt, et, by rw [tyI.underlying hi w, hu], tyI.underlying hk w, tyI.zeroValue he w⟩
        · cases h
      · cases h
    · cases h
  · cases h
theorem zGS {k g : Nat} {e : Ent} {keys : List Value} (h : zIL σ k g = some (e, keys)) : σ[k]? = some (.ent e) ∧ e.gen = g ∧ e.kd = .map keys := by
  unfold zIL at h
  split at h
  · rename_i e' he
    split at h
    · rename_i keys' hk
      split at h
      · rename_i hb
        cases h
        exact ⟨zCe he, Nat.eq_of_beq_eq_true hb, hk⟩
      · cases h
    · cases h
  · cases h
theorem zIJ {σ' : List Slot} {k g : Nat} (h : σ'[k]? = σ[k]?) : zIL σ' k g = zIL σ k g := by
  unfold zIL; rw [zBD, zBD, h]
theorem zJW {B : Base} {σ : List Slot} {ρ : Nat → Nat × Nat} {w : World} {k g : Nat} {e : Ent} {keys : List Value} {u : Value} (h : Rp B σ ρ w (.kref true k g) u) (hl : zIL σ k g = some (e, keys)) : u = .map (some (ρ k).1) := by
  obtain ⟨h1, h2, _⟩ := zGS hl
  exact h.kref_inv.2 _ _ (h2 ▸ Tb.of h1)
theorem zGG {kind : TypeDesc} (hk : zNJ kind = true) {kt : TypeId} {w : World} (hu : (underlying kt).run P w = .ok kind w) (b : Bool) (n : Nat) (v : Value) : (Instr.checkKey b (n + 1) kt v).run P w = .ok () w := by
  unfold Instr.checkKey
  rw [Sem.run_bind, hu]
  simp only [Result.andThen]
  cases kind <;> first | (simp [zNJ] at hk; done) | (cases v <;> rfl)
theorem zFD {kind : TypeDesc} {kv : Value} : ∀ {es : List MapEntry} {cells : List D} {n : Nat} {r : Option D} (_ : es.length = cells.length) (_ : zHC kind kv (es.map (·.key)) cells = some r),
    match r with
    | none => Instr.findNow kind kv es n = some none
    | some d => ∃ (i : Nat) (e : MapEntry), Instr.findNow kind kv es n = some (some (n + i, e.val)) ∧ es[i]? = some e ∧ cells[i]? = some d
  | [], cells, n, r, hl, h => by
    simp only [List.map_nil, zHC, Option.some.injEq] at h
    subst h; rfl
  | e :: es, [], n, r, hl, h => by simp at hl
  | e :: es, d :: cells, n, r, hl, h => by
    simp only [List.map_cons, zHC] at h
    simp only [List.length_cons, Nat.add_right_cancel_iff] at hl
    cases hs : Instr.sameNow kind kv e.key with
    | none => rw [hs] at h; cases h
    | some b =>
      rw [hs] at h
      cases b with
      | true =>
        simp only [Option.some.injEq] at h
        subst h
        exact ⟨0, e, by simp [Instr.findNow, hs], rfl, rfl⟩
      | false =>
        simp only at h
        have ih := zFD (n := n + 1) hl h
        cases r with
        | none => simpa [Instr.findNow, hs] using ih
        | some d' =>
          obtain ⟨i, e', h1, h2, h3⟩ := ih
          exact ⟨i + 1, e', by simp [Instr.findNow, hs, h1]; omega, by simpa using h2, by simpa using h3⟩
theorem zGx {kind : TypeDesc} {kt : TypeId} {w : World} {kv : Value} {es : List MapEntry} {r : Option (Nat × Value)} (hu : (underlying kt).run P w = .ok kind w) (h : Instr.findNow kind kv es 0 = some r) : (Instr.findKey kt kv es).run P w = .ok r w := by
  unfold Instr.findKey
  rw [Sem.run_bind, hu]
  simp only [Result.andThen, h]
  rfl
theorem Hp.mapOf {B : Base} {ρ : Nat → Nat × Nat} {w : World} {k : Nat} {e : Ent} {keys : List Value} (hp : Hp B σ ρ w) (he : σ[k]? = some (.ent e)) (hk : e.kd = .map keys) :
    ∃ (es : Array MapEntry) (clock : Nat), w.heap[(ρ k).1]? = some (.map es clock) ∧ es.toList.map (·.key) = keys ∧ es.size = e.cells.length ∧ ∀ (j : Nat) (d : D), e.cells[j]? = some d → ∃ x, es[j]? = some x ∧ Rp B σ ρ w d x.val := by
  obtain ⟨cs, ob, h1, h2, h3, h4⟩ := hp.ent k e he
  unfold zGt at h2
  unfold zLL at h3
  rw [hk] at h2 h3
  obtain ⟨es, clock, rfl, h5, h6⟩ := h2
  simp only at h3
  have hsz : es.size = cs.size := by rw [← h6]; simp
  refine ⟨es, clock, h1, h5, by omega, fun j d hd => ?_⟩
  obtain ⟨u, a1, _, a3⟩ := h4 j d hd
  rw [← h6, Array.getElem?_map] at a1
  cases hx : es[j]? with
  | none => rw [hx] at a1; cases a1
  | some x => rw [hx] at a1; cases a1; exact ⟨x, rfl, a3⟩
theorem zMj {t : TypeId} {d : D} {sets : List (Nat × Slot)} (ho : o.op = .makeMap t none) (h : zEC t slot = (d, sets)) (hf : zCg σ slot) : WriteOk P o opd σ [] slot d sets := by
  intro B σ' ρ ev w hp hx hσ
  simp only [zEC, Prod.mk.injEq] at h
  obtain ⟨rfl, rfl⟩ := h
  have hfree : σ'[slot]? = some .free := by rw [hσ slot (.inl rfl)]; exact zBj hf
  have hlt : slot < σ'.length := (List.getElem?_eq_some_iff.1 hfree).1
  have hput := zGL hp (e' := ⟨0, none, t, [], .map []⟩) (b := w.heap.size) (cap := 0) (Wr.alloc w (.map #[] 0)) (.inl ⟨hfree, rfl⟩)
    ⟨#[], _, heap_alloc_new w _, ⟨#[], 0, rfl, rfl, by simp⟩, rfl, fun j d hd => by simp at hd⟩
  refine ⟨_, _, hput.2, hput.1, .inr ⟨.map (some w.heap.size), ?_, ?_⟩⟩
  · simp only [execOp, ho]
    refine za ?_
    simp [Instr.makeMap, Sem.run_bind, newObj, Sem.run, Result.andThen, Pure.pure]
  · have hg : (zAS σ' [(slot, .ent ⟨0, none, t, [], .map []⟩)])[slot]? = some (.ent ⟨0, none, t, [], .map []⟩) := by simp [zAS, hlt]
    refine .kref true slot 0 _ ⟨_, hg, Nat.zero_le _⟩ rfl (fun b c hb => ?_)
    have := Tb.of (ρ := zDC ρ slot (w.heap.size, 0)) hg
    rw [hb, zBh] at this
    cases this
    rfl
theorem zIQ {b : Nat} {es : Array MapEntry} {clock : Nat} {w : World} (h : w.heap[b]? = some (.map es clock)) : (getObj b).run P w = .ok (.map es clock) w := by
  simp only [getObj, Sem.run, h]
theorem zMt {b : Nat} {es : Array MapEntry} {clock : Nat} {w : World} (ob : Obj) (h : w.heap[b]? = some (.map es clock)) : (setObj b ob).run P w = .ok () { w with heap := w.heap.setIfInBounds b ob } := by
  simp only [setObj, Sem.run, h]
theorem Wr.setObj (w : World) (b : Nat) (ob : Obj) : Wr w { w with heap := w.heap.setIfInBounds b ob } b where
  size := by simp
  keep := fun j hj hne => by
    show (w.heap.setIfInBounds b ob)[j]? = _
    rw [Array.getElem?_setIfInBounds_ne (fun h => hne h.symm)]
  os := rfl
  tape := rfl
  output := rfl
theorem zOh {t : TypeId} {m k : Operand} {c : Prop} {d : D} {rd : List Nat} (ho : o.op = .lookup t m k true) (h : zFw P t (opd m) (opd k) σ = some (c, d, rd)) (hc : c) : PureOk P o opd σ rd d := by
  intro B σ' ρ ev w hp hx hrd
  have h1 := hx m (by rw [ho]; simp [Op.operands])
  have h2 := hx k (by rw [ho]; simp [Op.operands])
  unfold zFw at h
  split at h
  · cases h
  · rename_i kind z hty
    obtain ⟨kt, et, u1, u2, u3⟩ := zIa hty w
    split at h
    · rename_i b g hm
      split at h
      · rename_i kv hk
        split at h
        · cases h
        · rename_i e keys he
          rw [hm] at h1
          rw [hk] at h2
          have hkv := h2.v_inv
          have key : ∀ r, zHC kind kv keys e.cells = some r → (c, d, rd) = (zNJ kind = true, (match r with | some d => D.tup [d, .v (.bool true)] | none => .tup [zKp z, .v (.bool false)]), [b]) →
              ∃ u, (execOp ev o).run P w = .ok (.value u) w ∧ Rp B σ' ρ w d u := fun r hr heq => by
            simp only [Prod.mk.injEq] at heq
            obtain ⟨rfl, rfl, rfl⟩ := heq
            have he' : zIL σ' b g = some (e, keys) := by rw [zIJ (hrd b (by simp))]; exact he
            obtain ⟨hb, _, hkd⟩ := zGS he'
            have hev := zJW h1 he'
            obtain ⟨es, clock, m1, m2, m3, m4⟩ := hp.mapOf hb hkd
            have hf := zFD (kind := kind) (kv := kv) (es := es.toList) (cells := e.cells) (n := 0) (r := r) (by simpa using m3) (by rw [m2]; exact hr)
            have hrun : ∀ q, Instr.findNow kind kv es.toList 0 = some q → (execOp ev o).run P w = .ok (.value (match q with | some (_, v) => .tuple #[v, .bool true] | none => .tuple #[z, .bool false])) w := fun q hq => by
              simp only [execOp, ho]
              refine za ?_
              unfold Instr.lookup
              rw [Sem.run_bind, u1]
              simp only [Result.andThen, hev, hkv]
              rw [Sem.run_bind, zIQ m1]
              simp only [Result.andThen, pure_bind]
              rw [Sem.run_bind, zGG hc u2]
              simp only [Result.andThen]
              rw [Sem.run_bind, zGx u2 hq]
              simp only [Result.andThen]
              cases q with
              | none => simp only [Sem.run_bind, u3, Result.andThen]; rfl
              | some p => rfl
            cases r with
            | none =>
              refine ⟨_, hrun none hf, ?_⟩
              refine .tup _ _ rfl (fun j d u hd hu => ?_)
              match j with
              | 0 => simp at hd hu; subst hd hu; exact zMM
              | 1 => simp at hd hu; subst hd hu; exact .fro _ _ (.v _)
              | j + 2 => simp at hd
            | some d0 =>
              obtain ⟨i, x, f1, f2, f3⟩ := hf
              refine ⟨_, hrun (some (0 + i, x.val)) f1, ?_⟩
              obtain ⟨x', m5, m6⟩ := m4 i d0 f3
              have : x' = x := by
                rw [← Array.getElem?_toList, f2] at m5
                exact (Option.some.inj m5).symm
              subst this
              refine .tup _ _ rfl (fun j d u hd hu => ?_)
              match j with
              | 0 => simp at hd hu; subst hd hu; exact m6
              | 1 => simp at hd hu; subst hd hu; exact .fro _ _ (.v _)
              | j + 2 => simp at hd
          split at h
          · rename_i d0 hr
            exact key (some d0) hr (Option.some.inj h).symm
          · rename_i hr
            exact key none hr (Option.some.inj h).symm
          · cases h
      · cases h
    · cases h
theorem zOe {t : TypeId} {m k x : Operand} {c : Prop} {sets : List (Nat × Slot)} {kk : Nat} (ho : o.op = .insert t m k x) (h : zFk P t (opd m) (opd k) (opd x) σ = some (c, sets, kk)) (hc : c) : WriteOk P o opd σ [kk] slot (.v undef) sets := by
  intro B σ' ρ ev w hp hx hσ
  have h1 := hx m (by rw [ho]; simp [Op.operands])
  have h2 := hx k (by rw [ho]; simp [Op.operands])
  have h3 := hx x (by rw [ho]; simp [Op.operands])
  unfold zFk at h
  split at h
  · cases h
  · rename_i kind z hty
    obtain ⟨kt, et, u1, u2, u3⟩ := zIa hty w
    split at h
    · rename_i b g hm
      split at h
      · rename_i kv hk
        split at h
        · cases h
        · rename_i e keys he
          split at h
          · rename_i hr
            simp only [Option.some.injEq, Prod.mk.injEq] at h
            obtain ⟨rfl, rfl, rfl⟩ := h
            rw [hm] at h1
            rw [hk] at h2
            have hkv := h2.v_inv
            have he' : zIL σ' b g = some (e, keys) := by rw [zIJ (hσ b (.inr (by simp)))]; exact he
            obtain ⟨hb, hgen, hkd⟩ := zGS he'
            have hev := zJW h1 he'
            obtain ⟨es, clock, m1, m2, m3, m4⟩ := hp.mapOf hb hkd
            have hf := zFD (kind := kind) (kv := kv) (es := es.toList) (cells := e.cells) (n := 0) (r := none) (by simpa using m3) (by rw [m2]; exact hr)
            have hlt : (ρ b).1 < w.heap.size := (Array.getElem?_eq_some_iff.1 m1).1
            have hput := zGL hp (k := b) (e' := { e with cells := e.cells ++ [opd x], kd := .map (keys ++ [kv]) }) (b := (ρ b).1) (cap := (ρ b).2) (Wr.setObj w (ρ b).1 (.map (es.push { key := kv, val := ev x, born := clock }) (clock + 1)))
              (.inr ⟨e, hb, .inl ⟨Nat.le_refl _, rfl⟩⟩)
              ⟨(es.map (·.val)).push (ev x), _, by
                  show (w.heap.setIfInBounds (ρ b).1 _)[(ρ b).1]? = _
                  rw [Array.getElem?_setIfInBounds_self_of_lt hlt], ⟨_, _, rfl, by simp [m2], by simp⟩, by
                  show _ = (e.cells ++ [opd x]).length
                  simp [m3], fun j d hd => by
                  by_cases hj : j < e.cells.length
                  · rw [List.getElem?_append_left hj] at hd
                    obtain ⟨y, m5, m6⟩ := m4 j d hd
                    refine ⟨y.val, ?_, (fun h => by simp at h), m6⟩
                    rw [Array.getElem?_push_lt (by simp; omega)]
                    rw [Array.getElem?_eq_some_iff] at m5
                    obtain ⟨q, rfl⟩ := m5
                    simp
                  · rw [List.getElem?_append_right (by omega)] at hd
                    have : j = e.cells.length := by
                      have := (List.getElem?_eq_some_iff.1 hd).1
                      simp at this; omega
                    subst this
                    simp at hd
                    subst hd
                    refine ⟨ev x, ?_, (fun h => by simp at h), h3⟩
                    rw [← m3, show es.size = (es.map (·.val)).size by simp, Array.getElem?_push_size]⟩
            refine ⟨_, _, hput.2, hput.1, .inl ⟨?_, rfl⟩⟩
            simp only [execOp, ho]
            have hrun : (Instr.mapUpdate t (ev m) (ev k) (ev x)).run P w = .ok () { w with heap := w.heap.setIfInBounds (ρ b).1 (.map (es.push { key := kv, val := ev x, born := clock }) (clock + 1)) } := by
              unfold Instr.mapUpdate
              rw [Sem.run_bind, u1]
              simp only [Result.andThen, hev, hkv]
              rw [Sem.run_bind, zIQ m1]
              simp only [Result.andThen]
              rw [Sem.run_bind, zGG hc u2]
              simp only [Result.andThen]
              rw [Sem.run_bind, zGx u2 hf]
              simp only [Result.andThen]
              exact zMt _ m1
            rw [Sem.run_bind, hrun]
            rfl
          · cases h
      · cases h
    · cases h
end

theorem zMf {α : Type} (vs : List α) : ∀ (cells : List α) (off n : Nat), off + n + vs.length ≤ cells.length →
    (vs.zipIdx n).foldl (fun (cs : List α) (p : α × Nat) => cs.set (off + p.2) p.1) cells = splice cells (off + n) vs := by
  induction vs with
  | nil => intro cells off n _; simp [splice]
  | cons v vs ih =>
    intro cells off n h
    simp only [List.length_cons] at h
    simp only [List.zipIdx_cons, List.foldl_cons]
    rw [ih (cells.set (off + n) v) off (n + 1) (by simp; omega)]
    apply List.ext_getElem?
    intro j
    rw [zAs (by simp; omega), zAs (by simp; omega)]
    simp only [List.length_cons, List.getElem?_set]
    by_cases h1 : off + n = j
    · subst h1
      rw [if_neg (by omega), if_pos (by omega)]
      simp; omega
    · by_cases h2 : off + (n + 1) ≤ j ∧ j < off + (n + 1) + vs.length
      · rw [if_pos h2, if_pos (by omega)]
        rw [show j - (off + n) = (j - (off + (n + 1))) + 1 from by omega]
        simp
      · rw [if_neg h2, if_neg h1, if_neg (by omega)]
theorem zGv (cells vs : Array Value) (off : Nat) (h : off + vs.size ≤ cells.size) :
    vs.zipIdx.foldl (fun cs (p : Value × Nat) => cs.setIfInBounds (off + p.2) p.1) cells = (splice cells.toList off vs.toList).toArray := by
  have key : ∀ (l : List (Value × Nat)) (cs : Array Value), (l.foldl (fun cs (p : Value × Nat) => cs.setIfInBounds (off + p.2) p.1) cs).toList = l.foldl (fun (cs : List Value) (p : Value × Nat) => cs.set (off + p.2) p.1) cs.toList := by
    intro l
    induction l with
    | nil => intro cs; rfl
    | cons p l ih => intro cs; simp only [List.foldl_cons]; rw [ih]; simp
  apply Array.ext'
  rw [← Array.foldl_toList, key]
  have := zMf vs.toList cells.toList off 0 (by simpa using h)
  simp only [Nat.add_zero] at this
  simpa using this

def zEp (P : Program) : List Field → Option (List (Nat × Nat))
  | [] => some []
  | f :: r => match tyI P f.type with
    | some i => match zEp P r with
      | some l => some ((f.offset, i.size) :: l)
      | none => none
    | none => none
theorem zJz {P : Program} : ∀ {fs : List Field} {pl : List (Nat × Nat)}, zEp P fs = some pl → fs.mapM (fun f => (P.info? f.type).map fun i => (f.offset, i.size)) = some pl := by
  intro fs
  induction fs with
  | nil => intro pl h; simp only [zEp, Option.some.injEq] at h; subst h; rfl
  | cons f r ih =>
    intro pl h
    unfold zEp at h
    split at h
    · rename_i i hi
      split at h
      · rename_i l hl
        simp only [Option.some.injEq] at h
        subst h
        obtain ⟨j, h1, _, h2, _⟩ := tyI.spec hi
        simp only [List.mapM_cons, h1, Option.map_some, ih hl, h2]
        rfl
      · cases h
    · cases h

def zIm (pl : List (Nat × Nat)) : List D → List (Nat × D) → Option (Prop × List D)
  | cells, [] => some (True, cells)
  | cells, (i, d) :: r => match pl[i]? with
    | none => none
    | some (off, size) => match zIm pl (splice cells off (zAx d)) r with
      | none => none
      | some (c, out) => some (((zAx d).length = size ∧ off + size ≤ cells.length ∧ zAc (zAx d) = true) ∧ c, out)
theorem zGp {w : World} {fz : Nat → Prop} {tb : Nat → Nat → Option (Nat × Nat)} {U : Nat → Nat → Prop} {pl : List (Nat × Nat)} {place : Nat → Option (Nat × Nat)} (hpl : ∀ i p, pl[i]? = some p → place i = some p) :
    ∀ {ps : List (Nat × D)} {vs : List (Nat × Value)} {cells : List D} {cs : Array Value} {c : Prop} {out : List D}, zIm pl cells ps = some (c, out) → c → RepL (Rep w fz tb U) cells cs.toList →
    ps.length = vs.length → (∀ (j : Nat) (p : Nat × D) (v : Nat × Value), ps[j]? = some p → vs[j]? = some v → p.1 = v.1 ∧ Rep w fz tb U p.2 v.2) →
    ∃ cs', Instr.fill place cs vs = some cs' ∧ RepL (Rep w fz tb U) out cs'.toList := by
  intro ps
  induction ps with
  | nil =>
    intro vs cells cs c out h _ hr hl _
    have : vs = [] := List.eq_nil_of_length_eq_zero hl.symm
    subst this
    simp only [zIm, Option.some.injEq, Prod.mk.injEq] at h
    obtain ⟨_, rfl⟩ := h
    exact ⟨cs, rfl, hr⟩
  | cons p ps ih =>
    intro vs cells cs c out h hc hr hl hp
    obtain ⟨i, d⟩ := p
    cases vs with
    | nil => simp at hl
    | cons v vs =>
      obtain ⟨i', v⟩ := v
      obtain ⟨h1, h2⟩ := hp 0 _ _ rfl rfl
      simp only at h1 h2
      subst h1
      unfold zIm at h
      split at h
      · cases h
      · rename_i off size hpi
        split at h
        · cases h
        · rename_i c' out' hf
          simp only [Option.some.injEq, Prod.mk.injEq] at h
          obtain ⟨rfl, rfl⟩ := h
          obtain ⟨⟨c1, c2, c3⟩, c4⟩ := hc
          have hrep := RepL.cells h2 c3
          have hsz : v.cells.size = size := by have := hrep.1; simp at this; omega
          have hcs : cs.size = cells.length := by have := hr.1; simp at this; omega
          obtain ⟨cs', e1, e2⟩ := ih (cs := (splice cs.toList off v.cells.toList).toArray) hf c4 (by simpa using RepL.splice hr hrep (by omega)) (by simpa using hl) (fun j p' v' hj hv => hp (j + 1) p' v' (by simpa using hj) (by simpa using hv))
          refine ⟨cs', ?_, e2⟩
          unfold Instr.fill
          rw [hpl _ _ hpi]
          simp only
          rw [if_neg (by simp only [bne_iff_ne, ne_eq, gt_iff_lt, Bool.or_eq_true, decide_eq_true_eq, not_or]; omega)]
          rw [zGv _ _ _ (by omega)]
          exact e1

def zIt (sz : Nat) : Nat → Nat → List (Nat × Nat)
  | _, 0 => []
  | i, n + 1 => (i * sz, sz) :: zIt sz (i + 1) n
theorem zJP {sz : Nat} : ∀ {n k i : Nat} {p : Nat × Nat}, (zIt sz k n)[i]? = some p → p = ((k + i) * sz, sz)
  | 0, _, _, _, h => by simp [zIt] at h
  | n + 1, k, 0, p, h => by simp [zIt] at h; simp [← h]
  | n + 1, k, i + 1, p, h => by
    have := zJP (n := n) (k := k + 1) (i := i) (p := p) (by simpa [zIt] using h)
    rw [this, show k + 1 + i = k + (i + 1) by omega]
def zIB (P : Program) (t : TypeId) (parts : List (Nat × D)) : Option (Prop × D) :=
  match tyI P t with
  | none => none
  | some i => match i.und with
    | .struct fs => match zEp P fs.toList with
      | none => none
      | some pl => match zIm pl (zAl i.zero) parts with
        | none => none
        | some (c, out) => some (zAc (zAl i.zero) = true ∧ c, .agg out)
    | .array n e => match tyI P e with
      | none => none
      | some ei => match zIm (zIt ei.size 0 n) (zAl i.zero) parts with
        | none => none
        | some (c, out) => some (zAc (zAl i.zero) = true ∧ c, .agg out)
    | _ => none

section
variable {P : Program} {o : Oper} {opd : Operand → D} {σ : List Slot} {slot : Nat}

theorem zGY {B : Base} {σ' : List Slot} {ρ : Nat → Nat × Nat} {w : World} {ev : Operand → Value} {parts : Array (Nat × Operand)} (h : ∀ p ∈ parts, Rp B σ' ρ w (opd p.2) (ev p.2)) :
    ∀ (j : Nat) (p : Nat × D) (v : Nat × Value), (parts.toList.map fun q => (q.1, opd q.2))[j]? = some p → ((parts.map fun (i, x) => (i, ev x)).toList)[j]? = some v → p.1 = v.1 ∧ Rp B σ' ρ w p.2 v.2 := by
  intro j p v hp hv
  obtain ⟨q, hq, rfl⟩ := zAE hp
  rw [Array.toList_map] at hv
  obtain ⟨q', hq', rfl⟩ := zAE hv
  rw [hq] at hq'
  cases hq'
  exact ⟨rfl, h q (Array.mem_of_getElem? (by simpa using hq))⟩

theorem zPh {t : TypeId} {parts : Array (Nat × Operand)} {c : Prop} {d : D} (ho : o.op = .build t parts) (h : zIB P t (parts.toList.map fun q => (q.1, opd q.2)) = some (c, d)) (hc : c) : PureOk P o opd σ [] d := by
  intro B σ' ρ ev w hp hx _
  unfold zIB at h
  split at h
  · cases h
  · rename_i i hi
    split at h
    · rename_i fs hu
      split at h
      · cases h
      · rename_i pl hpl
        split at h
        · cases h
        · rename_i c' out hf
          simp only [Option.some.injEq, Prod.mk.injEq] at h
          obtain ⟨rfl, rfl⟩ := h
          obtain ⟨hz, hc'⟩ := hc
          obtain ⟨j, h1, h2, _, _, h3⟩ := tyI.spec hi
          obtain ⟨cs', e1, e2⟩ := zGp (w := w) (fz := Fz B σ' ρ w) (tb := Tb σ' ρ) (U := zBX σ') (place := fun x => pl.toArray[x]?) (fun i p h => by simpa using h) hf hc' (RepL.zero hz)
            (vs := (parts.map fun (i, x) => (i, ev x)).toList) (by simp) (zGY (fun p hp' => hx p.2 (by
              rw [ho]
              have : p.2 ∈ parts.map (fun q => q.2) := Array.mem_map.2 ⟨p, hp', rfl⟩
              simpa [Op.operands] using this)))
          have hb : P.built t (parts.map fun (i, x) => (i, ev x)).toList = some cs' := by
            unfold Program.built
            rw [h1, h2, hu]
            simp only [h3, zJz hpl]
            exact e1
          refine ⟨.agg cs', ?_, .agg _ _ (by simpa using e2.1) (fun j d' u hj hu' => ?_)⟩
          · simp only [execOp, ho]
            exact za (run_build w t _ cs' hb)
          · obtain ⟨v, a1, _, a3⟩ := e2.2 j d' hj
            have : u = v := by
              have : cs'.toList[j]? = some u := by simpa using hu'
              rw [a1] at this; exact (Option.some.inj this).symm
            rw [this]; exact a3
    · rename_i len e hu
      split at h
      · cases h
      · rename_i ei hei
        split at h
        · cases h
        · rename_i c' out hf
          simp only [Option.some.injEq, Prod.mk.injEq] at h
          obtain ⟨rfl, rfl⟩ := h
          obtain ⟨hz, hc'⟩ := hc
          obtain ⟨j, h1, h2, _, _, h3⟩ := tyI.spec hi
          obtain ⟨cs', e1, e2⟩ := zGp (w := w) (fz := Fz B σ' ρ w) (tb := Tb σ' ρ) (U := zBX σ') (place := fun x => some (x * ei.size, ei.size)) (fun i p h => by rw [zJP h, Nat.zero_add]) hf hc' (RepL.zero hz)
            (vs := (parts.map fun (i, x) => (i, ev x)).toList) (by simp) (zGY (fun p hp' => hx p.2 (by
              rw [ho]
              have : p.2 ∈ parts.map (fun q => q.2) := Array.mem_map.2 ⟨p, hp', rfl⟩
              simpa [Op.operands] using this)))
          have hb : P.built t (parts.map fun (i, x) => (i, ev x)).toList = some cs' := by
            obtain ⟨je, g1, _, g2, _⟩ := tyI.spec hei
            unfold Program.built
            rw [h1, h2, hu]
            simp only [h3, g1, g2]
            exact e1
          refine ⟨.agg cs', ?_, .agg _ _ (by simpa using e2.1) (fun j d' u hj hu' => ?_)⟩
          · simp only [execOp, ho]
            exact za (run_build w t _ cs' hb)
          · obtain ⟨v, a1, _, a3⟩ := e2.2 j d' hj
            have : u = v := by
              have : cs'.toList[j]? = some u := by simpa using hu'
              rw [a1] at this; exact (Option.some.inj this).symm
            rw [this]; exact a3
    · cases h
end

def frz0 : D → Bool
  | .v _ => true
  | .sl _ _ _ => true
  | .fad _ => true
  | _ => false
def zk : List D → Bool
  | [] => true
  | d :: l => frz0 d && zk l
def frz : D → Bool
  | .fn _ caps => zk caps
  | .bnd _ caps => zk caps
  | d => frz0 d
def zAT : List D → Bool
  | [] => true
  | d :: l => frz d && zAT l
def zFr : List (List D) → Bool
  | [] => true
  | x :: l => zAT x && zFr l
theorem zGm {l : List D} (h : zk l = true) {j : Nat} {d : D} (hd : l[j]? = some d) : frz0 d = true := by
  induction l generalizing j with
  | nil => simp at hd
  | cons x l ih =>
    simp only [zk, Bool.and_eq_true] at h
    cases j with
    | zero => simp at hd; rw [← hd]; exact h.1
    | succ j => exact ih h.2 (by simpa using hd)
theorem zHm {l : List D} (h : zAT l = true) {j : Nat} {d : D} (hd : l[j]? = some d) : frz d = true := by
  induction l generalizing j with
  | nil => simp at hd
  | cons x l ih =>
    simp only [zAT, Bool.and_eq_true] at h
    cases j with
    | zero => simp at hd; rw [← hd]; exact h.1
    | succ j => exact ih h.2 (by simpa using hd)
theorem zLi {l : List (List D)} (h : zFr l = true) {j : Nat} {d : List D} (hd : l[j]? = some d) : zAT d = true := by
  induction l generalizing j with
  | nil => simp at hd
  | cons x l ih =>
    simp only [zFr, Bool.and_eq_true] at h
    cases j with
    | zero => simp at hd; rw [← hd]; exact h.1
    | succ j => exact ih h.2 (by simpa using hd)
section
variable {w : World} {fz : Nat → Prop} {tb : Nat → Nat → Option (Nat × Nat)} {U : Nat → Nat → Prop}
theorem Rep.frz0 {d : D} {u : Value} (hs : AM.frz0 d = true) (h : Rep w fz tb U d u) : RepF w fz d u := by
  cases h with
  | fro _ _ h => exact h
  | agg => cases hs
  | tup => cases hs
  | fn => cases hs
  | bnd => cases hs
  | ref => cases hs
  | ptr => cases hs
  | kref => cases hs
  | refo => cases hs
theorem Rep.frz {d : D} {u : Value} (hs : AM.frz d = true) (h : Rep w fz tb U d u) : RepF w fz d u := by
  cases d with
  | fn f caps =>
    obtain ⟨cs, rfl, hl, hr⟩ := h.fn_inv
    exact .fn f _ cs hl (fun j d u hd hu => Rep.frz0 (zGm hs hd) (hr j d u hd hu))
  | bnd f caps =>
    obtain ⟨cs, rfl, hl, hr⟩ := h.bnd_inv
    exact .bnd f _ cs hl (fun j d u hd hu => Rep.frz0 (zGm hs hd) (hr j d u hd hu))
  | _ => exact Rep.frz0 hs h
end

def RepR (R : D → Value → Prop) (sz : Nat) (rows : List (List D)) (cs : List Value) : Prop :=
  rows.length * sz = cs.length ∧ ∀ (i : Nat) (x : List D), rows[i]? = some x → x.length = sz ∧ ∀ (j : Nat) (d : D), x[j]? = some d → ∃ u, cs[i * sz + j]? = some u ∧ u.oneCell' = true ∧ R d u

def zGi (sz : Nat) : List (List D) → List (Nat × D) → Option (Prop × List (List D))
  | rows, [] => some (True, rows)
  | rows, (i, d) :: r => match zGi sz (rows.set i (zAx d)) r with
    | none => none
    | some (c, out) => some (((zAx d).length = sz ∧ i < rows.length ∧ zAc (zAx d) = true) ∧ c, out)
theorem zHs {i n sz : Nat} (h : i < n) : i * sz + sz ≤ n * sz := by
  have := Nat.mul_le_mul_right sz (show i + 1 ≤ n from h)
  rw [Nat.add_mul] at this
  omega
theorem RepR.set {R : D → Value → Prop} {sz : Nat} {rows : List (List D)} {cs vs : List Value} {ds : List D} {i : Nat} (h : RepR R sz rows cs) (h2 : RepL R ds vs) (hi : i < rows.length) (hl : ds.length = sz) :
    RepR R sz (rows.set i ds) (splice cs (i * sz) vs) := by
  have hb : i * sz + vs.length ≤ cs.length := by
    have := zHs (sz := sz) hi
    have := h.1
    have := h2.1
    omega
  refine ⟨by rw [zAn hb, List.length_set]; exact h.1, fun i' x hx => ?_⟩
  rw [List.getElem?_set] at hx
  have hvs : vs.length = sz := by rw [← h2.1, hl]
  by_cases e : i = i'
  · subst e
    rw [if_pos rfl] at hx
    simp only [hi, if_true, Option.some.injEq] at hx
    subst hx
    refine ⟨hl, fun j d hd => ?_⟩
    have hj : j < sz := by have := (List.getElem?_eq_some_iff.1 hd).1; omega
    rw [zAs hb, if_pos (by omega), show i * sz + j - i * sz = j from by omega]
    exact h2.2 j d hd
  · rw [if_neg e] at hx
    obtain ⟨h3, h4⟩ := h.2 i' x hx
    refine ⟨h3, fun j d hd => ?_⟩
    have hj : j < sz := by have := (List.getElem?_eq_some_iff.1 hd).1; omega
    rw [zAs hb, if_neg]
    · exact h4 j d hd
    · rw [hvs]
      rcases Nat.lt_or_gt_of_ne e with hlt | hlt
      · have := zHs (sz := sz) hlt; omega
      · have := zHs (sz := sz) hlt; omega
theorem zKA {w : World} {fz : Nat → Prop} {tb : Nat → Nat → Option (Nat × Nat)} {U : Nat → Nat → Prop} {sz : Nat} :
    ∀ {ps : List (Nat × D)} {vs : List (Nat × Value)} {rows : List (List D)} {cs : Array Value} {c : Prop} {out : List (List D)}, zGi sz rows ps = some (c, out) → c → RepR (Rep w fz tb U) sz rows cs.toList →
    ps.length = vs.length → (∀ (j : Nat) (p : Nat × D) (v : Nat × Value), ps[j]? = some p → vs[j]? = some v → p.1 = v.1 ∧ Rep w fz tb U p.2 v.2) →
    ∃ cs', Instr.fill (fun i => some (i * sz, sz)) cs vs = some cs' ∧ RepR (Rep w fz tb U) sz out cs'.toList ∧ out.length = rows.length := by
  intro ps
  induction ps with
  | nil =>
    intro vs rows cs c out h _ hr hl _
    have : vs = [] := List.eq_nil_of_length_eq_zero hl.symm
    subst this
    simp only [zGi, Option.some.injEq, Prod.mk.injEq] at h
    obtain ⟨_, rfl⟩ := h
    exact ⟨cs, rfl, hr, rfl⟩
  | cons p ps ih =>
    intro vs rows cs c out h hc hr hl hp
    obtain ⟨i, d⟩ := p
    cases vs with
    | nil => simp at hl
    | cons v vs =>
      obtain ⟨i', v⟩ := v
      obtain ⟨h1, h2⟩ := hp 0 _ _ rfl rfl
      simp only at h1 h2
      subst h1
      unfold zGi at h
      split at h
      · cases h
      · rename_i c' out' hf
        simp only [Option.some.injEq, Prod.mk.injEq] at h
        obtain ⟨rfl, rfl⟩ := h
        obtain ⟨⟨c1, c2, c3⟩, c4⟩ := hc
        have hrep := RepL.cells h2 c3
        have hsz : v.cells.size = sz := by have := hrep.1; simp at this; omega
        have hcs : cs.size = rows.length * sz := by have := hr.1; simp at this; omega
        have hb := zHs (sz := sz) c2
        obtain ⟨cs', e1, e2, e3⟩ := ih (cs := (splice cs.toList (i * sz) v.cells.toList).toArray) hf c4 (by simpa using RepR.set hr hrep c2 c1) (by simpa using hl) (fun j p' v' hj hv => hp (j + 1) p' v' (by simpa using hj) (by simpa using hv))
        refine ⟨cs', ?_, e2, by rw [e3, List.length_set]⟩
        unfold Instr.fill
        simp only
        rw [if_neg (by simp only [bne_iff_ne, ne_eq, gt_iff_lt, Bool.or_eq_true, decide_eq_true_eq, not_or]; omega)]
        rw [zGv _ _ _ (by omega)]
        exact e1

def zDH (P : Program) (t : TypeId) (len : Nat) (parts : List (Nat × D)) : Option (Prop × D) :=
  match tyI P t with
  | none => none
  | some i => match i.und with
    | .slice e => match tyI P e with
      | none => none
      | some ei => match zGi ei.size (List.replicate len (zAl ei.zero)) parts with
        | none => none
        | some (c, out) => some ((zAc (zAl ei.zero) = true ∧ (zAl ei.zero).length = ei.size ∧ 0 < ei.size ∧ len * ei.size ≤ 16777216 ∧ zFr out = true) ∧ c, .sl true ei.size out)
    | _ => none

theorem zOC {w : World} {fz : Nat → Prop} {tb : Nat → Nat → Option (Nat × Nat)} {U : Nat → Nat → Prop} {z : Value} {sz n : Nat} (hs : zAc (zAl z) = true) (hl : (zAl z).length = sz) (h0 : 0 < sz) :
    RepR (Rep w fz tb U) sz (List.replicate n (zAl z)) ((Array.range (n * sz)).map (fun j => z.cells[j % z.cells.size]!)).toList := by
  have hz : z.cells.size = sz := by simpa [zAl] using hl
  refine ⟨by simp, fun i x hx => ?_⟩
  rw [List.getElem?_replicate] at hx
  split at hx
  · rename_i hi
    cases hx
    refine ⟨hl, fun j d hd => ?_⟩
    have hj : j < sz := by have := (List.getElem?_eq_some_iff.1 hd).1; omega
    obtain ⟨u, a1, a2, a3⟩ := (RepL.zero (w := w) (fz := fz) (tb := tb) (U := U) hs).2 j d hd
    have hb := zHs (sz := sz) hi
    refine ⟨u, ?_, a2, a3⟩
    have hmod : (i * sz + j) % sz = j := by rw [Nat.mul_comm, Nat.mul_add_mod]; exact Nat.mod_eq_of_lt hj
    simp only [Array.toList_map, Array.toList_range, List.getElem?_map, List.getElem?_range (show i * sz + j < n * sz by omega), Option.map_some, hz, hmod]
    have : z.cells[j]? = some u := by simpa using a1
    simp [getElem!_def, this]
  · cases hx

section
variable {P : Program} {o : Oper} {opd : Operand → D} {σ : List Slot} {slot : Nat}

theorem zRr {B : Base} {σ' : List Slot} {ρ : Nat → Nat × Nat} {w w' : World} (hp : Hp B σ' ρ w) (hs : w.heap.size < w'.heap.size) : Fz B σ' ρ w' w.heap.size :=
  ⟨hs, fun h => by have := hp.n0 _ h; have := hp.size; omega, fun k hk => by have := hp.lt hk; omega⟩

theorem zJG {t : TypeId} {len : Nat} {parts : Array (Nat × Operand)} {c : Prop} {d : D} (ho : o.op = .buildSlice t len parts) (h : zDH P t len (parts.toList.map fun q => (q.1, opd q.2)) = some (c, d)) (hc : c) : WriteOk P o opd σ [] slot d [] := by
  intro B σ' ρ ev w hp hx _
  unfold zDH at h
  split at h
  · cases h
  · rename_i i hi
    split at h
    · rename_i e hu
      split at h
      · cases h
      · rename_i ei hei
        split at h
        · cases h
        · rename_i c' out hf
          simp only [Option.some.injEq, Prod.mk.injEq] at h
          obtain ⟨rfl, rfl⟩ := h
          obtain ⟨⟨hz, hzl, h0, h24, hfr⟩, hc'⟩ := hc
          obtain ⟨cs', e1, e2, e3⟩ := zKA (w := w) (fz := Fz B σ' ρ w) (tb := Tb σ' ρ) (U := zBX σ') hf hc' (zOC (n := len) hz hzl h0)
            (vs := (parts.map fun (i, x) => (i, ev x)).toList) (by simp) (zGY (fun p hp' => hx p.2 (by
              rw [ho]
              have : p.2 ∈ parts.map (fun q => q.2) := Array.mem_map.2 ⟨p, hp', rfl⟩
              simpa [Op.operands] using this)))
          have hun := tyI.underlying hi w
          rw [hu] at hun
          have hout : out.length = len := by simpa using e3
          have hrun : (Instr.buildSlice t len (parts.map fun (i, x) => (i, ev x))).run P w = .ok (.slice (some ⟨w.heap.size, 0, none⟩) len len) (w.alloc (.cells cs' e)) := by
            unfold Instr.buildSlice
            rw [Sem.run_bind, hun]
            simp only [Result.andThen]
            rw [Sem.run_bind, tyI.sizeOf hei w]
            simp only [Result.andThen]
            rw [if_neg (by omega)]
            simp only [pure_bind]
            by_cases hl0 : len = 0
            · subst hl0
              simp only [Nat.zero_mul, if_true, pure_bind]
              simp only [Nat.zero_mul] at e1
              have : (Array.map (fun x => (#[] : Array Value)[x % (#[] : Array Value).size]!) (Array.range 0)) = Array.map (fun j => ei.zero.cells[j % ei.zero.cells.size]!) (Array.range 0) := by simp
              rw [this, e1]
              simp [newRow]
            · have hne : len * ei.size ≠ 0 := Nat.mul_ne_zero hl0 (by omega)
              have e1' : Instr.fill (fun i => some (i * ei.size, ei.size)) (Array.map (fun j => ei.zero.cells[j % ei.zero.cells.size]!) (Array.range (len * ei.size))) (Array.map (fun x => (x.fst, ev x.snd)) parts).toList = some cs' := e1
              rw [if_neg hne]
              rw [Sem.run_bind, tyI.zeroValue hei w]
              simp only [Result.andThen]
              rw [e1']
              simp [newRow]
          have hmv := zHu hp (Wr.alloc w (.cells cs' e))
          refine ⟨_, ρ, hmv.2, hmv.1, .inr ⟨.slice (some ⟨w.heap.size, 0, none⟩) len len, ?_, .fro _ _ ?_⟩⟩
          · simp only [execOp, ho]
            exact za hrun
          · show RepF _ (Fz B σ' ρ _) _ _
            by_cases hl0 : len = 0
            · have : out = [] := List.eq_nil_of_length_eq_zero (by omega)
              rw [this, hl0]
              exact .sl0 _ _ _ _ (fun _ => rfl)
            · have hcells : ∀ (i : Nat) (x : List D) (j : Nat) (d : D), out[i]? = some x → x[j]? = some d → ∃ u, cs'.toList[i * ei.size + j]? = some u ∧ u.oneCell' = true ∧ Rp B σ' ρ w d u := fun i x j d hi hj => (e2.2 i x hi).2 j d hj
              refine .sl true _ _ w.heap.size 0 len len (fun i j => (cs'.toList[i * ei.size + j]?).getD undef) hout.symm (by omega) (Nat.le_refl _) (fun _ => rfl) (zRr hp (by simp)) (fun x hx => ?_) (fun i x j d hi hj => ?_) (fun i x j d hi hj => ?_)
              · obtain ⟨i, hi⟩ := List.mem_iff_getElem?.1 hx
                exact (e2.2 i x hi).1
              · obtain ⟨u, a1, a2, a3⟩ := hcells i x j d hi hj
                simp only [a1, Option.getD_some]
                refine ⟨?_, a2⟩
                rw [Nat.zero_add]
                exact zDm (heap_alloc_new w _) (by simpa using a1)
              · obtain ⟨u, a1, a2, a3⟩ := hcells i x j d hi hj
                simp only [a1, Option.getD_some]
                exact (hmv.1.rp a3).frz (zHm (zLi hfr hi) hj)
    · cases h
end

theorem zHl {α : Type} {sz : Nat} {rows : List (List α)} (hl : ∀ x ∈ rows, x.length = sz) : rows.flatten.length = rows.length * sz := by
  induction rows with
  | nil => simp
  | cons x r ih =>
    simp only [List.flatten_cons, List.length_append, List.length_cons]
    rw [ih (fun y hy => hl y (by simp [hy])), hl x (by simp), Nat.add_mul]
    omega
theorem zLf {α : Type} {sz : Nat} (h0 : 0 < sz) : ∀ {rows : List (List α)} (_ : ∀ x ∈ rows, x.length = sz) (k : Nat) (d : α), rows.flatten[k]? = some d → ∃ x, rows[k / sz]? = some x ∧ x[k % sz]? = some d := by
  intro rows
  induction rows with
  | nil => intro _ k d h; simp at h
  | cons x r ih =>
    intro hl k d h
    have hx := hl x (by simp)
    by_cases hk : k < sz
    · rw [Nat.div_eq_of_lt hk, Nat.mod_eq_of_lt hk]
      rw [List.flatten_cons, List.getElem?_append_left (by omega)] at h
      exact ⟨x, rfl, h⟩
    · rw [List.flatten_cons, List.getElem?_append_right (by omega), hx] at h
      obtain ⟨y, h1, h2⟩ := ih (fun y hy => hl y (by simp [hy])) _ _ h
      have hd : k / sz = (k - sz) / sz + 1 := by rw [← Nat.add_div_right _ h0]; congr 1; omega
      have hm : k % sz = (k - sz) % sz := by rw [← Nat.mod_eq_sub_mod (by omega)]
      rw [hd, hm]
      exact ⟨y, by simpa using h1, h2⟩

def isZ : Nat → Bool
  | 0 => true
  | _ + 1 => false
def zQy (x : D) (σ : List Slot) (size : Nat) : Option (Prop × List D × Nat × Bool × List Nat) :=
  match x with
  | .sl _ sz ys => some (sz = size, ys.flatten, ys.length, zBQ ys, [])
  | .v (.slice _ 0 _) => some (True, [], 0, true, [])
  | .ref k g m => match zAD σ k g with
    | some en => some (en.arr = some size ∧ m * size ≤ en.cells.length, en.cells.take (m * size), m, isZ m, [k])
    | none => none
  | _ => none
theorem zBx {B : Base} {σ σ' : List Slot} {ρ : Nat → Nat × Nat} {w : World} {x : D} {u : Value} {size m : Nat} {c : Prop} {ds : List D} {z : Bool} {rd : List Nat} (h : zQy x σ size = some (c, ds, m, z, rd)) (hc : c) (h0 : 0 < size)
    (hp : Hp B σ' ρ w) (hx : Rp B σ' ρ w x u) (hrd : ∀ k ∈ rd, σ'[k]? = σ[k]?) :
    ∃ (A : Option Addr) (cap : Nat) (news : List Value), u = .slice A m cap ∧ news.length = m * size ∧ RepL (Rp B σ' ρ w) ds news ∧ (z = true ↔ m = 0) ∧ (0 < m → ∃ a : Addr, A = some a ∧ ∀ j v, news[j]? = some v → w.cell? (a.add j) = some v) := by
  unfold zQy at h
  split at h
  · rename_i full sz ys
    simp only [Option.some.injEq, Prod.mk.injEq] at h
    obtain ⟨rfl, rfl, rfl, rfl, rfl⟩ := h
    have hsl := hx.sl_inv
    subst hc
    cases hsl with
    | sl0 _ _ A cap _ => exact ⟨A, cap, [], rfl, by simp, ⟨rfl, fun j d hd => by simp at hd⟩, by simp [zBQ], fun h => by simp at h⟩
    | sl _ _ _ b o cap n g hn hpos hcap hf hb hw hcell hr =>
      have hfl := zHl hw
      have hkey : ∀ (k : Nat) (d : D), ys.flatten[k]? = some d → w.cell? ⟨b, o + k, none⟩ = some (g (k / sz) (k % sz)) ∧ (g (k / sz) (k % sz)).oneCell' = true ∧ RepF w (Fz B σ' ρ w) d (g (k / sz) (k % sz)) := by
        intro k d hd
        obtain ⟨x, h1, h2⟩ := zLf h0 hw k d hd
        have := hcell _ _ _ _ h1 h2
        rw [show o + k / sz * sz + k % sz = o + k from by rw [Nat.add_assoc, Nat.mul_comm, Nat.div_add_mod]] at this
        exact ⟨this.1, this.2, hr _ _ _ _ h1 h2⟩
      refine ⟨some ⟨b, o, none⟩, cap, (List.range ys.flatten.length).map (fun k => g (k / sz) (k % sz)), by rw [hn], by simp [hfl], ⟨by simp, fun j d hd => ?_⟩, ?_, fun _ => ⟨_, rfl, fun j v hv => ?_⟩⟩
      · have hlt := (List.getElem?_eq_some_iff.1 hd).1
        obtain ⟨_, h2, h3⟩ := hkey j d hd
        exact ⟨_, by rw [List.getElem?_map, List.getElem?_range hlt]; rfl, h2, .fro _ _ h3⟩
      · cases ys with
        | nil => simp at hn; omega
        | cons y ys => simp [zBQ]
      · have hlt : j < ys.flatten.length := by have := (List.getElem?_eq_some_iff.1 hv).1; simpa using this
        rw [List.getElem?_map, List.getElem?_range hlt] at hv
        simp only [Option.map_some, Option.some.injEq] at hv
        rw [zAX, ← hv]
        exact (hkey j _ (List.getElem?_eq_getElem hlt)).1
  · simp only [Option.some.injEq, Prod.mk.injEq] at h
    obtain ⟨rfl, rfl, rfl, rfl, rfl⟩ := h
    exact ⟨_, _, [], hx.v_inv, by simp, ⟨rfl, fun j d hd => by simp at hd⟩, by simp, fun h => by omega⟩
  · rename_i k g m'
    split at h
    · rename_i en hl
      simp only [Option.some.injEq, Prod.mk.injEq] at h
      obtain ⟨rfl, rfl, rfl, rfl, rfl⟩ := h
      obtain ⟨c1, c2⟩ := hc
      have hl' : zAD σ' k g = some en := by rw [zAO (hrd k (by simp))]; exact hl
      have hev := zCK hx hl'
      obtain ⟨hk, hge, hkd⟩ := zAY hl'
      obtain ⟨cs, e1, e2, e3⟩ := (hp.ent k en hk).row hkd
      rw [c1] at e2
      simp only at e2
      refine ⟨some ⟨(ρ k).1, 0, none⟩, (ρ k).2, cs.toList.take (m' * size), hev.1, by simp; omega, ⟨by simp; omega, fun j d hd => ?_⟩, by cases m' <;> simp [isZ], fun _ => ⟨_, rfl, fun j v hv => ?_⟩⟩
      · have hlt : j < m' * size := by have := (List.getElem?_eq_some_iff.1 hd).1; simp at this; omega
        rw [List.getElem?_take_of_lt hlt] at hd
        obtain ⟨u, a1, a2, a3⟩ := e3 j d hd
        exact ⟨u, by rw [List.getElem?_take_of_lt hlt]; simpa using a1, a2, a3⟩
      · have hlt : j < m' * size := by have := (List.getElem?_eq_some_iff.1 hv).1; simp at this; omega
        rw [List.getElem?_take_of_lt hlt] at hv
        rw [zAX, Nat.zero_add]
        exact zDm e1 (by simpa using hv)
    · cases h
  · cases h

def zEn (P : Program) (t : TypeId) (s x : D) (σ : List Slot) (slot : Nat) : Option (Prop × D × List (Nat × Slot) × List Nat) :=
  match tyI P t with
  | none => none
  | some i => match i.und with
    | .slice e => match tyI P e with
      | none => none
      | some ei => match zQy x σ ei.size with
        | none => none
        | some (c, ds, m, z, rd) =>
          match s with
          | .v (.slice none 0 0) =>
            match z with
            | true => some (c ∧ 0 < ei.size, .v (.slice none 0 0), [], rd)
            | false => some (c ∧ 0 < ei.size ∧ (zAl ei.zero).length = ei.size ∧ m * ei.bytes ≤ 140737488355328 ∧ m ≤ 9223372036854775807, .ref slot 0 m, [(slot, .ent ⟨0, some ei.size, e, ds, .cells⟩)], rd)
          | .sl true sz xs =>
            match z with
            | true => some (c ∧ 0 < ei.size, .sl true sz xs, [], rd)
            | false => some (c ∧ sz = ei.size ∧ 0 < ei.size ∧ (zAl ei.zero).length = ei.size ∧ (xs.length + m) * ei.bytes ≤ 140737488355328 ∧ xs.length + m ≤ 9223372036854775807, .ref slot 0 (xs.length + m), [(slot, .ent ⟨0, some ei.size, e, xs.flatten ++ ds, .cells⟩)], rd)
          | .ref k g n =>
            match zAD σ k g with
            | none => none
            | some en => match z with
              | true => some (c ∧ 0 < ei.size, .ref k g n, [], k :: rd)
              | false => some (c ∧ 0 < ei.size ∧ (zAl ei.zero).length = ei.size ∧ en.arr = some ei.size ∧ en.ty = e ∧ n * ei.size ≤ en.cells.length ∧ (n + m) * ei.bytes ≤ 140737488355328 ∧ n + m ≤ 9223372036854775807,
                  .ref k (en.gen + 1) (n + m), [(k, .ent ⟨en.gen + 1, some ei.size, e, en.cells.take (n * ei.size) ++ ds, .cells⟩)], k :: rd)
          | _ => none
    | _ => none

theorem RepL.app {R : D → Value → Prop} {a b : List D} {x y : List Value} (h1 : RepL R a x) (h2 : RepL R b y) : RepL R (a ++ b) (x ++ y) := by
  refine ⟨by rw [List.length_append, List.length_append, h1.1, h2.1], fun j d hd => ?_⟩
  by_cases hj : j < a.length
  · rw [List.getElem?_append_left hj] at hd
    rw [List.getElem?_append_left (by rw [← h1.1]; exact hj)]
    exact h1.2 j d hd
  · rw [List.getElem?_append_right (by omega)] at hd
    rw [List.getElem?_append_right (by rw [← h1.1]; omega), ← h1.1]
    exact h2.2 _ d hd
theorem RepL.one {R : D → Value → Prop} {a : List D} {x : List Value} (h : RepL R a x) : ∀ u ∈ x, u.oneCell' = true := by
  intro u hu
  obtain ⟨j, hj⟩ := List.mem_iff_getElem?.1 hu
  have hlt : j < a.length := by have := (List.getElem?_eq_some_iff.1 hj).1; have := h.1; omega
  obtain ⟨v, a1, a2, _⟩ := h.2 j _ (List.getElem?_eq_getElem hlt)
  rw [hj] at a1
  cases a1
  exact a2

theorem zEo {B : Base} {σ' : List Slot} {ρ : Nat → Nat × Nat} {w' : World} {k : Nat} {e : Ent} {b cap n : Nat} (hlt : k < σ'.length) (hn : n ≤ cap) :
    Rp B (zAS σ' [(k, .ent e)]) (zDC ρ k (b, cap)) w' (.ref k e.gen n) (.slice (some ⟨b, 0, none⟩) n cap) := by
  have hg : (zAS σ' [(k, .ent e)])[k]? = some (.ent e) := by simp [zAS, hlt]
  refine .ref k e.gen n _ ⟨_, hg, Nat.le_refl _⟩ rfl (fun b' c hb => ?_)
  have := Tb.of (ρ := zDC ρ k (b, cap)) hg
  rw [hb, zBh] at this
  cases this
  exact ⟨rfl, hn⟩

section
variable {P : Program} {o : Oper} {opd : Operand → D} {σ : List Slot} {slot : Nat}

theorem zAq {t ty e : TypeId} {i : TyI} {ei : TyI} (hi : tyI P t = some i) (hu : i.und = .slice e) (hei : tyI P e = some ei) (w : World) (A B : Option Addr) (n cap cap2 : Nat) (hn : n ≤ cap) :
    (Builtin.append_ #[t, t] ty #[.slice A n cap, .slice B 0 cap2]).run P w = .ok (.slice A n cap) w := by
  obtain ⟨j, _, h2, _⟩ := tyI.spec hi
  rw [hu] at h2
  obtain ⟨j', h3, _, h4, _⟩ := tyI.spec hei
  have hu' := run_underlying (w := w) h2
  cases A <;> cases B <;> simp [Builtin.append_, hu', sizeOf, typeInfo, h3, Builtin.lenOf, hn, Builtin.firstCells, loadCells, loadCellsFrom, storeCells]

theorem zOX {t : TypeId} {s x : Operand} {cs : Call} {c : Prop} {d : D} {sets : List (Nat × Slot)} {rd : List Nat} (ho : o.op = .call cs) (hcal : cs.callee = .builtin .append) (hargs : cs.args = #[s, x]) (hty : cs.argTypes = #[t, t])
    (h : zEn P t (opd s) (opd x) σ slot = some (c, d, sets, rd)) (hc : c) (hf : zCg σ slot) : WriteOk P o opd σ rd slot d sets := by
  intro B σ' ρ ev w hp hx hσ
  have hmem : ∀ y, y ∈ #[s, x] → y ∈ o.op.operands := by
    intro y hy
    rw [ho]
    simp only [Op.operands, Call.operands, hargs]
    exact Array.mem_append.2 (.inr hy)
  have h1 := hx s (hmem s (by simp))
  have h2 := hx x (hmem x (by simp))
  have hexec : ∀ v w', (Builtin.append_ #[t, t] o.type #[ev s, ev x]).run P w = .ok v w' → (execOp ev o).run P w = .ok (.value v) w' := by
    intro v w' hr
    refine zBN ho hcal ?_
    rw [hargs, hty]
    exact za (by simpa using hr)
  unfold zEn at h
  split at h
  · cases h
  · rename_i i hi
    split at h
    · rename_i e hu
      split at h
      · cases h
      · rename_i ei hei
        split at h
        · cases h
        · rename_i c' ds m z rd' hsrc
          obtain ⟨jt, hjt, ht, _⟩ := tyI.spec hi
          rw [hu] at ht
          obtain ⟨je, hje, _, hjs, hjb, hjz⟩ := tyI.spec hei
          have hcap_ge : ∀ need old, need ≤ grownCap w need old e := fun need old => grownCap_ge w need old e
          split at h
          · -- nil
            rename_i hs
            rw [hs] at h1
            have hev := h1.v_inv
            split at h
            · simp only [Option.some.injEq, Prod.mk.injEq] at h
              obtain ⟨rfl, rfl, rfl, rfl⟩ := h
              obtain ⟨hc', h0⟩ := hc
              obtain ⟨A, cap, news, e1, e2, e3, e4, e5⟩ := zBx hsrc hc' h0 hp h2 (fun k hk => hσ k (.inr hk))
              have hm : m = 0 := e4.1 rfl
              subst hm
              refine ⟨w, ρ, hp, ⟨Nat.le_refl _, fun _ _ _ => rfl, fun k hk => .inl ⟨k, hk, rfl⟩, fun _ _ h => h, fun _ _ _ _ h => h⟩, .inr ⟨.slice none 0 0, hexec _ _ ?_, .fro _ _ (.v _)⟩⟩
              rw [hev, e1]
              exact zAq hi hu hei w none A 0 0 cap (Nat.le_refl _)
            · simp only [Option.some.injEq, Prod.mk.injEq] at h
              obtain ⟨rfl, rfl, rfl, rfl⟩ := h
              obtain ⟨hc', h0, hzl, hb, h63⟩ := hc
              obtain ⟨A, cap, news, e1, e2, e3, e4, e5⟩ := zBx hsrc hc' h0 hp h2 (fun k hk => hσ k (.inr hk))
              have hm : 0 < m := by rcases Nat.eq_zero_or_pos m with h | h; · have := e4.2 h; cases this
                                    · exact h
              obtain ⟨a, rfl, hcell⟩ := e5 hm
              have hr := run_append_nil (P := P) w t o.type e je ei.zero ht hje hjz a m cap news (by rw [hjs]; exact e2) hcell hm (by omega) (by rw [hjb]; omega)
              have hge := hcap_ge m 0
              have hzs : ei.zero.cells.size = ei.size := by simpa [zAl] using hzl
              have hput := zFa (t := e) (ds := ds) (arr := some ei.size) (cap := grownCap w m 0 e) hp hf (hσ slot (.inl rfl)) (cs := news.toArray ++ Builtin.zeroCells ei.zero.cells (grownCap w m 0 e - m)) (by
                refine ⟨?_, ?_⟩
                · simp only [Array.size_append, List.size_toArray, size_zeroCells, hzs, e2]
                  rw [← Nat.add_mul]; congr 1; omega
                · simp only [Array.size_append, List.size_toArray]
                  have := e3.1
                  omega) (fun j d hd => by
                obtain ⟨u, a1, a2, a3⟩ := e3.2 j d hd
                refine ⟨u, ?_, a2, a3⟩
                rw [Array.getElem?_append, if_pos (by have := (List.getElem?_eq_some_iff.1 a1).1; simpa using this)]
                simpa using a1) (Wr.drew_alloc w _) (heap_alloc_new w.drew _)
              refine ⟨_, _, hput.2, hput.1, .inr ⟨_, hexec _ _ (by rw [hev, e1]; exact hr), ?_⟩⟩
              refine zEo (e := ⟨0, some ei.size, e, ds, .cells⟩) ?_ hge
              have hfree : σ'[slot]? = some .free := by rw [hσ slot (.inl rfl)]; exact zBj hf
              exact (List.getElem?_eq_some_iff.1 hfree).1
          · -- a clipped one
            rename_i sz xs hs
            rw [hs] at h1
            have hsl := h1.sl_inv
            split at h
            · simp only [Option.some.injEq, Prod.mk.injEq] at h
              obtain ⟨rfl, rfl, rfl, rfl⟩ := h
              obtain ⟨hc', h0⟩ := hc
              obtain ⟨A, cap, news, e1, e2, e3, e4, e5⟩ := zBx hsrc hc' h0 hp h2 (fun k hk => hσ k (.inr hk))
              have hm : m = 0 := e4.1 rfl
              subst hm
              refine ⟨w, ρ, hp, ⟨Nat.le_refl _, fun _ _ _ => rfl, fun k hk => .inl ⟨k, hk, rfl⟩, fun _ _ h => h, fun _ _ _ _ h => h⟩, .inr ⟨ev s, hexec _ _ ?_, h1⟩⟩
              rw [e1]
              generalize ev s = u at hsl
              cases hsl with
              | sl0 _ _ A' cap' hf' => exact zAq hi hu hei w A' A 0 cap' cap (Nat.zero_le _)
              | sl _ _ _ b o' cap' n g hn hpos hcap _ _ _ _ _ => exact zAq hi hu hei w _ A n cap' cap hcap
            · simp only [Option.some.injEq, Prod.mk.injEq] at h
              obtain ⟨rfl, rfl, rfl, rfl⟩ := h
              obtain ⟨hc', hse, h0, hzl, hb, h63⟩ := hc
              obtain ⟨A, cap, news, e1, e2, e3, e4, e5⟩ := zBx hsrc hc' h0 hp h2 (fun k hk => hσ k (.inr hk))
              have hm : 0 < m := by rcases Nat.eq_zero_or_pos m with h | h; · have := e4.2 h; cases this
                                    · exact h
              obtain ⟨a, rfl, hcell⟩ := e5 hm
              have hzs : ei.zero.cells.size = ei.size := by simpa [zAl] using hzl
              obtain ⟨A0, cap0, olds, o1, o2, o3, _, o5⟩ := zBx (x := .sl true sz xs) (σ := σ) (size := ei.size) rfl hse h0 hp h1 (fun k hk => by cases hk)
              have hcap0 : A0 = none ∧ xs.length = 0 ∧ cap0 = 0 ∨ cap0 = xs.length := by
                rw [o1] at hsl
                generalize hxl : xs.length = xl at *
                cases hsl with
                | sl0 _ _ _ _ hfull => have := hfull rfl; simp at hxl; omega
                | sl _ _ _ b o' cap' n g hn hpos hcap hfull _ _ _ _ => exact .inr (hfull rfl)
              have hge := hcap_ge (xs.length + m) cap0
              have hfin : ∃ w', (Builtin.append_ #[t, t] o.type #[ev s, ev x]).run P w = .ok (.slice (some ⟨w.heap.size, 0, none⟩) (xs.length + m) (grownCap w (xs.length + m) cap0 e)) w' ∧
                  w' = w.drew.alloc (.cells (olds.toArray ++ news.toArray ++ Builtin.zeroCells ei.zero.cells (grownCap w (xs.length + m) cap0 e - (xs.length + m))) e) := by
                refine ⟨_, ?_, rfl⟩
                rw [e1, o1]
                by_cases hx0 : xs.length = 0
                · have holds : olds = [] := List.eq_nil_of_length_eq_zero (by rw [o2, hx0]; simp)
                  have hc0 : cap0 = 0 := by rcases hcap0 with h | h <;> omega
                  subst holds
                  rw [hx0, hc0]
                  cases A0 with
                  | none =>
                    have hr := run_append_nil (P := P) w t o.type e je ei.zero ht hje hjz a m cap news (by rw [hjs]; exact e2) hcell hm (by omega) (by rw [hjb]; rw [hx0] at hb; simp only [Nat.zero_add] at hb; omega)
                    simpa using hr
                  | some b0 =>
                    have hr := run_append_grow (P := P) w t o.type e je ei.zero ht hje hjz b0 0 0 [] (by simp) (fun j v hv => by simp at hv) a m cap news (by rw [hjs]; exact e2) hcell (by omega) (by omega) (by rw [hjb]; exact growslice_fits (by omega) (by rw [hx0] at hb; exact hb))
                    exact hr
                · obtain ⟨a0, rfl, hcell0⟩ := o5 (by omega)
                  have hc0 : cap0 = xs.length := by rcases hcap0 with h | h <;> omega
                  exact run_append_grow (P := P) w t o.type e je ei.zero ht hje hjz a0 xs.length cap0 olds (by rw [hjs]; exact o2) hcell0 a m cap news (by rw [hjs]; exact e2) hcell (by omega) (by omega) (by rw [hjb]; exact growslice_fits (by omega) hb)
              obtain ⟨w', hr, rfl⟩ := hfin
              have hall := RepL.app o3 e3
              have hput := zFa (t := e) (ds := xs.flatten ++ ds) (arr := some ei.size) (cap := grownCap w (xs.length + m) cap0 e) hp hf (hσ slot (.inl rfl)) (cs := olds.toArray ++ news.toArray ++ Builtin.zeroCells ei.zero.cells (grownCap w (xs.length + m) cap0 e - (xs.length + m))) (by
                refine ⟨?_, ?_⟩
                · simp only [Array.size_append, List.size_toArray, size_zeroCells, hzs, e2, o2]
                  rw [← Nat.add_mul, ← Nat.add_mul]; congr 1; omega
                · simp only [Array.size_append, List.size_toArray]
                  have := hall.1
                  simp only [List.length_append] at this ⊢
                  omega) (fun j d hd => by
                obtain ⟨u, a1, a2, a3⟩ := hall.2 j d hd
                refine ⟨u, ?_, a2, a3⟩
                have hlt := (List.getElem?_eq_some_iff.1 a1).1
                rw [Array.getElem?_append, if_pos (by simpa using hlt)]
                simpa using a1) (Wr.drew_alloc w _) (heap_alloc_new w.drew _)
              refine ⟨_, _, hput.2, hput.1, .inr ⟨_, hexec _ _ hr, ?_⟩⟩
              refine zEo (e := ⟨0, some ei.size, e, xs.flatten ++ ds, .cells⟩) ?_ hge
              have hfree : σ'[slot]? = some .free := by rw [hσ slot (.inl rfl)]; exact zBj hf
              exact (List.getElem?_eq_some_iff.1 hfree).1
          · -- an own array
            rename_i k g n hs
            rw [hs] at h1
            split at h
            · cases h
            · rename_i en hl
              have hl' : ∀ (hk : σ'[k]? = σ[k]?), zAD σ' k g = some en := fun hk => by rw [zAO hk]; exact hl
              split at h
              · simp only [Option.some.injEq, Prod.mk.injEq] at h
                obtain ⟨rfl, rfl, rfl, rfl⟩ := h
                obtain ⟨hc', h0⟩ := hc
                obtain ⟨A, cap, news, e1, e2, e3, e4, e5⟩ := zBx hsrc hc' h0 hp h2 (fun k hk => hσ k (.inr (by simp [hk])))
                have hm : m = 0 := e4.1 rfl
                subst hm
                have hev := zCK h1 (hl' (hσ k (.inr (by simp))))
                refine ⟨w, ρ, hp, ⟨Nat.le_refl _, fun _ _ _ => rfl, fun k hk => .inl ⟨k, hk, rfl⟩, fun _ _ h => h, fun _ _ _ _ h => h⟩, .inr ⟨ev s, hexec _ _ ?_, h1⟩⟩
                rw [e1, hev.1]
                exact zAq hi hu hei w _ A n _ cap hev.2
              · simp only [Option.some.injEq, Prod.mk.injEq] at h
                obtain ⟨rfl, rfl, rfl, rfl⟩ := h
                obtain ⟨hc', h0, hzl, harr, hty', hnl, hb, h63⟩ := hc
                have hl2 := hl' (hσ k (.inr (by simp)))
                obtain ⟨A, cap, news, e1, e2, e3, e4, e5⟩ := zBx hsrc hc' h0 hp h2 (fun k hk => hσ k (.inr (by simp [hk])))
                have hm : 0 < m := by rcases Nat.eq_zero_or_pos m with h | h; · have := e4.2 h; cases this
                                      · exact h
                obtain ⟨a, rfl, hcell⟩ := e5 hm
                have hzs : ei.zero.cells.size = ei.size := by simpa [zAl] using hzl
                have hev := zCK h1 hl2
                obtain ⟨hk, hge, hkd⟩ := zAY hl2
                obtain ⟨cells, f1, f2, f3⟩ := (hp.ent k en hk).row hkd
                rw [harr] at f2
                simp only at f2
                rw [hty'] at f1
                have hlt : k < σ'.length := (List.getElem?_eq_some_iff.1 hk).1
                have zSJ : RepL (Rp B σ' ρ w) (en.cells.take (n * ei.size)) (cells.toList.take (n * ei.size)) := by
                  refine ⟨by simp; omega, fun j d hd => ?_⟩
                  have hj : j < n * ei.size := by have := (List.getElem?_eq_some_iff.1 hd).1; simp at this; omega
                  rw [List.getElem?_take_of_lt hj] at hd
                  obtain ⟨u, a1, a2, a3⟩ := f3 j d hd
                  exact ⟨u, by rw [List.getElem?_take_of_lt hj]; simpa using a1, a2, a3⟩
                have hall := RepL.app zSJ e3
                by_cases hroom : n + m ≤ (ρ k).2
                · have hfit : n * ei.size + news.length ≤ cells.size := by rw [e2, f2.1, ← Nat.add_mul]; exact Nat.mul_le_mul_right _ hroom
                  have hr := run_append_room (P := P) w t o.type e je ht hje (ρ k).1 n (ρ k).2 cells f1 a m cap news (by rw [hjs]; exact e2) hcell e3.one hroom (by rw [hjs]; exact hfit)
                  have hput := zDi hp (k := k) (e' := ⟨en.gen + 1, some ei.size, e, en.cells.take (n * ei.size) ++ ds, .cells⟩) (b := (ρ k).1) (cap := (ρ k).2) (Wr.setRow w (ρ k).1 _) (.inr ⟨en, hk, .inl ⟨Nat.le_succ _, rfl⟩⟩) rfl
                    ⟨_, setRow_heap w _ cells (cells.toList.take (n * je.size) ++ news ++ cells.toList.drop (n * je.size + news.length)).toArray _ _ f1, by
                      have := hall.1
                      simp only [List.length_append, List.length_take, Array.length_toList] at this
                      simp only [List.size_toArray, List.length_append, List.length_take, List.length_drop, Array.length_toList, hjs]
                      refine ⟨by rw [← f2.1]; omega, by omega⟩, fun j d hd => by
                      obtain ⟨u, a1, a2, a3⟩ := hall.2 j d hd
                      have hlt := (List.getElem?_eq_some_iff.1 a1).1
                      refine ⟨u, ?_, a2, a3⟩
                      rw [List.getElem?_toArray, hjs, List.getElem?_append_left hlt]
                      exact a1⟩
                  refine ⟨_, _, hput.2, hput.1, .inr ⟨_, hexec _ _ (by rw [e1, hev.1]; exact hr), zEo (e := ⟨en.gen + 1, some ei.size, e, en.cells.take (n * ei.size) ++ ds, .cells⟩) hlt hroom⟩⟩
                · have hr := run_append_grow (P := P) w t o.type e je ei.zero ht hje hjz ⟨(ρ k).1, 0, none⟩ n (ρ k).2 (cells.toList.take (n * ei.size)) (by rw [hjs]; simp; omega) (fun j v hv => by
                      have hj : j < n * ei.size := by have := (List.getElem?_eq_some_iff.1 hv).1; simp at this; omega
                      rw [List.getElem?_take_of_lt hj] at hv
                      rw [zAX, Nat.zero_add]
                      exact zDm f1 (by simpa using hv)) a m cap news (by rw [hjs]; exact e2) hcell (by omega) (by omega) (by rw [hjb]; exact growslice_fits (by omega) hb)
                  have hge' := hcap_ge (n + m) (ρ k).2
                  have hput := zDi hp (k := k) (e' := ⟨en.gen + 1, some ei.size, e, en.cells.take (n * ei.size) ++ ds, .cells⟩) (b := w.heap.size) (cap := grownCap w (n + m) (ρ k).2 e)
                    (Wr.drew_alloc w (.cells ((cells.toList.take (n * ei.size)).toArray ++ news.toArray ++ Builtin.zeroCells ei.zero.cells (grownCap w (n + m) (ρ k).2 e - (n + m))) e)) (.inr ⟨en, hk, .inr ⟨Nat.lt_succ_self _, rfl⟩⟩) rfl
                    ⟨_, heap_alloc_new w.drew _, by
                      have h1' := hall.1
                      simp only [List.length_append, List.length_take, Array.length_toList] at h1'
                      have h2' : (List.take (n * ei.size) cells.toList).length = n * ei.size := by simp; omega
                      simp only [Array.size_append, List.size_toArray, size_zeroCells, hzs, e2, h2']
                      refine ⟨by rw [← Nat.add_mul, ← Nat.add_mul]; congr 1; omega, ?_⟩
                      simp only [List.length_append, List.length_take]
                      have := e3.1
                      omega, fun j d hd => by
                      obtain ⟨u, a1, a2, a3⟩ := hall.2 j d hd
                      have hlt := (List.getElem?_eq_some_iff.1 a1).1
                      refine ⟨u, ?_, a2, a3⟩
                      rw [Array.getElem?_append, if_pos (by simpa using hlt)]
                      simpa using a1⟩
                  refine ⟨_, _, hput.2, hput.1, .inr ⟨_, hexec _ _ (by rw [e1, hev.1]; exact hr), zEo (e := ⟨en.gen + 1, some ei.size, e, en.cells.take (n * ei.size) ++ ds, .cells⟩) hlt hge'⟩⟩
          · cases h
    · cases h
end

def zCn (P : Program) (t : TypeId) (s x : D) (σ : List Slot) : Option (Prop × D × List (Nat × Slot) × List Nat) :=
  match tyI P t with
  | none => none
  | some i => match i.und with
    | .slice e => match tyI P e with
      | none => none
      | some ei => match s with
        | .ref k g n => match x with
          | .refo k2 g2 o m => match Nat.beq k k2 with
            | true => match zAD σ k g with
              | some en => some (g2 = g ∧ 0 < ei.size ∧ en.arr = some ei.size ∧ en.ty = e ∧ (n + m) * ei.size ≤ en.cells.length ∧ o + m * ei.size ≤ en.cells.length,
                  .ref k g (n + m), [(k, .ent { en with cells := splice en.cells (n * ei.size) ((en.cells.drop o).take (m * ei.size)) })], [k])
              | none => none
            | false => none
          | _ => none
        | _ => none
    | _ => none
def zGU (P : Program) (t : TypeId) (x : D) (σ : List Slot) : Option (Prop × List (Nat × Slot) × Nat) :=
  match tyI P t with
  | none => none
  | some i => match i.und with
    | .slice e => match tyI P e with
      | none => none
      | some ei => match x with
        | .refo k g o n => match zAD σ k g with
          | some en => some (0 < ei.size ∧ (zAl ei.zero).length = ei.size ∧ zAc (zAl ei.zero) = true ∧ en.arr = some ei.size ∧ en.ty = e ∧ o + n * ei.size ≤ en.cells.length, [(k, .ent { en with cells := en.cells.take o })], k)
          | none => none
        | _ => none
    | _ => none

section
variable {P : Program} {o : Oper} {opd : Operand → D} {σ : List Slot} {slot : Nat}
theorem zQU {B : Base} {σ' : List Slot} {ρ : Nat → Nat × Nat} {w' : World} {k g n : Nat} {e : Ent} (hlt : k < σ'.length) (hg : e.gen = g) (hn : n ≤ (ρ k).2) :
    Rp B (zAS σ' [(k, .ent e)]) (zDC ρ k ((ρ k).1, (ρ k).2)) w' (.ref k g n) (.slice (some ⟨(ρ k).1, 0, none⟩) n (ρ k).2) := by
  subst hg
  exact zEo hlt hn
theorem zLE {t : TypeId} {s x : Operand} {cs : Call} {c : Prop} {d : D} {sets : List (Nat × Slot)} {rd : List Nat} (ho : o.op = .call cs) (hcal : cs.callee = .builtin .append) (hargs : cs.args = #[s, x]) (hty : cs.argTypes = #[t, t])
    (h : zCn P t (opd s) (opd x) σ = some (c, d, sets, rd)) (hc : c) : WriteOk P o opd σ rd slot d sets := by
  intro B σ' ρ ev w hp hx hσ
  have hmem : ∀ y, y ∈ #[s, x] → y ∈ o.op.operands := by
    intro y hy
    rw [ho]
    simp only [Op.operands, Call.operands, hargs]
    exact Array.mem_append.2 (.inr hy)
  have h1 := hx s (hmem s (by simp))
  have h2 := hx x (hmem x (by simp))
  have hexec : ∀ v w', (Builtin.append_ #[t, t] o.type #[ev s, ev x]).run P w = .ok v w' → (execOp ev o).run P w = .ok (.value v) w' := by
    intro v w' hr
    refine zBN ho hcal ?_
    rw [hargs, hty]
    exact za (by simpa using hr)
  unfold zCn at h
  split at h
  · cases h
  · rename_i i hi
    split at h
    · rename_i e hu
      split at h
      · cases h
      · rename_i ei hei
        split at h
        · rename_i k g n hs
          split at h
          · rename_i k2 g2 o2 m hxd
            split at h
            · rename_i hbk
              have := Nat.eq_of_beq_eq_true hbk
              subst this
              split at h
              · rename_i en hl
                simp only [Option.some.injEq, Prod.mk.injEq] at h
                obtain ⟨rfl, rfl, rfl, rfl⟩ := h
                obtain ⟨rfl, h0, harr, hty', hnm, hom⟩ := hc
                obtain ⟨jt, hjt, ht, _⟩ := tyI.spec hi
                rw [hu] at ht
                obtain ⟨je, hje, _, hjs, hjb, hjz⟩ := tyI.spec hei
                rw [hs] at h1
                rw [hxd] at h2
                have hl2 : zAD σ' k g2 = some en := by rw [zAO (hσ k (.inr (by simp)))]; exact hl
                have hev := zCK h1 hl2
                have hroom : n + m ≤ (ρ k).2 := zJy hp hl2 harr h0 hnm
                obtain ⟨hk, hge, hkd⟩ := zAY hl2
                obtain ⟨cells, f1, f2, f3⟩ := (hp.ent k en hk).row hkd
                rw [harr] at f2
                simp only at f2
                have hlt : k < σ'.length := (List.getElem?_eq_some_iff.1 hk).1
                obtain ⟨A, cap, hxv, hA⟩ := h2.refo_inv.2 _ _ (hge ▸ Tb.of hk)
                have hnm' : n * ei.size + m * ei.size ≤ en.cells.length := by rw [← Nat.add_mul]; exact hnm
                have hdl : ((en.cells.drop o2).take (m * ei.size)).length = m * ei.size := by simp; omega
                have hnl : ((cells.toList.drop o2).take (m * ei.size)).length = m * ei.size := by simp; omega
                have hrow : ∀ (j : Nat) (d : D), ((en.cells.drop o2).take (m * ei.size))[j]? = some d → ∃ u, ((cells.toList.drop o2).take (m * ei.size))[j]? = some u ∧ u.oneCell' = true ∧ Rp B σ' ρ w d u := by
                  intro j d hd
                  have hj : j < m * ei.size := by have := (List.getElem?_eq_some_iff.1 hd).1; rw [hdl] at this; exact this
                  rw [List.getElem?_take_of_lt hj, List.getElem?_drop] at hd
                  obtain ⟨u, a1, a2, a3⟩ := f3 _ d hd
                  exact ⟨u, by rw [List.getElem?_take_of_lt hj, List.getElem?_drop]; simpa using a1, a2, a3⟩
                have hrun : (Builtin.append_ #[t, t] o.type #[ev s, ev x]).run P w = .ok (.slice (some ⟨(ρ k).1, 0, none⟩) (n + m) (ρ k).2) (if m = 0 then w else w.setRow (ρ k).1 (splice cells.toList (n * ei.size) ((cells.toList.drop o2).take (m * ei.size))).toArray) := by
                  rw [hev.1, hxv]
                  by_cases hm : m = 0
                  · subst hm
                    rw [if_pos rfl]
                    exact zAq hi hu hei w _ A n _ cap hev.2
                  · rw [if_neg hm, hA (by omega)]
                    have hr := run_append_room (P := P) w t o.type e je ht hje (ρ k).1 n (ρ k).2 cells (by rw [← hty']; exact f1) ⟨(ρ k).1, o2, none⟩ m cap ((cells.toList.drop o2).take (m * ei.size)) (by rw [hjs]; exact hnl) (fun j v hv => by
                      have hj : j < m * ei.size := by have := (List.getElem?_eq_some_iff.1 hv).1; rw [hnl] at this; exact this
                      rw [List.getElem?_take_of_lt hj, List.getElem?_drop] at hv
                      rw [zAX]
                      exact zDm f1 (by simpa using hv)) (fun v hv => by
                      obtain ⟨j, hj⟩ := List.mem_iff_getElem?.1 hv
                      have hjl : j < m * ei.size := by have := (List.getElem?_eq_some_iff.1 hj).1; rw [hnl] at this; exact this
                      obtain ⟨u, a1, a2, _⟩ := hrow j _ (List.getElem?_eq_getElem (by rw [hdl]; exact hjl))
                      rw [hj] at a1; cases a1; exact a2) hroom (by rw [hjs, hnl]; omega)
                    rw [hr, hjs]; rfl
                have hcl : (splice cells.toList (n * ei.size) ((cells.toList.drop o2).take (m * ei.size))).length = cells.toList.length := zAn (by rw [hnl]; simp; omega)
                have hel : (splice en.cells (n * ei.size) ((en.cells.drop o2).take (m * ei.size))).length = en.cells.length := zAn (by rw [hdl]; omega)
                have hent : ∃ cs : Array Value, (if m = 0 then w else w.setRow (ρ k).1 (splice cells.toList (n * ei.size) ((cells.toList.drop o2).take (m * ei.size))).toArray).heap[(ρ k).1]? = some (.cells cs en.ty (0, 0)) ∧ (cs.size = (ρ k).2 * ei.size ∧ (splice en.cells (n * ei.size) ((en.cells.drop o2).take (m * ei.size))).length ≤ cs.size) ∧
                    ∀ (j : Nat) (d : D), (splice en.cells (n * ei.size) ((en.cells.drop o2).take (m * ei.size)))[j]? = some d → ∃ u, cs[j]? = some u ∧ u.oneCell' = true ∧ Rp B σ' ρ w d u := by
                  have hgo : ∀ (j : Nat) (d : D), (splice en.cells (n * ei.size) ((en.cells.drop o2).take (m * ei.size)))[j]? = some d → ∃ u, (splice cells.toList (n * ei.size) ((cells.toList.drop o2).take (m * ei.size)))[j]? = some u ∧ u.oneCell' = true ∧ Rp B σ' ρ w d u := by
                    intro j d hd
                    rw [zAs (by rw [hdl]; omega), hdl] at hd
                    rw [zAs (by rw [hnl]; simp; omega), hnl]
                    split at hd
                    · rename_i hcond
                      rw [if_pos hcond]
                      exact hrow _ d hd
                    · rename_i hcond
                      rw [if_neg hcond]
                      obtain ⟨u, a1, a2, a3⟩ := f3 j d hd
                      exact ⟨u, by simpa using a1, a2, a3⟩
                  by_cases hm : m = 0
                  · subst hm
                    have hsp : splice cells.toList (n * ei.size) ((cells.toList.drop o2).take (0 * ei.size)) = cells.toList := by simp [splice]
                    rw [if_pos rfl]
                    refine ⟨cells, f1, ⟨f2.1, by rw [hel]; exact f2.2⟩, fun j d hd => ?_⟩
                    obtain ⟨u, a1, a2, a3⟩ := hgo j d hd
                    rw [hsp] at a1
                    exact ⟨u, by simpa using a1, a2, a3⟩
                  · rw [if_neg hm]
                    refine ⟨_, setRow_heap w _ cells _ _ _ f1, ⟨by rw [List.size_toArray, hcl]; simpa using f2.1, by rw [List.size_toArray, hcl, hel]; simpa using f2.2⟩, fun j d hd => ?_⟩
                    obtain ⟨u, a1, a2, a3⟩ := hgo j d hd
                    exact ⟨u, by rw [List.getElem?_toArray]; exact a1, a2, a3⟩
                have hwr : Wr w (if m = 0 then w else w.setRow (ρ k).1 (splice cells.toList (n * ei.size) ((cells.toList.drop o2).take (m * ei.size))).toArray) (ρ k).1 := by
                  split
                  · exact ⟨Nat.le_refl _, fun _ _ _ => rfl, rfl, rfl, rfl⟩
                  · exact Wr.setRow w (ρ k).1 _
                have hput := zDi hp (k := k) (e' := { en with cells := splice en.cells (n * ei.size) ((en.cells.drop o2).take (m * ei.size)) }) (b := (ρ k).1) (cap := (ρ k).2) hwr
                  (.inr ⟨en, hk, .inl ⟨Nat.le_refl _, rfl⟩⟩) hkd (by
                    obtain ⟨cs, q1, q2, q3⟩ := hent
                    exact ⟨cs, q1, by rw [harr]; exact q2, q3⟩)
                exact ⟨_, _, hput.2, hput.1, .inr ⟨_, hexec _ _ hrun, zQU (e := { en with cells := splice en.cells (n * ei.size) ((en.cells.drop o2).take (m * ei.size)) }) hlt hge hroom⟩⟩
              · cases h
            · cases h
          · cases h
        · cases h
    · cases h
theorem zPL {t : TypeId} {x : Operand} {cs : Call} {c : Prop} {sets : List (Nat × Slot)} {k : Nat} (ho : o.op = .call cs) (hcal : cs.callee = .builtin .clear) (hargs : cs.args = #[x]) (hty : cs.argTypes = #[t])
    (h : zGU P t (opd x) σ = some (c, sets, k)) (hc : c) : WriteOk P o opd σ [k] slot .any sets := by
  intro B σ' ρ ev w hp hx hσ
  have h1 := hx x (by
    rw [ho]
    simp only [Op.operands, Call.operands, hargs]
    exact Array.mem_append.2 (.inr (by simp)))
  have hexec : ∀ v w', (Builtin.clear_ #[t] o.type #[ev x]).run P w = .ok v w' → (execOp ev o).run P w = .ok (.value v) w' := by
    intro v w' hr
    refine zBN ho hcal ?_
    rw [hargs, hty]
    exact za (by simpa using hr)
  unfold zGU at h
  split at h
  · cases h
  · rename_i i hi
    split at h
    · rename_i e hu
      split at h
      · cases h
      · rename_i ei hei
        split at h
        · rename_i k' g o2 n hxd
          split at h
          · rename_i en hl
            simp only [Option.some.injEq, Prod.mk.injEq] at h
            obtain ⟨rfl, rfl, rfl⟩ := h
            obtain ⟨h0, hzl, hzs, harr, hty', hle⟩ := hc
            rw [hxd] at h1
            have hl2 : zAD σ' k' g = some en := by rw [zAO (hσ k' (.inr (by simp)))]; exact hl
            obtain ⟨hk, hge, hkd⟩ := zAY hl2
            obtain ⟨cells, f1, f2, f3⟩ := (hp.ent k' en hk).row hkd
            rw [harr] at f2
            simp only at f2
            obtain ⟨A, cap, hxv, hA⟩ := h1.refo_inv.2 _ _ (hge ▸ Tb.of hk)
            have hun := tyI.underlying hi w
            rw [hu] at hun
            have hz : ei.zero.cells.size = ei.size := by simpa [zAl] using hzl
            have hzc : (Builtin.zeroCells ei.zero.cells n).toList.length = n * ei.size := by simp [Builtin.zeroCells, hz]
            have hone : ∀ v ∈ (Builtin.zeroCells ei.zero.cells n).toList, v.oneCell' = true := by
              intro v hv
              simp only [Builtin.zeroCells, Array.toList_map, Array.toList_range, List.mem_map, List.mem_range] at hv
              obtain ⟨j, _, rfl⟩ := hv
              have hj : j % ei.zero.cells.size < ei.zero.cells.size := Nat.mod_lt _ (by omega)
              have hj2 : j % ei.zero.cells.size < (zAl ei.zero).length := by rw [hzl, ← hz]; exact hj
              obtain ⟨u, a1, a2, _⟩ := (RepL.zero (w := w) (fz := fun _ => False) (tb := fun _ _ => none) (U := fun _ _ => False) hzs).2 _ _ (List.getElem?_eq_getElem hj2)
              have : ei.zero.cells[j % ei.zero.cells.size]? = some u := by simpa using a1
              simp only [getElem!_def, this]
              exact a2
            have hrun : (Builtin.clear_ #[t] o.type #[ev x]).run P w = .ok (.tuple #[]) (if n = 0 then w else w.setRow (ρ k').1 (splice cells.toList o2 (Builtin.zeroCells ei.zero.cells n).toList).toArray) := by
              rw [hxv]
              cases n with
              | zero =>
                rw [if_pos rfl]
                cases A <;> simp [Builtin.clear_, hun, Sem.run_bind, Result.andThen]
              | succ n =>
                rw [if_neg (by omega), hA (by omega)]
                have hst := run_storeCells_at P (ρ k').1 o2 en.ty (Builtin.zeroCells ei.zero.cells (n + 1)).toList 0 cells w f1 (by omega) hone
                simp only [Nat.add_zero] at hst
                have hzv := tyI.zeroValue hei w
                simp only [splice] at hst ⊢
                simp [Builtin.clear_, Sem.run_bind, hun, Result.andThen, hzv, hst]
            have hput : ∀ (w' : World) (cs : Array Value), Wr w w' (ρ k').1 → w'.heap[(ρ k').1]? = some (.cells cs en.ty (0, 0)) → cs.size = cells.size → (∀ j, j < o2 → cs[j]? = cells[j]?) →
                Move B σ' ρ w (zAS σ' [(k', .ent { en with cells := en.cells.take o2 })]) (zDC ρ k' ((ρ k').1, (ρ k').2)) w' ∧ Hp B (zAS σ' [(k', .ent { en with cells := en.cells.take o2 })]) (zDC ρ k' ((ρ k').1, (ρ k').2)) w' := by
              intro w' cs hw hcs hsz hpre
              refine zDi hp (k := k') (e' := { en with cells := en.cells.take o2 }) (b := (ρ k').1) (cap := (ρ k').2) hw (.inr ⟨en, hk, .inl ⟨Nat.le_refl _, rfl⟩⟩) hkd ⟨cs, hcs, ?_, fun j d hd => ?_⟩
              · rw [harr]
                simp only [List.length_take]
                exact ⟨by rw [hsz]; exact f2.1, by rw [hsz]; omega⟩
              · have hj : j < o2 := by have := (List.getElem?_eq_some_iff.1 hd).1; simp at this; omega
                rw [List.getElem?_take_of_lt hj] at hd
                obtain ⟨u, a1, a2, a3⟩ := f3 j d hd
                exact ⟨u, by rw [hpre j hj]; exact a1, a2, a3⟩
            by_cases hn : n = 0
            · rw [if_pos hn] at hrun
              obtain ⟨h2, h3⟩ := hput w cells ⟨Nat.le_refl _, fun _ _ _ => rfl, rfl, rfl, rfl⟩ f1 rfl (fun _ _ => rfl)
              exact ⟨_, _, h3, h2, .inr ⟨_, hexec _ _ hrun, .fro _ _ (.any _)⟩⟩
            · rw [if_neg hn] at hrun
              have hcl : (splice cells.toList o2 (Builtin.zeroCells ei.zero.cells n).toList).length = cells.toList.length := zAn (by rw [hzc]; simp; omega)
              obtain ⟨h2, h3⟩ := hput _ (splice cells.toList o2 (Builtin.zeroCells ei.zero.cells n).toList).toArray (Wr.setRow w (ρ k').1 _) (setRow_heap w _ cells _ _ _ f1) (by rw [List.size_toArray, hcl]; simp) (fun j hj => by
                rw [List.getElem?_toArray, zAs (by rw [hzc]; simp; omega), if_neg (by omega)]; simp)
              exact ⟨_, _, h3, h2, .inr ⟨_, hexec _ _ hrun, .fro _ _ (.any _)⟩⟩
          · cases h
        · cases h
    · cases h
end
def zPD (ti : Option TyI) (x : D) : Option D :=
  match ti with
  | none => none
  | some i => match i.und with
    | .slice _ => match x with
      | .v (.slice _ _ c) => some (.v (.int .i64 c))
      | _ => none
    | _ => none
def zDc (P : Program) (t ti : TypeId) (s x : D) (slot : Nat) : Option (Prop × D × List (Nat × Slot)) :=
  match tyI P t with
  | none => none
  | some i => match i.und with
    | .slice e => match tyI P e with
      | none => none
      | some ei => match tyI P ti with
        | none => none
        | some ii => match ii.und with
          | .int _ => match s with
            | .v (.slice none 0 0) => match x with
              | .v (.int .i64 l) => some (0 < l ∧ l * (ei.bytes : Int) ≤ 140737488355328 ∧ l ≤ 9223372036854775807 ∧ 0 < ei.size ∧ (zAl ei.zero).length = ei.size, .ref slot 0 l.toNat, [(slot, .ent ⟨0, some ei.size, e, [], .cells⟩)])
              | _ => none
            | _ => none
          | _ => none
    | _ => none
section
variable {P : Program} {o : Oper} {opd : Operand → D} {σ : List Slot} {slot : Nat}
theorem zSV {c : Call} {x : Operand} {t : TypeId} {d : D} (ho : o.op = .call c) (hcal : c.callee = .builtin .cap) (hargs : c.args = #[x]) (hty : c.argTypes = #[t]) (h : zPD (tyI P t) (opd x) = some d) : PureOk P o opd σ [] d := by
  intro B σ' ρ ev w hp hx _
  have h1 := hx x (by
    rw [ho]
    simp only [Op.operands, Call.operands, hargs]
    exact Array.mem_append.2 (.inr (by simp)))
  unfold zPD at h
  split at h
  · cases h
  · rename_i i hi
    have hun := tyI.underlying hi w
    split at h
    · rename_i e hu
      split at h
      · rename_i A n c' hxd
        cases h
        rw [hxd] at h1
        rw [hu] at hun
        refine ⟨_, zBN ho hcal ?_, .fro _ _ (.v _)⟩
        rw [hargs, hty]
        refine za ?_
        simp [Builtin.cap_, hun, Result.andThen, goInt, h1.v_inv]
      · cases h
    · cases h
theorem zHD (t ti ty e : TypeId) (i : TypeInfo) (z : Value) (k : IntKind) (ht : P.underlying t = some (.slice e)) (hti : P.underlying ti = some (.int k)) (hi : P.info? e = some i) (hz : i.zero = some z) (hzs : z.cells.size = i.size)
    (n : Nat) (w : World) (h0 : 0 < n) (hs : 0 < i.size) (h63 : (n : Int) ≤ 9223372036854775807) (h48 : n * i.bytes ≤ 140737488355328) :
    (Builtin.append_ #[t, ti] ty #[.slice none 0 0, .int .i64 (n : Int)]).run P w =
      .ok (.slice (some ⟨w.heap.size, 0, none⟩) n (grownCap w n 0 e)) (w.drew.alloc (.cells (Builtin.zeroCells z.cells n ++ Builtin.zeroCells z.cells (grownCap w n 0 e - n)) e)) := by
  have hn : n ≠ 0 := by omega
  have hns : ¬ n * i.size = 0 := by
    intro h
    rcases Nat.mul_eq_zero.1 h with h | h <;> omega
  have hw : IntKind.i64.wrap (n : Int) = n := by rw [IntKind.wrap_i64]; omega
  have h63' : ¬ (9223372036854775807 < (n : Int)) := by omega
  have hb : ¬ ((281474976710656 : Int) < (n : Int) * (i.bytes : Int)) := by
    have : ((n * i.bytes : Nat) : Int) = (n : Int) * (i.bytes : Int) := by simp
    omega
  have hng : ¬ ((n : Int) < 0) := by omega
  have h48' : ¬ (281474976710656 < Builtin.nextslicecap n 0 * i.bytes) := by rw [nextslicecap_zero h0]; omega
  simp [Builtin.append_, run_underlying ht, run_underlying hti, sizeOf, typeInfo, zeroValue, hi, hz, asInt, asIntOf, hw, hng, hb, hn, hns, h63', h48', Question.forced, run_firstCells_none, newRow, grownCap]
theorem zMQ {t ti : TypeId} {s x : Operand} {cs : Call} {c : Prop} {d : D} {sets : List (Nat × Slot)} (ho : o.op = .call cs) (hcal : cs.callee = .builtin .append) (hargs : cs.args = #[s, x]) (hty : cs.argTypes = #[t, ti])
    (h : zDc P t ti (opd s) (opd x) slot = some (c, d, sets)) (hc : c) (hf : zCg σ slot) : WriteOk P o opd σ [] slot d sets := by
  intro B σ' ρ ev w hp hx hσ
  have hmem : ∀ y, y ∈ #[s, x] → y ∈ o.op.operands := by
    intro y hy
    rw [ho]
    simp only [Op.operands, Call.operands, hargs]
    exact Array.mem_append.2 (.inr hy)
  have h1 := hx s (hmem s (by simp))
  have h2 := hx x (hmem x (by simp))
  have hexec : ∀ v w', (Builtin.append_ #[t, ti] o.type #[ev s, ev x]).run P w = .ok v w' → (execOp ev o).run P w = .ok (.value v) w' := by
    intro v w' hr
    refine zBN ho hcal ?_
    rw [hargs, hty]
    exact za (by simpa using hr)
  unfold zDc at h
  split at h
  · cases h
  · rename_i i hi
    split at h
    · rename_i e hu
      split at h
      · cases h
      · rename_i ei hei
        split at h
        · cases h
        · rename_i ii hii
          split at h
          · rename_i k hik
            split at h
            · rename_i hsd
              split at h
              · rename_i l hxd
                simp only [Option.some.injEq, Prod.mk.injEq] at h
                obtain ⟨rfl, rfl, rfl⟩ := h
                obtain ⟨hl0, hlb, hl63, h0, hzl⟩ := hc
                rw [hsd] at h1
                rw [hxd] at h2
                obtain ⟨n, rfl⟩ : ∃ n : Nat, l = n := ⟨l.toNat, by omega⟩
                obtain ⟨jt, hjt, ht, _⟩ := tyI.spec hi
                rw [hu] at ht
                obtain ⟨ji, _, hti, _⟩ := tyI.spec hii
                rw [hik] at hti
                obtain ⟨je, hje, _, hjs, hjb, hjz⟩ := tyI.spec hei
                have hzs : ei.zero.cells.size = ei.size := by simpa [zAl] using hzl
                have hnb : n * ei.bytes ≤ 140737488355328 := by
                  have : ((n * ei.bytes : Nat) : Int) = (n : Int) * (ei.bytes : Int) := by simp
                  omega
                have hr := zHD (P := P) t ti o.type e je ei.zero k ht hti hje hjz (by rw [hjs]; exact hzs) n w (by omega) (by rw [hjs]; exact h0) hl63 (by rw [hjb]; exact hnb)
                have hge := grownCap_ge w n 0 e
                have hput := zFa (t := e) (ds := []) (arr := some ei.size) (cap := grownCap w n 0 e) hp hf (hσ slot (.inl rfl)) (cs := Builtin.zeroCells ei.zero.cells n ++ Builtin.zeroCells ei.zero.cells (grownCap w n 0 e - n)) (by
                  refine ⟨?_, by simp⟩
                  simp only [Array.size_append, size_zeroCells, hzs]
                  rw [← Nat.add_mul]; congr 1; omega) (fun j d hd => by simp at hd) (Wr.drew_alloc w _) (heap_alloc_new w.drew _)
                refine ⟨_, _, hput.2, hput.1, .inr ⟨_, hexec _ _ (by rw [h1.v_inv, h2.v_inv]; exact hr), ?_⟩⟩
                rw [Int.toNat_natCast]
                refine zEo (e := ⟨0, some ei.size, e, [], .cells⟩) ?_ hge
                have hfree : σ'[slot]? = some .free := by rw [hσ slot (.inl rfl)]; exact zBj hf
                exact (List.getElem?_eq_some_iff.1 hfree).1
              · cases h
            · cases h
          · cases h
    · cases h
end

section
variable {P : Program} {o : Oper} {opd : Operand → D} {σ : List Slot}

theorem zER {c : Call} {y : Operand} (ho : o.op = .call c) (h : y ∈ c.args) : y ∈ o.op.operands := by
  rw [ho]
  simp only [Op.operands, Call.operands]
  exact Array.mem_append.2 (.inr h)

theorem zSb {c : Call} {x : Operand} {t : TypeId} {d : D} {rd : List Nat} (ho : o.op = .call c) (hcal : c.callee = .builtin .len) (hargs : c.args = #[x]) (hty : c.argTypes = #[t])
    (h : zQF (tyI P t) (opd x) σ = some (d, rd)) : PureOk P o opd σ rd d := by
  intro B σ' ρ ev w hp hx hrd
  have h1 := hx x (zER ho (by rw [hargs]; simp))
  have hexec : ∀ v, (Builtin.len_ #[t] o.type #[ev x]).run P w = .ok v w → (execOp ev o).run P w = .ok (.value v) w := by
    intro v hr
    refine zBN ho hcal ?_
    rw [hargs, hty]
    exact za (by simpa using hr)
  unfold zQF at h
  split at h
  · cases h
  · rename_i i hi
    have hun := tyI.underlying hi w
    split at h
    · rename_i hu
      split at h
      · rename_i s hs
        simp only [Option.some.injEq, Prod.mk.injEq] at h
        obtain ⟨rfl, rfl⟩ := h
        rw [hs] at h1
        refine ⟨_, hexec _ ?_, .fro _ _ (.v _)⟩
        rw [hu] at hun
        rw [h1.v_inv]
        simp [Builtin.len_, hun, Result.andThen, goInt]
      · cases h
    · rename_i e hu
      have hel := tyI.elem hi hu
      have hlen : ∀ A n cap, ev x = .slice A n cap → (Builtin.len_ #[t] o.type #[ev x]).run P w = .ok (.int .i64 n) w := by
        intro A n cap he
        rw [he]
        exact run_len_slice (h := hel.1) ..
      split at h
      · rename_i full sz xs hs
        simp only [Option.some.injEq, Prod.mk.injEq] at h
        obtain ⟨rfl, rfl⟩ := h
        rw [hs] at h1
        have hsl := h1.sl_inv
        have : ∃ A n cap, ev x = .slice A n cap ∧ n = xs.length := by
          generalize ev x = u at hsl
          cases hsl with
          | sl0 _ _ A cap _ => exact ⟨A, 0, cap, rfl, rfl⟩
          | sl _ _ _ b o' cap n g hn _ _ _ _ _ _ _ => exact ⟨_, n, cap, rfl, hn⟩
        obtain ⟨A, n, cap, he, rfl⟩ := this
        exact ⟨_, hexec _ (hlen _ _ _ he), .fro _ _ (.v _)⟩
      · rename_i A n cap hs
        simp only [Option.some.injEq, Prod.mk.injEq] at h
        obtain ⟨rfl, rfl⟩ := h
        rw [hs] at h1
        exact ⟨_, hexec _ (hlen _ _ _ h1.v_inv), .fro _ _ (.v _)⟩
      · rename_i k g n hs
        split at h
        · rename_i en hl
          simp only [Option.some.injEq, Prod.mk.injEq] at h
          obtain ⟨rfl, rfl⟩ := h
          rw [hs] at h1
          have hl' : zAD σ' k g = some en := by rw [zAO (hrd k (by simp))]; exact hl
          exact ⟨_, hexec _ (hlen _ _ _ (zCK h1 hl').1), .fro _ _ (.v _)⟩
        · cases h
      · cases h
    · cases h

theorem zSD {c : Call} {x y : Operand} {d : D} (ho : o.op = .call c) (hcal : c.callee = .builtin .min) (hargs : c.args = #[x, y]) (h : zQT (opd x) (opd y) = some d) : PureOk P o opd σ [] d := by
  intro B σ' ρ ev w hp hx hrd
  have h1 := hx x (zER ho (by rw [hargs]; simp))
  have h2 := hx y (zER ho (by rw [hargs]; simp))
  unfold zQT at h
  split at h
  · rename_i k a ha
    split at h
    · rename_i k' b hb
      cases h
      rw [ha] at h1
      rw [hb] at h2
      refine ⟨_, zBN ho hcal ?_, .fro _ _ (.v _)⟩
      rw [hargs]
      refine za ?_
      simp [h1.v_inv, h2.v_inv, Builtin.min_, Builtin.min2]
    · cases h
  · cases h
theorem zRw {c : Call} {x y : Operand} {d : D} (ho : o.op = .call c) (hcal : c.callee = .builtin .max) (hargs : c.args = #[x, y]) (h : zPX (opd x) (opd y) = some d) : PureOk P o opd σ [] d := by
  intro B σ' ρ ev w hp hx hrd
  have h1 := hx x (zER ho (by rw [hargs]; simp))
  have h2 := hx y (zER ho (by rw [hargs]; simp))
  unfold zPX at h
  split at h
  · rename_i k a ha
    split at h
    · rename_i k' b hb
      cases h
      rw [ha] at h1
      rw [hb] at h2
      refine ⟨_, zBN ho hcal ?_, .fro _ _ (.v _)⟩
      rw [hargs]
      refine za ?_
      simp [h1.v_inv, h2.v_inv, Builtin.max_, Builtin.max2]
    · cases h
  · cases h
end

def SR.pureO (r : Option (Prop × D)) : SR := match r with | some (c, d) => .yes c [] ⟨d, []⟩ | none => .no
def SR.readO (r : Option (Prop × D × List Nat)) : SR := match r with | some (c, d, rd) => .yes c rd ⟨d, []⟩ | none => .no
def SR.valO (r : Option D) : SR := match r with | some d => .yes True [] ⟨d, []⟩ | none => .no
def SR.vO (r : Option Value) : SR := match r with | some v => .yes True [] ⟨.v v, []⟩ | none => .no
def SR.cvO (r : Option (Prop × Value)) : SR := match r with | some (c, v) => .yes c [] ⟨.v v, []⟩ | none => .no
def SR.rdO (r : Option (D × List Nat)) : SR := match r with | some (d, rd) => .yes True rd ⟨d, []⟩ | none => .no
def zPZ (c x y : D) : Option D := match c with
  | .v (.bool t) => some (match t with | true => x | false => y)
  | _ => none
def zDK (P : Program) (b : Builtin) (args : List Operand) (tys : List TypeId) (opd : Operand → D) (σ : List Slot) (slot : Nat) : SR :=
  match b with
  | .len => match args, tys with
    | [x], [t] => .rdO (zQF (tyI P t) (opd x) σ)
    | _, _ => .no
  | .min => match args with
    | [x, y] => .valO (zQT (opd x) (opd y))
    | _ => .no
  | .max => match args with
    | [x, y] => .valO (zPX (opd x) (opd y))
    | _ => .no
  | .append => match args, tys with
    | [s, x], [t, t'] => match Nat.beq t t' with
      | true => match opd x with
        | .refo .. => match zCn P t (opd s) (opd x) σ with
          | some (c, d, sets, rd) => .yes c rd ⟨d, sets⟩
          | none => .no
        | _ => match zEn P t (opd s) (opd x) σ slot with
          | some (c, d, sets, rd) => .yes (c ∧ zCg σ slot) rd ⟨d, sets⟩
          | none => .no
      | false => match zDc P t t' (opd s) (opd x) slot with
        | some (c, d, sets) => .yes (c ∧ zCg σ slot) [] ⟨d, sets⟩
        | none => .no
    | _, _ => .no
  | .clear => match args, tys with
    | [x], [t] => match zGU P t (opd x) σ with
      | some (c, sets, k) => .yes c [k] ⟨.any, sets⟩
      | none => .no
    | _, _ => .no
  | .cap => match args, tys with
    | [x], [t] => .valO (zPD (tyI P t) (opd x))
    | _, _ => .no
  | _ => .no
def zFR (P : Program) (o : Oper) (opd : Operand → D) (σ : List Slot) (slot : Nat) : SR :=
  match o.op with
  | .move x => .yes True [] ⟨opd x, []⟩
  | .assign x => .yes True [] ⟨opd x, []⟩
  | .pick c x y => .valO (zPZ (opd c) (opd x) (opd y))
  | .alloc t => match zIS P t slot with
    | some (c, d, sets) => .yes (c ∧ zCg σ slot) [] ⟨d, sets⟩
    | none => .no
  | .box t x => match zQH t (opd x) slot with
    | (c, d, sets) => .yes (c ∧ zCg σ slot) [] ⟨d, sets⟩
  | .build t parts => .pureO (zIB P t (parts.toList.map fun q => (q.1, opd q.2)))
  | .buildSlice t len parts => match zDH P t len (parts.toList.map fun q => (q.1, opd q.2)) with
    | some (c, d) => .yes c [] ⟨d, []⟩
    | none => .no
  | .load t x => .readO (zES (tyI P t) (opd x) σ)
  | .store t a x => match zIl P t (opd a) (opd x) σ with
    | some (c, sets, k) => .yes c [k] ⟨.v undef, sets⟩
    | none => .no
  | .nilCheck x => .rdO (zDT (opd x) σ)
  | .binOp op t x y _ => .cvO (zPn (tyI P t) (zEG P t) op (opd x) (opd y))
  | .unOp op _ x => .vO (unD op (opd x))
  | .convert s d x => .vO (zLV (tyI P s) (tyI P d) (opd x))
  | .makeFunc fn first caps => match fn with
    | .func f => match first.toList with
      | [] => .yes True [] ⟨.fn f (caps.toList.map opd), []⟩
      | x :: l => match caps.toList with
        | [] => .yes True [] ⟨.bnd f (opd x :: l.map opd), []⟩
        | _ :: _ => .no
    | _ => .no
  | .slice t x lo hi mx => match mx with
    | none => .readO (zFC P t (opd x) (lo.map opd) (hi.map opd) none σ)
    | some m => match hi with
      | none => .no
      | some h => .readO (zFC P t (opd x) (lo.map opd) (some (opd h)) (some (opd m)) σ)
  | .fieldAddr s x f => .readO (zCr P s (opd x) f σ)
  | .field s x f => .pureO (zIK P s (opd x) f)
  | .indexAddr t x ix => .readO (zCz P t (opd x) (opd ix) σ)
  | .index t x ix => .pureO (zIG (opd x) (opd ix) (tyI P t))
  | .extract x ix => .pureO (zEF (opd x) ix)
  | .makeMap t r => match r with
    | none => match zEC t slot with
      | (d, sets) => .yes (zCg σ slot) [] ⟨d, sets⟩
    | some _ => .no
  | .insert t m k x => match zFk P t (opd m) (opd k) (opd x) σ with
    | some (c, sets, b) => .yes c [b] ⟨.v undef, sets⟩
    | none => .no
  | .lookup t m k ok => match ok with
    | true => .readO (zFw P t (opd m) (opd k) σ)
    | false => .no
  | .call c => match c.callee with
    | .builtin b => zDK P b c.args.toList c.argTypes.toList opd σ slot
    | .value _ => .call
    | .invoke _ _ => .no
  | _ => .no

theorem zAR {α : Type} {a : Array α} {l : List α} (h : a.toList = l) : a = l.toArray := by rw [← h]

theorem zGI {P : Program} {ro : Option Nat} {b : Builtin} {c' : Call} {o : Oper} {opd : Operand → D} {σ : List Slot} {slot : Nat} {c : Prop} {rd : List Nat} {out : Out} (ho : o.op = .call c') (hcal : c'.callee = .builtin b)
    (h : zDK P b c'.args.toList c'.argTypes.toList opd σ slot = .yes c rd out) (hc : c) : OpS P ro o opd σ rd slot out ∧ ∀ p ∈ out.sets, p.1 = slot ∨ p.1 ∈ rd := by
  have hd : ∀ c, o.op ≠ .defer c := fun c hh => by rw [ho] at hh; cases hh
  unfold zDK at h
  split at h
  · split at h
    · rename_i x t e1 e2
      cases hl : zQF (tyI P t) (opd x) σ with
      | none => rw [hl] at h; cases h
      | some q =>
        obtain ⟨d, rd'⟩ := q
        rw [hl] at h
        simp only [SR.rdO, SR.yes.injEq] at h
        obtain ⟨rfl, rfl, rfl⟩ := h
        exact ⟨(zSb ho hcal (zAR e1) (zAR e2) hl).opS hd, fun p hp => by cases hp⟩
    · cases h
  · split at h
    · rename_i x y e1
      cases hl : zQT (opd x) (opd y) with
      | none => rw [hl] at h; cases h
      | some d =>
        rw [hl] at h
        simp only [SR.valO, SR.yes.injEq] at h
        obtain ⟨rfl, rfl, rfl⟩ := h
        exact ⟨(zSD ho hcal (zAR e1) hl).opS hd, fun p hp => by cases hp⟩
    · cases h
  · split at h
    · rename_i x y e1
      cases hl : zPX (opd x) (opd y) with
      | none => rw [hl] at h; cases h
      | some d =>
        rw [hl] at h
        simp only [SR.valO, SR.yes.injEq] at h
        obtain ⟨rfl, rfl, rfl⟩ := h
        exact ⟨(zRw ho hcal (zAR e1) hl).opS hd, fun p hp => by cases hp⟩
    · cases h
  · split at h
    · rename_i s x t t' e1 e2
      split at h
      · rename_i hb
        have := Nat.eq_of_beq_eq_true hb
        subst this
        split at h
        · cases hl : zCn P t (opd s) (opd x) σ with
          | none => rw [hl] at h; cases h
          | some q =>
            obtain ⟨c1, d, sets, rd'⟩ := q
            rw [hl] at h
            simp only [SR.yes.injEq] at h
            obtain ⟨rfl, rfl, rfl⟩ := h
            refine ⟨(zLE ho hcal (zAR e1) (zAR e2) hl hc).opS hd, fun p hp => ?_⟩
            unfold zCn at hl
            repeat' split at hl
            all_goals first
              | (cases hl; done)
              | (simp only [Option.some.injEq, Prod.mk.injEq] at hl
                 obtain ⟨_, _, rfl, rfl⟩ := hl
                 simp at hp; subst hp; simp; done)
        · cases hl : zEn P t (opd s) (opd x) σ slot with
          | none => rw [hl] at h; cases h
          | some q =>
            obtain ⟨c1, d, sets, rd'⟩ := q
            rw [hl] at h
            simp only [SR.yes.injEq] at h
            obtain ⟨rfl, rfl, rfl⟩ := h
            refine ⟨(zOX ho hcal (zAR e1) (zAR e2) hl hc.1 hc.2).opS hd, fun p hp => ?_⟩
            unfold zEn at hl
            repeat' split at hl
            all_goals first
              | (cases hl; done)
              | (simp only [Option.some.injEq, Prod.mk.injEq] at hl
                 obtain ⟨_, _, rfl, rfl⟩ := hl
                 first
                   | (simp at hp; done)
                   | (simp at hp; subst hp; simp; done))
      · cases hl : zDc P t t' (opd s) (opd x) slot with
        | none => rw [hl] at h; cases h
        | some q =>
          obtain ⟨c1, d, sets⟩ := q
          rw [hl] at h
          simp only [SR.yes.injEq] at h
          obtain ⟨rfl, rfl, rfl⟩ := h
          refine ⟨(zMQ ho hcal (zAR e1) (zAR e2) hl hc.1 hc.2).opS hd, fun p hp => ?_⟩
          unfold zDc at hl
          repeat' split at hl
          all_goals first
            | (cases hl; done)
            | (simp only [Option.some.injEq, Prod.mk.injEq] at hl
               obtain ⟨_, _, rfl⟩ := hl
               simp at hp; subst hp; simp; done)
    · cases h
  · split at h
    · rename_i x t e1 e2
      cases hl : zGU P t (opd x) σ with
      | none => rw [hl] at h; cases h
      | some q =>
        obtain ⟨c1, sets, k⟩ := q
        rw [hl] at h
        simp only [SR.yes.injEq] at h
        obtain ⟨rfl, rfl, rfl⟩ := h
        refine ⟨(zPL ho hcal (zAR e1) (zAR e2) hl hc).opS hd, fun p hp => ?_⟩
        unfold zGU at hl
        repeat' split at hl
        all_goals first
          | (cases hl; done)
          | (simp only [Option.some.injEq, Prod.mk.injEq] at hl
             obtain ⟨_, rfl, rfl⟩ := hl
             simp at hp; subst hp; simp; done)
    · cases h
  · split at h
    · rename_i x t e1 e2
      cases hl : zPD (tyI P t) (opd x) with
      | none => rw [hl] at h; cases h
      | some d =>
        rw [hl] at h
        simp only [SR.valO, SR.yes.injEq] at h
        obtain ⟨rfl, rfl, rfl⟩ := h
        exact ⟨(zSV ho hcal (zAR e1) (zAR e2) hl).opS hd, fun p hp => by cases hp⟩
    · cases h
  · cases h

theorem zGH (P : Program) (ro : Option Nat) : zNO (zFR P) P ro := by
  intro o opd σ slot c rd out h hc
  unfold zFR at h
  split at h
  · rename_i x ho
    simp only [SR.yes.injEq] at h
    obtain ⟨rfl, rfl, rfl⟩ := h
    exact ⟨(zRK ho).opS (fun c hh => by rw [ho] at hh; cases hh), fun p hp => by cases hp⟩
  · rename_i x ho
    simp only [SR.yes.injEq] at h
    obtain ⟨rfl, rfl, rfl⟩ := h
    exact ⟨(zOk ho).opS (fun c hh => by rw [ho] at hh; cases hh), fun p hp => by cases hp⟩
  · rename_i cc x y ho
    unfold zPZ at h
    split at h
    · rename_i t ht
      simp only [SR.valO, SR.yes.injEq] at h
      obtain ⟨rfl, rfl, rfl⟩ := h
      cases t <;> exact ⟨(zRF ho ht).opS (fun c hh => by rw [ho] at hh; cases hh), fun p hp => by cases hp⟩
    · cases h
  · rename_i t ho
    split at h
    · rename_i c1 d sets hl
      simp only [SR.yes.injEq] at h
      obtain ⟨rfl, rfl, rfl⟩ := h
      refine ⟨(zPE ho hl hc.1 hc.2).opS (fun c hh => by rw [ho] at hh; cases hh), fun p hp => ?_⟩
      unfold zIS at hl
      split at hl
      · cases hl
      · simp only [Option.some.injEq, Prod.mk.injEq] at hl
        obtain ⟨_, _, rfl⟩ := hl
        simp at hp; subst hp; simp
    · cases h
  · rename_i t x ho
    split at h
    rename_i c1 d sets hl
    simp only [SR.yes.injEq] at h
    obtain ⟨rfl, rfl, rfl⟩ := h
    refine ⟨(zSa ho hl hc.1 hc.2).opS (fun c hh => by rw [ho] at hh; cases hh), fun p hp => ?_⟩
    simp only [zQH, Prod.mk.injEq] at hl
    obtain ⟨_, _, rfl⟩ := hl
    simp at hp; subst hp; simp
  · rename_i t parts ho
    cases hl : zIB P t (parts.toList.map fun q => (q.1, opd q.2)) with
    | none => rw [hl] at h; cases h
    | some q =>
      obtain ⟨c1, d⟩ := q
      rw [hl] at h
      simp only [SR.pureO, SR.yes.injEq] at h
      obtain ⟨rfl, rfl, rfl⟩ := h
      exact ⟨(zPh ho hl hc).opS (fun c hh => by rw [ho] at hh; cases hh), fun p hp => by cases hp⟩
  · rename_i t len parts ho
    split at h
    · rename_i c1 d hl
      simp only [SR.yes.injEq] at h
      obtain ⟨rfl, rfl, rfl⟩ := h
      exact ⟨(zJG ho hl hc).opS (fun c hh => by rw [ho] at hh; cases hh), fun p hp => by cases hp⟩
    · cases h
  · rename_i t x ho
    cases hl : zES (tyI P t) (opd x) σ with
    | none => rw [hl] at h; cases h
    | some q =>
      obtain ⟨c1, d, rd'⟩ := q
      rw [hl] at h
      simp only [SR.readO, SR.yes.injEq] at h
      obtain ⟨rfl, rfl, rfl⟩ := h
      exact ⟨(zRX ho hl hc).opS (fun c hh => by rw [ho] at hh; cases hh), fun p hp => by cases hp⟩
  · rename_i t a x ho
    split at h
    · rename_i c1 sets k hl
      simp only [SR.yes.injEq] at h
      obtain ⟨rfl, rfl, rfl⟩ := h
      refine ⟨(zPj ho hl hc).opS (fun c hh => by rw [ho] at hh; cases hh), fun p hp => ?_⟩
      unfold zIl at hl
      repeat' split at hl
      all_goals first
        | (cases hl; done)
        | (simp only [Option.some.injEq, Prod.mk.injEq] at hl
           obtain ⟨_, rfl, rfl⟩ := hl
           simp at hp; subst hp; simp)
    · cases h
  · rename_i x ho
    cases hl : zDT (opd x) σ with
    | none => rw [hl] at h; cases h
    | some q =>
      obtain ⟨d, rd'⟩ := q
      rw [hl] at h
      simp only [SR.rdO, SR.yes.injEq] at h
      obtain ⟨rfl, rfl, rfl⟩ := h
      exact ⟨(zLv ho hl).opS (fun c hh => by rw [ho] at hh; cases hh), fun p hp => by cases hp⟩
  · rename_i op t x y yt ho
    cases hl : zPn (tyI P t) (zEG P t) op (opd x) (opd y) with
    | none => rw [hl] at h; cases h
    | some q =>
      obtain ⟨c1, v⟩ := q
      rw [hl] at h
      simp only [SR.cvO, SR.yes.injEq] at h
      obtain ⟨rfl, rfl, rfl⟩ := h
      exact ⟨(zSC ho hl hc).opS (fun c hh => by rw [ho] at hh; cases hh), fun p hp => by cases hp⟩
  · rename_i op t x ho
    cases hl : unD op (opd x) with
    | none => rw [hl] at h; cases h
    | some v =>
      rw [hl] at h
      simp only [SR.vO, SR.yes.injEq] at h
      obtain ⟨rfl, rfl, rfl⟩ := h
      exact ⟨(zSw ho hl).opS (fun c hh => by rw [ho] at hh; cases hh), fun p hp => by cases hp⟩
  · rename_i s d x ho
    cases hl : zLV (tyI P s) (tyI P d) (opd x) with
    | none => rw [hl] at h; cases h
    | some v =>
      rw [hl] at h
      simp only [SR.vO, SR.yes.injEq] at h
      obtain ⟨rfl, rfl, rfl⟩ := h
      exact ⟨(zRV ho hl).opS (fun c hh => by rw [ho] at hh; cases hh), fun p hp => by cases hp⟩
  · rename_i fn first caps ho
    split at h
    · rename_i f
      split at h
      · rename_i hfirst
        simp only [SR.yes.injEq] at h
        obtain ⟨rfl, rfl, rfl⟩ := h
        have : first = #[] := zAR hfirst
        subst this
        exact ⟨(zLp ho).opS (fun c hh => by rw [ho] at hh; cases hh), fun p hp => by cases hp⟩
      · rename_i x l hfirst
        split at h
        · rename_i hcaps
          simp only [SR.yes.injEq] at h
          obtain ⟨rfl, rfl, rfl⟩ := h
          have : caps = #[] := zAR hcaps
          subst this
          have := (zMu (σ := σ) (P := P) (opd := opd) ho).opS (ro := ro) (slot := slot) (fun c hh => by rw [ho] at hh; cases hh)
          rw [hfirst] at this
          exact ⟨this, fun p hp => by cases hp⟩
        · cases h
    · cases h
  · rename_i t x lo hi mx ho
    split at h
    · cases hl : zFC P t (opd x) (lo.map opd) (hi.map opd) none σ with
      | none => rw [hl] at h; cases h
      | some q =>
        obtain ⟨c1, d, rd'⟩ := q
        rw [hl] at h
        simp only [SR.readO, SR.yes.injEq] at h
        obtain ⟨rfl, rfl, rfl⟩ := h
        exact ⟨(zLe ho hl (fun h => absurd rfl h) hc).opS (fun c hh => by rw [ho] at hh; cases hh), fun p hp => by cases hp⟩
    · rename_i m
      split at h
      · cases h
      · rename_i hh
        cases hl : zFC P t (opd x) (lo.map opd) (some (opd hh)) (some (opd m)) σ with
        | none => rw [hl] at h; cases h
        | some q =>
          obtain ⟨c1, d, rd'⟩ := q
          rw [hl] at h
          simp only [SR.readO, SR.yes.injEq] at h
          obtain ⟨rfl, rfl, rfl⟩ := h
          exact ⟨(zLe ho hl (fun _ h => by cases h) hc).opS (fun c hh => by rw [ho] at hh; cases hh), fun p hp => by cases hp⟩
  · rename_i s x f ho
    cases hl : zCr P s (opd x) f σ with
    | none => rw [hl] at h; cases h
    | some q =>
      obtain ⟨c1, d, rd'⟩ := q
      rw [hl] at h
      simp only [SR.readO, SR.yes.injEq] at h
      obtain ⟨rfl, rfl, rfl⟩ := h
      exact ⟨(zKe ho hl hc).opS (fun c hh => by rw [ho] at hh; cases hh), fun p hp => by cases hp⟩
  · rename_i s x f ho
    cases hl : zIK P s (opd x) f with
    | none => rw [hl] at h; cases h
    | some q =>
      obtain ⟨c1, d⟩ := q
      rw [hl] at h
      simp only [SR.pureO, SR.yes.injEq] at h
      obtain ⟨rfl, rfl, rfl⟩ := h
      exact ⟨(zPt ho hl hc).opS (fun c hh => by rw [ho] at hh; cases hh), fun p hp => by cases hp⟩
  · rename_i t x ix ho
    cases hl : zCz P t (opd x) (opd ix) σ with
    | none => rw [hl] at h; cases h
    | some q =>
      obtain ⟨c1, d, rd'⟩ := q
      rw [hl] at h
      simp only [SR.readO, SR.yes.injEq] at h
      obtain ⟨rfl, rfl, rfl⟩ := h
      exact ⟨(zKo ho hl hc).opS (fun c hh => by rw [ho] at hh; cases hh), fun p hp => by cases hp⟩
  · rename_i t x ix ho
    cases hl : zIG (opd x) (opd ix) (tyI P t) with
    | none => rw [hl] at h; cases h
    | some q =>
      obtain ⟨c1, d⟩ := q
      rw [hl] at h
      simp only [SR.pureO, SR.yes.injEq] at h
      obtain ⟨rfl, rfl, rfl⟩ := h
      exact ⟨(zPC ho hl hc).opS (fun c hh => by rw [ho] at hh; cases hh), fun p hp => by cases hp⟩
  · rename_i x ix ho
    cases hl : zEF (opd x) ix with
    | none => rw [hl] at h; cases h
    | some q =>
      obtain ⟨c1, d⟩ := q
      rw [hl] at h
      simp only [SR.pureO, SR.yes.injEq] at h
      obtain ⟨rfl, rfl, rfl⟩ := h
      exact ⟨(zMm ho hl hc).opS (fun c hh => by rw [ho] at hh; cases hh), fun p hp => by cases hp⟩
  · rename_i t r ho
    split at h
    · split at h
      rename_i d sets hl
      simp only [SR.yes.injEq] at h
      obtain ⟨rfl, rfl, rfl⟩ := h
      refine ⟨(zMj ho hl hc).opS (fun c hh => by rw [ho] at hh; cases hh), fun p hp => ?_⟩
      simp only [zEC, Prod.mk.injEq] at hl
      obtain ⟨_, rfl⟩ := hl
      simp at hp; subst hp; simp
    · cases h
  · rename_i t m k x ho
    split at h
    · rename_i c1 sets b hl
      simp only [SR.yes.injEq] at h
      obtain ⟨rfl, rfl, rfl⟩ := h
      refine ⟨(zOe ho hl hc).opS (fun c hh => by rw [ho] at hh; cases hh), fun p hp => ?_⟩
      unfold zFk at hl
      repeat' split at hl
      all_goals first
        | (cases hl; done)
        | (simp only [Option.some.injEq, Prod.mk.injEq] at hl
           obtain ⟨_, rfl, rfl⟩ := hl
           simp at hp; subst hp; simp)
    · cases h
  · rename_i t m k ok ho
    split at h
    · cases hl : zFw P t (opd m) (opd k) σ with
      | none => rw [hl] at h; cases h
      | some q =>
        obtain ⟨c1, d, rd'⟩ := q
        rw [hl] at h
        simp only [SR.readO, SR.yes.injEq] at h
        obtain ⟨rfl, rfl, rfl⟩ := h
        exact ⟨(zOh ho hl hc).opS (fun c hh => by rw [ho] at hh; cases hh), fun p hp => by cases hp⟩
    · cases h
  · rename_i c' ho
    split at h
    · rename_i b hcal
      exact zGI ho hcal h hc
    · cases h
    · cases h
  · cases h
end Go.Proofs.YtabliglgeiajlaaGreat.AM
