/- The abstract machine: cuts, lengths, nil checks, bytes of a text, min and max. -/
import Derived.Test.YtabliglgeiajlaaAm13
import Derived.Laws.Slices
set_option linter.unusedSimpArgs false
set_option linter.unusedVariables false
namespace Go.Proofs.Ytabliglgeiajlaa.AM
open Go Go.RowKit

/-- A bound as it stands, or what stands in its place. -/
def isB (o : Option Value) (d i : Int) : Prop := (o = none ∧ i = d) ∨ ∃ k, o = some (.int k i)
theorem run_bounds {P : Program} {s : Bool} {lo hi mx : Option Value} {l h m : Int} {len cap : Nat} (hl : isB lo 0 l) (hh : isB hi len h) (hm : isB mx cap m) (hx : mx ≠ none → hi ≠ none)
    (h0 : 0 ≤ l) (h1 : l ≤ h) (h2 : h ≤ m) (h3 : m ≤ cap) (w : World) : (Instr.sliceBounds s len cap lo hi mx).run P w = .ok (l.toNat, h.toNat, m.toNat) w := by
  have eh : (h.toNat : Int) = h := Int.toNat_of_nonneg (by omega)
  have em : (m.toNat : Int) = m := Int.toNat_of_nonneg (by omega)
  have hh0 : 0 ≤ h := by omega
  have hm0 : 0 ≤ m := by omega
  rcases hm with ⟨rfl, rfl⟩ | ⟨km, rfl⟩
  · rcases hh with ⟨rfl, rfl⟩ | ⟨kh, rfl⟩ <;> rcases hl with ⟨rfl, rfl⟩ | ⟨kl, rfl⟩ <;>
      simp_all [Instr.sliceBounds, run_sliceBound]
  · rcases hh with ⟨rfl, rfl⟩ | ⟨kh, rfl⟩
    · exact absurd rfl (hx (by simp))
    · rcases hl with ⟨rfl, rfl⟩ | ⟨kl, rfl⟩ <;>
      simp_all [Instr.sliceBounds, run_sliceBound]

section
variable {P : Program} {o : Oper} {opd : Operand → D} {σ : List Slot}

theorem boundD_isB {B : Base} {σ' : List Slot} {ρ : Nat → Nat × Nat} {w : World} {ev : Operand → Value} {x : Option Operand} {d i : Int} (h : boundD (x.map opd) d = some i)
    (hx : ∀ y, x = some y → Rp B σ' ρ w (opd y) (ev y)) : isB (x.map ev) d i := by
  cases x with
  | none => simp only [boundD, Option.map_none, Option.some.injEq] at h; exact .inl ⟨rfl, h.symm⟩
  | some y =>
    have := hx y rfl
    simp only [boundD, Option.map_some] at h
    split at h
    · rename_i k n hd
      rw [hd] at this
      cases h
      exact .inr ⟨k, by rw [Option.map_some, this.v_inv]⟩
    · cases h

theorem ok_index {t : TypeId} {x ix : Operand} {c : Prop} {d : D} (ho : o.op = .index t x ix) (h : indexD (opd x) (opd ix) (tyI P t) = some (c, d)) (hc : c) : PureOk P o opd σ [] d := by
  intro B σ' ρ ev w hp hx _
  have h1 := hx x (by rw [ho]; simp [Op.operands])
  have h2 := hx ix (by rw [ho]; simp [Op.operands])
  unfold indexD at h
  split at h
  · cases h
  · rename_i i hi
    split at h
    · rename_i hu
      split at h
      · rename_i s hs
        split at h
        · rename_i k n hn
          simp only [Option.some.injEq, Prod.mk.injEq] at h
          obtain ⟨rfl, rfl⟩ := h
          rw [hs] at h1
          rw [hn] at h2
          refine ⟨_, ?_, .fro _ _ (.v _)⟩
          simp only [execOp, ho, h1.v_inv, h2.v_inv]
          refine lift_value ?_
          have hun := tyI.underlying hi w
          rw [hu] at hun
          have hlt : n.toNat < s.size := by omega
          have hb : (s[n.toNat]'hlt).toNat = (byteAt s n : Int) := by
            unfold byteAt
            rw [List.getD_eq_getElem?_getD]
            have : n.toNat < s.data.toList.length := by simpa using hlt
            rw [List.getElem?_eq_getElem this]
            rfl
          unfold Instr.index
          simp only [asIntOf, pure_bind]
          rw [Sem.run_bind, hun]
          simp only [Result.andThen, if_pos hc.1]
          rw [show s[n.toNat]? = some s[n.toNat] from getElem?_pos s _ hlt]
          simp only [Pure.pure, Sem.run, hb]
        · cases h
      · cases h
    · cases h

/-- A cut's operands. -/
theorem slice_ops {t : TypeId} {x : Operand} {lo hi mx : Option Operand} (y : Operand) (h : lo = some y ∨ hi = some y ∨ mx = some y) : y ∈ (Op.slice t x lo hi mx).operands := by
  rcases h with rfl | rfl | rfl <;> simp [Op.operands]

theorem own_cap {B : Base} {σ' : List Slot} {ρ : Nat → Nat × Nat} {w : World} {k g sz h : Nat} {en : Ent} (hp : Hp B σ' ρ w) (hl : isLive σ' k g = some en) (ha : en.arr = some sz) (h0 : 0 < sz) (hh : h * sz ≤ en.cells.length) : h ≤ (ρ k).2 := by
  obtain ⟨hk, _, hkd⟩ := isLive_spec hl
  obtain ⟨cs, _, e2, _⟩ := (hp.ent k en hk).row hkd
  rw [ha] at e2
  simp only at e2
  exact Nat.le_of_mul_le_mul_right (a := h) (by omega) h0
theorem ok_slice {t : TypeId} {x : Operand} {lo hi mx : Option Operand} {c : Prop} {d : D} {rd : List Nat} (ho : o.op = .slice t x lo hi mx)
    (h : sliceD P t (opd x) (lo.map opd) (hi.map opd) (mx.map opd) σ = some (c, d, rd)) (hm : mx ≠ none → hi ≠ none) (hc : c) : PureOk P o opd σ rd d := by
  intro B σ' ρ ev w hp hx hrd
  have h1 := hx x (by rw [ho]; simp [Op.operands])
  have hbd : ∀ (z : Option Operand) (d i : Int), (z = lo ∨ z = hi ∨ z = mx) → boundD (z.map opd) d = some i → isB (z.map ev) d i := fun z d i hz hb =>
    boundD_isB hb (fun y hy => hx y (by rw [ho]; exact slice_ops y (by rcases hz with rfl | rfl | rfl; exact .inl hy; exact .inr (.inl hy); exact .inr (.inr hy))))
  unfold sliceD at h
  split at h
  · cases h
  · rename_i ti hti
    split at h
    · rename_i hu
      split at h
      · rename_i s hs
        split at h
        · rename_i c' d' hstr
          simp only [Option.some.injEq, Prod.mk.injEq] at h
          obtain ⟨rfl, rfl, rfl⟩ := h
          unfold sliceStr at hstr
          split at hstr
          · cases hstr
          · rename_i hmx
            have hmx' : mx = none := by cases mx <;> simp_all
            subst hmx'
            split at hstr
            · rename_i l hh hl1 hh1
              simp only [Option.some.injEq, Prod.mk.injEq] at hstr
              obtain ⟨rfl, rfl⟩ := hstr
              rw [hs] at h1
              refine ⟨_, ?_, .fro _ _ (.v _)⟩
              obtain ⟨j, _, hund, _⟩ := tyI.spec hti
              rw [hu] at hund
              simp only [execOp, ho, h1.v_inv, Option.map_none]
              refine lift_value ?_
              rw [run_sliceAt_string (h := hund)]
              unfold Instr.slice
              rw [Sem.run_bind, run_underlying hund]
              simp only [Result.andThen, Option.isSome_none]
              have := run_bounds (P := P) (s := false) (w := w) (len := s.size) (cap := s.size) (hbd lo _ _ (.inl rfl) hl1) (hbd hi _ _ (.inr (.inl rfl)) hh1) (mx := none) (.inl ⟨rfl, rfl⟩) (fun h => absurd rfl h) hc.1 hc.2.1 hc.2.2 (Int.le_refl _)
              simp only [Bool.false_eq_true, if_false, pure_bind]
              rw [Sem.run_bind, this]
              rfl
            · cases hstr
        · cases h
      · cases h
    · rename_i e hu
      have hel := tyI.elem hti hu
      split at h
      · cases h
      · rename_i ei hei
        have hsz := tyI.sizeOf hei w
        have hrun : ∀ (A : Option Addr) (n cap : Nat) (l hh m : Int), isB (lo.map ev) 0 l → isB (hi.map ev) n hh → isB (mx.map ev) cap m → 0 ≤ l → l ≤ hh → hh ≤ m → m ≤ cap →
            (Instr.sliceAt t (.slice A n cap) (lo.map ev) (hi.map ev) (mx.map ev)).run P w = .ok (sliced A l.toNat hh.toNat m.toNat ei.size) w := by
          intro A n cap l hh m i1 i2 i3 c0 c1 c2 c3
          rw [run_sliceAt_slice (h := hel.1), run_slice_any (ht := hel.1), run_bounds i1 i2 i3 (fun h' => by simpa using hm (by simpa using h')) c0 c1 c2 c3]
          simp only [Result.andThen, hel.2, hsz]
        split at h
        · rename_i full sz xs hxd
          rw [hxd] at h1
          have hsl := h1.sl_inv
          -- what a part comes to
          have hpart : ∀ (l hh m : Nat) (fu : Bool) (A : Option Addr) (n cap : Nat), RepF w (Fz B σ' ρ w) (.sl full sz xs) (.slice A n cap) → sz = ei.size → l ≤ hh → hh ≤ xs.length → hh ≤ m → m ≤ cap → (fu = true → m = hh) →
              RepF w (Fz B σ' ρ w) (.sl fu sz (sub xs l hh)) (sliced A l hh m ei.size) := by
            intro l hh m fu A n cap hR hse h1 h2 h3 h4 h5
            have hlen : (sub xs l hh).length = hh - l := by simp [sub]; omega
            unfold sliced
            by_cases he : hh = l
            · have : sub xs l hh = [] := List.eq_nil_of_length_eq_zero (by omega)
              rw [this, show hh - l = 0 by omega]
              exact .sl0 _ _ _ _ (fun hf => by have := h5 hf; omega)
            · rw [if_neg (by omega : ¬ m = l)]
              cases hR with
              | sl0 => simp at h2; omega
              | sl _ _ _ b o' cap n g hn hpos hcap hf hb hw hcell hr =>
                have hget : ∀ (i : Nat) (x : List D), (sub xs l hh)[i]? = some x → xs[l + i]? = some x := by
                  intro i x hi
                  simp only [sub, List.getElem?_drop] at hi
                  rw [List.getElem?_take] at hi
                  split at hi
                  · exact hi
                  · cases hi
                simp only [Option.map_some, add_plain]
                refine .sl fu sz _ b (o' + l * ei.size) (m - l) (hh - l) (fun i j => g (l + i) j) (by omega) (by omega) (by omega) (fun hf => by have := h5 hf; omega) hb (fun x hx => ?_) (fun i x j d hi hj => ?_) (fun i x j d hi hj => hr _ _ _ _ (hget i x hi) hj)
                · exact hw x (List.mem_of_mem_take (List.mem_of_mem_drop hx))
                · have := hcell _ _ _ _ (hget i x hi) hj
                  rw [← hse, show o' + l * sz + i * sz + j = o' + (l + i) * sz + j from by rw [Nat.add_mul]; omega]
                  exact this
          have hform : ∃ A n cap, ev x = .slice A n cap ∧ n = xs.length ∧ n ≤ cap := by
            generalize ev x = u at hsl
            cases hsl with
            | sl0 _ _ A cap _ => exact ⟨A, 0, cap, rfl, rfl, Nat.zero_le _⟩
            | sl _ _ _ b o' cap n g hn _ hcap _ _ _ _ _ => exact ⟨_, n, cap, rfl, hn, hcap⟩
          obtain ⟨A, n, cap, hev, hn, hcap⟩ := hform
          rw [hev] at hsl
          split at h
          · rename_i hmx
            have hmx' : mx = none := by cases mx <;> simp_all
            subst hmx'
            split at h
            · rename_i l hh hl1 hh1
              simp only [Option.some.injEq, Prod.mk.injEq] at h
              obtain ⟨rfl, rfl, rfl⟩ := h
              obtain ⟨hse, c0, c1, c2⟩ := hc
              have := hrun A n cap l hh cap (hbd lo _ _ (.inl rfl) hl1) (by rw [hn]; exact hbd hi _ _ (.inr (.inl rfl)) hh1) (.inl ⟨rfl, rfl⟩) c0 c1 (by omega) (Int.le_refl _)
              refine ⟨_, ?_, .fro _ _ (hpart l.toNat hh.toNat cap false A n cap hsl hse (by omega) (by omega) (by omega) (Nat.le_refl _) (fun h => by cases h))⟩
              simp only [execOp, ho]
              rw [hev]
              exact lift_value this
            · cases h
          · rename_i m' hmx
            split at h
            · rename_i l hh m hl1 hh1 hm1
              simp only [Option.some.injEq, Prod.mk.injEq] at h
              obtain ⟨rfl, rfl, rfl⟩ := h
              obtain ⟨hse, c0, c1, c2, rfl⟩ := hc
              have hm2 : isB (mx.map ev) cap m := by
                rcases hbd mx _ _ (.inr (.inr rfl)) (by rw [hmx]; exact hm1) with ⟨e, _⟩ | e
                · exfalso; cases mx <;> simp_all
                · exact .inr e
              have := hrun A n cap l m m (hbd lo _ _ (.inl rfl) hl1) (by rw [hn]; exact hbd hi _ _ (.inr (.inl rfl)) hh1) hm2 c0 c1 (Int.le_refl _) (by omega)
              refine ⟨_, ?_, .fro _ _ (hpart l.toNat m.toNat m.toNat true A n cap hsl hse (by omega) (by omega) (Nat.le_refl _) (by omega) (fun _ => rfl))⟩
              simp only [execOp, ho]
              rw [hev]
              exact lift_value this
            · cases h
        · -- nil stays nil
          rename_i hxd
          rw [hxd] at h1
          have hev := h1.v_inv
          split at h
          · rename_i hmx
            have hmx' : mx = none := by cases mx <;> simp_all
            subst hmx'
            split at h
            · rename_i l hh hl1 hh1
              simp only [Option.some.injEq, Prod.mk.injEq] at h
              obtain ⟨rfl, rfl, rfl⟩ := h
              obtain ⟨c0, c1, c2⟩ := hc
              have := hrun none 0 0 l hh 0 (hbd lo _ _ (.inl rfl) hl1) (hbd hi _ _ (.inr (.inl rfl)) hh1) (.inl ⟨rfl, rfl⟩) c0 c1 (by omega) (by omega)
              refine ⟨.slice none 0 0, ?_, .fro _ _ (.v _)⟩
              simp only [execOp, ho]
              rw [hev]
              refine lift_value (this.trans ?_)
              have e1 : l = 0 := by omega
              have e2 : hh = 0 := by omega
              subst e1; subst e2
              simp [sliced]
            · cases h
          · rename_i m' hmx
            split at h
            · rename_i l hh m hl1 hh1 hm1
              simp only [Option.some.injEq, Prod.mk.injEq] at h
              obtain ⟨rfl, rfl, rfl⟩ := h
              obtain ⟨c0, c1, c2, rfl⟩ := hc
              have hm2 : isB (mx.map ev) 0 m := by
                rcases hbd mx _ _ (.inr (.inr rfl)) (by rw [hmx]; exact hm1) with ⟨e, _⟩ | e
                · exfalso; cases mx <;> simp_all
                · exact .inr e
              have := hrun none 0 0 l m m (hbd lo _ _ (.inl rfl) hl1) (hbd hi _ _ (.inr (.inl rfl)) hh1) hm2 c0 c1 (by omega) (by omega)
              refine ⟨.slice none 0 0, ?_, .fro _ _ (.v _)⟩
              simp only [execOp, ho]
              rw [hev]
              refine lift_value (this.trans ?_)
              have e1 : l = 0 := by omega
              have e2 : m = 0 := by omega
              subst e1; subst e2
              simp [sliced]
            · cases h
        · rename_i k g n hxd
          rw [hxd] at h1
          split at h
          · rename_i hmx
            have hmx' : mx = none := by cases mx <;> simp_all
            subst hmx'
            split at h
            · rename_i hlo
              have hlo' : lo = none := by cases lo <;> simp_all
              subst hlo'
              split at h
              · rename_i hh hh1
                split at h
                · rename_i en hl
                  simp only [Option.some.injEq, Prod.mk.injEq] at h
                  obtain ⟨rfl, rfl, rfl⟩ := h
                  obtain ⟨c0, c1⟩ := hc
                  have hl' : isLive σ' k g = some en := by rw [isLive_congr (hrd k (by simp))]; exact hl
                  have hev := ref_live h1 hl'
                  have := hrun (some ⟨(ρ k).1, 0, none⟩) n (ρ k).2 0 hh (ρ k).2 (.inl ⟨rfl, rfl⟩) (hbd hi _ _ (.inr (.inl rfl)) hh1) (.inl ⟨rfl, rfl⟩) (Int.le_refl _) c0 (by omega) (Int.le_refl _)
                  refine ⟨.slice (some ⟨(ρ k).1, 0, none⟩) hh.toNat (ρ k).2, ?_, .ref k g _ _ (live_used hl') rfl (fun b c' hb => ?_)⟩
                  · simp only [execOp, ho]
                    rw [hev.1]
                    refine lift_value (this.trans ?_)
                    simp [sliced, add_plain]
                  · obtain ⟨h3, h4, _⟩ := isLive_spec hl'
                    rw [← h4, Tb.of h3] at hb
                    rw [Option.some.inj hb]
                    exact ⟨rfl, by have := hev.2; rw [Option.some.inj hb] at this; omega⟩
                · cases h
              · cases h
            · rename_i lo' hlo
              split at h
              · rename_i l hh hl1 hh1
                split at h
                · rename_i en hl
                  simp only [Option.some.injEq, Prod.mk.injEq] at h
                  obtain ⟨rfl, rfl, rfl⟩ := h
                  obtain ⟨c0, c1, c2, c3, c4⟩ := hc
                  have hl' : isLive σ' k g = some en := by rw [isLive_congr (hrd k (by simp))]; exact hl
                  have hev := ref_live h1 hl'
                  have hcap := own_cap hp hl' c3 c2 c4
                  have := hrun (some ⟨(ρ k).1, 0, none⟩) n (ρ k).2 l hh (ρ k).2 (hbd lo _ _ (.inl rfl) (by rw [hlo]; exact hl1)) (hbd hi _ _ (.inr (.inl rfl)) hh1) (.inl ⟨rfl, rfl⟩) c0 c1 (by omega) (Int.le_refl _)
                  refine ⟨sliced (some ⟨(ρ k).1, 0, none⟩) l.toNat hh.toNat ((ρ k).2 : Int).toNat ei.size, ?_, .refo k g _ _ _ (live_used hl') rfl (fun b c' hb => ?_)⟩
                  · simp only [execOp, ho]
                    rw [hev.1]
                    exact lift_value this
                  · obtain ⟨h3, h4, _⟩ := isLive_spec hl'
                    rw [← h4, Tb.of h3] at hb
                    rw [Option.some.inj hb]
                    refine ⟨_, _, rfl, fun hpos => ?_⟩
                    have hb2 : (ρ k).2 = c' := by rw [Option.some.inj hb]
                    rw [if_neg (by omega)]
                    simp [add_plain]
                · cases h
              · cases h
          · rename_i m' hmx
            split at h
            · rename_i l hh m hl1 hh1 hm1
              split at h
              · rename_i en hl
                simp only [Option.some.injEq, Prod.mk.injEq] at h
                obtain ⟨rfl, rfl, rfl⟩ := h
                obtain ⟨c0, c1, c2, c3, c4, c5⟩ := hc
                have hl' : isLive σ' k g = some en := by rw [isLive_congr (hrd k (by simp))]; exact hl
                have hev := ref_live h1 hl'
                have hcap := own_cap hp hl' c4 c3 c5
                have hm2 : isB (mx.map ev) (ρ k).2 m := by
                  rcases hbd mx _ _ (.inr (.inr rfl)) (by rw [hmx]; exact hm1) with ⟨e, _⟩ | e
                  · exfalso; cases mx <;> simp_all
                  · exact .inr e
                have := hrun (some ⟨(ρ k).1, 0, none⟩) n (ρ k).2 l hh m (hbd lo _ _ (.inl rfl) hl1) (hbd hi _ _ (.inr (.inl rfl)) hh1) hm2 c0 c1 c2 (by omega)
                refine ⟨sliced (some ⟨(ρ k).1, 0, none⟩) l.toNat hh.toNat m.toNat ei.size, ?_, .fro _ _ (.any _)⟩
                simp only [execOp, ho]
                rw [hev.1]
                exact lift_value this
              · cases h
            · cases h
        · cases h
    · cases h

theorem ok_nilCheck {x : Operand} {d : D} {rd : List Nat} (ho : o.op = .nilCheck x) (h : nilCheckD (opd x) σ = some (d, rd)) : PureOk P o opd σ rd d := by
  intro B σ' ρ ev w hp hx hrd
  have h1 := hx x (by rw [ho]; simp [Op.operands])
  unfold nilCheckD at h
  split at h
  · rename_i k g o' hd
    split at h
    · rename_i e hl
      simp only [Option.some.injEq, Prod.mk.injEq] at h
      obtain ⟨rfl, rfl⟩ := h
      rw [hd] at h1
      have hl' : isLive σ' k g = some e := by rw [isLive_congr (hrd k (by simp))]; exact hl
      have hev := ptr_live h1 hl'
      refine ⟨_, ?_, ptr_mk o' hl'⟩
      simp only [execOp, ho]
      rw [hev]
      rfl
    · cases h
  · rename_i ds hd
    simp only [Option.some.injEq, Prod.mk.injEq] at h
    obtain ⟨rfl, rfl⟩ := h
    rw [hd] at h1
    have h2 := h1.fad_inv
    refine ⟨ev x, ?_, h1⟩
    generalize hev : ev x = u at h2
    cases h2 with
    | fad _ b o' g _ _ _ =>
      simp only [execOp, ho]
      rw [hev]
      rfl
  · rename_i f caps hd
    simp only [Option.some.injEq, Prod.mk.injEq] at h
    obtain ⟨rfl, rfl⟩ := h
    rw [hd] at h1
    obtain ⟨cs, hev, _⟩ := h1.fn_inv
    refine ⟨ev x, ?_, h1⟩
    simp only [execOp, ho]
    rw [hev]
    rfl
  · cases h

/-- A call of a builtin that leaves the world alone. -/
theorem run_builtin {b : Builtin} {c : Call} {ev : Operand → Value} {v : Value} {w w' : World} (ho : o.op = .call c) (hcal : c.callee = .builtin b)
    (hr : (builtin b c.argTypes o.type (c.args.map fun | .const _ => true | _ => false) (c.args.map ev)).run P w = .ok (.value v) w') : (execOp ev o).run P w = .ok (.value v) w' := by
  simp only [execOp, ho, resolve, hcal, pure_bind, invoke]
  exact hr
end
end Go.Proofs.Ytabliglgeiajlaa.AM
