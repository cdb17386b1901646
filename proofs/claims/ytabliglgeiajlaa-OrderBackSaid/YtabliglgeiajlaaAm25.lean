/- The abstract machine: a call of yield; the statement. -/
import Derived.Test.YtabliglgeiajlaaAm24
set_option linter.unusedSimpArgs false
set_option linter.unusedVariables false
namespace Go.Proofs.Ytabliglgeiajlaa.AM
open Go Go.RowKit

/-! ### Renamed twice -/
theorem ren0_not {m : Nat → Option Nat} (d : D) : ∀ f caps, ren0 m d ≠ .fn f caps := by
  intro f caps; cases d <;> simp only [ren0, ne_eq, reduceCtorEq, not_false_eq_true] <;> split <;> simp
theorem ren0_notB {m : Nat → Option Nat} (d : D) : ∀ f caps, ren0 m d ≠ .bnd f caps := by
  intro f caps; cases d <;> simp only [ren0, ne_eq, reduceCtorEq, not_false_eq_true] <;> split <;> simp
theorem ren1_not {m : Nat → Option Nat} (d : D) : ∀ ds, ren1 m d ≠ .agg ds := by
  intro ds; cases d <;> simp only [ren1, ren0, ne_eq, reduceCtorEq, not_false_eq_true] <;> split <;> simp
theorem ren2_not {m : Nat → Option Nat} (d : D) : ∀ ds, ren2 m d ≠ .tup ds := by
  intro ds; cases d <;> simp only [ren2, ren1, ren0, ne_eq, reduceCtorEq, not_false_eq_true] <;> split <;> simp
section
variable {m m' : Nat → Option Nat} (h : ∀ k j, m k = some j → m' j = some j)
include h
theorem ren0_ren0 (d : D) : ren0 m' (ren0 m d) = ren0 m d := by
  cases d <;> simp only [ren0]
  · rename_i k g n; cases hk : m k with
    | none => rfl
    | some j => simp only [ren0, h k j hk]
  · rename_i k g n; cases hk : m k with
    | none => rfl
    | some j => simp only [ren0, h k j hk]
  · rename_i b k g; cases hk : m k with
    | none => rfl
    | some j => simp only [ren0, h k j hk]
  · rename_i k g o n; cases hk : m k with
    | none => rfl
    | some j => simp only [ren0, h k j hk]
theorem ren1_ren0 (d : D) : ren1 m' (ren0 m d) = ren0 m d := by
  have h0 := ren0_ren0 h d
  cases hd : ren0 m d with
  | fn f caps => exact absurd hd (ren0_not d f caps)
  | bnd f caps => exact absurd hd (ren0_notB d f caps)
  | _ => rw [hd] at h0; exact h0
theorem ren1_ren1 (d : D) : ren1 m' (ren1 m d) = ren1 m d := by
  by_cases hf : ∃ f caps, d = .fn f caps
  · obtain ⟨f, caps, rfl⟩ := hf
    simp only [ren1, List.map_map, D.fn.injEq, true_and]
    refine List.map_congr_left fun x _ => ?_
    exact ren0_ren0 h x
  · by_cases hf2 : ∃ f caps, d = .bnd f caps
    · obtain ⟨f, caps, rfl⟩ := hf2
      simp only [ren1, List.map_map, D.bnd.injEq, true_and]
      refine List.map_congr_left fun x _ => ?_
      exact ren0_ren0 h x
    · have e : ren1 m d = ren0 m d := by cases d <;> first | rfl | exact absurd ⟨_, _, rfl⟩ hf | exact absurd ⟨_, _, rfl⟩ hf2
      rw [e]; exact ren1_ren0 h d
theorem ren2_ren1 (d : D) : ren2 m' (ren1 m d) = ren1 m d := by
  have h0 := ren1_ren1 h d
  cases hd : ren1 m d with
  | agg ds => exact absurd hd (ren1_not d ds)
  | _ => rw [hd] at h0; exact h0
theorem ren2_ren2 (d : D) : ren2 m' (ren2 m d) = ren2 m d := by
  by_cases hf : ∃ ds, d = .agg ds
  · obtain ⟨ds, rfl⟩ := hf
    simp only [ren2, List.map_map, D.agg.injEq]
    refine List.map_congr_left fun x _ => ?_
    exact ren1_ren1 h x
  · have e : ren2 m d = ren1 m d := by cases d <;> first | rfl | exact absurd ⟨_, rfl⟩ hf
    rw [e]; exact ren2_ren1 h d
theorem ren_ren2 (d : D) : ren m' (ren2 m d) = ren2 m d := by
  have h0 := ren2_ren2 h d
  cases hd : ren2 m d with
  | tup ds => exact absurd hd (ren2_not d ds)
  | _ => rw [hd] at h0; exact h0
theorem ren_ren (d : D) : ren m' (ren m d) = ren m d := by
  by_cases hf : ∃ ds, d = .tup ds
  · obtain ⟨ds, rfl⟩ := hf
    simp only [ren, List.map_map, D.tup.injEq]
    refine List.map_congr_left fun x _ => ?_
    exact ren2_ren2 h x
  · have e : ren m d = ren2 m d := by cases d <;> first | rfl | exact absurd ⟨_, rfl⟩ hf
    rw [e]; exact ren_ren2 h d
theorem renSlot_renSlot (s : Slot) : renSlot m' (renSlot m s) = renSlot m s := by
  cases s with
  | ent e =>
    simp only [renSlot, List.map_map]
    congr 2
    refine List.map_congr_left fun x _ => ?_
    exact ren_ren h x
  | _ => rfl
end

theorem mOf_range {n k : Nat} : mOf (List.range n) k = if k < n then some k else none := by
  split
  · rename_i h; exact mOf_get List.nodup_range (by simp [h])
  · rename_i h; exact mOf_none (by simpa using h)
theorem getS_append {a b : List Slot} {k : Nat} (h : k < a.length) : getS (a ++ b) k = getS a k := by rw [getS_eq, getS_eq, List.getElem?_append_left h]
theorem pick_range_append {ext rest : List Slot} : pick (List.range ext.length) (ext ++ rest) = pick (List.range ext.length) ext := by
  unfold pick
  refine List.map_congr_left fun k hk => ?_
  rw [getS_append (by simpa using hk)]
theorem nodup_range1 {n s : Nat} (h : n ≤ s) : (List.range n ++ [s]).Nodup := by
  rw [List.nodup_append]
  refine ⟨List.nodup_range, by simp, fun a ha b hb => ?_⟩
  simp at ha hb; omega
/-- A store whose keys are its own. -/
def Clsd (s : List Slot) : Prop := pick (List.range s.length) s = s
theorem callSets_closed {out : List Slot} {s : Nat} (h : Clsd out) : callSets (List.range out.length ++ [s]) out = (List.range out.length).zip out := by
  have hm : out.map (renSlot (backOf (List.range out.length ++ [s]))) = out := by
    refine List.ext_getElem? fun j => ?_
    rw [List.getElem?_map]
    cases hj : out[j]? with
    | none => rfl
    | some x =>
      have hlt := (List.getElem?_eq_some_iff.1 hj).1
      have h1 : (pick (List.range out.length) out)[j]? = some x := by rw [h, hj]
      rw [pick_get (k := j) (by simp [hlt])] at h1
      simp only [Option.map_some, Option.some.injEq] at h1 ⊢
      rw [← h1]
      refine renSlot_renSlot (fun k i hk => ?_) _
      rw [mOf_range] at hk
      split at hk
      · rename_i hk'; cases hk; simp [backOf, List.getElem?_append_left, hk']
      · cases hk
  unfold callSets
  rw [hm]
  have : ∀ (a b : List Nat) (c : List Slot), a.length = c.length → (a ++ b).zip c = a.zip c := by
    intro a
    induction a with
    | nil => intro b c hc; cases c with
      | nil => simp
      | cons _ _ => simp at hc
    | cons x a ih => intro b c hc; cases c with
      | nil => simp at hc
      | cons y c => simp only [List.cons_append, List.zip_cons_cons]; rw [ih b c (by simpa using hc)]
  exact this _ _ _ (by simp)
theorem setsF_pre {ext rest out : List Slot} (h : out.length = ext.length) : setsF (ext ++ rest) ((List.range out.length).zip out) = out ++ rest := by
  refine List.ext_getElem? fun k => ?_
  rw [setsF_zip _ _ _ _ List.nodup_range, mOf_range]
  by_cases hk : k < out.length
  · rw [if_pos hk]
    simp only [Option.bind_some, List.getElem?_eq_getElem hk]
    rw [if_pos (by simp; omega), List.getElem?_append_left hk, List.getElem?_eq_getElem hk]
  · rw [if_neg hk]
    simp only [Option.bind_none]
    rw [List.getElem?_append_right (by omega), List.getElem?_append_right (by omega), h]

/-! ### A call of yield -/
theorem run_yieldCall {P : Program} {ρ : Operand → Value} {o : Oper} {c : Call} {fo : Operand} {l : Nat} {w : World} (ho : o.op = .call c) (hcal : c.callee = .value fo) (hf : ρ fo = .func (.yield l) #[] #[]) :
    (execOp ρ o).run P w = (Instr.yield l (c.args.map ρ)).run P w := by
  simp only [execOp, ho, resolve, hcal, Deferred.ofValue, hf, Sem.run_bind, Pure.pure, Sem.run, Result.andThen, invoke]
  simp

theorem yield_sound {P : Program} {o : Oper} {c : Call} {fo : Operand} {kk : Nat} {args : List D} {ext out rest : List Slot} {b : Bool} {opd : Operand → D} {slot : Nat} {fr : List D} {r : Loop}
    (ho : o.op = .call c) (hcal : c.callee = .value fo) (hfo : opd fo = .kref false kk 0) (hrec : ext[kk]? = some (recS fr r))
    (hargs : (c.args.toList.map opd).map (ren (mOf (List.range ext.length))) = args) (hext : Clsd ext) (hout : Clsd out) (hl : out.length = ext.length) (hsl : ext.length ≤ slot) (hy : Yld P kk args ext b out) :
    OpS P none o opd (ext ++ rest) (List.range ext.length) slot ⟨.v (.bool b), (List.range ext.length).zip out⟩ := by
  have hpick : pick (List.range ext.length) (ext ++ rest) = ext := pick_range_append.trans hext
  have hkk : kk < ext.length := (List.getElem?_eq_some_iff.1 hrec).1
  have key := call_gen (P := P) (ro := none) (o := o) (T := YieldT P kk) (dargs := c.args.toList.map opd) (ks := List.range ext.length) (res := .v (.bool b)) (out := out) (opd := opd) (σ := ext ++ rest) (slot := slot)
    (nodup_range1 hsl) (by simp; omega) (.inl (by simp [hl])) (by simp [hl]) (by simp [hl])
    (fun ρ vs w R R' ⟨fn, tmps, asg, bd, h1, h2⟩ hr => ⟨fn, tmps, asg, bd, h1, h2.mono hr⟩)
    (fun B st ρ a w hopd hσ hp hfr => by
      have hoperands : ∀ x, x ∈ o.op.operands ↔ x ∈ c.operands := by intro x; rw [ho]; rfl
      have hfoV := hfr.eval fo
      rw [hopd fo ((hoperands fo).2 (by simp [Call.operands, hcal])), hfo] at hfoV
      -- the record's key
      have h1 : (pick (List.range ext.length) (ext ++ rest))[kk]? = some (recS fr r) := by rw [hpick]; exact hrec
      have hst : st.σ[kk]? = (ext ++ rest)[kk]? := hσ kk (.inr (by simp [hkk]))
      obtain ⟨k0, e0, g1, g2, g3, _⟩ := pick_ent (ρ := ρ) h1
      have hk0 : k0 = kk := by simpa [hkk] using g1.symm
      subst hk0
      have hg : e0.gen = 0 := by
        have : (⟨0, none, 0, fr, .loop r⟩ : Ent).gen = e0.gen := by rw [g3]
        exact this.symm
      have hval := hfoV.kref_inv.2 (ρ k0).1 (ρ k0).2 (by rw [← hg]; exact Tb.of (hst.trans g2))
      refine ⟨c.args.map a.eval, by simp, fun j d u hd hu => ?_, fun next Q hT => ?_⟩
      · obtain ⟨x, hx, rfl⟩ := map_get hd
        rw [Array.getElem?_map] at hu
        have hx' : c.args[j]? = some x := by simpa using hx
        rw [hx'] at hu
        simp only [Option.map_some, Option.some.injEq] at hu
        subst hu
        have hmem : x ∈ c.args := Array.mem_of_getElem? hx'
        rw [← hopd x ((hoperands x).2 (by simp [Call.operands, hcal, hmem]))]
        exact hfr.eval x
      · refine ⟨fun _ _ => trivial, ?_⟩
        have hsem : o.semAt (FW none).round a.eval = execOp a.eval o := Oper.semAt_eq _ _ _ (fun c' h => by rw [ho] at h; cases h)
        obtain ⟨fn, tmps, asg, bd, h5, h6⟩ := hT
        have hpk : pickρ (List.range ext.length) ρ k0 = ρ k0 := by simp [pickρ, List.getD_eq_getElem?_getD, hkk]
        rw [hpk] at h5 h6
        rw [hsem, run_yieldCall ho hcal hval, h5, Oper.uponIn_round]
        refine ⟨fun h => by simp at h, h6.mono ?_⟩
        rintro e w' ⟨v, rfl, h⟩
        exact h)
    (fun N0 ρ w vs h1 h2 h3 => by
      rw [hpick] at h1 h3 ⊢
      exact hy N0 ρ w vs h1 (by rw [← hargs]; simpa using h2) (fun j d u hd hu => h3 j d u (by rw [hargs]; exact hd) hu))
  have hcs := callSets_closed (s := slot) hout
  rw [hl] at hcs
  rw [hcs] at key
  exact key

/-- A call of yield, in a region. -/
theorem callY {P : Program} {o : Oper} {c : Call} {fo : Operand} {kk : Nat} {args : List D} {ext out rest σ : List Slot} {b : Bool} {opd : Operand → D} {slot : Nat} {fr : List D} {r : Loop} {k : List Nat → Out → Prop}
    (hy : Yld P kk args ext b out) (hrec : ext[kk]? = some (recS fr r)) (hext : Clsd ext) (hout : Clsd out) (hl : out.length = ext.length) (hσ : ext ++ rest = σ) (hsl : ext.length ≤ slot)
    (ho : o.op = .call c) (hcal : c.callee = .value fo) (hfo : opd fo = .kref false kk 0) (hargs : (c.args.toList.map opd).map (ren (mOf (List.range ext.length))) = args)
    (hk : k (List.range ext.length) ⟨.v (.bool b), (List.range out.length).zip out⟩) : CallV P none o opd σ slot k := by
  subst hσ
  refine CallV.intro (yield_sound ho hcal hfo hrec hargs hext hout hl hsl hy) (fun p hp => .inr ?_) (by rw [← hl]; rw [← hl] at hk; exact hk)
  have := (List.of_mem_zip hp).1
  exact this

/-! ### The statement -/
theorem leS_dead : ∀ (l : List Slot) (n : Nat) (s : Slot), leS (l.set n s) (l.set n .dead)
  | [], _, _ => trivial
  | a :: l, 0, s => ⟨.inl rfl, leS_refl l⟩
  | a :: l, n + 1, s => ⟨.inr (.inl rfl), leS_dead l n s⟩

theorem AWP_rangeFunc {P : Program} {st : St} {K : Exit → St → Prop} {g : Operand} {ps : Array Tmp} {assign body : Code} {f : Nat} {caps : List D} (hg : st.eval g = .fn f caps)
    (h : ∀ r : Loop, r.state = .ready → r.pending = none → r.params = ps → r.assign = assign → r.body = body →
      ∃ res out fr' r', Fn P f ((.kref false st.σ.length 0 :: caps).map (ren (mOf (List.range (st.σ.length + 1))))) (pick (List.range (st.σ.length + 1)) (st.σ ++ [recS st.fr r])) res out ∧ out.length = st.σ.length + 1 ∧
        (setsF (st.σ ++ [recS st.fr r]) (callSets (List.range (st.σ.length + 1) ++ [st.σ.length + 1]) out))[st.σ.length]? = some (recS fr' r') ∧ r'.state ≠ .busy ∧
        ∃ e, exitJump e = some r'.pending ∧ K e ⟨st.fr, (setsF (st.σ ++ [recS st.fr r]) (callSets (List.range (st.σ.length + 1) ++ [st.σ.length + 1]) out)).set st.σ.length .dead⟩) :
    AWP P none (.rangeFunc g ps assign body) st K := by
  intro B a w hr Q hQ
  obtain ⟨ρ, hp, hfr, Ds, hDs, hnd, hDm⟩ := hr
  refine wpIn_rangeFunc (F := FW none) (fun fn _ => ?_)
  have hev := hfr.eval g
  rw [hg] at hev
  obtain ⟨cs, hfv, hcl, hcr⟩ := hev.fn_inv
  obtain ⟨res, out, fr', r', hfn, hlen, hrec, hbusy, e, hej, hK⟩ := h { state := .ready, pending := none, fn, tmps := a.tmps, params := ps, assign, body, defers := w.heap.size } rfl rfl rfl rfl rfl
  generalize hr0 : ({ state := .ready, pending := none, fn, tmps := a.tmps, params := ps, assign, body, defers := w.heap.size } : Loop) = r0 at hfn hrec hK
  -- the block of the mark
  have hput1 := put_frozen hp (Wr.alloc w (.deferred (some [])))
  have hs1 : (w.alloc (.deferred (some []))).heap.size = w.heap.size + 1 := World.size_alloc _ _
  have hd1 : (w.alloc (.deferred (some []))).heap[w.heap.size]? = some (.deferred (some [])) := heap_alloc_new w _
  have hen : (Instr.enterLoop fn a.tmps ps assign body none).run P w = .ok (w.heap.size + 1, [markOf w.heap.size]) ((w.alloc (.deferred (some []))).alloc (.loop r0)) := by rw [← hr0]; exact run_enterLoop_outer _ _ _ _ _
  generalize w.alloc (.deferred (some [])) = w1 at hput1 hs1 hd1 hen
  obtain ⟨m1, hp1⟩ := hput1
  -- the record
  have mr := Move.room B st.σ ρ w1 1
  have hpr : Hp B (st.σ ++ List.replicate 1 .free) ρ w1 := mr.hp hp1 rfl rfl rfl (fun k e he => mr.entOk (hp1.ent k e (ent_append.1 he)) rfl) (fun k k' hk hk' he => hp1.inj k k' (live_append.1 hk) (live_append.1 hk') he)
  have hput2 := put_ent hpr (k := st.σ.length) (e' := ⟨0, none, 0, st.fr, .loop r0⟩) (b := w1.heap.size) (cap := 0) (Wr.alloc w1 (.loop r0)) (.inl ⟨by simp, rfl⟩)
    ⟨a.tmps, _, heap_alloc_new w1 _, by show Obj.loop r0 = .loop { r0 with tmps := a.tmps }; rw [← hr0], hfr.1.symm, fun j d hd => by
      obtain ⟨u, a1, a2⟩ := hfr.2 j d hd
      exact ⟨u, a1, (fun h => by cases h), mr.rp (m1.rp a2)⟩⟩
  have hset : (st.σ ++ List.replicate 1 Slot.free).set st.σ.length (.ent ⟨0, none, 0, st.fr, .loop r0⟩) = st.σ ++ [recS st.fr r0] := by simp [recS]
  rw [hset] at hput2
  obtain ⟨m2, hp2⟩ := hput2
  have hs2 : (w1.alloc (.loop r0)).heap.size = w1.heap.size + 1 := World.size_alloc _ _
  generalize w1.alloc (.loop r0) = w2 at m2 hp2 hen hs2
  generalize hρ2 : updρ ρ st.σ.length (w1.heap.size, 0) = ρ2 at m2 hp2
  have hρn : ρ2 st.σ.length = (w1.heap.size, 0) := by rw [← hρ2]; exact updρ_self
  have hkn : (st.σ ++ [recS st.fr r0])[st.σ.length]? = some (recS st.fr r0) := by simp
  obtain ⟨hcp, T⟩ := hand hp2 (ks := List.range (st.σ.length + 1)) List.nodup_range
  have hcall := hfn.spec _ _ w2 (#[.func (.yield (w.heap.size + 1)) #[] #[]] ++ cs) hcp (by simp [hcl]; omega) (fun j d u hd hu => by
    obtain ⟨d0, hd0, rfl⟩ := map_get hd
    refine T.ren ?_
    cases j with
    | zero =>
      rw [Array.getElem?_append_left (by simp)] at hu
      simp at hd0 hu
      subst hd0; subst hu
      refine .kref false st.σ.length 0 _ ⟨_, hkn, Nat.zero_le _⟩ rfl (fun b c hb => ?_)
      have := Tb.of (ρ := ρ2) hkn
      rw [show (⟨0, none, 0, st.fr, .loop r0⟩ : Ent).gen = 0 from rfl] at this
      rw [this, hρn] at hb
      cases hb
      rw [hs1]; rfl
    | succ j =>
      rw [Array.getElem?_append_right (by simp)] at hu
      exact m2.rp (mr.rp (m1.rp (hcr j d0 u (by simpa using hd0) (by simpa using hu)))))
  refine ⟨w.heap.size + 1, [markOf w.heap.size], w2, { target := .fn (.func f) cs, args := #[.func (.yield (w.heap.size + 1)) #[] #[]] }, w2, f, #[.func (.yield (w.heap.size + 1)) #[] #[]] ++ cs, w2, hen, ?_, (fun _ _ => trivial), ?_, (fun h => by cases h), ?_⟩
  · simp only [resolve, hfv]
    simp [go_sem]
  · simp [invoke, go_sem, hfn.enter]
  · refine CallsIn.mono (show CallsIn (FW none) 0 P f _ w2 _ from callsIn_wide.2 hcall) ?_
    rintro e' w3 ⟨v, ρ', rfl, hp', _⟩
    obtain ⟨m3, hp3, _⟩ := back (slot := st.σ.length + 1) hp2 (nodup_range1 (Nat.le_refl _)) (by simp) (.inl (by simp [hlen])) (by simp [hlen]) (by simp [hlen]) hp'
    generalize callρ (List.range (st.σ.length + 1) ++ [st.σ.length + 1]) out.length ρ2 ρ' = ρ3 at m3 hp3
    generalize setsF (st.σ ++ [recS st.fr r0]) (callSets (List.range (st.σ.length + 1) ++ [st.σ.length + 1]) out) = σ3 at m3 hp3 hrec hK
    have hρ3 : ρ3 st.σ.length = (w1.heap.size, 0) := by
      have h1 := m3.tabs st.σ.length 0 (ρ3 st.σ.length) ⟨_, hkn, Nat.zero_le _⟩ (Tb.of (e := ⟨0, none, 0, fr', .loop r'⟩) hrec)
      have h2 := Tb.of (ρ := ρ2) (e := ⟨0, none, 0, st.fr, .loop r0⟩) hkn
      rw [h2] at h1
      rw [← hρn]
      exact (Option.some.inj h1).symm
    obtain ⟨cs3, hl3, _, _, hturn⟩ := hp3.recOf hrec
    rw [hρ3] at hl3 hturn
    obtain ⟨m4, hp4⟩ := hturn { r' with state := .exhausted }
    have hend := run_endLoop (P := P) hl3 hbusy
    rw [← hs1]
    have hfr4 := m4.frOk (fr := st.fr) (m3.frOk (fr := st.fr) (m2.frOk (fr := st.fr) (mr.frOk (fr := st.fr) (m1.frOk (fr := st.fr) hfr))))
    have hmk1 : Marks B { a with defers := [markOf w.heap.size] ++ a.defers } w1 := by
      have hlt : ∀ D ∈ Ds, D < w.heap.size := fun D hD => (Array.getElem?_eq_some_iff.1 (hDm D hD).2).1
      refine ⟨w.heap.size :: Ds, by simp [hDs], List.nodup_cons.2 ⟨fun hc => by have := hlt _ hc; omega, hnd⟩, fun D hD => ?_⟩
      rcases List.mem_cons.1 hD with rfl | hD
      · exact ⟨Nat.le_trans hp.m0 hp.size, hd1⟩
      · obtain ⟨_, _, _, hm⟩ := (show Marks B a w1 from m1.marks hp ⟨Ds, hDs, hnd, hDm⟩)
        have hD1 := hDm D hD
        refine ⟨hD1.1, ?_⟩
        rw [m1.keep D (hlt D hD) (fun k hk => by
          rintro rfl
          obtain ⟨en, he⟩ := hk
          obtain ⟨cs, o, hc, ho, _⟩ := hp.ent k en he
          rw [hD1.2] at hc; cases hc; exact objOf_deferred ho)]
        exact hD1.2
    have hmk4 := m4.marks hp3 (m3.marks hp2 (m2.marks hpr (mr.marks hp1 hmk1)))
    have hrel : Rel B ⟨st.fr, σ3.set st.σ.length .dead⟩ { a with defers := [markOf w.heap.size] ++ a.defers } (w3.putObj w1.heap.size (.loop { ({ r' with state := .exhausted } : Loop) with tmps := cs3 })) :=
      (Rel.le (s := ⟨st.fr, σ3.set st.σ.length (recS fr' { r' with state := .exhausted })⟩) ⟨ρ3, hp4, hfr4, hmk4⟩ (leF_refl _) (leS_dead _ _ _))
    obtain ⟨w4, hend', hrel⟩ : ∃ w4, (Instr.endLoop w1.heap.size).run P w3 = .ok r'.pending w4 ∧ Rel B ⟨st.fr, σ3.set st.σ.length .dead⟩ { a with defers := [markOf w.heap.size] ++ a.defers } w4 := ⟨_, hend, hrel⟩
    refine ⟨r'.pending, w4, hend', ?_⟩
    clear hend'
    cases e with
    | normal =>
      have hj : r'.pending = none := (Option.some.inj hej).symm
      rw [hj]
      exact hQ _ _ _ _ hK hrel
    | ret =>
      have hj : r'.pending = some .ret := (Option.some.inj hej).symm
      rw [hj]
      exact wpIn_ret (hQ _ _ _ _ hK hrel)
    | exit id =>
      have hj : r'.pending = some (.exit id) := (Option.some.inj hej).symm
      rw [hj]
      exact wpIn_exit (hQ _ _ _ _ hK hrel)
    | goto t => cases hej
    | panic c => cases hej
    | outgrown => cases hej
end Go.Proofs.Ytabliglgeiajlaa.AM
