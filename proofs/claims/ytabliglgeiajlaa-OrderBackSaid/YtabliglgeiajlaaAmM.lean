/- The abstract machine: maps. -/
import Derived.Test.YtabliglgeiajlaaAm16
set_option linter.unusedSimpArgs false
set_option linter.unusedVariables false
namespace Go.Proofs.Ytabliglgeiajlaa.AM
open Go Go.RowKit

/-- The place of a key among keys: none where that cannot be seen. -/
def findD (kind : TypeDesc) (kv : Value) : List Value → List D → Option (Option D)
  | [], _ => some none
  | _ :: _, [] => none
  | k :: ks, d :: ds =>
    match Instr.sameNow kind kv k with
    | some true => some (some d)
    | some false => findD kind kv ks ds
    | none => none
def keyB : TypeDesc → Bool
  | .int _ => true
  | .string => true
  | _ => false
/-- A map's own block. -/
def mapE (σ : List Slot) (k g : Nat) : Option (Ent × List Value) :=
  match getS σ k with
  | .ent e => match e.kd with
    | .map keys => match beqN e.gen g with
      | true => some (e, keys)
      | false => none
    | _ => none
  | _ => none
def mapTy (P : Program) (t : TypeId) : Option (TypeDesc × Value) :=
  match tyI P t with
  | some i => match i.und with
    | .map kt et => match tyI P kt with
      | some ik => match tyI P et with
        | some ie => some (ik.und, ie.zero)
        | none => none
      | none => none
    | _ => none
  | none => none
def makeMapD (t : TypeId) (slot : Nat) : D × List (Nat × Slot) := (.kref true slot 0, [(slot, .ent ⟨0, none, t, [], .map []⟩)])
def insertD (P : Program) (t : TypeId) (m k x : D) (σ : List Slot) : Option (Prop × List (Nat × Slot) × Nat) :=
  match mapTy P t with
  | none => none
  | some (kind, _) =>
    match m with
    | .kref true b g =>
      match k with
      | .v kv =>
        match mapE σ b g with
        | none => none
        | some (e, keys) =>
          match findD kind kv keys e.cells with
          | some none => some (keyB kind = true, [(b, .ent { e with cells := e.cells ++ [x], kd := .map (keys ++ [kv]) })], b)
          | _ => none
      | _ => none
    | _ => none
def zeroOf : Value → D
  | .agg cs => .agg (cs.toList.map .v)
  | v => .v v
def lookupD (P : Program) (t : TypeId) (m k : D) (σ : List Slot) : Option (Prop × D × List Nat) :=
  match mapTy P t with
  | none => none
  | some (kind, z) =>
    match m with
    | .kref true b g =>
      match k with
      | .v kv =>
        match mapE σ b g with
        | none => none
        | some (e, keys) =>
          match findD kind kv keys e.cells with
          | some (some d) => some (keyB kind = true, .tup [d, .v (.bool true)], [b])
          | some none => some (keyB kind = true, .tup [zeroOf z, .v (.bool false)], [b])
          | none => none
      | _ => none
    | _ => none

section
variable {P : Program} {o : Oper} {opd : Operand → D} {σ : List Slot} {slot : Nat}

theorem rep_zeroOf {w : World} {fz : Nat → Prop} {tb : Nat → Nat → Option (Nat × Nat)} {U : Nat → Nat → Prop} {z : Value} : Rep w fz tb U (zeroOf z) z := by
  cases z with
  | agg cs =>
    refine .agg _ cs (by simp) (fun j d u hd hu => ?_)
    obtain ⟨v, hv, rfl⟩ := map_get hd
    have : cs[j]? = some v := by simpa using hv
    rw [this] at hu
    cases hu
    exact .fro _ _ (.v _)
  | _ => exact .fro _ _ (.v _)
theorem mapTy_spec {t : TypeId} {kind : TypeDesc} {z : Value} (h : mapTy P t = some (kind, z)) (w : World) : ∃ kt et, (underlying t).run P w = .ok (.map kt et) w ∧ (underlying kt).run P w = .ok kind w ∧ (zeroValue et).run P w = .ok z w := by
  unfold mapTy at h
  split at h
  · rename_i i hi
    split at h
    · rename_i kt et hu
      split at h
      · rename_i ik hk
        split at h
        · rename_i ie he
          cases h
          exact ⟨kt, et, by rw [tyI.underlying hi w, hu], tyI.underlying hk w, tyI.zeroValue he w⟩
        · cases h
      · cases h
    · cases h
  · cases h
theorem mapE_spec {k g : Nat} {e : Ent} {keys : List Value} (h : mapE σ k g = some (e, keys)) : σ[k]? = some (.ent e) ∧ e.gen = g ∧ e.kd = .map keys := by
  unfold mapE at h
  split at h
  · rename_i e' he
    split at h
    · rename_i keys' hk
      split at h
      · rename_i hb
        cases h
        exact ⟨getS_ent he, Nat.eq_of_beq_eq_true hb, hk⟩
      · cases h
    · cases h
  · cases h
theorem mapE_congr {σ' : List Slot} {k g : Nat} (h : σ'[k]? = σ[k]?) : mapE σ' k g = mapE σ k g := by
  unfold mapE; rw [getS_eq, getS_eq, h]
theorem kref_live {B : Base} {σ : List Slot} {ρ : Nat → Nat × Nat} {w : World} {k g : Nat} {e : Ent} {keys : List Value} {u : Value} (h : Rp B σ ρ w (.kref true k g) u) (hl : mapE σ k g = some (e, keys)) : u = .map (some (ρ k).1) := by
  obtain ⟨h1, h2, _⟩ := mapE_spec hl
  exact h.kref_inv.2 _ _ (h2 ▸ Tb.of h1)
theorem checkKey_run {kind : TypeDesc} (hk : keyB kind = true) {kt : TypeId} {w : World} (hu : (underlying kt).run P w = .ok kind w) (b : Bool) (n : Nat) (v : Value) : (Instr.checkKey b (n + 1) kt v).run P w = .ok () w := by
  unfold Instr.checkKey
  rw [Sem.run_bind, hu]
  simp only [Result.andThen]
  cases kind <;> first | (simp [keyB] at hk; done) | (cases v <;> rfl)
theorem findNow_of {kind : TypeDesc} {kv : Value} : ∀ {es : List MapEntry} {cells : List D} {n : Nat} {r : Option D} (_ : es.length = cells.length) (_ : findD kind kv (es.map (·.key)) cells = some r),
    match r with
    | none => Instr.findNow kind kv es n = some none
    | some d => ∃ (i : Nat) (e : MapEntry), Instr.findNow kind kv es n = some (some (n + i, e.val)) ∧ es[i]? = some e ∧ cells[i]? = some d
  | [], cells, n, r, hl, h => by
    simp only [List.map_nil, findD, Option.some.injEq] at h
    subst h; rfl
  | e :: es, [], n, r, hl, h => by simp at hl
  | e :: es, d :: cells, n, r, hl, h => by
    simp only [List.map_cons, findD] at h
    simp only [List.length_cons, Nat.add_right_cancel_iff] at hl
    cases hs : Instr.sameNow kind kv e.key with
    | none => rw [hs] at h; cases h
    | some b =>
      rw [hs] at h
      cases b with
      | true =>
        simp only [Option.some.injEq] at h
        subst h
        exact ⟨0, e, by simp [Instr.findNow, hs], rfl, rfl⟩
      | false =>
        simp only at h
        have ih := findNow_of (n := n + 1) hl h
        cases r with
        | none => simpa [Instr.findNow, hs] using ih
        | some d' =>
          obtain ⟨i, e', h1, h2, h3⟩ := ih
          exact ⟨i + 1, e', by simp [Instr.findNow, hs, h1]; omega, by simpa using h2, by simpa using h3⟩
theorem findKey_run {kind : TypeDesc} {kt : TypeId} {w : World} {kv : Value} {es : List MapEntry} {r : Option (Nat × Value)} (hu : (underlying kt).run P w = .ok kind w) (h : Instr.findNow kind kv es 0 = some r) : (Instr.findKey kt kv es).run P w = .ok r w := by
  unfold Instr.findKey
  rw [Sem.run_bind, hu]
  simp only [Result.andThen, h]
  rfl
/-- What lies in a map's block. -/
theorem Hp.mapOf {B : Base} {ρ : Nat → Nat × Nat} {w : World} {k : Nat} {e : Ent} {keys : List Value} (hp : Hp B σ ρ w) (he : σ[k]? = some (.ent e)) (hk : e.kd = .map keys) :
    ∃ (es : Array MapEntry) (clock : Nat), w.heap[(ρ k).1]? = some (.map es clock) ∧ es.toList.map (·.key) = keys ∧ es.size = e.cells.length ∧ ∀ (j : Nat) (d : D), e.cells[j]? = some d → ∃ x, es[j]? = some x ∧ Rp B σ ρ w d x.val := by
  obtain ⟨cs, ob, h1, h2, h3, h4⟩ := hp.ent k e he
  unfold objOf at h2
  unfold szOk at h3
  rw [hk] at h2 h3
  obtain ⟨es, clock, rfl, h5, h6⟩ := h2
  simp only at h3
  have hsz : es.size = cs.size := by rw [← h6]; simp
  refine ⟨es, clock, h1, h5, by omega, fun j d hd => ?_⟩
  obtain ⟨u, a1, _, a3⟩ := h4 j d hd
  rw [← h6, Array.getElem?_map] at a1
  cases hx : es[j]? with
  | none => rw [hx] at a1; cases a1
  | some x => rw [hx] at a1; cases a1; exact ⟨x, rfl, a3⟩
theorem ok_makeMap {t : TypeId} {d : D} {sets : List (Nat × Slot)} (ho : o.op = .makeMap t none) (h : makeMapD t slot = (d, sets)) (hf : isFree σ slot) : WriteOk P o opd σ [] slot d sets := by
  intro B σ' ρ ev w hp hx hσ
  simp only [makeMapD, Prod.mk.injEq] at h
  obtain ⟨rfl, rfl⟩ := h
  have hfree : σ'[slot]? = some .free := by rw [hσ slot (.inl rfl)]; exact getS_free hf
  have hlt : slot < σ'.length := (List.getElem?_eq_some_iff.1 hfree).1
  have hput := put_ent hp (e' := ⟨0, none, t, [], .map []⟩) (b := w.heap.size) (cap := 0) (Wr.alloc w (.map #[] 0)) (.inl ⟨hfree, rfl⟩)
    ⟨#[], _, heap_alloc_new w _, ⟨#[], 0, rfl, rfl, by simp⟩, rfl, fun j d hd => by simp at hd⟩
  refine ⟨_, _, hput.2, hput.1, .inr ⟨.map (some w.heap.size), ?_, ?_⟩⟩
  · simp only [execOp, ho]
    refine lift_value ?_
    simp [Instr.makeMap, Sem.run_bind, newObj, Sem.run, Result.andThen, Pure.pure]
  · have hg : (setsF σ' [(slot, .ent ⟨0, none, t, [], .map []⟩)])[slot]? = some (.ent ⟨0, none, t, [], .map []⟩) := by simp [setsF, hlt]
    refine .kref true slot 0 _ ⟨_, hg, Nat.zero_le _⟩ rfl (fun b c hb => ?_)
    have := Tb.of (ρ := updρ ρ slot (w.heap.size, 0)) hg
    rw [hb, updρ_self] at this
    cases this
    rfl
theorem getMap_run {b : Nat} {es : Array MapEntry} {clock : Nat} {w : World} (h : w.heap[b]? = some (.map es clock)) : (getObj b).run P w = .ok (.map es clock) w := by
  simp only [getObj, Sem.run, h]
theorem setMap_run {b : Nat} {es : Array MapEntry} {clock : Nat} {w : World} (ob : Obj) (h : w.heap[b]? = some (.map es clock)) : (setObj b ob).run P w = .ok () { w with heap := w.heap.setIfInBounds b ob } := by
  simp only [setObj, Sem.run, h]
theorem Wr.setObj (w : World) (b : Nat) (ob : Obj) : Wr w { w with heap := w.heap.setIfInBounds b ob } b where
  size := by simp
  keep := fun j hj hne => by
    show (w.heap.setIfInBounds b ob)[j]? = _
    rw [Array.getElem?_setIfInBounds_ne (fun h => hne h.symm)]
  os := rfl
  tape := rfl
  output := rfl
theorem ok_lookup {t : TypeId} {m k : Operand} {c : Prop} {d : D} {rd : List Nat} (ho : o.op = .lookup t m k true) (h : lookupD P t (opd m) (opd k) σ = some (c, d, rd)) (hc : c) : PureOk P o opd σ rd d := by
  intro B σ' ρ ev w hp hx hrd
  have h1 := hx m (by rw [ho]; simp [Op.operands])
  have h2 := hx k (by rw [ho]; simp [Op.operands])
  unfold lookupD at h
  split at h
  · cases h
  · rename_i kind z hty
    obtain ⟨kt, et, u1, u2, u3⟩ := mapTy_spec hty w
    split at h
    · rename_i b g hm
      split at h
      · rename_i kv hk
        split at h
        · cases h
        · rename_i e keys he
          rw [hm] at h1
          rw [hk] at h2
          have hkv := h2.v_inv
          have key : ∀ r, findD kind kv keys e.cells = some r → (c, d, rd) = (keyB kind = true, (match r with | some d => D.tup [d, .v (.bool true)] | none => .tup [zeroOf z, .v (.bool false)]), [b]) →
              ∃ u, (execOp ev o).run P w = .ok (.value u) w ∧ Rp B σ' ρ w d u := fun r hr heq => by
            simp only [Prod.mk.injEq] at heq
            obtain ⟨rfl, rfl, rfl⟩ := heq
            have he' : mapE σ' b g = some (e, keys) := by rw [mapE_congr (hrd b (by simp))]; exact he
            obtain ⟨hb, _, hkd⟩ := mapE_spec he'
            have hev := kref_live h1 he'
            obtain ⟨es, clock, m1, m2, m3, m4⟩ := hp.mapOf hb hkd
            have hf := findNow_of (kind := kind) (kv := kv) (es := es.toList) (cells := e.cells) (n := 0) (r := r) (by simpa using m3) (by rw [m2]; exact hr)
            have hrun : ∀ q, Instr.findNow kind kv es.toList 0 = some q → (execOp ev o).run P w = .ok (.value (match q with | some (_, v) => .tuple #[v, .bool true] | none => .tuple #[z, .bool false])) w := fun q hq => by
              simp only [execOp, ho]
              refine lift_value ?_
              unfold Instr.lookup
              rw [Sem.run_bind, u1]
              simp only [Result.andThen, hev, hkv]
              rw [Sem.run_bind, getMap_run m1]
              simp only [Result.andThen, pure_bind]
              rw [Sem.run_bind, checkKey_run hc u2]
              simp only [Result.andThen]
              rw [Sem.run_bind, findKey_run u2 hq]
              simp only [Result.andThen]
              cases q with
              | none => simp only [Sem.run_bind, u3, Result.andThen]; rfl
              | some p => rfl
            cases r with
            | none =>
              refine ⟨_, hrun none hf, ?_⟩
              refine .tup _ _ rfl (fun j d u hd hu => ?_)
              match j with
              | 0 => simp at hd hu; subst hd hu; exact rep_zeroOf
              | 1 => simp at hd hu; subst hd hu; exact .fro _ _ (.v _)
              | j + 2 => simp at hd
            | some d0 =>
              obtain ⟨i, x, f1, f2, f3⟩ := hf
              refine ⟨_, hrun (some (0 + i, x.val)) f1, ?_⟩
              obtain ⟨x', m5, m6⟩ := m4 i d0 f3
              have : x' = x := by
                rw [← Array.getElem?_toList, f2] at m5
                exact (Option.some.inj m5).symm
              subst this
              refine .tup _ _ rfl (fun j d u hd hu => ?_)
              match j with
              | 0 => simp at hd hu; subst hd hu; exact m6
              | 1 => simp at hd hu; subst hd hu; exact .fro _ _ (.v _)
              | j + 2 => simp at hd
          split at h
          · rename_i d0 hr
            exact key (some d0) hr (Option.some.inj h).symm
          · rename_i hr
            exact key none hr (Option.some.inj h).symm
          · cases h
      · cases h
    · cases h
theorem ok_insert {t : TypeId} {m k x : Operand} {c : Prop} {sets : List (Nat × Slot)} {kk : Nat} (ho : o.op = .insert t m k x) (h : insertD P t (opd m) (opd k) (opd x) σ = some (c, sets, kk)) (hc : c) : WriteOk P o opd σ [kk] slot (.v undef) sets := by
  intro B σ' ρ ev w hp hx hσ
  have h1 := hx m (by rw [ho]; simp [Op.operands])
  have h2 := hx k (by rw [ho]; simp [Op.operands])
  have h3 := hx x (by rw [ho]; simp [Op.operands])
  unfold insertD at h
  split at h
  · cases h
  · rename_i kind z hty
    obtain ⟨kt, et, u1, u2, u3⟩ := mapTy_spec hty w
    split at h
    · rename_i b g hm
      split at h
      · rename_i kv hk
        split at h
        · cases h
        · rename_i e keys he
          split at h
          · rename_i hr
            simp only [Option.some.injEq, Prod.mk.injEq] at h
            obtain ⟨rfl, rfl, rfl⟩ := h
            rw [hm] at h1
            rw [hk] at h2
            have hkv := h2.v_inv
            have he' : mapE σ' b g = some (e, keys) := by rw [mapE_congr (hσ b (.inr (by simp)))]; exact he
            obtain ⟨hb, hgen, hkd⟩ := mapE_spec he'
            have hev := kref_live h1 he'
            obtain ⟨es, clock, m1, m2, m3, m4⟩ := hp.mapOf hb hkd
            have hf := findNow_of (kind := kind) (kv := kv) (es := es.toList) (cells := e.cells) (n := 0) (r := none) (by simpa using m3) (by rw [m2]; exact hr)
            have hlt : (ρ b).1 < w.heap.size := (Array.getElem?_eq_some_iff.1 m1).1
            have hput := put_ent hp (k := b) (e' := { e with cells := e.cells ++ [opd x], kd := .map (keys ++ [kv]) }) (b := (ρ b).1) (cap := (ρ b).2) (Wr.setObj w (ρ b).1 (.map (es.push { key := kv, val := ev x, born := clock }) (clock + 1)))
              (.inr ⟨e, hb, .inl ⟨Nat.le_refl _, rfl⟩⟩)
              ⟨(es.map (·.val)).push (ev x), _, by
                  show (w.heap.setIfInBounds (ρ b).1 _)[(ρ b).1]? = _
                  rw [Array.getElem?_setIfInBounds_self_of_lt hlt], ⟨_, _, rfl, by simp [m2], by simp⟩, by
                  show _ = (e.cells ++ [opd x]).length
                  simp [m3], fun j d hd => by
                  by_cases hj : j < e.cells.length
                  · rw [List.getElem?_append_left hj] at hd
                    obtain ⟨y, m5, m6⟩ := m4 j d hd
                    refine ⟨y.val, ?_, (fun h => by simp at h), m6⟩
                    rw [Array.getElem?_push_lt (by simp; omega)]
                    rw [Array.getElem?_eq_some_iff] at m5
                    obtain ⟨q, rfl⟩ := m5
                    simp
                  · rw [List.getElem?_append_right (by omega)] at hd
                    have : j = e.cells.length := by
                      have := (List.getElem?_eq_some_iff.1 hd).1
                      simp at this; omega
                    subst this
                    simp at hd
                    subst hd
                    refine ⟨ev x, ?_, (fun h => by simp at h), h3⟩
                    rw [← m3, show es.size = (es.map (·.val)).size by simp, Array.getElem?_push_size]⟩
            refine ⟨_, _, hput.2, hput.1, .inl ⟨?_, rfl⟩⟩
            simp only [execOp, ho]
            have hrun : (Instr.mapUpdate t (ev m) (ev k) (ev x)).run P w = .ok () { w with heap := w.heap.setIfInBounds (ρ b).1 (.map (es.push { key := kv, val := ev x, born := clock }) (clock + 1)) } := by
              unfold Instr.mapUpdate
              rw [Sem.run_bind, u1]
              simp only [Result.andThen, hev, hkv]
              rw [Sem.run_bind, getMap_run m1]
              simp only [Result.andThen]
              rw [Sem.run_bind, checkKey_run hc u2]
              simp only [Result.andThen]
              rw [Sem.run_bind, findKey_run u2 hf]
              simp only [Result.andThen]
              exact setMap_run _ m1
            rw [Sem.run_bind, hrun]
            rfl
          · cases h
      · cases h
    · cases h
end
end Go.Proofs.Ytabliglgeiajlaa.AM
