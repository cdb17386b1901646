/- The abstract machine: operations that write nothing, one by one. -/
import Derived.Test.YtabliglgeiajlaaAm11
set_option linter.unusedSimpArgs false
set_option linter.unusedVariables false
namespace Go.Proofs.Ytabliglgeiajlaa.AM
open Go Go.RowKit

def getE (xs : List (List D)) (n : Nat) : List D := (xs[n]?).getD []
def byteAt (s : ByteArray) (i : Int) : Int := ((s.data.toList.getD i.toNat 0).toNat : Int)
def isLive (σ : List Slot) (k g : Nat) : Option Ent :=
  match getC σ k with
  | .ent e => match beqN e.gen g with
    | true => some e
    | false => none
  | _ => none
theorem isLive_spec {σ : List Slot} {k g : Nat} {e : Ent} (h : isLive σ k g = some e) : σ[k]? = some (.ent e) ∧ e.gen = g ∧ e.kd = .cells := by
  unfold isLive at h
  cases hs : getC σ k with
  | free => rw [hs] at h; cases h
  | dead => rw [hs] at h; cases h
  | ent e' =>
    rw [hs] at h
    simp only at h
    cases hg : beqN e'.gen g with
    | false => rw [hg] at h; cases h
    | true => rw [hg] at h; cases h; exact ⟨getS_ent (getC_ent hs).1, Nat.eq_of_beq_eq_true hg, (getC_ent hs).2⟩

def fieldOf (ti : Option TyI) (f : Nat) : Option Field :=
  match ti with
  | some i => match i.und with
    | .struct fs => fs[f]?
    | _ => none
  | none => none

def fieldAddrD (P : Program) (s : TypeId) (x : D) (f : Nat) (σ : List Slot) : Option (Prop × D × List Nat) :=
  match fieldOf (tyI P s) f with
  | none => none
  | some fl =>
    match tyI P fl.type with
    | none => none
    | some fi =>
      match x with
      | .ptr k g o => match isLive σ k g with
        | some _ => some (fi.size ≠ 0, .ptr k g (o + fl.offset), [k])
        | none => none
      | .fad ds => some (fi.size ≠ 0, .fad (ds.drop fl.offset), [])
      | _ => none
def fieldD (P : Program) (s : TypeId) (x : D) (f : Nat) : Option (Prop × D) :=
  match fieldOf (tyI P s) f with
  | none => none
  | some fl =>
    match tyI P fl.type with
    | none => none
    | some fi =>
      match x with
      | .agg ds =>
        match isAggD fi.und with
        | true => some (fl.offset + fi.size ≤ ds.length, .agg ((ds.drop fl.offset).take fi.size))
        | false => some (fl.offset < ds.length, getF ds fl.offset)
      | _ => none
def indexAddrD (P : Program) (t : TypeId) (x ix : D) (σ : List Slot) : Option (Prop × D × List Nat) :=
  match tyI P t with
  | none => none
  | some ti =>
    match ti.und with
    | .slice e =>
      match tyI P e with
      | none => none
      | some ei =>
        match ix with
        | .v (.int _ i) =>
          match x with
          | .sl _ sz xs => some (sz = ei.size ∧ 0 ≤ i ∧ i < (xs.length : Int), .fad (getE xs i.toNat), [])
          | .ref k g n => match isLive σ k g with
            | some _ => some (0 ≤ i ∧ i < (n : Int), .ptr k g (i.toNat * ei.size), [k])
            | none => none
          | _ => none
        | _ => none
    | _ => none
def indexD (x ix : D) (ti : Option TyI) : Option (Prop × D) :=
  match ti with
  | none => none
  | some i => match i.und with
    | .string => match x with
      | .v (.string s) => match ix with
        | .v (.int _ n) => some (0 ≤ n ∧ n < (s.size : Int), .v (.int .u8 (byteAt s n)))
        | _ => none
      | _ => none
    | _ => none
def sliceStr (s : ByteArray) (lo hi : Option D) (mx : Option D) : Option (Prop × D) :=
  match mx with
  | some _ => none
  | none =>
    match boundD lo 0, boundD hi s.size with
    | some l, some h => some (0 ≤ l ∧ l ≤ h ∧ h ≤ (s.size : Int), .v (.string (s.extract l.toNat h.toNat)))
    | _, _ => none
def sliceD (P : Program) (t : TypeId) (x : D) (lo hi mx : Option D) (σ : List Slot) : Option (Prop × D × List Nat) :=
  match tyI P t with
  | none => none
  | some ti =>
    match ti.und with
    | .string => match x with
      | .v (.string s) => match sliceStr s lo hi mx with
        | some (c, d) => some (c, d, [])
        | none => none
      | _ => none
    | .slice e =>
      match tyI P e with
      | none => none
      | some ei =>
        match x with
        | .sl full sz xs =>
          match mx with
          | none => match boundD lo 0, boundD hi xs.length with
            | some l, some h => some (sz = ei.size ∧ 0 ≤ l ∧ l ≤ h ∧ h ≤ (xs.length : Int), .sl false sz (sub xs l.toNat h.toNat), [])
            | _, _ => none
          | some m => match boundD lo 0, boundD hi xs.length, boundD (some m) 0 with
            | some l, some h, some m => some (sz = ei.size ∧ 0 ≤ l ∧ l ≤ h ∧ h ≤ (xs.length : Int) ∧ m = h, .sl true sz (sub xs l.toNat h.toNat), [])
            | _, _, _ => none
        | .v (.slice none 0 0) => -- nil stays nil
          match mx with
          | none => match boundD lo 0, boundD hi 0 with
            | some l, some h => some (0 ≤ l ∧ l ≤ h ∧ h ≤ 0, .v (.slice none 0 0), [])
            | _, _ => none
          | some m => match boundD lo 0, boundD hi 0, boundD (some m) 0 with
            | some l, some h, some m => some (0 ≤ l ∧ l ≤ h ∧ h ≤ 0 ∧ m = h, .v (.slice none 0 0), [])
            | _, _, _ => none
        | .ref k g n =>
          match mx with
          | none => match lo with
            | none => match boundD hi n with
              | some h => match isLive σ k g with
                | some _ => some (0 ≤ h ∧ h ≤ (n : Int), .ref k g h.toNat, [k])
                | none => none
              | none => none
            | some lo' => match boundD (some lo') 0, boundD hi n with
              | some l, some h => match isLive σ k g with
                | some en => some (0 ≤ l ∧ l ≤ h ∧ 0 < ei.size ∧ en.arr = some ei.size ∧ h.toNat * ei.size ≤ en.cells.length, .refo k g (l.toNat * ei.size) (h.toNat - l.toNat), [k])
                | none => none
              | _, _ => none
          | some m => match boundD lo 0, boundD hi n, boundD (some m) 0 with
            | some l, some h, some m => match isLive σ k g with
              | some en => some (0 ≤ l ∧ l ≤ h ∧ h ≤ m ∧ 0 < ei.size ∧ en.arr = some ei.size ∧ m.toNat * ei.size ≤ en.cells.length, .any, [k])
              | none => none
            | _, _, _ => none
        | _ => none
    | _ => none
def extractD (x : D) (ix : Nat) : Option (Prop × D) :=
  match x with
  | .tup ds => some (ix < ds.length, getF ds ix)
  | _ => none
def nilCheckD (x : D) (σ : List Slot) : Option (D × List Nat) :=
  match x with
  | .ptr k g o => match isLive σ k g with
    | some _ => some (.ptr k g o, [k])
    | none => none
  | .fad ds => some (.fad ds, [])
  | .fn f caps => some (.fn f caps, [])
  | _ => none
def lenD (ti : Option TyI) (x : D) (σ : List Slot) : Option (D × List Nat) :=
  match ti with
  | none => none
  | some i =>
    match i.und with
    | .string => match x with
      | .v (.string s) => some (.v (.int .i64 s.size), [])
      | _ => none
    | .slice _ => match x with
      | .sl _ _ xs => some (.v (.int .i64 xs.length), [])
      | .v (.slice _ n _) => some (.v (.int .i64 n), [])
      | .ref k g n => match isLive σ k g with
        | some _ => some (.v (.int .i64 n), [k])
        | none => none
      | _ => none
    | _ => none
def minD (x y : D) : Option D :=
  match x with
  | .v (.int k a) => match y with
    | .v (.int _ b) => some (.v (.int k (if b < a then b else a)))
    | _ => none
  | _ => none
def maxD (x y : D) : Option D :=
  match x with
  | .v (.int k a) => match y with
    | .v (.int _ b) => some (.v (.int k (if b > a then b else a)))
    | _ => none
  | _ => none

theorem lift_value {P : Program} {s : Sem Value} {v : Value} {w w' : World} (h : s.run P w = .ok v w') : (do pure (Next.value (← s)) : Sem Next).run P w = .ok (.value v) w' := by
  rw [Sem.run_bind, h]; rfl

section
variable {P : Program} {o : Oper} {opd : Operand → D} {σ : List Slot}

theorem ok_move {x : Operand} (ho : o.op = .move x) : PureOk P o opd σ [] (opd x) := by
  intro B σ' ρ ev w hp hx _
  exact ⟨ev x, by simp only [execOp, ho]; rfl, hx x (by rw [ho]; simp [Op.operands])⟩
theorem ok_assign {x : Operand} (ho : o.op = .assign x) : PureOk P o opd σ [] (opd x) := by
  intro B σ' ρ ev w hp hx _
  exact ⟨ev x, by simp only [execOp, ho]; rfl, hx x (by rw [ho]; simp [Op.operands])⟩
theorem ok_pick {c x y : Operand} {t : Bool} (ho : o.op = .pick c x y) (hc : opd c = .v (.bool t)) : PureOk P o opd σ [] (match t with | true => opd x | false => opd y) := by
  intro B σ' ρ ev w hp hx _
  have h1 := hx c (by rw [ho]; simp [Op.operands])
  rw [hc] at h1
  have e := h1.v_inv
  refine ⟨if t then ev x else ev y, ?_, ?_⟩
  · simp only [execOp, ho, e, asBool]; rfl
  · cases t
    · exact hx y (by rw [ho]; simp [Op.operands])
    · exact hx x (by rw [ho]; simp [Op.operands])
theorem ok_bin {op : BinOp} {t yt : TypeId} {x y : Operand} {c : Prop} {v : Value} (ho : o.op = .binOp op t x y yt) (h : binD (tyI P t) (eqTy P t) op (opd x) (opd y) = some (c, v)) (hc : c) : PureOk P o opd σ [] (.v v) := by
  intro B σ' ρ ev w hp hx _
  have h1 := hx x (by rw [ho]; simp [Op.operands])
  have h2 := hx y (by rw [ho]; simp [Op.operands])
  unfold binD at h
  split at h
  · rename_i a ha
    split at h
    · rename_i b hb
      rw [ha] at h1
      rw [hb] at h2
      refine ⟨v, ?_, .fro _ _ (.v _)⟩
      simp only [execOp, ho]
      refine lift_value ?_
      rw [h1.v_inv, h2.v_inv]
      exact valBin_sound h hc w x y
    · cases h
  · rename_i ds hds
    split at h
    · rename_i es hes
      rw [hds] at h1
      rw [hes] at h2
      obtain ⟨cs, e1, l1, r1⟩ := h1.agg_inv
      obtain ⟨bs, e2, l2, r2⟩ := h2.agg_inv
      refine ⟨v, ?_, .fro _ _ (.v _)⟩
      simp only [execOp, ho]
      refine lift_value ?_
      rw [e1, e2]
      exact aggBin_sound (R := Rp B σ' ρ w) (fun x u h => h.v_inv) h l1 l2 r1 r2 w x y
    · cases h
  · rename_i full sz xs hxd
    split at h
    · rename_i n' c' hyd
      rw [hxd] at h1
      rw [hyd] at h2
      split at h
      · cases h
      · rename_i hnl
        split at h
        · rename_i i hi
          have hsl := h1.sl_inv
          refine ⟨v, ?_, .fro _ _ (.v _)⟩
          simp only [execOp, ho]
          refine lift_value ?_
          rw [h2.v_inv]
          generalize ev x = u at hsl
          cases hsl with
          | sl0 => simp [isNilL] at hnl
          | sl _ _ _ b o' cap n g hn hpos hcap hf hb hw hcell hr => exact nilBin_sound (A := some ⟨b, o', none⟩) hi rfl h w x y
        · cases h
    · cases h
  · cases h
theorem ok_un {op : UnOp} {t : TypeId} {x : Operand} {v : Value} (ho : o.op = .unOp op t x) (h : unD op (opd x) = some v) : PureOk P o opd σ [] (.v v) := by
  intro B σ' ρ ev w hp hx _
  have h1 := hx x (by rw [ho]; simp [Op.operands])
  unfold unD at h
  split at h
  · rename_i b hb
    rw [hb] at h1
    split at h
    · cases h
      refine ⟨_, ?_, .fro _ _ (.v _)⟩
      simp only [execOp, ho, h1.v_inv]
      exact lift_value rfl
    · cases h
  · rename_i k n hb
    rw [hb] at h1
    split at h
    · cases h
      refine ⟨_, ?_, .fro _ _ (.v _)⟩
      simp only [execOp, ho, h1.v_inv]
      exact lift_value rfl
    · cases h
  · cases h
theorem ok_conv {src dst : TypeId} {x : Operand} {v : Value} (ho : o.op = .convert src dst x) (h : convD (tyI P src) (tyI P dst) (opd x) = some v) : PureOk P o opd σ [] (.v v) := by
  intro B σ' ρ ev w hp hx _
  have h1 := hx x (by rw [ho]; simp [Op.operands])
  unfold convD at h
  split at h
  · rename_i si i hs hd
    have us := tyI.underlying hs w
    have ud := tyI.underlying hd w
    refine ⟨v, ?_, .fro _ _ (.v _)⟩
    simp only [execOp, ho]
    refine lift_value ?_
    split at h
    · rename_i k n hb
      rw [hb] at h1
      rw [h1.v_inv]
      unfold convert
      rw [Sem.run_bind, us]
      simp only [Result.andThen]
      rw [Sem.run_bind, ud]
      simp only [Result.andThen]
      split at h
      · rename_i k' hu; cases h; rw [hu]; rfl
      · rename_i hu
        cases h
        rw [hu]
        rfl
      · cases h
    · rename_i s hb
      rw [hb] at h1
      rw [h1.v_inv]
      unfold convert
      rw [Sem.run_bind, us]
      simp only [Result.andThen]
      rw [Sem.run_bind, ud]
      simp only [Result.andThen]
      split at h
      · rename_i hu; cases h; rw [hu]; rfl
      · cases h
    · cases h
  · cases h
theorem ok_load {t : TypeId} {x : Operand} {c : Prop} {d : D} {rd : List Nat} (ho : o.op = .load t x) (h : loadD (tyI P t) (opd x) σ = some (c, d, rd)) (hc : c) : PureOk P o opd σ rd d := by
  intro B σ' ρ ev w hp hx hrd
  have h1 := hx x (by rw [ho]; simp [Op.operands])
  -- the store is the same where it is looked at
  have h' : loadD (tyI P t) (opd x) σ' = some (c, d, rd) := by
    unfold loadD at h ⊢
    split
    · rename_i ht; rw [ht] at h; cases h
    · rename_i i ht
      rw [ht] at h
      simp only at h
      split
      · rename_i k g o' hd
        rw [hd] at h
        simp only at h
        have hk : getC σ' k = getC σ k := by
          refine getC_congr ?_
          rw [getS_eq, getS_eq, hrd k (by
            cases hs : getC σ k with
            | free => rw [hs] at h; cases h
            | dead => rw [hs] at h; cases h
            | ent e =>
              rw [hs] at h
              simp only at h
              split at h
              · split at h <;> (simp only [Option.some.injEq, Prod.mk.injEq] at h; rw [← h.2.2]; simp)
              · cases h)]
        rw [hk]; exact h
      · rename_i ds hd
        rw [hd] at h; exact h
      · rename_i hne1 hne2
        exfalso
        split at h
        · rename_i k g o' hd; exact hne1 k g o' hd
        · rename_i ds hd; exact hne2 ds hd
        · cases h
  -- the address
  have ha : ∃ ad, ev x = .pointer (some ad) := by
    unfold loadD at h'
    split at h'
    · cases h'
    · split at h'
      · rename_i i hi dd k g o' hdd
        split at h'
        · rename_i e he
          split at h'
          · rename_i hg
            have hg' : e.gen = g := Nat.eq_of_beq_eq_true hg
            rw [hdd] at h1
            exact ⟨_, h1.ptr_inv.2 _ _ (hg' ▸ Tb.of (getS_ent (getC_ent he).1))⟩
          · cases h'
        · cases h'
      · rename_i ds hdd
        rw [hdd] at h1
        have := h1.fad_inv
        generalize ev x = u at this
        cases this with
        | fad _ b o g _ _ _ => exact ⟨_, rfl⟩
      · cases h'
  obtain ⟨ad, had⟩ := ha
  obtain ⟨v, h2, h3⟩ := loadD_sound h' hc hp h1 had
  refine ⟨v, ?_, h3⟩
  simp only [execOp, ho]
  refine lift_value ?_
  simp only [Instr.loadAt, Instr.sureAddr, had, Sem.run_bind]
  exact h2
theorem ok_extract {x : Operand} {ix : Nat} {c : Prop} {d : D} (ho : o.op = .extract x ix) (h : extractD (opd x) ix = some (c, d)) (hc : c) : PureOk P o opd σ [] d := by
  intro B σ' ρ ev w hp hx _
  have h1 := hx x (by rw [ho]; simp [Op.operands])
  unfold extractD at h
  split at h
  · rename_i ds hd
    simp only [Option.some.injEq, Prod.mk.injEq] at h
    obtain ⟨rfl, rfl⟩ := h
    rw [hd] at h1
    obtain ⟨cs, hev, hl, hr⟩ := h1.tup_inv
    have hlt : ix < cs.size := by omega
    refine ⟨cs[ix], ?_, hr ix _ _ (getF_some hc) (by simp [hlt])⟩
    simp only [execOp, ho, hev]
    refine lift_value ?_
    simp [Instr.extract, hlt]
  · cases h
theorem ok_makeBnd {f : Nat} {first : Array Operand} (ho : o.op = .makeFunc (.func f) first #[]) : PureOk P o opd σ [] (.bnd f (first.toList.map opd)) := by
  intro B σ' ρ ev w hp hx _
  refine ⟨.func (.func f) (first.map ev) #[], ?_, .bnd f _ _ (by simp) (fun j d u hd hu => ?_)⟩
  · simp only [execOp, ho]
    exact lift_value (by simp [Instr.makeFunc])
  · obtain ⟨x, hx', rfl⟩ := map_get hd
    rw [Array.getElem?_map] at hu
    have hx'' : first[j]? = some x := by simpa using hx'
    rw [hx''] at hu
    simp only [Option.map_some, Option.some.injEq] at hu
    subst hu
    exact hx x (by rw [ho]; simp [Op.operands]; exact Array.mem_of_getElem? hx'')
theorem ok_makeFunc {f : Nat} {caps : Array Operand} (ho : o.op = .makeFunc (.func f) #[] caps) : PureOk P o opd σ [] (.fn f (caps.toList.map opd)) := by
  intro B σ' ρ ev w hp hx _
  refine ⟨.func (.func f) #[] (caps.map ev), ?_, .fn f _ _ (by simp) (fun j d u hd hu => ?_)⟩
  · simp only [execOp, ho]
    exact lift_value (by simp [Instr.makeFunc, Pure.pure, Sem.run])
  · obtain ⟨y, hy, rfl⟩ := map_get hd
    have hy' : caps[j]? = some y := by simpa using hy
    rw [Array.getElem?_map, hy'] at hu
    simp only [Option.map_some, Option.some.injEq] at hu
    subst hu
    exact hx y (by rw [ho]; simp [Op.operands, Array.mem_of_getElem? hy'])
end
end Go.Proofs.Ytabliglgeiajlaa.AM
