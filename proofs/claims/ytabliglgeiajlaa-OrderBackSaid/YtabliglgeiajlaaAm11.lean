/- The abstract machine: operations that write nothing. -/
import Derived.Test.YtabliglgeiajlaaAm10
import Derived.Shelf.Abstract
import Derived.Laws.StructEq
set_option linter.unusedSimpArgs false
set_option linter.unusedVariables false
namespace Go.Proofs.Ytabliglgeiajlaa.AM
open Go Go.RowKit

/-- An operation that comes to a value and leaves the world alone. -/
def PureOk (P : Program) (o : Oper) (opd : Operand → D) (σ : List Slot) (rd : List Nat) (val : D) : Prop :=
  ∀ (B : Base) (σ' : List Slot) (ρ : Nat → Nat × Nat) (ev : Operand → Value) (w : World), Hp B σ' ρ w → (∀ x ∈ o.op.operands, Rp B σ' ρ w (opd x) (ev x)) → (∀ k ∈ rd, σ'[k]? = σ[k]?) →
    ∃ u, (execOp ev o).run P w = .ok (.value u) w ∧ Rp B σ' ρ w val u

theorem PureOk.opS {P : Program} {ro : Option Nat} {o : Oper} {opd : Operand → D} {σ : List Slot} {rd : List Nat} {val : D} {slot : Nat} (h : PureOk P o opd σ rd val) (hd : ∀ c, o.op ≠ .defer c) : OpS P ro o opd σ rd slot ⟨val, []⟩ := by
  intro B st a w hopd hσ hrel next Q hnext
  obtain ⟨ρ, hp, hfr, hmk⟩ := hrel
  obtain ⟨u, hrun, hu⟩ := h B st.σ ρ a.eval w hp (fun x hx => by rw [← hopd x hx]; exact hfr.eval x) (fun k hk => hσ k (.inr hk))
  refine ⟨fun _ _ => trivial, ?_⟩
  rw [Oper.semAt_eq _ _ _ hd, hrun, Oper.uponIn_value]
  exact hnext _ _ ⟨ρ, hp, FrOk.put (fr := st.fr) hfr o.dst hu, hmk.put o.dst u⟩

/-! ### Numbers, texts, bools -/
def beqK : IntKind → IntKind → Bool
  | .i8, .i8 => true | .i16, .i16 => true | .i32, .i32 => true | .i64, .i64 => true
  | .u8, .u8 => true | .u16, .u16 => true | .u32, .u32 => true | .u64, .u64 => true
  | _, _ => false
theorem beqK_eq {a b : IntKind} (h : beqK a b = true) : a = b := by cases a <;> cases b <;> first | rfl | cases h
def ibits (op : BinOp) (k : IntKind) (a b : Int) : Int :=
  let x := BitVec.ofInt k.bits a
  let y := BitVec.ofInt k.bits b
  match op with
  | .and => k.wrap (x &&& y).toNat
  | .or => k.wrap (x ||| y).toNat
  | .xor => k.wrap (x ^^^ y).toNat
  | .andNot => k.wrap (x &&& ~~~y).toNat
  | _ => 0
def ishl (k : IntKind) (a b : Int) : Int := k.wrap (a * 2 ^ min b.toNat k.bits)
def ishr (k : IntKind) (a b : Int) : Int := a.fdiv (2 ^ min b.toNat k.bits)
def intBin (op : BinOp) (k : IntKind) (a b : Int) : Option (Prop × Value) :=
  match op with
  | .add => some (True, .int k (k.wrap (a + b)))
  | .sub => some (True, .int k (k.wrap (a - b)))
  | .mul => some (True, .int k (k.wrap (a * b)))
  | .quo => some (b ≠ 0, .int k (k.wrap (a.tdiv b)))
  | .rem => some (b ≠ 0, .int k (a.tmod b))
  | .and => some (True, .int k (ibits .and k a b))
  | .or => some (True, .int k (ibits .or k a b))
  | .xor => some (True, .int k (ibits .xor k a b))
  | .andNot => some (True, .int k (ibits .andNot k a b))
  | .eql => some (True, .bool (a == b))
  | .neq => some (True, .bool (a != b))
  | .lss => some (True, .bool (decide (a < b)))
  | .leq => some (True, .bool (decide (a ≤ b)))
  | .gtr => some (True, .bool (decide (b < a)))
  | .geq => some (True, .bool (decide (b ≤ a)))
  | _ => none
def strBin (op : BinOp) (a b : ByteArray) : Option (Prop × Value) :=
  match op with
  | .add => some (a.size + b.size ≤ 9223372036854775807, .string (a ++ b))
  | .eql => some (True, .bool (a.toList == b.toList))
  | .neq => some (True, .bool (!(a.toList == b.toList)))
  | .lss => some (True, .bool (Op.bytesLess a.toList b.toList))
  | .leq => some (True, .bool (Op.bytesLess a.toList b.toList || a.toList == b.toList))
  | .gtr => some (True, .bool (!(Op.bytesLess a.toList b.toList || a.toList == b.toList)))
  | .geq => some (True, .bool (!(Op.bytesLess a.toList b.toList)))
  | _ => none
def boolBin (op : BinOp) (u : TypeDesc) (a b : Bool) : Option (Prop × Value) :=
  match u with
  | .bool => match op with
    | .eql => some (True, .bool (a == b))
    | .neq => some (True, .bool (!(a == b)))
    | _ => none
  | _ => none
def isNilL {α : Type} : List α → Bool
  | [] => true
  | _ :: _ => false
def nilBin (op : BinOp) (u : TypeDesc) (b : Bool) : Option (Prop × Value) :=
  match u with
  | .slice _ => match op with
    | .eql => some (True, .bool b)
    | .neq => some (True, .bool (!b))
    | _ => none
  | _ => none
def valBin (ti : Option TyI) (op : BinOp) (x y : Value) : Option (Prop × Value) :=
  match x with
  | .int k a => match y with
    | .int k' b => match op with
      | .shl => some (0 ≤ b, .int k (ishl k a b))
      | .shr => some (0 ≤ b, .int k (ishr k a b))
      | _ => match beqK k k' with
        | true => intBin op k a b
        | false => none
    | _ => none
  | .string a => match y with
    | .string b => strBin op a b
    | _ => none
  | .bool a => match y with
    | .bool b => match ti with
      | some i => boolBin op i.und a b
      | none => none
    | _ => none
  | .slice A _ _ => match y with
    | .slice none _ _ => match ti with
      | some i => nilBin op i.und A.isNone
      | none => none
    | _ => none
  | _ => none
theorem nilBin_sound {P : Program} {t : TypeId} {i : TyI} {op : BinOp} {A B : Option Addr} {n c n' c' : Nat} {v : Value} {p : Prop} (hi : tyI P t = some i) (hB : B = none) (h : nilBin op i.und A.isNone = some (p, v)) (w : World) (xo yo : Operand) :
    (do eqGuard op t xo yo (.slice A n c) (.slice B n' c'); binOp op t (.slice A n c) (.slice B n' c') : Sem Value).run P w = .ok v w := by
  subst hB
  have hg : (eqGuard op t xo yo (.slice A n c) (.slice none n' c')).run P w = .ok () w := by unfold eqGuard; split <;> rfl
  rw [Sem.run_bind, hg]
  simp only [Result.andThen]
  unfold nilBin at h
  split at h
  · rename_i e hu
    obtain ⟨_, _, hun, _⟩ := tyI.spec hi
    rw [hu] at hun
    have he : (Op.equal t (.slice A n c) (.slice none n' c')).run P w = .ok A.isNone w := by
      have key : ∀ d, (Op.equalIn (d + 1) t (.slice A n c) (.slice none n' c')).run P w = .ok A.isNone w := fun d => by
        cases A <;> simp [Op.equalIn, run_underlying hun]
      exact key 9999
    split at h
    · cases h
      show (Op.equal t (.slice A n c) (.slice none n' c') >>= fun r => pure (Value.bool r) : Sem Value).run P w = _
      rw [Sem.run_bind, he]; rfl
    · cases h
      show (Op.equal t (.slice A n c) (.slice none n' c') >>= fun r => pure (Value.bool (!r)) : Sem Value).run P w = _
      rw [Sem.run_bind, he]; rfl
    · cases h
  · cases h

theorem valBin_sound {P : Program} {t : TypeId} {op : BinOp} {x y v : Value} {c : Prop} (h : valBin (tyI P t) op x y = some (c, v)) (hc : c) (w : World) (xo yo : Operand) :
    (do eqGuard op t xo yo x y; binOp op t x y : Sem Value).run P w = .ok v w := by
  unfold valBin at h
  split at h
  · rename_i k a
    split at h
    · rename_i k' b
      have hg : (eqGuard op t xo yo (.int k a) (.int k' b)).run P w = .ok () w := by unfold eqGuard; split <;> rfl
      rw [Sem.run_bind, hg]
      simp only [Result.andThen]
      split at h
      · simp only [Option.some.injEq, Prod.mk.injEq] at h
        obtain ⟨rfl, rfl⟩ := h
        simp [binOp, Op.shift, ishl, show ¬ b < 0 from by omega]
      · simp only [Option.some.injEq, Prod.mk.injEq] at h
        obtain ⟨rfl, rfl⟩ := h
        simp [binOp, Op.shift, ishr, show ¬ b < 0 from by omega]
      · split at h
        · rename_i hk
          have := beqK_eq hk
          subst this
          unfold intBin at h
          split at h <;> first
            | (simp only [Option.some.injEq, Prod.mk.injEq] at h; obtain ⟨rfl, rfl⟩ := h; simp [binOp, Op.intArith, Op.intDiv, Op.intBits, Op.intCmp, ibits, hc]; done)
            | (simp only [Option.some.injEq, Prod.mk.injEq] at h; obtain ⟨rfl, rfl⟩ := h; simp [binOp, Op.intArith, Op.intDiv, Op.intBits, Op.intCmp, ibits])
            | cases h
        · cases h
    · cases h
  · rename_i a
    split at h
    · rename_i b
      have hg : (eqGuard op t xo yo (.string a) (.string b)).run P w = .ok () w := by unfold eqGuard; split <;> rfl
      rw [Sem.run_bind, hg]
      simp only [Result.andThen]
      unfold strBin at h
      split at h
      · simp only [Option.some.injEq, Prod.mk.injEq] at h
        obtain ⟨rfl, rfl⟩ := h
        have : ¬ (((a.size + b.size : Nat) : Int) > IntKind.i64.max) := by simp [IntKind.max, IntKind.signed, IntKind.bits]; omega
        simp only [binOp, Op.stringOp, if_neg this]
        rfl
      all_goals first
        | (simp only [Option.some.injEq, Prod.mk.injEq] at h; obtain ⟨rfl, rfl⟩ := h; simp [binOp, Op.stringOp]; done)
        | cases h
    · cases h
  · rename_i a
    split at h
    · rename_i b
      have hg : (eqGuard op t xo yo (.bool a) (.bool b)).run P w = .ok () w := by unfold eqGuard; split <;> rfl
      rw [Sem.run_bind, hg]
      simp only [Result.andThen]
      split at h
      · rename_i i hi
        unfold boolBin at h
        split at h
        · rename_i hu
          obtain ⟨_, _, hun, _⟩ := tyI.spec hi
          rw [hu] at hun
          have e : (Op.equal t (.bool a) (.bool b)).run P w = .ok (a == b) w := run_equalIn_bool w 9999 t a b hun
          split at h
          · simp only [Option.some.injEq, Prod.mk.injEq] at h
            obtain ⟨rfl, rfl⟩ := h
            show (Op.equal t (.bool a) (.bool b) >>= fun r => pure (Value.bool r) : Sem Value).run P w = _
            rw [Sem.run_bind, e]
            rfl
          · simp only [Option.some.injEq, Prod.mk.injEq] at h
            obtain ⟨rfl, rfl⟩ := h
            show (Op.equal t (.bool a) (.bool b) >>= fun r => pure (Value.bool (!r)) : Sem Value).run P w = _
            rw [Sem.run_bind, e]
            rfl
          · cases h
        · cases h
      · cases h
    · cases h
  · rename_i A n c
    split at h
    · split at h
      · rename_i i hi
        exact nilBin_sound hi rfl h w xo yo
      · cases h
    · cases h
  · cases h

/-! ### Structs are compared -/
inductive EK where
  | int
  | bool
  | str
def ekOf (P : Program) (t : TypeId) : Option EK := match P.underlying t with
  | some (.int _) => some .int
  | some .bool => some .bool
  | some .string => some .str
  | _ => none
def eqFs (P : Program) : List Field → Option (List (Nat × EK))
  | [] => some []
  | f :: fs => if f.name = "_" then none else match ekOf P f.type, eqFs P fs with
    | some k, some l => some ((f.offset, k) :: l)
    | _, _ => none
/-- The places that are compared of a struct's values. -/
def eqTy (P : Program) (t : TypeId) : Option (List (Nat × EK)) :=
  match P.eqGuardType P.depth t, P.stoodInHeld t, P.underlying t with
  | false, false, some (.struct fs) => eqFs P fs.toList
  | _, _, _ => none
def eqV (k : EK) (a b : D) : Option Bool := match k with
  | .int => match a with
    | .v (.int ka x) => match b with
      | .v (.int kb y) => match beqK ka kb with
        | true => some (x == y)
        | false => none
      | _ => none
    | _ => none
  | .bool => match a with
    | .v (.bool x) => match b with
      | .v (.bool y) => some (x == y)
      | _ => none
    | _ => none
  | .str => match a with
    | .v (.string x) => match b with
      | .v (.string y) => some (x.toList == y.toList)
      | _ => none
    | _ => none
def eqOffs (ds es : List D) : List (Nat × EK) → Option Bool
  | [] => some true
  | q :: l => match eqV q.2 (getF ds q.1) (getF es q.1) with
    | none => none
    | some r => match eqOffs ds es l with
      | none => none
      | some s => some (r && s)
def aggBin (ot : Option (List (Nat × EK))) (op : BinOp) (ds es : List D) : Option (Prop × Value) := match ot with
  | none => none
  | some l => match eqOffs ds es l with
    | none => none
    | some r => match op with
      | .eql => some (True, .bool r)
      | .neq => some (True, .bool (!r))
      | _ => none
theorem getF_v {l : List D} {n : Nat} {x : Value} (h : getF l n = .v x) : l[n]? = some (.v x) := by
  induction l generalizing n with
  | nil => cases h
  | cons d l ih => cases n with
    | zero => simp only [getF] at h; simp [h]
    | succ n => simp only [getF] at h; simpa using ih h
theorem eqV_sound {P : Program} {d : Nat} {t : TypeId} {k : EK} {a b : D} {r : Bool} (hk : ekOf P t = some k) (h : eqV k a b = some r) :
    ∃ x y, a = .v x ∧ b = .v y ∧ (∀ w, (Op.equalIn (d + 1) t x y).run P w = .ok r w) ∧ ∀ (cs : Array Value) (n : Nat) (u : Value) w, cs[n]? = some u → (part t cs n).run P w = .ok u w := by
  have hpart : ∀ T, P.underlying t = some T → (isAggD T = false) → ∀ (cs : Array Value) (n : Nat) (u : Value) w, cs[n]? = some u → (part t cs n).run P w = .ok u w := by
    intro T hT ha cs n u w hu
    cases T <;> first | (simp [isAggD] at ha; done) | simp [part, isAgg, run_underlying hT, hu]
  unfold ekOf at hk
  split at hk
  · rename_i k' hu
    cases hk
    simp only [eqV] at h
    split at h
    · split at h
      · rename_i ka x _ kb y
        split at h
        · rename_i hb
          cases h
          have := beqK_eq hb
          subst this
          exact ⟨_, _, rfl, rfl, fun w => run_equalIn_int w d t ka k' x y hu, hpart _ hu rfl⟩
        · cases h
      · cases h
    · cases h
  · rename_i hu
    cases hk
    simp only [eqV] at h
    split at h
    · split at h
      · cases h
        exact ⟨_, _, rfl, rfl, fun w => run_equalIn_bool' w d t _ _ hu, hpart _ hu rfl⟩
      · cases h
    · cases h
  · rename_i hu
    cases hk
    simp only [eqV] at h
    split at h
    · split at h
      · cases h
        exact ⟨_, _, rfl, rfl, fun w => run_equalIn_string w d t _ _ hu, hpart _ hu rfl⟩
      · cases h
    · cases h
  · cases hk
theorem eqOffs_sound {P : Program} {d : Nat} {R : D → Value → Prop} (hR : ∀ x u, R (.v x) u → u = x) {ds es : List D} {cs bs : Array Value}
    (h1 : ds.length = cs.size) (h2 : es.length = bs.size) (r1 : ∀ (j : Nat) (d : D) (u : Value), ds[j]? = some d → cs[j]? = some u → R d u) (r2 : ∀ (j : Nat) (d : D) (u : Value), es[j]? = some d → bs[j]? = some u → R d u) (w : World) :
    ∀ {fs : List Field} {l : List (Nat × EK)} {r : Bool}, eqFs P fs = some l → eqOffs ds es l = some r → (Op.eqFields (d + 1) cs bs fs).run P w = .ok r w := by
  intro fs
  induction fs with
  | nil =>
    intro l r hl hr
    simp only [eqFs, Option.some.injEq] at hl
    subst hl
    simp only [eqOffs, Option.some.injEq] at hr
    subst hr
    rfl
  | cons f fs ih =>
    intro l r hl hr
    unfold eqFs at hl
    split at hl
    · cases hl
    · rename_i hn
      split at hl
      · rename_i k l' hk hl'
        cases hl
        simp only [eqOffs] at hr
        split at hr
        · cases hr
        · rename_i b hb
          split at hr
          · cases hr
          · rename_i s hs
            cases hr
            obtain ⟨x, y, hx, hy, he, hp⟩ := eqV_sound (d := d) hk hb
            have gx := getF_v hx
            have gy := getF_v hy
            have lx := (List.getElem?_eq_some_iff.1 gx).1
            have ly := (List.getElem?_eq_some_iff.1 gy).1
            have cx : cs[f.offset]? = some x := by
              have hc : cs[f.offset]? = some cs[f.offset] := Array.getElem?_eq_getElem (by omega)
              rw [hc, hR _ _ (r1 _ _ _ gx hc)]
            have cy : bs[f.offset]? = some y := by
              have hc : bs[f.offset]? = some bs[f.offset] := Array.getElem?_eq_getElem (by omega)
              rw [hc, hR _ _ (r2 _ _ _ gy hc)]
            simp only [Op.eqFields]
            rw [if_pos hn, Sem.run_bind, hp cs _ _ w cx]
            simp only [Result.andThen]
            rw [Sem.run_bind, hp bs _ _ w cy]
            simp only [Result.andThen]
            rw [Sem.run_bind, he w]
            simp only [Result.andThen]
            cases b with
            | false => simp
            | true => simpa using ih hl' hs
      · cases hl
theorem aggBin_sound {P : Program} {t : TypeId} {op : BinOp} {R : D → Value → Prop} (hR : ∀ x u, R (.v x) u → u = x) {ds es : List D} {cs bs : Array Value} {v : Value} {c : Prop} (h : aggBin (eqTy P t) op ds es = some (c, v))
    (h1 : ds.length = cs.size) (h2 : es.length = bs.size) (r1 : ∀ (j : Nat) (d : D) (u : Value), ds[j]? = some d → cs[j]? = some u → R d u) (r2 : ∀ (j : Nat) (d : D) (u : Value), es[j]? = some d → bs[j]? = some u → R d u) (w : World) (xo yo : Operand) :
    (do eqGuard op t xo yo (.agg cs) (.agg bs); binOp op t (.agg cs) (.agg bs) : Sem Value).run P w = .ok v w := by
  unfold aggBin at h
  split at h
  · cases h
  · rename_i l hl
    split at h
    · cases h
    · rename_i r hr
      unfold eqTy at hl
      split at hl
      · rename_i fs g1 g2 g3
        have hf : P.fieldsOf t = fs := by simp [Program.fieldsOf, g3]
        have he : (Op.equalIn 10000 t (.agg cs) (.agg bs)).run P w = .ok r w := by
          rw [run_equalIn_agg w 9999 t cs bs (by rw [hf]; exact g3) g2, hf]
          exact eqOffs_sound (d := 9998) hR h1 h2 r1 r2 w hl hr
        rw [Sem.run_bind, run_eqGuard_agg w op t xo yo cs bs g1]
        simp only [Result.andThen]
        split at h
        · cases h
          rw [run_eql_struct, he]; rfl
        · cases h
          rw [run_neq_struct, he]; rfl
        · cases h
      · cases hl

def binD (ti : Option TyI) (ot : Option (List (Nat × EK))) (op : BinOp) (x y : D) : Option (Prop × Value) :=
  match x with
  | .v a => match y with
    | .v b => valBin ti op a b
    | _ => none
  | .agg ds => match y with
    | .agg es => aggBin ot op ds es
    | _ => none
  | .sl _ _ xs => match y with
    | .v (.slice none _ _) => match isNilL xs with
      | true => none
      | false => match ti with
        | some i => nilBin op i.und false
        | none => none
    | _ => none
  | _ => none

def unD (op : UnOp) (x : D) : Option Value :=
  match x with
  | .v (.bool b) => match op with
    | .not => some (.bool (!b))
    | _ => none
  | .v (.int k n) => match op with
    | .neg => some (.int k (k.wrap (0 - n)))
    | _ => none
  | _ => none

def convD (src dst : Option TyI) (x : D) : Option Value :=
  match src, dst with
  | some _, some i =>
    match x with
    | .v (.int _ n) => match i.und with
      | .int k => some (.int k (k.wrap n))
      | .string => some (.string (Utf8.encode n))
      | _ => none
    | .v (.string s) => match i.und with
      | .string => some (.string s)
      | _ => none
    | _ => none
  | _, _ => none

/-! ### Bounds of a cut -/
/-- Of an optional bound: the number, or what stands in its place. -/
def boundD (x : Option D) (dflt : Int) : Option Int :=
  match x with
  | none => some dflt
  | some d => match d with
    | .v (.int _ n) => some n
    | _ => none
def sub (l : List (List D)) (lo hi : Nat) : List (List D) := (l.take hi).drop lo

end Go.Proofs.Ytabliglgeiajlaa.AM
