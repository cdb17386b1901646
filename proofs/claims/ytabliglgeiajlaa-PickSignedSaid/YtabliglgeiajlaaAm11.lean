/- The abstract machine: operations that write nothing. -/
import Derived.Test.YtabliglgeiajlaaAm10
import Derived.Shelf.Abstract
set_option linter.unusedSimpArgs false
set_option linter.unusedVariables false
namespace Go.Proofs.Ytabliglgeiajlaa.AM
open Go Go.RowKit

/-- An operation that comes to a value and leaves the world alone. -/
def PureOk (P : Program) (o : Oper) (opd : Operand → D) (σ : List Slot) (rd : List Nat) (val : D) : Prop :=
  ∀ (B : Base) (σ' : List Slot) (ρ : Nat → Nat × Nat) (ev : Operand → Value) (w : World), Hp B σ' ρ w → (∀ x ∈ o.op.operands, Rp B σ' ρ w (opd x) (ev x)) → (∀ k ∈ rd, σ'[k]? = σ[k]?) →
    ∃ u, (execOp ev o).run P w = .ok (.value u) w ∧ Rp B σ' ρ w val u

theorem PureOk.opS {P : Program} {ro : Option Nat} {o : Oper} {opd : Operand → D} {σ : List Slot} {rd : List Nat} {val : D} {slot : Nat} (h : PureOk P o opd σ rd val) (hd : ∀ c, o.op ≠ .defer c) : OpS P ro o opd σ rd slot ⟨val, []⟩ := by
  intro B st a w hopd hσ hrel next Q hnext
  obtain ⟨ρ, hp, hfr, hmk⟩ := hrel
  obtain ⟨u, hrun, hu⟩ := h B st.σ ρ a.eval w hp (fun x hx => by rw [← hopd x hx]; exact hfr.eval x) (fun k hk => hσ k (.inr hk))
  refine ⟨fun _ _ => trivial, ?_⟩
  rw [Oper.semAt_eq _ _ _ hd, hrun, Oper.uponIn_value]
  exact hnext _ _ ⟨ρ, hp, FrOk.put (fr := st.fr) hfr o.dst hu, hmk.put o.dst u⟩

/-! ### Numbers, texts, bools -/
def beqK : IntKind → IntKind → Bool
  | .i8, .i8 => true | .i16, .i16 => true | .i32, .i32 => true | .i64, .i64 => true
  | .u8, .u8 => true | .u16, .u16 => true | .u32, .u32 => true | .u64, .u64 => true
  | _, _ => false
theorem beqK_eq {a b : IntKind} (h : beqK a b = true) : a = b := by cases a <;> cases b <;> first | rfl | cases h
def ibits (op : BinOp) (k : IntKind) (a b : Int) : Int :=
  let x := BitVec.ofInt k.bits a
  let y := BitVec.ofInt k.bits b
  match op with
  | .and => k.wrap (x &&& y).toNat
  | .or => k.wrap (x ||| y).toNat
  | .xor => k.wrap (x ^^^ y).toNat
  | .andNot => k.wrap (x &&& ~~~y).toNat
  | _ => 0
def ishl (k : IntKind) (a b : Int) : Int := k.wrap (a * 2 ^ min b.toNat k.bits)
def ishr (k : IntKind) (a b : Int) : Int := a.fdiv (2 ^ min b.toNat k.bits)
def intBin (op : BinOp) (k : IntKind) (a b : Int) : Option (Prop × Value) :=
  match op with
  | .add => some (True, .int k (k.wrap (a + b)))
  | .sub => some (True, .int k (k.wrap (a - b)))
  | .mul => some (True, .int k (k.wrap (a * b)))
  | .quo => some (b ≠ 0, .int k (k.wrap (a.tdiv b)))
  | .rem => some (b ≠ 0, .int k (a.tmod b))
  | .and => some (True, .int k (ibits .and k a b))
  | .or => some (True, .int k (ibits .or k a b))
  | .xor => some (True, .int k (ibits .xor k a b))
  | .andNot => some (True, .int k (ibits .andNot k a b))
  | .eql => some (True, .bool (a == b))
  | .neq => some (True, .bool (a != b))
  | .lss => some (True, .bool (decide (a < b)))
  | .leq => some (True, .bool (decide (a ≤ b)))
  | .gtr => some (True, .bool (decide (b < a)))
  | .geq => some (True, .bool (decide (b ≤ a)))
  | _ => none
def strBin (op : BinOp) (a b : ByteArray) : Option (Prop × Value) :=
  match op with
  | .add => some (a.size + b.size ≤ 9223372036854775807, .string (a ++ b))
  | .eql => some (True, .bool (a.toList == b.toList))
  | .neq => some (True, .bool (!(a.toList == b.toList)))
  | .lss => some (True, .bool (Op.bytesLess a.toList b.toList))
  | .leq => some (True, .bool (Op.bytesLess a.toList b.toList || a.toList == b.toList))
  | .gtr => some (True, .bool (!(Op.bytesLess a.toList b.toList || a.toList == b.toList)))
  | .geq => some (True, .bool (!(Op.bytesLess a.toList b.toList)))
  | _ => none
def boolBin (op : BinOp) (u : TypeDesc) (a b : Bool) : Option (Prop × Value) :=
  match u with
  | .bool => match op with
    | .eql => some (True, .bool (a == b))
    | .neq => some (True, .bool (!(a == b)))
    | _ => none
  | _ => none
def valBin (ti : Option TyI) (op : BinOp) (x y : Value) : Option (Prop × Value) :=
  match x with
  | .int k a => match y with
    | .int k' b => match op with
      | .shl => some (0 ≤ b, .int k (ishl k a b))
      | .shr => some (0 ≤ b, .int k (ishr k a b))
      | _ => match beqK k k' with
        | true => intBin op k a b
        | false => none
    | _ => none
  | .string a => match y with
    | .string b => strBin op a b
    | _ => none
  | .bool a => match y with
    | .bool b => match ti with
      | some i => boolBin op i.und a b
      | none => none
    | _ => none
  | _ => none

theorem valBin_sound {P : Program} {t : TypeId} {op : BinOp} {x y v : Value} {c : Prop} (h : valBin (tyI P t) op x y = some (c, v)) (hc : c) (w : World) (xo yo : Operand) :
    (do eqGuard op t xo yo x y; binOp op t x y : Sem Value).run P w = .ok v w := by
  unfold valBin at h
  split at h
  · rename_i k a
    split at h
    · rename_i k' b
      have hg : (eqGuard op t xo yo (.int k a) (.int k' b)).run P w = .ok () w := by unfold eqGuard; split <;> rfl
      rw [Sem.run_bind, hg]
      simp only [Result.andThen]
      split at h
      · simp only [Option.some.injEq, Prod.mk.injEq] at h
        obtain ⟨rfl, rfl⟩ := h
        simp [binOp, Op.shift, ishl, show ¬ b < 0 from by omega]
      · simp only [Option.some.injEq, Prod.mk.injEq] at h
        obtain ⟨rfl, rfl⟩ := h
        simp [binOp, Op.shift, ishr, show ¬ b < 0 from by omega]
      · split at h
        · rename_i hk
          have := beqK_eq hk
          subst this
          unfold intBin at h
          split at h <;> first
            | (simp only [Option.some.injEq, Prod.mk.injEq] at h; obtain ⟨rfl, rfl⟩ := h; simp [binOp, Op.intArith, Op.intDiv, Op.intBits, Op.intCmp, ibits, hc]; done)
            | (simp only [Option.some.injEq, Prod.mk.injEq] at h; obtain ⟨rfl, rfl⟩ := h; simp [binOp, Op.intArith, Op.intDiv, Op.intBits, Op.intCmp, ibits])
            | cases h
        · cases h
    · cases h
  · rename_i a
    split at h
    · rename_i b
      have hg : (eqGuard op t xo yo (.string a) (.string b)).run P w = .ok () w := by unfold eqGuard; split <;> rfl
      rw [Sem.run_bind, hg]
      simp only [Result.andThen]
      unfold strBin at h
      split at h
      · simp only [Option.some.injEq, Prod.mk.injEq] at h
        obtain ⟨rfl, rfl⟩ := h
        have : ¬ (((a.size + b.size : Nat) : Int) > IntKind.i64.max) := by simp [IntKind.max, IntKind.signed, IntKind.bits]; omega
        simp only [binOp, Op.stringOp, if_neg this]
        rfl
      all_goals first
        | (simp only [Option.some.injEq, Prod.mk.injEq] at h; obtain ⟨rfl, rfl⟩ := h; simp [binOp, Op.stringOp]; done)
        | cases h
    · cases h
  · rename_i a
    split at h
    · rename_i b
      have hg : (eqGuard op t xo yo (.bool a) (.bool b)).run P w = .ok () w := by unfold eqGuard; split <;> rfl
      rw [Sem.run_bind, hg]
      simp only [Result.andThen]
      split at h
      · rename_i i hi
        unfold boolBin at h
        split at h
        · rename_i hu
          obtain ⟨_, _, hun, _⟩ := tyI.spec hi
          rw [hu] at hun
          have e : (Op.equal t (.bool a) (.bool b)).run P w = .ok (a == b) w := run_equalIn_bool w 9999 t a b hun
          split at h
          · simp only [Option.some.injEq, Prod.mk.injEq] at h
            obtain ⟨rfl, rfl⟩ := h
            show (Op.equal t (.bool a) (.bool b) >>= fun r => pure (Value.bool r) : Sem Value).run P w = _
            rw [Sem.run_bind, e]
            rfl
          · simp only [Option.some.injEq, Prod.mk.injEq] at h
            obtain ⟨rfl, rfl⟩ := h
            show (Op.equal t (.bool a) (.bool b) >>= fun r => pure (Value.bool (!r)) : Sem Value).run P w = _
            rw [Sem.run_bind, e]
            rfl
          · cases h
        · cases h
      · cases h
    · cases h
  · cases h

def binD (ti : Option TyI) (op : BinOp) (x y : D) : Option (Prop × Value) :=
  match x with
  | .v a => match y with
    | .v b => valBin ti op a b
    | _ => none
  | _ => none

def unD (op : UnOp) (x : D) : Option Value :=
  match x with
  | .v (.bool b) => match op with
    | .not => some (.bool (!b))
    | _ => none
  | .v (.int k n) => match op with
    | .neg => some (.int k (k.wrap (0 - n)))
    | _ => none
  | _ => none

def convD (src dst : Option TyI) (x : D) : Option Value :=
  match src, dst with
  | some _, some i =>
    match x with
    | .v (.int _ n) => match i.und with
      | .int k => some (.int k (k.wrap n))
      | .string => some (.string (Utf8.encode n))
      | _ => none
    | .v (.string s) => match i.und with
      | .string => some (.string s)
      | _ => none
    | _ => none
  | _, _ => none

/-! ### Bounds of a cut -/
/-- Of an optional bound: the number, or what stands in its place. -/
def boundD (x : Option D) (dflt : Int) : Option Int :=
  match x with
  | none => some dflt
  | some d => match d with
    | .v (.int _ n) => some n
    | _ => none
def sub (l : List (List D)) (lo hi : Nat) : List (List D) := (l.take hi).drop lo

end Go.Proofs.Ytabliglgeiajlaa.AM
