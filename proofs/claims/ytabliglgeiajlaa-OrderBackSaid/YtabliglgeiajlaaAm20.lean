/- The abstract machine: what each operation does. -/
import Derived.Test.YtabliglgeiajlaaAmR
import Derived.Test.YtabliglgeiajlaaAmM
set_option linter.unusedSimpArgs false
set_option linter.unusedVariables false
namespace Go.Proofs.Ytabliglgeiajlaa.AM
open Go Go.RowKit

section
variable {P : Program} {o : Oper} {opd : Operand → D} {σ : List Slot}

theorem mem_args {c : Call} {y : Operand} (ho : o.op = .call c) (h : y ∈ c.args) : y ∈ o.op.operands := by
  rw [ho]
  simp only [Op.operands, Call.operands]
  exact Array.mem_append.2 (.inr h)

theorem ok_len {c : Call} {x : Operand} {t : TypeId} {d : D} {rd : List Nat} (ho : o.op = .call c) (hcal : c.callee = .builtin .len) (hargs : c.args = #[x]) (hty : c.argTypes = #[t])
    (h : lenD (tyI P t) (opd x) σ = some (d, rd)) : PureOk P o opd σ rd d := by
  intro B σ' ρ ev w hp hx hrd
  have h1 := hx x (mem_args ho (by rw [hargs]; simp))
  have hexec : ∀ v, (Builtin.len_ #[t] o.type #[ev x]).run P w = .ok v w → (execOp ev o).run P w = .ok (.value v) w := by
    intro v hr
    refine run_builtin ho hcal ?_
    rw [hargs, hty]
    exact lift_value (by simpa using hr)
  unfold lenD at h
  split at h
  · cases h
  · rename_i i hi
    have hun := tyI.underlying hi w
    split at h
    · rename_i hu
      split at h
      · rename_i s hs
        simp only [Option.some.injEq, Prod.mk.injEq] at h
        obtain ⟨rfl, rfl⟩ := h
        rw [hs] at h1
        refine ⟨_, hexec _ ?_, .fro _ _ (.v _)⟩
        rw [hu] at hun
        rw [h1.v_inv]
        simp [Builtin.len_, hun, Result.andThen, goInt]
      · cases h
    · rename_i e hu
      have hel := tyI.elem hi hu
      have hlen : ∀ A n cap, ev x = .slice A n cap → (Builtin.len_ #[t] o.type #[ev x]).run P w = .ok (.int .i64 n) w := by
        intro A n cap he
        rw [he]
        exact run_len_slice (h := hel.1) ..
      split at h
      · rename_i full sz xs hs
        simp only [Option.some.injEq, Prod.mk.injEq] at h
        obtain ⟨rfl, rfl⟩ := h
        rw [hs] at h1
        have hsl := h1.sl_inv
        have : ∃ A n cap, ev x = .slice A n cap ∧ n = xs.length := by
          generalize ev x = u at hsl
          cases hsl with
          | sl0 _ _ A cap _ => exact ⟨A, 0, cap, rfl, rfl⟩
          | sl _ _ _ b o' cap n g hn _ _ _ _ _ _ _ => exact ⟨_, n, cap, rfl, hn⟩
        obtain ⟨A, n, cap, he, rfl⟩ := this
        exact ⟨_, hexec _ (hlen _ _ _ he), .fro _ _ (.v _)⟩
      · rename_i A n cap hs
        simp only [Option.some.injEq, Prod.mk.injEq] at h
        obtain ⟨rfl, rfl⟩ := h
        rw [hs] at h1
        exact ⟨_, hexec _ (hlen _ _ _ h1.v_inv), .fro _ _ (.v _)⟩
      · rename_i k g n hs
        split at h
        · rename_i en hl
          simp only [Option.some.injEq, Prod.mk.injEq] at h
          obtain ⟨rfl, rfl⟩ := h
          rw [hs] at h1
          have hl' : isLive σ' k g = some en := by rw [isLive_congr (hrd k (by simp))]; exact hl
          exact ⟨_, hexec _ (hlen _ _ _ (ref_live h1 hl').1), .fro _ _ (.v _)⟩
        · cases h
      · cases h
    · cases h

theorem ok_min {c : Call} {x y : Operand} {d : D} (ho : o.op = .call c) (hcal : c.callee = .builtin .min) (hargs : c.args = #[x, y]) (h : minD (opd x) (opd y) = some d) : PureOk P o opd σ [] d := by
  intro B σ' ρ ev w hp hx hrd
  have h1 := hx x (mem_args ho (by rw [hargs]; simp))
  have h2 := hx y (mem_args ho (by rw [hargs]; simp))
  unfold minD at h
  split at h
  · rename_i k a ha
    split at h
    · rename_i k' b hb
      cases h
      rw [ha] at h1
      rw [hb] at h2
      refine ⟨_, run_builtin ho hcal ?_, .fro _ _ (.v _)⟩
      rw [hargs]
      refine lift_value ?_
      simp [h1.v_inv, h2.v_inv, Builtin.min_, Builtin.min2]
    · cases h
  · cases h
theorem ok_max {c : Call} {x y : Operand} {d : D} (ho : o.op = .call c) (hcal : c.callee = .builtin .max) (hargs : c.args = #[x, y]) (h : maxD (opd x) (opd y) = some d) : PureOk P o opd σ [] d := by
  intro B σ' ρ ev w hp hx hrd
  have h1 := hx x (mem_args ho (by rw [hargs]; simp))
  have h2 := hx y (mem_args ho (by rw [hargs]; simp))
  unfold maxD at h
  split at h
  · rename_i k a ha
    split at h
    · rename_i k' b hb
      cases h
      rw [ha] at h1
      rw [hb] at h2
      refine ⟨_, run_builtin ho hcal ?_, .fro _ _ (.v _)⟩
      rw [hargs]
      refine lift_value ?_
      simp [h1.v_inv, h2.v_inv, Builtin.max_, Builtin.max2]
    · cases h
  · cases h
end

/-! ### The step -/
def SR.pureO (r : Option (Prop × D)) : SR := match r with | some (c, d) => .yes c [] ⟨d, []⟩ | none => .no
def SR.readO (r : Option (Prop × D × List Nat)) : SR := match r with | some (c, d, rd) => .yes c rd ⟨d, []⟩ | none => .no
def SR.valO (r : Option D) : SR := match r with | some d => .yes True [] ⟨d, []⟩ | none => .no
def SR.vO (r : Option Value) : SR := match r with | some v => .yes True [] ⟨.v v, []⟩ | none => .no
def SR.cvO (r : Option (Prop × Value)) : SR := match r with | some (c, v) => .yes c [] ⟨.v v, []⟩ | none => .no
def SR.rdO (r : Option (D × List Nat)) : SR := match r with | some (d, rd) => .yes True rd ⟨d, []⟩ | none => .no
def pickD (c x y : D) : Option D := match c with
  | .v (.bool t) => some (match t with | true => x | false => y)
  | _ => none
def builtinStep (P : Program) (b : Builtin) (args : List Operand) (tys : List TypeId) (opd : Operand → D) (σ : List Slot) (slot : Nat) : SR :=
  match b with
  | .len => match args, tys with
    | [x], [t] => .rdO (lenD (tyI P t) (opd x) σ)
    | _, _ => .no
  | .min => match args with
    | [x, y] => .valO (minD (opd x) (opd y))
    | _ => .no
  | .max => match args with
    | [x, y] => .valO (maxD (opd x) (opd y))
    | _ => .no
  | .append => match args, tys with
    | [s, x], [t, t'] => match Nat.beq t t' with
      | true => match opd x with
        | .refo .. => match appendInD P t (opd s) (opd x) σ with
          | some (c, d, sets, rd) => .yes c rd ⟨d, sets⟩
          | none => .no
        | _ => match appendD P t (opd s) (opd x) σ slot with
          | some (c, d, sets, rd) => .yes (c ∧ isFree σ slot) rd ⟨d, sets⟩
          | none => .no
      | false => .no
    | _, _ => .no
  | .clear => match args, tys with
    | [x], [t] => match clearD P t (opd x) σ with
      | some (c, sets, k) => .yes c [k] ⟨.any, sets⟩
      | none => .no
    | _, _ => .no
  | _ => .no
def stepOp (P : Program) (o : Oper) (opd : Operand → D) (σ : List Slot) (slot : Nat) : SR :=
  match o.op with
  | .move x => .yes True [] ⟨opd x, []⟩
  | .assign x => .yes True [] ⟨opd x, []⟩
  | .pick c x y => .valO (pickD (opd c) (opd x) (opd y))
  | .alloc t => match allocD P t slot with
    | some (c, d, sets) => .yes (c ∧ isFree σ slot) [] ⟨d, sets⟩
    | none => .no
  | .box t x => match boxD t (opd x) slot with
    | (c, d, sets) => .yes (c ∧ isFree σ slot) [] ⟨d, sets⟩
  | .build t parts => .pureO (buildD P t (parts.toList.map fun q => (q.1, opd q.2)))
  | .buildSlice t len parts => match buildSliceD P t len (parts.toList.map fun q => (q.1, opd q.2)) with
    | some (c, d) => .yes c [] ⟨d, []⟩
    | none => .no
  | .load t x => .readO (loadD (tyI P t) (opd x) σ)
  | .store t a x => match storeD P t (opd a) (opd x) σ with
    | some (c, sets, k) => .yes c [k] ⟨.v undef, sets⟩
    | none => .no
  | .nilCheck x => .rdO (nilCheckD (opd x) σ)
  | .binOp op t x y _ => .cvO (binD (tyI P t) (eqTy P t) op (opd x) (opd y))
  | .unOp op _ x => .vO (unD op (opd x))
  | .convert s d x => .vO (convD (tyI P s) (tyI P d) (opd x))
  | .makeFunc fn first caps => match fn with
    | .func f => match first.toList with
      | [] => .yes True [] ⟨.fn f (caps.toList.map opd), []⟩
      | x :: l => match caps.toList with
        | [] => .yes True [] ⟨.bnd f (opd x :: l.map opd), []⟩
        | _ :: _ => .no
    | _ => .no
  | .slice t x lo hi mx => match mx with
    | none => .readO (sliceD P t (opd x) (lo.map opd) (hi.map opd) none σ)
    | some m => match hi with
      | none => .no
      | some h => .readO (sliceD P t (opd x) (lo.map opd) (some (opd h)) (some (opd m)) σ)
  | .fieldAddr s x f => .readO (fieldAddrD P s (opd x) f σ)
  | .field s x f => .pureO (fieldD P s (opd x) f)
  | .indexAddr t x ix => .readO (indexAddrD P t (opd x) (opd ix) σ)
  | .index t x ix => .pureO (indexD (opd x) (opd ix) (tyI P t))
  | .extract x ix => .pureO (extractD (opd x) ix)
  | .makeMap t r => match r with
    | none => match makeMapD t slot with
      | (d, sets) => .yes (isFree σ slot) [] ⟨d, sets⟩
    | some _ => .no
  | .insert t m k x => match insertD P t (opd m) (opd k) (opd x) σ with
    | some (c, sets, b) => .yes c [b] ⟨.v undef, sets⟩
    | none => .no
  | .lookup t m k ok => match ok with
    | true => .readO (lookupD P t (opd m) (opd k) σ)
    | false => .no
  | .call c => match c.callee with
    | .builtin b => builtinStep P b c.args.toList c.argTypes.toList opd σ slot
    | .value _ => .call
    | .invoke _ _ => .no
  | _ => .no

theorem toArray_of {α : Type} {a : Array α} {l : List α} (h : a.toList = l) : a = l.toArray := by rw [← h]

theorem builtinStep_sound {P : Program} {ro : Option Nat} {b : Builtin} {c' : Call} {o : Oper} {opd : Operand → D} {σ : List Slot} {slot : Nat} {c : Prop} {rd : List Nat} {out : Out} (ho : o.op = .call c') (hcal : c'.callee = .builtin b)
    (h : builtinStep P b c'.args.toList c'.argTypes.toList opd σ slot = .yes c rd out) (hc : c) : OpS P ro o opd σ rd slot out ∧ ∀ p ∈ out.sets, p.1 = slot ∨ p.1 ∈ rd := by
  have hd : ∀ c, o.op ≠ .defer c := fun c hh => by rw [ho] at hh; cases hh
  unfold builtinStep at h
  split at h
  · split at h
    · rename_i x t e1 e2
      cases hl : lenD (tyI P t) (opd x) σ with
      | none => rw [hl] at h; cases h
      | some q =>
        obtain ⟨d, rd'⟩ := q
        rw [hl] at h
        simp only [SR.rdO, SR.yes.injEq] at h
        obtain ⟨rfl, rfl, rfl⟩ := h
        exact ⟨(ok_len ho hcal (toArray_of e1) (toArray_of e2) hl).opS hd, fun p hp => by cases hp⟩
    · cases h
  · split at h
    · rename_i x y e1
      cases hl : minD (opd x) (opd y) with
      | none => rw [hl] at h; cases h
      | some d =>
        rw [hl] at h
        simp only [SR.valO, SR.yes.injEq] at h
        obtain ⟨rfl, rfl, rfl⟩ := h
        exact ⟨(ok_min ho hcal (toArray_of e1) hl).opS hd, fun p hp => by cases hp⟩
    · cases h
  · split at h
    · rename_i x y e1
      cases hl : maxD (opd x) (opd y) with
      | none => rw [hl] at h; cases h
      | some d =>
        rw [hl] at h
        simp only [SR.valO, SR.yes.injEq] at h
        obtain ⟨rfl, rfl, rfl⟩ := h
        exact ⟨(ok_max ho hcal (toArray_of e1) hl).opS hd, fun p hp => by cases hp⟩
    · cases h
  · split at h
    · rename_i s x t t' e1 e2
      split at h
      · rename_i hb
        have := Nat.eq_of_beq_eq_true hb
        subst this
        split at h
        · cases hl : appendInD P t (opd s) (opd x) σ with
          | none => rw [hl] at h; cases h
          | some q =>
            obtain ⟨c1, d, sets, rd'⟩ := q
            rw [hl] at h
            simp only [SR.yes.injEq] at h
            obtain ⟨rfl, rfl, rfl⟩ := h
            refine ⟨(ok_appendIn ho hcal (toArray_of e1) (toArray_of e2) hl hc).opS hd, fun p hp => ?_⟩
            unfold appendInD at hl
            repeat' split at hl
            all_goals first
              | (cases hl; done)
              | (simp only [Option.some.injEq, Prod.mk.injEq] at hl
                 obtain ⟨_, _, rfl, rfl⟩ := hl
                 simp at hp; subst hp; simp; done)
        · cases hl : appendD P t (opd s) (opd x) σ slot with
          | none => rw [hl] at h; cases h
          | some q =>
            obtain ⟨c1, d, sets, rd'⟩ := q
            rw [hl] at h
            simp only [SR.yes.injEq] at h
            obtain ⟨rfl, rfl, rfl⟩ := h
            refine ⟨(ok_append ho hcal (toArray_of e1) (toArray_of e2) hl hc.1 hc.2).opS hd, fun p hp => ?_⟩
            unfold appendD at hl
            repeat' split at hl
            all_goals first
              | (cases hl; done)
              | (simp only [Option.some.injEq, Prod.mk.injEq] at hl
                 obtain ⟨_, _, rfl, rfl⟩ := hl
                 first
                   | (simp at hp; done)
                   | (simp at hp; subst hp; simp; done))
      · cases h
    · cases h
  · split at h
    · rename_i x t e1 e2
      cases hl : clearD P t (opd x) σ with
      | none => rw [hl] at h; cases h
      | some q =>
        obtain ⟨c1, sets, k⟩ := q
        rw [hl] at h
        simp only [SR.yes.injEq] at h
        obtain ⟨rfl, rfl, rfl⟩ := h
        refine ⟨(ok_clear ho hcal (toArray_of e1) (toArray_of e2) hl hc).opS hd, fun p hp => ?_⟩
        unfold clearD at hl
        repeat' split at hl
        all_goals first
          | (cases hl; done)
          | (simp only [Option.some.injEq, Prod.mk.injEq] at hl
             obtain ⟨_, rfl, rfl⟩ := hl
             simp at hp; subst hp; simp; done)
    · cases h
  · cases h

/-- **The steps are sound.** -/
theorem stepOp_sound (P : Program) (ro : Option Nat) : Sound (stepOp P) P ro := by
  intro o opd σ slot c rd out h hc
  unfold stepOp at h
  split at h
  · rename_i x ho
    simp only [SR.yes.injEq] at h
    obtain ⟨rfl, rfl, rfl⟩ := h
    exact ⟨(ok_move ho).opS (fun c hh => by rw [ho] at hh; cases hh), fun p hp => by cases hp⟩
  · rename_i x ho
    simp only [SR.yes.injEq] at h
    obtain ⟨rfl, rfl, rfl⟩ := h
    exact ⟨(ok_assign ho).opS (fun c hh => by rw [ho] at hh; cases hh), fun p hp => by cases hp⟩
  · rename_i cc x y ho
    unfold pickD at h
    split at h
    · rename_i t ht
      simp only [SR.valO, SR.yes.injEq] at h
      obtain ⟨rfl, rfl, rfl⟩ := h
      cases t <;> exact ⟨(ok_pick ho ht).opS (fun c hh => by rw [ho] at hh; cases hh), fun p hp => by cases hp⟩
    · cases h
  · rename_i t ho
    split at h
    · rename_i c1 d sets hl
      simp only [SR.yes.injEq] at h
      obtain ⟨rfl, rfl, rfl⟩ := h
      refine ⟨(ok_alloc ho hl hc.1 hc.2).opS (fun c hh => by rw [ho] at hh; cases hh), fun p hp => ?_⟩
      unfold allocD at hl
      split at hl
      · cases hl
      · simp only [Option.some.injEq, Prod.mk.injEq] at hl
        obtain ⟨_, _, rfl⟩ := hl
        simp at hp; subst hp; simp
    · cases h
  · rename_i t x ho
    split at h
    rename_i c1 d sets hl
    simp only [SR.yes.injEq] at h
    obtain ⟨rfl, rfl, rfl⟩ := h
    refine ⟨(ok_box ho hl hc.1 hc.2).opS (fun c hh => by rw [ho] at hh; cases hh), fun p hp => ?_⟩
    simp only [boxD, Prod.mk.injEq] at hl
    obtain ⟨_, _, rfl⟩ := hl
    simp at hp; subst hp; simp
  · rename_i t parts ho
    cases hl : buildD P t (parts.toList.map fun q => (q.1, opd q.2)) with
    | none => rw [hl] at h; cases h
    | some q =>
      obtain ⟨c1, d⟩ := q
      rw [hl] at h
      simp only [SR.pureO, SR.yes.injEq] at h
      obtain ⟨rfl, rfl, rfl⟩ := h
      exact ⟨(ok_build ho hl hc).opS (fun c hh => by rw [ho] at hh; cases hh), fun p hp => by cases hp⟩
  · rename_i t len parts ho
    split at h
    · rename_i c1 d hl
      simp only [SR.yes.injEq] at h
      obtain ⟨rfl, rfl, rfl⟩ := h
      exact ⟨(ok_buildSlice ho hl hc).opS (fun c hh => by rw [ho] at hh; cases hh), fun p hp => by cases hp⟩
    · cases h
  · rename_i t x ho
    cases hl : loadD (tyI P t) (opd x) σ with
    | none => rw [hl] at h; cases h
    | some q =>
      obtain ⟨c1, d, rd'⟩ := q
      rw [hl] at h
      simp only [SR.readO, SR.yes.injEq] at h
      obtain ⟨rfl, rfl, rfl⟩ := h
      exact ⟨(ok_load ho hl hc).opS (fun c hh => by rw [ho] at hh; cases hh), fun p hp => by cases hp⟩
  · rename_i t a x ho
    split at h
    · rename_i c1 sets k hl
      simp only [SR.yes.injEq] at h
      obtain ⟨rfl, rfl, rfl⟩ := h
      refine ⟨(ok_store ho hl hc).opS (fun c hh => by rw [ho] at hh; cases hh), fun p hp => ?_⟩
      unfold storeD at hl
      repeat' split at hl
      all_goals first
        | (cases hl; done)
        | (simp only [Option.some.injEq, Prod.mk.injEq] at hl
           obtain ⟨_, rfl, rfl⟩ := hl
           simp at hp; subst hp; simp)
    · cases h
  · rename_i x ho
    cases hl : nilCheckD (opd x) σ with
    | none => rw [hl] at h; cases h
    | some q =>
      obtain ⟨d, rd'⟩ := q
      rw [hl] at h
      simp only [SR.rdO, SR.yes.injEq] at h
      obtain ⟨rfl, rfl, rfl⟩ := h
      exact ⟨(ok_nilCheck ho hl).opS (fun c hh => by rw [ho] at hh; cases hh), fun p hp => by cases hp⟩
  · rename_i op t x y yt ho
    cases hl : binD (tyI P t) (eqTy P t) op (opd x) (opd y) with
    | none => rw [hl] at h; cases h
    | some q =>
      obtain ⟨c1, v⟩ := q
      rw [hl] at h
      simp only [SR.cvO, SR.yes.injEq] at h
      obtain ⟨rfl, rfl, rfl⟩ := h
      exact ⟨(ok_bin ho hl hc).opS (fun c hh => by rw [ho] at hh; cases hh), fun p hp => by cases hp⟩
  · rename_i op t x ho
    cases hl : unD op (opd x) with
    | none => rw [hl] at h; cases h
    | some v =>
      rw [hl] at h
      simp only [SR.vO, SR.yes.injEq] at h
      obtain ⟨rfl, rfl, rfl⟩ := h
      exact ⟨(ok_un ho hl).opS (fun c hh => by rw [ho] at hh; cases hh), fun p hp => by cases hp⟩
  · rename_i s d x ho
    cases hl : convD (tyI P s) (tyI P d) (opd x) with
    | none => rw [hl] at h; cases h
    | some v =>
      rw [hl] at h
      simp only [SR.vO, SR.yes.injEq] at h
      obtain ⟨rfl, rfl, rfl⟩ := h
      exact ⟨(ok_conv ho hl).opS (fun c hh => by rw [ho] at hh; cases hh), fun p hp => by cases hp⟩
  · rename_i fn first caps ho
    split at h
    · rename_i f
      split at h
      · rename_i hfirst
        simp only [SR.yes.injEq] at h
        obtain ⟨rfl, rfl, rfl⟩ := h
        have : first = #[] := toArray_of hfirst
        subst this
        exact ⟨(ok_makeFunc ho).opS (fun c hh => by rw [ho] at hh; cases hh), fun p hp => by cases hp⟩
      · rename_i x l hfirst
        split at h
        · rename_i hcaps
          simp only [SR.yes.injEq] at h
          obtain ⟨rfl, rfl, rfl⟩ := h
          have : caps = #[] := toArray_of hcaps
          subst this
          have := (ok_makeBnd (σ := σ) (P := P) (opd := opd) ho).opS (ro := ro) (slot := slot) (fun c hh => by rw [ho] at hh; cases hh)
          rw [hfirst] at this
          exact ⟨this, fun p hp => by cases hp⟩
        · cases h
    · cases h
  · rename_i t x lo hi mx ho
    split at h
    · cases hl : sliceD P t (opd x) (lo.map opd) (hi.map opd) none σ with
      | none => rw [hl] at h; cases h
      | some q =>
        obtain ⟨c1, d, rd'⟩ := q
        rw [hl] at h
        simp only [SR.readO, SR.yes.injEq] at h
        obtain ⟨rfl, rfl, rfl⟩ := h
        exact ⟨(ok_slice ho hl (fun h => absurd rfl h) hc).opS (fun c hh => by rw [ho] at hh; cases hh), fun p hp => by cases hp⟩
    · rename_i m
      split at h
      · cases h
      · rename_i hh
        cases hl : sliceD P t (opd x) (lo.map opd) (some (opd hh)) (some (opd m)) σ with
        | none => rw [hl] at h; cases h
        | some q =>
          obtain ⟨c1, d, rd'⟩ := q
          rw [hl] at h
          simp only [SR.readO, SR.yes.injEq] at h
          obtain ⟨rfl, rfl, rfl⟩ := h
          exact ⟨(ok_slice ho hl (fun _ h => by cases h) hc).opS (fun c hh => by rw [ho] at hh; cases hh), fun p hp => by cases hp⟩
  · rename_i s x f ho
    cases hl : fieldAddrD P s (opd x) f σ with
    | none => rw [hl] at h; cases h
    | some q =>
      obtain ⟨c1, d, rd'⟩ := q
      rw [hl] at h
      simp only [SR.readO, SR.yes.injEq] at h
      obtain ⟨rfl, rfl, rfl⟩ := h
      exact ⟨(ok_fieldAddr ho hl hc).opS (fun c hh => by rw [ho] at hh; cases hh), fun p hp => by cases hp⟩
  · rename_i s x f ho
    cases hl : fieldD P s (opd x) f with
    | none => rw [hl] at h; cases h
    | some q =>
      obtain ⟨c1, d⟩ := q
      rw [hl] at h
      simp only [SR.pureO, SR.yes.injEq] at h
      obtain ⟨rfl, rfl, rfl⟩ := h
      exact ⟨(ok_field ho hl hc).opS (fun c hh => by rw [ho] at hh; cases hh), fun p hp => by cases hp⟩
  · rename_i t x ix ho
    cases hl : indexAddrD P t (opd x) (opd ix) σ with
    | none => rw [hl] at h; cases h
    | some q =>
      obtain ⟨c1, d, rd'⟩ := q
      rw [hl] at h
      simp only [SR.readO, SR.yes.injEq] at h
      obtain ⟨rfl, rfl, rfl⟩ := h
      exact ⟨(ok_indexAddr ho hl hc).opS (fun c hh => by rw [ho] at hh; cases hh), fun p hp => by cases hp⟩
  · rename_i t x ix ho
    cases hl : indexD (opd x) (opd ix) (tyI P t) with
    | none => rw [hl] at h; cases h
    | some q =>
      obtain ⟨c1, d⟩ := q
      rw [hl] at h
      simp only [SR.pureO, SR.yes.injEq] at h
      obtain ⟨rfl, rfl, rfl⟩ := h
      exact ⟨(ok_index ho hl hc).opS (fun c hh => by rw [ho] at hh; cases hh), fun p hp => by cases hp⟩
  · rename_i x ix ho
    cases hl : extractD (opd x) ix with
    | none => rw [hl] at h; cases h
    | some q =>
      obtain ⟨c1, d⟩ := q
      rw [hl] at h
      simp only [SR.pureO, SR.yes.injEq] at h
      obtain ⟨rfl, rfl, rfl⟩ := h
      exact ⟨(ok_extract ho hl hc).opS (fun c hh => by rw [ho] at hh; cases hh), fun p hp => by cases hp⟩
  · rename_i t r ho
    split at h
    · split at h
      rename_i d sets hl
      simp only [SR.yes.injEq] at h
      obtain ⟨rfl, rfl, rfl⟩ := h
      refine ⟨(ok_makeMap ho hl hc).opS (fun c hh => by rw [ho] at hh; cases hh), fun p hp => ?_⟩
      simp only [makeMapD, Prod.mk.injEq] at hl
      obtain ⟨_, rfl⟩ := hl
      simp at hp; subst hp; simp
    · cases h
  · rename_i t m k x ho
    split at h
    · rename_i c1 sets b hl
      simp only [SR.yes.injEq] at h
      obtain ⟨rfl, rfl, rfl⟩ := h
      refine ⟨(ok_insert ho hl hc).opS (fun c hh => by rw [ho] at hh; cases hh), fun p hp => ?_⟩
      unfold insertD at hl
      repeat' split at hl
      all_goals first
        | (cases hl; done)
        | (simp only [Option.some.injEq, Prod.mk.injEq] at hl
           obtain ⟨_, rfl, rfl⟩ := hl
           simp at hp; subst hp; simp)
    · cases h
  · rename_i t m k ok ho
    split at h
    · cases hl : lookupD P t (opd m) (opd k) σ with
      | none => rw [hl] at h; cases h
      | some q =>
        obtain ⟨c1, d, rd'⟩ := q
        rw [hl] at h
        simp only [SR.readO, SR.yes.injEq] at h
        obtain ⟨rfl, rfl, rfl⟩ := h
        exact ⟨(ok_lookup ho hl hc).opS (fun c hh => by rw [ho] at hh; cases hh), fun p hp => by cases hp⟩
    · cases h
  · rename_i c' ho
    split at h
    · rename_i b hcal
      exact builtinStep_sound ho hcal h hc
    · cases h
    · cases h
  · cases h
end Go.Proofs.Ytabliglgeiajlaa.AM
