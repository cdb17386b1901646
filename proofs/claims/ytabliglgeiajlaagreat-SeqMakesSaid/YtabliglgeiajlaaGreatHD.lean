/- States that choices make, plainly. -/
import Derived.Test.YtabliglgeiajlaaGreatHC
import Derived.Test.YtabliglgeiajlaaGreatQ1
set_option linter.unusedSimpArgs false
set_option linter.unusedVariables false
namespace Go.Proofs.YtabliglgeiajlaaGreat.AM
open Go Go.RowKit Go.Proofs

/-- A space. -/
structure Sp where
  code : Int
  mem : Int
  stack : Int
  val : Int
  ws : List Int
section
variable {α β : Type}
theorem Is.ret0 (x : α) : Is (fun m => ((m.1, 0, m.2.2), x)) (.ret x) := ⟨fun d n => ⟨0, rfl⟩, fun _ _ _ _ => rfl⟩
theorem Is.bindG {f : M3 → M3 × α} {c : Cp α} {g : α → M3 → M3 × β} {k : α → Cp β} {j : M3 → β} (h : Is f c) (hg : ∀ x, Is (g x) (k x)) : Is (fun m => if (f m).1.2.2 = 0 then g (f m).2 (f m).1 else ((f m).1, j m)) (c.bind k) := by
  have hb := h.bind hg
  refine ⟨fun d n => ?_, fun d n e he => ?_⟩
  · have h1 := h.1 d n
    have h2 := hb.1 d n
    rw [Cp.run_bind] at h2 ⊢
    cases hr : c.run d with
    | error e =>
      rw [hr] at h1
      obtain ⟨he, h3⟩ := h1
      refine ⟨he, ?_⟩
      simp only
      rw [if_neg (by rw [h3]; exact he)]
      exact h3
    | ok r =>
      obtain ⟨d', x⟩ := r
      rw [hr] at h1 h2
      obtain ⟨n', hf⟩ := h1
      simp only [hf] at h2 ⊢
      rw [if_pos trivial]
      exact h2
  · have h1 := h.2 d n e he
    simp only
    rw [if_neg (by rw [h1]; exact he)]
    exact h1
end
/-- Rows: so many at most. -/
theorem Is.rows {α : Type} {b : M3 → M3 × Int} {f : M3 → M3 × α} {c : Cp α} {most : Int} (hb : Is b (oneC (most + 1))) (h : Is f c) : Is (fun m => timesF f (b m).2.toNat (b m).1) (c.rows most) :=
  Is.bind hb (g := fun n => timesF f n.toNat) (k := fun n => c.times n.toNat) fun n => h.times _

/-! ### What is made -/
def nC (sp : Sp) (o : Int) : Cp Int := if o = 1 then numC sp.val else if o = 8 then oneC 13 else if o = 9 then oneC 4 else if o = 10 then oneC 2 else .ret 0
def instrC (nl : Int) (sp : Sp) : Cp (Int × Int × Int) := (opC sp.ws).bind fun o => (nC sp o).bind fun v => (if o = 1 then oneC nl else .ret 0).bind fun l => .ret (o, v, l)
def atomC (nl : Int) (sp : Sp) : Cp (Int × Int) := (numC sp.val).bind fun v => (oneC nl).bind fun l => .ret (v, l)
def slotC (nl : Int) (sp : Sp) : Cp (Bool × Int × Int) := (oneC 2).bind fun r => (if r = 1 then oneC 13 else numC sp.val).bind fun v => (oneC nl).bind fun l => .ret (decide (r = 1), v, l)
def genC (nl : Int) (sp : Sp) : Cp Sta := ((instrC nl sp).rows sp.code).bind fun c => ((atomC nl sp).rows sp.mem).bind fun m => ((slotC nl sp).rows sp.stack).bind fun s => (oneC 13).bind fun v => (oneC nl).bind fun l => .ret ⟨v, l, c, m, s, []⟩
def Sta.z : Sta := ⟨0, 0, [], [], [], []⟩
/-- How a run ends. -/
def endF {α : Type} (z : α) (r : Except Int (Dr × α)) : Dr × α × Int := match r with | .ok (d, x) => (d, x, 0) | .error e => (Dr.z, z, e)
theorem Is.end {α : Type} {f : M3 → M3 × α} {c : Cp α} (h : Is f c) (z : α) (d : Dr) (n : Int) : endF z (c.run d) = if (f (d, n, 0)).1.2.2 = 0 then ((f (d, n, 0)).1.1, (f (d, n, 0)).2, 0) else (Dr.z, z, (f (d, n, 0)).1.2.2) := by
  have := h.1 d n
  cases hr : c.run d with
  | error e =>
    rw [hr] at this
    obtain ⟨he, h2⟩ := this
    rw [h2, if_neg he]; rfl
  | ok r =>
    obtain ⟨d', x⟩ := r
    rw [hr] at this
    obtain ⟨n', hf⟩ := this
    rw [hf, if_pos rfl]; rfl

/-! ### The program's maker -/
def belowP (m : M3) (b : Int) : M3 := tookP m (takeF m.1 b)
def numberP (m : M3) (v : Int) : M3 := tookP m (signedF m.1 v)
def opP (m : M3) (ws : List Int) : M3 := tookP m (weightedF m.1 ws)
def atomP (nl : Int) (sp : Sp) (m : M3) : M3 × (Int × Int) := let a := numberP m sp.val; let b := belowP a nl; (b, a.2.1, b.2.1)
def slotP (nl : Int) (sp : Sp) (m : M3) : M3 × (Bool × Int × Int) :=
  let r := belowP m 2
  let v := if r.2.1 = 1 then belowP r 13 else numberP r sp.val
  let b := belowP v nl
  (b, decide (r.2.1 = 1), v.2.1, b.2.1)
def instrN (sp : Sp) (o : Int) (m : M3) : M3 := if o = 1 then numberP m sp.val else if o = 8 then belowP m 13 else if o = 9 then belowP m 4 else if o = 10 then belowP m 2 else (m.1, 0, m.2.2)
def instrP (nl : Int) (sp : Sp) (m : M3) : M3 × (Int × Int × Int) :=
  let o := opP m sp.ws
  let v := instrN sp o.2.1 o
  let b := if o.2.1 = 1 then belowP v nl else (v.1, 0, v.2.2)
  (b, o.2.1, v.2.1, b.2.1)
def rowsP {α : Type} (f : M3 → M3 × α) (most : Int) (m : M3) : M3 × List α := timesF f (belowP m (most + 1)).2.1.toNat (belowP m (most + 1))
def genP (nl : Int) (sp : Sp) (m : M3) : M3 × Sta :=
  let c := rowsP (instrP nl sp) sp.code m
  let a := rowsP (atomP nl sp) sp.mem c.1
  let s := rowsP (slotP nl sp) sp.stack a.1
  let v := belowP s.1 13
  let l := belowP v nl
  (l, ⟨v.2.1, l.2.1, c.2, a.2, s.2, []⟩)
theorem is_below (b : Int) : Is (fun m => (belowP m b, (belowP m b).2.1)) (oneC b) := is_tookP (ans_one b)
theorem is_number (v : Int) : Is (fun m => (numberP m v, (numberP m v).2.1)) (numC v) := is_tookP (ans_num v)
theorem is_op (ws : List Int) : Is (fun m => (opP m ws, (opP m ws).2.1)) (opC ws) := is_tookP (ans_op ws)
theorem is_n (sp : Sp) (o : Int) : Is (fun m => (instrN sp o m, (instrN sp o m).2.1)) (nC sp o) := by
  unfold instrN nC
  by_cases h1 : o = 1
  · simp only [if_pos h1]; exact is_number _
  by_cases h8 : o = 8
  · simp only [if_neg h1, if_pos h8]; exact is_below _
  by_cases h9 : o = 9
  · simp only [if_neg h1, if_neg h8, if_pos h9]; exact is_below _
  by_cases h10 : o = 10
  · simp only [if_neg h1, if_neg h8, if_neg h9, if_pos h10]; exact is_below _
  simp only [if_neg h1, if_neg h8, if_neg h9, if_neg h10]; exact Is.ret0 0
theorem is_atom (nl : Int) (sp : Sp) : Is (atomP nl sp) (atomC nl sp) :=
  (Is.bind (is_number sp.val) (g := fun v m => (belowP m nl, v, (belowP m nl).2.1)) fun v => Is.bind (is_below nl) (g := fun l m => (m, v, l)) fun l => .ret (v, l)).ext fun m => rfl
theorem is_slot (nl : Int) (sp : Sp) : Is (slotP nl sp) (slotC nl sp) :=
  (Is.bind (is_below 2) (g := fun r m => (belowP (if r = 1 then belowP m 13 else numberP m sp.val) nl, decide (r = 1), (if r = 1 then belowP m 13 else numberP m sp.val).2.1, (belowP (if r = 1 then belowP m 13 else numberP m sp.val) nl).2.1)) fun r =>
    Is.bind (f := fun m => (if r = 1 then belowP m 13 else numberP m sp.val, (if r = 1 then belowP m 13 else numberP m sp.val).2.1)) (by
      by_cases h : r = 1
      · simp only [if_pos h]; exact is_below 13
      · simp only [if_neg h]; exact is_number _) (g := fun v m => (belowP m nl, decide (r = 1), v, (belowP m nl).2.1)) fun v => Is.bind (is_below nl) (g := fun l m => (m, decide (r = 1), v, l)) fun l => .ret _).ext fun m => rfl
theorem is_instr (nl : Int) (sp : Sp) : Is (instrP nl sp) (instrC nl sp) :=
  (Is.bind (is_op sp.ws) (g := fun o m => ((if o = 1 then belowP (instrN sp o m) nl else ((instrN sp o m).1, 0, (instrN sp o m).2.2)), o, (instrN sp o m).2.1, (if o = 1 then belowP (instrN sp o m) nl else ((instrN sp o m).1, 0, (instrN sp o m).2.2)).2.1)) fun o =>
    Is.bind (is_n sp o) (g := fun v m => ((if o = 1 then belowP m nl else (m.1, 0, m.2.2)), o, v, (if o = 1 then belowP m nl else (m.1, 0, m.2.2)).2.1)) fun v =>
      Is.bind (f := fun m => (if o = 1 then belowP m nl else (m.1, 0, m.2.2), (if o = 1 then belowP m nl else (m.1, 0, m.2.2)).2.1)) (by
        by_cases h : o = 1
        · simp only [if_pos h]; exact is_below nl
        · simp only [if_neg h]; exact Is.ret0 0) (g := fun l m => (m, o, v, l)) fun l => .ret _).ext fun m => rfl
theorem is_rowsP {α : Type} {f : M3 → M3 × α} {c : Cp α} (h : Is f c) (most : Int) : Is (rowsP f most) (c.rows most) := Is.rows (is_below (most + 1)) h
theorem is_gen (nl : Int) (sp : Sp) : Is (genP nl sp) (genC nl sp) :=
  (Is.bind (is_rowsP (is_instr nl sp) sp.code) (g := fun c m => let a := rowsP (atomP nl sp) sp.mem m; let s := rowsP (slotP nl sp) sp.stack a.1; let v := belowP s.1 13; let l := belowP v nl; (l, (⟨v.2.1, l.2.1, c, a.2, s.2, []⟩ : Sta))) fun c =>
    Is.bind (is_rowsP (is_atom nl sp) sp.mem) (g := fun a m => let s := rowsP (slotP nl sp) sp.stack m; let v := belowP s.1 13; let l := belowP v nl; (l, (⟨v.2.1, l.2.1, c, a, s.2, []⟩ : Sta))) fun a =>
      Is.bind (is_rowsP (is_slot nl sp) sp.stack) (g := fun s m => let v := belowP m 13; let l := belowP v nl; (l, (⟨v.2.1, l.2.1, c, a, s, []⟩ : Sta))) fun s =>
        Is.bind (is_below 13) (g := fun v m => let l := belowP m nl; (l, (⟨v, l.2.1, c, a, s, []⟩ : Sta))) fun v =>
          Is.bind (is_below nl) (g := fun l m => (m, (⟨v, l, c, a, s, []⟩ : Sta))) fun l => .ret _).ext fun m => rfl

/-! ### The reference's -/
def belowR (m : M3) (b : Int) : M3 := tookR m (takeF m.1 b)
def numberR (m : M3) (v : Int) : M3 := tookR m (signedF m.1 v)
def opR (m : M3) (ws : List Int) : M3 := tookR m (weightedF m.1 ws)
theorem isR_below (b : Int) : Is (fun m => (belowR m b, (belowR m b).2.1)) (oneC b) := is_tookR (ans_one b)
theorem isR_number (v : Int) : Is (fun m => (numberR m v, (numberR m v).2.1)) (numC v) := is_tookR (ans_num v)
theorem isR_op (ws : List Int) : Is (fun m => (opR m ws, (opR m ws).2.1)) (opC ws) := is_tookR (ans_op ws)
theorem tookR_bad {m t : M3} (h : ¬ m.2.2 = 0) : tookR m t = m := if_neg h
def instrR (nl : Int) (sp : Sp) (m : M3) : M3 × (Int × Int × Int) :=
  let o := opR m sp.ws
  if o.2.2 = 0 then
    if o.2.1 = 1 then let v := numberR o sp.val; let l := belowR v nl; (l, 1, v.2.1, l.2.1)
    else if o.2.1 = 8 then let v := belowR o 13; (v, 8, v.2.1, 0)
    else if o.2.1 = 9 then let v := belowR o 4; (v, 9, v.2.1, 0)
    else if o.2.1 = 10 then let v := belowR o 2; (v, 10, v.2.1, 0)
    else (o, o.2.1, 0, 0)
  else (o, 0, 0, 0)
def slotR (nl : Int) (sp : Sp) (m : M3) : M3 × (Bool × Int × Int) :=
  let r := belowR m 2
  let q := decide (r.2.2 = 0) && decide (r.2.1 = 1)
  let v := if q = true then belowR r 13 else numberR r sp.val
  let b := belowR v nl
  (b, q, v.2.1, b.2.1)
def atomR (nl : Int) (sp : Sp) (m : M3) : M3 × (Int × Int) := let a := numberR m sp.val; let b := belowR a nl; (b, a.2.1, b.2.1)
def rowsR {α : Type} (f : M3 → M3 × α) (most : Int) (m : M3) : M3 × List α := timesF f (belowR m (most + 1)).2.1.toNat (belowR m (most + 1))
def genR (nl : Int) (sp : Sp) (m : M3) : M3 × Sta :=
  let c := rowsR (instrR nl sp) sp.code m
  let a := rowsR (atomR nl sp) sp.mem c.1
  let s := rowsR (slotR nl sp) sp.stack a.1
  let v := belowR s.1 13
  let l := belowR v nl
  (l, ⟨v.2.1, l.2.1, c.2, a.2, s.2, []⟩)
theorem isR_atom (nl : Int) (sp : Sp) : Is (atomR nl sp) (atomC nl sp) :=
  (Is.bind (isR_number sp.val) (g := fun v m => (belowR m nl, v, (belowR m nl).2.1)) fun v => Is.bind (isR_below nl) (g := fun l m => (m, v, l)) fun l => .ret (v, l)).ext fun m => rfl
theorem isR_slot (nl : Int) (sp : Sp) : Is (slotR nl sp) (slotC nl sp) :=
  (Is.bindG (isR_below 2) (j := fun m => (slotR nl sp m).2) (g := fun r m => (belowR (if r = 1 then belowR m 13 else numberR m sp.val) nl, decide (r = 1), (if r = 1 then belowR m 13 else numberR m sp.val).2.1, (belowR (if r = 1 then belowR m 13 else numberR m sp.val) nl).2.1)) fun r =>
    Is.bind (f := fun m => (if r = 1 then belowR m 13 else numberR m sp.val, (if r = 1 then belowR m 13 else numberR m sp.val).2.1)) (by
      by_cases h : r = 1
      · simp only [if_pos h]; exact isR_below 13
      · simp only [if_neg h]; exact isR_number _) (g := fun v m => (belowR m nl, decide (r = 1), v, (belowR m nl).2.1)) fun v => Is.bind (isR_below nl) (g := fun l m => (m, decide (r = 1), v, l)) fun l => .ret _).ext fun m => by
    by_cases h : (belowR m 2).2.2 = 0
    · simp only [slotR, h, if_true, decide_true, Bool.true_and, decide_eq_true_eq]
    · simp only [slotR, h, if_false, decide_false, Bool.false_and, Bool.false_eq_true]
      rw [show numberR (belowR m 2) sp.val = belowR m 2 from tookR_bad h, show belowR (belowR m 2) nl = belowR m 2 from tookR_bad h]
theorem isR_instr (nl : Int) (sp : Sp) : Is (instrR nl sp) (instrC nl sp) :=
  (Is.bindG (isR_op sp.ws) (j := fun m => (0, 0, 0)) (g := fun o m => if o = 1 then (belowR (numberR m sp.val) nl, 1, (numberR m sp.val).2.1, (belowR (numberR m sp.val) nl).2.1) else if o = 8 then (belowR m 13, 8, (belowR m 13).2.1, 0) else if o = 9 then (belowR m 4, 9, (belowR m 4).2.1, 0) else if o = 10 then (belowR m 2, 10, (belowR m 2).2.1, 0) else (m, o, 0, 0)) fun o => by
    unfold nC
    by_cases h1 : o = 1
    · subst h1
      simp only [if_true]
      exact (Is.bind (isR_number sp.val) (g := fun v m => (belowR m nl, 1, v, (belowR m nl).2.1)) fun v => Is.bind (isR_below nl) (g := fun l m => (m, 1, v, l)) fun l => .ret _)
    by_cases h8 : o = 8
    · subst h8
      rw [if_neg h1, if_neg h1, if_pos rfl]
      simp only [if_neg h1, if_true]
      exact (Is.bind (isR_below 13) (g := fun v m => (m, 8, v, 0)) fun v => .ret _)
    by_cases h9 : o = 9
    · subst h9
      rw [if_neg h1, if_neg h1, if_neg h8, if_pos rfl]
      simp only [if_neg h1, if_neg h8, if_true]
      exact (Is.bind (isR_below 4) (g := fun v m => (m, 9, v, 0)) fun v => .ret _)
    by_cases h10 : o = 10
    · subst h10
      rw [if_neg h1, if_neg h1, if_neg h8, if_neg h9, if_pos rfl]
      simp only [if_neg h1, if_neg h8, if_neg h9, if_true]
      exact (Is.bind (isR_below 2) (g := fun v m => (m, 10, v, 0)) fun v => .ret _)
    rw [if_neg h1, if_neg h1, if_neg h8, if_neg h9, if_neg h10]
    simp only [if_neg h1, if_neg h8, if_neg h9, if_neg h10]
    exact .ret _).ext fun m => rfl
theorem is_rowsR {α : Type} {f : M3 → M3 × α} {c : Cp α} (h : Is f c) (most : Int) : Is (rowsR f most) (c.rows most) := Is.rows (isR_below (most + 1)) h
theorem isR_gen (nl : Int) (sp : Sp) : Is (genR nl sp) (genC nl sp) :=
  (Is.bind (is_rowsR (isR_instr nl sp) sp.code) (g := fun c m => let a := rowsR (atomR nl sp) sp.mem m; let s := rowsR (slotR nl sp) sp.stack a.1; let v := belowR s.1 13; let l := belowR v nl; (l, (⟨v.2.1, l.2.1, c, a.2, s.2, []⟩ : Sta))) fun c =>
    Is.bind (is_rowsR (isR_atom nl sp) sp.mem) (g := fun a m => let s := rowsR (slotR nl sp) sp.stack m; let v := belowR s.1 13; let l := belowR v nl; (l, (⟨v.2.1, l.2.1, c, a, s.2, []⟩ : Sta))) fun a =>
      Is.bind (is_rowsR (isR_slot nl sp) sp.stack) (g := fun s m => let v := belowR m 13; let l := belowR v nl; (l, (⟨v.2.1, l.2.1, c, a, s, []⟩ : Sta))) fun s =>
        Is.bind (isR_below 13) (g := fun v m => let l := belowR m nl; (l, (⟨v, l.2.1, c, a, s, []⟩ : Sta))) fun v =>
          Is.bind (isR_below nl) (g := fun l m => (m, (⟨v, l, c, a, s, []⟩ : Sta))) fun l => .ret _).ext fun m => rfl
end Go.Proofs.YtabliglgeiajlaaGreat.AM
