/- States that choices make, plainly. -/
import Derived.Test.YtabliglgeiajlaaHC
import Derived.Test.YtabliglgeiajlaaQ1
set_option linter.unusedSimpArgs false
set_option linter.unusedVariables false
namespace Go.Proofs.Ytabliglgeiajlaa.AM
open Go Go.RowKit Go.Proofs

/-- A space. -/
structure Sp where
  code : Int
  mem : Int
  stack : Int
  val : Int
  ws : List Int
section
variable {α β : Type}
theorem Is.ret0 (x : α) : Is (fun m => ((m.1, 0, m.2.2), x)) (.ret x) := ⟨fun d n => ⟨0, rfl⟩, fun _ _ _ _ => rfl⟩
end
/-- Rows: so many at most. -/
theorem Is.rows {α : Type} {b : M3 → M3 × Int} {f : M3 → M3 × α} {c : Cp α} {most : Int} (hb : Is b (oneC (most + 1))) (h : Is f c) : Is (fun m => timesF f (b m).2.toNat (b m).1) (c.rows most) :=
  Is.bind hb (g := fun n => timesF f n.toNat) (k := fun n => c.times n.toNat) fun n => h.times _

/-! ### What is made -/
def nC (sp : Sp) (o : Int) : Cp Int := if o = 1 then numC sp.val else if o = 8 then oneC 13 else if o = 9 then oneC 4 else if o = 10 then oneC 2 else .ret 0
def instrC (nl : Int) (sp : Sp) : Cp (Int × Int × Int) := (opC sp.ws).bind fun o => (nC sp o).bind fun v => (if o = 1 then oneC nl else .ret 0).bind fun l => .ret (o, v, l)
def atomC (nl : Int) (sp : Sp) : Cp (Int × Int) := (numC sp.val).bind fun v => (oneC nl).bind fun l => .ret (v, l)
def slotC (nl : Int) (sp : Sp) : Cp (Bool × Int × Int) := (oneC 2).bind fun r => (if r = 1 then oneC 13 else numC sp.val).bind fun v => (oneC nl).bind fun l => .ret (decide (r = 1), v, l)
def genC (nl : Int) (sp : Sp) : Cp Sta := ((instrC nl sp).rows sp.code).bind fun c => ((atomC nl sp).rows sp.mem).bind fun m => ((slotC nl sp).rows sp.stack).bind fun s => (oneC 13).bind fun v => (oneC nl).bind fun l => .ret ⟨v, l, c, m, s, []⟩
def Sta.z : Sta := ⟨0, 0, [], [], [], []⟩
/-- How a run ends. -/
def endF {α : Type} (z : α) (r : Except Int (Dr × α)) : Dr × α × Int := match r with | .ok (d, x) => (d, x, 0) | .error e => (Dr.z, z, e)
theorem Is.end {α : Type} {f : M3 → M3 × α} {c : Cp α} (h : Is f c) (z : α) (d : Dr) (n : Int) : endF z (c.run d) = if (f (d, n, 0)).1.2.2 = 0 then ((f (d, n, 0)).1.1, (f (d, n, 0)).2, 0) else (Dr.z, z, (f (d, n, 0)).1.2.2) := by
  have := h.1 d n
  cases hr : c.run d with
  | error e =>
    rw [hr] at this
    obtain ⟨he, h2⟩ := this
    rw [h2, if_neg he]; rfl
  | ok r =>
    obtain ⟨d', x⟩ := r
    rw [hr] at this
    obtain ⟨n', hf⟩ := this
    rw [hf, if_pos rfl]; rfl

/-! ### The program's maker -/
def belowP (m : M3) (b : Int) : M3 := tookP m (takeF m.1 b)
def numberP (m : M3) (v : Int) : M3 := tookP m (signedF m.1 v)
def opP (m : M3) (ws : List Int) : M3 := tookP m (weightedF m.1 ws)
def atomP (nl : Int) (sp : Sp) (m : M3) : M3 × (Int × Int) := let a := numberP m sp.val; let b := belowP a nl; (b, a.2.1, b.2.1)
def slotP (nl : Int) (sp : Sp) (m : M3) : M3 × (Bool × Int × Int) :=
  let r := belowP m 2
  let v := if r.2.1 = 1 then belowP r 13 else numberP r sp.val
  let b := belowP v nl
  (b, decide (r.2.1 = 1), v.2.1, b.2.1)
def instrN (sp : Sp) (o : Int) (m : M3) : M3 := if o = 1 then numberP m sp.val else if o = 8 then belowP m 13 else if o = 9 then belowP m 4 else if o = 10 then belowP m 2 else (m.1, 0, m.2.2)
def instrP (nl : Int) (sp : Sp) (m : M3) : M3 × (Int × Int × Int) :=
  let o := opP m sp.ws
  let v := instrN sp o.2.1 o
  let b := if o.2.1 = 1 then belowP v nl else (v.1, 0, v.2.2)
  (b, o.2.1, v.2.1, b.2.1)
def rowsP {α : Type} (f : M3 → M3 × α) (most : Int) (m : M3) : M3 × List α := timesF f (belowP m (most + 1)).2.1.toNat (belowP m (most + 1))
def genP (nl : Int) (sp : Sp) (m : M3) : M3 × Sta :=
  let c := rowsP (instrP nl sp) sp.code m
  let a := rowsP (atomP nl sp) sp.mem c.1
  let s := rowsP (slotP nl sp) sp.stack a.1
  let v := belowP s.1 13
  let l := belowP v nl
  (l, ⟨v.2.1, l.2.1, c.2, a.2, s.2, []⟩)
theorem is_below (b : Int) : Is (fun m => (belowP m b, (belowP m b).2.1)) (oneC b) := is_tookP (ans_one b)
theorem is_number (v : Int) : Is (fun m => (numberP m v, (numberP m v).2.1)) (numC v) := is_tookP (ans_num v)
theorem is_op (ws : List Int) : Is (fun m => (opP m ws, (opP m ws).2.1)) (opC ws) := is_tookP (ans_op ws)
theorem is_n (sp : Sp) (o : Int) : Is (fun m => (instrN sp o m, (instrN sp o m).2.1)) (nC sp o) := by
  unfold instrN nC
  by_cases h1 : o = 1
  · simp only [if_pos h1]; exact is_number _
  by_cases h8 : o = 8
  · simp only [if_neg h1, if_pos h8]; exact is_below _
  by_cases h9 : o = 9
  · simp only [if_neg h1, if_neg h8, if_pos h9]; exact is_below _
  by_cases h10 : o = 10
  · simp only [if_neg h1, if_neg h8, if_neg h9, if_pos h10]; exact is_below _
  simp only [if_neg h1, if_neg h8, if_neg h9, if_neg h10]; exact Is.ret0 0
theorem is_atom (nl : Int) (sp : Sp) : Is (atomP nl sp) (atomC nl sp) :=
  (Is.bind (is_number sp.val) (g := fun v m => (belowP m nl, v, (belowP m nl).2.1)) fun v => Is.bind (is_below nl) (g := fun l m => (m, v, l)) fun l => .ret (v, l)).ext fun m => rfl
theorem is_slot (nl : Int) (sp : Sp) : Is (slotP nl sp) (slotC nl sp) :=
  (Is.bind (is_below 2) (g := fun r m => (belowP (if r = 1 then belowP m 13 else numberP m sp.val) nl, decide (r = 1), (if r = 1 then belowP m 13 else numberP m sp.val).2.1, (belowP (if r = 1 then belowP m 13 else numberP m sp.val) nl).2.1)) fun r =>
    Is.bind (f := fun m => (if r = 1 then belowP m 13 else numberP m sp.val, (if r = 1 then belowP m 13 else numberP m sp.val).2.1)) (by
      by_cases h : r = 1
      · simp only [if_pos h]; exact is_below 13
      · simp only [if_neg h]; exact is_number _) (g := fun v m => (belowP m nl, decide (r = 1), v, (belowP m nl).2.1)) fun v => Is.bind (is_below nl) (g := fun l m => (m, decide (r = 1), v, l)) fun l => .ret _).ext fun m => rfl
theorem is_instr (nl : Int) (sp : Sp) : Is (instrP nl sp) (instrC nl sp) :=
  (Is.bind (is_op sp.ws) (g := fun o m => ((if o = 1 then belowP (instrN sp o m) nl else ((instrN sp o m).1, 0, (instrN sp o m).2.2)), o, (instrN sp o m).2.1, (if o = 1 then belowP (instrN sp o m) nl else ((instrN sp o m).1, 0, (instrN sp o m).2.2)).2.1)) fun o =>
    Is.bind (is_n sp o) (g := fun v m => ((if o = 1 then belowP m nl else (m.1, 0, m.2.2)), o, v, (if o = 1 then belowP m nl else (m.1, 0, m.2.2)).2.1)) fun v =>
      Is.bind (f := fun m => (if o = 1 then belowP m nl else (m.1, 0, m.2.2), (if o = 1 then belowP m nl else (m.1, 0, m.2.2)).2.1)) (by
        by_cases h : o = 1
        · simp only [if_pos h]; exact is_below nl
        · simp only [if_neg h]; exact Is.ret0 0) (g := fun l m => (m, o, v, l)) fun l => .ret _).ext fun m => rfl
theorem is_rowsP {α : Type} {f : M3 → M3 × α} {c : Cp α} (h : Is f c) (most : Int) : Is (rowsP f most) (c.rows most) := Is.rows (is_below (most + 1)) h
theorem is_gen (nl : Int) (sp : Sp) : Is (genP nl sp) (genC nl sp) :=
  (Is.bind (is_rowsP (is_instr nl sp) sp.code) (g := fun c m => let a := rowsP (atomP nl sp) sp.mem m; let s := rowsP (slotP nl sp) sp.stack a.1; let v := belowP s.1 13; let l := belowP v nl; (l, (⟨v.2.1, l.2.1, c, a.2, s.2, []⟩ : Sta))) fun c =>
    Is.bind (is_rowsP (is_atom nl sp) sp.mem) (g := fun a m => let s := rowsP (slotP nl sp) sp.stack m; let v := belowP s.1 13; let l := belowP v nl; (l, (⟨v.2.1, l.2.1, c, a, s.2, []⟩ : Sta))) fun a =>
      Is.bind (is_rowsP (is_slot nl sp) sp.stack) (g := fun s m => let v := belowP m 13; let l := belowP v nl; (l, (⟨v.2.1, l.2.1, c, a, s, []⟩ : Sta))) fun s =>
        Is.bind (is_below 13) (g := fun v m => let l := belowP m nl; (l, (⟨v, l.2.1, c, a, s, []⟩ : Sta))) fun v =>
          Is.bind (is_below nl) (g := fun l m => (m, (⟨v, l, c, a, s, []⟩ : Sta))) fun l => .ret _).ext fun m => rfl

/-! ### The reference's -/
end Go.Proofs.Ytabliglgeiajlaa.AM
