/- The reference's programs of templates, plainly. -/
import Derived.Test.YtabliglgeiajlaaGreatSP
import Derived.Test.YtabliglgeiajlaaGreatHT
set_option linter.unusedSimpArgs false
set_option linter.unusedVariables false
namespace Go.Proofs.YtabliglgeiajlaaGreat.AM
open Go Go.RowKit Go.Proofs

def seqNR (sp : Sp) (x : Int) (m : M3) : M3 := if addrB x = true then belowR m (sp.val + 1) else numberR m sp.val
def seqIR (nl : Int) (sp : Sp) (o x : Int) (m : M3) : M3 × (Int × Int × Int) :=
  if o = 1 then (belowR (seqNR sp x m) nl, 1, (seqNR sp x m).2.1, (belowR (seqNR sp x m) nl).2.1)
  else if o = 8 then (belowR m 13, 8, (belowR m 13).2.1, 0) else if o = 9 then (belowR m 4, 9, (belowR m 4).2.1, 0) else if o = 10 then (belowR m 2, 10, (belowR m 2).2.1, 0) else (m, o, 0, 0)
def addR (sp : Sp) (o : Int) (l : List (Int × Int × Int)) (x : Int × Int × Int) : List (Int × Int × Int) := if 0 < sp.ws.getD o.toNat 0 ∧ (l.length : Int) < sp.code then l ++ [x] else l
def tmplR (nl : Int) (sp : Sp) (ops : List Int) (l : List (Int × Int × Int)) : Nat → M3 → M3 × List (Int × Int × Int)
  | 0, m => (m, l)
  | i + 1, m => let r := tmplR nl sp ops l i m; let x := seqIR nl sp (ops.getD i 0) (ops.getD (i + 1) 0) r.1; (x.1, addR sp (ops.getD i 0) r.2 x.2)
def progR (nl : Int) (sp : Sp) : Nat → M3 → M3 × List (Int × Int × Int)
  | 0, m => (m, [])
  | i + 1, m => let r := progR nl sp i m; let w := belowR r.1 11; if w.2.2 = 0 then tmplR nl sp (tmpls.getD w.2.1.toNat []) r.2 (tmpls.getD w.2.1.toNat []).length w else (w, [])
def programR (nl : Int) (sp : Sp) (m : M3) : M3 × List (Int × Int × Int) := progR nl sp (belowR m (sp.code + 1)).2.1.toNat (belowR m (sp.code + 1))
theorem isR_seqI (nl : Int) (sp : Sp) (o x : Int) : Is (seqIR nl sp o x) (seqIC nl sp o x) := by
  unfold seqIR seqIC seqNC seqNR
  by_cases h1 : o = 1
  · subst h1
    simp only [if_true]
    by_cases hx : addrB x = true
    · simp only [if_pos hx]
      exact (Is.bind (isR_below (sp.val + 1)) (g := fun v m => (belowR m nl, 1, v, (belowR m nl).2.1)) fun v => Is.bind (isR_below nl) (g := fun l m => (m, 1, v, l)) fun l => .ret _)
    · simp only [if_neg hx]
      exact (Is.bind (isR_number sp.val) (g := fun v m => (belowR m nl, 1, v, (belowR m nl).2.1)) fun v => Is.bind (isR_below nl) (g := fun l m => (m, 1, v, l)) fun l => .ret _)
  simp only [if_neg h1]
  by_cases h8 : o = 8
  · subst h8
    simp only [if_true]
    exact (Is.bind (isR_below 13) (g := fun v m => (m, 8, v, 0)) fun v => .ret _)
  simp only [if_neg h8]
  by_cases h9 : o = 9
  · subst h9
    simp only [if_true]
    exact (Is.bind (isR_below 4) (g := fun v m => (m, 9, v, 0)) fun v => .ret _)
  simp only [if_neg h9]
  by_cases h10 : o = 10
  · subst h10
    simp only [if_true]
    exact (Is.bind (isR_below 2) (g := fun v m => (m, 10, v, 0)) fun v => .ret _)
  simp only [if_neg h10]
  exact .ret _
theorem addR_take {sp : Sp} (h0 : 0 ≤ sp.code) (o : Int) (l t : List (Int × Int × Int)) (x : Int × Int × Int) : addR sp o ((l ++ t).take sp.code.toNat) x = (l ++ addI sp o t x).take sp.code.toNat := by
  unfold addR addI
  obtain ⟨q, hq⟩ : ∃ q, l ++ t = q := ⟨_, rfl⟩
  by_cases hw : 0 < sp.ws.getD o.toNat 0
  · rw [if_pos hw, ← List.append_assoc, hq]
    by_cases hl : q.length < sp.code.toNat
    · rw [List.take_of_length_le (Nat.le_of_lt hl), if_pos ⟨hw, by omega⟩, List.take_of_length_le (by rw [List.length_append]; simp; omega)]
    · rw [if_neg (fun h => by have := h.2; rw [List.length_take] at this; omega), List.take_append_of_le_length (by omega)]
  · rw [if_neg hw, if_neg (fun h => hw h.1)]
def tmplRC (nl : Int) (sp : Sp) (ops : List Int) (l : List (Int × Int × Int)) : Nat → Cp (List (Int × Int × Int))
  | 0 => .ret l
  | i + 1 => (tmplRC nl sp ops l i).bind fun t => (seqIC nl sp (ops.getD i 0) (ops.getD (i + 1) 0)).bind fun x => .ret (addR sp (ops.getD i 0) t x)
def progRC (nl : Int) (sp : Sp) : Nat → Cp (List (Int × Int × Int))
  | 0 => .ret []
  | i + 1 => (progRC nl sp i).bind fun l => (oneC 11).bind fun w => tmplRC nl sp (tmpls.getD w.toNat []) l (tmpls.getD w.toNat []).length
theorem isR_tmpl (nl : Int) (sp : Sp) (ops : List Int) (l : List (Int × Int × Int)) : ∀ n, Is (tmplR nl sp ops l n) (tmplRC nl sp ops l n)
  | 0 => .ret l
  | i + 1 => (Is.bind (isR_tmpl nl sp ops l i) (g := fun t m => ((seqIR nl sp (ops.getD i 0) (ops.getD (i + 1) 0) m).1, addR sp (ops.getD i 0) t (seqIR nl sp (ops.getD i 0) (ops.getD (i + 1) 0) m).2)) fun t =>
    Is.bind (isR_seqI nl sp (ops.getD i 0) (ops.getD (i + 1) 0)) (g := fun x m => (m, addR sp (ops.getD i 0) t x)) fun x => .ret _).ext fun m => rfl
theorem isR_prog (nl : Int) (sp : Sp) : ∀ n, Is (progR nl sp n) (progRC nl sp n)
  | 0 => .ret []
  | i + 1 => (Is.bind (isR_prog nl sp i) (g := fun l m => if (belowR m 11).2.2 = 0 then tmplR nl sp (tmpls.getD (belowR m 11).2.1.toNat []) l (tmpls.getD (belowR m 11).2.1.toNat []).length (belowR m 11) else (belowR m 11, [])) fun l =>
    Is.bindG (isR_below 11) (j := fun _ => ([] : List (Int × Int × Int))) (g := fun w m => tmplR nl sp (tmpls.getD w.toNat []) l (tmpls.getD w.toNat []).length m) fun w => isR_tmpl nl sp _ l _).ext fun m => rfl
theorem tmplRC_eq {nl : Int} {sp : Sp} (h0 : 0 ≤ sp.code) (ops : List Int) (l : List (Int × Int × Int)) : ∀ n, tmplRC nl sp ops (l.take sp.code.toNat) n = (tmplC nl sp ops n).bind fun t => .ret ((l ++ t).take sp.code.toNat)
  | 0 => by simp only [tmplRC, tmplC, Cp.bind, List.append_nil]
  | i + 1 => by
    simp only [tmplRC, tmplC, tmplRC_eq h0 ops l i, Cp.bind_assoc, Cp.bind, addR_take h0]
theorem progRC_eq {nl : Int} {sp : Sp} (h0 : 0 ≤ sp.code) : ∀ n, progRC nl sp n = (progC nl sp n).bind fun l => .ret (l.take sp.code.toNat)
  | 0 => by simp only [progRC, progC, Cp.bind, List.take_nil]
  | i + 1 => by
    simp only [progRC, progC, progRC_eq h0 i, Cp.bind_assoc, Cp.bind, tmplRC_eq h0]
theorem isR_program {nl : Int} {sp : Sp} (h0 : 0 ≤ sp.code) : Is (programR nl sp) (programC nl sp) := by
  have h := Is.bind (isR_below (sp.code + 1)) (g := fun n m => progR nl sp n.toNat m) fun n => isR_prog nl sp n.toNat
  have he : ((oneC (sp.code + 1)).bind fun n => progRC nl sp n.toNat) = programC nl sp := by
    unfold programC
    congr 1
    funext n
    exact progRC_eq h0 _
  rw [he] at h
  exact h
theorem programR_len {nl : Int} {sp : Sp} (h0 : 0 ≤ sp.code) : ∀ n m, ((progR nl sp n m).2.length : Int) ≤ sp.code := by
  have ht : ∀ (ops : List Int) (l : List (Int × Int × Int)), (l.length : Int) ≤ sp.code → ∀ n m, ((tmplR nl sp ops l n m).2.length : Int) ≤ sp.code := fun ops l hl n => by
    induction n with
    | zero => intro m; exact hl
    | succ n ih =>
      intro m
      simp only [tmplR, addR]
      have := ih m
      split
      · rename_i h; rw [List.length_append]; simp; omega
      · exact this
  intro n
  induction n with
  | zero => intro m; simpa [progR] using h0
  | succ n ih =>
    intro m
    simp only [progR]
    split
    · exact ht _ _ (ih m) _ _
    · simpa using h0
end Go.Proofs.YtabliglgeiajlaaGreat.AM
