/- Spaces, plainly: what is in one, and that what is made is. -/
import Derived.Test.YtabliglgeiajlaaGreatHD
import Derived.Test.YtabliglgeiajlaaGreatU6
import Derived.Test.YtabliglgeiajlaaGreatQ2
set_option linter.unusedSimpArgs false
set_option linter.unusedVariables false
namespace Go.Proofs.YtabliglgeiajlaaGreat.AM
open Go Go.RowKit Go.Proofs

def inB (a b n : Int) : Bool := decide (a ≤ n) && decide (n ≤ b)
def instrB (n : Nat) (x : Int × Int × Int) : Bool :=
  if x.1 = 1 then inB (-20) 20 x.2.1 && !oddL n x.2.2
  else inB 0 12 x.1 && (decide (x.2.2 = 0) && (if x.1 = 8 then inB 0 12 x.2.1 else if x.1 = 9 then inB 0 3 x.2.1 else if x.1 = 10 then inB 0 1 x.2.1 else decide (x.2.1 = 0)))
def atomB (n : Nat) (x : Int × Int) : Bool := inB (-20) 20 x.1 && !oddL n x.2
def slotB (n : Nat) (x : Bool × Int × Int) : Bool := !oddL n x.2.2 && (if x.1 = true then inB 0 12 x.2.1 else inB (-20) 20 x.2.1)
def codeB (n : Nat) (c : List (Int × Int × Int)) : Bool := c.all (instrB n) && decide (c.length ≤ 12)
def staB (n : Nat) (s : Sta) : Bool :=
  codeB n s.code && (inB 0 12 s.v && (!oddL n s.l && (s.mem.all (atomB n) && (decide (s.mem.length ≤ 6) && (s.stack.all (slotB n) && (decide (s.stack.length ≤ 12) && (s.out.all (atomB n) && decide (s.out.length ≤ 8))))))))
def spB (sp : Sp) : Bool := inB 0 12 sp.code && (inB 0 6 sp.mem && (inB 0 12 sp.stack && (inB 0 20 sp.val && (decide (sp.ws.length = 13) && weightsB sp.ws))))
def instrIn (sp : Sp) (x : Int × Int × Int) : Bool := !decide (sp.ws.getD x.1.toNat 0 = 0) && (!decide (x.1 = 1) || inB (-sp.val) sp.val x.2.1)
def hasB (n : Nat) (sp : Sp) (s : Sta) : Bool :=
  staB n s && (decide ((s.code.length : Int) ≤ sp.code) && (decide ((s.mem.length : Int) ≤ sp.mem) && (decide ((s.stack.length : Int) ≤ sp.stack) && (decide (s.out.length = 0) &&
    (s.code.all (instrIn sp) && (s.mem.all (fun a => inB (-sp.val) sp.val a.1) && s.stack.all (fun x => x.1 || inB (-sp.val) sp.val x.2.1)))))))
theorem inB_iff {a b n : Int} : inB a b n = true ↔ a ≤ n ∧ n ≤ b := by simp [inB]
theorem oddL_iff {n : Nat} {a : Int} : oddL n a = false ↔ 0 ≤ a ∧ a < n := by simp [oddL]
structure SpOk (sp : Sp) : Prop where
  c0 : 0 ≤ sp.code
  c1 : sp.code ≤ 12
  m0 : 0 ≤ sp.mem
  m1 : sp.mem ≤ 6
  s0 : 0 ≤ sp.stack
  s1 : sp.stack ≤ 12
  v0 : 0 ≤ sp.val
  v1 : sp.val ≤ 20
  wl : sp.ws.length = 13
  ww : weightsB sp.ws = true
theorem spB_iff {sp : Sp} : spB sp = true ↔ SpOk sp := by
  simp only [spB, Bool.and_eq_true, inB_iff, decide_eq_true_eq]
  constructor
  · rintro ⟨⟨h1, h2⟩, ⟨h3, h4⟩, ⟨h5, h6⟩, ⟨h7, h8⟩, h9, h10⟩; exact ⟨h1, h2, h3, h4, h5, h6, h7, h8, h9, h10⟩
  · rintro ⟨h1, h2, h3, h4, h5, h6, h7, h8, h9, h10⟩; exact ⟨⟨h1, h2⟩, ⟨h3, h4⟩, ⟨h5, h6⟩, ⟨h7, h8⟩, h9, h10⟩
/-! ### What each part makes -/
theorem madeI_in {v n : Int} (hv : 0 ≤ v) (h0 : 0 ≤ n) (h1 : n < 2 * v + 1) : -v ≤ madeI n ∧ madeI n ≤ v := by
  unfold madeI; split <;> omega
theorem numC_all {v : Int} (hv : 0 ≤ v) : (numC v).All fun x => -v ≤ x ∧ x ≤ v := by
  unfold numC
  split
  · trivial
  · exact fun n h0 h1 => madeI_in hv h0 h1
theorem oneC_all (b : Int) : (oneC b).All fun x => 0 ≤ x ∧ x < b := fun n h0 h1 => ⟨h0, h1⟩
theorem opC_all {ws : List Int} (h : weightsB ws = true) : (opC ws).All fun (x : Int) => 0 ≤ x ∧ x < ws.length ∧ ws.getD x.toNat 0 ≠ 0 := by
  have hw := weightsB_le h
  unfold opC
  rw [if_neg (by rw [h]; simp)]
  intro n h0 h1
  have hp := (pickI_iff hw.2.2.1 h0 h1 (i := pickI ws n)).1 rfl
  obtain ⟨k, hkl, hk, h2, h3⟩ := hp
  show 0 ≤ pickI ws n ∧ pickI ws n < (ws.length : Int) ∧ ws.getD (pickI ws n).toNat 0 ≠ 0
  rw [hk]
  refine ⟨by omega, by omega, ?_⟩
  rw [Int.toNat_natCast, List.getD_eq_getElem?_getD, List.getElem?_eq_getElem hkl]
  have := take_sum_succ hkl
  simp only [Option.getD_some]
  omega
theorem instrC_all {nl : Nat} {sp : Sp} (h : SpOk sp) : (instrC nl sp).All fun x => instrB nl x = true ∧ instrIn sp x = true := by
  refine Cp.all_bind _ _ (opC_all h.ww) fun o ho => ?_
  rw [h.wl] at ho
  obtain ⟨h0, h1, h2⟩ := ho
  have hv0 := h.v0
  have hv1 := h.v1
  by_cases e1 : o = 1
  · subst e1
    refine Cp.all_bind (p := fun x => -sp.val ≤ x ∧ x ≤ sp.val) _ _ (by unfold nC; rw [if_pos rfl]; exact numC_all h.v0) fun v hv => ?_
    refine Cp.all_bind (p := fun x => 0 ≤ x ∧ x < (nl : Int)) _ _ (by rw [if_pos rfl]; exact oneC_all _) fun l hl => ?_
    refine ⟨?_, ?_⟩
    · simp only [instrB, if_true, Bool.and_eq_true, inB_iff, Bool.not_eq_true', oddL_iff]
      omega
    · simp only [instrIn, Bool.and_eq_true, Bool.not_eq_true', decide_eq_false_iff_not, Bool.or_eq_true, inB_iff]
      exact ⟨h2, .inr hv⟩
  · have hin : ∀ v, instrIn sp (o, v, 0) = true := fun v => by
      simp only [instrIn, Bool.and_eq_true, Bool.not_eq_true', decide_eq_false_iff_not, Bool.or_eq_true]
      exact ⟨h2, .inl e1⟩
    refine Cp.all_bind (p := fun v => instrB nl (o, v, 0) = true) _ _ ?_ fun v hv => ?_
    · have ho : inB 0 12 o = true := inB_iff.2 (by omega)
      unfold nC
      rw [if_neg e1]
      split
      · rename_i e; refine Cp.all_mono _ (oneC_all _) fun x hx => ?_
        simp only [instrB]; rw [if_neg e1, if_pos e, ho]; simp [inB]; omega
      split
      · rename_i e8 e; refine Cp.all_mono _ (oneC_all _) fun x hx => ?_
        simp only [instrB]; rw [if_neg e1, if_neg e8, if_pos e, ho]; simp [inB]; omega
      split
      · rename_i e8 e9 e; refine Cp.all_mono _ (oneC_all _) fun x hx => ?_
        simp only [instrB]; rw [if_neg e1, if_neg e8, if_neg e9, if_pos e, ho]; simp [inB]; omega
      · rename_i e8 e9 e10
        show instrB nl (o, 0, 0) = true
        simp only [instrB]; rw [if_neg e1, if_neg e8, if_neg e9, if_neg e10, ho]; rfl
    · rw [if_neg e1]
      exact ⟨hv, hin v⟩
theorem atomC_all {nl : Nat} {sp : Sp} (h : SpOk sp) : (atomC nl sp).All fun x => atomB nl x = true ∧ inB (-sp.val) sp.val x.1 = true := by
  have hv1 := h.v1
  refine Cp.all_bind _ _ (numC_all h.v0) fun v hv => Cp.all_bind _ _ (oneC_all _) fun l hl => ?_
  simp only [Cp.All, atomB, Bool.and_eq_true, inB_iff, Bool.not_eq_true', oddL_iff]
  omega
theorem slotC_all {nl : Nat} {sp : Sp} (h : SpOk sp) : (slotC nl sp).All fun x => slotB nl x = true ∧ (x.1 || inB (-sp.val) sp.val x.2.1) = true := by
  have hv1 := h.v1
  refine Cp.all_bind _ _ (Cp.all_true _) fun r _ => ?_
  by_cases hr : r = 1
  · rw [if_pos hr, decide_eq_true hr]
    refine Cp.all_bind _ _ (oneC_all _) fun v hv => Cp.all_bind _ _ (oneC_all _) fun l hl => ?_
    simp only [Cp.All, slotB, if_true, Bool.and_eq_true, inB_iff, Bool.not_eq_true', oddL_iff, Bool.true_or, and_true]
    omega
  · rw [if_neg hr, decide_eq_false hr]
    refine Cp.all_bind _ _ (numC_all h.v0) fun v hv => Cp.all_bind _ _ (oneC_all _) fun l hl => ?_
    simp only [Cp.All, slotB, Bool.false_eq_true, if_false, Bool.and_eq_true, inB_iff, Bool.not_eq_true', oddL_iff, Bool.false_or]
    omega
theorem rows_all {α : Type} {p : α → Prop} {c : Cp α} (h : c.All p) (most : Int) : (c.rows most).All fun l => (l.length : Int) ≤ most ∧ ∀ x ∈ l, p x := fun n h0 h1 =>
  Cp.all_mono _ (Cp.all_times h n.toNat) fun l hl => ⟨by omega, hl.2⟩
theorem genC_all {nl : Nat} {sp : Sp} (h : SpOk sp) : (genC nl sp).All fun s => hasB nl sp s = true := by
  refine Cp.all_bind _ _ (rows_all (instrC_all h) _) fun c hc => Cp.all_bind _ _ (rows_all (atomC_all h) _) fun m hm => Cp.all_bind _ _ (rows_all (slotC_all h) _) fun s hs => Cp.all_bind _ _ (oneC_all _) fun v hv => Cp.all_bind _ _ (oneC_all _) fun l hl => ?_
  obtain ⟨h1, h2, h3, h4, h5, h6, h7, h8, _, _⟩ := h
  simp only [Cp.All, hasB, staB, codeB, Bool.and_eq_true, inB_iff, decide_eq_true_eq, Bool.not_eq_true', oddL_iff, List.all_eq_true, List.length_nil, List.not_mem_nil, false_implies, implies_true, and_true]
  refine ⟨⟨⟨fun x hx => (hc.2 x hx).1, by omega⟩, by omega, hl, fun x hx => (hm.2 x hx).1, by omega, fun x hx => (hs.2 x hx).1, by omega, by first | omega | trivial | (simp; done)⟩, hc.1, hm.1, hs.1, trivial, fun x hx => (hc.2 x hx).2, fun x hx => ?_, fun x hx => (hs.2 x hx).2⟩
  exact inB_iff.1 (hm.2 x hx).2
/-! ### How many choices -/
theorem deep_one (b : Int) : Cp.Deep 1 (oneC b) := fun _ _ _ => trivial
theorem deep_num (b : Int) : Cp.Deep 1 (numC b) := by unfold numC; split; trivial; exact fun _ _ _ => trivial
theorem deep_op (ws : List Int) : Cp.Deep 1 (opC ws) := by unfold opC; split; trivial; exact fun _ _ _ => trivial
theorem deep_ret {α : Type} (n : Nat) (x : α) : Cp.Deep n (.ret x) := by cases n <;> trivial
theorem deep_instr (nl : Int) (sp : Sp) : Cp.Deep 3 (instrC nl sp) :=
  Cp.deep_bind (n := 1) (m := 2) _ _ (deep_op _) (Cp.all_true _) fun o _ => Cp.deep_bind (n := 1) (m := 1) _ _ (by unfold nC; split; exact deep_num _; split; exact deep_one _; split; exact deep_one _; split; exact deep_one _; exact deep_ret _ _) (Cp.all_true _) fun v _ => Cp.deep_bind (n := 1) (m := 0) _ _ (by split; exact deep_one _; exact deep_ret _ _) (Cp.all_true _) fun l _ => trivial
theorem deep_atom (nl : Int) (sp : Sp) : Cp.Deep 2 (atomC nl sp) :=
  Cp.deep_bind (n := 1) (m := 1) _ _ (deep_num _) (Cp.all_true _) fun o _ => Cp.deep_bind (n := 1) (m := 0) _ _ (deep_one _) (Cp.all_true _) fun l _ => trivial
theorem deep_slot (nl : Int) (sp : Sp) : Cp.Deep 3 (slotC nl sp) :=
  Cp.deep_bind (n := 1) (m := 2) _ _ (deep_one _) (Cp.all_true _) fun o _ => Cp.deep_bind (n := 1) (m := 1) _ _ (by split; exact deep_one _; exact deep_num _) (Cp.all_true _) fun v _ => Cp.deep_bind (n := 1) (m := 0) _ _ (deep_one _) (Cp.all_true _) fun l _ => trivial
theorem deep_rows {α : Type} {n k : Nat} {c : Cp α} (h : Cp.Deep n c) {most : Int} (hm : most ≤ k) : Cp.Deep (1 + k * n) (c.rows most) := by
  rw [Nat.add_comm]
  intro j h0 h1
  exact Cp.deep_mono _ (Cp.deep_times h j.toNat) (Nat.mul_le_mul_right n (by omega))
theorem deep_gen {nl : Nat} {sp : Sp} (h : SpOk sp) : Cp.Deep 89 (genC nl sp) :=
  Cp.deep_bind (n := 37) (m := 52) _ _ (deep_rows (k := 12) (deep_instr _ _) h.c1) (Cp.all_true _) fun c _ => Cp.deep_bind (n := 13) (m := 39) _ _ (deep_rows (k := 6) (deep_atom _ _) h.m1) (Cp.all_true _) fun m _ =>
    Cp.deep_bind (n := 37) (m := 2) _ _ (deep_rows (k := 12) (deep_slot _ _) h.s1) (Cp.all_true _) fun s _ => Cp.deep_bind (n := 1) (m := 1) _ _ (deep_one _) (Cp.all_true _) fun v _ => Cp.deep_bind (n := 1) (m := 0) _ _ (deep_one _) (Cp.all_true _) fun l _ => trivial
/-! ### What choices of one's own make -/
theorem run_again {α : Type} {c : Cp α} {k : Nat} (hd : Cp.Deep k c) (hk : k ≤ 500) {l : List Int} {d : Dr} {x : α} (h : c.run ⟨l, 0, []⟩ = .ok (d, x)) : c.path d.g = some x ∧ d.g.length ≤ k ∧ c.run ⟨d.g, 0, []⟩ = .ok (⟨d.g, (d.g.length : Int), d.g⟩, x) := by
  obtain ⟨cs, h1, h2, _⟩ := Cp.run_path c h
  simp only [List.nil_append] at h2
  rw [h2]
  have hl := Cp.path_deep c hd h1
  have := Cp.path_run c (L := cs) (g := []) (a := 0) h1 (by omega) (by simp; omega) ⟨[], by simp⟩
  simp only [Nat.zero_add, List.nil_append] at this
  exact ⟨h1, hl, this⟩
theorem take_none {a : Int} {g : List Int} {b : Int} (ha : 0 ≤ a) (hg : g.length < 2000) (hb : 1 ≤ b) : takeF ⟨[], a, g⟩ b = (⟨[], a, g ++ [0]⟩, 0, 0) := by
  rw [takeF_0 (by simp [rightB]; omega) (by omega) (by omega)]
  simp [choiceI]; omega
theorem gen_none {nl : Nat} {sp : Sp} (h : SpOk sp) (hn : 1 ≤ nl) : ∃ d, (genC nl sp).run ⟨[], 0, []⟩ = .ok (d, Sta.z) := by
  obtain ⟨h1, h2, h3, h4, h5, h6, h7, h8, _, _⟩ := h
  simp only [genC, Cp.rows, Cp.bind, Cp.run, oneC]
  rw [take_none (by omega) (by simp) (by omega)]
  simp only [Int.toNat_zero, Cp.times, Cp.bind, Cp.run, if_true]
  rw [take_none (by omega) (by simp) (by omega)]
  simp only [Int.toNat_zero, Cp.times, Cp.bind, Cp.run, if_true]
  rw [take_none (by omega) (by simp) (by omega)]
  simp only [Int.toNat_zero, Cp.times, Cp.bind, Cp.run, if_true]
  rw [take_none (by omega) (by simp) (by omega)]
  simp only [if_true]
  rw [take_none (by omega) (by simp) (by omega)]
  exact ⟨_, rfl⟩
end Go.Proofs.YtabliglgeiajlaaGreat.AM
