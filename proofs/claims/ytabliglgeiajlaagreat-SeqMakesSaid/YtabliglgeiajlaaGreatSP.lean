/- Programs made of templates, plainly. -/
import Derived.Test.YtabliglgeiajlaaGreatHE
set_option linter.unusedSimpArgs false
set_option linter.unusedVariables false
namespace Go.Proofs.YtabliglgeiajlaaGreat.AM
open Go Go.RowKit Go.Proofs

def tmpls : List (List Int) := [[1], [1, 1, 6], [1, 5], [1, 8], [1, 7], [1, 9], [1, 11], [1, 1, 3], [2, 1], [10], [12]]
def addrB (op : Int) : Bool := [6, 5, 7, 9].any fun y => op == y
def seqNC (sp : Sp) (o x : Int) : Cp Int := if o = 1 then (if addrB x = true then oneC (sp.val + 1) else numC sp.val) else if o = 8 then oneC 13 else if o = 9 then oneC 4 else if o = 10 then oneC 2 else .ret 0
def seqIC (nl : Int) (sp : Sp) (o x : Int) : Cp (Int × Int × Int) := (seqNC sp o x).bind fun v => (if o = 1 then oneC nl else .ret 0).bind fun l => .ret (o, v, l)
def addI (sp : Sp) (o : Int) (l : List (Int × Int × Int)) (x : Int × Int × Int) : List (Int × Int × Int) := if 0 < sp.ws.getD o.toNat 0 then l ++ [x] else l
def tmplC (nl : Int) (sp : Sp) (ops : List Int) : Nat → Cp (List (Int × Int × Int))
  | 0 => .ret []
  | i + 1 => (tmplC nl sp ops i).bind fun l => (seqIC nl sp (ops.getD i 0) (ops.getD (i + 1) 0)).bind fun x => .ret (addI sp (ops.getD i 0) l x)
def progC (nl : Int) (sp : Sp) : Nat → Cp (List (Int × Int × Int))
  | 0 => .ret []
  | i + 1 => (progC nl sp i).bind fun l => (oneC 11).bind fun w => (tmplC nl sp (tmpls.getD w.toNat []) (tmpls.getD w.toNat []).length).bind fun t => .ret (l ++ t)
def programC (nl : Int) (sp : Sp) : Cp (List (Int × Int × Int)) := (oneC (sp.code + 1)).bind fun n => (progC nl sp n.toNat).bind fun l => .ret (l.take sp.code.toNat)
def sp0 (sp : Sp) : Sp := { sp with code := 0 }
def seqC (nl : Int) (sp : Sp) : Cp Sta := (programC nl sp).bind fun c => (genC nl (sp0 sp)).bind fun s => .ret { s with code := c }
/-! ### The program's maker -/
def seqN (sp : Sp) (o x : Int) (m : M3) : M3 := if o = 1 then (if addrB x = true then belowP m (sp.val + 1) else numberP m sp.val) else if o = 8 then belowP m 13 else if o = 9 then belowP m 4 else if o = 10 then belowP m 2 else (m.1, 0, m.2.2)
def seqIP (nl : Int) (sp : Sp) (o x : Int) (m : M3) : M3 × (Int × Int × Int) :=
  let v := seqN sp o x m
  let b := if o = 1 then belowP v nl else (v.1, 0, v.2.2)
  (b, o, v.2.1, b.2.1)
def tmplP (nl : Int) (sp : Sp) (ops : List Int) : Nat → M3 → M3 × List (Int × Int × Int)
  | 0, m => (m, [])
  | i + 1, m => let r := tmplP nl sp ops i m; let x := seqIP nl sp (ops.getD i 0) (ops.getD (i + 1) 0) r.1; (x.1, addI sp (ops.getD i 0) r.2 x.2)
def progP (nl : Int) (sp : Sp) : Nat → M3 → M3 × List (Int × Int × Int)
  | 0, m => (m, [])
  | i + 1, m => let r := progP nl sp i m; let w := belowP r.1 11; let t := tmplP nl sp (tmpls.getD w.2.1.toNat []) (tmpls.getD w.2.1.toNat []).length w; (t.1, r.2 ++ t.2)
def programP (nl : Int) (sp : Sp) (m : M3) : M3 × List (Int × Int × Int) := let b := belowP m (sp.code + 1); let r := progP nl sp b.2.1.toNat b; (r.1, r.2.take sp.code.toNat)
theorem is_seqN (sp : Sp) (o x : Int) : Is (fun m => (seqN sp o x m, (seqN sp o x m).2.1)) (seqNC sp o x) := by
  unfold seqN seqNC
  by_cases h1 : o = 1
  · simp only [if_pos h1]
    by_cases hx : addrB x = true
    · simp only [if_pos hx]; exact is_below _
    · simp only [if_neg hx]; exact is_number _
  by_cases h8 : o = 8
  · simp only [if_neg h1, if_pos h8]; exact is_below _
  by_cases h9 : o = 9
  · simp only [if_neg h1, if_neg h8, if_pos h9]; exact is_below _
  by_cases h10 : o = 10
  · simp only [if_neg h1, if_neg h8, if_neg h9, if_pos h10]; exact is_below _
  simp only [if_neg h1, if_neg h8, if_neg h9, if_neg h10]; exact Is.ret0 0
theorem is_seqI (nl : Int) (sp : Sp) (o x : Int) : Is (seqIP nl sp o x) (seqIC nl sp o x) :=
  (Is.bind (is_seqN sp o x) (g := fun v m => ((if o = 1 then belowP m nl else (m.1, 0, m.2.2)), o, v, (if o = 1 then belowP m nl else (m.1, 0, m.2.2)).2.1)) fun v =>
    Is.bind (f := fun m => (if o = 1 then belowP m nl else (m.1, 0, m.2.2), (if o = 1 then belowP m nl else (m.1, 0, m.2.2)).2.1)) (by
      by_cases h : o = 1
      · simp only [if_pos h]; exact is_below nl
      · simp only [if_neg h]; exact Is.ret0 0) (g := fun l m => (m, o, v, l)) fun l => .ret _).ext fun m => rfl
theorem is_tmpl (nl : Int) (sp : Sp) (ops : List Int) : ∀ n, Is (tmplP nl sp ops n) (tmplC nl sp ops n)
  | 0 => .ret []
  | i + 1 => (Is.bind (is_tmpl nl sp ops i) (g := fun l m => ((seqIP nl sp (ops.getD i 0) (ops.getD (i + 1) 0) m).1, addI sp (ops.getD i 0) l (seqIP nl sp (ops.getD i 0) (ops.getD (i + 1) 0) m).2)) fun l =>
    Is.bind (is_seqI nl sp (ops.getD i 0) (ops.getD (i + 1) 0)) (g := fun x m => (m, addI sp (ops.getD i 0) l x)) fun x => .ret _).ext fun m => rfl
theorem is_prog (nl : Int) (sp : Sp) : ∀ n, Is (progP nl sp n) (progC nl sp n)
  | 0 => .ret []
  | i + 1 => (Is.bind (is_prog nl sp i) (g := fun l m => let w := belowP m 11; let t := tmplP nl sp (tmpls.getD w.2.1.toNat []) (tmpls.getD w.2.1.toNat []).length w; (t.1, l ++ t.2)) fun l =>
    Is.bind (is_below 11) (g := fun w m => let t := tmplP nl sp (tmpls.getD w.toNat []) (tmpls.getD w.toNat []).length m; (t.1, l ++ t.2)) fun w =>
      Is.bind (is_tmpl nl sp _ _) (g := fun t m => (m, l ++ t)) fun t => .ret _).ext fun m => rfl
theorem is_program (nl : Int) (sp : Sp) : Is (programP nl sp) (programC nl sp) :=
  (Is.bind (is_below (sp.code + 1)) (g := fun n m => let r := progP nl sp n.toNat m; (r.1, r.2.take sp.code.toNat)) fun n => Is.bind (is_prog nl sp n.toNat) (g := fun l m => (m, l.take sp.code.toNat)) fun l => .ret _).ext fun m => rfl
/-! ### What is made -/
def Pos (sp : Sp) : Prop := ∀ w ∈ sp.ws, w ≠ 0
def goodI (nl : Nat) (sp : Sp) (x : Int × Int × Int) : Prop := instrB nl x = true ∧ instrIn sp x = true
theorem pos_get {sp : Sp} (h : SpOk sp) (hp : Pos sp) {o : Int} (h0 : 0 ≤ o) (h1 : o < 13) : 0 < sp.ws.getD o.toNat 0 := by
  have hl := h.wl
  have hlt : o.toNat < sp.ws.length := by omega
  rw [List.getD_eq_getElem?_getD, List.getElem?_eq_getElem hlt]
  have := (weightsB_le h.ww).2.2.1 _ (List.getElem_mem hlt)
  have := hp _ (List.getElem_mem hlt)
  simp only [Option.getD_some]; omega
theorem seqIC_all {nl : Nat} {sp : Sp} (h : SpOk sp) {o x : Int} (h0 : 0 ≤ o) (h1 : o < 13) : (seqIC nl sp o x).All fun y => y.1 = o ∧ (0 < sp.ws.getD o.toNat 0 → goodI nl sp y) := by
  have hv0 := h.v0
  have hv1 := h.v1
  by_cases e1 : o = 1
  · subst e1
    refine Cp.all_bind (p := fun x => -sp.val ≤ x ∧ x ≤ sp.val) _ _ (by
      unfold seqNC; rw [if_pos rfl]; split
      · exact Cp.all_mono _ (oneC_all _) fun x hx => by omega
      · exact numC_all h.v0) fun v hv => ?_
    refine Cp.all_bind (p := fun x => 0 ≤ x ∧ x < (nl : Int)) _ _ (by rw [if_pos rfl]; exact oneC_all _) fun l hl => ?_
    refine ⟨rfl, fun hw => ⟨?_, ?_⟩⟩
    · simp only [instrB, if_true, Bool.and_eq_true, inB_iff, Bool.not_eq_true', oddL_iff]
      omega
    · simp only [instrIn, Bool.and_eq_true, Bool.not_eq_true', decide_eq_false_iff_not, Bool.or_eq_true, inB_iff]
      exact ⟨by omega, .inr hv⟩
  · refine Cp.all_bind (p := fun v => instrB nl (o, v, 0) = true) _ _ ?_ fun v hv => ?_
    · have ho : inB 0 12 o = true := inB_iff.2 (by omega)
      unfold seqNC
      rw [if_neg e1]
      split
      · rename_i e; refine Cp.all_mono _ (oneC_all _) fun x hx => ?_
        simp only [instrB]; rw [if_neg e1, if_pos e, ho]; simp [inB]; omega
      split
      · rename_i e8 e; refine Cp.all_mono _ (oneC_all _) fun x hx => ?_
        simp only [instrB]; rw [if_neg e1, if_neg e8, if_pos e, ho]; simp [inB]; omega
      split
      · rename_i e8 e9 e; refine Cp.all_mono _ (oneC_all _) fun x hx => ?_
        simp only [instrB]; rw [if_neg e1, if_neg e8, if_neg e9, if_pos e, ho]; simp [inB]; omega
      · rename_i e8 e9 e10
        show instrB nl (o, 0, 0) = true
        simp only [instrB]; rw [if_neg e1, if_neg e8, if_neg e9, if_neg e10, ho]; rfl
    · rw [if_neg e1]
      refine ⟨rfl, fun hw => ⟨hv, ?_⟩⟩
      simp only [instrIn, Bool.and_eq_true, Bool.not_eq_true', decide_eq_false_iff_not, Bool.or_eq_true]
      exact ⟨by omega, .inl e1⟩
theorem tmplC_all {nl : Nat} {sp : Sp} (h : SpOk sp) {ops : List Int} (ho : ∀ o ∈ ops, 0 ≤ o ∧ o < 13) : ∀ n, n ≤ ops.length → (tmplC nl sp ops n).All fun l => (∀ x ∈ l, goodI nl sp x) ∧ (Pos sp → l.map (·.1) = ops.take n)
  | 0, _ => ⟨fun x hx => (by cases hx), fun _ => by simp⟩
  | i + 1, hn => by
    refine Cp.all_bind _ _ (tmplC_all h ho i (by omega)) fun l hl => ?_
    have hi : i < ops.length := by omega
    have hg : ops.getD i 0 = ops[i] := by rw [List.getD_eq_getElem?_getD, List.getElem?_eq_getElem hi]; rfl
    have hoi := ho _ (List.getElem_mem hi)
    rw [hg]
    refine Cp.all_bind _ _ (seqIC_all h hoi.1 hoi.2) fun x hx => ?_
    unfold Cp.All addI
    split
    · rename_i hw
      refine ⟨fun y hy => ?_, fun hp => ?_⟩
      · rcases List.mem_append.1 hy with hy | hy
        · exact hl.1 y hy
        · rw [List.mem_singleton.1 hy]; exact hx.2 hw
      · rw [List.map_append, hl.2 hp, List.take_succ_eq_append_getElem hi]; simp [hx.1]
    · rename_i hw
      exact ⟨hl.1, fun hp => absurd (pos_get h hp hoi.1 hoi.2) hw⟩
theorem tmpls_ok : ∀ t ∈ tmpls, t ≠ [] ∧ t.length ≤ 3 ∧ ∀ o ∈ t, 0 ≤ o ∧ o < 13 := by decide
theorem tmpls_get {w : Int} (h0 : 0 ≤ w) (h1 : w < 11) : tmpls.getD w.toNat [] ∈ tmpls := by
  have hlt : w.toNat < tmpls.length := by show w.toNat < 11; omega
  rw [List.getD_eq_getElem?_getD, List.getElem?_eq_getElem hlt]
  exact List.getElem_mem hlt
theorem progC_all {nl : Nat} {sp : Sp} (h : SpOk sp) : ∀ n, (progC nl sp n).All fun l => (∀ x ∈ l, goodI nl sp x) ∧ (Pos sp → ∃ ts : List (List Int), (∀ t ∈ ts, t ∈ tmpls) ∧ l.map (·.1) = ts.flatten)
  | 0 => ⟨fun x hx => (by cases hx), fun _ => ⟨[], fun t ht => (by cases ht), rfl⟩⟩
  | i + 1 => by
    refine Cp.all_bind _ _ (progC_all h i) fun l hl => Cp.all_bind _ _ (oneC_all 11) fun w hw => ?_
    have ht := tmpls_get hw.1 hw.2
    refine Cp.all_bind _ _ (tmplC_all h (tmpls_ok _ ht).2.2 _ (Nat.le_refl _)) fun t htt => ?_
    refine ⟨fun x hx => ?_, fun hp => ?_⟩
    · rcases List.mem_append.1 hx with hx | hx
      · exact hl.1 x hx
      · exact htt.1 x hx
    · obtain ⟨ts, h1, h2⟩ := hl.2 hp
      refine ⟨ts ++ [tmpls.getD w.toNat []], fun t ht' => ?_, ?_⟩
      · rcases List.mem_append.1 ht' with ht' | ht'
        · exact h1 t ht'
        · rw [List.mem_singleton.1 ht']; exact ht
      · rw [List.map_append, h2, htt.2 hp, List.take_length, List.flatten_append]; simp
/-- Instructions that are rows of templates, cut at their end. -/
def Tail (l : List Int) : Prop := ∃ ts : List (List Int), (∀ t ∈ ts, t ∈ tmpls) ∧ l <+: ts.flatten
theorem programC_all {nl : Nat} {sp : Sp} (h : SpOk sp) : (programC nl sp).All fun l => (∀ x ∈ l, goodI nl sp x) ∧ (l.length : Int) ≤ sp.code ∧ (Pos sp → Tail (l.map (·.1))) := by
  have hc := h.c0
  refine Cp.all_bind _ _ (Cp.all_true _) fun n _ => Cp.all_bind _ _ (progC_all h _) fun l hl => ⟨fun x hx => hl.1 x (List.mem_of_mem_take hx), by rw [List.length_take]; omega, fun hp => ?_⟩
  obtain ⟨ts, h1, h2⟩ := hl.2 hp
  exact ⟨ts, h1, by rw [← h2, List.map_take]; exact List.take_prefix _ _⟩
theorem sp0_ok {sp : Sp} (h : SpOk sp) : SpOk (sp0 sp) := ⟨Int.le_refl _, by show (0 : Int) ≤ 12; omega, h.m0, h.m1, h.s0, h.s1, h.v0, h.v1, h.wl, h.ww⟩
theorem seqC_all {nl : Nat} {sp : Sp} (h : SpOk sp) : (seqC nl sp).All fun s => hasB nl sp s = true ∧ (Pos sp → Tail (s.code.map (·.1))) := by
  have hc1 := h.c1
  refine Cp.all_bind _ _ (programC_all h) fun c hc => Cp.all_bind _ _ (genC_all (sp0_ok h)) fun s hs => ⟨?_, hc.2.2⟩
  simp only [hasB, staB, codeB, Bool.and_eq_true, decide_eq_true_eq, List.all_eq_true] at hs ⊢
  obtain ⟨⟨⟨_, _⟩, a1, a2, a3, a4, a5, a6, a7, a8⟩, _, b2, b3, b4, _, b6, b7⟩ := hs
  exact ⟨⟨⟨fun x hx => (hc.1 x hx).1, by omega⟩, a1, a2, a3, a4, a5, a6, a7, a8⟩, hc.2.1, b2, b3, b4, fun x hx => (hc.1 x hx).2, b6, b7⟩
theorem deep_seqI (nl : Int) (sp : Sp) (o x : Int) : Cp.Deep 2 (seqIC nl sp o x) :=
  Cp.deep_bind (n := 1) (m := 1) _ _ (by unfold seqNC; split; split; exact deep_one _; exact deep_num _; split; exact deep_one _; split; exact deep_one _; split; exact deep_one _; exact deep_ret _ _) (Cp.all_true _) fun v _ => Cp.deep_bind (n := 1) (m := 0) _ _ (by split; exact deep_one _; exact deep_ret _ _) (Cp.all_true _) fun l _ => trivial
theorem deep_tmpl (nl : Int) (sp : Sp) (ops : List Int) : ∀ n, Cp.Deep (n * 2) (tmplC nl sp ops n)
  | 0 => trivial
  | n + 1 => by
    rw [Nat.succ_mul]
    exact Cp.deep_bind _ _ (deep_tmpl nl sp ops n) (Cp.all_true _) fun l _ => Cp.deep_bind (n := 2) (m := 0) _ _ (deep_seqI _ _ _ _) (Cp.all_true _) fun x _ => trivial
theorem deep_prog (nl : Int) (sp : Sp) : ∀ n, Cp.Deep (n * 7) (progC nl sp n)
  | 0 => trivial
  | n + 1 => by
    rw [Nat.succ_mul]
    refine Cp.deep_bind (m := 7) _ _ (deep_prog nl sp n) (Cp.all_true _) fun l _ => Cp.deep_bind (n := 1) (m := 6) _ _ (deep_one _) (oneC_all 11) fun w hw => Cp.deep_bind (n := 6) (m := 0) _ _ ?_ (Cp.all_true _) fun t _ => trivial
    exact Cp.deep_mono _ (deep_tmpl _ _ _ _) (by have := (tmpls_ok _ (tmpls_get hw.1 hw.2)).2.1; omega)
theorem deep_seq {nl : Nat} {sp : Sp} (h : SpOk sp) : Cp.Deep 174 (seqC nl sp) := by
  have hc1 := h.c1
  refine Cp.deep_bind (n := 85) (m := 89) _ _ ?_ (Cp.all_true _) fun c _ => Cp.deep_bind (n := 89) (m := 0) _ _ (deep_gen (sp0_ok h)) (Cp.all_true _) fun s _ => trivial
  exact Cp.deep_bind (n := 1) (m := 84) _ _ (deep_one _) (oneC_all _) fun n hn => Cp.deep_bind (n := 84) (m := 0) _ _ (Cp.deep_mono _ (deep_prog _ _ _) (by omega)) (Cp.all_true _) fun l _ => trivial
end Go.Proofs.YtabliglgeiajlaaGreat.AM
