/- Programs of templates. -/
import Derived.Test.YtabliglgeiajlaaGreatSB
import Derived.Test.YtabliglgeiajlaaGreatF0
set_option linter.unusedSimpArgs false
set_option linter.unusedVariables false
namespace Go.Proofs.YtabliglgeiajlaaGreat.AM
open Go Go.RowKit Go.Proofs
set_option maxRecDepth 100000
set_option maxHeartbeats 4000000

theorem seqRow_fn (f : Bool) (sz : Nat) (xs : List (List D)) : Fn Tryz.prog 54 [.sl f sz xs] [] (.sl f sz xs) [] := by
  refine Fn.of (fn := Tryz.f54) (by kernel_rfl) rfl (by kernel_rfl) ⟨[.sl f sz xs, .v undef, .v undef, .v undef], []⟩ rfl ?_
  repeat' first | (with_reducible first | refine AWP_seq' ?_ | refine k_normal ?_ | refine AWP_ret ?_) | ((with_reducible refine AWP_reg fun KC J hJ hKC => ?_); simp (maxSteps := 10000000) only [push_cast, seval, ↓reduceIte]) | ((with_reducible refine hJ _ _ ?_); clear hJ hKC KC J)
  refine ret_plain ?_
  simp (maxSteps := 10000000) only [push_cast, seval, ↓reduceIte, show Tryz.f54.results = #[(.tmp 2)] from rfl]
  exact leD_refl _
def tmplRow : List (List D) := tmpls.map fun t => [.sl true 1 (intRow t)]
theorem tmplRow_length : tmplRow.length = 11 := rfl
theorem templates_fn : Fn Tryz.prog 13 [] [] (.sl true 1 tmplRow) [] := by
  refine Fn.of (fn := Tryz.f13) (by kernel_rfl) rfl (by kernel_rfl) ⟨[.v undef, .v undef, .v undef, .v undef, .v undef, .v undef, .v undef, .v undef, .v undef, .v undef, .v undef, .v undef, .v undef, .v undef, .v undef, .v undef, .v undef, .v undef, .v undef, .v undef, .v undef, .v undef, .v undef, .v undef], []⟩ rfl ?_
  repeat' first | (with_reducible first | refine AWP_seq' ?_ | refine k_normal ?_ | refine AWP_ret ?_) | ((with_reducible refine AWP_reg fun KC J hJ hKC => ?_); simp (maxSteps := 10000000) only [push_cast, seval, ↓reduceIte]) | (refine' hKC _ _ _ _ _ (callV0 (seqRow_fn _ _ _) rfl rfl rfl ?_ ?_); (rotate_left 3); (· exact Lq); simp (maxSteps := 10000000) only [push_cast, seval, ↓reduceIte]) | ((with_reducible refine hJ _ _ ?_); clear hJ hKC KC J)
  refine ret_plain ?_
  simp (maxSteps := 10000000) only [push_cast, seval, ↓reduceIte, show Tryz.f13.results = #[(.tmp 0)] from rfl]
  exact leD_refl _
theorem belowQ_le {m : M3} {b : Int} (hb : 1 ≤ b) : 0 ≤ (belowP m b).2.1 ∧ (belowP m b).2.1 < b := by
  unfold belowP tookP
  have h := takeF_num m.1 b hb
  split
  · split
    · exact h
    · exact ⟨by simp only; omega, by simp only; omega⟩
  · exact ⟨by simp only; omega, by simp only; omega⟩
/-- A row that grew by parts: its generation is told apart. -/
def eG (k G n : Nat) : D := if n = 0 then .v (.slice none 0 0) else .ref k G n
def σG (p : List Slot) (dd G n sz ty : Nat) (cs : List D) : List Slot := if n = 0 then p else p ++ List.replicate dd .dead ++ [.ent ⟨G, some sz, ty, cs, .cells⟩]
theorem gCase (p : List Slot) (k dd G n sz ty : Nat) (cs : List D) : (n = 0 ∧ eG k G n = .v (.slice none 0 0) ∧ σG p dd G n sz ty cs = p) ∨ (0 < n ∧ eG k G n = .ref k G n ∧ σG p dd G n sz ty cs = p ++ List.replicate dd .dead ++ [.ent ⟨G, some sz, ty, cs, .cells⟩]) := by
  cases n with
  | zero => exact .inl ⟨rfl, rfl, rfl⟩
  | succ j => exact .inr ⟨by omega, rfl, rfl⟩
theorem σG_le (p : List Slot) (dd G n sz ty : Nat) (cs : List D) : p.length ≤ (σG p dd G n sz ty cs).length := by
  unfold σG; split
  · exact Nat.le_refl _
  · simp
theorem tRow_flatten (l : List (Int × Int × Int)) : (tRow l).flatten = tCells l := rfl
theorem program_fn (nl : Int) (sp : Sp) (d : Dr) (n e : Int) (hn : nl ≤ 9223372036854775807) (hsp : SpOk sp) :
    Fn (Tryz.prog) 53 [.ptr 0 0 0] [.ent (mkQ nl sp d e)] (.sl false 3 (tRow (programP nl sp (d, n, e)).2)) [.ent (mkQ nl sp (programP nl sp (d, n, e)).1.1 (programP nl sp (d, n, e)).1.2.2)] := by
  have hc0 := hsp.c0
  have hc1 := hsp.c1
  have ht := templates_fn
  have htl := tmplRow_length
  have hk := qBelow_fn nl sp d n e (sp.code + 1) (by omega)
  have hr := belowQ_le (m := (d, n, e)) (show 1 ≤ sp.code + 1 by omega)
  unfold programP
  obtain ⟨b, hB⟩ : ∃ m, belowP (d, n, e) (sp.code + 1) = m := ⟨_, rfl⟩
  rw [hB] at hk hr
  simp only [hB]
  obtain ⟨N, hN⟩ : ∃ N : Nat, b.2.1 = N := ⟨b.2.1.toNat, by omega⟩
  rw [hN] at hk hr
  rw [hN, Int.toNat_natCast]
  have wm : IntKind.i64.wrap (sp.code + 1) = sp.code + 1 := wrapI (by omega) (by omega)
  have hbd : ∀ i, i ≤ N → (progP nl sp i b).2.length ≤ i * 3 := fun i hi => by
    induction i with
    | zero => exact Nat.le_refl _
    | succ i ih =>
      have h1 := ih (by omega)
      simp only [progP, List.length_append]
      have hw := belowQ_le (m := (progP nl sp i b).1) (show 1 ≤ (11 : Int) by omega)
      have h2 := tmplP_len nl sp (tmpls.getD (belowP (progP nl sp i b).1 11).2.1.toNat []) (belowP (progP nl sp i b).1 11) (tmpls.getD (belowP (progP nl sp i b).1 11).2.1.toNat []).length
      have h3 := (tmpls_ok _ (tmpls_get hw.1 hw.2)).2.1
      omega
  have ek : ∀ d e, [Slot.ent (mkQ nl sp d e)] ++ List.replicate 2 Slot.dead = [.ent (mkQ nl sp d e), .dead, .dead] := fun d e => rfl
  refine Fn.of (fn := Tryz.f53) (by kernel_rfl) rfl (by kernel_rfl) ⟨[.ptr 0 0 0, .v undef, .v undef, .v undef, .v undef, .v undef, .v undef, .v undef, .v undef, .v undef, .v undef, .v undef, .v undef, .v undef, .v undef, .v undef, .v undef, .v undef, .v undef, .v undef, .v undef, .v undef, .v undef, .v undef, .v undef, .v undef, .v undef, .v undef, .v undef, .v undef, .v undef, .v undef, .v undef, .v undef, .v undef, .v undef, .v undef, .v undef, .v undef, .v undef], [.ent (mkQ nl sp d e)]⟩ rfl ?_
  simp only [mkQ] at hk ⊢
  repeat' first | (with_reducible first | refine AWP_seq' ?_ | refine k_normal ?_ | refine AWP_block ?_) | ((with_reducible refine AWP_reg fun KC J hJ hKC => ?_); simp (maxSteps := 10000000) only [push_cast, seval, ↓reduceIte, wm, backOf, callSets, renSlot, pick, mOf, idx, ren, ren2, ren1, ren0]) | (refine hKC _ _ _ _ _ (callK [0] hk rfl rfl rfl (by decide) (by simp) rfl rfl Lq ?_); simp (maxSteps := 10000000) only [push_cast, seval, ↓reduceIte, wm, backOf, callSets, renSlot, pick, mOf, idx, ren, ren2, ren1, ren0]) | (refine hKC _ _ _ _ _ (callV0 (ht) rfl rfl rfl ?_ ?_); (· exact Lq); simp (maxSteps := 10000000) only [push_cast, seval, ↓reduceIte, wm, backOf, callSets, renSlot, pick, mOf, idx, ren, ren2, ren1, ren0]) | ((with_reducible refine hJ _ _ ?_); clear hJ hKC KC J)
  refine AWP_loopE 1 (γ := {i : Nat × Nat // i.1 ≤ N}) (fun i => ⟨[.ptr 0 0 0, .any, .any, .sl true 1 tmplRow, eG 3 i.1.2 (progP nl sp i.1.1 b).2.length, .any, .any, .any, .any, .any, .any, .any, .any, .any, .v (.int .i64 N), .v (.int .i64 i.1.1), .any, .any, .any, .any, .any, .any, .any, .any, .any, .any, .any, .any, .any, .any, .any, .any, .any, .any, .any, .any, .any, .any, .any, .any], σG [.ent (mkQ nl sp (progP nl sp i.1.1 b).1.1 (progP nl sp i.1.1 b).1.2.2)] 2 i.1.2 (progP nl sp i.1.1 b).2.length 3 100 (tCells (progP nl sp i.1.1 b).2)⟩) (fun i => N - i.1.1) ⟨(0, 0), by simp⟩ rfl (fun i => σG_le [_] _ _ _ _ _ _) (fun i => ?_) (fun i => ?_) ⟨?_, ?_⟩ ?_
  · refine clsd_all ?_
    rcases gCase [.ent (mkQ nl sp (progP nl sp i.1.1 b).1.1 (progP nl sp i.1.1 b).1.2.2)] 3 2 i.1.2 (progP nl sp i.1.1 b).2.length 3 100 (tCells (progP nl sp i.1.1 b).2) with ⟨_, hD, hσ⟩ | ⟨_, hD, hσ⟩
    all_goals
      simp only [hσ, ek, List.cons_append, List.nil_append, List.map_cons, List.map_nil, renSlot, mkQ, ren_tCells]
      rfl
  · rcases gCase [.ent (mkQ nl sp (progP nl sp i.1.1 b).1.1 (progP nl sp i.1.1 b).1.2.2)] 3 2 i.1.2 (progP nl sp i.1.1 b).2.length 3 100 (tCells (progP nl sp i.1.1 b).2) with ⟨_, hD, hσ⟩ | ⟨_, hD, hσ⟩
    all_goals
      simp only [hD, hσ]
      rfl
  · exact Lq
  · exact Fq
  rintro ⟨⟨i, G⟩, hi⟩
  simp only at hi
  have hLl := hbd i hi
  obtain ⟨⟨d1, n1, e1⟩, hm⟩ : ∃ m, (progP nl sp i b).1 = m := ⟨_, rfl⟩
  obtain ⟨L, hL⟩ : ∃ L, (progP nl sp i b).2 = L := ⟨_, rfl⟩
  simp only [hm, hL] at hLl ⊢
  by_cases hlt : (i : Int) < (N : Int)
  · have hi1 : i + 1 ≤ N := by omega
    have wr := wrapN (i := i) (n := N) (by omega) (by omega)
    have h1 := qBelow_fn nl sp d1 n1 e1 11 (by omega)
    have hw := belowQ_le (m := (d1, n1, e1)) (show 1 ≤ (11 : Int) by omega)
    have hst : progP nl sp (i + 1) b = ((tmplP nl sp (tmpls.getD (belowP (d1, n1, e1) 11).2.1.toNat []) (tmpls.getD (belowP (d1, n1, e1) 11).2.1.toNat []).length (belowP (d1, n1, e1) 11)).1, L ++ (tmplP nl sp (tmpls.getD (belowP (d1, n1, e1) 11).2.1.toNat []) (tmpls.getD (belowP (d1, n1, e1) 11).2.1.toNat []).length (belowP (d1, n1, e1) 11)).2) := by simp only [progP, hm, hL]
    obtain ⟨⟨d2, w, e2⟩, hx⟩ : ∃ r, belowP (d1, n1, e1) 11 = r := ⟨_, rfl⟩
    rw [hx] at h1 hw hst
    simp only at h1 hw hst
    obtain ⟨k, rfl⟩ : ∃ k : Nat, w = k := ⟨w.toNat, by omega⟩
    have hto := tmpls_ok _ (tmpls_get hw.1 hw.2)
    rw [Int.toNat_natCast] at hst hto
    have hg : getE tmplRow k = [.sl true 1 (intRow (tmpls.getD k []))] := by
      unfold tmplRow
      have hkl : k < tmpls.length := by show k < 11; omega
      rw [List.getD_eq_getElem?_getD, List.getElem?_eq_getElem hkl]
      exact getE_map _ _ _ _ (List.getElem?_eq_getElem hkl)
    obtain ⟨ops, hops⟩ : ∃ o, tmpls.getD k [] = o := ⟨_, rfl⟩
    rw [hops] at hst hto hg
    have h2 := template_fn true nl sp d2 k e2 ops hn hsp hto.2.1 hto.2.2
    have hTl := tmplP_len nl sp ops (d2, (k : Int), e2) ops.length
    obtain ⟨⟨⟨d3, n3, e3⟩, T⟩, hT⟩ : ∃ r, tmplP nl sp ops ops.length (d2, (k : Int), e2) = r := ⟨_, rfl⟩
    rw [hT] at h2 hst hTl
    simp only [mkQ] at h1 h2
    simp only at hTl
    have hto2 := hto.2.1
    rcases gCase [.ent (mkQ nl sp d1 e1)] 3 2 G L.length 3 100 (tCells L) with ⟨h0, hD, hσ⟩ | ⟨h0, hD, hσ⟩
    · have hL0 : L = [] := List.length_eq_zero_iff.1 h0
      subst hL0
      simp only [List.nil_append] at hst
      cases T with
      | nil =>
        have hnil : isNilL (tRow []) = true := rfl
        simp only [hD, hσ]
        repeat' first | (with_reducible first | refine AWP_seq' ?_ | refine k_normal ?_ | refine b_normal ?_ | refine AWP_skip ?_ | refine AWP_block ?_) | ((with_reducible refine AWP_reg fun KC J hJ hKC => ?_); simp (maxSteps := 10000000) only [push_cast, seval, ↓reduceIte, hlt, wr, htl, hg, hnil, mkQ, backOf, callSets, renSlot, pick, mOf, idx, ren, ren2, ren1, ren0]) | ((with_reducible refine And.intro ?_ ?_); · exact Sq) | (refine hKC _ _ _ _ _ (callK [0] h1 rfl rfl rfl (by decide) (by simp) rfl rfl Lq ?_); simp (maxSteps := 10000000) only [push_cast, seval, ↓reduceIte, hlt, wr, htl, hg, hnil, mkQ, backOf, callSets, renSlot, pick, mOf, idx, ren, ren2, ren1, ren0]) | (refine hKC _ _ _ _ _ (callK [0] h2 rfl rfl rfl (by decide) (by simp) rfl rfl Lq ?_); simp (maxSteps := 10000000) only [push_cast, seval, ↓reduceIte, hlt, wr, htl, hg, hnil, mkQ, backOf, callSets, renSlot, pick, mOf, idx, ren, ren2, ren1, ren0]) | ((with_reducible refine hJ _ _ ?_); clear hJ hKC KC J) | ((with_reducible refine AWP_condT ?_ ?_); · rfl)
        refine ⟨⟨(i + 1, G), hi1⟩, by simp only; omega, ?_, ?_⟩
        · simp only [hst]
          exact Lq
        · simp only [hst, mkQ]
          exact ⟨[_], _, rfl, .inr (.inl rfl), trivial⟩
      | cons x T =>
        have hnil : isNilL (tRow (x :: T)) = false := rfl
        simp only [List.length_cons] at hTl
        simp only [hD, hσ]
        repeat' first | (with_reducible first | refine AWP_seq' ?_ | refine k_normal ?_ | refine b_normal ?_ | refine AWP_skip ?_ | refine AWP_block ?_) | ((with_reducible refine AWP_reg fun KC J hJ hKC => ?_); simp (maxSteps := 10000000) only [push_cast, seval, ↓reduceIte, hlt, wr, htl, hg, hnil, tRow_flatten, mkQ, backOf, callSets, renSlot, pick, mOf, idx, ren, ren2, ren1, ren0]) | ((with_reducible refine And.intro ?_ ?_); · exact Sq) | (refine hKC _ _ _ _ _ (callK [0] h1 rfl rfl rfl (by decide) (by simp) rfl rfl Lq ?_); simp (maxSteps := 10000000) only [push_cast, seval, ↓reduceIte, hlt, wr, htl, hg, hnil, tRow_flatten, mkQ, backOf, callSets, renSlot, pick, mOf, idx, ren, ren2, ren1, ren0]) | (refine hKC _ _ _ _ _ (callK [0] h2 rfl rfl rfl (by decide) (by simp) rfl rfl Lq ?_); simp (maxSteps := 10000000) only [push_cast, seval, ↓reduceIte, hlt, wr, htl, hg, hnil, tRow_flatten, mkQ, backOf, callSets, renSlot, pick, mOf, idx, ren, ren2, ren1, ren0]) | ((with_reducible refine hJ _ _ ?_); clear hJ hKC KC J) | ((with_reducible refine AWP_condT ?_ ?_); · rfl)
        refine ⟨⟨(i + 1, 0), hi1⟩, by simp only; omega, ?_, ?_⟩
        · simp only [hst]
          exact Lq
        · simp only [hst]
          exact ⟨[_, _, _, _], _, rfl, .inr (.inl rfl), .inl rfl, .inl rfl, .inr (.inl rfl), trivial⟩
    · have hlC : (tCells L).length = L.length * 3 := tCells_length L
      have htC := take_len hlC
      have hbm : Nat.beq G G = true := Nat.beq_refl G
      cases T with
      | nil =>
        have hnil : isNilL (tRow []) = true := rfl
        simp only [List.append_nil] at hst
        simp only [hD, hσ]
        repeat' first | (with_reducible first | refine AWP_seq' ?_ | refine k_normal ?_ | refine b_normal ?_ | refine AWP_skip ?_ | refine AWP_block ?_) | ((with_reducible refine AWP_reg fun KC J hJ hKC => ?_); simp (maxSteps := 10000000) only [push_cast, seval, ↓reduceIte, hlt, wr, htl, hg, hnil, ek, List.cons_append, List.nil_append, hlC, htC, hbm, mkQ, backOf, callSets, renSlot, pick, mOf, idx, ren, ren2, ren1, ren0, ren_tCells]) | ((with_reducible refine And.intro ?_ ?_); · exact Sq) | (refine hKC _ _ _ _ _ (callK [0] h1 rfl rfl rfl (by decide) (by simp) rfl rfl Lq ?_); simp (maxSteps := 10000000) only [push_cast, seval, ↓reduceIte, hlt, wr, htl, hg, hnil, ek, List.cons_append, List.nil_append, hlC, htC, hbm, mkQ, backOf, callSets, renSlot, pick, mOf, idx, ren, ren2, ren1, ren0, ren_tCells]) | (refine hKC _ _ _ _ _ (callK [0] h2 rfl rfl rfl (by decide) (by simp) rfl rfl Lq ?_); simp (maxSteps := 10000000) only [push_cast, seval, ↓reduceIte, hlt, wr, htl, hg, hnil, ek, List.cons_append, List.nil_append, hlC, htC, hbm, mkQ, backOf, callSets, renSlot, pick, mOf, idx, ren, ren2, ren1, ren0, ren_tCells]) | ((with_reducible refine hJ _ _ ?_); clear hJ hKC KC J) | ((with_reducible refine AWP_condT ?_ ?_); · rfl)
        refine ⟨⟨(i + 1, G), hi1⟩, by simp only; omega, ?_, ?_⟩
        · simp only [hst, hD]
          exact Lq
        · simp only [hst]
          rw [show ∀ d e, σG [Slot.ent (mkQ nl sp d e)] 2 G L.length 3 100 (tCells L) = [.ent (mkQ nl sp d e), .dead, .dead, .ent ⟨G, some 3, 100, tCells L, .cells⟩] from fun d e => if_neg (by omega)]
          exact ⟨[_, _, _, _], _, rfl, .inr (.inl rfl), .inl rfl, .inl rfl, .inr (.inl rfl), trivial⟩
      | cons x T =>
        have hnil : isNilL (tRow (x :: T)) = false := rfl
        simp only [List.length_cons] at hTl
        simp only [hD, hσ]
        repeat' first | (with_reducible first | refine AWP_seq' ?_ | refine k_normal ?_ | refine b_normal ?_ | refine AWP_skip ?_ | refine AWP_block ?_) | ((with_reducible refine AWP_reg fun KC J hJ hKC => ?_); simp (maxSteps := 10000000) only [push_cast, seval, ↓reduceIte, hlt, wr, htl, hg, hnil, tRow_flatten, ek, List.cons_append, List.nil_append, hlC, htC, hbm, mkQ, backOf, callSets, renSlot, pick, mOf, idx, ren, ren2, ren1, ren0, ren_tCells]) | ((with_reducible refine And.intro ?_ ?_); · exact Sq) | (refine hKC _ _ _ _ _ (callK [0] h1 rfl rfl rfl (by decide) (by simp) rfl rfl Lq ?_); simp (maxSteps := 10000000) only [push_cast, seval, ↓reduceIte, hlt, wr, htl, hg, hnil, tRow_flatten, ek, List.cons_append, List.nil_append, hlC, htC, hbm, mkQ, backOf, callSets, renSlot, pick, mOf, idx, ren, ren2, ren1, ren0, ren_tCells]) | (refine hKC _ _ _ _ _ (callK [0] h2 rfl rfl rfl (by decide) (by simp) rfl rfl Lq ?_); simp (maxSteps := 10000000) only [push_cast, seval, ↓reduceIte, hlt, wr, htl, hg, hnil, tRow_flatten, ek, List.cons_append, List.nil_append, hlC, htC, hbm, mkQ, backOf, callSets, renSlot, pick, mOf, idx, ren, ren2, ren1, ren0, ren_tCells]) | ((with_reducible refine hJ _ _ ?_); clear hJ hKC KC J) | ((with_reducible refine AWP_condT ?_ ?_); · rfl)
        refine ⟨⟨(i + 1, G + 1), hi1⟩, by simp only; omega, ?_, ?_⟩
        · simp only [hst, List.length_append]
          rw [show eG 3 (G + 1) (L.length + (x :: T).length) = .ref 3 (G + 1) (L.length + (x :: T).length) from if_neg (by omega)]
          exact Lq
        · simp only [hst, List.length_append]
          rw [show ∀ d e, σG [Slot.ent (mkQ nl sp d e)] 2 (G + 1) (L.length + (x :: T).length) 3 100 (tCells (L ++ x :: T)) = [.ent (mkQ nl sp d e), .dead, .dead, .ent ⟨G + 1, some 3, 100, tCells L ++ tCells (x :: T), .cells⟩] from fun d e => by rw [← tCells_app]; exact if_neg (by omega)]
          exact ⟨[_, _, _, _], _, rfl, .inr (.inl rfl), .inl rfl, .inl rfl, .inr (.inl rfl), trivial⟩
  · have hin : i = N := by omega
    subst hin
    rw [hm, hL]
    rcases gCase [.ent (mkQ nl sp d1 e1)] 3 2 G L.length 3 100 (tCells L) with ⟨h0, hD, hσ⟩ | ⟨h0, hD, hσ⟩
    · have hL0 : L = [] := List.length_eq_zero_iff.1 h0
      subst hL0
      have hmin : (if (0 : Int) < sp.code then (0 : Int) else sp.code) = 0 := by split <;> omega
      have hmin2 : (if sp.code < (0 : Int) then sp.code else (0 : Int)) = 0 := by split <;> omega
      simp only [hD, hσ]
      repeat' first | (with_reducible first | refine AWP_seq' ?_ | refine k_normal ?_ | refine k_exit ?_ | refine b_exit ?_ | refine AWP_ret ?_ | refine AWP_exit ?_) | ((with_reducible refine AWP_reg fun KC J hJ hKC => ?_); simp (maxSteps := 10000000) only [push_cast, seval, ↓reduceIte, hlt, hmin, hmin2, mkQ]) | ((with_reducible refine hJ _ _ ?_); clear hJ hKC KC J) | ((with_reducible refine AWP_condF ?_ ?_); · rfl)
      refine ret_keys ?_
      simp (maxSteps := 10000000) only [push_cast, seval, ↓reduceIte, show Tryz.f53.results = #[(.tmp 2)] from rfl]
      refine ⟨rfl, ?_⟩
      rw [List.take_nil]
      exact Lq
    · have hcI : chunk 3 L.length (tCells L) = tRow L := chunk_t L
      have hlC : (tCells L).length = L.length * 3 := tCells_length L
      have hbm : Nat.beq G G = true := Nat.beq_refl G
      have hmn := take_minL (K := sp.code) (k := sp.code.toNat) (by omega) L
      simp only [hD, hσ, ek, List.cons_append, List.nil_append, mkQ]
      repeat' first | (refine AWP_freezeR 4 3 rfl (by (simp (maxSteps := 10000000) only [push_cast, seval, ↓reduceIte]) <;> rfl) ?_; simp (maxSteps := 10000000) only [push_cast, seval, ↓reduceIte, frSt, frSlot, fr3, fr2, fr1, fr0, sameB, arrOf, hlt, hcI, hlC, hbm, hmn, mkQ]) | (with_reducible first | refine AWP_seq' ?_ | refine k_normal ?_ | refine k_exit ?_ | refine b_exit ?_ | refine AWP_ret ?_ | refine AWP_exit ?_) | ((with_reducible refine AWP_reg fun KC J hJ hKC => ?_); simp (maxSteps := 10000000) only [push_cast, seval, ↓reduceIte, hlt, hcI, hlC, hbm, hmn, mkQ]) | ((with_reducible refine And.intro ?_ ?_); · exact Sq) | ((with_reducible refine hJ _ _ ?_); clear hJ hKC KC J) | ((with_reducible refine AWP_condF ?_ ?_); · rfl)
      refine ret_keys ?_
      simp (maxSteps := 10000000) only [push_cast, seval, ↓reduceIte, show Tryz.f53.results = #[(.tmp 2)] from rfl]
      exact ⟨rfl, Lq⟩
end Go.Proofs.YtabliglgeiajlaaGreat.AM
