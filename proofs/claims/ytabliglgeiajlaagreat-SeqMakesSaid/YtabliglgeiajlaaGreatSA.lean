/- Templates: the maker's methods. -/
import Derived.Test.YtabliglgeiajlaaGreatSP
import Derived.Test.YtabliglgeiajlaaGreatHR
import Derived.Test.YtabliglgeiajlaaGreatU0
set_option linter.unusedSimpArgs false
set_option linter.unusedVariables false
namespace Go.Proofs.YtabliglgeiajlaaGreat.AM
open Go Go.RowKit Go.Proofs
set_option maxRecDepth 100000
set_option maxHeartbeats 2000000

abbrev mkQ (nl : Int) (sp : Sp) (d : Dr) (e : Int) : Ent := ⟨0, none, 92, [.v (.int .i64 nl), .v (.int .i64 sp.code), .v (.int .i64 sp.mem), .v (.int .i64 sp.stack), .v (.int .i64 sp.val), .sl false 1 (intRow sp.ws), .sl false 1 (intRow d.l), .v (.int .i64 d.a), .sl false 1 (intRow d.g), .v (.int .i64 e)], .cells⟩
theorem qTook_fn (nl : Int) (sp : Sp) (d : Dr) (n e : Int) (t : M3) :
    Fn (Tryz.prog) 226 [.ptr 0 0 0, encDr false false t.1, .v (.int .i64 t.2.1), .v (.int .i64 t.2.2)] [.ent (mkQ nl sp d e)] (.v (.int .i64 (tookP (d, n, e) t).2.1)) [.ent (mkQ nl sp (tookP (d, n, e) t).1 (tookP (d, n, e) t).2.2)] := by
  obtain ⟨td, tn, te⟩ := t
  simp only [tookP, encDr, mkQ]
  refine Fn.of (fn := Tryz.f226) (by kernel_rfl) rfl (by kernel_rfl) ⟨[.ptr 0 0 0, .agg [.sl false 1 (intRow td.l), .v (.int .i64 td.a), .sl false 1 (intRow td.g)], .v (.int .i64 tn), .v (.int .i64 te), .v undef, .v undef, .v undef, .v undef, .v undef, .v undef, .v undef, .v undef, .v undef, .v undef, .v undef, .v undef, .v undef, .v undef, .v undef, .v undef, .v undef, .v undef, .v undef, .v undef, .v undef, .v undef, .v undef, .v undef], [.ent (mkQ nl sp d e)]⟩ rfl ?_
  simp only [mkQ]
  by_cases h1 : e = 0
  · subst h1
    by_cases h2 : te = 0
    · subst h2
      repeat' first | (with_reducible first | refine AWP_seq' ?_ | refine k_normal ?_ | refine AWP_ret ?_ | refine AWP_skip ?_) | ((with_reducible refine AWP_reg fun KC J hJ hKC => ?_); simp (maxSteps := 10000000) only [push_cast, seval, ↓reduceIte, beq_self_eq_true, bne_self_eq_false]) | ((with_reducible refine hJ _ _ ?_); clear hJ hKC KC J) | ((with_reducible refine AWP_condT ?_ ?_); · rfl) | ((with_reducible refine AWP_condF ?_ ?_); · rfl)
      refine ret_keys ?_
      simp (maxSteps := 10000000) only [push_cast, seval, ↓reduceIte, show Tryz.f226.results = #[(.tmp 8)] from rfl]
      exact ⟨rfl, leD_refl _⟩
    · have h2' : (te != 0) = true := by simpa using h2
      rw [if_pos rfl, if_neg h2]
      repeat' first | (with_reducible first | refine AWP_seq' ?_ | refine k_normal ?_ | refine k_ret ?_ | refine AWP_ret ?_) | ((with_reducible refine AWP_reg fun KC J hJ hKC => ?_); simp (maxSteps := 10000000) only [push_cast, seval, ↓reduceIte, beq_self_eq_true, h2']) | ((with_reducible refine hJ _ _ ?_); clear hJ hKC KC J) | ((with_reducible refine AWP_condT ?_ ?_); · rfl)
      refine ret_keys ?_
      simp (maxSteps := 10000000) only [push_cast, seval, ↓reduceIte, show Tryz.f226.results = #[(.tmp 8)] from rfl]
      exact ⟨rfl, leD_refl _⟩
  · have h1' : (e != 0) = true := by simpa using h1
    have h1'' : (e == 0) = false := by simpa using h1
    rw [if_neg h1]
    repeat' first | (with_reducible first | refine AWP_seq' ?_ | refine k_normal ?_ | refine k_ret ?_ | refine AWP_ret ?_ | refine AWP_skip ?_) | ((with_reducible refine AWP_reg fun KC J hJ hKC => ?_); simp (maxSteps := 10000000) only [push_cast, seval, ↓reduceIte, h1', h1'']) | ((with_reducible refine hJ _ _ ?_); clear hJ hKC KC J) | ((with_reducible refine AWP_condT ?_ ?_); · rfl) | ((with_reducible refine AWP_condF ?_ ?_); · rfl)
    refine ret_keys ?_
    simp (maxSteps := 10000000) only [push_cast, seval, ↓reduceIte, show Tryz.f226.results = #[(.tmp 8)] from rfl]
    exact ⟨rfl, leD_refl _⟩
theorem qBelow_fn (nl : Int) (sp : Sp) (d : Dr) (n e b : Int) (hB : b ≤ 9223372036854775807) :
    Fn (Tryz.prog) 127 [.ptr 0 0 0, .v (.int .i64 b)] [.ent (mkQ nl sp d e)] (.v (.int .i64 (belowP (d, n, e) b).2.1)) [.ent (mkQ nl sp (belowP (d, n, e) b).1 (belowP (d, n, e) b).2.2)] := by
  have ht := take_fn false false d.l d.g d.a b hB
  have hk := qTook_fn nl sp d n e (takeF d b)
  simp only [belowP]
  obtain ⟨t, hT⟩ : ∃ t, takeF d b = t := ⟨_, rfl⟩
  obtain ⟨m, hM⟩ : ∃ m, tookP (d, n, e) t = m := ⟨_, rfl⟩
  rw [show (⟨d.l, d.a, d.g⟩ : Dr) = d from rfl, hT] at ht
  rw [hT, hM] at hk
  rw [hT, hM]
  refine Fn.of (fn := Tryz.f127) (by kernel_rfl) rfl (by kernel_rfl) ⟨[.ptr 0 0 0, .v (.int .i64 b), .v undef, .v undef, .v undef, .v undef, .v undef, .v undef, .v undef, .v undef, .v undef, .v undef, .v undef, .v undef, .v undef, .v undef], [.ent (mkQ nl sp d e)]⟩ rfl ?_
  simp only [mkQ]
  repeat' first | (with_reducible first | refine AWP_seq' ?_ | refine k_normal ?_ | refine AWP_ret ?_) | ((with_reducible refine AWP_reg fun KC J hJ hKC => ?_); simp (maxSteps := 10000000) only [push_cast, seval, ↓reduceIte, encDr, hT, hM, backOf, callSets, renSlot, pick, mOf, idx, ren, ren2, ren1, ren0]) | (refine' hKC _ _ _ _ _ (callV0 (take_fn _ _ _ _ _ _ ?_) rfl rfl rfl ?_ ?_); (rotate_left 7); (· exact Lq); (rotate_left 1); (iterate 1 (· exact Hq)); simp (maxSteps := 10000000) only [push_cast, seval, ↓reduceIte, encDr, hT, hM, backOf, callSets, renSlot, pick, mOf, idx, ren, ren2, ren1, ren0]) | (refine hKC _ _ _ _ _ (callK [0] hk rfl rfl rfl (by decide) (by simp) rfl rfl Lq ?_); simp (maxSteps := 10000000) only [push_cast, seval, ↓reduceIte, encDr, hT, hM, backOf, callSets, renSlot, pick, mOf, idx, ren, ren2, ren1, ren0]) | ((with_reducible refine hJ _ _ ?_); clear hJ hKC KC J)
  refine ret_keys ?_
  simp (maxSteps := 10000000) only [push_cast, seval, ↓reduceIte, show Tryz.f127.results = #[(.tmp 4)] from rfl]
  exact ⟨rfl, leD_refl _⟩
theorem indexInts_fn (f : Bool) (xs : List Int) (v : Int) (hb : xs.length ≤ 1000) : Fn Tryz.prog 300 [.sl f 1 (intRow xs), .v (.int .i64 v)] [] (.v (.int .i64 (idxF (fun y => v == y) xs))) [] := by
  refine Fn.of (fn := Tryz.f300) (by kernel_rfl) rfl (by kernel_rfl) ⟨[.sl f 1 (intRow xs), .v (.int .i64 v), .v undef, .v undef, .v undef, .v undef, .v undef, .v undef, .v undef, .v undef, .v undef, .v undef, .v undef, .v undef, .v undef, .v undef, .v undef, .v undef, .v undef], []⟩ rfl ?_
  repeat' first | (with_reducible first | refine AWP_seq' ?_ | refine k_normal ?_ | refine AWP_block ?_) | ((with_reducible refine AWP_reg fun KC J hJ hKC => ?_); simp (maxSteps := 10000000) only [push_cast, seval, ↓reduceIte]) | ((with_reducible refine hJ _ _ ?_); clear hJ hKC KC J)
  refine AWP_loopF (γ := {i : Nat // i ≤ xs.length ∧ ∀ (j : Nat) (hj : j < xs.length), j < i → (v == xs[j]) = false}) (fun i => ⟨[.sl f 1 (intRow xs), .v (.int .i64 v), .any, .any, .any, .any, .any, .v (.int .i64 xs.length), .v (.int .i64 i.1), .any, .any, .any, .any, .any, .any, .any, .any, .any, .any], []⟩) (fun i => xs.length - i.1) ⟨0, by simp⟩ ⟨?_, Fq⟩ ?_
  · exact Lq
  · rintro ⟨i, hi, hn⟩
    by_cases hlt : (i : Int) < (xs.length : Int)
    · have hx : xs[i]? = some xs[i] := List.getElem?_eq_getElem (by omega)
      obtain ⟨b, hb1⟩ : ∃ b, (v == xs[i]) = b := ⟨_, rfl⟩
      cases b
      case true =>
        repeat' first | (with_reducible first | refine AWP_seq' ?_ | refine k_normal ?_ | refine k_ret ?_ | refine b_ret ?_ | refine AWP_ret ?_ | refine AWP_skip ?_ | refine AWP_block ?_) | ((with_reducible refine AWP_reg fun KC J hJ hKC => ?_); simp (maxSteps := 10000000) only [push_cast, seval, ↓reduceIte, hlt, getE_intRow hx, hb1]) | ((with_reducible refine And.intro ?_ ?_); · exact Sq) | ((with_reducible refine hJ _ _ ?_); clear hJ hKC KC J) | ((with_reducible refine AWP_condT ?_ ?_); · rfl)
        refine ret_plain ?_
        simp (maxSteps := 10000000) only [push_cast, seval, ↓reduceIte, show Tryz.f300.results = #[(.tmp 4)] from rfl]
        exact leD_v (by rw [idxF_at (by omega) hb1 hn])
      repeat' first | (with_reducible first | refine AWP_seq' ?_ | refine k_normal ?_ | refine b_normal ?_ | refine AWP_skip ?_ | refine AWP_block ?_) | ((with_reducible refine AWP_reg fun KC J hJ hKC => ?_); simp (maxSteps := 10000000) only [push_cast, seval, ↓reduceIte, hlt, getE_intRow hx, hb1, wrapN (i := i) (n := xs.length) (by omega) (by omega)]) | ((with_reducible refine And.intro ?_ ?_); · exact Sq) | ((with_reducible refine hJ _ _ ?_); clear hJ hKC KC J) | ((with_reducible refine AWP_condT ?_ ?_); · rfl) | ((with_reducible refine AWP_condF ?_ ?_); · rfl)
      refine ⟨⟨i + 1, by omega, fun j hj hji => ?_⟩, by simp only; omega, ?_, Fq⟩
      · by_cases he : j = i
        · subst he; exact hb1
        · exact hn j hj (by omega)
      · exact Lq
    · skip
      repeat' first | (with_reducible first | refine AWP_seq' ?_ | refine k_normal ?_ | refine k_exit ?_ | refine b_exit ?_ | refine AWP_ret ?_ | refine AWP_exit ?_) | ((with_reducible refine AWP_reg fun KC J hJ hKC => ?_); simp (maxSteps := 10000000) only [push_cast, seval, ↓reduceIte, hlt]) | ((with_reducible refine hJ _ _ ?_); clear hJ hKC KC J) | ((with_reducible refine AWP_condF ?_ ?_); · rfl)
      refine ret_plain ?_
      simp (maxSteps := 10000000) only [push_cast, seval, ↓reduceIte, show Tryz.f300.results = #[(.tmp 4)] from rfl]
      exact leD_v (by rw [idxF_none (fun j hj => hn j hj (by omega))])
theorem containsInts_fn (f : Bool) (xs : List Int) (v : Int) (hb : xs.length ≤ 1000) : Fn Tryz.prog 293 [.sl f 1 (intRow xs), .v (.int .i64 v)] [] (.v (.bool (xs.any fun y => v == y))) [] := by
  have h1 := indexInts_fn f xs v hb
  refine Fn.of (fn := Tryz.f293) (by kernel_rfl) rfl (by kernel_rfl) ⟨[.sl f 1 (intRow xs), .v (.int .i64 v), .v undef, .v undef, .v undef, .v undef, .v undef, .v undef, .v undef], []⟩ rfl ?_
  repeat' first | (with_reducible first | refine AWP_seq' ?_ | refine k_normal ?_ | refine AWP_ret ?_) | ((with_reducible refine AWP_reg fun KC J hJ hKC => ?_); simp (maxSteps := 10000000) only [push_cast, seval, ↓reduceIte, idxF_any]) | (refine hKC _ _ _ _ _ (callV0 (h1) rfl rfl rfl ?_ ?_); (· exact Lq); simp (maxSteps := 10000000) only [push_cast, seval, ↓reduceIte, idxF_any]) | ((with_reducible refine hJ _ _ ?_); clear hJ hKC KC J)
  refine ret_plain ?_
  simp (maxSteps := 10000000) only [push_cast, seval, ↓reduceIte, show Tryz.f293.results = #[(.tmp 4)] from rfl]
  exact leD_refl _
theorem addr_fn (op : Int) : Fn Tryz.prog 277 [.v (.int .i64 op)] [] (.v (.bool (addrB op))) [] := by
  have h1 := containsInts_fn true [6, 5, 7, 9] op (by simp)
  refine Fn.of (fn := Tryz.f277) (by kernel_rfl) rfl (by kernel_rfl) ⟨[.v (.int .i64 op), .v undef, .v undef, .v undef, .v undef, .v undef], []⟩ rfl ?_
  repeat' first | (with_reducible first | refine AWP_seq' ?_ | refine k_normal ?_ | refine AWP_ret ?_) | ((with_reducible refine AWP_reg fun KC J hJ hKC => ?_); simp (maxSteps := 10000000) only [push_cast, seval, ↓reduceIte]) | (refine hKC _ _ _ _ _ (callV0 (h1) rfl rfl rfl ?_ ?_); (· exact Lq); simp (maxSteps := 10000000) only [push_cast, seval, ↓reduceIte]) | ((with_reducible refine hJ _ _ ?_); clear hJ hKC KC J)
  refine ret_plain ?_
  simp (maxSteps := 10000000) only [push_cast, seval, ↓reduceIte, show Tryz.f277.results = #[(.tmp 2)] from rfl]
  exact leD_refl _
theorem qInstr_fn (nl : Int) (sp : Sp) (d : Dr) (n e o x : Int) (hn : nl ≤ 9223372036854775807) (hv0 : 0 ≤ sp.val) (hv1 : sp.val ≤ 20) :
    Fn (Tryz.prog) 228 [.ptr 0 0 0, .v (.int .i64 o), .v (.int .i64 x)] [.ent (mkQ nl sp d e)] (.agg [.v (.int .i64 (seqIP nl sp o x (d, n, e)).2.1), .v (.int .i64 (seqIP nl sp o x (d, n, e)).2.2.1), .v (.int .i64 (seqIP nl sp o x (d, n, e)).2.2.2)]) [.ent (mkQ nl sp (seqIP nl sp o x (d, n, e)).1.1 (seqIP nl sp o x (d, n, e)).1.2.2)] := by
  have ha := addr_fn x
  have wm : IntKind.i64.wrap (sp.val + 1) = sp.val + 1 := wrapI (by omega) (by omega)
  simp only [seqIP]
  by_cases e1 : o = 1
  · subst e1
    simp only [seqN, if_true]
    obtain ⟨b, hb⟩ : ∃ b, addrB x = b := ⟨_, rfl⟩
    rw [hb] at ha ⊢
    cases b
    case true =>
      have h2 := qBelow_fn nl sp d n e (sp.val + 1) (by omega)
      simp only [if_true]
      obtain ⟨⟨d2, n2, e2⟩, hM2⟩ : ∃ m, belowP (d, n, e) (sp.val + 1) = m := ⟨_, rfl⟩
      rw [hM2] at h2 ⊢
      have h3 := qBelow_fn nl sp d2 n2 e2 nl hn
      simp only at h2 h3 ⊢
      obtain ⟨⟨d3, n3, e3⟩, hM3⟩ : ∃ m, belowP (d2, n2, e2) nl = m := ⟨_, rfl⟩
      rw [hM3] at h3 ⊢
      simp only [mkQ] at h2 h3 ⊢
      refine Fn.of (fn := Tryz.f228) (by kernel_rfl) rfl (by kernel_rfl) ⟨[.ptr 0 0 0, .v (.int .i64 1), .v (.int .i64 x), .v undef, .v undef, .v undef, .v undef, .v undef, .v undef, .v undef, .v undef, .v undef, .v undef, .v undef, .v undef, .v undef, .v undef, .v undef, .v undef, .v undef, .v undef, .v undef, .v undef, .v undef, .v undef, .v undef, .v undef, .v undef, .v undef, .v undef, .v undef, .v undef, .v undef, .v undef, .v undef, .v undef, .v undef, .v undef, .v undef, .v undef, .v undef, .v undef, .v undef, .v undef, .v undef, .v undef, .v undef, .v undef, .v undef, .v undef, .v undef, .v undef, .v undef, .v undef, .v undef, .v undef, .v undef, .v undef, .v undef, .v undef, .v undef, .v undef, .v undef], [.ent (mkQ nl sp d e)]⟩ rfl ?_
      simp only [mkQ]
      repeat' first | (with_reducible first | refine AWP_seq' ?_ | refine k_normal ?_ | refine b_normal ?_ | refine AWP_ret ?_ | refine AWP_block ?_) | ((with_reducible refine AWP_reg fun KC J hJ hKC => ?_); simp (maxSteps := 10000000) only [push_cast, seval, ↓reduceIte, wm, beq_self_eq_true, backOf, callSets, renSlot, pick, mOf, idx, ren, ren2, ren1, ren0]) | (refine hKC _ _ _ _ _ (callK [0] h2 rfl rfl rfl (by decide) (by simp) rfl rfl Lq ?_); simp (maxSteps := 10000000) only [push_cast, seval, ↓reduceIte, wm, beq_self_eq_true, backOf, callSets, renSlot, pick, mOf, idx, ren, ren2, ren1, ren0]) | (refine hKC _ _ _ _ _ (callK [0] h3 rfl rfl rfl (by decide) (by simp) rfl rfl Lq ?_); simp (maxSteps := 10000000) only [push_cast, seval, ↓reduceIte, wm, beq_self_eq_true, backOf, callSets, renSlot, pick, mOf, idx, ren, ren2, ren1, ren0]) | (refine hKC _ _ _ _ _ (callV0 (ha) rfl rfl rfl ?_ ?_); (· exact Lq); simp (maxSteps := 10000000) only [push_cast, seval, ↓reduceIte, wm, beq_self_eq_true, backOf, callSets, renSlot, pick, mOf, idx, ren, ren2, ren1, ren0]) | ((with_reducible refine hJ _ _ ?_); clear hJ hKC KC J) | ((with_reducible refine AWP_condT ?_ ?_); · rfl)
      refine ret_keys ?_
      simp (maxSteps := 10000000) only [push_cast, seval, ↓reduceIte, show Tryz.f228.results = #[(.cell 6 100)] from rfl]
      exact ⟨rfl, leD_refl _⟩
    have h1 := signed_fn false false d.l d.g d.a sp.val
    have h2 := qTook_fn nl sp d n e (signedF d sp.val)
    simp only [Bool.false_eq_true, if_false, numberP]
    rw [show (⟨d.l, d.a, d.g⟩ : Dr) = d from rfl] at h1
    obtain ⟨t, hT⟩ : ∃ t, signedF d sp.val = t := ⟨_, rfl⟩
    rw [hT] at h1 h2 ⊢
    obtain ⟨⟨d2, n2, e2⟩, hM2⟩ : ∃ m, tookP (d, n, e) t = m := ⟨_, rfl⟩
    rw [hM2] at h2 ⊢
    have h3 := qBelow_fn nl sp d2 n2 e2 nl hn
    simp only at h2 h3 ⊢
    obtain ⟨⟨d3, n3, e3⟩, hM3⟩ : ∃ m, belowP (d2, n2, e2) nl = m := ⟨_, rfl⟩
    rw [hM3] at h3 ⊢
    simp only [mkQ, encDr] at h1 h2 h3 ⊢
    refine Fn.of (fn := Tryz.f228) (by kernel_rfl) rfl (by kernel_rfl) ⟨[.ptr 0 0 0, .v (.int .i64 1), .v (.int .i64 x), .v undef, .v undef, .v undef, .v undef, .v undef, .v undef, .v undef, .v undef, .v undef, .v undef, .v undef, .v undef, .v undef, .v undef, .v undef, .v undef, .v undef, .v undef, .v undef, .v undef, .v undef, .v undef, .v undef, .v undef, .v undef, .v undef, .v undef, .v undef, .v undef, .v undef, .v undef, .v undef, .v undef, .v undef, .v undef, .v undef, .v undef, .v undef, .v undef, .v undef, .v undef, .v undef, .v undef, .v undef, .v undef, .v undef, .v undef, .v undef, .v undef, .v undef, .v undef, .v undef, .v undef, .v undef, .v undef, .v undef, .v undef, .v undef, .v undef, .v undef], [.ent (mkQ nl sp d e)]⟩ rfl ?_
    simp only [mkQ]
    repeat' first | (with_reducible first | refine AWP_seq' ?_ | refine k_normal ?_ | refine b_normal ?_ | refine AWP_ret ?_ | refine AWP_block ?_) | ((with_reducible first | refine AWP_reg fun KC J hJ hKC => ?_ | refine AWP_regD rfl fun KC J hJ hKC => ?_); simp (maxSteps := 10000000) only [push_cast, seval, ↓reduceIte, beq_self_eq_true, backOf, callSets, renSlot, pick, mOf, idx, ren, ren2, ren1, ren0]) | (refine hKC _ _ _ _ _ (callK [0] h2 rfl rfl rfl (by decide) (by simp) rfl rfl Lq ?_); simp (maxSteps := 10000000) only [push_cast, seval, ↓reduceIte, beq_self_eq_true, backOf, callSets, renSlot, pick, mOf, idx, ren, ren2, ren1, ren0]) | (refine hKC _ _ _ _ _ (callK [0] h3 rfl rfl rfl (by decide) (by simp) rfl rfl Lq ?_); simp (maxSteps := 10000000) only [push_cast, seval, ↓reduceIte, beq_self_eq_true, backOf, callSets, renSlot, pick, mOf, idx, ren, ren2, ren1, ren0]) | (refine hKC _ _ _ _ _ (callV0 (ha) rfl rfl rfl ?_ ?_); (· exact Lq); simp (maxSteps := 10000000) only [push_cast, seval, ↓reduceIte, beq_self_eq_true, backOf, callSets, renSlot, pick, mOf, idx, ren, ren2, ren1, ren0]) | (refine hKC _ _ _ _ _ (callV0 (h1) rfl rfl rfl ?_ ?_); (· exact Lq); simp (maxSteps := 10000000) only [push_cast, seval, ↓reduceIte, beq_self_eq_true, backOf, callSets, renSlot, pick, mOf, idx, ren, ren2, ren1, ren0]) | ((first | with_reducible refine hJ _ _ ?_ | (with_reducible refine hJ _ _ ?_ ?_; · kernel_rfl)); clear hJ hKC KC J) | ((with_reducible refine AWP_condT ?_ ?_); · rfl) | ((with_reducible refine AWP_condF ?_ ?_); · rfl)
    refine ret_keys ?_
    simp (maxSteps := 10000000) only [push_cast, seval, ↓reduceIte, show Tryz.f228.results = #[(.cell 6 100)] from rfl]
    exact ⟨rfl, leD_refl _⟩
  have e1' : (o == 1) = false := by simpa using e1
  simp only [seqN, if_neg e1]
  by_cases e8 : o = 8
  · subst e8
    have h2 := qBelow_fn nl sp d n e 13 (by omega)
    simp only [if_true, if_false]
    obtain ⟨⟨d2, n2, e2⟩, hM2⟩ : ∃ m, belowP (d, n, e) 13 = m := ⟨_, rfl⟩
    rw [hM2] at h2 ⊢
    simp only [mkQ] at h2 ⊢
    refine Fn.of (fn := Tryz.f228) (by kernel_rfl) rfl (by kernel_rfl) ⟨[.ptr 0 0 0, .v (.int .i64 8), .v (.int .i64 x), .v undef, .v undef, .v undef, .v undef, .v undef, .v undef, .v undef, .v undef, .v undef, .v undef, .v undef, .v undef, .v undef, .v undef, .v undef, .v undef, .v undef, .v undef, .v undef, .v undef, .v undef, .v undef, .v undef, .v undef, .v undef, .v undef, .v undef, .v undef, .v undef, .v undef, .v undef, .v undef, .v undef, .v undef, .v undef, .v undef, .v undef, .v undef, .v undef, .v undef, .v undef, .v undef, .v undef, .v undef, .v undef, .v undef, .v undef, .v undef, .v undef, .v undef, .v undef, .v undef, .v undef, .v undef, .v undef, .v undef, .v undef, .v undef, .v undef, .v undef], [.ent (mkQ nl sp d e)]⟩ rfl ?_
    simp only [mkQ]
    repeat' first | (with_reducible first | refine AWP_seq' ?_ | refine k_normal ?_ | refine b_normal ?_ | refine AWP_ret ?_ | refine AWP_block ?_) | ((with_reducible refine AWP_reg fun KC J hJ hKC => ?_); simp (maxSteps := 10000000) only [push_cast, seval, ↓reduceIte, beq_self_eq_true, backOf, callSets, renSlot, pick, mOf, idx, ren, ren2, ren1, ren0]) | (refine hKC _ _ _ _ _ (callK [0] h2 rfl rfl rfl (by decide) (by simp) rfl rfl Lq ?_); simp (maxSteps := 10000000) only [push_cast, seval, ↓reduceIte, beq_self_eq_true, backOf, callSets, renSlot, pick, mOf, idx, ren, ren2, ren1, ren0]) | ((with_reducible refine hJ _ _ ?_); clear hJ hKC KC J) | ((with_reducible refine AWP_condT ?_ ?_); · rfl) | ((with_reducible refine AWP_condF ?_ ?_); · rfl)
    refine ret_keys ?_
    simp (maxSteps := 10000000) only [push_cast, seval, ↓reduceIte, show Tryz.f228.results = #[(.cell 6 100)] from rfl]
    exact ⟨rfl, leD_refl _⟩
  by_cases e9 : o = 9
  · subst e9
    have h2 := qBelow_fn nl sp d n e 4 (by omega)
    simp only [show ((9 : Int) = 8) = False by simp, if_true, if_false]
    obtain ⟨⟨d2, n2, e2⟩, hM2⟩ : ∃ m, belowP (d, n, e) 4 = m := ⟨_, rfl⟩
    rw [hM2] at h2 ⊢
    simp only [mkQ] at h2 ⊢
    refine Fn.of (fn := Tryz.f228) (by kernel_rfl) rfl (by kernel_rfl) ⟨[.ptr 0 0 0, .v (.int .i64 9), .v (.int .i64 x), .v undef, .v undef, .v undef, .v undef, .v undef, .v undef, .v undef, .v undef, .v undef, .v undef, .v undef, .v undef, .v undef, .v undef, .v undef, .v undef, .v undef, .v undef, .v undef, .v undef, .v undef, .v undef, .v undef, .v undef, .v undef, .v undef, .v undef, .v undef, .v undef, .v undef, .v undef, .v undef, .v undef, .v undef, .v undef, .v undef, .v undef, .v undef, .v undef, .v undef, .v undef, .v undef, .v undef, .v undef, .v undef, .v undef, .v undef, .v undef, .v undef, .v undef, .v undef, .v undef, .v undef, .v undef, .v undef, .v undef, .v undef, .v undef, .v undef, .v undef], [.ent (mkQ nl sp d e)]⟩ rfl ?_
    simp only [mkQ]
    repeat' first | (with_reducible first | refine AWP_seq' ?_ | refine k_normal ?_ | refine b_normal ?_ | refine AWP_ret ?_ | refine AWP_block ?_) | ((with_reducible refine AWP_reg fun KC J hJ hKC => ?_); simp (maxSteps := 10000000) only [push_cast, seval, ↓reduceIte, beq_self_eq_true, backOf, callSets, renSlot, pick, mOf, idx, ren, ren2, ren1, ren0]) | (refine hKC _ _ _ _ _ (callK [0] h2 rfl rfl rfl (by decide) (by simp) rfl rfl Lq ?_); simp (maxSteps := 10000000) only [push_cast, seval, ↓reduceIte, beq_self_eq_true, backOf, callSets, renSlot, pick, mOf, idx, ren, ren2, ren1, ren0]) | ((with_reducible refine hJ _ _ ?_); clear hJ hKC KC J) | ((with_reducible refine AWP_condT ?_ ?_); · rfl) | ((with_reducible refine AWP_condF ?_ ?_); · rfl)
    refine ret_keys ?_
    simp (maxSteps := 10000000) only [push_cast, seval, ↓reduceIte, show Tryz.f228.results = #[(.cell 6 100)] from rfl]
    exact ⟨rfl, leD_refl _⟩
  by_cases e10 : o = 10
  · subst e10
    have h2 := qBelow_fn nl sp d n e 2 (by omega)
    simp only [show ((10 : Int) = 8) = False by simp, show ((10 : Int) = 9) = False by simp, if_true, if_false]
    obtain ⟨⟨d2, n2, e2⟩, hM2⟩ : ∃ m, belowP (d, n, e) 2 = m := ⟨_, rfl⟩
    rw [hM2] at h2 ⊢
    simp only [mkQ] at h2 ⊢
    refine Fn.of (fn := Tryz.f228) (by kernel_rfl) rfl (by kernel_rfl) ⟨[.ptr 0 0 0, .v (.int .i64 10), .v (.int .i64 x), .v undef, .v undef, .v undef, .v undef, .v undef, .v undef, .v undef, .v undef, .v undef, .v undef, .v undef, .v undef, .v undef, .v undef, .v undef, .v undef, .v undef, .v undef, .v undef, .v undef, .v undef, .v undef, .v undef, .v undef, .v undef, .v undef, .v undef, .v undef, .v undef, .v undef, .v undef, .v undef, .v undef, .v undef, .v undef, .v undef, .v undef, .v undef, .v undef, .v undef, .v undef, .v undef, .v undef, .v undef, .v undef, .v undef, .v undef, .v undef, .v undef, .v undef, .v undef, .v undef, .v undef, .v undef, .v undef, .v undef, .v undef, .v undef, .v undef, .v undef], [.ent (mkQ nl sp d e)]⟩ rfl ?_
    simp only [mkQ]
    repeat' first | (with_reducible first | refine AWP_seq' ?_ | refine k_normal ?_ | refine b_normal ?_ | refine AWP_ret ?_ | refine AWP_block ?_) | ((with_reducible refine AWP_reg fun KC J hJ hKC => ?_); simp (maxSteps := 10000000) only [push_cast, seval, ↓reduceIte, beq_self_eq_true, backOf, callSets, renSlot, pick, mOf, idx, ren, ren2, ren1, ren0]) | (refine hKC _ _ _ _ _ (callK [0] h2 rfl rfl rfl (by decide) (by simp) rfl rfl Lq ?_); simp (maxSteps := 10000000) only [push_cast, seval, ↓reduceIte, beq_self_eq_true, backOf, callSets, renSlot, pick, mOf, idx, ren, ren2, ren1, ren0]) | ((with_reducible refine hJ _ _ ?_); clear hJ hKC KC J) | ((with_reducible refine AWP_condT ?_ ?_); · rfl) | ((with_reducible refine AWP_condF ?_ ?_); · rfl)
    refine ret_keys ?_
    simp (maxSteps := 10000000) only [push_cast, seval, ↓reduceIte, show Tryz.f228.results = #[(.cell 6 100)] from rfl]
    exact ⟨rfl, leD_refl _⟩
  have e8' : (o == 8) = false := by simpa using e8
  have e9' : (o == 9) = false := by simpa using e9
  have e10' : (o == 10) = false := by simpa using e10
  simp only [if_neg e8, if_neg e9, if_neg e10]
  refine Fn.of (fn := Tryz.f228) (by kernel_rfl) rfl (by kernel_rfl) ⟨[.ptr 0 0 0, .v (.int .i64 o), .v (.int .i64 x), .v undef, .v undef, .v undef, .v undef, .v undef, .v undef, .v undef, .v undef, .v undef, .v undef, .v undef, .v undef, .v undef, .v undef, .v undef, .v undef, .v undef, .v undef, .v undef, .v undef, .v undef, .v undef, .v undef, .v undef, .v undef, .v undef, .v undef, .v undef, .v undef, .v undef, .v undef, .v undef, .v undef, .v undef, .v undef, .v undef, .v undef, .v undef, .v undef, .v undef, .v undef, .v undef, .v undef, .v undef, .v undef, .v undef, .v undef, .v undef, .v undef, .v undef, .v undef, .v undef, .v undef, .v undef, .v undef, .v undef, .v undef, .v undef, .v undef, .v undef], [.ent (mkQ nl sp d e)]⟩ rfl ?_
  simp only [mkQ]
  repeat' first | (with_reducible first | refine AWP_seq' ?_ | refine k_normal ?_ | refine b_normal ?_ | refine AWP_ret ?_ | refine AWP_skip ?_ | refine AWP_block ?_) | ((with_reducible refine AWP_reg fun KC J hJ hKC => ?_); simp (maxSteps := 10000000) only [push_cast, seval, ↓reduceIte, e1', e8', e9', e10', backOf, callSets, renSlot, pick, mOf, idx, ren, ren2, ren1, ren0]) | ((with_reducible refine hJ _ _ ?_); clear hJ hKC KC J) | ((with_reducible refine AWP_condF ?_ ?_); · rfl)
  refine ret_keys ?_
  simp (maxSteps := 10000000) only [push_cast, seval, ↓reduceIte, show Tryz.f228.results = #[(.cell 6 100)] from rfl]
  exact ⟨rfl, leD_refl _⟩
end Go.Proofs.YtabliglgeiajlaaGreat.AM
