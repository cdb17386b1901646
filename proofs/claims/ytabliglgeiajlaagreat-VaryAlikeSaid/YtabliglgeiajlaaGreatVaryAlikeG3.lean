/- Walks and plain laws, put together: part 3. -/
import Derived.Test.YtabliglgeiajlaaGreatVaryAlikeG2
import Derived.Test.YtabliglgeiajlaaGreatVaryAlikeG1
set_option linter.unusedSimpArgs false
set_option linter.unusedVariables false
namespace Go.Proofs.YtabliglgeiajlaaGreat.AM
open Go Go.RowKit Go.Proofs
set_option maxRecDepth 100000
set_option maxHeartbeats 4000000
def yE (n : Nat) : Option Nat → D
  | none => .sl true 3 []
  | some g => .ref 1 g n
def yσ (s : Slot) (cs : List D) : Option Nat → List Slot
  | none => [s]
  | some g => [s, .ent ⟨g, some 3, 104, cs, .cells⟩]
def yO (s : Slot) : Option Nat → List Slot
  | none => [s]
  | some _ => [s, .dead]
theorem Rle_slY (b : Bool) (sz : Nat) (xs : List (List D)) : Rle (.sl b sz xs) (.sl false sz xs) := by
  cases b
  · exact Rle.refl _
  · exact Rle.full sz xs
def v1P (q : VQ) (m : M3) : M3 × (Bool × Int × Int) :=
  let r := belowP m 2
  let l := belowP r q.us.length
  let b := decide (r.2.1 = 1) && hid q.us q.o l.2.1
  let v := valueP q b l
  (v, (b, v.2.1, l.2.1))
def moreP (q : VQ) (k : List (Bool × Int × Int)) (m : M3) : M3 × List (Bool × Int × Int) :=
  let b := belowP m (q.sp.stack - (k.length : Int) + 1)
  ((timesF (v1P q) b.2.1.toNat b).1, k ++ (timesF (v1P q) b.2.1.toNat b).2)
theorem vMore_fn (q : VQ) (hq : VOk q) (hul : q.us.length ≤ 8) (d : Dr) (n0 e : Int) (k : List (Bool × Int × Int)) (hk : k.length ≤ 12) (hs0 : 0 ≤ q.sp.stack) (hs1 : q.sp.stack ≤ 12) (hks : (k.length : Int) ≤ q.sp.stack) (og : Option Nat) (hog : og = none → k = []) :
    Fn Tryz.prog 264 [.ptr 0 0 0, yE k.length og] (yσ (.ent (mkV q d e)) (sCells k) og) (.sl false 3 (sRow (moreP q k (d, n0, e)).2)) (yO (.ent (mkV q (moreP q k (d, n0, e)).1.1 (moreP q k (d, n0, e)).1.2.2)) og) := by
  have hb0 := vBelow_fn q d n0 e (q.sp.stack - (k.length : Int) + 1) (by omega)
  have hbr := belowP_le (m := (d, n0, e)) (show 1 ≤ q.sp.stack - (k.length : Int) + 1 by omega)
  have w1 : IntKind.i64.wrap (q.sp.stack - (k.length : Int)) = q.sp.stack - (k.length : Int) := wrapI (by omega) (by omega)
  have w2 : IntKind.i64.wrap (q.sp.stack - (k.length : Int) + 1) = q.sp.stack - (k.length : Int) + 1 := wrapI (by omega) (by omega)
  unfold moreP
  obtain ⟨B, hB⟩ : ∃ m, belowP (d, n0, e) (q.sp.stack - (k.length : Int) + 1) = m := ⟨_, rfl⟩
  rw [hB] at hb0 hbr ⊢
  obtain ⟨N, hN⟩ : ∃ N : Nat, B.2.1 = N := ⟨B.2.1.toNat, by omega⟩
  have hNl : N ≤ 13 := by omega
  simp only [hN, Int.toNat_natCast]
  rw [hN] at hb0
  rcases og with _ | g0
  · refine Fn.post (res := .sl (decide (k ++ (timesF (v1P q) N B).2 = [])) 3 (sRow (k ++ (timesF (v1P q) N B).2))) ?_ (Rle_slY _ _ _)
    have hk0 := hog rfl
    subst hk0
    rw [show q.sp.stack - (([] : List (Bool × Int × Int)).length : Int) + 1 = q.sp.stack + 1 by simp] at hb0
    have w3 : IntKind.i64.wrap (q.sp.stack - 0) = q.sp.stack := by rw [Int.sub_zero]; exact wrapI (by omega) (by omega)
    have w4 : IntKind.i64.wrap (q.sp.stack + 1) = q.sp.stack + 1 := wrapI (by omega) (by omega)
    simp only [yE, yσ, yO, List.nil_append]
    refine Fn.of (fn := Tryz.f264) (by kernel_rfl) rfl (by kernel_rfl) ⟨[.ptr 0 0 0, .sl true 3 [], .v undef, .v undef, .v undef, .v undef, .v undef, .v undef, .v undef, .v undef, .v undef, .v undef, .v undef, .v undef, .v undef, .v undef, .v undef, .v undef, .v undef, .v undef, .v undef, .v undef, .v undef, .v undef, .v undef, .v undef, .v undef, .v undef, .v undef, .v undef, .v undef, .v undef, .v undef, .v undef, .v undef, .v undef, .v undef, .v undef, .v undef, .v undef, .v undef, .v undef, .v undef, .v undef, .v undef, .v undef, .v undef, .v undef, .v undef, .v undef, .v undef, .v undef], [.ent (mkV q d e)]⟩ rfl ?_
    simp only [mkV] at hb0 ⊢
    repeat' first | (with_reducible first | refine AWP_seq' ?_ | refine k_normal ?_ | refine AWP_block ?_) | ((first | with_reducible refine AWP_reg fun KC J hJ hKC => ?_ | (refine hKC _ _ _ _ _ (callK [0] hb0 rfl rfl rfl (by decide) (by simp) rfl rfl Lq ?_))); simp (maxSteps := 9999999) only [push_cast, seval, ↓reduceIte, w3, w4, backOf, callSets, renSlot, pick, mOf, idx, ren, ren2, ren1, ren0, ren_sCells]) | ((with_reducible refine hJ _ _ ?_); clear hJ hKC KC J)
    refine AWP_loopK 1 (γ := {p : Nat × Option Nat // p.1 ≤ N ∧ (p.2 = none → (timesF (v1P q) p.1 B).2 = []) ∧ (∀ g, p.2 = some g → (timesF (v1P q) p.1 B).2 ≠ [])}) (fun p => ⟨[.ptr 0 0 0, yE ((timesF (v1P q) p.1.1 B).2).length p.1.2, .any, .any, .any, .any, .any, .any, .any, .any, .any, .any, .any, .any, .any, .any, .v (.int .i64 N), .v (.int .i64 p.1.1), .any, .any, .any, .any, .any, .any, .any, .any, .any, .any, .any, .any, .any, .any, .any, .any, .any, .any, .any, .any, .any, .any, .any, .any, .any, .any, .any, .any, .any, .any, .any, .any, .any, .any], yσ (.ent (mkV q (timesF (v1P q) p.1.1 B).1.1 (timesF (v1P q) p.1.1 B).1.2.2)) (sCells ((timesF (v1P q) p.1.1 B).2)) p.1.2⟩) (fun p => N - p.1.1) ⟨(0, none), by omega, (fun _ => by simp [timesF]), fun g h => by cases h⟩ rfl ⟨?_, ?_⟩ ?_
    · simp only [timesF, List.append_nil, yE]
      exact Lq
    · simp only [timesF, List.append_nil, yσ, mkV]
      exact Fq
    rintro ⟨⟨i, og1⟩, hi, hno, hns⟩
    dsimp only at hi hno hns ⊢
    by_cases hlt : (i : Int) < (N : Int)
    · skip
      obtain ⟨⟨d1, n1, e1⟩, hM⟩ : ∃ m, (timesF (v1P q) i B).1 = m := ⟨_, rfl⟩
      obtain ⟨KT, hKT⟩ : ∃ T, (timesF (v1P q) i B).2 = T := ⟨_, rfl⟩
      have hst : timesF (v1P q) (i + 1) B = ((v1P q (d1, n1, e1)).1, (timesF (v1P q) i B).2 ++ [(v1P q (d1, n1, e1)).2]) := by simp only [timesF, hM]
      have hst1 : (timesF (v1P q) (i + 1) B).1 = (v1P q (d1, n1, e1)).1 := by rw [hst]
      have hst2 : (timesF (v1P q) (i + 1) B).2 = KT ++ [(v1P q (d1, n1, e1)).2] := by rw [hst, ← hKT]
      rw [hKT] at hno hns ⊢
      rw [hM]
      clear hst
      have hKl : KT.length ≤ 1000 := by rw [← hKT, timesF_length]; omega
      have g1 := vBelow_fn q d1 n1 e1 2 (by omega)
      obtain ⟨V, hV1⟩ : ∃ V, v1P q (d1, n1, e1) = V := ⟨_, rfl⟩
      rw [hV1] at hst1 hst2
      unfold v1P at hV1
      obtain ⟨⟨d2, n2, e2⟩, hR⟩ : ∃ m, belowP (d1, n1, e1) 2 = m := ⟨_, rfl⟩
      rw [hR] at g1 hV1
      have g2 := vBelow_fn q d2 n2 e2 (q.us.length : Int) (by omega)
      have hlr := belowP_le (m := (d2, n2, e2)) (b := (q.us.length : Int)) (by have := hq.lab; omega)
      obtain ⟨⟨d3, n3, e3⟩, hL⟩ : ∃ m, belowP (d2, n2, e2) (q.us.length : Int) = m := ⟨_, rfl⟩
      simp only [hL] at g2 hV1 hlr
      have g3 := vHidden_fn q hq d3 e3 n3 (oddL_iff.2 hlr)
      obtain ⟨hb, hhb⟩ : ∃ b, hid q.us q.o n3 = b := ⟨_, rfl⟩
      rw [hhb] at g3
      simp only [hhb] at hV1
      by_cases hr : n2 = 1
      · have hr' : (n2 == 1) = true := by simpa using hr
        simp only [decide_eq_true hr, Bool.true_and] at hV1
        cases hb
        case false =>
          have g4 := vValue_fn q d3 n3 e3 false
          obtain ⟨⟨d4, n4, e4⟩, hV⟩ : ∃ m, valueP q false (d3, n3, e3) = m := ⟨_, rfl⟩
          rw [hV] at g4
          simp only [hV] at hV1
          subst hV1
          simp only [mkV] at g1 g2 g3 g4 ⊢
          rcases og1 with _ | gg
          · skip
            have hL0 : KT = [] := hno rfl
            repeat' first | (with_reducible first | refine AWP_seq' ?_ | refine k_normal ?_ | refine b_normal ?_ | refine AWP_skip ?_ | refine AWP_block ?_) | ((first | with_reducible refine AWP_reg fun KC J hJ hKC => ?_ | (refine hKC _ _ _ _ _ (callK [0] g1 rfl rfl rfl (by decide) (by simp) rfl rfl Lq ?_)) | (refine hKC _ _ _ _ _ (callK [0] g2 rfl rfl rfl (by decide) (by simp) rfl rfl Lq ?_)) | (refine hKC _ _ _ _ _ (callK [0] g3 rfl rfl rfl (by decide) (by simp) rfl rfl Lq ?_)) | (refine hKC _ _ _ _ _ (callK [0] g4 rfl rfl rfl (by decide) (by simp) rfl rfl Lq ?_))); simp (maxSteps := 9999999) only [push_cast, seval, ↓reduceIte, hlt, yE, yσ, List.cons_append, List.nil_append, hL0, hr', undef, backOf, callSets, renSlot, pick, mOf, idx, ren, ren2, ren1, ren0, ren_sCells, wrapN (i := i) (n := N) (by omega) (by omega)]) | ((with_reducible refine hJ _ _ ?_); clear hJ hKC KC J) | ((with_reducible refine AWP_condT ?_ ?_); · rfl)
            refine ⟨⟨(i + 1, some 0), by simp only; omega, (fun h => by cases h), (fun g h => by rw [hst2]; simp)⟩, by simp only; omega, [0, 7], by decide, ?_, ?_, ?_⟩
            · intro a ha
              have ha2 : a < 1 := by omega
              match a, ha2 with
              | 0, _ => rfl
            · simp only [yE, yσ, List.cons_append, List.nil_append, hst1, hst2, hL0, List.length_append, List.length_cons, List.length_nil, push_cast, mOf, idx]
              exact Lq
            · simp only [yE, yσ, List.cons_append, List.nil_append, hst1, hst2, hL0, sCells_app, mkV, List.length_append, List.length_cons, List.length_nil, pick, List.map_cons, List.map_nil, List.map_append, getS, renSlot, ren_sCells, push_cast, mOf, idx]
              exact leS_refl _
          · skip
            obtain ⟨m, hm⟩ : ∃ m, (KT).length = m := ⟨_, rfl⟩
            have hlC : (sCells (KT)).length = m * 3 := by rw [sCells_length, hm]
            have htC := take_len hlC
            have hbm : Nat.beq gg gg = true := Nat.beq_refl gg
            repeat' first | (with_reducible first | refine AWP_seq' ?_ | refine k_normal ?_ | refine b_normal ?_ | refine AWP_skip ?_ | refine AWP_block ?_) | ((with_reducible refine And.intro ?_ ?_); · exact Sq) | ((first | with_reducible refine AWP_reg fun KC J hJ hKC => ?_ | (refine hKC _ _ _ _ _ (callK [0] g1 rfl rfl rfl (by decide) (by simp) rfl rfl Lq ?_)) | (refine hKC _ _ _ _ _ (callK [0] g2 rfl rfl rfl (by decide) (by simp) rfl rfl Lq ?_)) | (refine hKC _ _ _ _ _ (callK [0] g3 rfl rfl rfl (by decide) (by simp) rfl rfl Lq ?_)) | (refine hKC _ _ _ _ _ (callK [0] g4 rfl rfl rfl (by decide) (by simp) rfl rfl Lq ?_))); simp (maxSteps := 9999999) only [push_cast, seval, ↓reduceIte, hlt, yE, yσ, List.cons_append, List.nil_append, hm, hlC, htC, hbm, hr', undef, backOf, callSets, renSlot, pick, mOf, idx, ren, ren2, ren1, ren0, ren_sCells, wrapN (i := i) (n := N) (by omega) (by omega)]) | ((with_reducible refine hJ _ _ ?_); clear hJ hKC KC J) | ((with_reducible refine AWP_condT ?_ ?_); · rfl)
            refine ⟨⟨(i + 1, some (gg + 1)), by simp only; omega, (fun h => by cases h), (fun g h => by rw [hst2]; simp)⟩, by simp only; omega, [0, 1], by decide, ?_, ?_, ?_⟩
            · intro a ha
              have ha2 : a < 2 := by omega
              match a, ha2 with
              | 0, _ => rfl
              | 1, _ => rfl
            · simp only [yE, yσ, List.cons_append, List.nil_append, hst1, hst2, hm, List.length_append, List.length_cons, List.length_nil, push_cast, mOf, idx]
              exact Lq
            · simp only [yE, yσ, List.cons_append, List.nil_append, hst1, hst2, hm, sCells_app, mkV, List.length_append, List.length_cons, List.length_nil, pick, List.map_cons, List.map_nil, List.map_append, getS, renSlot, ren_sCells, push_cast, mOf, idx]
              exact leS_refl _
        case true =>
          have g4 := vValue_fn q d3 n3 e3 true
          obtain ⟨⟨d4, n4, e4⟩, hV⟩ : ∃ m, valueP q true (d3, n3, e3) = m := ⟨_, rfl⟩
          rw [hV] at g4
          simp only [hV] at hV1
          subst hV1
          simp only [mkV] at g1 g2 g3 g4 ⊢
          rcases og1 with _ | gg
          · skip
            have hL0 : KT = [] := hno rfl
            repeat' first | (with_reducible first | refine AWP_seq' ?_ | refine k_normal ?_ | refine b_normal ?_ | refine AWP_skip ?_ | refine AWP_block ?_) | ((first | with_reducible refine AWP_reg fun KC J hJ hKC => ?_ | (refine hKC _ _ _ _ _ (callK [0] g1 rfl rfl rfl (by decide) (by simp) rfl rfl Lq ?_)) | (refine hKC _ _ _ _ _ (callK [0] g2 rfl rfl rfl (by decide) (by simp) rfl rfl Lq ?_)) | (refine hKC _ _ _ _ _ (callK [0] g3 rfl rfl rfl (by decide) (by simp) rfl rfl Lq ?_)) | (refine hKC _ _ _ _ _ (callK [0] g4 rfl rfl rfl (by decide) (by simp) rfl rfl Lq ?_))); simp (maxSteps := 9999999) only [push_cast, seval, ↓reduceIte, hlt, yE, yσ, List.cons_append, List.nil_append, hL0, hr', undef, backOf, callSets, renSlot, pick, mOf, idx, ren, ren2, ren1, ren0, ren_sCells, wrapN (i := i) (n := N) (by omega) (by omega)]) | ((with_reducible refine hJ _ _ ?_); clear hJ hKC KC J) | ((with_reducible refine AWP_condT ?_ ?_); · rfl)
            refine ⟨⟨(i + 1, some 0), by simp only; omega, (fun h => by cases h), (fun g h => by rw [hst2]; simp)⟩, by simp only; omega, [0, 7], by decide, ?_, ?_, ?_⟩
            · intro a ha
              have ha2 : a < 1 := by omega
              match a, ha2 with
              | 0, _ => rfl
            · simp only [yE, yσ, List.cons_append, List.nil_append, hst1, hst2, hL0, List.length_append, List.length_cons, List.length_nil, push_cast, mOf, idx]
              exact Lq
            · simp only [yE, yσ, List.cons_append, List.nil_append, hst1, hst2, hL0, sCells_app, mkV, List.length_append, List.length_cons, List.length_nil, pick, List.map_cons, List.map_nil, List.map_append, getS, renSlot, ren_sCells, push_cast, mOf, idx]
              exact leS_refl _
          · skip
            obtain ⟨m, hm⟩ : ∃ m, (KT).length = m := ⟨_, rfl⟩
            have hlC : (sCells (KT)).length = m * 3 := by rw [sCells_length, hm]
            have htC := take_len hlC
            have hbm : Nat.beq gg gg = true := Nat.beq_refl gg
            repeat' first | (with_reducible first | refine AWP_seq' ?_ | refine k_normal ?_ | refine b_normal ?_ | refine AWP_skip ?_ | refine AWP_block ?_) | ((with_reducible refine And.intro ?_ ?_); · exact Sq) | ((first | with_reducible refine AWP_reg fun KC J hJ hKC => ?_ | (refine hKC _ _ _ _ _ (callK [0] g1 rfl rfl rfl (by decide) (by simp) rfl rfl Lq ?_)) | (refine hKC _ _ _ _ _ (callK [0] g2 rfl rfl rfl (by decide) (by simp) rfl rfl Lq ?_)) | (refine hKC _ _ _ _ _ (callK [0] g3 rfl rfl rfl (by decide) (by simp) rfl rfl Lq ?_)) | (refine hKC _ _ _ _ _ (callK [0] g4 rfl rfl rfl (by decide) (by simp) rfl rfl Lq ?_))); simp (maxSteps := 9999999) only [push_cast, seval, ↓reduceIte, hlt, yE, yσ, List.cons_append, List.nil_append, hm, hlC, htC, hbm, hr', undef, backOf, callSets, renSlot, pick, mOf, idx, ren, ren2, ren1, ren0, ren_sCells, wrapN (i := i) (n := N) (by omega) (by omega)]) | ((with_reducible refine hJ _ _ ?_); clear hJ hKC KC J) | ((with_reducible refine AWP_condT ?_ ?_); · rfl)
            refine ⟨⟨(i + 1, some (gg + 1)), by simp only; omega, (fun h => by cases h), (fun g h => by rw [hst2]; simp)⟩, by simp only; omega, [0, 1], by decide, ?_, ?_, ?_⟩
            · intro a ha
              have ha2 : a < 2 := by omega
              match a, ha2 with
              | 0, _ => rfl
              | 1, _ => rfl
            · simp only [yE, yσ, List.cons_append, List.nil_append, hst1, hst2, hm, List.length_append, List.length_cons, List.length_nil, push_cast, mOf, idx]
              exact Lq
            · simp only [yE, yσ, List.cons_append, List.nil_append, hst1, hst2, hm, sCells_app, mkV, List.length_append, List.length_cons, List.length_nil, pick, List.map_cons, List.map_nil, List.map_append, getS, renSlot, ren_sCells, push_cast, mOf, idx]
              exact leS_refl _
      · have hr' : (n2 == 1) = false := by simpa using hr
        simp only [decide_eq_false hr, Bool.false_and] at hV1
        have g4 := vValue_fn q d3 n3 e3 false
        obtain ⟨⟨d4, n4, e4⟩, hV⟩ : ∃ m, valueP q false (d3, n3, e3) = m := ⟨_, rfl⟩
        rw [hV] at g4
        simp only [hV] at hV1
        subst hV1
        simp only [mkV] at g1 g2 g3 g4 ⊢
        rcases og1 with _ | gg
        · skip
          have hL0 : KT = [] := hno rfl
          repeat' first | (with_reducible first | refine AWP_seq' ?_ | refine k_normal ?_ | refine b_normal ?_ | refine AWP_skip ?_ | refine AWP_block ?_) | ((first | with_reducible refine AWP_reg fun KC J hJ hKC => ?_ | (refine hKC _ _ _ _ _ (callK [0] g1 rfl rfl rfl (by decide) (by simp) rfl rfl Lq ?_)) | (refine hKC _ _ _ _ _ (callK [0] g2 rfl rfl rfl (by decide) (by simp) rfl rfl Lq ?_)) | (refine hKC _ _ _ _ _ (callK [0] g4 rfl rfl rfl (by decide) (by simp) rfl rfl Lq ?_))); simp (maxSteps := 9999999) only [push_cast, seval, ↓reduceIte, hlt, yE, yσ, List.cons_append, List.nil_append, hL0, hr', undef, backOf, callSets, renSlot, pick, mOf, idx, ren, ren2, ren1, ren0, ren_sCells, wrapN (i := i) (n := N) (by omega) (by omega)]) | ((with_reducible refine hJ _ _ ?_); clear hJ hKC KC J) | ((with_reducible refine AWP_condT ?_ ?_); · rfl)
          refine ⟨⟨(i + 1, some 0), by simp only; omega, (fun h => by cases h), (fun g h => by rw [hst2]; simp)⟩, by simp only; omega, [0, 7], by decide, ?_, ?_, ?_⟩
          · intro a ha
            have ha2 : a < 1 := by omega
            match a, ha2 with
            | 0, _ => rfl
          · simp only [yE, yσ, List.cons_append, List.nil_append, hst1, hst2, hL0, List.length_append, List.length_cons, List.length_nil, push_cast, mOf, idx]
            exact Lq
          · simp only [yE, yσ, List.cons_append, List.nil_append, hst1, hst2, hL0, sCells_app, mkV, List.length_append, List.length_cons, List.length_nil, pick, List.map_cons, List.map_nil, List.map_append, getS, renSlot, ren_sCells, push_cast, mOf, idx]
            exact leS_refl _
        · skip
          obtain ⟨m, hm⟩ : ∃ m, (KT).length = m := ⟨_, rfl⟩
          have hlC : (sCells (KT)).length = m * 3 := by rw [sCells_length, hm]
          have htC := take_len hlC
          have hbm : Nat.beq gg gg = true := Nat.beq_refl gg
          repeat' first | (with_reducible first | refine AWP_seq' ?_ | refine k_normal ?_ | refine b_normal ?_ | refine AWP_skip ?_ | refine AWP_block ?_) | ((with_reducible refine And.intro ?_ ?_); · exact Sq) | ((first | with_reducible refine AWP_reg fun KC J hJ hKC => ?_ | (refine hKC _ _ _ _ _ (callK [0] g1 rfl rfl rfl (by decide) (by simp) rfl rfl Lq ?_)) | (refine hKC _ _ _ _ _ (callK [0] g2 rfl rfl rfl (by decide) (by simp) rfl rfl Lq ?_)) | (refine hKC _ _ _ _ _ (callK [0] g4 rfl rfl rfl (by decide) (by simp) rfl rfl Lq ?_))); simp (maxSteps := 9999999) only [push_cast, seval, ↓reduceIte, hlt, yE, yσ, List.cons_append, List.nil_append, hm, hlC, htC, hbm, hr', undef, backOf, callSets, renSlot, pick, mOf, idx, ren, ren2, ren1, ren0, ren_sCells, wrapN (i := i) (n := N) (by omega) (by omega)]) | ((with_reducible refine hJ _ _ ?_); clear hJ hKC KC J) | ((with_reducible refine AWP_condT ?_ ?_); · rfl)
          refine ⟨⟨(i + 1, some (gg + 1)), by simp only; omega, (fun h => by cases h), (fun g h => by rw [hst2]; simp)⟩, by simp only; omega, [0, 1], by decide, ?_, ?_, ?_⟩
          · intro a ha
            have ha2 : a < 2 := by omega
            match a, ha2 with
            | 0, _ => rfl
            | 1, _ => rfl
          · simp only [yE, yσ, List.cons_append, List.nil_append, hst1, hst2, hm, List.length_append, List.length_cons, List.length_nil, push_cast, mOf, idx]
            exact Lq
          · simp only [yE, yσ, List.cons_append, List.nil_append, hst1, hst2, hm, sCells_app, mkV, List.length_append, List.length_cons, List.length_nil, pick, List.map_cons, List.map_nil, List.map_append, getS, renSlot, ren_sCells, push_cast, mOf, idx]
            exact leS_refl _
    have hin : i = N := by omega
    subst hin
    obtain ⟨⟨d1, n1, e1⟩, hM⟩ : ∃ m, (timesF (v1P q) i B).1 = m := ⟨_, rfl⟩
    obtain ⟨KT, hKT⟩ : ∃ T, (timesF (v1P q) i B).2 = T := ⟨_, rfl⟩
    rw [hKT] at hno hns ⊢
    rw [hM]
    obtain ⟨m, hm⟩ : ∃ m, KT.length = m := ⟨_, rfl⟩
    have hlC : (sCells KT).length = m * 3 := by rw [sCells_length, hm]
    have hcp : chunk 3 m (sCells KT) = sRow KT := by rw [← hm]; exact chunk_s KT
    rcases og1 with _ | gg
    · have hL0 := hno rfl
      subst hL0
      simp only [yE, yσ, mkV]
      repeat' first | (with_reducible first | refine AWP_seq' ?_ | refine k_normal ?_ | refine k_exit ?_ | refine b_exit ?_ | refine AWP_ret ?_ | refine AWP_exit ?_) | ((with_reducible refine AWP_reg fun KC J hJ hKC => ?_); simp (maxSteps := 9999999) only [push_cast, seval, ↓reduceIte, hlt]) | ((with_reducible refine hJ _ _ ?_); clear hJ hKC KC J) | ((with_reducible refine AWP_condF ?_ ?_); · rfl)
      refine ret_keys ?_
      simp (maxSteps := 9999999) only [push_cast, seval, ↓reduceIte, show Tryz.f264.results = #[(.tmp 4)] from rfl]
      exact ⟨rfl, leD_refl _⟩
    · have hne := hns gg rfl
      have hbm : Nat.beq gg gg = true := Nat.beq_refl gg
      rw [decide_eq_false hne]
      simp only [yE, yσ, mkV, hm]
      repeat' first | (refine AWP_freezeR 9 1 rfl (by (simp (maxSteps := 9999999) only [push_cast, seval, ↓reduceIte]) <;> rfl) ?_; simp (maxSteps := 9999999) only [push_cast, seval, ↓reduceIte, frSt, frSlot, fr3, fr2, fr1, fr0, sameB, arrOf, hlt, hlC, hcp, hbm]) | (with_reducible first | refine AWP_seq' ?_ | refine k_normal ?_ | refine k_exit ?_ | refine b_exit ?_ | refine AWP_ret ?_ | refine AWP_exit ?_) | ((with_reducible refine AWP_reg fun KC J hJ hKC => ?_); simp (maxSteps := 9999999) only [push_cast, seval, ↓reduceIte, hlt, hlC, hcp, hbm]) | ((with_reducible refine hJ _ _ ?_); clear hJ hKC KC J) | ((with_reducible refine AWP_condF ?_ ?_); · rfl)
      refine ret_keys ?_
      simp (maxSteps := 9999999) only [push_cast, seval, ↓reduceIte, show Tryz.f264.results = #[(.tmp 4)] from rfl]
      exact ⟨rfl, leD_refl _⟩
  · simp only [yE, yσ, yO]
    refine Fn.of (fn := Tryz.f264) (by kernel_rfl) rfl (by kernel_rfl) ⟨[.ptr 0 0 0, .ref 1 g0 k.length, .v undef, .v undef, .v undef, .v undef, .v undef, .v undef, .v undef, .v undef, .v undef, .v undef, .v undef, .v undef, .v undef, .v undef, .v undef, .v undef, .v undef, .v undef, .v undef, .v undef, .v undef, .v undef, .v undef, .v undef, .v undef, .v undef, .v undef, .v undef, .v undef, .v undef, .v undef, .v undef, .v undef, .v undef, .v undef, .v undef, .v undef, .v undef, .v undef, .v undef, .v undef, .v undef, .v undef, .v undef, .v undef, .v undef, .v undef, .v undef, .v undef, .v undef], [.ent (mkV q d e), .ent ⟨g0, some 3, 104, sCells k, .cells⟩]⟩ rfl ?_
    simp only [mkV] at hb0 ⊢
    have hbm0 : Nat.beq g0 g0 = true := Nat.beq_refl g0
    repeat' first | (with_reducible first | refine AWP_seq' ?_ | refine k_normal ?_ | refine AWP_block ?_) | ((first | with_reducible refine AWP_reg fun KC J hJ hKC => ?_ | (refine hKC _ _ _ _ _ (callK [0] hb0 rfl rfl rfl (by decide) (by simp) rfl rfl Lq ?_))); simp (maxSteps := 9999999) only [push_cast, seval, ↓reduceIte, w1, w2, hbm0, backOf, callSets, renSlot, pick, mOf, idx, ren, ren2, ren1, ren0, ren_sCells]) | ((with_reducible refine hJ _ _ ?_); clear hJ hKC KC J)
    refine AWP_loopK 2 (γ := {p : Nat × Option Nat // p.1 ≤ N ∧ (p.2 = none → k ++ (timesF (v1P q) p.1 B).2 = []) ∧ (p.2 = none → p.2 ≠ none)}) (fun p => ⟨[.ptr 0 0 0, yE (k ++ (timesF (v1P q) p.1.1 B).2).length p.1.2, .any, .any, .any, .any, .any, .any, .any, .any, .any, .any, .any, .any, .any, .any, .v (.int .i64 N), .v (.int .i64 p.1.1), .any, .any, .any, .any, .any, .any, .any, .any, .any, .any, .any, .any, .any, .any, .any, .any, .any, .any, .any, .any, .any, .any, .any, .any, .any, .any, .any, .any, .any, .any, .any, .any, .any, .any], yσ (.ent (mkV q (timesF (v1P q) p.1.1 B).1.1 (timesF (v1P q) p.1.1 B).1.2.2)) (sCells (k ++ (timesF (v1P q) p.1.1 B).2)) p.1.2⟩) (fun p => N - p.1.1) ⟨(0, some g0), by omega, (fun h => by cases h), fun h => by cases h⟩ rfl ⟨?_, ?_⟩ ?_
    · simp only [timesF, List.append_nil, yE]
      exact Lq
    · simp only [timesF, List.append_nil, yσ, mkV]
      exact Fq
    rintro ⟨⟨i, og1⟩, hi, hno, hns⟩
    dsimp only at hi hno hns ⊢
    by_cases hlt : (i : Int) < (N : Int)
    · skip
      obtain ⟨⟨d1, n1, e1⟩, hM⟩ : ∃ m, (timesF (v1P q) i B).1 = m := ⟨_, rfl⟩
      obtain ⟨KT, hKT⟩ : ∃ T, k ++ (timesF (v1P q) i B).2 = T := ⟨_, rfl⟩
      have hst : timesF (v1P q) (i + 1) B = ((v1P q (d1, n1, e1)).1, (timesF (v1P q) i B).2 ++ [(v1P q (d1, n1, e1)).2]) := by simp only [timesF, hM]
      have hst1 : (timesF (v1P q) (i + 1) B).1 = (v1P q (d1, n1, e1)).1 := by rw [hst]
      have hst2 : k ++ (timesF (v1P q) (i + 1) B).2 = KT ++ [(v1P q (d1, n1, e1)).2] := by rw [hst, ← hKT, List.append_assoc]
      rw [hKT] at hno ⊢
      rw [hM]
      clear hst
      have hKl : KT.length ≤ 1000 := by rw [← hKT, List.length_append, timesF_length]; omega
      have g1 := vBelow_fn q d1 n1 e1 2 (by omega)
      obtain ⟨V, hV1⟩ : ∃ V, v1P q (d1, n1, e1) = V := ⟨_, rfl⟩
      rw [hV1] at hst1 hst2
      unfold v1P at hV1
      obtain ⟨⟨d2, n2, e2⟩, hR⟩ : ∃ m, belowP (d1, n1, e1) 2 = m := ⟨_, rfl⟩
      rw [hR] at g1 hV1
      have g2 := vBelow_fn q d2 n2 e2 (q.us.length : Int) (by omega)
      have hlr := belowP_le (m := (d2, n2, e2)) (b := (q.us.length : Int)) (by have := hq.lab; omega)
      obtain ⟨⟨d3, n3, e3⟩, hL⟩ : ∃ m, belowP (d2, n2, e2) (q.us.length : Int) = m := ⟨_, rfl⟩
      simp only [hL] at g2 hV1 hlr
      have g3 := vHidden_fn q hq d3 e3 n3 (oddL_iff.2 hlr)
      obtain ⟨hb, hhb⟩ : ∃ b, hid q.us q.o n3 = b := ⟨_, rfl⟩
      rw [hhb] at g3
      simp only [hhb] at hV1
      by_cases hr : n2 = 1
      · have hr' : (n2 == 1) = true := by simpa using hr
        simp only [decide_eq_true hr, Bool.true_and] at hV1
        cases hb
        case false =>
          have g4 := vValue_fn q d3 n3 e3 false
          obtain ⟨⟨d4, n4, e4⟩, hV⟩ : ∃ m, valueP q false (d3, n3, e3) = m := ⟨_, rfl⟩
          rw [hV] at g4
          simp only [hV] at hV1
          subst hV1
          simp only [mkV] at g1 g2 g3 g4 ⊢
          rcases og1 with _ | gg
          · exact absurd rfl (hns rfl)
          · skip
            obtain ⟨m, hm⟩ : ∃ m, (KT).length = m := ⟨_, rfl⟩
            have hlC : (sCells (KT)).length = m * 3 := by rw [sCells_length, hm]
            have htC := take_len hlC
            have hbm : Nat.beq gg gg = true := Nat.beq_refl gg
            repeat' first | (with_reducible first | refine AWP_seq' ?_ | refine k_normal ?_ | refine b_normal ?_ | refine AWP_skip ?_ | refine AWP_block ?_) | ((with_reducible refine And.intro ?_ ?_); · exact Sq) | ((first | with_reducible refine AWP_reg fun KC J hJ hKC => ?_ | (refine hKC _ _ _ _ _ (callK [0] g1 rfl rfl rfl (by decide) (by simp) rfl rfl Lq ?_)) | (refine hKC _ _ _ _ _ (callK [0] g2 rfl rfl rfl (by decide) (by simp) rfl rfl Lq ?_)) | (refine hKC _ _ _ _ _ (callK [0] g3 rfl rfl rfl (by decide) (by simp) rfl rfl Lq ?_)) | (refine hKC _ _ _ _ _ (callK [0] g4 rfl rfl rfl (by decide) (by simp) rfl rfl Lq ?_))); simp (maxSteps := 9999999) only [push_cast, seval, ↓reduceIte, hlt, yE, yσ, List.cons_append, List.nil_append, hm, hlC, htC, hbm, hr', undef, backOf, callSets, renSlot, pick, mOf, idx, ren, ren2, ren1, ren0, ren_sCells, wrapN (i := i) (n := N) (by omega) (by omega)]) | ((with_reducible refine hJ _ _ ?_); clear hJ hKC KC J) | ((with_reducible refine AWP_condT ?_ ?_); · rfl)
            refine ⟨⟨(i + 1, some (gg + 1)), by simp only; omega, (fun h => by cases h), (fun h => by cases h)⟩, by simp only; omega, [0, 1], by decide, ?_, ?_, ?_⟩
            · intro a ha
              have ha2 : a < 2 := by omega
              match a, ha2 with
              | 0, _ => rfl
              | 1, _ => rfl
            · simp only [yE, yσ, List.cons_append, List.nil_append, hst1, hst2, hm, List.length_append, List.length_cons, List.length_nil, push_cast, mOf, idx]
              exact Lq
            · simp only [yE, yσ, List.cons_append, List.nil_append, hst1, hst2, hm, sCells_app, mkV, List.length_append, List.length_cons, List.length_nil, pick, List.map_cons, List.map_nil, List.map_append, getS, renSlot, ren_sCells, push_cast, mOf, idx]
              exact leS_refl _
        case true =>
          have g4 := vValue_fn q d3 n3 e3 true
          obtain ⟨⟨d4, n4, e4⟩, hV⟩ : ∃ m, valueP q true (d3, n3, e3) = m := ⟨_, rfl⟩
          rw [hV] at g4
          simp only [hV] at hV1
          subst hV1
          simp only [mkV] at g1 g2 g3 g4 ⊢
          rcases og1 with _ | gg
          · exact absurd rfl (hns rfl)
          · skip
            obtain ⟨m, hm⟩ : ∃ m, (KT).length = m := ⟨_, rfl⟩
            have hlC : (sCells (KT)).length = m * 3 := by rw [sCells_length, hm]
            have htC := take_len hlC
            have hbm : Nat.beq gg gg = true := Nat.beq_refl gg
            repeat' first | (with_reducible first | refine AWP_seq' ?_ | refine k_normal ?_ | refine b_normal ?_ | refine AWP_skip ?_ | refine AWP_block ?_) | ((with_reducible refine And.intro ?_ ?_); · exact Sq) | ((first | with_reducible refine AWP_reg fun KC J hJ hKC => ?_ | (refine hKC _ _ _ _ _ (callK [0] g1 rfl rfl rfl (by decide) (by simp) rfl rfl Lq ?_)) | (refine hKC _ _ _ _ _ (callK [0] g2 rfl rfl rfl (by decide) (by simp) rfl rfl Lq ?_)) | (refine hKC _ _ _ _ _ (callK [0] g3 rfl rfl rfl (by decide) (by simp) rfl rfl Lq ?_)) | (refine hKC _ _ _ _ _ (callK [0] g4 rfl rfl rfl (by decide) (by simp) rfl rfl Lq ?_))); simp (maxSteps := 9999999) only [push_cast, seval, ↓reduceIte, hlt, yE, yσ, List.cons_append, List.nil_append, hm, hlC, htC, hbm, hr', undef, backOf, callSets, renSlot, pick, mOf, idx, ren, ren2, ren1, ren0, ren_sCells, wrapN (i := i) (n := N) (by omega) (by omega)]) | ((with_reducible refine hJ _ _ ?_); clear hJ hKC KC J) | ((with_reducible refine AWP_condT ?_ ?_); · rfl)
            refine ⟨⟨(i + 1, some (gg + 1)), by simp only; omega, (fun h => by cases h), (fun h => by cases h)⟩, by simp only; omega, [0, 1], by decide, ?_, ?_, ?_⟩
            · intro a ha
              have ha2 : a < 2 := by omega
              match a, ha2 with
              | 0, _ => rfl
              | 1, _ => rfl
            · simp only [yE, yσ, List.cons_append, List.nil_append, hst1, hst2, hm, List.length_append, List.length_cons, List.length_nil, push_cast, mOf, idx]
              exact Lq
            · simp only [yE, yσ, List.cons_append, List.nil_append, hst1, hst2, hm, sCells_app, mkV, List.length_append, List.length_cons, List.length_nil, pick, List.map_cons, List.map_nil, List.map_append, getS, renSlot, ren_sCells, push_cast, mOf, idx]
              exact leS_refl _
      · have hr' : (n2 == 1) = false := by simpa using hr
        simp only [decide_eq_false hr, Bool.false_and] at hV1
        have g4 := vValue_fn q d3 n3 e3 false
        obtain ⟨⟨d4, n4, e4⟩, hV⟩ : ∃ m, valueP q false (d3, n3, e3) = m := ⟨_, rfl⟩
        rw [hV] at g4
        simp only [hV] at hV1
        subst hV1
        simp only [mkV] at g1 g2 g3 g4 ⊢
        rcases og1 with _ | gg
        · exact absurd rfl (hns rfl)
        · skip
          obtain ⟨m, hm⟩ : ∃ m, (KT).length = m := ⟨_, rfl⟩
          have hlC : (sCells (KT)).length = m * 3 := by rw [sCells_length, hm]
          have htC := take_len hlC
          have hbm : Nat.beq gg gg = true := Nat.beq_refl gg
          repeat' first | (with_reducible first | refine AWP_seq' ?_ | refine k_normal ?_ | refine b_normal ?_ | refine AWP_skip ?_ | refine AWP_block ?_) | ((with_reducible refine And.intro ?_ ?_); · exact Sq) | ((first | with_reducible refine AWP_reg fun KC J hJ hKC => ?_ | (refine hKC _ _ _ _ _ (callK [0] g1 rfl rfl rfl (by decide) (by simp) rfl rfl Lq ?_)) | (refine hKC _ _ _ _ _ (callK [0] g2 rfl rfl rfl (by decide) (by simp) rfl rfl Lq ?_)) | (refine hKC _ _ _ _ _ (callK [0] g4 rfl rfl rfl (by decide) (by simp) rfl rfl Lq ?_))); simp (maxSteps := 9999999) only [push_cast, seval, ↓reduceIte, hlt, yE, yσ, List.cons_append, List.nil_append, hm, hlC, htC, hbm, hr', undef, backOf, callSets, renSlot, pick, mOf, idx, ren, ren2, ren1, ren0, ren_sCells, wrapN (i := i) (n := N) (by omega) (by omega)]) | ((with_reducible refine hJ _ _ ?_); clear hJ hKC KC J) | ((with_reducible refine AWP_condT ?_ ?_); · rfl)
          refine ⟨⟨(i + 1, some (gg + 1)), by simp only; omega, (fun h => by cases h), (fun h => by cases h)⟩, by simp only; omega, [0, 1], by decide, ?_, ?_, ?_⟩
          · intro a ha
            have ha2 : a < 2 := by omega
            match a, ha2 with
            | 0, _ => rfl
            | 1, _ => rfl
          · simp only [yE, yσ, List.cons_append, List.nil_append, hst1, hst2, hm, List.length_append, List.length_cons, List.length_nil, push_cast, mOf, idx]
            exact Lq
          · simp only [yE, yσ, List.cons_append, List.nil_append, hst1, hst2, hm, sCells_app, mkV, List.length_append, List.length_cons, List.length_nil, pick, List.map_cons, List.map_nil, List.map_append, getS, renSlot, ren_sCells, push_cast, mOf, idx]
            exact leS_refl _
    have hin : i = N := by omega
    subst hin
    obtain ⟨⟨d1, n1, e1⟩, hM⟩ : ∃ m, (timesF (v1P q) i B).1 = m := ⟨_, rfl⟩
    obtain ⟨KT, hKT⟩ : ∃ T, k ++ (timesF (v1P q) i B).2 = T := ⟨_, rfl⟩
    rw [hKT] at hno ⊢
    rw [hM]
    obtain ⟨m, hm⟩ : ∃ m, KT.length = m := ⟨_, rfl⟩
    have hlC : (sCells KT).length = m * 3 := by rw [sCells_length, hm]
    have hcp : chunk 3 m (sCells KT) = sRow KT := by rw [← hm]; exact chunk_s KT
    rcases og1 with _ | gg
    · exact absurd rfl (hns rfl)
    · have hbm : Nat.beq gg gg = true := Nat.beq_refl gg
      simp only [yE, yσ, mkV, hm]
      repeat' first | (refine AWP_freezeR 9 1 rfl (by (simp (maxSteps := 9999999) only [push_cast, seval, ↓reduceIte]) <;> rfl) ?_; simp (maxSteps := 9999999) only [push_cast, seval, ↓reduceIte, frSt, frSlot, fr3, fr2, fr1, fr0, sameB, arrOf, hlt, hlC, hcp, hbm]) | (with_reducible first | refine AWP_seq' ?_ | refine k_normal ?_ | refine k_exit ?_ | refine b_exit ?_ | refine AWP_ret ?_ | refine AWP_exit ?_) | ((with_reducible refine AWP_reg fun KC J hJ hKC => ?_); simp (maxSteps := 9999999) only [push_cast, seval, ↓reduceIte, hlt, hlC, hcp, hbm]) | ((with_reducible refine hJ _ _ ?_); clear hJ hKC KC J) | ((with_reducible refine AWP_condF ?_ ?_); · rfl)
      refine ret_keys ?_
      simp (maxSteps := 9999999) only [push_cast, seval, ↓reduceIte, show Tryz.f264.results = #[(.tmp 4)] from rfl]
      exact ⟨rfl, leD_refl _⟩
end Go.Proofs.YtabliglgeiajlaaGreat.AM

namespace Go.Proofs.YtabliglgeiajlaaGreat.AM
open Go Go.RowKit Go.Proofs
set_option maxRecDepth 100000
set_option maxHeartbeats 4000000
def uL (us : List Nat) (o i : Nat) : List Int := ((List.range i).map (fun a : Nat => (a : Int))).filter (hid us o)
theorem uL_succ (us : List Nat) (o i : Nat) : uL us o (i + 1) = uL us o i ++ (if hid us o (i : Int) = true then [(i : Int)] else []) := by
  unfold uL
  rw [List.range_succ, List.map_append, List.filter_append]
  congr 1
  rw [List.map_cons, List.map_nil, List.filter_cons]
  split <;> rfl
theorem uL_le (us : List Nat) (o i : Nat) : (uL us o i).length ≤ i := by
  unfold uL; exact Nat.le_trans (List.length_filter_le _ _) (by simp)
theorem getF_at9 : ∀ {l : List D} {n : Nat} {x : D}, l[n]? = some x → getF l n = x
  | [], _, _, h => by simp at h
  | d :: l, 0, x, h => by simp at h; exact h
  | d :: l, n + 1, x, h => getF_at9 (l := l) (n := n) (by simpa using h)
def uE (n : Nat) : Option Nat → D
  | none => .v (.slice none 0 0)
  | some g => .ref 1 g n
def uσ (s : Slot) (cs : List D) : Option Nat → List Slot
  | none => [s]
  | some g => [s, .ent ⟨g, some 1, 3, cs, .cells⟩]
theorem vUnseen_fn (q : VQ) (hq : VOk q) (hul : q.us.length ≤ 8) (d : Dr) (n0 e : Int) (hne : unseenL q.us q.o ≠ []) :
    Fn Tryz.prog 266 [.ptr 0 0 0] [.ent (mkV q d e)] (.v (.int .i64 ((unseenL q.us q.o).getD (belowP (d, n0, e) (unseenL q.us q.o).length).2.1.toNat 0))) [.ent (mkV q (belowP (d, n0, e) (unseenL q.us q.o).length).1 (belowP (d, n0, e) (unseenL q.us q.o).length).2.2)] := by
  have hqu : (u32Row q.us).length = q.us.length := by simp [u32Row]
  refine Fn.of (fn := Tryz.f266) (by kernel_rfl) rfl (by kernel_rfl) ⟨[.ptr 0 0 0, .v undef, .v undef, .v undef, .v undef, .v undef, .v undef, .v undef, .v undef, .v undef, .v undef, .v undef, .v undef, .v undef, .v undef, .v undef, .v undef, .v undef, .v undef, .v undef, .v undef, .v undef, .v undef, .v undef, .v undef, .v undef, .v undef, .v undef, .v undef, .v undef, .v undef], [.ent (mkV q d e)]⟩ rfl ?_
  simp only [mkV]
  repeat' first | (with_reducible first | refine AWP_seq' ?_ | refine k_normal ?_ | refine AWP_block ?_) | ((with_reducible refine AWP_reg fun KC J hJ hKC => ?_); simp (maxSteps := 9999999) only [push_cast, seval, ↓reduceIte, hqu]) | ((with_reducible refine hJ _ _ ?_); clear hJ hKC KC J)
  refine AWP_loopK 1 (γ := {p : Nat × Option Nat // p.1 ≤ q.us.length ∧ (p.2 = none → uL q.us q.o p.1 = []) ∧ ∀ g, p.2 = some g → uL q.us q.o p.1 ≠ []}) (fun p => ⟨[.ptr 0 0 0, .any, .any, uE (uL q.us q.o p.1.1).length p.1.2, .any, .any, .any, .any, .any, .any, .any, .v (.int .i64 q.us.length), .v (.int .i64 p.1.1), .any, .any, .any, .any, .any, .any, .any, .any, .any, .any, .any, .any, .any, .any, .any, .any, .any, .any], uσ (.ent (mkV q d e)) (cellI (uL q.us q.o p.1.1)) p.1.2⟩) (fun p => q.us.length - p.1.1) ⟨(0, none), by omega, (fun _ => rfl), fun g h => by cases h⟩ rfl ⟨?_, ?_⟩ ?_
  · simp only [uE]
    exact Lq
  · simp only [uσ, mkV]
    exact Fq
  rintro ⟨⟨i, og⟩, hi, hno, hns⟩
  dsimp only at hi hno hns ⊢
  have hle := uL_le q.us q.o i
  by_cases hlt : (i : Int) < (q.us.length : Int)
  · have hst := uL_succ q.us q.o i
    have g1 := vHidden_fn q hq d e (i : Int) (oddL_iff.2 (by omega))
    obtain ⟨b, hb⟩ : ∃ b, hid q.us q.o (i : Int) = b := ⟨_, rfl⟩
    rw [hb] at g1 hst
    obtain ⟨L, hL⟩ : ∃ L, uL q.us q.o i = L := ⟨_, rfl⟩
    rw [hL] at hno hns hst hle ⊢
    cases b
    case false =>
      rw [if_neg (by simp), List.append_nil] at hst
      rcases og with _ | gg
      · simp only [mkV] at g1 ⊢
        repeat' first | (with_reducible first | refine AWP_seq' ?_ | refine k_normal ?_ | refine b_normal ?_ | refine AWP_skip ?_ | refine AWP_block ?_) | ((first | with_reducible refine AWP_reg fun KC J hJ hKC => ?_ | (refine hKC _ _ _ _ _ (callK [0] g1 rfl rfl rfl (by decide) (by simp) rfl rfl Lq ?_))); simp (maxSteps := 9999999) only [push_cast, seval, ↓reduceIte, hlt, uE, uσ, backOf, callSets, renSlot, pick, mOf, idx, ren, ren2, ren1, ren0, ren_cellI, wrapN (i := i) (n := q.us.length) (by omega) (by omega)]) | ((with_reducible refine hJ _ _ ?_); clear hJ hKC KC J) | ((with_reducible refine AWP_condT ?_ ?_); · rfl) | ((with_reducible refine AWP_condF ?_ ?_); · rfl)
        refine ⟨⟨(i + 1, none), by simp only; omega, (fun _ => by rw [hst]; exact hno rfl), (fun g h => by cases h)⟩, by simp only; omega, [0], by decide, ?_, ?_, ?_⟩
        · intro a ha
          have ha2 : a < 1 := by omega
          match a, ha2 with
          | 0, _ => rfl
        · simp only [uE, hst, push_cast, mOf, idx]
          exact Lq
        · simp only [uσ, hst, mkV, pick, List.map_cons, List.map_nil, List.map_append, getS, renSlot, ren_cellI, push_cast, mOf, idx]
          exact leS_refl _
      · obtain ⟨m, hm⟩ : ∃ m, L.length = m := ⟨_, rfl⟩
        simp only [mkV] at g1 ⊢
        repeat' first | (with_reducible first | refine AWP_seq' ?_ | refine k_normal ?_ | refine b_normal ?_ | refine AWP_skip ?_ | refine AWP_block ?_) | ((first | with_reducible refine AWP_reg fun KC J hJ hKC => ?_ | (refine hKC _ _ _ _ _ (callK [0] g1 rfl rfl rfl (by decide) (by simp) rfl rfl Lq ?_))); simp (maxSteps := 9999999) only [push_cast, seval, ↓reduceIte, hlt, uE, uσ, hm, backOf, callSets, renSlot, pick, mOf, idx, ren, ren2, ren1, ren0, ren_cellI, wrapN (i := i) (n := q.us.length) (by omega) (by omega)]) | ((with_reducible refine hJ _ _ ?_); clear hJ hKC KC J) | ((with_reducible refine AWP_condT ?_ ?_); · rfl) | ((with_reducible refine AWP_condF ?_ ?_); · rfl)
        refine ⟨⟨(i + 1, some gg), by simp only; omega, (fun h => by cases h), (fun g h => by rw [hst]; exact hns gg rfl)⟩, by simp only; omega, [0, 1], by decide, ?_, ?_, ?_⟩
        · intro a ha
          have ha2 : a < 2 := by omega
          match a, ha2 with
          | 0, _ => rfl
          | 1, _ => rfl
        · simp only [uE, hst, hm, push_cast, mOf, idx]
          exact Lq
        · simp only [uσ, hst, mkV, pick, List.map_cons, List.map_nil, List.map_append, getS, renSlot, ren_cellI, push_cast, mOf, idx]
          exact leS_refl _
    case true =>
      rw [if_pos rfl] at hst
      rcases og with _ | gg
      · have hL0 := hno rfl
        simp only [mkV] at g1 ⊢
        repeat' first | (with_reducible first | refine AWP_seq' ?_ | refine k_normal ?_ | refine b_normal ?_ | refine AWP_skip ?_ | refine AWP_block ?_) | ((first | with_reducible refine AWP_reg fun KC J hJ hKC => ?_ | (refine hKC _ _ _ _ _ (callK [0] g1 rfl rfl rfl (by decide) (by simp) rfl rfl Lq ?_))); simp (maxSteps := 9999999) only [push_cast, seval, ↓reduceIte, hlt, uE, uσ, hL0, backOf, callSets, renSlot, pick, mOf, idx, ren, ren2, ren1, ren0, ren_cellI, wrapN (i := i) (n := q.us.length) (by omega) (by omega)]) | ((with_reducible refine hJ _ _ ?_); clear hJ hKC KC J) | ((with_reducible refine AWP_condT ?_ ?_); · rfl)
        refine ⟨⟨(i + 1, some 0), by simp only; omega, (fun h => by cases h), (fun g h => by rw [hst]; simp)⟩, by simp only; omega, [0, 3], by decide, ?_, ?_, ?_⟩
        · intro a ha
          have ha2 : a < 1 := by omega
          match a, ha2 with
          | 0, _ => rfl
        · simp only [uE, hst, hL0, List.nil_append, List.length_cons, List.length_nil, push_cast, mOf, idx]
          exact Lq
        · simp only [uσ, hst, hL0, List.nil_append, mkV, pick, List.map_cons, List.map_nil, List.map_append, getS, renSlot, ren_cellI, push_cast, mOf, idx]
          exact leS_refl _
      · obtain ⟨m, hm⟩ : ∃ m, L.length = m := ⟨_, rfl⟩
        have hlC : (cellI L).length = m * 1 := by rw [cellI_length, hm, Nat.mul_one]
        have hlC1 : (cellI L).length = m := by rw [cellI_length, hm]
        have htC := take_len hlC
        have htC1 := take_len hlC1
        have hbm : Nat.beq gg gg = true := Nat.beq_refl gg
        simp only [mkV] at g1 ⊢
        repeat' first | (with_reducible first | refine AWP_seq' ?_ | refine k_normal ?_ | refine b_normal ?_ | refine AWP_skip ?_ | refine AWP_block ?_) | ((with_reducible refine And.intro ?_ ?_); · exact Sq) | ((first | with_reducible refine AWP_reg fun KC J hJ hKC => ?_ | (refine hKC _ _ _ _ _ (callK [0] g1 rfl rfl rfl (by decide) (by simp) rfl rfl Lq ?_))); simp (maxSteps := 9999999) only [push_cast, seval, ↓reduceIte, hlt, uE, uσ, hm, hlC1, htC1, hbm, Nat.mul_one, backOf, callSets, renSlot, pick, mOf, idx, ren, ren2, ren1, ren0, ren_cellI, wrapN (i := i) (n := q.us.length) (by omega) (by omega)]) | ((with_reducible refine hJ _ _ ?_); clear hJ hKC KC J) | ((with_reducible refine AWP_condT ?_ ?_); · rfl)
        refine ⟨⟨(i + 1, some (gg + 1)), by simp only; omega, (fun h => by cases h), (fun g h => by rw [hst]; simp)⟩, by simp only; omega, [0, 1], by decide, ?_, ?_, ?_⟩
        · intro a ha
          have ha2 : a < 2 := by omega
          match a, ha2 with
          | 0, _ => rfl
          | 1, _ => rfl
        · simp only [uE, hst, hm, List.length_append, List.length_cons, List.length_nil, push_cast, mOf, idx]
          exact Lq
        · simp only [uσ, hst, hm, cellI_app, mkV, pick, List.map_cons, List.map_nil, List.map_append, getS, renSlot, ren_cellI, push_cast, mOf, idx]
          exact leS_refl _
  have hin : i = q.us.length := by omega
  subst hin
  have hend : uL q.us q.o q.us.length = unseenL q.us q.o := rfl
  rw [hend] at hno hns hle ⊢
  have h1 : 0 < (unseenL q.us q.o).length := List.length_pos_iff.2 hne
  have g2 := vBelow_fn q d n0 e (unseenL q.us q.o).length (by omega)
  have hbr := belowP_le (m := (d, n0, e)) (show 1 ≤ ((unseenL q.us q.o).length : Int) by omega)
  obtain ⟨B, hB⟩ : ∃ m, belowP (d, n0, e) (unseenL q.us q.o).length = m := ⟨_, rfl⟩
  rw [hB] at g2 hbr ⊢
  obtain ⟨L, hL⟩ : ∃ L, unseenL q.us q.o = L := ⟨_, rfl⟩
  rw [hL] at hno hns hle h1 hbr g2 ⊢
  obtain ⟨N, hN⟩ : ∃ N : Nat, B.2.1 = N := ⟨B.2.1.toNat, by omega⟩
  rw [hN] at g2 hbr ⊢
  rw [Int.toNat_natCast]
  rcases og with _ | gg
  · exact absurd (hno rfl) (by intro h; rw [h] at h1; simp at h1)
  · obtain ⟨m, hm⟩ : ∃ m, L.length = m := ⟨_, rfl⟩
    have hlC : (cellI L).length = m := by rw [cellI_length, hm]
    have hbm : Nat.beq gg gg = true := Nat.beq_refl gg
    have hNm : N < m := by omega
    have hat : (cellI L)[N]? = some (.v (.int .i64 (L.getD N 0))) := by
      unfold cellI
      rw [List.getElem?_map, List.getD_eq_getElem?_getD, List.getElem?_eq_getElem (by omega)]
      rfl
    rw [hm] at g2
    have hgf : getF (cellI L) N = .v (.int .i64 (L.getD N 0)) := getF_at9 hat
    have hcp : chunk 1 m (cellI L) = intRow L := by rw [← hm]; exact chunk_i L
    simp only [uE, uσ, mkV, hm] at g2 ⊢
    repeat' first | (with_reducible first | refine AWP_seq' ?_ | refine k_normal ?_ | refine k_exit ?_ | refine b_exit ?_ | refine AWP_ret ?_ | refine AWP_exit ?_) | ((with_reducible refine And.intro ?_ ?_); · exact Sq) | ((first | with_reducible refine AWP_reg fun KC J hJ hKC => ?_ | (refine hKC _ _ _ _ _ (callK [0] g2 rfl rfl rfl (by decide) (by simp) rfl rfl Lq ?_))); simp (maxSteps := 9999999) only [push_cast, seval, ↓reduceIte, hlt, Int.lt_irrefl, hlC, hbm, hgf, hNm, backOf, callSets, renSlot, pick, mOf, idx, ren, ren2, ren1, ren0, ren_cellI]) | ((with_reducible refine hJ _ _ ?_); clear hJ hKC KC J) | ((with_reducible refine AWP_condF ?_ ?_); · rfl)
    refine ret_keys ?_
    simp (maxSteps := 9999999) only [push_cast, seval, ↓reduceIte, show Tryz.f266.results = #[(.tmp 2)] from rfl]
    exact ⟨rfl, leD_refl _⟩
end Go.Proofs.YtabliglgeiajlaaGreat.AM

namespace Go.Proofs.YtabliglgeiajlaaGreat.AM
open Go Go.RowKit Go.Proofs
theorem Each.of {α : Type} {p q : α → α → Prop} (h : ∀ x y, p x y → q x y) : ∀ {xs ys : List α}, Cp.Each p xs ys → Cp.Each q xs ys
  | [], [], _ => trivial
  | _ :: _, _ :: _, hh => ⟨h _ _ hh.1, Each.of h hh.2⟩
theorem rowsI_each {q : Int × Int × Int → Int × Int × Int → Bool} : ∀ {xs ys}, Cp.Each (fun x y => q x y = true) xs ys → rowsBI q xs ys = true
  | [], [], _ => rfl
  | _ :: _, _ :: _, h => by simp only [rowsBI, Bool.and_eq_true]; exact ⟨h.1, rowsI_each h.2⟩
theorem rowsA_each {q : Int × Int → Int × Int → Bool} : ∀ {xs ys}, Cp.Each (fun x y => q x y = true) xs ys → rowsBA q xs ys = true
  | [], [], _ => rfl
  | _ :: _, _ :: _, h => by simp only [rowsBA, Bool.and_eq_true]; exact ⟨h.1, rowsA_each h.2⟩
theorem rowsS_each {q : Bool × Int × Int → Bool × Int × Int → Bool} : ∀ {xs ys}, Cp.Each (fun x y => q x y = true) xs ys → rowsBS q xs ys = true
  | [], [], _ => rfl
  | _ :: _, _ :: _, h => by simp only [rowsBS, Bool.and_eq_true]; exact ⟨h.1, rowsS_each h.2⟩
theorem keepR_map {α : Type} (p : α → Bool) : ∀ l : List α, keepR p l = keepR id (l.map p)
  | [] => rfl
  | x :: l => by simp only [keepR, List.map_cons, id, List.length_map, keepR_map p l]
theorem keepN_map {α : Type} (p : α → Bool) (l : List α) : keepN p l = keepN id (l.map p) := by
  unfold keepN; rw [keepR_map, List.map_reverse]
theorem keepN_each {α : Type} {p : α → Bool} {xs ys : List α} (h : Cp.Each (fun x y => p x = p y) xs ys) : keepN p xs = keepN p ys := by
  rw [keepN_map, keepN_map p ys]
  congr 1
  induction xs generalizing ys with
  | nil => cases ys with
    | nil => rfl
    | cons _ _ => exact h.elim
  | cons x xs ih => cases ys with
    | nil => exact h.elim
    | cons y ys => rw [List.map_cons, List.map_cons, h.1, ih h.2]
theorem keepN_idem {α : Type} (p : α → Bool) (l : List α) : keepN p (l.take (keepN p l)) = keepN p l := by
  have : ∀ (n : Nat) (l : List α), l.length = n → keepN p (l.take (keepN p l)) = keepN p l := fun n => by
    induction n with
    | zero => intro l hl; rw [List.length_eq_zero_iff.1 hl]; rfl
    | succ n ih =>
      intro l hl
      have hne : l ≠ [] := fun h => by rw [h] at hl; cases hl
      have he := List.dropLast_concat_getLast hne
      have hd : l.dropLast.length = n := by rw [List.length_dropLast]; omega
      have ih' := ih l.dropLast hd
      have hk := keepN_le p l.dropLast
      rw [← he, keepN_snoc]
      by_cases hp : p (l.getLast hne) = true
      · rw [if_pos hp, List.take_of_length_le (by rw [List.length_append]; simp), keepN_snoc, if_pos hp]
      · rw [if_neg hp, List.take_append_of_le_length hk]; exact ih'
  exact this _ l rfl
theorem keepN_none {α : Type} {p : α → Bool} (k : List α) : ∀ t : List α, (∀ x ∈ t, p x = false) → keepN p (k ++ t) = keepN p k := fun t => by
  have : ∀ (n : Nat) (t : List α), t.length = n → (∀ x ∈ t, p x = false) → keepN p (k ++ t) = keepN p k := fun n => by
    induction n with
    | zero => intro t hl _; rw [List.length_eq_zero_iff.1 hl, List.append_nil]
    | succ n ih =>
      intro t hl ht
      have hne : t ≠ [] := fun h => by rw [h] at hl; cases hl
      have he := List.dropLast_concat_getLast hne
      rw [← he, ← List.append_assoc, keepN_snoc, if_neg (by rw [ht _ (List.getLast_mem hne)]; simp)]
      exact ih _ (by rw [List.length_dropLast]; omega) fun x hx => ht x (List.dropLast_subset t hx)
  exact this _ t rfl
theorem crop_more {us : List Nat} {o : Nat} {s k t : List (Bool × Int × Int)} (h : Cp.Each (fun x y => y.1 = x.1 ∧ y.2.2 = x.2.2) (cropS us o s) k) (ht : ∀ x ∈ t, seenF us o x = false) : cropS us o (k ++ t) = k := by
  have h1 : keepN (seenF us o) (cropS us o s) = keepN (seenF us o) k := keepN_each (Each.of (fun x y hxy => by simp only [seenF, hxy.1, hxy.2]) h)
  have h2 : keepN (seenF us o) (cropS us o s) = (cropS us o s).length := by
    unfold cropS; rw [keepN_idem, List.length_take]; have := keepN_le (seenF us o) s; omega
  unfold cropS
  rw [keepN_none k t ht, ← h1, h2, h.length, List.take_append_of_le_length (Nat.le_refl _), List.take_length]
theorem unseen_mem {us : List Nat} {o : Nat} {l : Int} : l ∈ unseenL us o ↔ oddL us.length l = false ∧ hid us o l = true := by
  unfold unseenL
  rw [List.mem_filter, List.mem_map]
  simp only [oddL, Bool.or_eq_false_iff, decide_eq_false_iff_not]
  constructor
  · rintro ⟨⟨a, ha, rfl⟩, h⟩
    rw [List.mem_range] at ha
    exact ⟨by omega, h⟩
  · rintro ⟨⟨h1, h2⟩, h3⟩
    exact ⟨⟨l.toNat, by rw [List.mem_range]; omega, by omega⟩, h3⟩
structure InSp (n : Nat) (sp : Sp) (s : Sta) : Prop where
  v : 0 ≤ s.v ∧ s.v ≤ 12
  l : oddL n s.l = false
  cl : (s.code.length : Int) ≤ sp.code
  ml : (s.mem.length : Int) ≤ sp.mem
  sl : (s.stack.length : Int) ≤ sp.stack
  out : s.out = []
  c : ∀ x ∈ s.code, instrB n x = true ∧ instrIn sp x = true
  m : ∀ x ∈ s.mem, atomB n x = true ∧ inB (-sp.val) sp.val x.1 = true
  s : ∀ x ∈ s.stack, slotB n x = true ∧ (x.1 || inB (-sp.val) sp.val x.2.1) = true
theorem inSp_iff {n : Nat} {sp : Sp} (h : SpOk sp) {s : Sta} : hasB n sp s = true ↔ InSp n sp s := by
  have h1 := h.c1
  have h2 := h.m1
  have h3 := h.s1
  simp only [hasB, staB, codeB, Bool.and_eq_true, decide_eq_true_eq, List.all_eq_true, inB_iff, Bool.not_eq_true']
  constructor
  · rintro ⟨⟨⟨a1, a2⟩, a3, a4, a5, a6, a7, a8, a9, a10⟩, b1, b2, b3, b4, b5, b6, b7⟩
    exact ⟨a3, a4, b1, b2, b3, List.length_eq_zero_iff.1 b4, fun x hx => ⟨a1 x hx, b5 x hx⟩, fun x hx => ⟨a5 x hx, inB_iff.2 (b6 x hx)⟩, fun x hx => ⟨a7 x hx, b7 x hx⟩⟩
  · rintro ⟨a3, a4, b1, b2, b3, b4, c, m, s'⟩
    rw [b4]
    exact ⟨⟨⟨fun x hx => (c x hx).1, by omega⟩, a3, a4, fun x hx => (m x hx).1, by omega, fun x hx => (s' x hx).1, by omega, fun x hx => (by cases hx), Nat.zero_le _⟩, b1, b2, b3, rfl, fun x hx => (c x hx).2, fun x hx => inB_iff.1 (m x hx).2, fun x hx => (s' x hx).2⟩
theorem varyC_all {sp : Sp} (h : SpOk sp) {us : List Nat} {o : Nat} {s : Sta} (hs : InSp us.length sp s) : (varyC sp us o s).All fun b => InSp us.length sp b ∧ statesB us o s b = true := by
  refine Cp.all_bind _ _ (Cp.all_map (p := fun x y => alI us o x y = true ∧ instrB us.length y = true ∧ instrIn sp y = true) fun x hx => vIC_all h (hs.c x hx).1 (hs.c x hx).2) fun c hc => ?_
  refine Cp.all_bind _ _ (Cp.all_map (p := fun x y => alA us o x y = true ∧ atomB us.length y = true ∧ inB (-sp.val) sp.val y.1 = true) fun x hx => vAC_all h (hs.m x hx).1 (hs.m x hx).2) fun m hm => ?_
  have hcl := hc.length
  have hml := hm.length
  have hc' : ∀ y ∈ c, instrB us.length y = true ∧ instrIn sp y = true := fun y hy => (let ⟨x, _, hp⟩ := Cp.Each.mem hc y hy; hp.2)
  have hm' : ∀ y ∈ m, atomB us.length y = true ∧ inB (-sp.val) sp.val y.1 = true := fun y hy => (let ⟨x, _, hp⟩ := Cp.Each.mem hm y hy; hp.2)
  have e1 : rowsBI (alI us o) s.code c = true := rowsI_each (Each.of (fun _ _ h => h.1) hc)
  have e2 : rowsBA (alA us o) s.mem m = true := rowsA_each (Each.of (fun _ _ h => h.1) hm)
  have hcl2 := hs.cl
  have hml2 := hs.ml
  have hsl2 := hs.sl
  split
  · rename_i hh
    have hf : fl us s.l.toNat o = false := by simpa [hid] using hh
    have hcr : ∀ x ∈ cropS us o s.stack, x ∈ s.stack := fun x hx => List.mem_of_mem_take hx
    refine Cp.all_bind _ _ (Cp.all_map (p := fun x y => alS us o x y = true ∧ (y.1 = x.1 ∧ y.2.2 = x.2.2) ∧ slotB us.length y = true ∧ (y.1 || inB (-sp.val) sp.val y.2.1) = true) fun x hx => vSC_all h (hs.s x (hcr x hx)).1 (hs.s x (hcr x hx)).2) fun k hk => ?_
    have hkl := hk.length
    have hk' : ∀ y ∈ k, slotB us.length y = true ∧ (y.1 || inB (-sp.val) sp.val y.2.1) = true := fun y hy => (let ⟨x, _, hp⟩ := Cp.Each.mem hk y hy; hp.2.2)
    refine Cp.all_bind (p := fun l => (l.length : Int) ≤ sp.stack ∧ cropS us o l = k ∧ ∀ y ∈ l, slotB us.length y = true ∧ (y.1 || inB (-sp.val) sp.val y.2.1) = true) _ _ ?_ fun t ht => ?_
    · refine Cp.all_bind _ _ (oneC_all _) fun n hn => Cp.all_bind _ _ (Cp.all_times (v1C_all h us o) _) fun t ht => ⟨?_, ?_, fun y hy => ?_⟩
      · rw [List.length_append, ht.1]; omega
      · exact crop_more (s := s.stack) (Each.of (fun _ _ h => h.2.1) hk) fun x hx => (ht.2 x hx).1
      · rcases List.mem_append.1 hy with hy | hy
        · exact hk' y hy
        · exact (ht.2 y hy).2
    · refine Cp.all_bind _ _ (oneC_all _) fun v hv => Cp.all_bind _ _ (oneC_all _) fun n hn => ?_
      have hv1 : v < 13 := hv.2
      have hmem : (unseenL us o).getD n.toNat 0 ∈ unseenL us o := by
        obtain ⟨hn0, hn1⟩ := hn
        have hlt : n.toNat < (unseenL us o).length := by omega
        rw [List.getD_eq_getElem?_getD, List.getElem?_eq_getElem hlt]; exact List.getElem_mem hlt
      obtain ⟨u1, u2⟩ := unseen_mem.1 hmem
      refine ⟨⟨⟨hv.1, by simp only; omega⟩, u1, by simp only; omega, by simp only; omega, ht.1, hs.out, hc', hm', ht.2.2⟩, ?_⟩
      unfold statesB
      rw [e1, e2, hf]
      simp only [ht.2.1, rowsS_each (Each.of (fun _ _ h => h.1) hk), decide_true, Bool.true_and, Bool.and_true]
      simpa [hid] using u2
  · rename_i hh
    have hf : fl us s.l.toNat o = true := by simpa [hid] using hh
    refine Cp.all_bind _ _ (Cp.all_map (p := fun x y => alS us o x y = true ∧ (y.1 = x.1 ∧ y.2.2 = x.2.2) ∧ slotB us.length y = true ∧ (y.1 || inB (-sp.val) sp.val y.2.1) = true) fun x hx => vSC_all h (hs.s x hx).1 (hs.s x hx).2) fun k hk => ?_
    have hkl := hk.length
    refine ⟨⟨hs.v, hs.l, by simp only; omega, by simp only; omega, by simp only; omega, hs.out, hc', hm', fun y hy => (let ⟨x, _, hp⟩ := Cp.Each.mem hk y hy; hp.2.2)⟩, ?_⟩
    unfold statesB
    rw [e1, e2, hf]
    simp only [hf, rowsS_each (Each.of (fun _ _ h => h.1) hk), decide_true, Bool.true_and, Bool.and_true, beq_self_eq_true]
theorem vary_top {sp : Sp} {us : List Nat} {t : Nat} {s : Sta} (hs : InSp us.length sp s) (ht : ∀ a, a < us.length → fl us a t = true) : varyC sp us t s = .ret s := by
  have hn : ∀ l : Int, oddL us.length l = false → ¬ hid us t l = true := fun l hl h => by
    simp only [oddL, Bool.or_eq_false_iff, decide_eq_false_iff_not] at hl
    simp only [hid, Bool.not_eq_true', ht l.toNat (by omega)] at h
    cases h
  have h1 : Cp.map (vIC sp us t) s.code = .ret s.code := Cp.map_ret fun x hx => by
    unfold vIC
    rw [if_neg]
    rintro ⟨ha, hb⟩
    have := (hs.c x hx).1
    unfold instrB at this
    rw [if_pos ha] at this
    simp only [Bool.and_eq_true, Bool.not_eq_true'] at this
    exact hn _ this.2 hb
  have h2 : Cp.map (vAC sp us t) s.mem = .ret s.mem := Cp.map_ret fun x hx => by
    have := (hs.m x hx).1
    simp only [atomB, Bool.and_eq_true, Bool.not_eq_true'] at this
    unfold vAC
    rw [if_neg (hn _ this.2)]
  have h3 : Cp.map (vSC sp us t) s.stack = .ret s.stack := Cp.map_ret fun x hx => by
    have := (hs.s x hx).1
    simp only [slotB, Bool.and_eq_true, Bool.not_eq_true'] at this
    unfold vSC
    rw [if_neg (hn _ this.1)]
  unfold varyC
  rw [h1, h2, h3]
  simp only [Cp.bind]
  rw [if_neg (hn _ hs.l)]
end Go.Proofs.YtabliglgeiajlaaGreat.AM

namespace Go.Proofs.YtabliglgeiajlaaGreat.AM
open Go Go.RowKit Go.Proofs
set_option maxRecDepth 100000
set_option maxHeartbeats 4000000
theorem leS_consV {a b : Slot} {l m : List Slot} (h : leSl a b) (h2 : leS l m) : leS (a :: l) (b :: m) := ⟨h, h2⟩
theorem LSv {p : Prop} (h : p := by (repeat' first | exact leS_refl _ | refine leS_consV ?_ ?_ | exact .inr (.inl rfl) | exact .inl rfl | exact leSl_ent rfl rfl rfl rfl Lq)) : p := h
theorem pC_set1 {l : List (Int × Int)} {n : Nat} {v w : Int} (v' : Int) (h : l[n]? = some (v, w)) : (pCells l).take (n * 2) ++ [D.v (.int .i64 v')] ++ (pCells l).drop (n * 2 + 1) = pCells (l.set n (v', w)) := by
  obtain ⟨hn, hx⟩ := List.getElem?_eq_some_iff.1 h
  rw [List.set_eq_take_append_cons_drop, if_pos hn, pCells_app, pCells_take]
  have h3 : (pCells l).drop (n * 2 + 1) = .v (.int .i64 w) :: pCells (l.drop (n + 1)) := by
    rw [← List.drop_drop, pCells_drop, List.drop_eq_getElem_cons hn, hx]
    simp [pCells, pRow]
  rw [h3]
  simp [pCells, pRow]
theorem may1S_zero {ns : List ByteArray} {us : List Nat} {o : Int} {s : List (Bool × Int × Int)} (hc : checkF ns us = 0) (hs : ∀ x ∈ s, oddL us.length x.2.2 = false) (ho : oddL us.length o = false) : may1S ns us o s = 0 := by
  unfold may1S mayF
  rw [if_pos hc, if_neg]
  rw [List.any_eq_true]
  rintro ⟨x, hx, h⟩
  rcases List.mem_append.1 hx with hx | hx
  · have : ∃ y ∈ s, y.2.2 = x := by simp [labs1S] at hx ⊢; first | exact hx | (obtain ⟨a, b, c⟩ := hx; exact ⟨a, b, c⟩)
    obtain ⟨y, hy, rfl⟩ := this
    rw [hs y hy] at h; cases h
  · rw [List.mem_singleton] at hx; subst hx; rw [ho] at h; cases h
theorem cropM_eq {ns : List ByteArray} {us : List Nat} {o : Nat} {s : List (Bool × Int × Int)} (hc : checkF ns us = 0) (hs : ∀ x ∈ s, oddL us.length x.2.2 = false) (ho : oddL us.length (o : Int) = false) : cropM ns us (o : Int) s = cropS us o s := by
  unfold cropM; rw [if_pos (may1S_zero hc hs ho), Int.toNat_natCast]
structure VIn (q : VQ) (s : Sta) : Prop where
  cn : s.code.length ≤ 100
  mn : s.mem.length ≤ 100
  sn : s.stack.length ≤ 12
  cl : ∀ x ∈ s.code, x.1 = 1 → oddL q.us.length x.2.2 = false
  ml : ∀ x ∈ s.mem, oddL q.us.length x.2 = false
  sl : ∀ x ∈ s.stack, oddL q.us.length x.2.2 = false
  ll : oddL q.us.length s.l = false
  s0 : 0 ≤ q.sp.stack
  s1 : q.sp.stack ≤ 12
  sk : (s.stack.length : Int) ≤ q.sp.stack
def vIP (q : VQ) (x : Int × Int × Int) (m : M3) : M3 × (Int × Int × Int) := if x.1 = 1 ∧ hid q.us q.o x.2.2 = true then (numberP m q.sp.val, (x.1, (numberP m q.sp.val).2.1, x.2.2)) else (m, x)
def vAP (q : VQ) (x : Int × Int) (m : M3) : M3 × (Int × Int) := if hid q.us q.o x.2 = true then (numberP m q.sp.val, ((numberP m q.sp.val).2.1, x.2)) else (m, x)
def stateP (q : VQ) (s : Sta) (m : M3) : M3 × Sta :=
  let c := mapF (vIP q) s.code m
  let a := mapF (vAP q) s.mem c.1
  if hid q.us q.o s.l = true then
    let k := mapF (vSP q) (cropS q.us q.o s.stack) a.1
    let t := moreP q k.2 k.1
    let v := belowP t.1 13
    let n := belowP v (unseenL q.us q.o).length
    (n, ⟨v.2.1, (unseenL q.us q.o).getD n.2.1.toNat 0, c.2, a.2, t.2, s.out⟩)
  else
    let k := mapF (vSP q) s.stack a.1
    (k.1, ⟨s.v, s.l, c.2, a.2, k.2, s.out⟩)
def vOutD (f1 f2 f3 f4 : Bool) (s : Sta) : D := .agg [.v (.int .i64 s.v), .v (.int .i64 s.l), .sl f1 3 (tRow s.code), .sl f2 2 (pRow s.mem), .sl f3 3 (sRow s.stack), .sl f4 2 (pRow s.out)]
theorem vState11_fn (q : VQ) (hq : VOk q) (hul : q.us.length ≤ 8) (d : Dr) (n0 e : Int) (f1 f2 f3 f4 : Bool) (s : Sta) (hs : VIn q s) (hc0 : 0 < s.code.length) (hm0 : 0 < s.mem.length) :
    Fn Tryz.prog 188 [.ptr 0 0 0, .agg (staF f1 f2 f3 f4 s)] [.ent (mkV q d e)] (vOutD false false ((!hid q.us q.o s.l) && decide (s.stack = [])) f4 (stateP q s (d, n0, e)).2) [.ent (mkV q (stateP q s (d, n0, e)).1.1 (stateP q s (d, n0, e)).1.2.2)] := by
  obtain ⟨hc, hm, hk, hcL, hmL, hkL, hlL, hs0, hs1, hsk⟩ := hs
  have k1 := clT_fn f1 s.code hc0 (by omega)
  have k2 := clA_fn f2 s.mem hm0 (by omega)
  simp only [staF]
  refine Fn.of (fn := Tryz.f188) (by kernel_rfl) rfl (by kernel_rfl) ⟨[.ptr 0 0 0, .agg [.v (.int .i64 s.v), .v (.int .i64 s.l), .sl f1 3 (tRow s.code), .sl f2 2 (pRow s.mem), .sl f3 3 (sRow s.stack), .sl f4 2 (pRow s.out)], .v undef, .v undef, .v undef, .v undef, .v undef, .v undef, .v undef, .v undef, .v undef, .v undef, .v undef, .v undef, .v undef, .v undef, .v undef, .v undef, .v undef, .v undef, .v undef, .v undef, .v undef, .v undef, .v undef, .v undef, .v undef, .v undef, .v undef, .v undef, .v undef, .v undef, .v undef, .v undef, .v undef, .v undef, .v undef, .v undef, .v undef, .v undef, .v undef, .v undef, .v undef, .v undef, .v undef, .v undef, .v undef, .v undef, .v undef, .v undef, .v undef, .v undef, .v undef, .v undef, .v undef, .v undef, .v undef, .v undef, .v undef, .v undef, .v undef, .v undef, .v undef, .v undef, .v undef, .v undef, .v undef, .v undef, .v undef, .v undef, .v undef, .v undef, .v undef, .v undef, .v undef, .v undef, .v undef, .v undef, .v undef, .v undef, .v undef, .v undef, .v undef, .v undef, .v undef, .v undef, .v undef, .v undef, .v undef, .v undef, .v undef, .v undef, .v undef, .v undef, .v undef, .v undef, .v undef, .v undef, .v undef, .v undef, .v undef, .v undef, .v undef, .v undef, .v undef, .v undef, .v undef, .v undef, .v undef, .v undef], [.ent (mkV q d e)]⟩ rfl ?_
  simp only [mkV]
  repeat' first | (with_reducible refine holdB 0 ?_) | (with_reducible first | refine AWP_seq' ?_ | refine k_normal ?_) | ((first | with_reducible refine AWP_reg fun KC J hJ hKC => ?_ | with_reducible refine AWP_regD rfl fun KC J hJ hKC => ?_ | (refine hKC _ _ _ _ _ (callN [] k1 rfl rfl rfl (by simp) (fun _ h => by cases h) rfl rfl rfl Lq ?_)) | (refine hKC _ _ _ _ _ (callN [] k2 rfl rfl rfl (by simp) (fun _ h => by cases h) rfl rfl rfl Lq ?_))); simp (maxSteps := 9999999) only [push_cast, seval, ↓reduceIte, backOf, callSets, renSlot, pick, mOf, idx, ren, ren2, ren1, ren0, ren_tCells, ren_pCells, ren_sCells]) | ((first | with_reducible refine hJ _ _ ?_ | (with_reducible refine hJ _ _ ?_ ?_; · kernel_rfl)); clear hJ hKC KC J)
  obtain ⟨MC, hMC⟩ : ∃ m, mapF (vIP q) s.code (d, n0, e) = m := ⟨_, rfl⟩
  refine AWP_cutW 5 ⟨[.ptr 0 0 0, .any, .any, .ptr 1 0 0, .ptr 2 0 0, .any, .any, .any, .any, .any, .any, .any, .any, .any, .any, .any, .any, .any, .any, .any, .any, .any, .any, .any, .any, .any, .any, .any, .any, .any, .any, .any, .any, .any, .any, .any, .any, .any, .any, .any, .any, .any, .any, .any, .any, .any, .any, .any, .any, .any, .any, .any, .any, .any, .any, .any, .any, .any, .any, .any, .any, .any, .any, .any, .any, .any, .any, .any, .any, .any, .any, .any, .any, .any, .any, .any, .any, .any, .any, .any, .any, .any, .any, .any, .any, .any, .any, .any, .any, .any, .any, .any, .any, .any, .any, .any, .any, .any, .any, .any, .any, .any, .any, .any, .any, .any, .any, .any, .any, .any], [.ent (mkV q MC.1.1 MC.1.2.2), .ent ⟨0, none, 39, [.v (.int .i64 s.v), .v (.int .i64 s.l), .sl false 3 (tRow (MC.2)), .ref 4 0 s.mem.length, .sl f3 3 (sRow s.stack), .sl f4 2 (pRow s.out)], .cells⟩, .ent ⟨0, none, 39, [.v (.int .i64 0), .v (.int .i64 0), .v (.slice none 0 0), .v (.slice none 0 0), .v (.slice none 0 0), .v (.slice none 0 0)], .cells⟩, .dead, .ent ⟨0, some 2, 34, pCells (s.mem), .cells⟩]⟩ (by first | exact ⟨[_, _, _, _, _], 0, rfl, rfl⟩ | exact ⟨[_, _, _, _, _], 1, rfl, rfl⟩ | exact ⟨[_, _, _, _, _], 2, rfl, rfl⟩ | exact ⟨[_, _, _, _, _], 3, rfl, rfl⟩ | exact ⟨[_, _, _, _, _], 4, rfl, rfl⟩) ?_ ?_
  · skip
    repeat' first | (with_reducible refine AWP_block ?_)
    refine AWP_loopD 5 (γ := {i : Nat // i ≤ s.code.length}) (fun i => ⟨[.ptr 0 0 0, .any, .any, .ptr 1 0 0, .ptr 2 0 0, .any, .any, .any, .any, .any, .any, .any, .any, .any, .any, .any, .any, .any, .any, .any, .ref 3 0 s.code.length, .v (.int .i64 s.code.length), .v (.int .i64 i.1), .any, .any, .any, .any, .any, .any, .any, .any, .any, .any, .any, .any, .any, .any, .any, .any, .any, .any, .any, .any, .any, .any, .any, .any, .any, .any, .any, .any, .any, .any, .any, .any, .any, .any, .any, .any, .any, .any, .any, .any, .any, .any, .any, .any, .any, .any, .any, .any, .any, .any, .any, .any, .any, .any, .any, .any, .any, .any, .any, .any, .any, .any, .any, .any, .any, .any, .any, .any, .any, .any, .any, .any, .any, .any, .any, .any, .any, .any, .any, .any, .any, .any, .any, .any, .any, .any, .any], [.ent (mkV q (mapF (vIP q) (s.code.take i.1) (d, n0, e)).1.1 (mapF (vIP q) (s.code.take i.1) (d, n0, e)).1.2.2), .ent ⟨0, none, 39, [.v (.int .i64 s.v), .v (.int .i64 s.l), .ref 3 0 s.code.length, .ref 4 0 s.mem.length, .sl f3 3 (sRow s.stack), .sl f4 2 (pRow s.out)], .cells⟩, .ent ⟨0, none, 39, [.v (.int .i64 0), .v (.int .i64 0), .v (.slice none 0 0), .v (.slice none 0 0), .v (.slice none 0 0), .v (.slice none 0 0)], .cells⟩, .ent ⟨0, some 3, 100, tCells (mW (vIP q) s.code (d, n0, e) i.1), .cells⟩, .ent ⟨0, some 2, 34, pCells (s.mem), .cells⟩]⟩) (fun i => s.code.length - i.1) ⟨0, by omega⟩ (fun i => rfl) (fun i => ?_) (fun i => rfl) ⟨?_, ?_⟩ ?_
    · refine clsd_all ?_
      simp only [mkV, List.map_cons, List.map_nil, renSlot, ren_tCells, ren_pCells]
      rfl
    · exact Lq
    · simp only [mW_zero, List.take_zero, mkV]
      exact Fq
    rintro ⟨i, hi⟩
    dsimp only
    obtain ⟨n, hn⟩ : ∃ n, s.code.length = n := ⟨_, rfl⟩
    rw [hn] at hi ⊢
    have hwl : (tCells (mW (vIP q) s.code (d, n0, e) i)).length = n * 3 := by rw [tCells_length, mW_length, hn]
    by_cases hlt : (i : Int) < (n : Int)
    · have hx : s.code[i]? = some s.code[i] := List.getElem?_eq_getElem (by omega)
      obtain ⟨x, hxx⟩ : ∃ x, s.code[i] = x := ⟨_, rfl⟩
      rw [hxx] at hx
      have hxw := mW_get (f := vIP q) (m := (d, n0, e)) hx
      have hws := mW_succ (f := vIP q) (m := (d, n0, e)) hx
      have hms := mapF_take (vIP q) hx (d, n0, e)
      have hat := tCells_at hxw
      have hlab := hcL x (List.mem_of_getElem? hx)
      obtain ⟨⟨d1, n1, e1⟩, hM⟩ : ∃ m, (mapF (vIP q) (s.code.take i) (d, n0, e)).1 = m := ⟨_, rfl⟩
      rw [hM] at hws hms ⊢
      obtain ⟨o, v, a⟩ := x
      simp only at hat hlab
      have hwn := wrapN (i := i) (n := n) (by omega) (by omega)
      obtain ⟨W, hW⟩ : ∃ W, mW (vIP q) s.code (d, n0, e) i = W := ⟨_, rfl⟩
      rw [hW] at hxw hws hat hwl ⊢
      by_cases ho : o = 1
      · have ho' : (o == 1) = true := by simpa using ho
        have hh := vHidden_fn q hq d1 e1 a (hlab ho)
        obtain ⟨b, hb⟩ : ∃ b, hid q.us q.o a = b := ⟨_, rfl⟩
        rw [hb] at hh
        cases b
        case false =>
          have hv : vIP q (o, v, a) (d1, n1, e1) = ((d1, n1, e1), (o, v, a)) := by unfold vIP; rw [if_neg (by rw [hb]; simp)]
          rw [hv] at hws hms
          have hsm : W.set i (o, v, a) = W := by
            obtain ⟨h1, h2⟩ := List.getElem?_eq_some_iff.1 hxw
            rw [← h2]; exact List.set_getElem_self h1
          rw [hsm] at hws
          simp only [mkV] at hh ⊢
          repeat' first | (with_reducible first | refine AWP_seq' ?_ | refine k_normal ?_ | refine b_normal ?_ | refine AWP_skip ?_ | refine AWP_block ?_) | ((with_reducible refine And.intro ?_ ?_); · exact Sq) | ((first | with_reducible refine AWP_reg fun KC J hJ hKC => ?_ | (refine hKC _ _ _ _ _ (callK [0] hh rfl rfl rfl (by decide) (by simp) rfl rfl Lq ?_))); simp (maxSteps := 9999999) only [push_cast, seval, ↓reduceIte, hlt, hat, hwl, hwn, ho', undef, backOf, callSets, renSlot, pick, mOf, idx, ren, ren2, ren1, ren0, ren_tCells, ren_pCells, ren_sCells]) | ((with_reducible refine hJ _ _ ?_); clear hJ hKC KC J) | ((with_reducible refine AWP_condT ?_ ?_); · rfl) | ((with_reducible refine AWP_condF ?_ ?_); · rfl)
          refine ⟨⟨i + 1, by omega⟩, by simp only; omega, ?_, ?_⟩
          · exact Lq
          · simp only [hms, hws, mkV]; exact ⟨_, rfl⟩
        case true =>
          have hval := vNumber_fn q d1 n1 e1
          obtain ⟨⟨d2, n2, e2⟩, hM2⟩ : ∃ m, numberP (d1, n1, e1) q.sp.val = m := ⟨_, rfl⟩
          rw [hM2] at hval
          have hv : vIP q (o, v, a) (d1, n1, e1) = ((d2, n2, e2), (o, n2, a)) := by unfold vIP; rw [if_pos ⟨ho, hb⟩]; simp only [hM2]
          rw [hv] at hws hms
          have hset := tC_set1 n2 hxw
          rw [← hws] at hset
          obtain ⟨W', hW'⟩ : ∃ W', mW (vIP q) s.code (d, n0, e) (i + 1) = W' := ⟨_, rfl⟩
          rw [hW'] at hset
          simp only [mkV] at hh hval ⊢
          repeat' first | (with_reducible first | refine AWP_seq' ?_ | refine k_normal ?_ | refine b_normal ?_ | refine AWP_skip ?_ | refine AWP_block ?_) | ((with_reducible refine And.intro ?_ ?_); · exact Sq) | ((first | with_reducible refine AWP_reg fun KC J hJ hKC => ?_ | with_reducible refine AWP_regD rfl fun KC J hJ hKC => ?_ | (refine hKC _ _ _ _ _ (callK [0] hh rfl rfl rfl (by decide) (by simp) rfl rfl Lq ?_)) | (refine hKC _ _ _ _ _ (callK [0] hval rfl rfl rfl (by decide) (by simp) rfl rfl Lq ?_))); simp (maxSteps := 9999999) only [push_cast, seval, ↓reduceIte, hlt, hat, hwl, hset, hwn, Nat.add_zero, ho', undef, backOf, callSets, renSlot, pick, mOf, idx, ren, ren2, ren1, ren0, ren_tCells, ren_pCells, ren_sCells]) | ((first | with_reducible refine hJ _ _ ?_ | (with_reducible refine hJ _ _ ?_ ?_; · kernel_rfl)); clear hJ hKC KC J) | ((with_reducible refine AWP_condT ?_ ?_); · rfl)
          refine ⟨⟨i + 1, by omega⟩, by simp only; omega, ?_, ?_⟩
          · exact Lq
          · simp only [hms, hW', mkV]; exact ⟨_, rfl⟩
      · have ho' : (o == 1) = false := by simpa using ho
        have hv : vIP q (o, v, a) (d1, n1, e1) = ((d1, n1, e1), (o, v, a)) := by unfold vIP; rw [if_neg (fun h => ho h.1)]
        rw [hv] at hws hms
        have hsm : W.set i (o, v, a) = W := by
          obtain ⟨h1, h2⟩ := List.getElem?_eq_some_iff.1 hxw
          rw [← h2]; exact List.set_getElem_self h1
        rw [hsm] at hws
        simp only [mkV]
        repeat' first | (with_reducible first | refine AWP_seq' ?_ | refine k_normal ?_ | refine b_normal ?_ | refine AWP_skip ?_ | refine AWP_block ?_) | ((with_reducible refine And.intro ?_ ?_); · exact Sq) | ((with_reducible refine AWP_reg fun KC J hJ hKC => ?_); simp (maxSteps := 9999999) only [push_cast, seval, ↓reduceIte, hlt, hat, hwl, hwn, ho', undef, backOf, callSets, renSlot, pick, mOf, idx, ren, ren2, ren1, ren0, ren_tCells, ren_pCells, ren_sCells]) | ((with_reducible refine hJ _ _ ?_); clear hJ hKC KC J) | ((with_reducible refine AWP_condT ?_ ?_); · rfl) | ((with_reducible refine AWP_condF ?_ ?_); · rfl)
        refine ⟨⟨i + 1, by omega⟩, by simp only; omega, ?_, ?_⟩
        · exact Lq
        · simp only [hms, hws, mkV]; exact ⟨_, rfl⟩
    · have hin : i = n := by omega
      subst hin
      have hend := mW_end (f := vIP q) (m := (d, n0, e)) hn
      have htk : s.code.take i = s.code := by rw [← hn]; exact List.take_length
      rw [hend, hMC] at hwl
      rw [hend, htk, hMC]
      obtain ⟨W, hW⟩ : ∃ W, MC.2 = W := ⟨_, rfl⟩
      rw [hW] at hwl ⊢
      have hWl : W.length = i := by have := tCells_length W; omega
      have hcp : chunk 3 i (tCells W) = tRow W := by rw [← hWl]; exact chunk_t W
      simp only [mkV]
      repeat' first | (refine AWP_freezeR 3 3 rfl (by (simp (maxSteps := 9999999) only [push_cast, seval, ↓reduceIte]) <;> rfl) ?_; simp (maxSteps := 9999999) only [push_cast, seval, ↓reduceIte, frSt, frSlot, fr3, fr2, fr1, fr0, sameB, arrOf, hlt, hwl, hcp]) | (with_reducible first | refine AWP_seq' ?_ | refine k_normal ?_ | refine k_exit ?_ | refine b_exit ?_ | refine AWP_exit ?_) | ((with_reducible refine AWP_reg fun KC J hJ hKC => ?_); simp (maxSteps := 9999999) only [push_cast, seval, ↓reduceIte, hlt, hwl, hcp]) | ((with_reducible refine hJ _ _ ?_); clear hJ hKC KC J) | ((with_reducible refine AWP_condF ?_ ?_); · rfl)
      refine .inl ⟨rfl, [0, 1, 2, 3, 4], by decide, by decide, ?_, ?_⟩
      · exact Lq
      · simp only [pick, List.map_cons, List.map_nil, getS, renSlot, ren_pCells, ren_tCells, mOf, idx]
        exact LSv
  repeat' first | (with_reducible refine holdB 2 ?_) | (with_reducible first | refine AWP_seq' ?_ | refine k_normal ?_) | ((with_reducible refine AWP_reg fun KC J hJ hKC => ?_); simp (maxSteps := 9999999) only [push_cast, seval, ↓reduceIte]) | ((with_reducible refine hJ _ _ ?_); clear hJ hKC KC J)
  obtain ⟨MM, hMM⟩ : ∃ m, mapF (vAP q) s.mem MC.1 = m := ⟨_, rfl⟩
  refine AWP_cutW 5 ⟨[.ptr 0 0 0, .any, .any, .ptr 1 0 0, .ptr 2 0 0, .any, .any, .any, .any, .any, .any, .any, .any, .any, .any, .any, .any, .any, .any, .any, .any, .any, .any, .any, .any, .any, .any, .any, .any, .any, .any, .any, .any, .any, .any, .any, .any, .any, .any, .any, .any, .any, .any, .any, .any, .any, .any, .any, .any, .any, .any, .any, .any, .any, .any, .any, .any, .any, .any, .any, .any, .any, .any, .any, .any, .any, .any, .any, .any, .any, .any, .any, .any, .any, .any, .any, .any, .any, .any, .any, .any, .any, .any, .any, .any, .any, .any, .any, .any, .any, .any, .any, .any, .any, .any, .any, .any, .any, .any, .any, .any, .any, .any, .any, .any, .any, .any, .any, .any, .any], [.ent (mkV q MM.1.1 MM.1.2.2), .ent ⟨0, none, 39, [.v (.int .i64 s.v), .v (.int .i64 s.l), .sl false 3 (tRow (MC.2)), .sl false 2 (pRow (MM.2)), .sl f3 3 (sRow s.stack), .sl f4 2 (pRow s.out)], .cells⟩, .ent ⟨0, none, 39, [.v (.int .i64 0), .v (.int .i64 0), .v (.slice none 0 0), .v (.slice none 0 0), .v (.slice none 0 0), .v (.slice none 0 0)], .cells⟩, .dead, .dead]⟩ (by first | exact ⟨[_, _, _, _, _], 0, rfl, rfl⟩ | exact ⟨[_, _, _, _, _], 1, rfl, rfl⟩ | exact ⟨[_, _, _, _, _], 2, rfl, rfl⟩ | exact ⟨[_, _, _, _, _], 3, rfl, rfl⟩ | exact ⟨[_, _, _, _, _], 4, rfl, rfl⟩) ?_ ?_
  · skip
    repeat' first | (with_reducible refine AWP_block ?_)
    refine AWP_loopD 5 (γ := {i : Nat // i ≤ s.mem.length}) (fun i => ⟨[.ptr 0 0 0, .any, .any, .ptr 1 0 0, .ptr 2 0 0, .any, .any, .any, .any, .any, .any, .any, .any, .any, .any, .any, .any, .any, .any, .any, .any, .any, .any, .any, .any, .any, .any, .any, .any, .any, .any, .any, .any, .any, .any, .any, .any, .any, .any, .any, .any, .any, .any, .any, .any, .ref 4 0 s.mem.length, .v (.int .i64 s.mem.length), .v (.int .i64 i.1), .any, .any, .any, .any, .any, .any, .any, .any, .any, .any, .any, .any, .any, .any, .any, .any, .any, .any, .any, .any, .any, .any, .any, .any, .any, .any, .any, .any, .any, .any, .any, .any, .any, .any, .any, .any, .any, .any, .any, .any, .any, .any, .any, .any, .any, .any, .any, .any, .any, .any, .any, .any, .any, .any, .any, .any, .any, .any, .any, .any, .any, .any], [.ent (mkV q (mapF (vAP q) (s.mem.take i.1) MC.1).1.1 (mapF (vAP q) (s.mem.take i.1) MC.1).1.2.2), .ent ⟨0, none, 39, [.v (.int .i64 s.v), .v (.int .i64 s.l), .sl false 3 (tRow (MC.2)), .ref 4 0 s.mem.length, .sl f3 3 (sRow s.stack), .sl f4 2 (pRow s.out)], .cells⟩, .ent ⟨0, none, 39, [.v (.int .i64 0), .v (.int .i64 0), .v (.slice none 0 0), .v (.slice none 0 0), .v (.slice none 0 0), .v (.slice none 0 0)], .cells⟩, .dead, .ent ⟨0, some 2, 34, pCells (mW (vAP q) s.mem MC.1 i.1), .cells⟩]⟩) (fun i => s.mem.length - i.1) ⟨0, by omega⟩ (fun i => rfl) (fun i => ?_) (fun i => rfl) ⟨?_, ?_⟩ ?_
    · refine clsd_all ?_
      simp only [mkV, List.map_cons, List.map_nil, renSlot, ren_tCells, ren_pCells]
      rfl
    · exact Lq
    · simp only [mW_zero, List.take_zero, mkV]
      exact Fq
    rintro ⟨i, hi⟩
    dsimp only
    obtain ⟨n, hn⟩ : ∃ n, s.mem.length = n := ⟨_, rfl⟩
    rw [hn] at hi ⊢
    have hwl : (pCells (mW (vAP q) s.mem MC.1 i)).length = n * 2 := by rw [pCells_length, mW_length, hn]
    by_cases hlt : (i : Int) < (n : Int)
    · have hx : s.mem[i]? = some s.mem[i] := List.getElem?_eq_getElem (by omega)
      obtain ⟨x, hxx⟩ : ∃ x, s.mem[i] = x := ⟨_, rfl⟩
      rw [hxx] at hx
      have hxw := mW_get (f := vAP q) (m := MC.1) hx
      have hws := mW_succ (f := vAP q) (m := MC.1) hx
      have hms := mapF_take (vAP q) hx MC.1
      have hat := pCells_at hxw
      have hlab := hmL x (List.mem_of_getElem? hx)
      obtain ⟨⟨d1, n1, e1⟩, hM⟩ : ∃ m, (mapF (vAP q) (s.mem.take i) MC.1).1 = m := ⟨_, rfl⟩
      rw [hM] at hws hms ⊢
      obtain ⟨v, a⟩ := x
      simp only at hat hlab
      have hwn := wrapN (i := i) (n := n) (by omega) (by omega)
      obtain ⟨W, hW⟩ : ∃ W, mW (vAP q) s.mem MC.1 i = W := ⟨_, rfl⟩
      rw [hW] at hxw hws hat hwl ⊢
      · skip
        have hh := vHidden_fn q hq d1 e1 a hlab
        obtain ⟨b, hb⟩ : ∃ b, hid q.us q.o a = b := ⟨_, rfl⟩
        rw [hb] at hh
        cases b
        case false =>
          have hv : vAP q (v, a) (d1, n1, e1) = ((d1, n1, e1), (v, a)) := by unfold vAP; rw [if_neg (by rw [hb]; simp)]
          rw [hv] at hws hms
          have hsm : W.set i (v, a) = W := by
            obtain ⟨h1, h2⟩ := List.getElem?_eq_some_iff.1 hxw
            rw [← h2]; exact List.set_getElem_self h1
          rw [hsm] at hws
          simp only [mkV] at hh ⊢
          repeat' first | (with_reducible first | refine AWP_seq' ?_ | refine k_normal ?_ | refine b_normal ?_ | refine AWP_skip ?_ | refine AWP_block ?_) | ((with_reducible refine And.intro ?_ ?_); · exact Sq) | ((first | with_reducible refine AWP_reg fun KC J hJ hKC => ?_ | (refine hKC _ _ _ _ _ (callK [0] hh rfl rfl rfl (by decide) (by simp) rfl rfl Lq ?_))); simp (maxSteps := 9999999) only [push_cast, seval, ↓reduceIte, hlt, hat, hwl, hwn, backOf, callSets, renSlot, pick, mOf, idx, ren, ren2, ren1, ren0, ren_tCells, ren_pCells, ren_sCells]) | ((with_reducible refine hJ _ _ ?_); clear hJ hKC KC J) | ((with_reducible refine AWP_condT ?_ ?_); · rfl) | ((with_reducible refine AWP_condF ?_ ?_); · rfl)
          refine ⟨⟨i + 1, by omega⟩, by simp only; omega, ?_, ?_⟩
          · exact Lq
          · simp only [hms, hws, mkV]; exact ⟨_, rfl⟩
        case true =>
          have hval := vNumber_fn q d1 n1 e1
          obtain ⟨⟨d2, n2, e2⟩, hM2⟩ : ∃ m, numberP (d1, n1, e1) q.sp.val = m := ⟨_, rfl⟩
          rw [hM2] at hval
          have hv : vAP q (v, a) (d1, n1, e1) = ((d2, n2, e2), (n2, a)) := by unfold vAP; rw [if_pos hb]; simp only [hM2]
          rw [hv] at hws hms
          have hset := pC_set1 n2 hxw
          rw [← hws] at hset
          obtain ⟨W', hW'⟩ : ∃ W', mW (vAP q) s.mem MC.1 (i + 1) = W' := ⟨_, rfl⟩
          rw [hW'] at hset
          simp only [mkV] at hh hval ⊢
          repeat' first | (with_reducible first | refine AWP_seq' ?_ | refine k_normal ?_ | refine b_normal ?_ | refine AWP_skip ?_ | refine AWP_block ?_) | ((with_reducible refine And.intro ?_ ?_); · exact Sq) | ((first | with_reducible refine AWP_reg fun KC J hJ hKC => ?_ | with_reducible refine AWP_regD rfl fun KC J hJ hKC => ?_ | (refine hKC _ _ _ _ _ (callK [0] hh rfl rfl rfl (by decide) (by simp) rfl rfl Lq ?_)) | (refine hKC _ _ _ _ _ (callK [0] hval rfl rfl rfl (by decide) (by simp) rfl rfl Lq ?_))); simp (maxSteps := 9999999) only [push_cast, seval, ↓reduceIte, hlt, hat, hwl, hset, hwn, Nat.add_zero, backOf, callSets, renSlot, pick, mOf, idx, ren, ren2, ren1, ren0, ren_tCells, ren_pCells, ren_sCells]) | ((first | with_reducible refine hJ _ _ ?_ | (with_reducible refine hJ _ _ ?_ ?_; · kernel_rfl)); clear hJ hKC KC J) | ((with_reducible refine AWP_condT ?_ ?_); · rfl)
          refine ⟨⟨i + 1, by omega⟩, by simp only; omega, ?_, ?_⟩
          · exact Lq
          · simp only [hms, hW', mkV]; exact ⟨_, rfl⟩
    · have hin : i = n := by omega
      subst hin
      have hend := mW_end (f := vAP q) (m := MC.1) hn
      have htk : s.mem.take i = s.mem := by rw [← hn]; exact List.take_length
      rw [hend, hMM] at hwl
      rw [hend, htk, hMM]
      obtain ⟨W, hW⟩ : ∃ W, MM.2 = W := ⟨_, rfl⟩
      rw [hW] at hwl ⊢
      have hWl : W.length = i := by have := pCells_length W; omega
      have hcp : chunk 2 i (pCells W) = pRow W := by rw [← hWl]; exact chunk_p W
      simp only [mkV]
      repeat' first | (refine AWP_freezeR 9 4 rfl (by (simp (maxSteps := 9999999) only [push_cast, seval, ↓reduceIte]) <;> rfl) ?_; simp (maxSteps := 9999999) only [push_cast, seval, ↓reduceIte, frSt, frSlot, fr3, fr2, fr1, fr0, sameB, arrOf, hlt, hwl, hcp]) | (with_reducible first | refine AWP_seq' ?_ | refine k_normal ?_ | refine k_exit ?_ | refine b_exit ?_ | refine AWP_exit ?_) | ((with_reducible refine AWP_reg fun KC J hJ hKC => ?_); simp (maxSteps := 9999999) only [push_cast, seval, ↓reduceIte, hlt, hwl, hcp]) | ((with_reducible refine hJ _ _ ?_); clear hJ hKC KC J) | ((with_reducible refine AWP_condF ?_ ?_); · rfl)
      refine .inl ⟨rfl, [0, 1, 2, 3, 4], by decide, by decide, ?_, ?_⟩
      · exact Lq
      · simp only [pick, List.map_cons, List.map_nil, getS, renSlot, ren_pCells, ren_tCells, mOf, idx]
        exact LSv
  obtain ⟨⟨d2, n2, e2⟩, hM2⟩ : ∃ m, MM.1 = m := ⟨_, rfl⟩
  rw [hM2]
  have g1 := vHidden_fn q hq d2 e2 s.l hlL
  by_cases hh : hid q.us q.o s.l = true
  · rw [hh] at g1
    have hst : stateP q s (d, n0, e) = (let k := mapF (vSP q) (cropS q.us q.o s.stack) (d2, n2, e2)
        let t := moreP q k.2 k.1
        let v := belowP t.1 13
        let n := belowP v (unseenL q.us q.o).length
        (n, ⟨v.2.1, (unseenL q.us q.o).getD n.2.1.toNat 0, MC.2, MM.2, t.2, s.out⟩)) := by
      unfold stateP; simp only [hMC, hMM, hM2]; rw [if_pos hh]
    have hfl : ((!hid q.us q.o s.l) && decide (s.stack = [])) = false := by rw [hh]; rfl
    rw [hst, hfl]
    clear hst
    have hcrop := apiCrop_fn q.f q.g f3 q.ns q.us (q.o : Int) s.stack hq.szs hq.u32 (by omega)
    rw [may1S_zero hq.chk hkL (oddL_iff.2 ⟨by omega, by have := hq.lab; omega⟩), cropM_eq hq.chk hkL (oddL_iff.2 ⟨by omega, by have := hq.lab; omega⟩)] at hcrop
    have hcrL : ∀ x ∈ cropS q.us q.o s.stack, oddL q.us.length x.2.2 = false := fun x hx => hkL x (List.mem_of_mem_take hx)
    have hcrl : (cropS q.us q.o s.stack).length ≤ s.stack.length := by unfold cropS; rw [List.length_take]; omega
    obtain ⟨CR, hCR⟩ : ∃ r, cropS q.us q.o s.stack = r := ⟨_, rfl⟩
    rw [hCR] at hcrop hcrL hcrl ⊢
    have hKl := mapF_length (vSP q) (d2, n2, e2) CR
    have hne : unseenL q.us q.o ≠ [] := fun h => by have := unseen_mem.2 ⟨hlL, hh⟩; rw [h] at this; cases this
    rcases Nat.eq_zero_or_pos CR.length with h0 | h0
    · have hC0 : CR = [] := List.length_eq_zero_iff.1 h0
      subst hC0
      have g2 := vSlots0_fn q d2 e2 false
      have g3 := vMore_fn q hq hul d2 n2 e2 [] (by simp) hs0 hs1 (by simpa using hs0) none (fun _ => rfl)
      simp only [mapF, List.foldl_nil] at g3 ⊢
      obtain ⟨⟨⟨d3, n3, e3⟩, T⟩, hT⟩ : ∃ r, moreP q [] (d2, n2, e2) = r := ⟨_, rfl⟩
      rw [hT] at g3
      simp only [hT]
      have g4 := vPlace_fn q d3 n3 e3
      obtain ⟨⟨d4, n4, e4⟩, hP⟩ : ∃ m, belowP (d3, n3, e3) 13 = m := ⟨_, rfl⟩
      simp only [hP] at g4 ⊢
      have g5 := vUnseen_fn q hq hul d4 n4 e4 hne
      obtain ⟨⟨d5, n5, e5⟩, hU⟩ : ∃ m, belowP (d4, n4, e4) (unseenL q.us q.o).length = m := ⟨_, rfl⟩
      simp only [hU] at g5 ⊢
      obtain ⟨lb, hlb⟩ : ∃ l, (unseenL q.us q.o).getD n5.toNat 0 = l := ⟨_, rfl⟩
      rw [hlb] at g5
      simp only [hlb]
      simp only [mkV, yE, yσ, yO, show sRow [] = [] from rfl, show sCells [] = [] from rfl, List.length_nil] at g1 g2 g3 g4 g5 ⊢
      repeat' first | (with_reducible first | refine AWP_seq' ?_ | refine k_normal ?_ | refine AWP_ret ?_ | refine AWP_skip ?_) | ((first | with_reducible refine AWP_reg fun KC J hJ hKC => ?_ | with_reducible refine AWP_regD rfl fun KC J hJ hKC => ?_ | (refine hKC _ _ _ _ _ (callK [0] g1 rfl rfl rfl (by decide) (by simp) rfl rfl Lq ?_)) | (refine hKC _ _ _ _ _ (callK [0] g2 rfl rfl rfl (by decide) (by simp) rfl rfl Lq ?_)) | (refine hKC _ _ _ _ _ (callK [0] g3 rfl rfl rfl (by decide) (by simp) rfl rfl Lq ?_)) | (refine hKC _ _ _ _ _ (callK [0] g4 rfl rfl rfl (by decide) (by simp) rfl rfl Lq ?_)) | (refine hKC _ _ _ _ _ (callK [0] g5 rfl rfl rfl (by decide) (by simp) rfl rfl Lq ?_)) | (refine hKC _ _ _ _ _ (callV0 (hcrop) rfl rfl rfl ?_ ?_); (· exact Lq))); simp (maxSteps := 9999999) only [push_cast, seval, ↓reduceIte, backOf, callSets, renSlot, pick, mOf, idx, ren, ren2, ren1, ren0, ren_tCells, ren_pCells, ren_sCells]) | ((first | with_reducible refine hJ _ _ ?_ | (with_reducible refine hJ _ _ ?_ ?_; · kernel_rfl)); clear hJ hKC KC J) | ((with_reducible refine AWP_condF ?_ ?_); · rfl)
      refine ret_keys ?_
      simp (maxSteps := 9999999) only [push_cast, seval, ↓reduceIte, show Tryz.f188.results = #[(.cell 4 39)] from rfl]
      exact ⟨rfl, leD_refl _⟩
    · have g2 := vSlots_fn q hq d2 n2 e2 false CR h0 (by omega) hcrL
      obtain ⟨⟨⟨d6, n6, e6⟩, KS⟩, hKS⟩ : ∃ r, mapF (vSP q) CR (d2, n2, e2) = r := ⟨_, rfl⟩
      rw [hKS] at g2 hKl
      simp only at g2 hKl
      have g3 := vMore_fn q hq hul d6 n6 e6 KS (by omega) hs0 hs1 (by omega) (some 0) (fun h => by cases h)
      rw [hKl] at g3
      simp only [hKS] at g3 ⊢
      obtain ⟨m, hm'⟩ : ∃ m, CR.length = m := ⟨_, rfl⟩
      rw [hm'] at g2 g3
      obtain ⟨⟨⟨d3, n3, e3⟩, T⟩, hT⟩ : ∃ r, moreP q KS (d6, n6, e6) = r := ⟨_, rfl⟩
      rw [hT] at g3
      simp only [hT]
      have g4 := vPlace_fn q d3 n3 e3
      obtain ⟨⟨d4, n4, e4⟩, hP⟩ : ∃ m, belowP (d3, n3, e3) 13 = m := ⟨_, rfl⟩
      simp only [hP] at g4 ⊢
      have g5 := vUnseen_fn q hq hul d4 n4 e4 hne
      obtain ⟨⟨d5, n5, e5⟩, hU⟩ : ∃ m, belowP (d4, n4, e4) (unseenL q.us q.o).length = m := ⟨_, rfl⟩
      simp only [hU] at g5 ⊢
      obtain ⟨lb, hlb⟩ : ∃ l, (unseenL q.us q.o).getD n5.toNat 0 = l := ⟨_, rfl⟩
      rw [hlb] at g5
      simp only [hlb]
      simp only [mkV, yE, yσ, yO, show sRow [] = [] from rfl, show sCells [] = [] from rfl, List.length_nil] at g1 g2 g3 g4 g5 ⊢
      repeat' first | (with_reducible first | refine AWP_seq' ?_ | refine k_normal ?_ | refine AWP_ret ?_ | refine AWP_skip ?_) | ((first | with_reducible refine AWP_reg fun KC J hJ hKC => ?_ | with_reducible refine AWP_regD rfl fun KC J hJ hKC => ?_ | (refine hKC _ _ _ _ _ (callK [0] g1 rfl rfl rfl (by decide) (by simp) rfl rfl Lq ?_)) | (refine hKC _ _ _ _ _ (callN [0] g2 rfl rfl rfl (by decide) (by simp) rfl rfl rfl Lq ?_)) | (refine hKC _ _ _ _ _ (callK [0, 7] g3 rfl rfl rfl (by decide) (by simp) rfl (by simp only [pick, List.map_cons, List.map_nil, getS, renSlot, ren_sCells, mOf, idx]; rfl) Lq ?_)) | (refine hKC _ _ _ _ _ (callK [0] g4 rfl rfl rfl (by decide) (by simp) rfl rfl Lq ?_)) | (refine hKC _ _ _ _ _ (callK [0] g5 rfl rfl rfl (by decide) (by simp) rfl rfl Lq ?_)) | (refine hKC _ _ _ _ _ (callV0 (hcrop) rfl rfl rfl ?_ ?_); (· exact Lq))); simp (maxSteps := 9999999) only [push_cast, seval, ↓reduceIte, backOf, callSets, renSlot, pick, mOf, idx, ren, ren2, ren1, ren0, ren_tCells, ren_pCells, ren_sCells]) | ((first | with_reducible refine hJ _ _ ?_ | (with_reducible refine hJ _ _ ?_ ?_; · kernel_rfl)); clear hJ hKC KC J) | ((with_reducible refine AWP_condF ?_ ?_); · rfl)
      refine ret_keys ?_
      simp (maxSteps := 9999999) only [push_cast, seval, ↓reduceIte, show Tryz.f188.results = #[(.cell 4 39)] from rfl]
      exact ⟨rfl, leD_refl _⟩
  · have hh' : hid q.us q.o s.l = false := by simpa using hh
    rw [hh'] at g1
    have hst : stateP q s (d, n0, e) = ((mapF (vSP q) s.stack (d2, n2, e2)).1, ⟨s.v, s.l, MC.2, MM.2, (mapF (vSP q) s.stack (d2, n2, e2)).2, s.out⟩) := by
      unfold stateP; simp only [hMC, hMM, hM2]; rw [if_neg hh]
    rw [hst]
    clear hst
    rcases Nat.eq_zero_or_pos s.stack.length with h0 | h0
    · have hC0 : s.stack = [] := List.length_eq_zero_iff.1 h0
      have hfl : ((!hid q.us q.o s.l) && decide (s.stack = [])) = true := by rw [hh', hC0]; rfl
      rw [hfl, hC0]
      have g2 := vSlots0_fn q d2 e2 f3
      simp only [mapF, List.foldl_nil, mkV, show sRow [] = [] from rfl] at g1 g2 ⊢
      repeat' first | (with_reducible first | refine AWP_seq' ?_ | refine k_normal ?_ | refine k_ret ?_ | refine AWP_ret ?_) | ((first | with_reducible refine AWP_reg fun KC J hJ hKC => ?_ | (refine hKC _ _ _ _ _ (callK [0] g1 rfl rfl rfl (by decide) (by simp) rfl rfl Lq ?_)) | (refine hKC _ _ _ _ _ (callK [0] g2 rfl rfl rfl (by decide) (by simp) rfl rfl Lq ?_))); simp (maxSteps := 9999999) only [push_cast, seval, ↓reduceIte, backOf, callSets, renSlot, pick, mOf, idx, ren, ren2, ren1, ren0, ren_tCells, ren_pCells, ren_sCells]) | ((with_reducible refine hJ _ _ ?_); clear hJ hKC KC J) | ((with_reducible refine AWP_condT ?_ ?_); · rfl)
      refine ret_keys ?_
      simp (maxSteps := 9999999) only [push_cast, seval, ↓reduceIte, show Tryz.f188.results = #[(.cell 4 39)] from rfl]
      exact ⟨rfl, leD_refl _⟩
    · have hfl : ((!hid q.us q.o s.l) && decide (s.stack = [])) = false := by
        rw [hh', decide_eq_false (fun h => by rw [h] at h0; cases h0)]; rfl
      rw [hfl]
      have g2 := vSlots_fn q hq d2 n2 e2 f3 s.stack h0 (by omega) hkL
      have hKl := mapF_length (vSP q) (d2, n2, e2) s.stack
      obtain ⟨⟨⟨d6, n6, e6⟩, KS⟩, hKS⟩ : ∃ r, mapF (vSP q) s.stack (d2, n2, e2) = r := ⟨_, rfl⟩
      rw [hKS] at g2 hKl
      simp only [hKS] at g2 hKl ⊢
      have hlC : (sCells KS).length = s.stack.length * 3 := by rw [sCells_length, hKl]
      have hcp : chunk 3 s.stack.length (sCells KS) = sRow KS := by rw [← hKl]; exact chunk_s KS
      simp only [mkV] at g1 g2 ⊢
      repeat' first | (refine AWP_freezeR 16 6 rfl (by (simp (maxSteps := 9999999) only [push_cast, seval, ↓reduceIte]) <;> rfl) ?_; simp (maxSteps := 9999999) only [push_cast, seval, ↓reduceIte, frSt, frSlot, fr3, fr2, fr1, fr0, sameB, arrOf, hlC, hcp, backOf, callSets, renSlot, pick, mOf, idx, ren, ren2, ren1, ren0, ren_tCells, ren_pCells, ren_sCells]) | (with_reducible first | refine AWP_seq' ?_ | refine k_normal ?_ | refine k_ret ?_ | refine AWP_ret ?_) | ((first | with_reducible refine AWP_reg fun KC J hJ hKC => ?_ | (refine hKC _ _ _ _ _ (callK [0] g1 rfl rfl rfl (by decide) (by simp) rfl rfl Lq ?_)) | (refine hKC _ _ _ _ _ (callN [0] g2 rfl rfl rfl (by decide) (by simp) rfl rfl rfl Lq ?_))); simp (maxSteps := 9999999) only [push_cast, seval, ↓reduceIte, hlC, hcp, backOf, callSets, renSlot, pick, mOf, idx, ren, ren2, ren1, ren0, ren_tCells, ren_pCells, ren_sCells]) | ((with_reducible refine hJ _ _ ?_); clear hJ hKC KC J) | ((with_reducible refine AWP_condT ?_ ?_); · rfl)
      refine ret_keys ?_
      simp (maxSteps := 9999999) only [push_cast, seval, ↓reduceIte, show Tryz.f188.results = #[(.cell 4 39)] from rfl]
      exact ⟨rfl, leD_refl _⟩
end Go.Proofs.YtabliglgeiajlaaGreat.AM

namespace Go.Proofs.YtabliglgeiajlaaGreat.AM
open Go Go.RowKit Go.Proofs
set_option maxRecDepth 100000
set_option maxHeartbeats 4000000
theorem vState10_fn (q : VQ) (hq : VOk q) (hul : q.us.length ≤ 8) (d : Dr) (n0 e : Int) (f1 f2 f3 f4 : Bool) (s : Sta) (hs : VIn q s) (hc0 : 0 < s.code.length) (hm0 : s.mem = []) :
    Fn Tryz.prog 188 [.ptr 0 0 0, .agg (staF f1 f2 f3 f4 s)] [.ent (mkV q d e)] (vOutD false true ((!hid q.us q.o s.l) && decide (s.stack = [])) f4 (stateP q s (d, n0, e)).2) [.ent (mkV q (stateP q s (d, n0, e)).1.1 (stateP q s (d, n0, e)).1.2.2)] := by
  obtain ⟨hc, hm, hk, hcL, hmL, hkL, hlL, hs0, hs1, hsk⟩ := hs
  have k1 := clT_fn f1 s.code hc0 (by omega)
  have k2 := clA_nil f2
  simp only [staF]
  have hmr : pRow s.mem = [] := by rw [hm0]; rfl
  rw [hmr]
  refine Fn.of (fn := Tryz.f188) (by kernel_rfl) rfl (by kernel_rfl) ⟨[.ptr 0 0 0, .agg [.v (.int .i64 s.v), .v (.int .i64 s.l), .sl f1 3 (tRow s.code), .sl f2 2 ([]), .sl f3 3 (sRow s.stack), .sl f4 2 (pRow s.out)], .v undef, .v undef, .v undef, .v undef, .v undef, .v undef, .v undef, .v undef, .v undef, .v undef, .v undef, .v undef, .v undef, .v undef, .v undef, .v undef, .v undef, .v undef, .v undef, .v undef, .v undef, .v undef, .v undef, .v undef, .v undef, .v undef, .v undef, .v undef, .v undef, .v undef, .v undef, .v undef, .v undef, .v undef, .v undef, .v undef, .v undef, .v undef, .v undef, .v undef, .v undef, .v undef, .v undef, .v undef, .v undef, .v undef, .v undef, .v undef, .v undef, .v undef, .v undef, .v undef, .v undef, .v undef, .v undef, .v undef, .v undef, .v undef, .v undef, .v undef, .v undef, .v undef, .v undef, .v undef, .v undef, .v undef, .v undef, .v undef, .v undef, .v undef, .v undef, .v undef, .v undef, .v undef, .v undef, .v undef, .v undef, .v undef, .v undef, .v undef, .v undef, .v undef, .v undef, .v undef, .v undef, .v undef, .v undef, .v undef, .v undef, .v undef, .v undef, .v undef, .v undef, .v undef, .v undef, .v undef, .v undef, .v undef, .v undef, .v undef, .v undef, .v undef, .v undef, .v undef, .v undef, .v undef, .v undef, .v undef], [.ent (mkV q d e)]⟩ rfl ?_
  simp only [mkV]
  repeat' first | (with_reducible refine holdB 0 ?_) | (with_reducible first | refine AWP_seq' ?_ | refine k_normal ?_) | ((first | with_reducible refine AWP_reg fun KC J hJ hKC => ?_ | with_reducible refine AWP_regD rfl fun KC J hJ hKC => ?_ | (refine hKC _ _ _ _ _ (callN [] k1 rfl rfl rfl (by simp) (fun _ h => by cases h) rfl rfl rfl Lq ?_)) | (refine hKC _ _ _ _ _ (callV0 (k2) rfl rfl rfl ?_ ?_); (· exact Lq))); simp (maxSteps := 9999999) only [push_cast, seval, ↓reduceIte, backOf, callSets, renSlot, pick, mOf, idx, ren, ren2, ren1, ren0, ren_tCells, ren_pCells, ren_sCells]) | ((first | with_reducible refine hJ _ _ ?_ | (with_reducible refine hJ _ _ ?_ ?_; · kernel_rfl)); clear hJ hKC KC J)
  obtain ⟨MC, hMC⟩ : ∃ m, mapF (vIP q) s.code (d, n0, e) = m := ⟨_, rfl⟩
  refine AWP_cutW 4 ⟨[.ptr 0 0 0, .any, .any, .ptr 1 0 0, .ptr 2 0 0, .any, .any, .any, .any, .any, .any, .any, .any, .any, .any, .any, .any, .any, .any, .any, .any, .any, .any, .any, .any, .any, .any, .any, .any, .any, .any, .any, .any, .any, .any, .any, .any, .any, .any, .any, .any, .any, .any, .any, .any, .any, .any, .any, .any, .any, .any, .any, .any, .any, .any, .any, .any, .any, .any, .any, .any, .any, .any, .any, .any, .any, .any, .any, .any, .any, .any, .any, .any, .any, .any, .any, .any, .any, .any, .any, .any, .any, .any, .any, .any, .any, .any, .any, .any, .any, .any, .any, .any, .any, .any, .any, .any, .any, .any, .any, .any, .any, .any, .any, .any, .any, .any, .any, .any, .any], [.ent (mkV q MC.1.1 MC.1.2.2), .ent ⟨0, none, 39, [.v (.int .i64 s.v), .v (.int .i64 s.l), .sl false 3 (tRow (MC.2)), .sl true 2 [], .sl f3 3 (sRow s.stack), .sl f4 2 (pRow s.out)], .cells⟩, .ent ⟨0, none, 39, [.v (.int .i64 0), .v (.int .i64 0), .v (.slice none 0 0), .v (.slice none 0 0), .v (.slice none 0 0), .v (.slice none 0 0)], .cells⟩, .dead]⟩ (by first | exact ⟨[_, _, _, _], 0, rfl, rfl⟩ | exact ⟨[_, _, _, _], 1, rfl, rfl⟩ | exact ⟨[_, _, _, _], 2, rfl, rfl⟩ | exact ⟨[_, _, _, _], 3, rfl, rfl⟩ | exact ⟨[_, _, _, _], 4, rfl, rfl⟩) ?_ ?_
  · skip
    repeat' first | (with_reducible refine AWP_block ?_)
    refine AWP_loopD 4 (γ := {i : Nat // i ≤ s.code.length}) (fun i => ⟨[.ptr 0 0 0, .any, .any, .ptr 1 0 0, .ptr 2 0 0, .any, .any, .any, .any, .any, .any, .any, .any, .any, .any, .any, .any, .any, .any, .any, .ref 3 0 s.code.length, .v (.int .i64 s.code.length), .v (.int .i64 i.1), .any, .any, .any, .any, .any, .any, .any, .any, .any, .any, .any, .any, .any, .any, .any, .any, .any, .any, .any, .any, .any, .any, .any, .any, .any, .any, .any, .any, .any, .any, .any, .any, .any, .any, .any, .any, .any, .any, .any, .any, .any, .any, .any, .any, .any, .any, .any, .any, .any, .any, .any, .any, .any, .any, .any, .any, .any, .any, .any, .any, .any, .any, .any, .any, .any, .any, .any, .any, .any, .any, .any, .any, .any, .any, .any, .any, .any, .any, .any, .any, .any, .any, .any, .any, .any, .any, .any], [.ent (mkV q (mapF (vIP q) (s.code.take i.1) (d, n0, e)).1.1 (mapF (vIP q) (s.code.take i.1) (d, n0, e)).1.2.2), .ent ⟨0, none, 39, [.v (.int .i64 s.v), .v (.int .i64 s.l), .ref 3 0 s.code.length, .sl true 2 [], .sl f3 3 (sRow s.stack), .sl f4 2 (pRow s.out)], .cells⟩, .ent ⟨0, none, 39, [.v (.int .i64 0), .v (.int .i64 0), .v (.slice none 0 0), .v (.slice none 0 0), .v (.slice none 0 0), .v (.slice none 0 0)], .cells⟩, .ent ⟨0, some 3, 100, tCells (mW (vIP q) s.code (d, n0, e) i.1), .cells⟩]⟩) (fun i => s.code.length - i.1) ⟨0, by omega⟩ (fun i => rfl) (fun i => ?_) (fun i => rfl) ⟨?_, ?_⟩ ?_
    · refine clsd_all ?_
      simp only [mkV, List.map_cons, List.map_nil, renSlot, ren_tCells, ren_pCells]
      rfl
    · exact Lq
    · simp only [mW_zero, List.take_zero, mkV]
      exact Fq
    rintro ⟨i, hi⟩
    dsimp only
    obtain ⟨n, hn⟩ : ∃ n, s.code.length = n := ⟨_, rfl⟩
    rw [hn] at hi ⊢
    have hwl : (tCells (mW (vIP q) s.code (d, n0, e) i)).length = n * 3 := by rw [tCells_length, mW_length, hn]
    by_cases hlt : (i : Int) < (n : Int)
    · have hx : s.code[i]? = some s.code[i] := List.getElem?_eq_getElem (by omega)
      obtain ⟨x, hxx⟩ : ∃ x, s.code[i] = x := ⟨_, rfl⟩
      rw [hxx] at hx
      have hxw := mW_get (f := vIP q) (m := (d, n0, e)) hx
      have hws := mW_succ (f := vIP q) (m := (d, n0, e)) hx
      have hms := mapF_take (vIP q) hx (d, n0, e)
      have hat := tCells_at hxw
      have hlab := hcL x (List.mem_of_getElem? hx)
      obtain ⟨⟨d1, n1, e1⟩, hM⟩ : ∃ m, (mapF (vIP q) (s.code.take i) (d, n0, e)).1 = m := ⟨_, rfl⟩
      rw [hM] at hws hms ⊢
      obtain ⟨o, v, a⟩ := x
      simp only at hat hlab
      have hwn := wrapN (i := i) (n := n) (by omega) (by omega)
      obtain ⟨W, hW⟩ : ∃ W, mW (vIP q) s.code (d, n0, e) i = W := ⟨_, rfl⟩
      rw [hW] at hxw hws hat hwl ⊢
      by_cases ho : o = 1
      · have ho' : (o == 1) = true := by simpa using ho
        have hh := vHidden_fn q hq d1 e1 a (hlab ho)
        obtain ⟨b, hb⟩ : ∃ b, hid q.us q.o a = b := ⟨_, rfl⟩
        rw [hb] at hh
        cases b
        case false =>
          have hv : vIP q (o, v, a) (d1, n1, e1) = ((d1, n1, e1), (o, v, a)) := by unfold vIP; rw [if_neg (by rw [hb]; simp)]
          rw [hv] at hws hms
          have hsm : W.set i (o, v, a) = W := by
            obtain ⟨h1, h2⟩ := List.getElem?_eq_some_iff.1 hxw
            rw [← h2]; exact List.set_getElem_self h1
          rw [hsm] at hws
          simp only [mkV] at hh ⊢
          repeat' first | (with_reducible first | refine AWP_seq' ?_ | refine k_normal ?_ | refine b_normal ?_ | refine AWP_skip ?_ | refine AWP_block ?_) | ((with_reducible refine And.intro ?_ ?_); · exact Sq) | ((first | with_reducible refine AWP_reg fun KC J hJ hKC => ?_ | (refine hKC _ _ _ _ _ (callK [0] hh rfl rfl rfl (by decide) (by simp) rfl rfl Lq ?_))); simp (maxSteps := 9999999) only [push_cast, seval, ↓reduceIte, hlt, hat, hwl, hwn, ho', undef, backOf, callSets, renSlot, pick, mOf, idx, ren, ren2, ren1, ren0, ren_tCells, ren_pCells, ren_sCells]) | ((with_reducible refine hJ _ _ ?_); clear hJ hKC KC J) | ((with_reducible refine AWP_condT ?_ ?_); · rfl) | ((with_reducible refine AWP_condF ?_ ?_); · rfl)
          refine ⟨⟨i + 1, by omega⟩, by simp only; omega, ?_, ?_⟩
          · exact Lq
          · simp only [hms, hws, mkV]; exact ⟨_, rfl⟩
        case true =>
          have hval := vNumber_fn q d1 n1 e1
          obtain ⟨⟨d2, n2, e2⟩, hM2⟩ : ∃ m, numberP (d1, n1, e1) q.sp.val = m := ⟨_, rfl⟩
          rw [hM2] at hval
          have hv : vIP q (o, v, a) (d1, n1, e1) = ((d2, n2, e2), (o, n2, a)) := by unfold vIP; rw [if_pos ⟨ho, hb⟩]; simp only [hM2]
          rw [hv] at hws hms
          have hset := tC_set1 n2 hxw
          rw [← hws] at hset
          obtain ⟨W', hW'⟩ : ∃ W', mW (vIP q) s.code (d, n0, e) (i + 1) = W' := ⟨_, rfl⟩
          rw [hW'] at hset
          simp only [mkV] at hh hval ⊢
          repeat' first | (with_reducible first | refine AWP_seq' ?_ | refine k_normal ?_ | refine b_normal ?_ | refine AWP_skip ?_ | refine AWP_block ?_) | ((with_reducible refine And.intro ?_ ?_); · exact Sq) | ((first | with_reducible refine AWP_reg fun KC J hJ hKC => ?_ | with_reducible refine AWP_regD rfl fun KC J hJ hKC => ?_ | (refine hKC _ _ _ _ _ (callK [0] hh rfl rfl rfl (by decide) (by simp) rfl rfl Lq ?_)) | (refine hKC _ _ _ _ _ (callK [0] hval rfl rfl rfl (by decide) (by simp) rfl rfl Lq ?_))); simp (maxSteps := 9999999) only [push_cast, seval, ↓reduceIte, hlt, hat, hwl, hset, hwn, Nat.add_zero, ho', undef, backOf, callSets, renSlot, pick, mOf, idx, ren, ren2, ren1, ren0, ren_tCells, ren_pCells, ren_sCells]) | ((first | with_reducible refine hJ _ _ ?_ | (with_reducible refine hJ _ _ ?_ ?_; · kernel_rfl)); clear hJ hKC KC J) | ((with_reducible refine AWP_condT ?_ ?_); · rfl)
          refine ⟨⟨i + 1, by omega⟩, by simp only; omega, ?_, ?_⟩
          · exact Lq
          · simp only [hms, hW', mkV]; exact ⟨_, rfl⟩
      · have ho' : (o == 1) = false := by simpa using ho
        have hv : vIP q (o, v, a) (d1, n1, e1) = ((d1, n1, e1), (o, v, a)) := by unfold vIP; rw [if_neg (fun h => ho h.1)]
        rw [hv] at hws hms
        have hsm : W.set i (o, v, a) = W := by
          obtain ⟨h1, h2⟩ := List.getElem?_eq_some_iff.1 hxw
          rw [← h2]; exact List.set_getElem_self h1
        rw [hsm] at hws
        simp only [mkV]
        repeat' first | (with_reducible first | refine AWP_seq' ?_ | refine k_normal ?_ | refine b_normal ?_ | refine AWP_skip ?_ | refine AWP_block ?_) | ((with_reducible refine And.intro ?_ ?_); · exact Sq) | ((with_reducible refine AWP_reg fun KC J hJ hKC => ?_); simp (maxSteps := 9999999) only [push_cast, seval, ↓reduceIte, hlt, hat, hwl, hwn, ho', undef, backOf, callSets, renSlot, pick, mOf, idx, ren, ren2, ren1, ren0, ren_tCells, ren_pCells, ren_sCells]) | ((with_reducible refine hJ _ _ ?_); clear hJ hKC KC J) | ((with_reducible refine AWP_condT ?_ ?_); · rfl) | ((with_reducible refine AWP_condF ?_ ?_); · rfl)
        refine ⟨⟨i + 1, by omega⟩, by simp only; omega, ?_, ?_⟩
        · exact Lq
        · simp only [hms, hws, mkV]; exact ⟨_, rfl⟩
    · have hin : i = n := by omega
      subst hin
      have hend := mW_end (f := vIP q) (m := (d, n0, e)) hn
      have htk : s.code.take i = s.code := by rw [← hn]; exact List.take_length
      rw [hend, hMC] at hwl
      rw [hend, htk, hMC]
      obtain ⟨W, hW⟩ : ∃ W, MC.2 = W := ⟨_, rfl⟩
      rw [hW] at hwl ⊢
      have hWl : W.length = i := by have := tCells_length W; omega
      have hcp : chunk 3 i (tCells W) = tRow W := by rw [← hWl]; exact chunk_t W
      simp only [mkV]
      repeat' first | (refine AWP_freezeR 3 3 rfl (by (simp (maxSteps := 9999999) only [push_cast, seval, ↓reduceIte]) <;> rfl) ?_; simp (maxSteps := 9999999) only [push_cast, seval, ↓reduceIte, frSt, frSlot, fr3, fr2, fr1, fr0, sameB, arrOf, hlt, hwl, hcp]) | (with_reducible first | refine AWP_seq' ?_ | refine k_normal ?_ | refine k_exit ?_ | refine b_exit ?_ | refine AWP_exit ?_) | ((with_reducible refine AWP_reg fun KC J hJ hKC => ?_); simp (maxSteps := 9999999) only [push_cast, seval, ↓reduceIte, hlt, hwl, hcp]) | ((with_reducible refine hJ _ _ ?_); clear hJ hKC KC J) | ((with_reducible refine AWP_condF ?_ ?_); · rfl)
      refine .inl ⟨rfl, [0, 1, 2, 3], by decide, by decide, ?_, ?_⟩
      · exact Lq
      · simp only [pick, List.map_cons, List.map_nil, getS, renSlot, ren_pCells, ren_tCells, mOf, idx]
        exact LSv
  repeat' first | (with_reducible refine holdB 2 ?_) | (with_reducible first | refine AWP_seq' ?_ | refine k_normal ?_) | ((with_reducible refine AWP_reg fun KC J hJ hKC => ?_); simp (maxSteps := 9999999) only [push_cast, seval, ↓reduceIte]) | ((with_reducible refine hJ _ _ ?_); clear hJ hKC KC J)
  obtain ⟨MM, hMM⟩ : ∃ m, mapF (vAP q) s.mem MC.1 = m := ⟨_, rfl⟩
  refine AWP_cutW 4 ⟨[.ptr 0 0 0, .any, .any, .ptr 1 0 0, .ptr 2 0 0, .any, .any, .any, .any, .any, .any, .any, .any, .any, .any, .any, .any, .any, .any, .any, .any, .any, .any, .any, .any, .any, .any, .any, .any, .any, .any, .any, .any, .any, .any, .any, .any, .any, .any, .any, .any, .any, .any, .any, .any, .any, .any, .any, .any, .any, .any, .any, .any, .any, .any, .any, .any, .any, .any, .any, .any, .any, .any, .any, .any, .any, .any, .any, .any, .any, .any, .any, .any, .any, .any, .any, .any, .any, .any, .any, .any, .any, .any, .any, .any, .any, .any, .any, .any, .any, .any, .any, .any, .any, .any, .any, .any, .any, .any, .any, .any, .any, .any, .any, .any, .any, .any, .any, .any, .any], [.ent (mkV q MM.1.1 MM.1.2.2), .ent ⟨0, none, 39, [.v (.int .i64 s.v), .v (.int .i64 s.l), .sl false 3 (tRow (MC.2)), .sl true 2 [], .sl f3 3 (sRow s.stack), .sl f4 2 (pRow s.out)], .cells⟩, .ent ⟨0, none, 39, [.v (.int .i64 0), .v (.int .i64 0), .v (.slice none 0 0), .v (.slice none 0 0), .v (.slice none 0 0), .v (.slice none 0 0)], .cells⟩, .dead]⟩ (by first | exact ⟨[_, _, _, _], 0, rfl, rfl⟩ | exact ⟨[_, _, _, _], 1, rfl, rfl⟩ | exact ⟨[_, _, _, _], 2, rfl, rfl⟩ | exact ⟨[_, _, _, _], 3, rfl, rfl⟩ | exact ⟨[_, _, _, _], 4, rfl, rfl⟩) ?_ ?_
  · skip
    repeat' first | (with_reducible refine AWP_block ?_)
    refine AWP_loopD 4 (γ := Unit) (fun _ => ⟨[.ptr 0 0 0, .any, .any, .ptr 1 0 0, .ptr 2 0 0, .any, .any, .any, .any, .any, .any, .any, .any, .any, .any, .any, .any, .any, .any, .any, .any, .any, .any, .any, .any, .any, .any, .any, .any, .any, .any, .any, .any, .any, .any, .any, .any, .any, .any, .any, .any, .any, .any, .any, .any, .sl true 2 [], .v (.int .i64 0), .v (.int .i64 0), .any, .any, .any, .any, .any, .any, .any, .any, .any, .any, .any, .any, .any, .any, .any, .any, .any, .any, .any, .any, .any, .any, .any, .any, .any, .any, .any, .any, .any, .any, .any, .any, .any, .any, .any, .any, .any, .any, .any, .any, .any, .any, .any, .any, .any, .any, .any, .any, .any, .any, .any, .any, .any, .any, .any, .any, .any, .any, .any, .any, .any, .any], [.ent (mkV q MC.1.1 MC.1.2.2), .ent ⟨0, none, 39, [.v (.int .i64 s.v), .v (.int .i64 s.l), .sl false 3 (tRow (MC.2)), .sl true 2 [], .sl f3 3 (sRow s.stack), .sl f4 2 (pRow s.out)], .cells⟩, .ent ⟨0, none, 39, [.v (.int .i64 0), .v (.int .i64 0), .v (.slice none 0 0), .v (.slice none 0 0), .v (.slice none 0 0), .v (.slice none 0 0)], .cells⟩, .dead]⟩) (fun _ => 0) () (fun k => rfl) (fun k => ?_) (fun k => rfl) ⟨?_, ?_⟩ ?_
    · refine clsd_all ?_
      simp only [mkV, List.map_cons, List.map_nil, renSlot]
      rfl
    · exact Lq
    · simp only [mkV]
      exact Fq
    intro _
    simp only [mkV]
    repeat' first | (with_reducible first | refine AWP_seq' ?_ | refine k_normal ?_ | refine k_exit ?_ | refine b_exit ?_ | refine AWP_exit ?_) | ((with_reducible refine AWP_reg fun KC J hJ hKC => ?_); simp (maxSteps := 9999999) only [push_cast, seval, ↓reduceIte]) | ((with_reducible refine hJ _ _ ?_); clear hJ hKC KC J) | ((with_reducible refine AWP_condF ?_ ?_); · rfl)
    rw [hm0] at hMM
    subst hMM
    refine .inl ⟨rfl, [0, 1, 2, 3], by decide, by decide, ?_, ?_⟩
    · exact Lq
    · simp only [mapF, List.foldl_nil, pick, List.map_cons, List.map_nil, getS, renSlot, mOf, idx]
      exact LSv
  have hMe : pRow MM.2 = [] := by rw [← hMM, hm0]; rfl
  obtain ⟨⟨d2, n2, e2⟩, hM2⟩ : ∃ m, MM.1 = m := ⟨_, rfl⟩
  rw [hM2]
  have g1 := vHidden_fn q hq d2 e2 s.l hlL
  by_cases hh : hid q.us q.o s.l = true
  · rw [hh] at g1
    have hst : stateP q s (d, n0, e) = (let k := mapF (vSP q) (cropS q.us q.o s.stack) (d2, n2, e2)
        let t := moreP q k.2 k.1
        let v := belowP t.1 13
        let n := belowP v (unseenL q.us q.o).length
        (n, ⟨v.2.1, (unseenL q.us q.o).getD n.2.1.toNat 0, MC.2, MM.2, t.2, s.out⟩)) := by
      unfold stateP; simp only [hMC, hMM, hM2]; rw [if_pos hh]
    have hfl : ((!hid q.us q.o s.l) && decide (s.stack = [])) = false := by rw [hh]; rfl
    rw [hst, hfl]
    clear hst
    have hcrop := apiCrop_fn q.f q.g f3 q.ns q.us (q.o : Int) s.stack hq.szs hq.u32 (by omega)
    rw [may1S_zero hq.chk hkL (oddL_iff.2 ⟨by omega, by have := hq.lab; omega⟩), cropM_eq hq.chk hkL (oddL_iff.2 ⟨by omega, by have := hq.lab; omega⟩)] at hcrop
    have hcrL : ∀ x ∈ cropS q.us q.o s.stack, oddL q.us.length x.2.2 = false := fun x hx => hkL x (List.mem_of_mem_take hx)
    have hcrl : (cropS q.us q.o s.stack).length ≤ s.stack.length := by unfold cropS; rw [List.length_take]; omega
    obtain ⟨CR, hCR⟩ : ∃ r, cropS q.us q.o s.stack = r := ⟨_, rfl⟩
    rw [hCR] at hcrop hcrL hcrl ⊢
    have hKl := mapF_length (vSP q) (d2, n2, e2) CR
    have hne : unseenL q.us q.o ≠ [] := fun h => by have := unseen_mem.2 ⟨hlL, hh⟩; rw [h] at this; cases this
    rcases Nat.eq_zero_or_pos CR.length with h0 | h0
    · have hC0 : CR = [] := List.length_eq_zero_iff.1 h0
      subst hC0
      have g2 := vSlots0_fn q d2 e2 false
      have g3 := vMore_fn q hq hul d2 n2 e2 [] (by simp) hs0 hs1 (by simpa using hs0) none (fun _ => rfl)
      simp only [mapF, List.foldl_nil] at g3 ⊢
      obtain ⟨⟨⟨d3, n3, e3⟩, T⟩, hT⟩ : ∃ r, moreP q [] (d2, n2, e2) = r := ⟨_, rfl⟩
      rw [hT] at g3
      simp only [hT]
      have g4 := vPlace_fn q d3 n3 e3
      obtain ⟨⟨d4, n4, e4⟩, hP⟩ : ∃ m, belowP (d3, n3, e3) 13 = m := ⟨_, rfl⟩
      simp only [hP] at g4 ⊢
      have g5 := vUnseen_fn q hq hul d4 n4 e4 hne
      obtain ⟨⟨d5, n5, e5⟩, hU⟩ : ∃ m, belowP (d4, n4, e4) (unseenL q.us q.o).length = m := ⟨_, rfl⟩
      simp only [hU] at g5 ⊢
      obtain ⟨lb, hlb⟩ : ∃ l, (unseenL q.us q.o).getD n5.toNat 0 = l := ⟨_, rfl⟩
      rw [hlb] at g5
      simp only [hlb]
      simp only [mkV, yE, yσ, yO, show sRow [] = [] from rfl, show sCells [] = [] from rfl, List.length_nil] at g1 g2 g3 g4 g5 ⊢
      repeat' first | (with_reducible first | refine AWP_seq' ?_ | refine k_normal ?_ | refine AWP_ret ?_ | refine AWP_skip ?_) | ((first | with_reducible refine AWP_reg fun KC J hJ hKC => ?_ | with_reducible refine AWP_regD rfl fun KC J hJ hKC => ?_ | (refine hKC _ _ _ _ _ (callK [0] g1 rfl rfl rfl (by decide) (by simp) rfl rfl Lq ?_)) | (refine hKC _ _ _ _ _ (callK [0] g2 rfl rfl rfl (by decide) (by simp) rfl rfl Lq ?_)) | (refine hKC _ _ _ _ _ (callK [0] g3 rfl rfl rfl (by decide) (by simp) rfl rfl Lq ?_)) | (refine hKC _ _ _ _ _ (callK [0] g4 rfl rfl rfl (by decide) (by simp) rfl rfl Lq ?_)) | (refine hKC _ _ _ _ _ (callK [0] g5 rfl rfl rfl (by decide) (by simp) rfl rfl Lq ?_)) | (refine hKC _ _ _ _ _ (callV0 (hcrop) rfl rfl rfl ?_ ?_); (· exact Lq))); simp (maxSteps := 9999999) only [push_cast, seval, ↓reduceIte, backOf, callSets, renSlot, pick, mOf, idx, ren, ren2, ren1, ren0, ren_tCells, ren_pCells, ren_sCells]) | ((first | with_reducible refine hJ _ _ ?_ | (with_reducible refine hJ _ _ ?_ ?_; · kernel_rfl)); clear hJ hKC KC J) | ((with_reducible refine AWP_condF ?_ ?_); · rfl)
      refine ret_keys ?_
      simp (maxSteps := 9999999) only [push_cast, seval, ↓reduceIte, show Tryz.f188.results = #[(.cell 4 39)] from rfl]
      exact ⟨rfl, by simp only [vOutD, hMe]; exact leD_refl _⟩
    · have g2 := vSlots_fn q hq d2 n2 e2 false CR h0 (by omega) hcrL
      obtain ⟨⟨⟨d6, n6, e6⟩, KS⟩, hKS⟩ : ∃ r, mapF (vSP q) CR (d2, n2, e2) = r := ⟨_, rfl⟩
      rw [hKS] at g2 hKl
      simp only at g2 hKl
      have g3 := vMore_fn q hq hul d6 n6 e6 KS (by omega) hs0 hs1 (by omega) (some 0) (fun h => by cases h)
      rw [hKl] at g3
      simp only [hKS] at g3 ⊢
      obtain ⟨m, hm'⟩ : ∃ m, CR.length = m := ⟨_, rfl⟩
      rw [hm'] at g2 g3
      obtain ⟨⟨⟨d3, n3, e3⟩, T⟩, hT⟩ : ∃ r, moreP q KS (d6, n6, e6) = r := ⟨_, rfl⟩
      rw [hT] at g3
      simp only [hT]
      have g4 := vPlace_fn q d3 n3 e3
      obtain ⟨⟨d4, n4, e4⟩, hP⟩ : ∃ m, belowP (d3, n3, e3) 13 = m := ⟨_, rfl⟩
      simp only [hP] at g4 ⊢
      have g5 := vUnseen_fn q hq hul d4 n4 e4 hne
      obtain ⟨⟨d5, n5, e5⟩, hU⟩ : ∃ m, belowP (d4, n4, e4) (unseenL q.us q.o).length = m := ⟨_, rfl⟩
      simp only [hU] at g5 ⊢
      obtain ⟨lb, hlb⟩ : ∃ l, (unseenL q.us q.o).getD n5.toNat 0 = l := ⟨_, rfl⟩
      rw [hlb] at g5
      simp only [hlb]
      simp only [mkV, yE, yσ, yO, show sRow [] = [] from rfl, show sCells [] = [] from rfl, List.length_nil] at g1 g2 g3 g4 g5 ⊢
      repeat' first | (with_reducible first | refine AWP_seq' ?_ | refine k_normal ?_ | refine AWP_ret ?_ | refine AWP_skip ?_) | ((first | with_reducible refine AWP_reg fun KC J hJ hKC => ?_ | with_reducible refine AWP_regD rfl fun KC J hJ hKC => ?_ | (refine hKC _ _ _ _ _ (callK [0] g1 rfl rfl rfl (by decide) (by simp) rfl rfl Lq ?_)) | (refine hKC _ _ _ _ _ (callN [0] g2 rfl rfl rfl (by decide) (by simp) rfl rfl rfl Lq ?_)) | (refine hKC _ _ _ _ _ (callK [0, 6] g3 rfl rfl rfl (by decide) (by simp) rfl (by simp only [pick, List.map_cons, List.map_nil, getS, renSlot, ren_sCells, mOf, idx]; rfl) Lq ?_)) | (refine hKC _ _ _ _ _ (callK [0] g4 rfl rfl rfl (by decide) (by simp) rfl rfl Lq ?_)) | (refine hKC _ _ _ _ _ (callK [0] g5 rfl rfl rfl (by decide) (by simp) rfl rfl Lq ?_)) | (refine hKC _ _ _ _ _ (callV0 (hcrop) rfl rfl rfl ?_ ?_); (· exact Lq))); simp (maxSteps := 9999999) only [push_cast, seval, ↓reduceIte, backOf, callSets, renSlot, pick, mOf, idx, ren, ren2, ren1, ren0, ren_tCells, ren_pCells, ren_sCells]) | ((first | with_reducible refine hJ _ _ ?_ | (with_reducible refine hJ _ _ ?_ ?_; · kernel_rfl)); clear hJ hKC KC J) | ((with_reducible refine AWP_condF ?_ ?_); · rfl)
      refine ret_keys ?_
      simp (maxSteps := 9999999) only [push_cast, seval, ↓reduceIte, show Tryz.f188.results = #[(.cell 4 39)] from rfl]
      exact ⟨rfl, by simp only [vOutD, hMe]; exact leD_refl _⟩
  · have hh' : hid q.us q.o s.l = false := by simpa using hh
    rw [hh'] at g1
    have hst : stateP q s (d, n0, e) = ((mapF (vSP q) s.stack (d2, n2, e2)).1, ⟨s.v, s.l, MC.2, MM.2, (mapF (vSP q) s.stack (d2, n2, e2)).2, s.out⟩) := by
      unfold stateP; simp only [hMC, hMM, hM2]; rw [if_neg hh]
    rw [hst]
    clear hst
    rcases Nat.eq_zero_or_pos s.stack.length with h0 | h0
    · have hC0 : s.stack = [] := List.length_eq_zero_iff.1 h0
      have hfl : ((!hid q.us q.o s.l) && decide (s.stack = [])) = true := by rw [hh', hC0]; rfl
      rw [hfl, hC0]
      have g2 := vSlots0_fn q d2 e2 f3
      simp only [mapF, List.foldl_nil, mkV, show sRow [] = [] from rfl] at g1 g2 ⊢
      repeat' first | (with_reducible first | refine AWP_seq' ?_ | refine k_normal ?_ | refine k_ret ?_ | refine AWP_ret ?_) | ((first | with_reducible refine AWP_reg fun KC J hJ hKC => ?_ | (refine hKC _ _ _ _ _ (callK [0] g1 rfl rfl rfl (by decide) (by simp) rfl rfl Lq ?_)) | (refine hKC _ _ _ _ _ (callK [0] g2 rfl rfl rfl (by decide) (by simp) rfl rfl Lq ?_))); simp (maxSteps := 9999999) only [push_cast, seval, ↓reduceIte, backOf, callSets, renSlot, pick, mOf, idx, ren, ren2, ren1, ren0, ren_tCells, ren_pCells, ren_sCells]) | ((with_reducible refine hJ _ _ ?_); clear hJ hKC KC J) | ((with_reducible refine AWP_condT ?_ ?_); · rfl)
      refine ret_keys ?_
      simp (maxSteps := 9999999) only [push_cast, seval, ↓reduceIte, show Tryz.f188.results = #[(.cell 4 39)] from rfl]
      exact ⟨rfl, by simp only [vOutD, hMe]; exact leD_refl _⟩
    · have hfl : ((!hid q.us q.o s.l) && decide (s.stack = [])) = false := by
        rw [hh', decide_eq_false (fun h => by rw [h] at h0; cases h0)]; rfl
      rw [hfl]
      have g2 := vSlots_fn q hq d2 n2 e2 f3 s.stack h0 (by omega) hkL
      have hKl := mapF_length (vSP q) (d2, n2, e2) s.stack
      obtain ⟨⟨⟨d6, n6, e6⟩, KS⟩, hKS⟩ : ∃ r, mapF (vSP q) s.stack (d2, n2, e2) = r := ⟨_, rfl⟩
      rw [hKS] at g2 hKl
      simp only [hKS] at g2 hKl ⊢
      have hlC : (sCells KS).length = s.stack.length * 3 := by rw [sCells_length, hKl]
      have hcp : chunk 3 s.stack.length (sCells KS) = sRow KS := by rw [← hKl]; exact chunk_s KS
      simp only [mkV] at g1 g2 ⊢
      repeat' first | (refine AWP_freezeR 16 5 rfl (by (simp (maxSteps := 9999999) only [push_cast, seval, ↓reduceIte]) <;> rfl) ?_; simp (maxSteps := 9999999) only [push_cast, seval, ↓reduceIte, frSt, frSlot, fr3, fr2, fr1, fr0, sameB, arrOf, hlC, hcp, backOf, callSets, renSlot, pick, mOf, idx, ren, ren2, ren1, ren0, ren_tCells, ren_pCells, ren_sCells]) | (with_reducible first | refine AWP_seq' ?_ | refine k_normal ?_ | refine k_ret ?_ | refine AWP_ret ?_) | ((first | with_reducible refine AWP_reg fun KC J hJ hKC => ?_ | (refine hKC _ _ _ _ _ (callK [0] g1 rfl rfl rfl (by decide) (by simp) rfl rfl Lq ?_)) | (refine hKC _ _ _ _ _ (callN [0] g2 rfl rfl rfl (by decide) (by simp) rfl rfl rfl Lq ?_))); simp (maxSteps := 9999999) only [push_cast, seval, ↓reduceIte, hlC, hcp, backOf, callSets, renSlot, pick, mOf, idx, ren, ren2, ren1, ren0, ren_tCells, ren_pCells, ren_sCells]) | ((with_reducible refine hJ _ _ ?_); clear hJ hKC KC J) | ((with_reducible refine AWP_condT ?_ ?_); · rfl)
      refine ret_keys ?_
      simp (maxSteps := 9999999) only [push_cast, seval, ↓reduceIte, show Tryz.f188.results = #[(.cell 4 39)] from rfl]
      exact ⟨rfl, by simp only [vOutD, hMe]; exact leD_refl _⟩
end Go.Proofs.YtabliglgeiajlaaGreat.AM

namespace Go.Proofs.YtabliglgeiajlaaGreat.AM
open Go Go.RowKit Go.Proofs
set_option maxRecDepth 100000
set_option maxHeartbeats 4000000
theorem vState01_fn (q : VQ) (hq : VOk q) (hul : q.us.length ≤ 8) (d : Dr) (n0 e : Int) (f1 f2 f3 f4 : Bool) (s : Sta) (hs : VIn q s) (hc0 : s.code = []) (hm0 : 0 < s.mem.length) :
    Fn Tryz.prog 188 [.ptr 0 0 0, .agg (staF f1 f2 f3 f4 s)] [.ent (mkV q d e)] (vOutD true false ((!hid q.us q.o s.l) && decide (s.stack = [])) f4 (stateP q s (d, n0, e)).2) [.ent (mkV q (stateP q s (d, n0, e)).1.1 (stateP q s (d, n0, e)).1.2.2)] := by
  obtain ⟨hc, hm, hk, hcL, hmL, hkL, hlL, hs0, hs1, hsk⟩ := hs
  have k1 := clT_nil f1
  have k2 := clA_fn f2 s.mem hm0 (by omega)
  simp only [staF]
  have hcr : tRow s.code = [] := by rw [hc0]; rfl
  have hcl0 : s.code.length = 0 := by rw [hc0]; rfl
  rw [hcr]
  refine Fn.of (fn := Tryz.f188) (by kernel_rfl) rfl (by kernel_rfl) ⟨[.ptr 0 0 0, .agg [.v (.int .i64 s.v), .v (.int .i64 s.l), .sl f1 3 ([]), .sl f2 2 (pRow s.mem), .sl f3 3 (sRow s.stack), .sl f4 2 (pRow s.out)], .v undef, .v undef, .v undef, .v undef, .v undef, .v undef, .v undef, .v undef, .v undef, .v undef, .v undef, .v undef, .v undef, .v undef, .v undef, .v undef, .v undef, .v undef, .v undef, .v undef, .v undef, .v undef, .v undef, .v undef, .v undef, .v undef, .v undef, .v undef, .v undef, .v undef, .v undef, .v undef, .v undef, .v undef, .v undef, .v undef, .v undef, .v undef, .v undef, .v undef, .v undef, .v undef, .v undef, .v undef, .v undef, .v undef, .v undef, .v undef, .v undef, .v undef, .v undef, .v undef, .v undef, .v undef, .v undef, .v undef, .v undef, .v undef, .v undef, .v undef, .v undef, .v undef, .v undef, .v undef, .v undef, .v undef, .v undef, .v undef, .v undef, .v undef, .v undef, .v undef, .v undef, .v undef, .v undef, .v undef, .v undef, .v undef, .v undef, .v undef, .v undef, .v undef, .v undef, .v undef, .v undef, .v undef, .v undef, .v undef, .v undef, .v undef, .v undef, .v undef, .v undef, .v undef, .v undef, .v undef, .v undef, .v undef, .v undef, .v undef, .v undef, .v undef, .v undef, .v undef, .v undef, .v undef, .v undef, .v undef], [.ent (mkV q d e)]⟩ rfl ?_
  simp only [mkV]
  repeat' first | (with_reducible refine holdB 0 ?_) | (with_reducible first | refine AWP_seq' ?_ | refine k_normal ?_) | ((first | with_reducible refine AWP_reg fun KC J hJ hKC => ?_ | with_reducible refine AWP_regD rfl fun KC J hJ hKC => ?_ | (refine hKC _ _ _ _ _ (callN [] k2 rfl rfl rfl (by simp) (fun _ h => by cases h) rfl rfl rfl Lq ?_)) | (refine hKC _ _ _ _ _ (callV0 (k1) rfl rfl rfl ?_ ?_); (· exact Lq))); simp (maxSteps := 9999999) only [push_cast, seval, ↓reduceIte, backOf, callSets, renSlot, pick, mOf, idx, ren, ren2, ren1, ren0, ren_tCells, ren_pCells, ren_sCells]) | ((first | with_reducible refine hJ _ _ ?_ | (with_reducible refine hJ _ _ ?_ ?_; · kernel_rfl)); clear hJ hKC KC J)
  obtain ⟨MC, hMC⟩ : ∃ m, mapF (vIP q) s.code (d, n0, e) = m := ⟨_, rfl⟩
  refine AWP_cutW 5 ⟨[.ptr 0 0 0, .any, .any, .ptr 1 0 0, .ptr 2 0 0, .any, .any, .any, .any, .any, .any, .any, .any, .any, .any, .any, .any, .any, .any, .any, .any, .any, .any, .any, .any, .any, .any, .any, .any, .any, .any, .any, .any, .any, .any, .any, .any, .any, .any, .any, .any, .any, .any, .any, .any, .any, .any, .any, .any, .any, .any, .any, .any, .any, .any, .any, .any, .any, .any, .any, .any, .any, .any, .any, .any, .any, .any, .any, .any, .any, .any, .any, .any, .any, .any, .any, .any, .any, .any, .any, .any, .any, .any, .any, .any, .any, .any, .any, .any, .any, .any, .any, .any, .any, .any, .any, .any, .any, .any, .any, .any, .any, .any, .any, .any, .any, .any, .any, .any, .any], [.ent (mkV q MC.1.1 MC.1.2.2), .ent ⟨0, none, 39, [.v (.int .i64 s.v), .v (.int .i64 s.l), .sl true 3 [], .ref 4 0 s.mem.length, .sl f3 3 (sRow s.stack), .sl f4 2 (pRow s.out)], .cells⟩, .ent ⟨0, none, 39, [.v (.int .i64 0), .v (.int .i64 0), .v (.slice none 0 0), .v (.slice none 0 0), .v (.slice none 0 0), .v (.slice none 0 0)], .cells⟩, .dead, .ent ⟨0, some 2, 34, pCells (s.mem), .cells⟩]⟩ (by first | exact ⟨[_, _, _, _, _], 0, rfl, rfl⟩ | exact ⟨[_, _, _, _, _], 1, rfl, rfl⟩ | exact ⟨[_, _, _, _, _], 2, rfl, rfl⟩ | exact ⟨[_, _, _, _, _], 3, rfl, rfl⟩ | exact ⟨[_, _, _, _, _], 4, rfl, rfl⟩) ?_ ?_
  · skip
    repeat' first | (with_reducible refine AWP_block ?_)
    refine AWP_loopD 5 (γ := Unit) (fun _ => ⟨[.ptr 0 0 0, .any, .any, .ptr 1 0 0, .ptr 2 0 0, .any, .any, .any, .any, .any, .any, .any, .any, .any, .any, .any, .any, .any, .any, .any, .sl true 3 [], .v (.int .i64 0), .v (.int .i64 0), .any, .any, .any, .any, .any, .any, .any, .any, .any, .any, .any, .any, .any, .any, .any, .any, .any, .any, .any, .any, .any, .any, .any, .any, .any, .any, .any, .any, .any, .any, .any, .any, .any, .any, .any, .any, .any, .any, .any, .any, .any, .any, .any, .any, .any, .any, .any, .any, .any, .any, .any, .any, .any, .any, .any, .any, .any, .any, .any, .any, .any, .any, .any, .any, .any, .any, .any, .any, .any, .any, .any, .any, .any, .any, .any, .any, .any, .any, .any, .any, .any, .any, .any, .any, .any, .any, .any], [.ent (mkV q (d, n0, e).1 (d, n0, e).2.2), .ent ⟨0, none, 39, [.v (.int .i64 s.v), .v (.int .i64 s.l), .sl true 3 [], .ref 4 0 s.mem.length, .sl f3 3 (sRow s.stack), .sl f4 2 (pRow s.out)], .cells⟩, .ent ⟨0, none, 39, [.v (.int .i64 0), .v (.int .i64 0), .v (.slice none 0 0), .v (.slice none 0 0), .v (.slice none 0 0), .v (.slice none 0 0)], .cells⟩, .free, .ent ⟨0, some 2, 34, pCells (s.mem), .cells⟩]⟩) (fun _ => 0) () (fun k => rfl) (fun k => ?_) (fun k => rfl) ⟨?_, ?_⟩ ?_
    · refine clsd_all ?_
      simp only [mkV, List.map_cons, List.map_nil, renSlot, ren_pCells]
      rfl
    · exact Lq
    · simp only [mkV]
      exact Fq
    intro _
    simp only [mkV]
    repeat' first | (with_reducible first | refine AWP_seq' ?_ | refine k_normal ?_ | refine k_exit ?_ | refine b_exit ?_ | refine AWP_exit ?_) | ((with_reducible refine AWP_reg fun KC J hJ hKC => ?_); simp (maxSteps := 9999999) only [push_cast, seval, ↓reduceIte]) | ((with_reducible refine hJ _ _ ?_); clear hJ hKC KC J) | ((with_reducible refine AWP_condF ?_ ?_); · rfl)
    rw [hc0] at hMC
    subst hMC
    refine .inl ⟨rfl, [0, 1, 2, 3, 4], by decide, by decide, ?_, ?_⟩
    · exact Lq
    · simp only [mapF, List.foldl_nil, pick, List.map_cons, List.map_nil, getS, renSlot, ren_pCells, mOf, idx]
      exact LSv
  repeat' first | (with_reducible refine holdB 2 ?_) | (with_reducible first | refine AWP_seq' ?_ | refine k_normal ?_) | ((with_reducible refine AWP_reg fun KC J hJ hKC => ?_); simp (maxSteps := 9999999) only [push_cast, seval, ↓reduceIte]) | ((with_reducible refine hJ _ _ ?_); clear hJ hKC KC J)
  obtain ⟨MM, hMM⟩ : ∃ m, mapF (vAP q) s.mem MC.1 = m := ⟨_, rfl⟩
  refine AWP_cutW 5 ⟨[.ptr 0 0 0, .any, .any, .ptr 1 0 0, .ptr 2 0 0, .any, .any, .any, .any, .any, .any, .any, .any, .any, .any, .any, .any, .any, .any, .any, .any, .any, .any, .any, .any, .any, .any, .any, .any, .any, .any, .any, .any, .any, .any, .any, .any, .any, .any, .any, .any, .any, .any, .any, .any, .any, .any, .any, .any, .any, .any, .any, .any, .any, .any, .any, .any, .any, .any, .any, .any, .any, .any, .any, .any, .any, .any, .any, .any, .any, .any, .any, .any, .any, .any, .any, .any, .any, .any, .any, .any, .any, .any, .any, .any, .any, .any, .any, .any, .any, .any, .any, .any, .any, .any, .any, .any, .any, .any, .any, .any, .any, .any, .any, .any, .any, .any, .any, .any, .any], [.ent (mkV q MM.1.1 MM.1.2.2), .ent ⟨0, none, 39, [.v (.int .i64 s.v), .v (.int .i64 s.l), .sl true 3 [], .sl false 2 (pRow (MM.2)), .sl f3 3 (sRow s.stack), .sl f4 2 (pRow s.out)], .cells⟩, .ent ⟨0, none, 39, [.v (.int .i64 0), .v (.int .i64 0), .v (.slice none 0 0), .v (.slice none 0 0), .v (.slice none 0 0), .v (.slice none 0 0)], .cells⟩, .dead, .dead]⟩ (by first | exact ⟨[_, _, _, _, _], 0, rfl, rfl⟩ | exact ⟨[_, _, _, _, _], 1, rfl, rfl⟩ | exact ⟨[_, _, _, _, _], 2, rfl, rfl⟩ | exact ⟨[_, _, _, _, _], 3, rfl, rfl⟩ | exact ⟨[_, _, _, _, _], 4, rfl, rfl⟩) ?_ ?_
  · skip
    repeat' first | (with_reducible refine AWP_block ?_)
    refine AWP_loopD 5 (γ := {i : Nat // i ≤ s.mem.length}) (fun i => ⟨[.ptr 0 0 0, .any, .any, .ptr 1 0 0, .ptr 2 0 0, .any, .any, .any, .any, .any, .any, .any, .any, .any, .any, .any, .any, .any, .any, .any, .any, .any, .any, .any, .any, .any, .any, .any, .any, .any, .any, .any, .any, .any, .any, .any, .any, .any, .any, .any, .any, .any, .any, .any, .any, .ref 4 0 s.mem.length, .v (.int .i64 s.mem.length), .v (.int .i64 i.1), .any, .any, .any, .any, .any, .any, .any, .any, .any, .any, .any, .any, .any, .any, .any, .any, .any, .any, .any, .any, .any, .any, .any, .any, .any, .any, .any, .any, .any, .any, .any, .any, .any, .any, .any, .any, .any, .any, .any, .any, .any, .any, .any, .any, .any, .any, .any, .any, .any, .any, .any, .any, .any, .any, .any, .any, .any, .any, .any, .any, .any, .any], [.ent (mkV q (mapF (vAP q) (s.mem.take i.1) MC.1).1.1 (mapF (vAP q) (s.mem.take i.1) MC.1).1.2.2), .ent ⟨0, none, 39, [.v (.int .i64 s.v), .v (.int .i64 s.l), .sl true 3 [], .ref 4 0 s.mem.length, .sl f3 3 (sRow s.stack), .sl f4 2 (pRow s.out)], .cells⟩, .ent ⟨0, none, 39, [.v (.int .i64 0), .v (.int .i64 0), .v (.slice none 0 0), .v (.slice none 0 0), .v (.slice none 0 0), .v (.slice none 0 0)], .cells⟩, .dead, .ent ⟨0, some 2, 34, pCells (mW (vAP q) s.mem MC.1 i.1), .cells⟩]⟩) (fun i => s.mem.length - i.1) ⟨0, by omega⟩ (fun i => rfl) (fun i => ?_) (fun i => rfl) ⟨?_, ?_⟩ ?_
    · refine clsd_all ?_
      simp only [mkV, List.map_cons, List.map_nil, renSlot, ren_tCells, ren_pCells]
      rfl
    · exact Lq
    · simp only [mW_zero, List.take_zero, mkV]
      exact Fq
    rintro ⟨i, hi⟩
    dsimp only
    obtain ⟨n, hn⟩ : ∃ n, s.mem.length = n := ⟨_, rfl⟩
    rw [hn] at hi ⊢
    have hwl : (pCells (mW (vAP q) s.mem MC.1 i)).length = n * 2 := by rw [pCells_length, mW_length, hn]
    by_cases hlt : (i : Int) < (n : Int)
    · have hx : s.mem[i]? = some s.mem[i] := List.getElem?_eq_getElem (by omega)
      obtain ⟨x, hxx⟩ : ∃ x, s.mem[i] = x := ⟨_, rfl⟩
      rw [hxx] at hx
      have hxw := mW_get (f := vAP q) (m := MC.1) hx
      have hws := mW_succ (f := vAP q) (m := MC.1) hx
      have hms := mapF_take (vAP q) hx MC.1
      have hat := pCells_at hxw
      have hlab := hmL x (List.mem_of_getElem? hx)
      obtain ⟨⟨d1, n1, e1⟩, hM⟩ : ∃ m, (mapF (vAP q) (s.mem.take i) MC.1).1 = m := ⟨_, rfl⟩
      rw [hM] at hws hms ⊢
      obtain ⟨v, a⟩ := x
      simp only at hat hlab
      have hwn := wrapN (i := i) (n := n) (by omega) (by omega)
      obtain ⟨W, hW⟩ : ∃ W, mW (vAP q) s.mem MC.1 i = W := ⟨_, rfl⟩
      rw [hW] at hxw hws hat hwl ⊢
      · skip
        have hh := vHidden_fn q hq d1 e1 a hlab
        obtain ⟨b, hb⟩ : ∃ b, hid q.us q.o a = b := ⟨_, rfl⟩
        rw [hb] at hh
        cases b
        case false =>
          have hv : vAP q (v, a) (d1, n1, e1) = ((d1, n1, e1), (v, a)) := by unfold vAP; rw [if_neg (by rw [hb]; simp)]
          rw [hv] at hws hms
          have hsm : W.set i (v, a) = W := by
            obtain ⟨h1, h2⟩ := List.getElem?_eq_some_iff.1 hxw
            rw [← h2]; exact List.set_getElem_self h1
          rw [hsm] at hws
          simp only [mkV] at hh ⊢
          repeat' first | (with_reducible first | refine AWP_seq' ?_ | refine k_normal ?_ | refine b_normal ?_ | refine AWP_skip ?_ | refine AWP_block ?_) | ((with_reducible refine And.intro ?_ ?_); · exact Sq) | ((first | with_reducible refine AWP_reg fun KC J hJ hKC => ?_ | (refine hKC _ _ _ _ _ (callK [0] hh rfl rfl rfl (by decide) (by simp) rfl rfl Lq ?_))); simp (maxSteps := 9999999) only [push_cast, seval, ↓reduceIte, hlt, hat, hwl, hwn, backOf, callSets, renSlot, pick, mOf, idx, ren, ren2, ren1, ren0, ren_tCells, ren_pCells, ren_sCells]) | ((with_reducible refine hJ _ _ ?_); clear hJ hKC KC J) | ((with_reducible refine AWP_condT ?_ ?_); · rfl) | ((with_reducible refine AWP_condF ?_ ?_); · rfl)
          refine ⟨⟨i + 1, by omega⟩, by simp only; omega, ?_, ?_⟩
          · exact Lq
          · simp only [hms, hws, mkV]; exact ⟨_, rfl⟩
        case true =>
          have hval := vNumber_fn q d1 n1 e1
          obtain ⟨⟨d2, n2, e2⟩, hM2⟩ : ∃ m, numberP (d1, n1, e1) q.sp.val = m := ⟨_, rfl⟩
          rw [hM2] at hval
          have hv : vAP q (v, a) (d1, n1, e1) = ((d2, n2, e2), (n2, a)) := by unfold vAP; rw [if_pos hb]; simp only [hM2]
          rw [hv] at hws hms
          have hset := pC_set1 n2 hxw
          rw [← hws] at hset
          obtain ⟨W', hW'⟩ : ∃ W', mW (vAP q) s.mem MC.1 (i + 1) = W' := ⟨_, rfl⟩
          rw [hW'] at hset
          simp only [mkV] at hh hval ⊢
          repeat' first | (with_reducible first | refine AWP_seq' ?_ | refine k_normal ?_ | refine b_normal ?_ | refine AWP_skip ?_ | refine AWP_block ?_) | ((with_reducible refine And.intro ?_ ?_); · exact Sq) | ((first | with_reducible refine AWP_reg fun KC J hJ hKC => ?_ | with_reducible refine AWP_regD rfl fun KC J hJ hKC => ?_ | (refine hKC _ _ _ _ _ (callK [0] hh rfl rfl rfl (by decide) (by simp) rfl rfl Lq ?_)) | (refine hKC _ _ _ _ _ (callK [0] hval rfl rfl rfl (by decide) (by simp) rfl rfl Lq ?_))); simp (maxSteps := 9999999) only [push_cast, seval, ↓reduceIte, hlt, hat, hwl, hset, hwn, Nat.add_zero, backOf, callSets, renSlot, pick, mOf, idx, ren, ren2, ren1, ren0, ren_tCells, ren_pCells, ren_sCells]) | ((first | with_reducible refine hJ _ _ ?_ | (with_reducible refine hJ _ _ ?_ ?_; · kernel_rfl)); clear hJ hKC KC J) | ((with_reducible refine AWP_condT ?_ ?_); · rfl)
          refine ⟨⟨i + 1, by omega⟩, by simp only; omega, ?_, ?_⟩
          · exact Lq
          · simp only [hms, hW', mkV]; exact ⟨_, rfl⟩
    · have hin : i = n := by omega
      subst hin
      have hend := mW_end (f := vAP q) (m := MC.1) hn
      have htk : s.mem.take i = s.mem := by rw [← hn]; exact List.take_length
      rw [hend, hMM] at hwl
      rw [hend, htk, hMM]
      obtain ⟨W, hW⟩ : ∃ W, MM.2 = W := ⟨_, rfl⟩
      rw [hW] at hwl ⊢
      have hWl : W.length = i := by have := pCells_length W; omega
      have hcp : chunk 2 i (pCells W) = pRow W := by rw [← hWl]; exact chunk_p W
      simp only [mkV]
      repeat' first | (refine AWP_freezeR 9 4 rfl (by (simp (maxSteps := 9999999) only [push_cast, seval, ↓reduceIte]) <;> rfl) ?_; simp (maxSteps := 9999999) only [push_cast, seval, ↓reduceIte, frSt, frSlot, fr3, fr2, fr1, fr0, sameB, arrOf, hlt, hwl, hcp]) | (with_reducible first | refine AWP_seq' ?_ | refine k_normal ?_ | refine k_exit ?_ | refine b_exit ?_ | refine AWP_exit ?_) | ((with_reducible refine AWP_reg fun KC J hJ hKC => ?_); simp (maxSteps := 9999999) only [push_cast, seval, ↓reduceIte, hlt, hwl, hcp]) | ((with_reducible refine hJ _ _ ?_); clear hJ hKC KC J) | ((with_reducible refine AWP_condF ?_ ?_); · rfl)
      refine .inl ⟨rfl, [0, 1, 2, 3, 4], by decide, by decide, ?_, ?_⟩
      · exact Lq
      · simp only [pick, List.map_cons, List.map_nil, getS, renSlot, ren_pCells, ren_tCells, mOf, idx]
        exact LSv
  have hCe : tRow MC.2 = [] := by rw [← hMC, hc0]; rfl
  obtain ⟨⟨d2, n2, e2⟩, hM2⟩ : ∃ m, MM.1 = m := ⟨_, rfl⟩
  rw [hM2]
  have g1 := vHidden_fn q hq d2 e2 s.l hlL
  by_cases hh : hid q.us q.o s.l = true
  · rw [hh] at g1
    have hst : stateP q s (d, n0, e) = (let k := mapF (vSP q) (cropS q.us q.o s.stack) (d2, n2, e2)
        let t := moreP q k.2 k.1
        let v := belowP t.1 13
        let n := belowP v (unseenL q.us q.o).length
        (n, ⟨v.2.1, (unseenL q.us q.o).getD n.2.1.toNat 0, MC.2, MM.2, t.2, s.out⟩)) := by
      unfold stateP; simp only [hMC, hMM, hM2]; rw [if_pos hh]
    have hfl : ((!hid q.us q.o s.l) && decide (s.stack = [])) = false := by rw [hh]; rfl
    rw [hst, hfl]
    clear hst
    have hcrop := apiCrop_fn q.f q.g f3 q.ns q.us (q.o : Int) s.stack hq.szs hq.u32 (by omega)
    rw [may1S_zero hq.chk hkL (oddL_iff.2 ⟨by omega, by have := hq.lab; omega⟩), cropM_eq hq.chk hkL (oddL_iff.2 ⟨by omega, by have := hq.lab; omega⟩)] at hcrop
    have hcrL : ∀ x ∈ cropS q.us q.o s.stack, oddL q.us.length x.2.2 = false := fun x hx => hkL x (List.mem_of_mem_take hx)
    have hcrl : (cropS q.us q.o s.stack).length ≤ s.stack.length := by unfold cropS; rw [List.length_take]; omega
    obtain ⟨CR, hCR⟩ : ∃ r, cropS q.us q.o s.stack = r := ⟨_, rfl⟩
    rw [hCR] at hcrop hcrL hcrl ⊢
    have hKl := mapF_length (vSP q) (d2, n2, e2) CR
    have hne : unseenL q.us q.o ≠ [] := fun h => by have := unseen_mem.2 ⟨hlL, hh⟩; rw [h] at this; cases this
    rcases Nat.eq_zero_or_pos CR.length with h0 | h0
    · have hC0 : CR = [] := List.length_eq_zero_iff.1 h0
      subst hC0
      have g2 := vSlots0_fn q d2 e2 false
      have g3 := vMore_fn q hq hul d2 n2 e2 [] (by simp) hs0 hs1 (by simpa using hs0) none (fun _ => rfl)
      simp only [mapF, List.foldl_nil] at g3 ⊢
      obtain ⟨⟨⟨d3, n3, e3⟩, T⟩, hT⟩ : ∃ r, moreP q [] (d2, n2, e2) = r := ⟨_, rfl⟩
      rw [hT] at g3
      simp only [hT]
      have g4 := vPlace_fn q d3 n3 e3
      obtain ⟨⟨d4, n4, e4⟩, hP⟩ : ∃ m, belowP (d3, n3, e3) 13 = m := ⟨_, rfl⟩
      simp only [hP] at g4 ⊢
      have g5 := vUnseen_fn q hq hul d4 n4 e4 hne
      obtain ⟨⟨d5, n5, e5⟩, hU⟩ : ∃ m, belowP (d4, n4, e4) (unseenL q.us q.o).length = m := ⟨_, rfl⟩
      simp only [hU] at g5 ⊢
      obtain ⟨lb, hlb⟩ : ∃ l, (unseenL q.us q.o).getD n5.toNat 0 = l := ⟨_, rfl⟩
      rw [hlb] at g5
      simp only [hlb]
      simp only [mkV, yE, yσ, yO, show sRow [] = [] from rfl, show sCells [] = [] from rfl, List.length_nil] at g1 g2 g3 g4 g5 ⊢
      repeat' first | (with_reducible first | refine AWP_seq' ?_ | refine k_normal ?_ | refine AWP_ret ?_ | refine AWP_skip ?_) | ((first | with_reducible refine AWP_reg fun KC J hJ hKC => ?_ | with_reducible refine AWP_regD rfl fun KC J hJ hKC => ?_ | (refine hKC _ _ _ _ _ (callK [0] g1 rfl rfl rfl (by decide) (by simp) rfl rfl Lq ?_)) | (refine hKC _ _ _ _ _ (callK [0] g2 rfl rfl rfl (by decide) (by simp) rfl rfl Lq ?_)) | (refine hKC _ _ _ _ _ (callK [0] g3 rfl rfl rfl (by decide) (by simp) rfl rfl Lq ?_)) | (refine hKC _ _ _ _ _ (callK [0] g4 rfl rfl rfl (by decide) (by simp) rfl rfl Lq ?_)) | (refine hKC _ _ _ _ _ (callK [0] g5 rfl rfl rfl (by decide) (by simp) rfl rfl Lq ?_)) | (refine hKC _ _ _ _ _ (callV0 (hcrop) rfl rfl rfl ?_ ?_); (· exact Lq))); simp (maxSteps := 9999999) only [push_cast, seval, ↓reduceIte, backOf, callSets, renSlot, pick, mOf, idx, ren, ren2, ren1, ren0, ren_tCells, ren_pCells, ren_sCells]) | ((first | with_reducible refine hJ _ _ ?_ | (with_reducible refine hJ _ _ ?_ ?_; · kernel_rfl)); clear hJ hKC KC J) | ((with_reducible refine AWP_condF ?_ ?_); · rfl)
      refine ret_keys ?_
      simp (maxSteps := 9999999) only [push_cast, seval, ↓reduceIte, show Tryz.f188.results = #[(.cell 4 39)] from rfl]
      exact ⟨rfl, by simp only [vOutD, hCe]; exact leD_refl _⟩
    · have g2 := vSlots_fn q hq d2 n2 e2 false CR h0 (by omega) hcrL
      obtain ⟨⟨⟨d6, n6, e6⟩, KS⟩, hKS⟩ : ∃ r, mapF (vSP q) CR (d2, n2, e2) = r := ⟨_, rfl⟩
      rw [hKS] at g2 hKl
      simp only at g2 hKl
      have g3 := vMore_fn q hq hul d6 n6 e6 KS (by omega) hs0 hs1 (by omega) (some 0) (fun h => by cases h)
      rw [hKl] at g3
      simp only [hKS] at g3 ⊢
      obtain ⟨m, hm'⟩ : ∃ m, CR.length = m := ⟨_, rfl⟩
      rw [hm'] at g2 g3
      obtain ⟨⟨⟨d3, n3, e3⟩, T⟩, hT⟩ : ∃ r, moreP q KS (d6, n6, e6) = r := ⟨_, rfl⟩
      rw [hT] at g3
      simp only [hT]
      have g4 := vPlace_fn q d3 n3 e3
      obtain ⟨⟨d4, n4, e4⟩, hP⟩ : ∃ m, belowP (d3, n3, e3) 13 = m := ⟨_, rfl⟩
      simp only [hP] at g4 ⊢
      have g5 := vUnseen_fn q hq hul d4 n4 e4 hne
      obtain ⟨⟨d5, n5, e5⟩, hU⟩ : ∃ m, belowP (d4, n4, e4) (unseenL q.us q.o).length = m := ⟨_, rfl⟩
      simp only [hU] at g5 ⊢
      obtain ⟨lb, hlb⟩ : ∃ l, (unseenL q.us q.o).getD n5.toNat 0 = l := ⟨_, rfl⟩
      rw [hlb] at g5
      simp only [hlb]
      simp only [mkV, yE, yσ, yO, show sRow [] = [] from rfl, show sCells [] = [] from rfl, List.length_nil] at g1 g2 g3 g4 g5 ⊢
      repeat' first | (with_reducible first | refine AWP_seq' ?_ | refine k_normal ?_ | refine AWP_ret ?_ | refine AWP_skip ?_) | ((first | with_reducible refine AWP_reg fun KC J hJ hKC => ?_ | with_reducible refine AWP_regD rfl fun KC J hJ hKC => ?_ | (refine hKC _ _ _ _ _ (callK [0] g1 rfl rfl rfl (by decide) (by simp) rfl rfl Lq ?_)) | (refine hKC _ _ _ _ _ (callN [0] g2 rfl rfl rfl (by decide) (by simp) rfl rfl rfl Lq ?_)) | (refine hKC _ _ _ _ _ (callK [0, 7] g3 rfl rfl rfl (by decide) (by simp) rfl (by simp only [pick, List.map_cons, List.map_nil, getS, renSlot, ren_sCells, mOf, idx]; rfl) Lq ?_)) | (refine hKC _ _ _ _ _ (callK [0] g4 rfl rfl rfl (by decide) (by simp) rfl rfl Lq ?_)) | (refine hKC _ _ _ _ _ (callK [0] g5 rfl rfl rfl (by decide) (by simp) rfl rfl Lq ?_)) | (refine hKC _ _ _ _ _ (callV0 (hcrop) rfl rfl rfl ?_ ?_); (· exact Lq))); simp (maxSteps := 9999999) only [push_cast, seval, ↓reduceIte, backOf, callSets, renSlot, pick, mOf, idx, ren, ren2, ren1, ren0, ren_tCells, ren_pCells, ren_sCells]) | ((first | with_reducible refine hJ _ _ ?_ | (with_reducible refine hJ _ _ ?_ ?_; · kernel_rfl)); clear hJ hKC KC J) | ((with_reducible refine AWP_condF ?_ ?_); · rfl)
      refine ret_keys ?_
      simp (maxSteps := 9999999) only [push_cast, seval, ↓reduceIte, show Tryz.f188.results = #[(.cell 4 39)] from rfl]
      exact ⟨rfl, by simp only [vOutD, hCe]; exact leD_refl _⟩
  · have hh' : hid q.us q.o s.l = false := by simpa using hh
    rw [hh'] at g1
    have hst : stateP q s (d, n0, e) = ((mapF (vSP q) s.stack (d2, n2, e2)).1, ⟨s.v, s.l, MC.2, MM.2, (mapF (vSP q) s.stack (d2, n2, e2)).2, s.out⟩) := by
      unfold stateP; simp only [hMC, hMM, hM2]; rw [if_neg hh]
    rw [hst]
    clear hst
    rcases Nat.eq_zero_or_pos s.stack.length with h0 | h0
    · have hC0 : s.stack = [] := List.length_eq_zero_iff.1 h0
      have hfl : ((!hid q.us q.o s.l) && decide (s.stack = [])) = true := by rw [hh', hC0]; rfl
      rw [hfl, hC0]
      have g2 := vSlots0_fn q d2 e2 f3
      simp only [mapF, List.foldl_nil, mkV, show sRow [] = [] from rfl] at g1 g2 ⊢
      repeat' first | (with_reducible first | refine AWP_seq' ?_ | refine k_normal ?_ | refine k_ret ?_ | refine AWP_ret ?_) | ((first | with_reducible refine AWP_reg fun KC J hJ hKC => ?_ | (refine hKC _ _ _ _ _ (callK [0] g1 rfl rfl rfl (by decide) (by simp) rfl rfl Lq ?_)) | (refine hKC _ _ _ _ _ (callK [0] g2 rfl rfl rfl (by decide) (by simp) rfl rfl Lq ?_))); simp (maxSteps := 9999999) only [push_cast, seval, ↓reduceIte, backOf, callSets, renSlot, pick, mOf, idx, ren, ren2, ren1, ren0, ren_tCells, ren_pCells, ren_sCells]) | ((with_reducible refine hJ _ _ ?_); clear hJ hKC KC J) | ((with_reducible refine AWP_condT ?_ ?_); · rfl)
      refine ret_keys ?_
      simp (maxSteps := 9999999) only [push_cast, seval, ↓reduceIte, show Tryz.f188.results = #[(.cell 4 39)] from rfl]
      exact ⟨rfl, by simp only [vOutD, hCe]; exact leD_refl _⟩
    · have hfl : ((!hid q.us q.o s.l) && decide (s.stack = [])) = false := by
        rw [hh', decide_eq_false (fun h => by rw [h] at h0; cases h0)]; rfl
      rw [hfl]
      have g2 := vSlots_fn q hq d2 n2 e2 f3 s.stack h0 (by omega) hkL
      have hKl := mapF_length (vSP q) (d2, n2, e2) s.stack
      obtain ⟨⟨⟨d6, n6, e6⟩, KS⟩, hKS⟩ : ∃ r, mapF (vSP q) s.stack (d2, n2, e2) = r := ⟨_, rfl⟩
      rw [hKS] at g2 hKl
      simp only [hKS] at g2 hKl ⊢
      have hlC : (sCells KS).length = s.stack.length * 3 := by rw [sCells_length, hKl]
      have hcp : chunk 3 s.stack.length (sCells KS) = sRow KS := by rw [← hKl]; exact chunk_s KS
      simp only [mkV] at g1 g2 ⊢
      repeat' first | (refine AWP_freezeR 16 6 rfl (by (simp (maxSteps := 9999999) only [push_cast, seval, ↓reduceIte]) <;> rfl) ?_; simp (maxSteps := 9999999) only [push_cast, seval, ↓reduceIte, frSt, frSlot, fr3, fr2, fr1, fr0, sameB, arrOf, hlC, hcp, backOf, callSets, renSlot, pick, mOf, idx, ren, ren2, ren1, ren0, ren_tCells, ren_pCells, ren_sCells]) | (with_reducible first | refine AWP_seq' ?_ | refine k_normal ?_ | refine k_ret ?_ | refine AWP_ret ?_) | ((first | with_reducible refine AWP_reg fun KC J hJ hKC => ?_ | (refine hKC _ _ _ _ _ (callK [0] g1 rfl rfl rfl (by decide) (by simp) rfl rfl Lq ?_)) | (refine hKC _ _ _ _ _ (callN [0] g2 rfl rfl rfl (by decide) (by simp) rfl rfl rfl Lq ?_))); simp (maxSteps := 9999999) only [push_cast, seval, ↓reduceIte, hlC, hcp, backOf, callSets, renSlot, pick, mOf, idx, ren, ren2, ren1, ren0, ren_tCells, ren_pCells, ren_sCells]) | ((with_reducible refine hJ _ _ ?_); clear hJ hKC KC J) | ((with_reducible refine AWP_condT ?_ ?_); · rfl)
      refine ret_keys ?_
      simp (maxSteps := 9999999) only [push_cast, seval, ↓reduceIte, show Tryz.f188.results = #[(.cell 4 39)] from rfl]
      exact ⟨rfl, by simp only [vOutD, hCe]; exact leD_refl _⟩
end Go.Proofs.YtabliglgeiajlaaGreat.AM

namespace Go.Proofs.YtabliglgeiajlaaGreat.AM
open Go Go.RowKit Go.Proofs
set_option maxRecDepth 100000
set_option maxHeartbeats 4000000
theorem vState00_fn (q : VQ) (hq : VOk q) (hul : q.us.length ≤ 8) (d : Dr) (n0 e : Int) (f1 f2 f3 f4 : Bool) (s : Sta) (hs : VIn q s) (hc0 : s.code = []) (hm0 : s.mem = []) :
    Fn Tryz.prog 188 [.ptr 0 0 0, .agg (staF f1 f2 f3 f4 s)] [.ent (mkV q d e)] (vOutD true true ((!hid q.us q.o s.l) && decide (s.stack = [])) f4 (stateP q s (d, n0, e)).2) [.ent (mkV q (stateP q s (d, n0, e)).1.1 (stateP q s (d, n0, e)).1.2.2)] := by
  obtain ⟨hc, hm, hk, hcL, hmL, hkL, hlL, hs0, hs1, hsk⟩ := hs
  have k1 := clT_nil f1
  have k2 := clA_nil f2
  simp only [staF]
  have hcr : tRow s.code = [] := by rw [hc0]; rfl
  have hcl0 : s.code.length = 0 := by rw [hc0]; rfl
  rw [hcr]
  have hmr : pRow s.mem = [] := by rw [hm0]; rfl
  rw [hmr]
  refine Fn.of (fn := Tryz.f188) (by kernel_rfl) rfl (by kernel_rfl) ⟨[.ptr 0 0 0, .agg [.v (.int .i64 s.v), .v (.int .i64 s.l), .sl f1 3 ([]), .sl f2 2 ([]), .sl f3 3 (sRow s.stack), .sl f4 2 (pRow s.out)], .v undef, .v undef, .v undef, .v undef, .v undef, .v undef, .v undef, .v undef, .v undef, .v undef, .v undef, .v undef, .v undef, .v undef, .v undef, .v undef, .v undef, .v undef, .v undef, .v undef, .v undef, .v undef, .v undef, .v undef, .v undef, .v undef, .v undef, .v undef, .v undef, .v undef, .v undef, .v undef, .v undef, .v undef, .v undef, .v undef, .v undef, .v undef, .v undef, .v undef, .v undef, .v undef, .v undef, .v undef, .v undef, .v undef, .v undef, .v undef, .v undef, .v undef, .v undef, .v undef, .v undef, .v undef, .v undef, .v undef, .v undef, .v undef, .v undef, .v undef, .v undef, .v undef, .v undef, .v undef, .v undef, .v undef, .v undef, .v undef, .v undef, .v undef, .v undef, .v undef, .v undef, .v undef, .v undef, .v undef, .v undef, .v undef, .v undef, .v undef, .v undef, .v undef, .v undef, .v undef, .v undef, .v undef, .v undef, .v undef, .v undef, .v undef, .v undef, .v undef, .v undef, .v undef, .v undef, .v undef, .v undef, .v undef, .v undef, .v undef, .v undef, .v undef, .v undef, .v undef, .v undef, .v undef, .v undef, .v undef], [.ent (mkV q d e)]⟩ rfl ?_
  simp only [mkV]
  repeat' first | (with_reducible refine holdB 0 ?_) | (with_reducible first | refine AWP_seq' ?_ | refine k_normal ?_) | ((first | with_reducible refine AWP_reg fun KC J hJ hKC => ?_ | with_reducible refine AWP_regD rfl fun KC J hJ hKC => ?_ | (refine hKC _ _ _ _ _ (callV0 (k1) rfl rfl rfl ?_ ?_); (· exact Lq)) | (refine hKC _ _ _ _ _ (callV0 (k2) rfl rfl rfl ?_ ?_); (· exact Lq))); simp (maxSteps := 9999999) only [push_cast, seval, ↓reduceIte, backOf, callSets, renSlot, pick, mOf, idx, ren, ren2, ren1, ren0, ren_tCells, ren_pCells, ren_sCells]) | ((first | with_reducible refine hJ _ _ ?_ | (with_reducible refine hJ _ _ ?_ ?_; · kernel_rfl)); clear hJ hKC KC J)
  obtain ⟨MC, hMC⟩ : ∃ m, mapF (vIP q) s.code (d, n0, e) = m := ⟨_, rfl⟩
  refine AWP_cutW 3 ⟨[.ptr 0 0 0, .any, .any, .ptr 1 0 0, .ptr 2 0 0, .any, .any, .any, .any, .any, .any, .any, .any, .any, .any, .any, .any, .any, .any, .any, .any, .any, .any, .any, .any, .any, .any, .any, .any, .any, .any, .any, .any, .any, .any, .any, .any, .any, .any, .any, .any, .any, .any, .any, .any, .any, .any, .any, .any, .any, .any, .any, .any, .any, .any, .any, .any, .any, .any, .any, .any, .any, .any, .any, .any, .any, .any, .any, .any, .any, .any, .any, .any, .any, .any, .any, .any, .any, .any, .any, .any, .any, .any, .any, .any, .any, .any, .any, .any, .any, .any, .any, .any, .any, .any, .any, .any, .any, .any, .any, .any, .any, .any, .any, .any, .any, .any, .any, .any, .any], [.ent (mkV q MC.1.1 MC.1.2.2), .ent ⟨0, none, 39, [.v (.int .i64 s.v), .v (.int .i64 s.l), .sl true 3 [], .sl true 2 [], .sl f3 3 (sRow s.stack), .sl f4 2 (pRow s.out)], .cells⟩, .ent ⟨0, none, 39, [.v (.int .i64 0), .v (.int .i64 0), .v (.slice none 0 0), .v (.slice none 0 0), .v (.slice none 0 0), .v (.slice none 0 0)], .cells⟩]⟩ (by first | exact ⟨[_, _, _], 0, rfl, rfl⟩ | exact ⟨[_, _, _], 1, rfl, rfl⟩ | exact ⟨[_, _, _], 2, rfl, rfl⟩ | exact ⟨[_, _, _], 3, rfl, rfl⟩ | exact ⟨[_, _, _], 4, rfl, rfl⟩) ?_ ?_
  · skip
    repeat' first | (with_reducible refine AWP_block ?_)
    refine AWP_loopD 3 (γ := Unit) (fun _ => ⟨[.ptr 0 0 0, .any, .any, .ptr 1 0 0, .ptr 2 0 0, .any, .any, .any, .any, .any, .any, .any, .any, .any, .any, .any, .any, .any, .any, .any, .sl true 3 [], .v (.int .i64 0), .v (.int .i64 0), .any, .any, .any, .any, .any, .any, .any, .any, .any, .any, .any, .any, .any, .any, .any, .any, .any, .any, .any, .any, .any, .any, .any, .any, .any, .any, .any, .any, .any, .any, .any, .any, .any, .any, .any, .any, .any, .any, .any, .any, .any, .any, .any, .any, .any, .any, .any, .any, .any, .any, .any, .any, .any, .any, .any, .any, .any, .any, .any, .any, .any, .any, .any, .any, .any, .any, .any, .any, .any, .any, .any, .any, .any, .any, .any, .any, .any, .any, .any, .any, .any, .any, .any, .any, .any, .any, .any], [.ent (mkV q (d, n0, e).1 (d, n0, e).2.2), .ent ⟨0, none, 39, [.v (.int .i64 s.v), .v (.int .i64 s.l), .sl true 3 [], .sl true 2 [], .sl f3 3 (sRow s.stack), .sl f4 2 (pRow s.out)], .cells⟩, .ent ⟨0, none, 39, [.v (.int .i64 0), .v (.int .i64 0), .v (.slice none 0 0), .v (.slice none 0 0), .v (.slice none 0 0), .v (.slice none 0 0)], .cells⟩]⟩) (fun _ => 0) () (fun k => rfl) (fun k => ?_) (fun k => rfl) ⟨?_, ?_⟩ ?_
    · refine clsd_all ?_
      simp only [mkV, List.map_cons, List.map_nil, renSlot, ren_pCells]
      rfl
    · exact Lq
    · simp only [mkV]
      exact Fq
    intro _
    simp only [mkV]
    repeat' first | (with_reducible first | refine AWP_seq' ?_ | refine k_normal ?_ | refine k_exit ?_ | refine b_exit ?_ | refine AWP_exit ?_) | ((with_reducible refine AWP_reg fun KC J hJ hKC => ?_); simp (maxSteps := 9999999) only [push_cast, seval, ↓reduceIte]) | ((with_reducible refine hJ _ _ ?_); clear hJ hKC KC J) | ((with_reducible refine AWP_condF ?_ ?_); · rfl)
    rw [hc0] at hMC
    subst hMC
    refine .inl ⟨rfl, [0, 1, 2], by decide, by decide, ?_, ?_⟩
    · exact Lq
    · simp only [mapF, List.foldl_nil, pick, List.map_cons, List.map_nil, getS, renSlot, ren_pCells, mOf, idx]
      exact LSv
  repeat' first | (with_reducible refine holdB 2 ?_) | (with_reducible first | refine AWP_seq' ?_ | refine k_normal ?_) | ((with_reducible refine AWP_reg fun KC J hJ hKC => ?_); simp (maxSteps := 9999999) only [push_cast, seval, ↓reduceIte]) | ((with_reducible refine hJ _ _ ?_); clear hJ hKC KC J)
  obtain ⟨MM, hMM⟩ : ∃ m, mapF (vAP q) s.mem MC.1 = m := ⟨_, rfl⟩
  refine AWP_cutW 3 ⟨[.ptr 0 0 0, .any, .any, .ptr 1 0 0, .ptr 2 0 0, .any, .any, .any, .any, .any, .any, .any, .any, .any, .any, .any, .any, .any, .any, .any, .any, .any, .any, .any, .any, .any, .any, .any, .any, .any, .any, .any, .any, .any, .any, .any, .any, .any, .any, .any, .any, .any, .any, .any, .any, .any, .any, .any, .any, .any, .any, .any, .any, .any, .any, .any, .any, .any, .any, .any, .any, .any, .any, .any, .any, .any, .any, .any, .any, .any, .any, .any, .any, .any, .any, .any, .any, .any, .any, .any, .any, .any, .any, .any, .any, .any, .any, .any, .any, .any, .any, .any, .any, .any, .any, .any, .any, .any, .any, .any, .any, .any, .any, .any, .any, .any, .any, .any, .any, .any], [.ent (mkV q MM.1.1 MM.1.2.2), .ent ⟨0, none, 39, [.v (.int .i64 s.v), .v (.int .i64 s.l), .sl true 3 [], .sl true 2 [], .sl f3 3 (sRow s.stack), .sl f4 2 (pRow s.out)], .cells⟩, .ent ⟨0, none, 39, [.v (.int .i64 0), .v (.int .i64 0), .v (.slice none 0 0), .v (.slice none 0 0), .v (.slice none 0 0), .v (.slice none 0 0)], .cells⟩]⟩ (by first | exact ⟨[_, _, _], 0, rfl, rfl⟩ | exact ⟨[_, _, _], 1, rfl, rfl⟩ | exact ⟨[_, _, _], 2, rfl, rfl⟩ | exact ⟨[_, _, _], 3, rfl, rfl⟩ | exact ⟨[_, _, _], 4, rfl, rfl⟩) ?_ ?_
  · skip
    repeat' first | (with_reducible refine AWP_block ?_)
    refine AWP_loopD 3 (γ := Unit) (fun _ => ⟨[.ptr 0 0 0, .any, .any, .ptr 1 0 0, .ptr 2 0 0, .any, .any, .any, .any, .any, .any, .any, .any, .any, .any, .any, .any, .any, .any, .any, .any, .any, .any, .any, .any, .any, .any, .any, .any, .any, .any, .any, .any, .any, .any, .any, .any, .any, .any, .any, .any, .any, .any, .any, .any, .sl true 2 [], .v (.int .i64 0), .v (.int .i64 0), .any, .any, .any, .any, .any, .any, .any, .any, .any, .any, .any, .any, .any, .any, .any, .any, .any, .any, .any, .any, .any, .any, .any, .any, .any, .any, .any, .any, .any, .any, .any, .any, .any, .any, .any, .any, .any, .any, .any, .any, .any, .any, .any, .any, .any, .any, .any, .any, .any, .any, .any, .any, .any, .any, .any, .any, .any, .any, .any, .any, .any, .any], [.ent (mkV q MC.1.1 MC.1.2.2), .ent ⟨0, none, 39, [.v (.int .i64 s.v), .v (.int .i64 s.l), .sl true 3 [], .sl true 2 [], .sl f3 3 (sRow s.stack), .sl f4 2 (pRow s.out)], .cells⟩, .ent ⟨0, none, 39, [.v (.int .i64 0), .v (.int .i64 0), .v (.slice none 0 0), .v (.slice none 0 0), .v (.slice none 0 0), .v (.slice none 0 0)], .cells⟩]⟩) (fun _ => 0) () (fun k => rfl) (fun k => ?_) (fun k => rfl) ⟨?_, ?_⟩ ?_
    · refine clsd_all ?_
      simp only [mkV, List.map_cons, List.map_nil, renSlot]
      rfl
    · exact Lq
    · simp only [mkV]
      exact Fq
    intro _
    simp only [mkV]
    repeat' first | (with_reducible first | refine AWP_seq' ?_ | refine k_normal ?_ | refine k_exit ?_ | refine b_exit ?_ | refine AWP_exit ?_) | ((with_reducible refine AWP_reg fun KC J hJ hKC => ?_); simp (maxSteps := 9999999) only [push_cast, seval, ↓reduceIte]) | ((with_reducible refine hJ _ _ ?_); clear hJ hKC KC J) | ((with_reducible refine AWP_condF ?_ ?_); · rfl)
    rw [hm0] at hMM
    subst hMM
    refine .inl ⟨rfl, [0, 1, 2], by decide, by decide, ?_, ?_⟩
    · exact Lq
    · simp only [mapF, List.foldl_nil, pick, List.map_cons, List.map_nil, getS, renSlot, mOf, idx]
      exact LSv
  have hCe : tRow MC.2 = [] := by rw [← hMC, hc0]; rfl
  have hMe : pRow MM.2 = [] := by rw [← hMM, hm0]; rfl
  obtain ⟨⟨d2, n2, e2⟩, hM2⟩ : ∃ m, MM.1 = m := ⟨_, rfl⟩
  rw [hM2]
  have g1 := vHidden_fn q hq d2 e2 s.l hlL
  by_cases hh : hid q.us q.o s.l = true
  · rw [hh] at g1
    have hst : stateP q s (d, n0, e) = (let k := mapF (vSP q) (cropS q.us q.o s.stack) (d2, n2, e2)
        let t := moreP q k.2 k.1
        let v := belowP t.1 13
        let n := belowP v (unseenL q.us q.o).length
        (n, ⟨v.2.1, (unseenL q.us q.o).getD n.2.1.toNat 0, MC.2, MM.2, t.2, s.out⟩)) := by
      unfold stateP; simp only [hMC, hMM, hM2]; rw [if_pos hh]
    have hfl : ((!hid q.us q.o s.l) && decide (s.stack = [])) = false := by rw [hh]; rfl
    rw [hst, hfl]
    clear hst
    have hcrop := apiCrop_fn q.f q.g f3 q.ns q.us (q.o : Int) s.stack hq.szs hq.u32 (by omega)
    rw [may1S_zero hq.chk hkL (oddL_iff.2 ⟨by omega, by have := hq.lab; omega⟩), cropM_eq hq.chk hkL (oddL_iff.2 ⟨by omega, by have := hq.lab; omega⟩)] at hcrop
    have hcrL : ∀ x ∈ cropS q.us q.o s.stack, oddL q.us.length x.2.2 = false := fun x hx => hkL x (List.mem_of_mem_take hx)
    have hcrl : (cropS q.us q.o s.stack).length ≤ s.stack.length := by unfold cropS; rw [List.length_take]; omega
    obtain ⟨CR, hCR⟩ : ∃ r, cropS q.us q.o s.stack = r := ⟨_, rfl⟩
    rw [hCR] at hcrop hcrL hcrl ⊢
    have hKl := mapF_length (vSP q) (d2, n2, e2) CR
    have hne : unseenL q.us q.o ≠ [] := fun h => by have := unseen_mem.2 ⟨hlL, hh⟩; rw [h] at this; cases this
    rcases Nat.eq_zero_or_pos CR.length with h0 | h0
    · have hC0 : CR = [] := List.length_eq_zero_iff.1 h0
      subst hC0
      have g2 := vSlots0_fn q d2 e2 false
      have g3 := vMore_fn q hq hul d2 n2 e2 [] (by simp) hs0 hs1 (by simpa using hs0) none (fun _ => rfl)
      simp only [mapF, List.foldl_nil] at g3 ⊢
      obtain ⟨⟨⟨d3, n3, e3⟩, T⟩, hT⟩ : ∃ r, moreP q [] (d2, n2, e2) = r := ⟨_, rfl⟩
      rw [hT] at g3
      simp only [hT]
      have g4 := vPlace_fn q d3 n3 e3
      obtain ⟨⟨d4, n4, e4⟩, hP⟩ : ∃ m, belowP (d3, n3, e3) 13 = m := ⟨_, rfl⟩
      simp only [hP] at g4 ⊢
      have g5 := vUnseen_fn q hq hul d4 n4 e4 hne
      obtain ⟨⟨d5, n5, e5⟩, hU⟩ : ∃ m, belowP (d4, n4, e4) (unseenL q.us q.o).length = m := ⟨_, rfl⟩
      simp only [hU] at g5 ⊢
      obtain ⟨lb, hlb⟩ : ∃ l, (unseenL q.us q.o).getD n5.toNat 0 = l := ⟨_, rfl⟩
      rw [hlb] at g5
      simp only [hlb]
      simp only [mkV, yE, yσ, yO, show sRow [] = [] from rfl, show sCells [] = [] from rfl, List.length_nil] at g1 g2 g3 g4 g5 ⊢
      repeat' first | (with_reducible first | refine AWP_seq' ?_ | refine k_normal ?_ | refine AWP_ret ?_ | refine AWP_skip ?_) | ((first | with_reducible refine AWP_reg fun KC J hJ hKC => ?_ | with_reducible refine AWP_regD rfl fun KC J hJ hKC => ?_ | (refine hKC _ _ _ _ _ (callK [0] g1 rfl rfl rfl (by decide) (by simp) rfl rfl Lq ?_)) | (refine hKC _ _ _ _ _ (callK [0] g2 rfl rfl rfl (by decide) (by simp) rfl rfl Lq ?_)) | (refine hKC _ _ _ _ _ (callK [0] g3 rfl rfl rfl (by decide) (by simp) rfl rfl Lq ?_)) | (refine hKC _ _ _ _ _ (callK [0] g4 rfl rfl rfl (by decide) (by simp) rfl rfl Lq ?_)) | (refine hKC _ _ _ _ _ (callK [0] g5 rfl rfl rfl (by decide) (by simp) rfl rfl Lq ?_)) | (refine hKC _ _ _ _ _ (callV0 (hcrop) rfl rfl rfl ?_ ?_); (· exact Lq))); simp (maxSteps := 9999999) only [push_cast, seval, ↓reduceIte, backOf, callSets, renSlot, pick, mOf, idx, ren, ren2, ren1, ren0, ren_tCells, ren_pCells, ren_sCells]) | ((first | with_reducible refine hJ _ _ ?_ | (with_reducible refine hJ _ _ ?_ ?_; · kernel_rfl)); clear hJ hKC KC J) | ((with_reducible refine AWP_condF ?_ ?_); · rfl)
      refine ret_keys ?_
      simp (maxSteps := 9999999) only [push_cast, seval, ↓reduceIte, show Tryz.f188.results = #[(.cell 4 39)] from rfl]
      exact ⟨rfl, by simp only [vOutD, hCe, hMe]; exact leD_refl _⟩
    · have g2 := vSlots_fn q hq d2 n2 e2 false CR h0 (by omega) hcrL
      obtain ⟨⟨⟨d6, n6, e6⟩, KS⟩, hKS⟩ : ∃ r, mapF (vSP q) CR (d2, n2, e2) = r := ⟨_, rfl⟩
      rw [hKS] at g2 hKl
      simp only at g2 hKl
      have g3 := vMore_fn q hq hul d6 n6 e6 KS (by omega) hs0 hs1 (by omega) (some 0) (fun h => by cases h)
      rw [hKl] at g3
      simp only [hKS] at g3 ⊢
      obtain ⟨m, hm'⟩ : ∃ m, CR.length = m := ⟨_, rfl⟩
      rw [hm'] at g2 g3
      obtain ⟨⟨⟨d3, n3, e3⟩, T⟩, hT⟩ : ∃ r, moreP q KS (d6, n6, e6) = r := ⟨_, rfl⟩
      rw [hT] at g3
      simp only [hT]
      have g4 := vPlace_fn q d3 n3 e3
      obtain ⟨⟨d4, n4, e4⟩, hP⟩ : ∃ m, belowP (d3, n3, e3) 13 = m := ⟨_, rfl⟩
      simp only [hP] at g4 ⊢
      have g5 := vUnseen_fn q hq hul d4 n4 e4 hne
      obtain ⟨⟨d5, n5, e5⟩, hU⟩ : ∃ m, belowP (d4, n4, e4) (unseenL q.us q.o).length = m := ⟨_, rfl⟩
      simp only [hU] at g5 ⊢
      obtain ⟨lb, hlb⟩ : ∃ l, (unseenL q.us q.o).getD n5.toNat 0 = l := ⟨_, rfl⟩
      rw [hlb] at g5
      simp only [hlb]
      simp only [mkV, yE, yσ, yO, show sRow [] = [] from rfl, show sCells [] = [] from rfl, List.length_nil] at g1 g2 g3 g4 g5 ⊢
      repeat' first | (with_reducible first | refine AWP_seq' ?_ | refine k_normal ?_ | refine AWP_ret ?_ | refine AWP_skip ?_) | ((first | with_reducible refine AWP_reg fun KC J hJ hKC => ?_ | with_reducible refine AWP_regD rfl fun KC J hJ hKC => ?_ | (refine hKC _ _ _ _ _ (callK [0] g1 rfl rfl rfl (by decide) (by simp) rfl rfl Lq ?_)) | (refine hKC _ _ _ _ _ (callN [0] g2 rfl rfl rfl (by decide) (by simp) rfl rfl rfl Lq ?_)) | (refine hKC _ _ _ _ _ (callK [0, 5] g3 rfl rfl rfl (by decide) (by simp) rfl (by simp only [pick, List.map_cons, List.map_nil, getS, renSlot, ren_sCells, mOf, idx]; rfl) Lq ?_)) | (refine hKC _ _ _ _ _ (callK [0] g4 rfl rfl rfl (by decide) (by simp) rfl rfl Lq ?_)) | (refine hKC _ _ _ _ _ (callK [0] g5 rfl rfl rfl (by decide) (by simp) rfl rfl Lq ?_)) | (refine hKC _ _ _ _ _ (callV0 (hcrop) rfl rfl rfl ?_ ?_); (· exact Lq))); simp (maxSteps := 9999999) only [push_cast, seval, ↓reduceIte, backOf, callSets, renSlot, pick, mOf, idx, ren, ren2, ren1, ren0, ren_tCells, ren_pCells, ren_sCells]) | ((first | with_reducible refine hJ _ _ ?_ | (with_reducible refine hJ _ _ ?_ ?_; · kernel_rfl)); clear hJ hKC KC J) | ((with_reducible refine AWP_condF ?_ ?_); · rfl)
      refine ret_keys ?_
      simp (maxSteps := 9999999) only [push_cast, seval, ↓reduceIte, show Tryz.f188.results = #[(.cell 4 39)] from rfl]
      exact ⟨rfl, by simp only [vOutD, hCe, hMe]; exact leD_refl _⟩
  · have hh' : hid q.us q.o s.l = false := by simpa using hh
    rw [hh'] at g1
    have hst : stateP q s (d, n0, e) = ((mapF (vSP q) s.stack (d2, n2, e2)).1, ⟨s.v, s.l, MC.2, MM.2, (mapF (vSP q) s.stack (d2, n2, e2)).2, s.out⟩) := by
      unfold stateP; simp only [hMC, hMM, hM2]; rw [if_neg hh]
    rw [hst]
    clear hst
    rcases Nat.eq_zero_or_pos s.stack.length with h0 | h0
    · have hC0 : s.stack = [] := List.length_eq_zero_iff.1 h0
      have hfl : ((!hid q.us q.o s.l) && decide (s.stack = [])) = true := by rw [hh', hC0]; rfl
      rw [hfl, hC0]
      have g2 := vSlots0_fn q d2 e2 f3
      simp only [mapF, List.foldl_nil, mkV, show sRow [] = [] from rfl] at g1 g2 ⊢
      repeat' first | (with_reducible first | refine AWP_seq' ?_ | refine k_normal ?_ | refine k_ret ?_ | refine AWP_ret ?_) | ((first | with_reducible refine AWP_reg fun KC J hJ hKC => ?_ | (refine hKC _ _ _ _ _ (callK [0] g1 rfl rfl rfl (by decide) (by simp) rfl rfl Lq ?_)) | (refine hKC _ _ _ _ _ (callK [0] g2 rfl rfl rfl (by decide) (by simp) rfl rfl Lq ?_))); simp (maxSteps := 9999999) only [push_cast, seval, ↓reduceIte, backOf, callSets, renSlot, pick, mOf, idx, ren, ren2, ren1, ren0, ren_tCells, ren_pCells, ren_sCells]) | ((with_reducible refine hJ _ _ ?_); clear hJ hKC KC J) | ((with_reducible refine AWP_condT ?_ ?_); · rfl)
      refine ret_keys ?_
      simp (maxSteps := 9999999) only [push_cast, seval, ↓reduceIte, show Tryz.f188.results = #[(.cell 4 39)] from rfl]
      exact ⟨rfl, by simp only [vOutD, hCe, hMe]; exact leD_refl _⟩
    · have hfl : ((!hid q.us q.o s.l) && decide (s.stack = [])) = false := by
        rw [hh', decide_eq_false (fun h => by rw [h] at h0; cases h0)]; rfl
      rw [hfl]
      have g2 := vSlots_fn q hq d2 n2 e2 f3 s.stack h0 (by omega) hkL
      have hKl := mapF_length (vSP q) (d2, n2, e2) s.stack
      obtain ⟨⟨⟨d6, n6, e6⟩, KS⟩, hKS⟩ : ∃ r, mapF (vSP q) s.stack (d2, n2, e2) = r := ⟨_, rfl⟩
      rw [hKS] at g2 hKl
      simp only [hKS] at g2 hKl ⊢
      have hlC : (sCells KS).length = s.stack.length * 3 := by rw [sCells_length, hKl]
      have hcp : chunk 3 s.stack.length (sCells KS) = sRow KS := by rw [← hKl]; exact chunk_s KS
      simp only [mkV] at g1 g2 ⊢
      repeat' first | (refine AWP_freezeR 16 4 rfl (by (simp (maxSteps := 9999999) only [push_cast, seval, ↓reduceIte]) <;> rfl) ?_; simp (maxSteps := 9999999) only [push_cast, seval, ↓reduceIte, frSt, frSlot, fr3, fr2, fr1, fr0, sameB, arrOf, hlC, hcp, backOf, callSets, renSlot, pick, mOf, idx, ren, ren2, ren1, ren0, ren_tCells, ren_pCells, ren_sCells]) | (with_reducible first | refine AWP_seq' ?_ | refine k_normal ?_ | refine k_ret ?_ | refine AWP_ret ?_) | ((first | with_reducible refine AWP_reg fun KC J hJ hKC => ?_ | (refine hKC _ _ _ _ _ (callK [0] g1 rfl rfl rfl (by decide) (by simp) rfl rfl Lq ?_)) | (refine hKC _ _ _ _ _ (callN [0] g2 rfl rfl rfl (by decide) (by simp) rfl rfl rfl Lq ?_))); simp (maxSteps := 9999999) only [push_cast, seval, ↓reduceIte, hlC, hcp, backOf, callSets, renSlot, pick, mOf, idx, ren, ren2, ren1, ren0, ren_tCells, ren_pCells, ren_sCells]) | ((with_reducible refine hJ _ _ ?_); clear hJ hKC KC J) | ((with_reducible refine AWP_condT ?_ ?_); · rfl)
      refine ret_keys ?_
      simp (maxSteps := 9999999) only [push_cast, seval, ↓reduceIte, show Tryz.f188.results = #[(.cell 4 39)] from rfl]
      exact ⟨rfl, by simp only [vOutD, hCe, hMe]; exact leD_refl _⟩
end Go.Proofs.YtabliglgeiajlaaGreat.AM

namespace Go.Proofs.YtabliglgeiajlaaGreat.AM
open Go Go.RowKit Go.Proofs
set_option maxRecDepth 100000
theorem is_vI (q : VQ) (x : Int × Int × Int) : Is (vIP q x) (vIC q.sp q.us q.o x) := by
  unfold vIC
  by_cases h : x.1 = 1 ∧ hid q.us q.o x.2.2 = true
  · rw [if_pos h]
    exact (Is.bind (is_number q.sp.val) (g := fun v m => (m, (x.1, v, x.2.2))) fun v => .ret _).ext fun m => by unfold vIP; rw [if_pos h]
  · rw [if_neg h]
    exact (Is.ret x).ext fun m => by unfold vIP; rw [if_neg h]
theorem is_vA (q : VQ) (x : Int × Int) : Is (vAP q x) (vAC q.sp q.us q.o x) := by
  unfold vAC
  by_cases h : hid q.us q.o x.2 = true
  · rw [if_pos h]
    exact (Is.bind (is_number q.sp.val) (g := fun v m => (m, (v, x.2))) fun v => .ret _).ext fun m => by unfold vAP; rw [if_pos h]
  · rw [if_neg h]
    exact (Is.ret x).ext fun m => by unfold vAP; rw [if_neg h]
theorem is_value (q : VQ) (r : Bool) : Is (fun m => (valueP q r m, (valueP q r m).2.1)) (vVC q.sp r) := by
  cases r
  · exact is_number _
  · exact is_below 13
theorem is_vS (q : VQ) (x : Bool × Int × Int) : Is (vSP q x) (vSC q.sp q.us q.o x) := by
  unfold vSC
  by_cases h : hid q.us q.o x.2.2 = true
  · rw [if_pos h]
    exact (Is.bind (is_value q x.1) (g := fun v m => (m, (x.1, v, x.2.2))) fun v => .ret _).ext fun m => by unfold vSP; rw [if_pos h]
  · rw [if_neg h]
    exact (Is.ret x).ext fun m => by unfold vSP; rw [if_neg h]
def v1R (q : VQ) (r l : Int) (m : M3) : M3 × (Bool × Int × Int) := (valueP q (decide (r = 1) && hid q.us q.o l) m, (decide (r = 1) && hid q.us q.o l, (valueP q (decide (r = 1) && hid q.us q.o l) m).2.1, l))
theorem is_v1R (q : VQ) (r l : Int) : Is (v1R q r l) ((vVC q.sp (decide (r = 1) && hid q.us q.o l)).bind fun v => .ret (decide (r = 1) && hid q.us q.o l, v, l)) := by
  unfold v1R
  obtain ⟨b, hb⟩ : ∃ b, (decide (r = 1) && hid q.us q.o l) = b := ⟨_, rfl⟩
  rw [hb]
  exact (Is.bind (is_value q b) (g := fun v m => (m, (b, v, l))) fun v => .ret (b, v, l)).ext fun m => rfl
section
attribute [local irreducible] v1R belowP valueP vVC oneC hid Cp.bind
theorem is_v1a (q : VQ) (r : Int) : Is (fun m => v1R q r (belowP m (q.us.length : Int)).2.1 (belowP m (q.us.length : Int))) ((oneC (q.us.length : Int)).bind fun l => (vVC q.sp (decide (r = 1) && hid q.us q.o l)).bind fun v => .ret (decide (r = 1) && hid q.us q.o l, v, l)) :=
  Is.bind (f := fun m => (belowP m (q.us.length : Int), (belowP m (q.us.length : Int)).2.1)) (is_below (q.us.length : Int)) (g := v1R q r) (is_v1R q r)
theorem is_v1b (q : VQ) : Is (fun m => v1R q (belowP m 2).2.1 (belowP (belowP m 2) (q.us.length : Int)).2.1 (belowP (belowP m 2) (q.us.length : Int))) ((oneC 2).bind fun r => (oneC (q.us.length : Int)).bind fun l => (vVC q.sp (decide (r = 1) && hid q.us q.o l)).bind fun v => .ret (decide (r = 1) && hid q.us q.o l, v, l)) :=
  Is.bind (f := fun m => (belowP m 2, (belowP m 2).2.1)) (is_below 2) (g := fun r m => v1R q r (belowP m (q.us.length : Int)).2.1 (belowP m (q.us.length : Int))) (is_v1a q)
end
theorem is_v1 (q : VQ) : Is (v1P q) (v1C q.sp q.us q.o) := by
  have h2 : (fun m => v1R q (belowP m 2).2.1 (belowP (belowP m 2) q.us.length).2.1 (belowP (belowP m 2) q.us.length)) = v1P q := by
    funext m
    simp only [v1P, v1R]
  rw [← h2]
  exact is_v1b q
theorem is_more (q : VQ) (k : List (Bool × Int × Int)) : Is (moreP q k) (moreC q.sp q.us q.o k) :=
  (Is.bind (is_below (q.sp.stack - (k.length : Int) + 1)) (g := fun n m => ((timesF (v1P q) n.toNat m).1, k ++ (timesF (v1P q) n.toNat m).2)) fun n =>
    Is.bind ((is_v1 q).times n.toNat) (g := fun t m => (m, k ++ t)) fun t => .ret _).ext fun m => rfl
theorem is_state (q : VQ) (s : Sta) : Is (stateP q s) (varyC q.sp q.us q.o s) := by
  unfold varyC
  by_cases h : hid q.us q.o s.l = true
  · simp only [if_pos h]
    exact (Is.bind (is_map (is_vI q) s.code) (g := fun c m => (fun a : M3 × List (Int × Int) =>
        (fun k : M3 × List (Bool × Int × Int) => (fun t : M3 × List (Bool × Int × Int) => (belowP (belowP t.1 13) (unseenL q.us q.o).length, (⟨(belowP t.1 13).2.1, (unseenL q.us q.o).getD (belowP (belowP t.1 13) (unseenL q.us q.o).length).2.1.toNat 0, c, a.2, t.2, s.out⟩ : Sta))) (moreP q k.2 k.1)) (mapF (vSP q) (cropS q.us q.o s.stack) a.1)) (mapF (vAP q) s.mem m)) fun c =>
      Is.bind (is_map (is_vA q) s.mem) (g := fun a m => (fun k : M3 × List (Bool × Int × Int) => (fun t : M3 × List (Bool × Int × Int) => (belowP (belowP t.1 13) (unseenL q.us q.o).length, (⟨(belowP t.1 13).2.1, (unseenL q.us q.o).getD (belowP (belowP t.1 13) (unseenL q.us q.o).length).2.1.toNat 0, c, a, t.2, s.out⟩ : Sta))) (moreP q k.2 k.1)) (mapF (vSP q) (cropS q.us q.o s.stack) m)) fun a =>
      Is.bind (is_map (is_vS q) (cropS q.us q.o s.stack)) (g := fun k m => (fun t : M3 × List (Bool × Int × Int) => (belowP (belowP t.1 13) (unseenL q.us q.o).length, (⟨(belowP t.1 13).2.1, (unseenL q.us q.o).getD (belowP (belowP t.1 13) (unseenL q.us q.o).length).2.1.toNat 0, c, a, t.2, s.out⟩ : Sta))) (moreP q k m)) fun k =>
      Is.bind (is_more q k) (g := fun t m => (belowP (belowP m 13) (unseenL q.us q.o).length, (⟨(belowP m 13).2.1, (unseenL q.us q.o).getD (belowP (belowP m 13) (unseenL q.us q.o).length).2.1.toNat 0, c, a, t, s.out⟩ : Sta))) fun t =>
      Is.bind (is_below 13) (g := fun v m => (belowP m (unseenL q.us q.o).length, (⟨v, (unseenL q.us q.o).getD (belowP m (unseenL q.us q.o).length).2.1.toNat 0, c, a, t, s.out⟩ : Sta))) fun v =>
      Is.bind (is_below (unseenL q.us q.o).length) (g := fun n m => (m, (⟨v, (unseenL q.us q.o).getD n.toNat 0, c, a, t, s.out⟩ : Sta))) fun n => .ret _).ext fun m => by
      unfold stateP; rw [if_pos h]
  · simp only [if_neg h]
    exact (Is.bind (is_map (is_vI q) s.code) (g := fun c m => ((mapF (vSP q) s.stack (mapF (vAP q) s.mem m).1).1, (⟨s.v, s.l, c, (mapF (vAP q) s.mem m).2, (mapF (vSP q) s.stack (mapF (vAP q) s.mem m).1).2, s.out⟩ : Sta))) fun c =>
      Is.bind (is_map (is_vA q) s.mem) (g := fun a m => ((mapF (vSP q) s.stack m).1, (⟨s.v, s.l, c, a, (mapF (vSP q) s.stack m).2, s.out⟩ : Sta))) fun a =>
      Is.bind (is_map (is_vS q) s.stack) (g := fun k m => (m, (⟨s.v, s.l, c, a, k, s.out⟩ : Sta))) fun k => .ret _).ext fun m => by
      unfold stateP; rw [if_neg h]
theorem vOut_rle (a b c f4 : Bool) (s : Sta) : Rle (vOutD a b c f4 s) (.agg (staF false false false f4 s)) :=
  Rle.agg (.cons (Rle.refl _) (.cons (Rle.refl _) (.cons (Rle_slY _ _ _) (.cons (Rle_slY _ _ _) (.cons (Rle_slY _ _ _) (.cons (Rle.refl _) .nil))))))
theorem vState_fn (q : VQ) (hq : VOk q) (hul : q.us.length ≤ 8) (d : Dr) (n0 e : Int) (f1 f2 f3 f4 : Bool) (s : Sta) (hs : VIn q s) :
    Fn Tryz.prog 188 [.ptr 0 0 0, .agg (staF f1 f2 f3 f4 s)] [.ent (mkV q d e)] (.agg (staF false false false f4 (stateP q s (d, n0, e)).2)) [.ent (mkV q (stateP q s (d, n0, e)).1.1 (stateP q s (d, n0, e)).1.2.2)] := by
  rcases Nat.eq_zero_or_pos s.code.length with h1 | h1 <;> rcases Nat.eq_zero_or_pos s.mem.length with h2 | h2
  · exact (vState00_fn q hq hul d n0 e f1 f2 f3 f4 s hs (List.length_eq_zero_iff.1 h1) (List.length_eq_zero_iff.1 h2)).post (vOut_rle _ _ _ _ _)
  · exact (vState01_fn q hq hul d n0 e f1 f2 f3 f4 s hs (List.length_eq_zero_iff.1 h1) h2).post (vOut_rle _ _ _ _ _)
  · exact (vState10_fn q hq hul d n0 e f1 f2 f3 f4 s hs h1 (List.length_eq_zero_iff.1 h2)).post (vOut_rle _ _ _ _ _)
  · exact (vState11_fn q hq hul d n0 e f1 f2 f3 f4 s hs h1 h2).post (vOut_rle _ _ _ _ _)
end Go.Proofs.YtabliglgeiajlaaGreat.AM

namespace Go.Proofs.YtabliglgeiajlaaGreat.AM
open Go Go.RowKit Go.Proofs
set_option maxRecDepth 100000
set_option maxHeartbeats 4000000
theorem far_fn (h : Bool) (sp : Sp) (v : Int) (h0 : 0 ≤ sp.val) (h1 : sp.val ≤ 20) : Fn Tryz.prog 94 [.v (.int .i64 v), .fad (spF h sp)] [] (.v (.bool (!inB (-sp.val) sp.val v))) [] := by
  have hw : IntKind.i64.wrap (0 - sp.val) = -sp.val := by rw [wrapI (by omega) (by omega)]; omega
  obtain ⟨x, hx⟩ : ∃ x, decide (v < -sp.val) = x := ⟨_, rfl⟩
  have he : (!inB (-sp.val) sp.val v) = (x || decide (sp.val < v)) := by
    rw [← hx, Bool.eq_iff_iff]; first | (simp [inB]; done) | (simp [inB]; omega)
  rw [he]
  simp only [spF]
  refine Fn.of (fn := Tryz.f94) (by kernel_rfl) rfl (by kernel_rfl) ⟨[.v (.int .i64 v), .fad [.v (.int .i64 sp.code), .v (.int .i64 sp.mem), .v (.int .i64 sp.stack), .v (.int .i64 sp.val), .sl h 1 (intRow sp.ws)], .v undef, .v undef, .v undef, .v undef, .v undef, .v undef, .v undef, .v undef, .v undef, .v undef, .v undef, .v undef, .v undef], []⟩ rfl ?_
  cases x
  all_goals
    repeat' first | (with_reducible first | refine AWP_seq' ?_ | refine k_normal ?_ | refine AWP_ret ?_) | ((with_reducible refine AWP_reg fun KC J hJ hKC => ?_); simp (maxSteps := 9999999) only [push_cast, seval, ↓reduceIte, hw, hx, undef]) | ((with_reducible refine hJ _ _ ?_); clear hJ hKC KC J)
    refine ret_plain ?_
    simp (maxSteps := 9999999) only [push_cast, seval, ↓reduceIte, show Tryz.f94.results = #[(.tmp 3)] from rfl]
    exact Lq
theorem hasI_fn (h : Bool) (sp : Sp) (x : Int × Int × Int) (h0 : 0 ≤ sp.val) (h1 : sp.val ≤ 20) (hx : 0 ≤ x.1) (hl : x.1 < sp.ws.length) (hw : sp.ws.length ≤ 1000) :
    Fn Tryz.prog 95 [.agg [.v (.int .i64 x.1), .v (.int .i64 x.2.1), .v (.int .i64 x.2.2)], .fad (spF h sp), .fad [.fn 94 [.fad (spF h sp)]]] [] (.v (.bool (!instrIn sp x))) [] := by
  obtain ⟨o, v, l⟩ := x
  simp only at hx hl ⊢
  obtain ⟨k, rfl⟩ : ∃ k : Nat, o = k := ⟨o.toNat, by omega⟩
  have h2 := far_fn h sp v h0 h1
  have hk : sp.ws[k]? = some sp.ws[k] := List.getElem?_eq_getElem (by omega)
  obtain ⟨w, hw0⟩ : ∃ w, sp.ws[k] = w := ⟨_, rfl⟩
  rw [hw0] at hk
  have hg : sp.ws.getD k 0 = w := by rw [List.getD_eq_getElem?_getD, hk]; rfl
  have hi : instrIn sp ((k : Int), v, l) = (!(w == 0) && (!((k : Int) == 1) || inB (-sp.val) sp.val v)) := by
    have hde : ∀ a b : Int, decide (a = b) = (a == b) := fun a b => by rw [Bool.eq_iff_iff]; simp
    simp only [instrIn, Int.toNat_natCast, hde]
    rw [hg]
  rw [hi]
  obtain ⟨a, ha⟩ : ∃ a, (w == 0) = a := ⟨_, rfl⟩
  obtain ⟨b, hb⟩ : ∃ b, ((k : Int) == 1) = b := ⟨_, rfl⟩
  obtain ⟨c, hc⟩ : ∃ c, inB (-sp.val) sp.val v = c := ⟨_, rfl⟩
  rw [hc] at h2 ⊢
  rw [ha, hb]
  simp only [spF] at h2 ⊢
  refine Fn.of (fn := Tryz.f95) (by kernel_rfl) rfl (by kernel_rfl) ⟨[.agg [.v (.int .i64 (k : Int)), .v (.int .i64 v), .v (.int .i64 l)], .fad [.v (.int .i64 sp.code), .v (.int .i64 sp.mem), .v (.int .i64 sp.stack), .v (.int .i64 sp.val), .sl h 1 (intRow sp.ws)], .fad [.fn 94 [.fad [.v (.int .i64 sp.code), .v (.int .i64 sp.mem), .v (.int .i64 sp.stack), .v (.int .i64 sp.val), .sl h 1 (intRow sp.ws)]]], .v undef, .v undef, .v undef, .v undef, .v undef, .v undef, .v undef, .v undef, .v undef, .v undef, .v undef, .v undef, .v undef, .v undef, .v undef, .v undef, .v undef, .v undef, .v undef, .v undef], []⟩ rfl ?_
  cases a
  case true =>
    repeat' first | (with_reducible first | refine AWP_seq' ?_ | refine k_normal ?_ | refine AWP_ret ?_) | ((with_reducible refine And.intro ?_ ?_); · exact Sq) | ((with_reducible refine AWP_reg fun KC J hJ hKC => ?_); simp (maxSteps := 9999999) only [push_cast, seval, ↓reduceIte, getE_intRow hk, ha, undef]) | ((with_reducible refine hJ _ _ ?_); clear hJ hKC KC J)
    refine ret_plain ?_
    simp (maxSteps := 9999999) only [push_cast, seval, ↓reduceIte, show Tryz.f95.results = #[(.tmp 4)] from rfl]
    exact Lq
  cases b
  all_goals
    repeat' first | (with_reducible first | refine AWP_seq' ?_ | refine k_normal ?_ | refine AWP_ret ?_) | ((with_reducible refine And.intro ?_ ?_); · exact Sq) | ((first | with_reducible refine AWP_reg fun KC J hJ hKC => ?_ | (refine hKC _ _ _ _ _ (callV0 (h2) rfl rfl rfl ?_ ?_); (· exact Lq))); simp (maxSteps := 9999999) only [push_cast, seval, ↓reduceIte, getE_intRow hk, ha, hb, undef]) | ((with_reducible refine hJ _ _ ?_); clear hJ hKC KC J)
    refine ret_plain ?_
    simp (maxSteps := 9999999) only [push_cast, seval, ↓reduceIte, show Tryz.f95.results = #[(.tmp 4)] from rfl]
    exact Lq
def nearA (sp : Sp) (a : Int × Int) : Bool := inB (-sp.val) sp.val a.1
def nearS (sp : Sp) (x : Bool × Int × Int) : Bool := x.1 || inB (-sp.val) sp.val x.2.1
theorem hasA_fn (h : Bool) (sp : Sp) (x : Int × Int) (h0 : 0 ≤ sp.val) (h1 : sp.val ≤ 20) : Fn Tryz.prog 99 [.agg [.v (.int .i64 x.1), .v (.int .i64 x.2)], .fad [.fn 94 [.fad (spF h sp)]]] [] (.v (.bool (!nearA sp x))) [] := by
  have h2 := far_fn h sp x.1 h0 h1
  unfold nearA
  simp only [spF] at h2 ⊢
  refine Fn.of (fn := Tryz.f99) (by kernel_rfl) rfl (by kernel_rfl) ⟨[.agg [.v (.int .i64 x.1), .v (.int .i64 x.2)], .fad [.fn 94 [.fad [.v (.int .i64 sp.code), .v (.int .i64 sp.mem), .v (.int .i64 sp.stack), .v (.int .i64 sp.val), .sl h 1 (intRow sp.ws)]]], .v undef, .v undef, .v undef, .v undef, .v undef, .v undef], []⟩ rfl ?_
  repeat' first | (with_reducible first | refine AWP_seq' ?_ | refine k_normal ?_ | refine AWP_ret ?_) | ((first | with_reducible refine AWP_reg fun KC J hJ hKC => ?_ | (refine hKC _ _ _ _ _ (callV0 (h2) rfl rfl rfl ?_ ?_); (· exact Lq))); simp (maxSteps := 9999999) only [push_cast, seval, ↓reduceIte]) | ((with_reducible refine hJ _ _ ?_); clear hJ hKC KC J)
  refine ret_plain ?_
  simp (maxSteps := 9999999) only [push_cast, seval, ↓reduceIte, show Tryz.f99.results = #[(.tmp 3)] from rfl]
  exact Lq
theorem hasS_fn (h : Bool) (sp : Sp) (x : Bool × Int × Int) (h0 : 0 ≤ sp.val) (h1 : sp.val ≤ 20) : Fn Tryz.prog 101 [.agg [.v (.bool x.1), .v (.int .i64 x.2.1), .v (.int .i64 x.2.2)], .fad [.fn 94 [.fad (spF h sp)]]] [] (.v (.bool (!nearS sp x))) [] := by
  obtain ⟨r, v, l⟩ := x
  have h2 := far_fn h sp v h0 h1
  simp only [nearS, spF] at h2 ⊢
  cases r
  · refine Fn.of (fn := Tryz.f101) (by kernel_rfl) rfl (by kernel_rfl) ⟨[.agg [.v (.bool false), .v (.int .i64 v), .v (.int .i64 l)], .fad [.fn 94 [.fad [.v (.int .i64 sp.code), .v (.int .i64 sp.mem), .v (.int .i64 sp.stack), .v (.int .i64 sp.val), .sl h 1 (intRow sp.ws)]]], .v undef, .v undef, .v undef, .v undef, .v undef, .v undef, .v undef, .v undef, .v undef, .v undef, .v undef], []⟩ rfl ?_
    repeat' first | (with_reducible first | refine AWP_seq' ?_ | refine k_normal ?_ | refine AWP_ret ?_) | ((first | with_reducible refine AWP_reg fun KC J hJ hKC => ?_ | (refine hKC _ _ _ _ _ (callV0 (h2) rfl rfl rfl ?_ ?_); (· exact Lq))); simp (maxSteps := 9999999) only [push_cast, seval, ↓reduceIte, undef]) | ((with_reducible refine hJ _ _ ?_); clear hJ hKC KC J)
    refine ret_plain ?_
    simp (maxSteps := 9999999) only [push_cast, seval, ↓reduceIte, show Tryz.f101.results = #[(.tmp 3)] from rfl]
    exact Lq
  · refine Fn.of (fn := Tryz.f101) (by kernel_rfl) rfl (by kernel_rfl) ⟨[.agg [.v (.bool true), .v (.int .i64 v), .v (.int .i64 l)], .fad [.fn 94 [.fad [.v (.int .i64 sp.code), .v (.int .i64 sp.mem), .v (.int .i64 sp.stack), .v (.int .i64 sp.val), .sl h 1 (intRow sp.ws)]]], .v undef, .v undef, .v undef, .v undef, .v undef, .v undef, .v undef, .v undef, .v undef, .v undef, .v undef], []⟩ rfl ?_
    repeat' first | (with_reducible first | refine AWP_seq' ?_ | refine k_normal ?_ | refine AWP_ret ?_) | ((with_reducible refine AWP_reg fun KC J hJ hKC => ?_); simp (maxSteps := 9999999) only [push_cast, seval, ↓reduceIte, undef]) | ((with_reducible refine hJ _ _ ?_); clear hJ hKC KC J)
    refine ret_plain ?_
    simp (maxSteps := 9999999) only [push_cast, seval, ↓reduceIte, show Tryz.f101.results = #[(.tmp 3)] from rfl]
    exact Lq
theorem hasB_eq (n : Nat) (sp : Sp) (s : Sta) : hasB n sp s = (staB n s && (decide ((s.code.length : Int) ≤ sp.code) && (decide ((s.mem.length : Int) ≤ sp.mem) && (decide ((s.stack.length : Int) ≤ sp.stack) && (decide (s.out.length = 0) &&
    ((!s.code.any fun x => !instrIn sp x) && ((!s.mem.any fun x => !nearA sp x) && (!s.stack.any fun x => !nearS sp x)))))))) := by
  simp only [any_not]; rfl
theorem instrB_op {n : Nat} {x : Int × Int × Int} (h : instrB n x = true) : 0 ≤ x.1 ∧ x.1 < 13 := by
  unfold instrB at h
  split at h
  · omega
  · simp only [Bool.and_eq_true, inB_iff] at h; omega
def hasF (ns : List ByteArray) (us : List Nat) (sp : Sp) (s : Sta) : Bool := decide (mayG ns us sp = 0) && hasB us.length sp s
set_option maxHeartbeats 16000000 in
theorem genHas_fn (f g h : Bool) (ns : List ByteArray) (us : List Nat) (sp : Sp) (s : Sta) (hs : Szs ns) (hu : U32 us) (hw : sp.ws.length ≤ 1000) (hl : Sml s) :
    Fn Tryz.prog 48 [.agg [.sl f 1 (strRow ns), .sl g 1 (u32Row us)], .agg (spF h sp), .agg (staF false false false false s)] [] (.tup [.v (.bool (hasF ns us sp s)), .v (.int .i64 (mayG ns us sp))]) [] := by
  have h1 := genMay_fn f g h ns us sp hs hu hw
  unfold hasF
  obtain ⟨m, hm⟩ : ∃ m, mayG ns us sp = m := ⟨_, rfl⟩
  rw [hm] at h1 ⊢
  by_cases h0 : m = 0
  case neg =>
    have h0' : (m != 0) = true := by simpa using h0
    rw [decide_eq_false h0, Bool.false_and]
    simp only [spF, staF] at h1 ⊢
    refine Fn.of (fn := Tryz.f48) (by kernel_rfl) rfl (by kernel_rfl) ⟨[.agg [.sl f 1 (strRow ns), .sl g 1 (u32Row us)], .agg [.v (.int .i64 sp.code), .v (.int .i64 sp.mem), .v (.int .i64 sp.stack), .v (.int .i64 sp.val), .sl h 1 (intRow sp.ws)], .agg [.v (.int .i64 s.v), .v (.int .i64 s.l), .sl false 3 (tRow s.code), .sl false 2 (pRow s.mem), .sl false 3 (sRow s.stack), .sl false 2 (pRow s.out)], .v undef, .v undef, .v undef, .v undef, .v undef, .v undef, .v undef, .v undef, .v undef, .v undef, .v undef, .v undef, .v undef, .v undef, .v undef, .v undef, .v undef, .v undef, .v undef, .v undef, .v undef, .v undef, .v undef, .v undef, .v undef, .v undef, .v undef, .v undef, .v undef, .v undef, .v undef, .v undef, .v undef, .v undef, .v undef, .v undef, .v undef, .v undef, .v undef, .v undef, .v undef, .v undef, .v undef, .v undef, .v undef, .v undef, .v undef, .v undef, .v undef, .v undef, .v undef, .v undef, .v undef, .v undef, .v undef, .v undef, .v undef, .v undef, .v undef, .v undef, .v undef, .v undef, .v undef, .v undef, .v undef, .v undef, .v undef, .v undef, .v undef, .v undef, .v undef, .v undef], []⟩ rfl ?_
    repeat' first | (with_reducible first | refine AWP_seq' ?_ | refine k_normal ?_ | refine k_ret ?_ | refine AWP_ret ?_) | ((first | with_reducible refine AWP_reg fun KC J hJ hKC => ?_ | (refine hKC _ _ _ _ _ (callV0 (h1) rfl rfl rfl ?_ ?_); (· exact Lq))); simp (maxSteps := 9999999) only [push_cast, seval, ↓reduceIte, h0', undef]) | ((with_reducible refine hJ _ _ ?_); clear hJ hKC KC J) | ((with_reducible refine AWP_condT ?_ ?_); · rfl)
    refine ret_plain ?_
    simp (maxSteps := 9999999) only [push_cast, seval, ↓reduceIte, show Tryz.f48.results = #[(.tmp 6), (.tmp 7)] from rfl]
    exact Lq
  subst h0
  rw [decide_eq_true rfl, Bool.true_and]
  have hok : checkF ns us = 0 ∧ SpOk sp := by
    unfold mayG at hm
    split at hm
    · rename_i hc
      split at hm
      · rename_i hsp; exact ⟨hc, spB_iff.1 hsp⟩
      · cases hm
    · rename_i hc; exact absurd hm hc
  obtain ⟨hc, hsp⟩ := hok
  have h2 := stRight_fn f g ns us s hs hu hc hl
  obtain ⟨l1, l2, l3, l4⟩ := hl
  have hst : staB us.length s = true → ∀ x ∈ s.code, 0 ≤ x.1 ∧ x.1 < sp.ws.length := fun hh x hx => by
    simp only [staB, codeB, Bool.and_eq_true, List.all_eq_true] at hh
    have := instrB_op (hh.1.1 x hx)
    rw [hsp.wl]; exact this
  have h3 := fun hh => containsFuncT_fn false s.code 95 [.fad (spF h sp), .fad [.fn 94 [.fad (spF h sp)]]] (fun x => !instrIn sp x) l1 rfl (fun x hx => hasI_fn h sp x hsp.v0 hsp.v1 (hst hh x hx).1 (hst hh x hx).2 hw)
  have h4 := containsFuncA_fn false s.mem 99 [.fad [.fn 94 [.fad (spF h sp)]]] (fun x => !nearA sp x) l2 rfl (fun x _ => hasA_fn h sp x hsp.v0 hsp.v1)
  have h5 := containsFuncS_fn false s.stack 101 [.fad [.fn 94 [.fad (spF h sp)]]] (fun x => !nearS sp x) l3 rfl (fun x _ => hasS_fn h sp x hsp.v0 hsp.v1)
  rw [hasB_eq]
  obtain ⟨c1, hc1⟩ : ∃ x, staB us.length s = x := ⟨_, rfl⟩
  obtain ⟨d1, hd1⟩ : ∃ x, decide ((s.code.length : Int) ≤ sp.code) = x := ⟨_, rfl⟩
  obtain ⟨d2, hd2⟩ : ∃ x, decide ((s.mem.length : Int) ≤ sp.mem) = x := ⟨_, rfl⟩
  obtain ⟨d3, hd3⟩ : ∃ x, decide ((s.stack.length : Int) ≤ sp.stack) = x := ⟨_, rfl⟩
  obtain ⟨d4, hd4⟩ : ∃ x, decide (s.out.length = 0) = x := ⟨_, rfl⟩
  have hd4' : ((s.out.length : Int) == 0) = d4 := by rw [← hd4, Bool.eq_iff_iff]; simp
  obtain ⟨c3, hc3⟩ : ∃ x, (s.code.any fun x => !instrIn sp x) = x := ⟨_, rfl⟩
  obtain ⟨c4, hc4⟩ : ∃ x, (s.mem.any fun x => !nearA sp x) = x := ⟨_, rfl⟩
  obtain ⟨c5, hc5⟩ : ∃ x, (s.stack.any fun x => !nearS sp x) = x := ⟨_, rfl⟩
  rw [hc1] at h2 h3 ⊢
  rw [hc3] at h3 ⊢
  rw [hc4] at h4 ⊢
  rw [hc5] at h5 ⊢
  rw [hd1, hd2, hd3, hd4]
  clear hst
  simp only [spF, staF] at h1 h2 h3 h4 h5 ⊢
  refine Fn.of (fn := Tryz.f48) (by kernel_rfl) rfl (by kernel_rfl) ⟨[.agg [.sl f 1 (strRow ns), .sl g 1 (u32Row us)], .agg [.v (.int .i64 sp.code), .v (.int .i64 sp.mem), .v (.int .i64 sp.stack), .v (.int .i64 sp.val), .sl h 1 (intRow sp.ws)], .agg [.v (.int .i64 s.v), .v (.int .i64 s.l), .sl false 3 (tRow s.code), .sl false 2 (pRow s.mem), .sl false 3 (sRow s.stack), .sl false 2 (pRow s.out)], .v undef, .v undef, .v undef, .v undef, .v undef, .v undef, .v undef, .v undef, .v undef, .v undef, .v undef, .v undef, .v undef, .v undef, .v undef, .v undef, .v undef, .v undef, .v undef, .v undef, .v undef, .v undef, .v undef, .v undef, .v undef, .v undef, .v undef, .v undef, .v undef, .v undef, .v undef, .v undef, .v undef, .v undef, .v undef, .v undef, .v undef, .v undef, .v undef, .v undef, .v undef, .v undef, .v undef, .v undef, .v undef, .v undef, .v undef, .v undef, .v undef, .v undef, .v undef, .v undef, .v undef, .v undef, .v undef, .v undef, .v undef, .v undef, .v undef, .v undef, .v undef, .v undef, .v undef, .v undef, .v undef, .v undef, .v undef, .v undef, .v undef, .v undef, .v undef, .v undef], []⟩ rfl ?_
  cases d1
  case false =>
    cases c1
    all_goals
      repeat' first | (refine AWP_freezeR 4 1 rfl (by (simp (maxSteps := 9999999) only [push_cast, seval, ↓reduceIte]) <;> rfl) ?_; simp (maxSteps := 9999999) only [push_cast, seval, ↓reduceIte, frSt, frSlot, fr3, fr2, fr1, fr0, sameB, arrOf, hd1, hd2, hd3, hd4', undef]) | (refine AWP_freezeR 5 4 rfl (by (simp (maxSteps := 9999999) only [push_cast, seval, ↓reduceIte]) <;> rfl) ?_; simp (maxSteps := 9999999) only [push_cast, seval, ↓reduceIte, frSt, frSlot, fr3, fr2, fr1, fr0, sameB, arrOf, hd1, hd2, hd3, hd4', undef]) | (with_reducible first | refine AWP_seq' ?_ | refine k_normal ?_ | refine AWP_ret ?_ | refine AWP_skip ?_) | ((first | with_reducible refine AWP_reg fun KC J hJ hKC => ?_ | (refine hKC _ _ _ _ _ (callV0 (h1) rfl rfl rfl ?_ ?_); (· exact Lq)) | (refine hKC _ _ _ _ _ (callV0 (h2) rfl rfl rfl ?_ ?_); (· exact Lq))); simp (maxSteps := 9999999) only [push_cast, seval, ↓reduceIte, hd1, hd2, hd3, hd4', undef]) | ((with_reducible refine hJ _ _ ?_); clear hJ hKC KC J) | ((with_reducible refine AWP_condF ?_ ?_); · rfl)
      refine ret_plain ?_
      simp (maxSteps := 9999999) only [push_cast, seval, ↓reduceIte, show Tryz.f48.results = #[(.tmp 6), (.tmp 7)] from rfl]
      exact Lq
  cases d2
  case false =>
    cases c1
    all_goals
      repeat' first | (refine AWP_freezeR 4 1 rfl (by (simp (maxSteps := 9999999) only [push_cast, seval, ↓reduceIte]) <;> rfl) ?_; simp (maxSteps := 9999999) only [push_cast, seval, ↓reduceIte, frSt, frSlot, fr3, fr2, fr1, fr0, sameB, arrOf, hd1, hd2, hd3, hd4', undef]) | (refine AWP_freezeR 5 4 rfl (by (simp (maxSteps := 9999999) only [push_cast, seval, ↓reduceIte]) <;> rfl) ?_; simp (maxSteps := 9999999) only [push_cast, seval, ↓reduceIte, frSt, frSlot, fr3, fr2, fr1, fr0, sameB, arrOf, hd1, hd2, hd3, hd4', undef]) | (with_reducible first | refine AWP_seq' ?_ | refine k_normal ?_ | refine AWP_ret ?_ | refine AWP_skip ?_) | ((first | with_reducible refine AWP_reg fun KC J hJ hKC => ?_ | (refine hKC _ _ _ _ _ (callV0 (h1) rfl rfl rfl ?_ ?_); (· exact Lq)) | (refine hKC _ _ _ _ _ (callV0 (h2) rfl rfl rfl ?_ ?_); (· exact Lq))); simp (maxSteps := 9999999) only [push_cast, seval, ↓reduceIte, hd1, hd2, hd3, hd4', undef]) | ((with_reducible refine hJ _ _ ?_); clear hJ hKC KC J) | ((with_reducible refine AWP_condF ?_ ?_); · rfl)
      refine ret_plain ?_
      simp (maxSteps := 9999999) only [push_cast, seval, ↓reduceIte, show Tryz.f48.results = #[(.tmp 6), (.tmp 7)] from rfl]
      exact Lq
  cases d3
  case false =>
    cases c1
    all_goals
      repeat' first | (refine AWP_freezeR 4 1 rfl (by (simp (maxSteps := 9999999) only [push_cast, seval, ↓reduceIte]) <;> rfl) ?_; simp (maxSteps := 9999999) only [push_cast, seval, ↓reduceIte, frSt, frSlot, fr3, fr2, fr1, fr0, sameB, arrOf, hd1, hd2, hd3, hd4', undef]) | (refine AWP_freezeR 5 4 rfl (by (simp (maxSteps := 9999999) only [push_cast, seval, ↓reduceIte]) <;> rfl) ?_; simp (maxSteps := 9999999) only [push_cast, seval, ↓reduceIte, frSt, frSlot, fr3, fr2, fr1, fr0, sameB, arrOf, hd1, hd2, hd3, hd4', undef]) | (with_reducible first | refine AWP_seq' ?_ | refine k_normal ?_ | refine AWP_ret ?_ | refine AWP_skip ?_) | ((first | with_reducible refine AWP_reg fun KC J hJ hKC => ?_ | (refine hKC _ _ _ _ _ (callV0 (h1) rfl rfl rfl ?_ ?_); (· exact Lq)) | (refine hKC _ _ _ _ _ (callV0 (h2) rfl rfl rfl ?_ ?_); (· exact Lq))); simp (maxSteps := 9999999) only [push_cast, seval, ↓reduceIte, hd1, hd2, hd3, hd4', undef]) | ((with_reducible refine hJ _ _ ?_); clear hJ hKC KC J) | ((with_reducible refine AWP_condF ?_ ?_); · rfl)
      refine ret_plain ?_
      simp (maxSteps := 9999999) only [push_cast, seval, ↓reduceIte, show Tryz.f48.results = #[(.tmp 6), (.tmp 7)] from rfl]
      exact Lq
  cases c1
  case false =>
    repeat' first | (refine AWP_freezeR 4 1 rfl (by (simp (maxSteps := 9999999) only [push_cast, seval, ↓reduceIte]) <;> rfl) ?_; simp (maxSteps := 9999999) only [push_cast, seval, ↓reduceIte, frSt, frSlot, fr3, fr2, fr1, fr0, sameB, arrOf, hd1, hd2, hd3, hd4', undef]) | (refine AWP_freezeR 5 4 rfl (by (simp (maxSteps := 9999999) only [push_cast, seval, ↓reduceIte]) <;> rfl) ?_; simp (maxSteps := 9999999) only [push_cast, seval, ↓reduceIte, frSt, frSlot, fr3, fr2, fr1, fr0, sameB, arrOf, hd1, hd2, hd3, hd4', undef]) | (with_reducible first | refine AWP_seq' ?_ | refine k_normal ?_ | refine AWP_ret ?_ | refine AWP_skip ?_) | ((first | with_reducible refine AWP_reg fun KC J hJ hKC => ?_ | (refine hKC _ _ _ _ _ (callV0 (h1) rfl rfl rfl ?_ ?_); (· exact Lq)) | (refine hKC _ _ _ _ _ (callV0 (h2) rfl rfl rfl ?_ ?_); (· exact Lq))); simp (maxSteps := 9999999) only [push_cast, seval, ↓reduceIte, hd1, hd2, hd3, hd4', undef]) | ((with_reducible refine hJ _ _ ?_); clear hJ hKC KC J) | ((with_reducible refine AWP_condF ?_ ?_); · rfl)
    refine ret_plain ?_
    simp (maxSteps := 9999999) only [push_cast, seval, ↓reduceIte, show Tryz.f48.results = #[(.tmp 6), (.tmp 7)] from rfl]
    exact Lq
  have h3 := h3 rfl
  cases d4
  case false =>
    repeat' first | (refine AWP_freezeR 4 1 rfl (by (simp (maxSteps := 9999999) only [push_cast, seval, ↓reduceIte]) <;> rfl) ?_; simp (maxSteps := 9999999) only [push_cast, seval, ↓reduceIte, frSt, frSlot, fr3, fr2, fr1, fr0, sameB, arrOf, hd1, hd2, hd3, hd4', undef]) | (refine AWP_freezeR 5 4 rfl (by (simp (maxSteps := 9999999) only [push_cast, seval, ↓reduceIte]) <;> rfl) ?_; simp (maxSteps := 9999999) only [push_cast, seval, ↓reduceIte, frSt, frSlot, fr3, fr2, fr1, fr0, sameB, arrOf, hd1, hd2, hd3, hd4', undef]) | (with_reducible first | refine AWP_seq' ?_ | refine k_normal ?_ | refine AWP_ret ?_ | refine AWP_skip ?_) | ((first | with_reducible refine AWP_reg fun KC J hJ hKC => ?_ | (refine hKC _ _ _ _ _ (callV0 (h1) rfl rfl rfl ?_ ?_); (· exact Lq)) | (refine hKC _ _ _ _ _ (callV0 (h2) rfl rfl rfl ?_ ?_); (· exact Lq))); simp (maxSteps := 9999999) only [push_cast, seval, ↓reduceIte, hd1, hd2, hd3, hd4', undef]) | ((with_reducible refine hJ _ _ ?_); clear hJ hKC KC J) | ((with_reducible refine AWP_condF ?_ ?_); · rfl)
    refine ret_plain ?_
    simp (maxSteps := 9999999) only [push_cast, seval, ↓reduceIte, show Tryz.f48.results = #[(.tmp 6), (.tmp 7)] from rfl]
    exact Lq
  cases c3
  case true =>
    repeat' first | (refine AWP_freezeR 4 1 rfl (by (simp (maxSteps := 9999999) only [push_cast, seval, ↓reduceIte]) <;> rfl) ?_; simp (maxSteps := 9999999) only [push_cast, seval, ↓reduceIte, frSt, frSlot, fr3, fr2, fr1, fr0, sameB, arrOf, hd1, hd2, hd3, hd4', undef]) | (refine AWP_freezeR 5 4 rfl (by (simp (maxSteps := 9999999) only [push_cast, seval, ↓reduceIte]) <;> rfl) ?_; simp (maxSteps := 9999999) only [push_cast, seval, ↓reduceIte, frSt, frSlot, fr3, fr2, fr1, fr0, sameB, arrOf, hd1, hd2, hd3, hd4', undef]) | (with_reducible first | refine AWP_seq' ?_ | refine k_normal ?_ | refine AWP_ret ?_ | refine AWP_skip ?_) | ((first | with_reducible refine AWP_reg fun KC J hJ hKC => ?_ | (refine hKC _ _ _ _ _ (callV0 (h1) rfl rfl rfl ?_ ?_); (· exact Lq)) | (refine hKC _ _ _ _ _ (callV0 (h2) rfl rfl rfl ?_ ?_); (· exact Lq)) | (refine hKC _ _ _ _ _ (callV0 (h3) rfl rfl rfl ?_ ?_); (· exact Lq))); simp (maxSteps := 9999999) only [push_cast, seval, ↓reduceIte, hd1, hd2, hd3, hd4', undef]) | ((with_reducible refine hJ _ _ ?_); clear hJ hKC KC J) | ((with_reducible refine AWP_condF ?_ ?_); · rfl)
    refine ret_plain ?_
    simp (maxSteps := 9999999) only [push_cast, seval, ↓reduceIte, show Tryz.f48.results = #[(.tmp 6), (.tmp 7)] from rfl]
    exact Lq
  cases c4
  case true =>
    repeat' first | (refine AWP_freezeR 4 1 rfl (by (simp (maxSteps := 9999999) only [push_cast, seval, ↓reduceIte]) <;> rfl) ?_; simp (maxSteps := 9999999) only [push_cast, seval, ↓reduceIte, frSt, frSlot, fr3, fr2, fr1, fr0, sameB, arrOf, hd1, hd2, hd3, hd4', undef]) | (refine AWP_freezeR 5 4 rfl (by (simp (maxSteps := 9999999) only [push_cast, seval, ↓reduceIte]) <;> rfl) ?_; simp (maxSteps := 9999999) only [push_cast, seval, ↓reduceIte, frSt, frSlot, fr3, fr2, fr1, fr0, sameB, arrOf, hd1, hd2, hd3, hd4', undef]) | (with_reducible first | refine AWP_seq' ?_ | refine k_normal ?_ | refine AWP_ret ?_ | refine AWP_skip ?_) | ((first | with_reducible refine AWP_reg fun KC J hJ hKC => ?_ | (refine hKC _ _ _ _ _ (callV0 (h1) rfl rfl rfl ?_ ?_); (· exact Lq)) | (refine hKC _ _ _ _ _ (callV0 (h2) rfl rfl rfl ?_ ?_); (· exact Lq)) | (refine hKC _ _ _ _ _ (callV0 (h3) rfl rfl rfl ?_ ?_); (· exact Lq)) | (refine hKC _ _ _ _ _ (callV0 (h4) rfl rfl rfl ?_ ?_); (· exact Lq))); simp (maxSteps := 9999999) only [push_cast, seval, ↓reduceIte, hd1, hd2, hd3, hd4', undef]) | ((with_reducible refine hJ _ _ ?_); clear hJ hKC KC J) | ((with_reducible refine AWP_condF ?_ ?_); · rfl)
    refine ret_plain ?_
    simp (maxSteps := 9999999) only [push_cast, seval, ↓reduceIte, show Tryz.f48.results = #[(.tmp 6), (.tmp 7)] from rfl]
    exact Lq
  repeat' first | (refine AWP_freezeR 4 1 rfl (by (simp (maxSteps := 9999999) only [push_cast, seval, ↓reduceIte]) <;> rfl) ?_; simp (maxSteps := 9999999) only [push_cast, seval, ↓reduceIte, frSt, frSlot, fr3, fr2, fr1, fr0, sameB, arrOf, hd1, hd2, hd3, hd4', undef]) | (refine AWP_freezeR 5 4 rfl (by (simp (maxSteps := 9999999) only [push_cast, seval, ↓reduceIte]) <;> rfl) ?_; simp (maxSteps := 9999999) only [push_cast, seval, ↓reduceIte, frSt, frSlot, fr3, fr2, fr1, fr0, sameB, arrOf, hd1, hd2, hd3, hd4', undef]) | (with_reducible first | refine AWP_seq' ?_ | refine k_normal ?_ | refine AWP_ret ?_ | refine AWP_skip ?_) | ((first | with_reducible refine AWP_reg fun KC J hJ hKC => ?_ | (refine hKC _ _ _ _ _ (callV0 (h1) rfl rfl rfl ?_ ?_); (· exact Lq)) | (refine hKC _ _ _ _ _ (callV0 (h2) rfl rfl rfl ?_ ?_); (· exact Lq)) | (refine hKC _ _ _ _ _ (callV0 (h3) rfl rfl rfl ?_ ?_); (· exact Lq)) | (refine hKC _ _ _ _ _ (callV0 (h4) rfl rfl rfl ?_ ?_); (· exact Lq)) | (refine hKC _ _ _ _ _ (callV0 (h5) rfl rfl rfl ?_ ?_); (· exact Lq))); simp (maxSteps := 9999999) only [push_cast, seval, ↓reduceIte, hd1, hd2, hd3, hd4', undef]) | ((with_reducible refine hJ _ _ ?_); clear hJ hKC KC J) | ((with_reducible refine AWP_condF ?_ ?_); · rfl)
  refine ret_plain ?_
  simp (maxSteps := 9999999) only [push_cast, seval, ↓reduceIte, show Tryz.f48.results = #[(.tmp 6), (.tmp 7)] from rfl]
  exact Lq
end Go.Proofs.YtabliglgeiajlaaGreat.AM

namespace Go.Proofs.YtabliglgeiajlaaGreat.AM
open Go Go.RowKit Go.Proofs
set_option maxRecDepth 100000
set_option maxHeartbeats 4000000
theorem us_of_may9 {ns : List ByteArray} {us : List Nat} (hc : checkF ns us = 0) : 1 ≤ us.length ∧ us.length ≤ 8 := by
  have := (mayB_get (show mayB ns us = true by
    unfold checkF at hc
    split at hc
    · assumption
    · cases hc)).1
  omega
def varyG (ns : List ByteArray) (us : List Nat) (sp : Sp) (o : Int) (s : Sta) (d : Dr) : Dr × Sta × Int :=
  if mayG ns us sp = 0 then if hasB us.length sp s = true then if oddL us.length o = false then if rightB d.l d.g d.a = true then endF Sta.z ((varyC sp us o.toNat s).run d) else (Dr.z, Sta.z, 1) else (Dr.z, Sta.z, 9) else (Dr.z, Sta.z, 1) else (Dr.z, Sta.z, mayG ns us sp)
theorem vary_fn (f g : Bool) (ns : List ByteArray) (us : List Nat) (sp : Sp) (o : Int) (s : Sta) (d : Dr) (hs : Szs ns) (hu : U32 us) (hw : sp.ws.length ≤ 1000) (hl : Sml s) :
    Fn Tryz.prog 92 [.agg [.sl f 1 (strRow ns), .sl g 1 (u32Row us)], .agg (spF false sp), .v (.int .i64 o), .agg (staF false false false false s), encDr false false d] [] (.tup [encDr false false (varyG ns us sp o s d).1, .agg (staF false false false false (varyG ns us sp o s d).2.1), .v (.int .i64 (varyG ns us sp o s d).2.2)]) [] := by
  have h1 := genHas_fn f g false ns us sp s hs hu hw hl
  have h2 := drRight_fn false false d.l d.g d.a
  unfold varyG
  unfold hasF at h1
  obtain ⟨m, hm⟩ : ∃ m, mayG ns us sp = m := ⟨_, rfl⟩
  obtain ⟨r, hr⟩ : ∃ r, rightB d.l d.g d.a = r := ⟨_, rfl⟩
  obtain ⟨b, hb⟩ : ∃ b, hasB us.length sp s = b := ⟨_, rfl⟩
  rw [hm, hb] at h1
  rw [hm, hb, hr]
  rw [hr] at h2
  simp only [spF, encDr, staF] at h1 h2 ⊢
  by_cases h0 : m = 0
  case neg =>
    have h0' : (m != 0) = true := by simpa using h0
    rw [if_neg h0]
    refine Fn.of (fn := Tryz.f92) (by kernel_rfl) rfl (by kernel_rfl) ⟨[.agg [.sl f 1 (strRow ns), .sl g 1 (u32Row us)], .agg [.v (.int .i64 sp.code), .v (.int .i64 sp.mem), .v (.int .i64 sp.stack), .v (.int .i64 sp.val), .sl false 1 (intRow sp.ws)], .v (.int .i64 o), .agg [.v (.int .i64 s.v), .v (.int .i64 s.l), .sl false 3 (tRow s.code), .sl false 2 (pRow s.mem), .sl false 3 (sRow s.stack), .sl false 2 (pRow s.out)], .agg [.sl false 1 (intRow d.l), .v (.int .i64 d.a), .sl false 1 (intRow d.g)], .v undef, .v undef, .v undef, .v undef, .v undef, .v undef, .v undef, .v undef, .v undef, .v undef, .v undef, .v undef, .v undef, .v undef, .v undef, .v undef, .v undef, .v undef, .v undef, .v undef, .v undef, .v undef, .v undef, .v undef, .v undef, .v undef, .v undef, .v undef, .v undef, .v undef, .v undef, .v undef, .v undef, .v undef, .v undef, .v undef, .v undef, .v undef, .v undef, .v undef, .v undef, .v undef, .v undef, .v undef, .v undef, .v undef, .v undef, .v undef, .v undef, .v undef, .v undef, .v undef, .v undef, .v undef, .v undef, .v undef, .v undef, .v undef, .v undef, .v undef, .v undef, .v undef, .v undef, .v undef, .v undef, .v undef, .v undef, .v undef, .v undef, .v undef, .v undef, .v undef, .v undef], []⟩ rfl ?_
    repeat' first | (with_reducible first | refine AWP_seq' ?_ | refine k_normal ?_ | refine k_ret ?_ | refine b_ret ?_ | refine AWP_ret ?_ | refine AWP_block ?_) | ((first | with_reducible refine AWP_reg fun KC J hJ hKC => ?_ | (refine hKC _ _ _ _ _ (callV0 (h1) rfl rfl rfl ?_ ?_); (· exact Lq))); simp (maxSteps := 9999999) only [push_cast, seval, ↓reduceIte, h0']) | ((with_reducible refine hJ _ _ ?_); clear hJ hKC KC J) | ((with_reducible refine AWP_condT ?_ ?_); · rfl)
    refine ret_plain ?_
    simp (maxSteps := 9999999) only [push_cast, seval, ↓reduceIte, show Tryz.f92.results = #[(.cell 10 30), (.cell 11 39), (.tmp 12)] from rfl]
    exact Lq
  subst h0
  rw [if_pos rfl]
  simp only [decide_true, Bool.true_and] at h1
  cases b
  case false =>
    rw [if_neg (by simp)]
    refine Fn.of (fn := Tryz.f92) (by kernel_rfl) rfl (by kernel_rfl) ⟨[.agg [.sl f 1 (strRow ns), .sl g 1 (u32Row us)], .agg [.v (.int .i64 sp.code), .v (.int .i64 sp.mem), .v (.int .i64 sp.stack), .v (.int .i64 sp.val), .sl false 1 (intRow sp.ws)], .v (.int .i64 o), .agg [.v (.int .i64 s.v), .v (.int .i64 s.l), .sl false 3 (tRow s.code), .sl false 2 (pRow s.mem), .sl false 3 (sRow s.stack), .sl false 2 (pRow s.out)], .agg [.sl false 1 (intRow d.l), .v (.int .i64 d.a), .sl false 1 (intRow d.g)], .v undef, .v undef, .v undef, .v undef, .v undef, .v undef, .v undef, .v undef, .v undef, .v undef, .v undef, .v undef, .v undef, .v undef, .v undef, .v undef, .v undef, .v undef, .v undef, .v undef, .v undef, .v undef, .v undef, .v undef, .v undef, .v undef, .v undef, .v undef, .v undef, .v undef, .v undef, .v undef, .v undef, .v undef, .v undef, .v undef, .v undef, .v undef, .v undef, .v undef, .v undef, .v undef, .v undef, .v undef, .v undef, .v undef, .v undef, .v undef, .v undef, .v undef, .v undef, .v undef, .v undef, .v undef, .v undef, .v undef, .v undef, .v undef, .v undef, .v undef, .v undef, .v undef, .v undef, .v undef, .v undef, .v undef, .v undef, .v undef, .v undef, .v undef, .v undef, .v undef, .v undef], []⟩ rfl ?_
    repeat' first | (with_reducible first | refine AWP_seq' ?_ | refine k_normal ?_ | refine k_ret ?_ | refine b_ret ?_ | refine AWP_ret ?_ | refine AWP_block ?_) | ((first | with_reducible refine AWP_reg fun KC J hJ hKC => ?_ | (refine hKC _ _ _ _ _ (callV0 (h1) rfl rfl rfl ?_ ?_); (· exact Lq))); simp (maxSteps := 9999999) only [push_cast, seval, ↓reduceIte, bne_self_eq_false]) | ((with_reducible refine hJ _ _ ?_); clear hJ hKC KC J) | ((with_reducible refine AWP_condT ?_ ?_); · rfl) | ((with_reducible refine AWP_condF ?_ ?_); · rfl)
    refine ret_plain ?_
    simp (maxSteps := 9999999) only [push_cast, seval, ↓reduceIte, show Tryz.f92.results = #[(.cell 10 30), (.cell 11 39), (.tmp 12)] from rfl]
    exact Lq
  rw [if_pos rfl]
  have hchk : checkF ns us = 0 ∧ SpOk sp := by
    unfold mayG at hm
    split at hm
    · rename_i hc
      split at hm
      · rename_i hsp; exact ⟨hc, spB_iff.1 hsp⟩
      · cases hm
    · rename_i hc; exact absurd hm hc
  have hul := us_of_may9 hchk.1
  have hsp := hchk.2
  have hin := (inSp_iff hsp).1 hb
  have hql : (u32Row us).length = us.length := by simp [u32Row]
  by_cases ho : oddL us.length o = false
  case neg =>
    rw [if_neg ho]
    by_cases ho1 : o < 0
    · have ho1' : decide (o < 0) = true := decide_eq_true ho1
      refine Fn.of (fn := Tryz.f92) (by kernel_rfl) rfl (by kernel_rfl) ⟨[.agg [.sl f 1 (strRow ns), .sl g 1 (u32Row us)], .agg [.v (.int .i64 sp.code), .v (.int .i64 sp.mem), .v (.int .i64 sp.stack), .v (.int .i64 sp.val), .sl false 1 (intRow sp.ws)], .v (.int .i64 o), .agg [.v (.int .i64 s.v), .v (.int .i64 s.l), .sl false 3 (tRow s.code), .sl false 2 (pRow s.mem), .sl false 3 (sRow s.stack), .sl false 2 (pRow s.out)], .agg [.sl false 1 (intRow d.l), .v (.int .i64 d.a), .sl false 1 (intRow d.g)], .v undef, .v undef, .v undef, .v undef, .v undef, .v undef, .v undef, .v undef, .v undef, .v undef, .v undef, .v undef, .v undef, .v undef, .v undef, .v undef, .v undef, .v undef, .v undef, .v undef, .v undef, .v undef, .v undef, .v undef, .v undef, .v undef, .v undef, .v undef, .v undef, .v undef, .v undef, .v undef, .v undef, .v undef, .v undef, .v undef, .v undef, .v undef, .v undef, .v undef, .v undef, .v undef, .v undef, .v undef, .v undef, .v undef, .v undef, .v undef, .v undef, .v undef, .v undef, .v undef, .v undef, .v undef, .v undef, .v undef, .v undef, .v undef, .v undef, .v undef, .v undef, .v undef, .v undef, .v undef, .v undef, .v undef, .v undef, .v undef, .v undef, .v undef, .v undef, .v undef, .v undef], []⟩ rfl ?_
      repeat' first | (with_reducible first | refine AWP_seq' ?_ | refine k_normal ?_ | refine k_ret ?_ | refine b_ret ?_ | refine AWP_ret ?_ | refine AWP_block ?_) | ((first | with_reducible refine AWP_reg fun KC J hJ hKC => ?_ | (refine hKC _ _ _ _ _ (callV0 (h1) rfl rfl rfl ?_ ?_); (· exact Lq))); simp (maxSteps := 9999999) only [push_cast, seval, ↓reduceIte, bne_self_eq_false, ho1, ho1', undef]) | ((with_reducible refine hJ _ _ ?_); clear hJ hKC KC J) | ((with_reducible refine AWP_condT ?_ ?_); · rfl) | ((with_reducible refine AWP_condF ?_ ?_); · rfl)
      refine ret_plain ?_
      simp (maxSteps := 9999999) only [push_cast, seval, ↓reduceIte, show Tryz.f92.results = #[(.cell 10 30), (.cell 11 39), (.tmp 12)] from rfl]
      exact Lq
    · have ho2 : (us.length : Int) ≤ o := by
        have : ¬ (0 ≤ o ∧ o < us.length) := fun h => ho (oddL_iff.2 h)
        omega
      have ho1' : decide (o < 0) = false := decide_eq_false ho1
      have ho2' : decide ((us.length : Int) ≤ o) = true := decide_eq_true ho2
      refine Fn.of (fn := Tryz.f92) (by kernel_rfl) rfl (by kernel_rfl) ⟨[.agg [.sl f 1 (strRow ns), .sl g 1 (u32Row us)], .agg [.v (.int .i64 sp.code), .v (.int .i64 sp.mem), .v (.int .i64 sp.stack), .v (.int .i64 sp.val), .sl false 1 (intRow sp.ws)], .v (.int .i64 o), .agg [.v (.int .i64 s.v), .v (.int .i64 s.l), .sl false 3 (tRow s.code), .sl false 2 (pRow s.mem), .sl false 3 (sRow s.stack), .sl false 2 (pRow s.out)], .agg [.sl false 1 (intRow d.l), .v (.int .i64 d.a), .sl false 1 (intRow d.g)], .v undef, .v undef, .v undef, .v undef, .v undef, .v undef, .v undef, .v undef, .v undef, .v undef, .v undef, .v undef, .v undef, .v undef, .v undef, .v undef, .v undef, .v undef, .v undef, .v undef, .v undef, .v undef, .v undef, .v undef, .v undef, .v undef, .v undef, .v undef, .v undef, .v undef, .v undef, .v undef, .v undef, .v undef, .v undef, .v undef, .v undef, .v undef, .v undef, .v undef, .v undef, .v undef, .v undef, .v undef, .v undef, .v undef, .v undef, .v undef, .v undef, .v undef, .v undef, .v undef, .v undef, .v undef, .v undef, .v undef, .v undef, .v undef, .v undef, .v undef, .v undef, .v undef, .v undef, .v undef, .v undef, .v undef, .v undef, .v undef, .v undef, .v undef, .v undef, .v undef, .v undef], []⟩ rfl ?_
      repeat' first | (with_reducible first | refine AWP_seq' ?_ | refine k_normal ?_ | refine k_ret ?_ | refine b_ret ?_ | refine AWP_ret ?_ | refine AWP_block ?_) | ((first | with_reducible refine AWP_reg fun KC J hJ hKC => ?_ | (refine hKC _ _ _ _ _ (callV0 (h1) rfl rfl rfl ?_ ?_); (· exact Lq))); simp (maxSteps := 9999999) only [push_cast, seval, ↓reduceIte, bne_self_eq_false, ho1, ho2, ho1', ho2', hql, ge_iff_le]) | ((with_reducible refine hJ _ _ ?_); clear hJ hKC KC J) | ((with_reducible refine AWP_condT ?_ ?_); · rfl) | ((with_reducible refine AWP_condF ?_ ?_); · rfl)
      refine ret_plain ?_
      simp (maxSteps := 9999999) only [push_cast, seval, ↓reduceIte, show Tryz.f92.results = #[(.cell 10 30), (.cell 11 39), (.tmp 12)] from rfl]
      exact Lq
  obtain ⟨O, rfl, hO⟩ := oddL_no ho
  rw [if_pos ho]
  have ho1 : ¬ ((O : Int) < 0) := by omega
  have ho2 : ¬ ((us.length : Int) ≤ (O : Int)) := by omega
  have ho1' : decide ((O : Int) < 0) = false := decide_eq_false ho1
  have ho2' : decide ((us.length : Int) ≤ (O : Int)) = false := decide_eq_false ho2
  cases r
  case false =>
    refine Fn.of (fn := Tryz.f92) (by kernel_rfl) rfl (by kernel_rfl) ⟨[.agg [.sl f 1 (strRow ns), .sl g 1 (u32Row us)], .agg [.v (.int .i64 sp.code), .v (.int .i64 sp.mem), .v (.int .i64 sp.stack), .v (.int .i64 sp.val), .sl false 1 (intRow sp.ws)], .v (.int .i64 (O : Int)), .agg [.v (.int .i64 s.v), .v (.int .i64 s.l), .sl false 3 (tRow s.code), .sl false 2 (pRow s.mem), .sl false 3 (sRow s.stack), .sl false 2 (pRow s.out)], .agg [.sl false 1 (intRow d.l), .v (.int .i64 d.a), .sl false 1 (intRow d.g)], .v undef, .v undef, .v undef, .v undef, .v undef, .v undef, .v undef, .v undef, .v undef, .v undef, .v undef, .v undef, .v undef, .v undef, .v undef, .v undef, .v undef, .v undef, .v undef, .v undef, .v undef, .v undef, .v undef, .v undef, .v undef, .v undef, .v undef, .v undef, .v undef, .v undef, .v undef, .v undef, .v undef, .v undef, .v undef, .v undef, .v undef, .v undef, .v undef, .v undef, .v undef, .v undef, .v undef, .v undef, .v undef, .v undef, .v undef, .v undef, .v undef, .v undef, .v undef, .v undef, .v undef, .v undef, .v undef, .v undef, .v undef, .v undef, .v undef, .v undef, .v undef, .v undef, .v undef, .v undef, .v undef, .v undef, .v undef, .v undef, .v undef, .v undef, .v undef, .v undef, .v undef], []⟩ rfl ?_
    repeat' first | (with_reducible first | refine AWP_seq' ?_ | refine k_normal ?_ | refine k_ret ?_ | refine b_ret ?_ | refine AWP_ret ?_ | refine AWP_block ?_) | ((first | with_reducible refine AWP_reg fun KC J hJ hKC => ?_ | (refine hKC _ _ _ _ _ (callV0 (h1) rfl rfl rfl ?_ ?_); (· exact Lq)) | (refine hKC _ _ _ _ _ (callV0 (h2) rfl rfl rfl ?_ ?_); (· exact Lq))); simp (maxSteps := 9999999) only [push_cast, seval, ↓reduceIte, bne_self_eq_false, ho1, ho2, ho1', ho2', hql, ge_iff_le]) | ((with_reducible refine hJ _ _ ?_); clear hJ hKC KC J) | ((with_reducible refine AWP_condT ?_ ?_); · rfl) | ((with_reducible refine AWP_condF ?_ ?_); · rfl)
    refine ret_plain ?_
    simp (maxSteps := 9999999) only [push_cast, seval, ↓reduceIte, show Tryz.f92.results = #[(.cell 10 30), (.cell 11 39), (.tmp 12)] from rfl]
    exact Lq
  rw [if_pos rfl, Int.toNat_natCast]
  have hq : VOk ⟨f, g, ns, us, sp, O⟩ := ⟨hs, hu, hchk.1, hO⟩
  have hv : VIn ⟨f, g, ns, us, sp, O⟩ s := by
    have a1 := hsp.c1
    have a2 := hsp.m1
    have a3 := hsp.s1
    have a4 := hin.cl
    have a5 := hin.ml
    have a6 := hin.sl
    refine ⟨by omega, by omega, by omega, fun x hx hx1 => ?_, fun x hx => ?_, fun x hx => ?_, hin.l, hsp.s0, hsp.s1, hin.sl⟩
    · have h := (hin.c x hx).1
      unfold instrB at h
      rw [if_pos hx1] at h
      simp only [Bool.and_eq_true, Bool.not_eq_true'] at h
      exact h.2
    · have h := (hin.m x hx).1
      simp only [atomB, Bool.and_eq_true, Bool.not_eq_true'] at h
      exact h.2
    · have h := (hin.s x hx).1
      simp only [slotB, Bool.and_eq_true, Bool.not_eq_true'] at h
      exact h.1
  have k := vState_fn ⟨f, g, ns, us, sp, O⟩ hq hul.2 d 0 0 false false false false s hv
  have he := (is_state ⟨f, g, ns, us, sp, O⟩ s).end Sta.z d 0
  simp only at he
  rw [he]
  clear he
  obtain ⟨⟨⟨d1, n1, e1⟩, t⟩, hT⟩ : ∃ x, stateP ⟨f, g, ns, us, sp, O⟩ s (d, 0, 0) = x := ⟨_, rfl⟩
  rw [hT] at k ⊢
  simp only [mkV, staF] at k ⊢
  by_cases e0 : e1 = 0
  · have e0' : (e1 != 0) = false := by simpa using e0
    rw [if_pos e0]
    refine Fn.of (fn := Tryz.f92) (by kernel_rfl) rfl (by kernel_rfl) ⟨[.agg [.sl f 1 (strRow ns), .sl g 1 (u32Row us)], .agg [.v (.int .i64 sp.code), .v (.int .i64 sp.mem), .v (.int .i64 sp.stack), .v (.int .i64 sp.val), .sl false 1 (intRow sp.ws)], .v (.int .i64 (O : Int)), .agg [.v (.int .i64 s.v), .v (.int .i64 s.l), .sl false 3 (tRow s.code), .sl false 2 (pRow s.mem), .sl false 3 (sRow s.stack), .sl false 2 (pRow s.out)], .agg [.sl false 1 (intRow d.l), .v (.int .i64 d.a), .sl false 1 (intRow d.g)], .v undef, .v undef, .v undef, .v undef, .v undef, .v undef, .v undef, .v undef, .v undef, .v undef, .v undef, .v undef, .v undef, .v undef, .v undef, .v undef, .v undef, .v undef, .v undef, .v undef, .v undef, .v undef, .v undef, .v undef, .v undef, .v undef, .v undef, .v undef, .v undef, .v undef, .v undef, .v undef, .v undef, .v undef, .v undef, .v undef, .v undef, .v undef, .v undef, .v undef, .v undef, .v undef, .v undef, .v undef, .v undef, .v undef, .v undef, .v undef, .v undef, .v undef, .v undef, .v undef, .v undef, .v undef, .v undef, .v undef, .v undef, .v undef, .v undef, .v undef, .v undef, .v undef, .v undef, .v undef, .v undef, .v undef, .v undef, .v undef, .v undef, .v undef, .v undef, .v undef, .v undef], []⟩ rfl ?_
    repeat' first | (with_reducible first | refine AWP_seq' ?_ | refine k_normal ?_ | refine b_normal ?_ | refine AWP_ret ?_ | refine AWP_skip ?_ | refine AWP_block ?_) | ((first | with_reducible refine AWP_reg fun KC J hJ hKC => ?_ | with_reducible refine AWP_regD rfl fun KC J hJ hKC => ?_ | (refine hKC _ _ _ _ _ (callK [8] k rfl rfl rfl (by decide) (by simp) rfl rfl Lq ?_)) | (refine hKC _ _ _ _ _ (callV0 (h1) rfl rfl rfl ?_ ?_); (· exact Lq)) | (refine hKC _ _ _ _ _ (callV0 (h2) rfl rfl rfl ?_ ?_); (· exact Lq))); simp (maxSteps := 9999999) only [push_cast, seval, ↓reduceIte, bne_self_eq_false, ho1, ho2, ho1', ho2', hql, ge_iff_le, e0', backOf, callSets, renSlot, pick, mOf, idx, ren, ren2, ren1, ren0]) | ((first | with_reducible refine hJ _ _ ?_ | (with_reducible refine hJ _ _ ?_ ?_; · kernel_rfl)); clear hJ hKC KC J) | ((with_reducible refine AWP_condF ?_ ?_); · rfl)
    refine ret_plain ?_
    simp (maxSteps := 9999999) only [push_cast, seval, ↓reduceIte, show Tryz.f92.results = #[(.cell 10 30), (.cell 11 39), (.tmp 12)] from rfl]
    exact Lq
  · have e0' : (e1 != 0) = true := by simpa using e0
    rw [if_neg e0]
    refine Fn.of (fn := Tryz.f92) (by kernel_rfl) rfl (by kernel_rfl) ⟨[.agg [.sl f 1 (strRow ns), .sl g 1 (u32Row us)], .agg [.v (.int .i64 sp.code), .v (.int .i64 sp.mem), .v (.int .i64 sp.stack), .v (.int .i64 sp.val), .sl false 1 (intRow sp.ws)], .v (.int .i64 (O : Int)), .agg [.v (.int .i64 s.v), .v (.int .i64 s.l), .sl false 3 (tRow s.code), .sl false 2 (pRow s.mem), .sl false 3 (sRow s.stack), .sl false 2 (pRow s.out)], .agg [.sl false 1 (intRow d.l), .v (.int .i64 d.a), .sl false 1 (intRow d.g)], .v undef, .v undef, .v undef, .v undef, .v undef, .v undef, .v undef, .v undef, .v undef, .v undef, .v undef, .v undef, .v undef, .v undef, .v undef, .v undef, .v undef, .v undef, .v undef, .v undef, .v undef, .v undef, .v undef, .v undef, .v undef, .v undef, .v undef, .v undef, .v undef, .v undef, .v undef, .v undef, .v undef, .v undef, .v undef, .v undef, .v undef, .v undef, .v undef, .v undef, .v undef, .v undef, .v undef, .v undef, .v undef, .v undef, .v undef, .v undef, .v undef, .v undef, .v undef, .v undef, .v undef, .v undef, .v undef, .v undef, .v undef, .v undef, .v undef, .v undef, .v undef, .v undef, .v undef, .v undef, .v undef, .v undef, .v undef, .v undef, .v undef, .v undef, .v undef, .v undef, .v undef], []⟩ rfl ?_
    repeat' first | (with_reducible first | refine AWP_seq' ?_ | refine k_normal ?_ | refine k_ret ?_ | refine b_normal ?_ | refine AWP_ret ?_ | refine AWP_skip ?_ | refine AWP_block ?_) | ((first | with_reducible refine AWP_reg fun KC J hJ hKC => ?_ | with_reducible refine AWP_regD rfl fun KC J hJ hKC => ?_ | (refine hKC _ _ _ _ _ (callK [8] k rfl rfl rfl (by decide) (by simp) rfl rfl Lq ?_)) | (refine hKC _ _ _ _ _ (callV0 (h1) rfl rfl rfl ?_ ?_); (· exact Lq)) | (refine hKC _ _ _ _ _ (callV0 (h2) rfl rfl rfl ?_ ?_); (· exact Lq))); simp (maxSteps := 9999999) only [push_cast, seval, ↓reduceIte, bne_self_eq_false, ho1, ho2, ho1', ho2', hql, ge_iff_le, e0', backOf, callSets, renSlot, pick, mOf, idx, ren, ren2, ren1, ren0]) | ((first | with_reducible refine hJ _ _ ?_ | (with_reducible refine hJ _ _ ?_ ?_; · kernel_rfl)); clear hJ hKC KC J) | ((with_reducible refine AWP_condT ?_ ?_); · rfl) | ((with_reducible refine AWP_condF ?_ ?_); · rfl)
    refine ret_plain ?_
    simp (maxSteps := 9999999) only [push_cast, seval, ↓reduceIte, show Tryz.f92.results = #[(.cell 10 30), (.cell 11 39), (.tmp 12)] from rfl]
    exact Lq
end Go.Proofs.YtabliglgeiajlaaGreat.AM
