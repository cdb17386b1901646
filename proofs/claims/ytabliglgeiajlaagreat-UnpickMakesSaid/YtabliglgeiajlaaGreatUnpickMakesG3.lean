/- Walks and plain laws, put together: part 3. -/
import Derived.Test.YtabliglgeiajlaaGreatUnpickMakesG2
import Derived.Test.YtabliglgeiajlaaGreatUnpickMakesG1
set_option linter.unusedSimpArgs false
set_option linter.unusedVariables false
namespace Go.Proofs.YtabliglgeiajlaaGreat.AM
open Go Go.RowKit Go.Proofs
set_option maxRecDepth 100000
set_option maxHeartbeats 4000000
def yE (n : Nat) : Option Nat → D
 | none => .sl true 3 []
 | some g => .ref 1 g n
def yσ (s : Slot) (cs : List D) : Option Nat → List Slot
 | none => [s]
 | some g => [s, .ent ⟨g, some 3, 104, cs, .cells⟩]
def yO (s : Slot) : Option Nat → List Slot
 | none => [s]
 | some _ => [s, .dead]
theorem zIA (b : Bool) (sz : Nat) (xs : List (List D)) : Rle (.sl b sz xs) (.sl false sz xs) := by
 cases b
 ·exact Rle.refl _
 ·exact Rle.full sz xs
def v1P (q : VQ) (m : M3) : M3 × (Bool × Int × Int) :=
 let r := zR m 2
 let l := zR r q.us.length
 let b := decide (r.2.1 = 1) && hid q.us q.o l.2.1
 let v := zBa q b l
 (v, (b, v.2.1, l.2.1))
def zCF (q : VQ) (k : List (Bool × Int × Int)) (m : M3) : M3 × List (Bool × Int × Int) :=
 let b := zR m (q.sp.stack - (k.length : Int) + 1)
 ((ze (v1P q) b.2.1.toNat b).1, k ++ (ze (v1P q) b.2.1.toNat b).2)
theorem zDC (q : VQ) (hq : VOk q) (hul : q.us.length ≤ 8) (d : Dr) (n0 e : Int) (k : List (Bool × Int × Int)) (hk : k.length ≤ 12) (hs0 : 0 ≤ q.sp.stack) (hs1 : q.sp.stack ≤ 12) (hks : (k.length : Int) ≤ q.sp.stack) (og : Option Nat) (hog : og = none → k = []) :
  Fn Tryz.prog 264 [.ptr 0 0 0, yE k.length og] (yσ (.ent (mkV q d e)) (zj k) og) (.sl false 3 (zg (zCF q k (d, n0, e)).2)) (yO (.ent (mkV q (zCF q k (d, n0, e)).1.1 (zCF q k (d, n0, e)).1.2.2)) og) := by
 have hb0 := zCo q d n0 e (q.sp.stack - (k.length : Int) + 1) (by omega)
 have hbr := zCm (m := (d, n0, e)) (show 1 ≤ q.sp.stack - (k.length : Int) + 1 by omega)
 have w1 : IntKind.i64.wrap (q.sp.stack - (k.length : Int)) = q.sp.stack - (k.length : Int) := zBk (by omega) (by omega)
 have w2 : IntKind.i64.wrap (q.sp.stack - (k.length : Int) + 1) = q.sp.stack - (k.length : Int) + 1 := zBk (by omega) (by omega)
 unfold zCF
 obtain ⟨B, hB⟩ : ∃ m, zR (d, n0, e) (q.sp.stack - (k.length : Int) + 1) = m := ⟨_, rfl⟩
 rw [hB] at hb0 hbr ⊢
 obtain ⟨N, hN⟩ : ∃ N : Nat, B.2.1 = N := ⟨B.2.1.toNat, by omega⟩
 have hNl : N ≤ 13 := by omega
 simp only [hN, Int.toNat_natCast]
 rw [hN] at hb0
 rcases og with _ | g0
 ·refine Fn.post (res := .sl (decide (k ++ (ze (v1P q) N B).2 = [])) 3 (zg (k ++ (ze (v1P q) N B).2))) ?_ (zIA _ _ _)
  have hk0 := hog rfl
  subst hk0
  rw [show q.sp.stack - (([] : List (Bool × Int × Int)).length : Int) + 1 = q.sp.stack + 1 by simp] at hb0
  have w3 : IntKind.i64.wrap (q.sp.stack - 0) = q.sp.stack := by rw [Int.sub_zero]; exact zBk (by omega) (by omega)
  have w4 : IntKind.i64.wrap (q.sp.stack + 1) = q.sp.stack + 1 := zBk (by omega) (by omega)
  simp only [yE, yσ, yO, List.nil_append]
  refine Fn.of (fn := Tryz.f264) (by kernel_rfl) rfl (by kernel_rfl) ⟨[.ptr 0 0 0, .sl true 3 [], .v undef, .v undef, .v undef, .v undef, .v undef, .v undef, .v undef, .v undef, .v undef, .v undef, .v undef, .v undef, .v undef, .v undef, .v undef, .v undef, .v undef, .v undef, .v undef, .v undef, .v undef, .v undef, .v undef, .v undef, .v undef, .v undef, .v undef, .v undef, .v undef, .v undef, .v undef, .v undef, .v undef, .v undef, .v undef, .v undef, .v undef, .v undef, .v undef, .v undef, .v undef, .v undef, .v undef, .v undef, .v undef, .v undef, .v undef, .v undef, .v undef, .v undef], [.ent (mkV q d e)]⟩ rfl ?_
  simp only [mkV] at hb0 ⊢
  repeat' first | (with_reducible first | refine zA ?_ | refine zB ?_ | refine zI ?_) | ((first | with_reducible refine zC fun KC J hJ hKC => ?_ | (refine hKC _ _ _ _ _ (zT [0] hb0 rfl rfl rfl (by decide) (by simp) rfl rfl Lq ?_))); simp (maxSteps := 9999999) only [push_cast, seval, ↓reduceIte, w3, w4, zX, zN, zL, pick, mOf, idx, ren, ren2, ren1, ren0, zW]) | ((with_reducible refine hJ _ _ ?_); clear hJ hKC KC J)
  refine zHB 1 (γ := {p : Nat × Option Nat // p.1 ≤ N ∧ (p.2 = none → (ze (v1P q) p.1 B).2 = []) ∧ (∀ g, p.2 = some g → (ze (v1P q) p.1 B).2 ≠ [])}) (fun p => ⟨[.ptr 0 0 0, yE ((ze (v1P q) p.1.1 B).2).length p.1.2, .any, .any, .any, .any, .any, .any, .any, .any, .any, .any, .any, .any, .any, .any, .v (.int .i64 N), .v (.int .i64 p.1.1), .any, .any, .any, .any, .any, .any, .any, .any, .any, .any, .any, .any, .any, .any, .any, .any, .any, .any, .any, .any, .any, .any, .any, .any, .any, .any, .any, .any, .any, .any, .any, .any, .any, .any], yσ (.ent (mkV q (ze (v1P q) p.1.1 B).1.1 (ze (v1P q) p.1.1 B).1.2.2)) (zj ((ze (v1P q) p.1.1 B).2)) p.1.2⟩) (fun p => N - p.1.1) ⟨(0, none), by omega, (fun _ => by simp [ze]), fun g h => by cases h⟩ rfl ⟨?_, ?_⟩ ?_
  ·simp only [ze, List.append_nil, yE]
   exact Lq
  ·simp only [ze, List.append_nil, yσ, mkV]
   exact Fq
  rintro ⟨⟨i, og1⟩, hi, hno, hns⟩
  dsimp only at hi hno hns ⊢
  by_cases hlt : (i : Int) < (N : Int)
  ·skip
   obtain ⟨⟨d1, n1, e1⟩, hM⟩ : ∃ m, (ze (v1P q) i B).1 = m := ⟨_, rfl⟩
   obtain ⟨KT, hKT⟩ : ∃ T, (ze (v1P q) i B).2 = T := ⟨_, rfl⟩
   have hst : ze (v1P q) (i + 1) B = ((v1P q (d1, n1, e1)).1, (ze (v1P q) i B).2 ++ [(v1P q (d1, n1, e1)).2]) := by simp only [ze, hM]
   have hst1 : (ze (v1P q) (i + 1) B).1 = (v1P q (d1, n1, e1)).1 := by rw [hst]
   have hst2 : (ze (v1P q) (i + 1) B).2 = KT ++ [(v1P q (d1, n1, e1)).2] := by rw [hst, ← hKT]
   rw [hKT] at hno hns ⊢
   rw [hM]
   clear hst
   have hKl : KT.length ≤ 1000 := by rw [← hKT, zBe]; omega
   have g1 := zCo q d1 n1 e1 2 (by omega)
   obtain ⟨V, hV1⟩ : ∃ V, v1P q (d1, n1, e1) = V := ⟨_, rfl⟩
   rw [hV1] at hst1 hst2
   unfold v1P at hV1
   obtain ⟨⟨d2, n2, e2⟩, hR⟩ : ∃ m, zR (d1, n1, e1) 2 = m := ⟨_, rfl⟩
   rw [hR] at g1 hV1
   have g2 := zCo q d2 n2 e2 (q.us.length : Int) (by omega)
   have hlr := zCm (m := (d2, n2, e2)) (b := (q.us.length : Int)) (by have := hq.lab; omega)
   obtain ⟨⟨d3, n3, e3⟩, hL⟩ : ∃ m, zR (d2, n2, e2) (q.us.length : Int) = m := ⟨_, rfl⟩
   simp only [hL] at g2 hV1 hlr
   have g3 := zAw q hq d3 e3 n3 (zAG.2 hlr)
   obtain ⟨hb, hhb⟩ : ∃ b, hid q.us q.o n3 = b := ⟨_, rfl⟩
   rw [hhb] at g3
   simp only [hhb] at hV1
   by_cases hr : n2 = 1
   ·have hr' : (n2 == 1) = true := by simpa using hr
    simp only [decide_eq_true hr, Bool.true_and] at hV1
    cases hb
    case false =>
     have g4 := zCl q d3 n3 e3 false
     obtain ⟨⟨d4, n4, e4⟩, hV⟩ : ∃ m, zBa q false (d3, n3, e3) = m := ⟨_, rfl⟩
     rw [hV] at g4
     simp only [hV] at hV1
     subst hV1
     simp only [mkV] at g1 g2 g3 g4 ⊢
     rcases og1 with _ | gg
     ·skip
      have hL0 : KT = [] := hno rfl
      repeat' first | (with_reducible first | refine zA ?_ | refine zB ?_ | refine zP ?_ | refine zJ ?_ | refine zI ?_) | ((first | with_reducible refine zC fun KC J hJ hKC => ?_ | (refine hKC _ _ _ _ _ (zT [0] g1 rfl rfl rfl (by decide) (by simp) rfl rfl Lq ?_)) | (refine hKC _ _ _ _ _ (zT [0] g2 rfl rfl rfl (by decide) (by simp) rfl rfl Lq ?_)) | (refine hKC _ _ _ _ _ (zT [0] g3 rfl rfl rfl (by decide) (by simp) rfl rfl Lq ?_)) | (refine hKC _ _ _ _ _ (zT [0] g4 rfl rfl rfl (by decide) (by simp) rfl rfl Lq ?_))); simp (maxSteps := 9999999) only [push_cast, seval, ↓reduceIte, hlt, yE, yσ, List.cons_append, List.nil_append, hL0, hr', undef, zX, zN, zL, pick, mOf, idx, ren, ren2, ren1, ren0, zW, zp (i := i) (n := N) (by omega) (by omega)]) | ((with_reducible refine hJ _ _ ?_); clear hJ hKC KC J) | ((with_reducible refine zG ?_ ?_); · rfl)
      refine ⟨⟨(i + 1, some 0), by simp only; omega, (fun h => by cases h), (fun g h => by rw [hst2]; simp)⟩, by simp only; omega, [0, 7], by decide, ?_, ?_, ?_⟩
      ·intro a ha
       have ha2 : a < 1 := by omega
       match a, ha2 with
       | 0, _ => rfl
      ·simp only [yE, yσ, List.cons_append, List.nil_append, hst1, hst2, hL0, List.length_append, List.length_cons, List.length_nil, push_cast, mOf, idx]
       exact Lq
      ·simp only [yE, yσ, List.cons_append, List.nil_append, hst1, hst2, hL0, zBM, mkV, List.length_append, List.length_cons, List.length_nil, pick, List.map_cons, List.map_nil, List.map_append, zAZ, zL, zW, push_cast, mOf, idx]
       exact zAH _
     ·skip
      obtain ⟨m, hm⟩ : ∃ m, (KT).length = m := ⟨_, rfl⟩
      have hlC : (zj (KT)).length = m * 3 := by rw [zy, hm]
      have htC := zBo hlC
      have hbm : Nat.beq gg gg = true := Nat.beq_refl gg
      repeat' first | (with_reducible first | refine zA ?_ | refine zB ?_ | refine zP ?_ | refine zJ ?_ | refine zI ?_) | ((with_reducible refine And.intro ?_ ?_); · exact Sq) | ((first | with_reducible refine zC fun KC J hJ hKC => ?_ | (refine hKC _ _ _ _ _ (zT [0] g1 rfl rfl rfl (by decide) (by simp) rfl rfl Lq ?_)) | (refine hKC _ _ _ _ _ (zT [0] g2 rfl rfl rfl (by decide) (by simp) rfl rfl Lq ?_)) | (refine hKC _ _ _ _ _ (zT [0] g3 rfl rfl rfl (by decide) (by simp) rfl rfl Lq ?_)) | (refine hKC _ _ _ _ _ (zT [0] g4 rfl rfl rfl (by decide) (by simp) rfl rfl Lq ?_))); simp (maxSteps := 9999999) only [push_cast, seval, ↓reduceIte, hlt, yE, yσ, List.cons_append, List.nil_append, hm, hlC, htC, hbm, hr', undef, zX, zN, zL, pick, mOf, idx, ren, ren2, ren1, ren0, zW, zp (i := i) (n := N) (by omega) (by omega)]) | ((with_reducible refine hJ _ _ ?_); clear hJ hKC KC J) | ((with_reducible refine zG ?_ ?_); · rfl)
      refine ⟨⟨(i + 1, some (gg + 1)), by simp only; omega, (fun h => by cases h), (fun g h => by rw [hst2]; simp)⟩, by simp only; omega, [0, 1], by decide, ?_, ?_, ?_⟩
      ·intro a ha
       have ha2 : a < 2 := by omega
       match a, ha2 with
       | 0, _ => rfl
       | 1, _ => rfl
      ·simp only [yE, yσ, List.cons_append, List.nil_append, hst1, hst2, hm, List.length_append, List.length_cons, List.length_nil, push_cast, mOf, idx]
       exact Lq
      ·simp only [yE, yσ, List.cons_append, List.nil_append, hst1, hst2, hm, zBM, mkV, List.length_append, List.length_cons, List.length_nil, pick, List.map_cons, List.map_nil, List.map_append, zAZ, zL, zW, push_cast, mOf, idx]
       exact zAH _
    case true =>
     have g4 := zCl q d3 n3 e3 true
     obtain ⟨⟨d4, n4, e4⟩, hV⟩ : ∃ m, zBa q true (d3, n3, e3) = m := ⟨_, rfl⟩
     rw [hV] at g4
     simp only [hV] at hV1
     subst hV1
     simp only [mkV] at g1 g2 g3 g4 ⊢
     rcases og1 with _ | gg
     ·skip
      have hL0 : KT = [] := hno rfl
      repeat' first | (with_reducible first | refine zA ?_ | refine zB ?_ | refine zP ?_ | refine zJ ?_ | refine zI ?_) | ((first | with_reducible refine zC fun KC J hJ hKC => ?_ | (refine hKC _ _ _ _ _ (zT [0] g1 rfl rfl rfl (by decide) (by simp) rfl rfl Lq ?_)) | (refine hKC _ _ _ _ _ (zT [0] g2 rfl rfl rfl (by decide) (by simp) rfl rfl Lq ?_)) | (refine hKC _ _ _ _ _ (zT [0] g3 rfl rfl rfl (by decide) (by simp) rfl rfl Lq ?_)) | (refine hKC _ _ _ _ _ (zT [0] g4 rfl rfl rfl (by decide) (by simp) rfl rfl Lq ?_))); simp (maxSteps := 9999999) only [push_cast, seval, ↓reduceIte, hlt, yE, yσ, List.cons_append, List.nil_append, hL0, hr', undef, zX, zN, zL, pick, mOf, idx, ren, ren2, ren1, ren0, zW, zp (i := i) (n := N) (by omega) (by omega)]) | ((with_reducible refine hJ _ _ ?_); clear hJ hKC KC J) | ((with_reducible refine zG ?_ ?_); · rfl)
      refine ⟨⟨(i + 1, some 0), by simp only; omega, (fun h => by cases h), (fun g h => by rw [hst2]; simp)⟩, by simp only; omega, [0, 7], by decide, ?_, ?_, ?_⟩
      ·intro a ha
       have ha2 : a < 1 := by omega
       match a, ha2 with
       | 0, _ => rfl
      ·simp only [yE, yσ, List.cons_append, List.nil_append, hst1, hst2, hL0, List.length_append, List.length_cons, List.length_nil, push_cast, mOf, idx]
       exact Lq
      ·simp only [yE, yσ, List.cons_append, List.nil_append, hst1, hst2, hL0, zBM, mkV, List.length_append, List.length_cons, List.length_nil, pick, List.map_cons, List.map_nil, List.map_append, zAZ, zL, zW, push_cast, mOf, idx]
       exact zAH _
     ·skip
      obtain ⟨m, hm⟩ : ∃ m, (KT).length = m := ⟨_, rfl⟩
      have hlC : (zj (KT)).length = m * 3 := by rw [zy, hm]
      have htC := zBo hlC
      have hbm : Nat.beq gg gg = true := Nat.beq_refl gg
      repeat' first | (with_reducible first | refine zA ?_ | refine zB ?_ | refine zP ?_ | refine zJ ?_ | refine zI ?_) | ((with_reducible refine And.intro ?_ ?_); · exact Sq) | ((first | with_reducible refine zC fun KC J hJ hKC => ?_ | (refine hKC _ _ _ _ _ (zT [0] g1 rfl rfl rfl (by decide) (by simp) rfl rfl Lq ?_)) | (refine hKC _ _ _ _ _ (zT [0] g2 rfl rfl rfl (by decide) (by simp) rfl rfl Lq ?_)) | (refine hKC _ _ _ _ _ (zT [0] g3 rfl rfl rfl (by decide) (by simp) rfl rfl Lq ?_)) | (refine hKC _ _ _ _ _ (zT [0] g4 rfl rfl rfl (by decide) (by simp) rfl rfl Lq ?_))); simp (maxSteps := 9999999) only [push_cast, seval, ↓reduceIte, hlt, yE, yσ, List.cons_append, List.nil_append, hm, hlC, htC, hbm, hr', undef, zX, zN, zL, pick, mOf, idx, ren, ren2, ren1, ren0, zW, zp (i := i) (n := N) (by omega) (by omega)]) | ((with_reducible refine hJ _ _ ?_); clear hJ hKC KC J) | ((with_reducible refine zG ?_ ?_); · rfl)
      refine ⟨⟨(i + 1, some (gg + 1)), by simp only; omega, (fun h => by cases h), (fun g h => by rw [hst2]; simp)⟩, by simp only; omega, [0, 1], by decide, ?_, ?_, ?_⟩
      ·intro a ha
       have ha2 : a < 2 := by omega
       match a, ha2 with
       | 0, _ => rfl
       | 1, _ => rfl
      ·simp only [yE, yσ, List.cons_append, List.nil_append, hst1, hst2, hm, List.length_append, List.length_cons, List.length_nil, push_cast, mOf, idx]
       exact Lq
      ·simp only [yE, yσ, List.cons_append, List.nil_append, hst1, hst2, hm, zBM, mkV, List.length_append, List.length_cons, List.length_nil, pick, List.map_cons, List.map_nil, List.map_append, zAZ, zL, zW, push_cast, mOf, idx]
       exact zAH _
   ·have hr' : (n2 == 1) = false := by simpa using hr
    simp only [decide_eq_false hr, Bool.false_and] at hV1
    have g4 := zCl q d3 n3 e3 false
    obtain ⟨⟨d4, n4, e4⟩, hV⟩ : ∃ m, zBa q false (d3, n3, e3) = m := ⟨_, rfl⟩
    rw [hV] at g4
    simp only [hV] at hV1
    subst hV1
    simp only [mkV] at g1 g2 g3 g4 ⊢
    rcases og1 with _ | gg
    ·skip
     have hL0 : KT = [] := hno rfl
     repeat' first | (with_reducible first | refine zA ?_ | refine zB ?_ | refine zP ?_ | refine zJ ?_ | refine zI ?_) | ((first | with_reducible refine zC fun KC J hJ hKC => ?_ | (refine hKC _ _ _ _ _ (zT [0] g1 rfl rfl rfl (by decide) (by simp) rfl rfl Lq ?_)) | (refine hKC _ _ _ _ _ (zT [0] g2 rfl rfl rfl (by decide) (by simp) rfl rfl Lq ?_)) | (refine hKC _ _ _ _ _ (zT [0] g4 rfl rfl rfl (by decide) (by simp) rfl rfl Lq ?_))); simp (maxSteps := 9999999) only [push_cast, seval, ↓reduceIte, hlt, yE, yσ, List.cons_append, List.nil_append, hL0, hr', undef, zX, zN, zL, pick, mOf, idx, ren, ren2, ren1, ren0, zW, zp (i := i) (n := N) (by omega) (by omega)]) | ((with_reducible refine hJ _ _ ?_); clear hJ hKC KC J) | ((with_reducible refine zG ?_ ?_); · rfl)
     refine ⟨⟨(i + 1, some 0), by simp only; omega, (fun h => by cases h), (fun g h => by rw [hst2]; simp)⟩, by simp only; omega, [0, 7], by decide, ?_, ?_, ?_⟩
     ·intro a ha
      have ha2 : a < 1 := by omega
      match a, ha2 with
      | 0, _ => rfl
     ·simp only [yE, yσ, List.cons_append, List.nil_append, hst1, hst2, hL0, List.length_append, List.length_cons, List.length_nil, push_cast, mOf, idx]
      exact Lq
     ·simp only [yE, yσ, List.cons_append, List.nil_append, hst1, hst2, hL0, zBM, mkV, List.length_append, List.length_cons, List.length_nil, pick, List.map_cons, List.map_nil, List.map_append, zAZ, zL, zW, push_cast, mOf, idx]
      exact zAH _
    ·skip
     obtain ⟨m, hm⟩ : ∃ m, (KT).length = m := ⟨_, rfl⟩
     have hlC : (zj (KT)).length = m * 3 := by rw [zy, hm]
     have htC := zBo hlC
     have hbm : Nat.beq gg gg = true := Nat.beq_refl gg
     repeat' first | (with_reducible first | refine zA ?_ | refine zB ?_ | refine zP ?_ | refine zJ ?_ | refine zI ?_) | ((with_reducible refine And.intro ?_ ?_); · exact Sq) | ((first | with_reducible refine zC fun KC J hJ hKC => ?_ | (refine hKC _ _ _ _ _ (zT [0] g1 rfl rfl rfl (by decide) (by simp) rfl rfl Lq ?_)) | (refine hKC _ _ _ _ _ (zT [0] g2 rfl rfl rfl (by decide) (by simp) rfl rfl Lq ?_)) | (refine hKC _ _ _ _ _ (zT [0] g4 rfl rfl rfl (by decide) (by simp) rfl rfl Lq ?_))); simp (maxSteps := 9999999) only [push_cast, seval, ↓reduceIte, hlt, yE, yσ, List.cons_append, List.nil_append, hm, hlC, htC, hbm, hr', undef, zX, zN, zL, pick, mOf, idx, ren, ren2, ren1, ren0, zW, zp (i := i) (n := N) (by omega) (by omega)]) | ((with_reducible refine hJ _ _ ?_); clear hJ hKC KC J) | ((with_reducible refine zG ?_ ?_); · rfl)
     refine ⟨⟨(i + 1, some (gg + 1)), by simp only; omega, (fun h => by cases h), (fun g h => by rw [hst2]; simp)⟩, by simp only; omega, [0, 1], by decide, ?_, ?_, ?_⟩
     ·intro a ha
      have ha2 : a < 2 := by omega
      match a, ha2 with
      | 0, _ => rfl
      | 1, _ => rfl
     ·simp only [yE, yσ, List.cons_append, List.nil_append, hst1, hst2, hm, List.length_append, List.length_cons, List.length_nil, push_cast, mOf, idx]
      exact Lq
     ·simp only [yE, yσ, List.cons_append, List.nil_append, hst1, hst2, hm, zBM, mkV, List.length_append, List.length_cons, List.length_nil, pick, List.map_cons, List.map_nil, List.map_append, zAZ, zL, zW, push_cast, mOf, idx]
      exact zAH _
  have hin : i = N := by omega
  subst hin
  obtain ⟨⟨d1, n1, e1⟩, hM⟩ : ∃ m, (ze (v1P q) i B).1 = m := ⟨_, rfl⟩
  obtain ⟨KT, hKT⟩ : ∃ T, (ze (v1P q) i B).2 = T := ⟨_, rfl⟩
  rw [hKT] at hno hns ⊢
  rw [hM]
  obtain ⟨m, hm⟩ : ∃ m, KT.length = m := ⟨_, rfl⟩
  have hlC : (zj KT).length = m * 3 := by rw [zy, hm]
  have hcp : zAh 3 m (zj KT) = zg KT := by rw [← hm]; exact zEd KT
  rcases og1 with _ | gg
  ·have hL0 := hno rfl
   subst hL0
   simp only [yE, yσ, mkV]
   repeat' first | (with_reducible first | refine zA ?_ | refine zB ?_ | refine zm ?_ | refine zl ?_ | refine zF ?_ | refine zZ ?_) | ((with_reducible refine zC fun KC J hJ hKC => ?_); simp (maxSteps := 9999999) only [push_cast, seval, ↓reduceIte, hlt]) | ((with_reducible refine hJ _ _ ?_); clear hJ hKC KC J) | ((with_reducible refine zH ?_ ?_); · rfl)
   refine zd ?_
   simp (maxSteps := 9999999) only [push_cast, seval, ↓reduceIte, show Tryz.f264.results = #[(.tmp 4)] from rfl]
   exact ⟨rfl, zK _⟩
  ·have hne := hns gg rfl
   have hbm : Nat.beq gg gg = true := Nat.beq_refl gg
   rw [decide_eq_false hne]
   simp only [yE, yσ, mkV, hm]
   repeat' first | (refine zU 9 1 rfl (by (simp (maxSteps := 9999999) only [push_cast, seval, ↓reduceIte]) <;> rfl) ?_; simp (maxSteps := 9999999) only [push_cast, seval, ↓reduceIte, zAK, zi, fr3, fr2, fr1, fr0, zq, zn, hlt, hlC, hcp, hbm]) | (with_reducible first | refine zA ?_ | refine zB ?_ | refine zm ?_ | refine zl ?_ | refine zF ?_ | refine zZ ?_) | ((with_reducible refine zC fun KC J hJ hKC => ?_); simp (maxSteps := 9999999) only [push_cast, seval, ↓reduceIte, hlt, hlC, hcp, hbm]) | ((with_reducible refine hJ _ _ ?_); clear hJ hKC KC J) | ((with_reducible refine zH ?_ ?_); · rfl)
   refine zd ?_
   simp (maxSteps := 9999999) only [push_cast, seval, ↓reduceIte, show Tryz.f264.results = #[(.tmp 4)] from rfl]
   exact ⟨rfl, zK _⟩
 ·simp only [yE, yσ, yO]
  refine Fn.of (fn := Tryz.f264) (by kernel_rfl) rfl (by kernel_rfl) ⟨[.ptr 0 0 0, .ref 1 g0 k.length, .v undef, .v undef, .v undef, .v undef, .v undef, .v undef, .v undef, .v undef, .v undef, .v undef, .v undef, .v undef, .v undef, .v undef, .v undef, .v undef, .v undef, .v undef, .v undef, .v undef, .v undef, .v undef, .v undef, .v undef, .v undef, .v undef, .v undef, .v undef, .v undef, .v undef, .v undef, .v undef, .v undef, .v undef, .v undef, .v undef, .v undef, .v undef, .v undef, .v undef, .v undef, .v undef, .v undef, .v undef, .v undef, .v undef, .v undef, .v undef, .v undef, .v undef], [.ent (mkV q d e), .ent ⟨g0, some 3, 104, zj k, .cells⟩]⟩ rfl ?_
  simp only [mkV] at hb0 ⊢
  have hbm0 : Nat.beq g0 g0 = true := Nat.beq_refl g0
  repeat' first | (with_reducible first | refine zA ?_ | refine zB ?_ | refine zI ?_) | ((first | with_reducible refine zC fun KC J hJ hKC => ?_ | (refine hKC _ _ _ _ _ (zT [0] hb0 rfl rfl rfl (by decide) (by simp) rfl rfl Lq ?_))); simp (maxSteps := 9999999) only [push_cast, seval, ↓reduceIte, w1, w2, hbm0, zX, zN, zL, pick, mOf, idx, ren, ren2, ren1, ren0, zW]) | ((with_reducible refine hJ _ _ ?_); clear hJ hKC KC J)
  refine zHB 2 (γ := {p : Nat × Option Nat // p.1 ≤ N ∧ (p.2 = none → k ++ (ze (v1P q) p.1 B).2 = []) ∧ (p.2 = none → p.2 ≠ none)}) (fun p => ⟨[.ptr 0 0 0, yE (k ++ (ze (v1P q) p.1.1 B).2).length p.1.2, .any, .any, .any, .any, .any, .any, .any, .any, .any, .any, .any, .any, .any, .any, .v (.int .i64 N), .v (.int .i64 p.1.1), .any, .any, .any, .any, .any, .any, .any, .any, .any, .any, .any, .any, .any, .any, .any, .any, .any, .any, .any, .any, .any, .any, .any, .any, .any, .any, .any, .any, .any, .any, .any, .any, .any, .any], yσ (.ent (mkV q (ze (v1P q) p.1.1 B).1.1 (ze (v1P q) p.1.1 B).1.2.2)) (zj (k ++ (ze (v1P q) p.1.1 B).2)) p.1.2⟩) (fun p => N - p.1.1) ⟨(0, some g0), by omega, (fun h => by cases h), fun h => by cases h⟩ rfl ⟨?_, ?_⟩ ?_
  ·simp only [ze, List.append_nil, yE]
   exact Lq
  ·simp only [ze, List.append_nil, yσ, mkV]
   exact Fq
  rintro ⟨⟨i, og1⟩, hi, hno, hns⟩
  dsimp only at hi hno hns ⊢
  by_cases hlt : (i : Int) < (N : Int)
  ·skip
   obtain ⟨⟨d1, n1, e1⟩, hM⟩ : ∃ m, (ze (v1P q) i B).1 = m := ⟨_, rfl⟩
   obtain ⟨KT, hKT⟩ : ∃ T, k ++ (ze (v1P q) i B).2 = T := ⟨_, rfl⟩
   have hst : ze (v1P q) (i + 1) B = ((v1P q (d1, n1, e1)).1, (ze (v1P q) i B).2 ++ [(v1P q (d1, n1, e1)).2]) := by simp only [ze, hM]
   have hst1 : (ze (v1P q) (i + 1) B).1 = (v1P q (d1, n1, e1)).1 := by rw [hst]
   have hst2 : k ++ (ze (v1P q) (i + 1) B).2 = KT ++ [(v1P q (d1, n1, e1)).2] := by rw [hst, ← hKT, List.append_assoc]
   rw [hKT] at hno ⊢
   rw [hM]
   clear hst
   have hKl : KT.length ≤ 1000 := by rw [← hKT, List.length_append, zBe]; omega
   have g1 := zCo q d1 n1 e1 2 (by omega)
   obtain ⟨V, hV1⟩ : ∃ V, v1P q (d1, n1, e1) = V := ⟨_, rfl⟩
   rw [hV1] at hst1 hst2
   unfold v1P at hV1
   obtain ⟨⟨d2, n2, e2⟩, hR⟩ : ∃ m, zR (d1, n1, e1) 2 = m := ⟨_, rfl⟩
   rw [hR] at g1 hV1
   have g2 := zCo q d2 n2 e2 (q.us.length : Int) (by omega)
   have hlr := zCm (m := (d2, n2, e2)) (b := (q.us.length : Int)) (by have := hq.lab; omega)
   obtain ⟨⟨d3, n3, e3⟩, hL⟩ : ∃ m, zR (d2, n2, e2) (q.us.length : Int) = m := ⟨_, rfl⟩
   simp only [hL] at g2 hV1 hlr
   have g3 := zAw q hq d3 e3 n3 (zAG.2 hlr)
   obtain ⟨hb, hhb⟩ : ∃ b, hid q.us q.o n3 = b := ⟨_, rfl⟩
   rw [hhb] at g3
   simp only [hhb] at hV1
   by_cases hr : n2 = 1
   ·have hr' : (n2 == 1) = true := by simpa using hr
    simp only [decide_eq_true hr, Bool.true_and] at hV1
    cases hb
    case false =>
     have g4 := zCl q d3 n3 e3 false
     obtain ⟨⟨d4, n4, e4⟩, hV⟩ : ∃ m, zBa q false (d3, n3, e3) = m := ⟨_, rfl⟩
     rw [hV] at g4
     simp only [hV] at hV1
     subst hV1
     simp only [mkV] at g1 g2 g3 g4 ⊢
     rcases og1 with _ | gg
     ·exact absurd rfl (hns rfl)
     ·skip
      obtain ⟨m, hm⟩ : ∃ m, (KT).length = m := ⟨_, rfl⟩
      have hlC : (zj (KT)).length = m * 3 := by rw [zy, hm]
      have htC := zBo hlC
      have hbm : Nat.beq gg gg = true := Nat.beq_refl gg
      repeat' first | (with_reducible first | refine zA ?_ | refine zB ?_ | refine zP ?_ | refine zJ ?_ | refine zI ?_) | ((with_reducible refine And.intro ?_ ?_); · exact Sq) | ((first | with_reducible refine zC fun KC J hJ hKC => ?_ | (refine hKC _ _ _ _ _ (zT [0] g1 rfl rfl rfl (by decide) (by simp) rfl rfl Lq ?_)) | (refine hKC _ _ _ _ _ (zT [0] g2 rfl rfl rfl (by decide) (by simp) rfl rfl Lq ?_)) | (refine hKC _ _ _ _ _ (zT [0] g3 rfl rfl rfl (by decide) (by simp) rfl rfl Lq ?_)) | (refine hKC _ _ _ _ _ (zT [0] g4 rfl rfl rfl (by decide) (by simp) rfl rfl Lq ?_))); simp (maxSteps := 9999999) only [push_cast, seval, ↓reduceIte, hlt, yE, yσ, List.cons_append, List.nil_append, hm, hlC, htC, hbm, hr', undef, zX, zN, zL, pick, mOf, idx, ren, ren2, ren1, ren0, zW, zp (i := i) (n := N) (by omega) (by omega)]) | ((with_reducible refine hJ _ _ ?_); clear hJ hKC KC J) | ((with_reducible refine zG ?_ ?_); · rfl)
      refine ⟨⟨(i + 1, some (gg + 1)), by simp only; omega, (fun h => by cases h), (fun h => by cases h)⟩, by simp only; omega, [0, 1], by decide, ?_, ?_, ?_⟩
      ·intro a ha
       have ha2 : a < 2 := by omega
       match a, ha2 with
       | 0, _ => rfl
       | 1, _ => rfl
      ·simp only [yE, yσ, List.cons_append, List.nil_append, hst1, hst2, hm, List.length_append, List.length_cons, List.length_nil, push_cast, mOf, idx]
       exact Lq
      ·simp only [yE, yσ, List.cons_append, List.nil_append, hst1, hst2, hm, zBM, mkV, List.length_append, List.length_cons, List.length_nil, pick, List.map_cons, List.map_nil, List.map_append, zAZ, zL, zW, push_cast, mOf, idx]
       exact zAH _
    case true =>
     have g4 := zCl q d3 n3 e3 true
     obtain ⟨⟨d4, n4, e4⟩, hV⟩ : ∃ m, zBa q true (d3, n3, e3) = m := ⟨_, rfl⟩
     rw [hV] at g4
     simp only [hV] at hV1
     subst hV1
     simp only [mkV] at g1 g2 g3 g4 ⊢
     rcases og1 with _ | gg
     ·exact absurd rfl (hns rfl)
     ·skip
      obtain ⟨m, hm⟩ : ∃ m, (KT).length = m := ⟨_, rfl⟩
      have hlC : (zj (KT)).length = m * 3 := by rw [zy, hm]
      have htC := zBo hlC
      have hbm : Nat.beq gg gg = true := Nat.beq_refl gg
      repeat' first | (with_reducible first | refine zA ?_ | refine zB ?_ | refine zP ?_ | refine zJ ?_ | refine zI ?_) | ((with_reducible refine And.intro ?_ ?_); · exact Sq) | ((first | with_reducible refine zC fun KC J hJ hKC => ?_ | (refine hKC _ _ _ _ _ (zT [0] g1 rfl rfl rfl (by decide) (by simp) rfl rfl Lq ?_)) | (refine hKC _ _ _ _ _ (zT [0] g2 rfl rfl rfl (by decide) (by simp) rfl rfl Lq ?_)) | (refine hKC _ _ _ _ _ (zT [0] g3 rfl rfl rfl (by decide) (by simp) rfl rfl Lq ?_)) | (refine hKC _ _ _ _ _ (zT [0] g4 rfl rfl rfl (by decide) (by simp) rfl rfl Lq ?_))); simp (maxSteps := 9999999) only [push_cast, seval, ↓reduceIte, hlt, yE, yσ, List.cons_append, List.nil_append, hm, hlC, htC, hbm, hr', undef, zX, zN, zL, pick, mOf, idx, ren, ren2, ren1, ren0, zW, zp (i := i) (n := N) (by omega) (by omega)]) | ((with_reducible refine hJ _ _ ?_); clear hJ hKC KC J) | ((with_reducible refine zG ?_ ?_); · rfl)
      refine ⟨⟨(i + 1, some (gg + 1)), by simp only; omega, (fun h => by cases h), (fun h => by cases h)⟩, by simp only; omega, [0, 1], by decide, ?_, ?_, ?_⟩
      ·intro a ha
       have ha2 : a < 2 := by omega
       match a, ha2 with
       | 0, _ => rfl
       | 1, _ => rfl
      ·simp only [yE, yσ, List.cons_append, List.nil_append, hst1, hst2, hm, List.length_append, List.length_cons, List.length_nil, push_cast, mOf, idx]
       exact Lq
      ·simp only [yE, yσ, List.cons_append, List.nil_append, hst1, hst2, hm, zBM, mkV, List.length_append, List.length_cons, List.length_nil, pick, List.map_cons, List.map_nil, List.map_append, zAZ, zL, zW, push_cast, mOf, idx]
       exact zAH _
   ·have hr' : (n2 == 1) = false := by simpa using hr
    simp only [decide_eq_false hr, Bool.false_and] at hV1
    have g4 := zCl q d3 n3 e3 false
    obtain ⟨⟨d4, n4, e4⟩, hV⟩ : ∃ m, zBa q false (d3, n3, e3) = m := ⟨_, rfl⟩
    rw [hV] at g4
    simp only [hV] at hV1
    subst hV1
    simp only [mkV] at g1 g2 g3 g4 ⊢
    rcases og1 with _ | gg
    ·exact absurd rfl (hns rfl)
    ·skip
     obtain ⟨m, hm⟩ : ∃ m, (KT).length = m := ⟨_, rfl⟩
     have hlC : (zj (KT)).length = m * 3 := by rw [zy, hm]
     have htC := zBo hlC
     have hbm : Nat.beq gg gg = true := Nat.beq_refl gg
     repeat' first | (with_reducible first | refine zA ?_ | refine zB ?_ | refine zP ?_ | refine zJ ?_ | refine zI ?_) | ((with_reducible refine And.intro ?_ ?_); · exact Sq) | ((first | with_reducible refine zC fun KC J hJ hKC => ?_ | (refine hKC _ _ _ _ _ (zT [0] g1 rfl rfl rfl (by decide) (by simp) rfl rfl Lq ?_)) | (refine hKC _ _ _ _ _ (zT [0] g2 rfl rfl rfl (by decide) (by simp) rfl rfl Lq ?_)) | (refine hKC _ _ _ _ _ (zT [0] g4 rfl rfl rfl (by decide) (by simp) rfl rfl Lq ?_))); simp (maxSteps := 9999999) only [push_cast, seval, ↓reduceIte, hlt, yE, yσ, List.cons_append, List.nil_append, hm, hlC, htC, hbm, hr', undef, zX, zN, zL, pick, mOf, idx, ren, ren2, ren1, ren0, zW, zp (i := i) (n := N) (by omega) (by omega)]) | ((with_reducible refine hJ _ _ ?_); clear hJ hKC KC J) | ((with_reducible refine zG ?_ ?_); · rfl)
     refine ⟨⟨(i + 1, some (gg + 1)), by simp only; omega, (fun h => by cases h), (fun h => by cases h)⟩, by simp only; omega, [0, 1], by decide, ?_, ?_, ?_⟩
     ·intro a ha
      have ha2 : a < 2 := by omega
      match a, ha2 with
      | 0, _ => rfl
      | 1, _ => rfl
     ·simp only [yE, yσ, List.cons_append, List.nil_append, hst1, hst2, hm, List.length_append, List.length_cons, List.length_nil, push_cast, mOf, idx]
      exact Lq
     ·simp only [yE, yσ, List.cons_append, List.nil_append, hst1, hst2, hm, zBM, mkV, List.length_append, List.length_cons, List.length_nil, pick, List.map_cons, List.map_nil, List.map_append, zAZ, zL, zW, push_cast, mOf, idx]
      exact zAH _
  have hin : i = N := by omega
  subst hin
  obtain ⟨⟨d1, n1, e1⟩, hM⟩ : ∃ m, (ze (v1P q) i B).1 = m := ⟨_, rfl⟩
  obtain ⟨KT, hKT⟩ : ∃ T, k ++ (ze (v1P q) i B).2 = T := ⟨_, rfl⟩
  rw [hKT] at hno ⊢
  rw [hM]
  obtain ⟨m, hm⟩ : ∃ m, KT.length = m := ⟨_, rfl⟩
  have hlC : (zj KT).length = m * 3 := by rw [zy, hm]
  have hcp : zAh 3 m (zj KT) = zg KT := by rw [← hm]; exact zEd KT
  rcases og1 with _ | gg
  ·exact absurd rfl (hns rfl)
  ·have hbm : Nat.beq gg gg = true := Nat.beq_refl gg
   simp only [yE, yσ, mkV, hm]
   repeat' first | (refine zU 9 1 rfl (by (simp (maxSteps := 9999999) only [push_cast, seval, ↓reduceIte]) <;> rfl) ?_; simp (maxSteps := 9999999) only [push_cast, seval, ↓reduceIte, zAK, zi, fr3, fr2, fr1, fr0, zq, zn, hlt, hlC, hcp, hbm]) | (with_reducible first | refine zA ?_ | refine zB ?_ | refine zm ?_ | refine zl ?_ | refine zF ?_ | refine zZ ?_) | ((with_reducible refine zC fun KC J hJ hKC => ?_); simp (maxSteps := 9999999) only [push_cast, seval, ↓reduceIte, hlt, hlC, hcp, hbm]) | ((with_reducible refine hJ _ _ ?_); clear hJ hKC KC J) | ((with_reducible refine zH ?_ ?_); · rfl)
   refine zd ?_
   simp (maxSteps := 9999999) only [push_cast, seval, ↓reduceIte, show Tryz.f264.results = #[(.tmp 4)] from rfl]
   exact ⟨rfl, zK _⟩
def uL (us : List Nat) (o i : Nat) : List Int := ((List.range i).map (fun a : Nat => (a : Int))).filter (hid us o)
theorem zTQ (us : List Nat) (o i : Nat) : uL us o (i + 1) = uL us o i ++ (if hid us o (i : Int) = true then [(i : Int)] else []) := by
 unfold uL
 rw [List.range_succ, List.map_append, List.filter_append]
 congr 1
 rw [List.map_cons, List.map_nil, List.filter_cons]
 split <;> rfl
theorem zVL (us : List Nat) (o i : Nat) : (uL us o i).length ≤ i := by
 unfold uL; exact Nat.le_trans (List.length_filter_le _ _) (by simp)
theorem zMO : ∀ {l : List D} {n : Nat} {x : D}, l[n]? = some x → zDw l n = x
 | [], _, _, h => by simp at h
 | d :: l, 0, x, h => by simp at h; exact h
 | d :: l, n + 1, x, h => zMO (l := l) (n := n) (by simpa using h)
def uE (n : Nat) : Option Nat → D
 | none => .v (.slice none 0 0)
 | some g => .ref 1 g n
def uσ (s : Slot) (cs : List D) : Option Nat → List Slot
 | none => [s]
 | some g => [s, .ent ⟨g, some 1, 3, cs, .cells⟩]
theorem zBp (q : VQ) (hq : VOk q) (hul : q.us.length ≤ 8) (d : Dr) (n0 e : Int) (hne : zh q.us q.o ≠ []) :
  Fn Tryz.prog 266 [.ptr 0 0 0] [.ent (mkV q d e)] (.v (.int .i64 ((zh q.us q.o).getD (zR (d, n0, e) (zh q.us q.o).length).2.1.toNat 0))) [.ent (mkV q (zR (d, n0, e) (zh q.us q.o).length).1 (zR (d, n0, e) (zh q.us q.o).length).2.2)] := by
 have hqu : (zQ q.us).length = q.us.length := by simp [zQ]
 refine Fn.of (fn := Tryz.f266) (by kernel_rfl) rfl (by kernel_rfl) ⟨[.ptr 0 0 0, .v undef, .v undef, .v undef, .v undef, .v undef, .v undef, .v undef, .v undef, .v undef, .v undef, .v undef, .v undef, .v undef, .v undef, .v undef, .v undef, .v undef, .v undef, .v undef, .v undef, .v undef, .v undef, .v undef, .v undef, .v undef, .v undef, .v undef, .v undef, .v undef, .v undef], [.ent (mkV q d e)]⟩ rfl ?_
 simp only [mkV]
 repeat' first | (with_reducible first | refine zA ?_ | refine zB ?_ | refine zI ?_) | ((with_reducible refine zC fun KC J hJ hKC => ?_); simp (maxSteps := 9999999) only [push_cast, seval, ↓reduceIte, hqu]) | ((with_reducible refine hJ _ _ ?_); clear hJ hKC KC J)
 refine zHB 1 (γ := {p : Nat × Option Nat // p.1 ≤ q.us.length ∧ (p.2 = none → uL q.us q.o p.1 = []) ∧ ∀ g, p.2 = some g → uL q.us q.o p.1 ≠ []}) (fun p => ⟨[.ptr 0 0 0, .any, .any, uE (uL q.us q.o p.1.1).length p.1.2, .any, .any, .any, .any, .any, .any, .any, .v (.int .i64 q.us.length), .v (.int .i64 p.1.1), .any, .any, .any, .any, .any, .any, .any, .any, .any, .any, .any, .any, .any, .any, .any, .any, .any, .any], uσ (.ent (mkV q d e)) (zt (uL q.us q.o p.1.1)) p.1.2⟩) (fun p => q.us.length - p.1.1) ⟨(0, none), by omega, (fun _ => rfl), fun g h => by cases h⟩ rfl ⟨?_, ?_⟩ ?_
 ·simp only [uE]
  exact Lq
 ·simp only [uσ, mkV]
  exact Fq
 rintro ⟨⟨i, og⟩, hi, hno, hns⟩
 dsimp only at hi hno hns ⊢
 have hle := zVL q.us q.o i
 by_cases hlt : (i : Int) < (q.us.length : Int)
 ·have hst := zTQ q.us q.o i
  have g1 := zAw q hq d e (i : Int) (zAG.2 (by omega))
  obtain ⟨b, hb⟩ : ∃ b, hid q.us q.o (i : Int) = b := ⟨_, rfl⟩
  rw [hb] at g1 hst
  obtain ⟨L, hL⟩ : ∃ L, uL q.us q.o i = L := ⟨_, rfl⟩
  rw [hL] at hno hns hst hle ⊢
  cases b
  case false =>
   rw [if_neg (by simp), List.append_nil] at hst
   rcases og with _ | gg
   ·simp only [mkV] at g1 ⊢
    repeat' first | (with_reducible first | refine zA ?_ | refine zB ?_ | refine zP ?_ | refine zJ ?_ | refine zI ?_) | ((first | with_reducible refine zC fun KC J hJ hKC => ?_ | (refine hKC _ _ _ _ _ (zT [0] g1 rfl rfl rfl (by decide) (by simp) rfl rfl Lq ?_))); simp (maxSteps := 9999999) only [push_cast, seval, ↓reduceIte, hlt, uE, uσ, zX, zN, zL, pick, mOf, idx, ren, ren2, ren1, ren0, zAE, zp (i := i) (n := q.us.length) (by omega) (by omega)]) | ((with_reducible refine hJ _ _ ?_); clear hJ hKC KC J) | ((with_reducible refine zG ?_ ?_); · rfl) | ((with_reducible refine zH ?_ ?_); · rfl)
    refine ⟨⟨(i + 1, none), by simp only; omega, (fun _ => by rw [hst]; exact hno rfl), (fun g h => by cases h)⟩, by simp only; omega, [0], by decide, ?_, ?_, ?_⟩
    ·intro a ha
     have ha2 : a < 1 := by omega
     match a, ha2 with
     | 0, _ => rfl
    ·simp only [uE, hst, push_cast, mOf, idx]
     exact Lq
    ·simp only [uσ, hst, mkV, pick, List.map_cons, List.map_nil, List.map_append, zAZ, zL, zAE, push_cast, mOf, idx]
     exact zAH _
   ·obtain ⟨m, hm⟩ : ∃ m, L.length = m := ⟨_, rfl⟩
    simp only [mkV] at g1 ⊢
    repeat' first | (with_reducible first | refine zA ?_ | refine zB ?_ | refine zP ?_ | refine zJ ?_ | refine zI ?_) | ((first | with_reducible refine zC fun KC J hJ hKC => ?_ | (refine hKC _ _ _ _ _ (zT [0] g1 rfl rfl rfl (by decide) (by simp) rfl rfl Lq ?_))); simp (maxSteps := 9999999) only [push_cast, seval, ↓reduceIte, hlt, uE, uσ, hm, zX, zN, zL, pick, mOf, idx, ren, ren2, ren1, ren0, zAE, zp (i := i) (n := q.us.length) (by omega) (by omega)]) | ((with_reducible refine hJ _ _ ?_); clear hJ hKC KC J) | ((with_reducible refine zG ?_ ?_); · rfl) | ((with_reducible refine zH ?_ ?_); · rfl)
    refine ⟨⟨(i + 1, some gg), by simp only; omega, (fun h => by cases h), (fun g h => by rw [hst]; exact hns gg rfl)⟩, by simp only; omega, [0, 1], by decide, ?_, ?_, ?_⟩
    ·intro a ha
     have ha2 : a < 2 := by omega
     match a, ha2 with
     | 0, _ => rfl
     | 1, _ => rfl
    ·simp only [uE, hst, hm, push_cast, mOf, idx]
     exact Lq
    ·simp only [uσ, hst, mkV, pick, List.map_cons, List.map_nil, List.map_append, zAZ, zL, zAE, push_cast, mOf, idx]
     exact zAH _
  case true =>
   rw [if_pos rfl] at hst
   rcases og with _ | gg
   ·have hL0 := hno rfl
    simp only [mkV] at g1 ⊢
    repeat' first | (with_reducible first | refine zA ?_ | refine zB ?_ | refine zP ?_ | refine zJ ?_ | refine zI ?_) | ((first | with_reducible refine zC fun KC J hJ hKC => ?_ | (refine hKC _ _ _ _ _ (zT [0] g1 rfl rfl rfl (by decide) (by simp) rfl rfl Lq ?_))); simp (maxSteps := 9999999) only [push_cast, seval, ↓reduceIte, hlt, uE, uσ, hL0, zX, zN, zL, pick, mOf, idx, ren, ren2, ren1, ren0, zAE, zp (i := i) (n := q.us.length) (by omega) (by omega)]) | ((with_reducible refine hJ _ _ ?_); clear hJ hKC KC J) | ((with_reducible refine zG ?_ ?_); · rfl)
    refine ⟨⟨(i + 1, some 0), by simp only; omega, (fun h => by cases h), (fun g h => by rw [hst]; simp)⟩, by simp only; omega, [0, 3], by decide, ?_, ?_, ?_⟩
    ·intro a ha
     have ha2 : a < 1 := by omega
     match a, ha2 with
     | 0, _ => rfl
    ·simp only [uE, hst, hL0, List.nil_append, List.length_cons, List.length_nil, push_cast, mOf, idx]
     exact Lq
    ·simp only [uσ, hst, hL0, List.nil_append, mkV, pick, List.map_cons, List.map_nil, List.map_append, zAZ, zL, zAE, push_cast, mOf, idx]
     exact zAH _
   ·obtain ⟨m, hm⟩ : ∃ m, L.length = m := ⟨_, rfl⟩
    have hlC : (zt L).length = m * 1 := by rw [zAM, hm, Nat.mul_one]
    have hlC1 : (zt L).length = m := by rw [zAM, hm]
    have htC := zBo hlC
    have htC1 := zBo hlC1
    have hbm : Nat.beq gg gg = true := Nat.beq_refl gg
    simp only [mkV] at g1 ⊢
    repeat' first | (with_reducible first | refine zA ?_ | refine zB ?_ | refine zP ?_ | refine zJ ?_ | refine zI ?_) | ((with_reducible refine And.intro ?_ ?_); · exact Sq) | ((first | with_reducible refine zC fun KC J hJ hKC => ?_ | (refine hKC _ _ _ _ _ (zT [0] g1 rfl rfl rfl (by decide) (by simp) rfl rfl Lq ?_))); simp (maxSteps := 9999999) only [push_cast, seval, ↓reduceIte, hlt, uE, uσ, hm, hlC1, htC1, hbm, Nat.mul_one, zX, zN, zL, pick, mOf, idx, ren, ren2, ren1, ren0, zAE, zp (i := i) (n := q.us.length) (by omega) (by omega)]) | ((with_reducible refine hJ _ _ ?_); clear hJ hKC KC J) | ((with_reducible refine zG ?_ ?_); · rfl)
    refine ⟨⟨(i + 1, some (gg + 1)), by simp only; omega, (fun h => by cases h), (fun g h => by rw [hst]; simp)⟩, by simp only; omega, [0, 1], by decide, ?_, ?_, ?_⟩
    ·intro a ha
     have ha2 : a < 2 := by omega
     match a, ha2 with
     | 0, _ => rfl
     | 1, _ => rfl
    ·simp only [uE, hst, hm, List.length_append, List.length_cons, List.length_nil, push_cast, mOf, idx]
     exact Lq
    ·simp only [uσ, hst, hm, zEF, mkV, pick, List.map_cons, List.map_nil, List.map_append, zAZ, zL, zAE, push_cast, mOf, idx]
     exact zAH _
 have hin : i = q.us.length := by omega
 subst hin
 have hend : uL q.us q.o q.us.length = zh q.us q.o := rfl
 rw [hend] at hno hns hle ⊢
 have h1 : 0 < (zh q.us q.o).length := List.length_pos_iff.2 hne
 have g2 := zCo q d n0 e (zh q.us q.o).length (by omega)
 have hbr := zCm (m := (d, n0, e)) (show 1 ≤ ((zh q.us q.o).length : Int) by omega)
 obtain ⟨B, hB⟩ : ∃ m, zR (d, n0, e) (zh q.us q.o).length = m := ⟨_, rfl⟩
 rw [hB] at g2 hbr ⊢
 obtain ⟨L, hL⟩ : ∃ L, zh q.us q.o = L := ⟨_, rfl⟩
 rw [hL] at hno hns hle h1 hbr g2 ⊢
 obtain ⟨N, hN⟩ : ∃ N : Nat, B.2.1 = N := ⟨B.2.1.toNat, by omega⟩
 rw [hN] at g2 hbr ⊢
 rw [Int.toNat_natCast]
 rcases og with _ | gg
 ·exact absurd (hno rfl) (by intro h; rw [h] at h1; simp at h1)
 ·obtain ⟨m, hm⟩ : ∃ m, L.length = m := ⟨_, rfl⟩
  have hlC : (zt L).length = m := by rw [zAM, hm]
  have hbm : Nat.beq gg gg = true := Nat.beq_refl gg
  have hNm : N < m := by omega
  have hat : (zt L)[N]? = some (.v (.int .i64 (L.getD N 0))) := by
   unfold zt
   rw [List.getElem?_map, List.getD_eq_getElem?_getD, List.getElem?_eq_getElem (by omega)]
   rfl
  rw [hm] at g2
  have hgf : zDw (zt L) N = .v (.int .i64 (L.getD N 0)) := zMO hat
  have hcp : zAh 1 m (zt L) = zM L := by rw [← hm]; exact zFW L
  simp only [uE, uσ, mkV, hm] at g2 ⊢
  repeat' first | (with_reducible first | refine zA ?_ | refine zB ?_ | refine zm ?_ | refine zl ?_ | refine zF ?_ | refine zZ ?_) | ((with_reducible refine And.intro ?_ ?_); · exact Sq) | ((first | with_reducible refine zC fun KC J hJ hKC => ?_ | (refine hKC _ _ _ _ _ (zT [0] g2 rfl rfl rfl (by decide) (by simp) rfl rfl Lq ?_))); simp (maxSteps := 9999999) only [push_cast, seval, ↓reduceIte, hlt, Int.lt_irrefl, hlC, hbm, hgf, hNm, zX, zN, zL, pick, mOf, idx, ren, ren2, ren1, ren0, zAE]) | ((with_reducible refine hJ _ _ ?_); clear hJ hKC KC J) | ((with_reducible refine zH ?_ ?_); · rfl)
  refine zd ?_
  simp (maxSteps := 9999999) only [push_cast, seval, ↓reduceIte, show Tryz.f266.results = #[(.tmp 2)] from rfl]
  exact ⟨rfl, zK _⟩
theorem Each.of {α : Type} {p q : α → α → Prop} (h : ∀ x y, p x y → q x y) : ∀ {xs ys : List α}, Cp.Each p xs ys → Cp.Each q xs ys
 | [], [], _ => trivial
 | _ :: _, _ :: _, hh => ⟨h _ _ hh.1, Each.of h hh.2⟩
theorem zEX {us : List Nat} {o : Nat} {l : Int} : l ∈ zh us o ↔ zx us.length l = false ∧ hid us o l = true := by
 unfold zh
 rw [List.mem_filter, List.mem_map]
 simp only [zx, Bool.or_eq_false_iff, decide_eq_false_iff_not]
 constructor
 ·rintro ⟨⟨a, ha, rfl⟩, h⟩
  rw [List.mem_range] at ha
  exact ⟨by omega, h⟩
 ·rintro ⟨⟨h1, h2⟩, h3⟩
  exact ⟨⟨l.toNat, by rw [List.mem_range]; omega, by omega⟩, h3⟩
structure InSp (n : Nat) (sp : Sp) (s : Sta) : Prop where
 v : 0 ≤ s.v ∧ s.v ≤ 12
 l : zx n s.l = false
 cl : (s.code.length : Int) ≤ sp.code
 ml : (s.mem.length : Int) ≤ sp.mem
 sl : (s.stack.length : Int) ≤ sp.stack
 out : s.out = []
 c : ∀ x ∈ s.code, zBR n x = true ∧ zBS sp x = true
 m : ∀ x ∈ s.mem, zCf n x = true ∧ inB (-sp.val) sp.val x.1 = true
 s : ∀ x ∈ s.stack, zCT n x = true ∧ (x.1 || inB (-sp.val) sp.val x.2.1) = true
theorem zFD {n : Nat} {sp : Sp} (h : SpOk sp) {s : Sta} : zDx n sp s = true ↔ InSp n sp s := by
 have h1 := h.c1
 have h2 := h.m1
 have h3 := h.s1
 simp only [zDx, zIl, zFd, Bool.and_eq_true, decide_eq_true_eq, List.all_eq_true, zAb, Bool.not_eq_true']
 constructor
 ·rintro ⟨⟨⟨a1, a2⟩, a3, a4, a5, a6, a7, a8, a9, a10⟩, b1, b2, b3, b4, b5, b6, b7⟩
  exact ⟨a3, a4, b1, b2, b3, List.length_eq_zero_iff.1 b4, fun x hx => ⟨a1 x hx, b5 x hx⟩, fun x hx => ⟨a5 x hx, zAb.2 (b6 x hx)⟩, fun x hx => ⟨a7 x hx, b7 x hx⟩⟩
 ·rintro ⟨a3, a4, b1, b2, b3, b4, c, m, s'⟩
  rw [b4]
  exact ⟨⟨⟨fun x hx => (c x hx).1, by omega⟩, a3, a4, fun x hx => (m x hx).1, by omega, fun x hx => (s' x hx).1, by omega, fun x hx => (by cases hx), Nat.zero_le _⟩, b1, b2, b3, rfl, fun x hx => (c x hx).2, fun x hx => zAb.1 (m x hx).2, fun x hx => (s' x hx).2⟩
theorem zPa {a b : Slot} {l m : List Slot} (h : zJu a b) (h2 : leS l m) : leS (a :: l) (b :: m) := ⟨h, h2⟩
theorem LSv {p : Prop} (h : p := by (repeat' first | exact zAH _ | refine zPa ?_ ?_ | exact .inr (.inl rfl) | exact .inl rfl | exact zQf rfl rfl rfl rfl Lq)) : p := h
theorem zOc {l : List (Int × Int)} {n : Nat} {v w : Int} (v' : Int) (h : l[n]? = some (v, w)) : (zk l).take (n * 2) ++ [D.v (.int .i64 v')] ++ (zk l).drop (n * 2 + 1) = zk (l.set n (v', w)) := by
 obtain ⟨hn, hx⟩ := List.getElem?_eq_some_iff.1 h
 rw [List.set_eq_take_append_cons_drop, if_pos hn, zFw, zFG]
 have h3 : (zk l).drop (n * 2 + 1) = .v (.int .i64 w) :: zk (l.drop (n + 1)) := by
  rw [← List.drop_drop, zEx, List.drop_eq_getElem_cons hn, hx]
  simp [zk, za]
 rw [h3]
 simp [zk, za]
theorem zCp {ns : List ByteArray} {us : List Nat} {o : Int} {s : List (Bool × Int × Int)} (hc : zAA ns us = 0) (hs : ∀ x ∈ s, zx us.length x.2.2 = false) (ho : zx us.length o = false) : zMF ns us o s = 0 := by
 unfold zMF zEm
 rw [if_pos hc, if_neg]
 rw [List.any_eq_true]
 rintro ⟨x, hx, h⟩
 rcases List.mem_append.1 hx with hx | hx
 ·have : ∃ y ∈ s, y.2.2 = x := by simp [zER] at hx ⊢; first | exact hx | (obtain ⟨a, b, c⟩ := hx; exact ⟨a, b, c⟩)
  obtain ⟨y, hy, rfl⟩ := this
  rw [hs y hy] at h; cases h
 ·rw [List.mem_singleton] at hx; subst hx; rw [ho] at h; cases h
theorem zEs {ns : List ByteArray} {us : List Nat} {o : Nat} {s : List (Bool × Int × Int)} (hc : zAA ns us = 0) (hs : ∀ x ∈ s, zx us.length x.2.2 = false) (ho : zx us.length (o : Int) = false) : zOz ns us (o : Int) s = zu us o s := by
 unfold zOz; rw [if_pos (zCp hc hs ho), Int.toNat_natCast]
structure VIn (q : VQ) (s : Sta) : Prop where
 cn : s.code.length ≤ 100
 mn : s.mem.length ≤ 100
 sn : s.stack.length ≤ 12
 cl : ∀ x ∈ s.code, x.1 = 1 → zx q.us.length x.2.2 = false
 ml : ∀ x ∈ s.mem, zx q.us.length x.2 = false
 sl : ∀ x ∈ s.stack, zx q.us.length x.2.2 = false
 ll : zx q.us.length s.l = false
 s0 : 0 ≤ q.sp.stack
 s1 : q.sp.stack ≤ 12
 sk : (s.stack.length : Int) ≤ q.sp.stack
def vIP (q : VQ) (x : Int × Int × Int) (m : M3) : M3 × (Int × Int × Int) := if x.1 = 1 ∧ hid q.us q.o x.2.2 = true then (zAL m q.sp.val, (x.1, (zAL m q.sp.val).2.1, x.2.2)) else (m, x)
def vAP (q : VQ) (x : Int × Int) (m : M3) : M3 × (Int × Int) := if hid q.us q.o x.2 = true then (zAL m q.sp.val, ((zAL m q.sp.val).2.1, x.2)) else (m, x)
def zAR (q : VQ) (s : Sta) (m : M3) : M3 × Sta :=
 let c := zAB (vIP q) s.code m
 let a := zAB (vAP q) s.mem c.1
 if hid q.us q.o s.l = true then
  let k := zAB (vSP q) (zu q.us q.o s.stack) a.1
  let t := zCF q k.2 k.1
  let v := zR t.1 13
  let n := zR v (zh q.us q.o).length
  (n, ⟨v.2.1, (zh q.us q.o).getD n.2.1.toNat 0, c.2, a.2, t.2, s.out⟩)
 else
  let k := zAB (vSP q) s.stack a.1
  (k.1, ⟨s.v, s.l, c.2, a.2, k.2, s.out⟩)
def zDF (f1 f2 f3 f4 : Bool) (s : Sta) : D := .agg [.v (.int .i64 s.v), .v (.int .i64 s.l), .sl f1 3 (zo s.code), .sl f2 2 (za s.mem), .sl f3 3 (zg s.stack), .sl f4 2 (za s.out)]
theorem zMr (q : VQ) (hq : VOk q) (hul : q.us.length ≤ 8) (d : Dr) (n0 e : Int) (f1 f2 f3 f4 : Bool) (s : Sta) (hs : VIn q s) (hc0 : 0 < s.code.length) (hm0 : 0 < s.mem.length) :
  Fn Tryz.prog 188 [.ptr 0 0 0, .agg (zAO f1 f2 f3 f4 s)] [.ent (mkV q d e)] (zDF false false ((!hid q.us q.o s.l) && decide (s.stack = [])) f4 (zAR q s (d, n0, e)).2) [.ent (mkV q (zAR q s (d, n0, e)).1.1 (zAR q s (d, n0, e)).1.2.2)] := by
 obtain ⟨hc, hm, hk, hcL, hmL, hkL, hlL, hs0, hs1, hsk⟩ := hs
 have k1 := zRE f1 s.code hc0 (by omega)
 have k2 := zRC f2 s.mem hm0 (by omega)
 simp only [zAO]
 refine Fn.of (fn := Tryz.f188) (by kernel_rfl) rfl (by kernel_rfl) ⟨[.ptr 0 0 0, .agg [.v (.int .i64 s.v), .v (.int .i64 s.l), .sl f1 3 (zo s.code), .sl f2 2 (za s.mem), .sl f3 3 (zg s.stack), .sl f4 2 (za s.out)], .v undef, .v undef, .v undef, .v undef, .v undef, .v undef, .v undef, .v undef, .v undef, .v undef, .v undef, .v undef, .v undef, .v undef, .v undef, .v undef, .v undef, .v undef, .v undef, .v undef, .v undef, .v undef, .v undef, .v undef, .v undef, .v undef, .v undef, .v undef, .v undef, .v undef, .v undef, .v undef, .v undef, .v undef, .v undef, .v undef, .v undef, .v undef, .v undef, .v undef, .v undef, .v undef, .v undef, .v undef, .v undef, .v undef, .v undef, .v undef, .v undef, .v undef, .v undef, .v undef, .v undef, .v undef, .v undef, .v undef, .v undef, .v undef, .v undef, .v undef, .v undef, .v undef, .v undef, .v undef, .v undef, .v undef, .v undef, .v undef, .v undef, .v undef, .v undef, .v undef, .v undef, .v undef, .v undef, .v undef, .v undef, .v undef, .v undef, .v undef, .v undef, .v undef, .v undef, .v undef, .v undef, .v undef, .v undef, .v undef, .v undef, .v undef, .v undef, .v undef, .v undef, .v undef, .v undef, .v undef, .v undef, .v undef, .v undef, .v undef, .v undef, .v undef, .v undef, .v undef, .v undef, .v undef, .v undef, .v undef], [.ent (mkV q d e)]⟩ rfl ?_
 simp only [mkV]
 repeat' first | (with_reducible refine zHc 0 ?_) | (with_reducible first | refine zA ?_ | refine zB ?_) | ((first | with_reducible refine zC fun KC J hJ hKC => ?_ | with_reducible refine zY rfl fun KC J hJ hKC => ?_ | (refine hKC _ _ _ _ _ (zBb [] k1 rfl rfl rfl (by simp) (fun _ h => by cases h) rfl rfl rfl Lq ?_)) | (refine hKC _ _ _ _ _ (zBb [] k2 rfl rfl rfl (by simp) (fun _ h => by cases h) rfl rfl rfl Lq ?_))); simp (maxSteps := 9999999) only [push_cast, seval, ↓reduceIte, zX, zN, zL, pick, mOf, idx, ren, ren2, ren1, ren0, zc, zV, zW]) | ((first | with_reducible refine hJ _ _ ?_ | (with_reducible refine hJ _ _ ?_ ?_; · kernel_rfl)); clear hJ hKC KC J)
 obtain ⟨MC, hMC⟩ : ∃ m, zAB (vIP q) s.code (d, n0, e) = m := ⟨_, rfl⟩
 refine zCz 5 ⟨[.ptr 0 0 0, .any, .any, .ptr 1 0 0, .ptr 2 0 0, .any, .any, .any, .any, .any, .any, .any, .any, .any, .any, .any, .any, .any, .any, .any, .any, .any, .any, .any, .any, .any, .any, .any, .any, .any, .any, .any, .any, .any, .any, .any, .any, .any, .any, .any, .any, .any, .any, .any, .any, .any, .any, .any, .any, .any, .any, .any, .any, .any, .any, .any, .any, .any, .any, .any, .any, .any, .any, .any, .any, .any, .any, .any, .any, .any, .any, .any, .any, .any, .any, .any, .any, .any, .any, .any, .any, .any, .any, .any, .any, .any, .any, .any, .any, .any, .any, .any, .any, .any, .any, .any, .any, .any, .any, .any, .any, .any, .any, .any, .any, .any, .any, .any, .any, .any], [.ent (mkV q MC.1.1 MC.1.2.2), .ent ⟨0, none, 39, [.v (.int .i64 s.v), .v (.int .i64 s.l), .sl false 3 (zo (MC.2)), .ref 4 0 s.mem.length, .sl f3 3 (zg s.stack), .sl f4 2 (za s.out)], .cells⟩, .ent ⟨0, none, 39, [.v (.int .i64 0), .v (.int .i64 0), .v (.slice none 0 0), .v (.slice none 0 0), .v (.slice none 0 0), .v (.slice none 0 0)], .cells⟩, .dead, .ent ⟨0, some 2, 34, zk (s.mem), .cells⟩]⟩ (by first | exact ⟨[_, _, _, _, _], 0, rfl, rfl⟩ | exact ⟨[_, _, _, _, _], 1, rfl, rfl⟩ | exact ⟨[_, _, _, _, _], 2, rfl, rfl⟩ | exact ⟨[_, _, _, _, _], 3, rfl, rfl⟩ | exact ⟨[_, _, _, _, _], 4, rfl, rfl⟩) ?_ ?_
 ·skip
  repeat' first | (with_reducible refine zI ?_)
  refine zw 5 (γ := {i : Nat // i ≤ s.code.length}) (fun i => ⟨[.ptr 0 0 0, .any, .any, .ptr 1 0 0, .ptr 2 0 0, .any, .any, .any, .any, .any, .any, .any, .any, .any, .any, .any, .any, .any, .any, .any, .ref 3 0 s.code.length, .v (.int .i64 s.code.length), .v (.int .i64 i.1), .any, .any, .any, .any, .any, .any, .any, .any, .any, .any, .any, .any, .any, .any, .any, .any, .any, .any, .any, .any, .any, .any, .any, .any, .any, .any, .any, .any, .any, .any, .any, .any, .any, .any, .any, .any, .any, .any, .any, .any, .any, .any, .any, .any, .any, .any, .any, .any, .any, .any, .any, .any, .any, .any, .any, .any, .any, .any, .any, .any, .any, .any, .any, .any, .any, .any, .any, .any, .any, .any, .any, .any, .any, .any, .any, .any, .any, .any, .any, .any, .any, .any, .any, .any, .any, .any, .any], [.ent (mkV q (zAB (vIP q) (s.code.take i.1) (d, n0, e)).1.1 (zAB (vIP q) (s.code.take i.1) (d, n0, e)).1.2.2), .ent ⟨0, none, 39, [.v (.int .i64 s.v), .v (.int .i64 s.l), .ref 3 0 s.code.length, .ref 4 0 s.mem.length, .sl f3 3 (zg s.stack), .sl f4 2 (za s.out)], .cells⟩, .ent ⟨0, none, 39, [.v (.int .i64 0), .v (.int .i64 0), .v (.slice none 0 0), .v (.slice none 0 0), .v (.slice none 0 0), .v (.slice none 0 0)], .cells⟩, .ent ⟨0, some 3, 100, zs (mW (vIP q) s.code (d, n0, e) i.1), .cells⟩, .ent ⟨0, some 2, 34, zk (s.mem), .cells⟩]⟩) (fun i => s.code.length - i.1) ⟨0, by omega⟩ (fun i => rfl) (fun i => ?_) (fun i => rfl) ⟨?_, ?_⟩ ?_
  ·refine zAF ?_
   simp only [mkV, List.map_cons, List.map_nil, zL, zc, zV]
   rfl
  ·exact Lq
  ·simp only [zGb, List.take_zero, mkV]
   exact Fq
  rintro ⟨i, hi⟩
  dsimp only
  obtain ⟨n, hn⟩ : ∃ n, s.code.length = n := ⟨_, rfl⟩
  rw [hn] at hi ⊢
  have hwl : (zs (mW (vIP q) s.code (d, n0, e) i)).length = n * 3 := by rw [zAz, zEI, hn]
  by_cases hlt : (i : Int) < (n : Int)
  ·have hx : s.code[i]? = some s.code[i] := List.getElem?_eq_getElem (by omega)
   obtain ⟨x, hxx⟩ : ∃ x, s.code[i] = x := ⟨_, rfl⟩
   rw [hxx] at hx
   have hxw := zIL (f := vIP q) (m := (d, n0, e)) hx
   have hws := zGl (f := vIP q) (m := (d, n0, e)) hx
   have hms := zDO (vIP q) hx (d, n0, e)
   have hat := zKc hxw
   have hlab := hcL x (List.mem_of_getElem? hx)
   obtain ⟨⟨d1, n1, e1⟩, hM⟩ : ∃ m, (zAB (vIP q) (s.code.take i) (d, n0, e)).1 = m := ⟨_, rfl⟩
   rw [hM] at hws hms ⊢
   obtain ⟨o, v, a⟩ := x
   simp only at hat hlab
   have hwn := zp (i := i) (n := n) (by omega) (by omega)
   obtain ⟨W, hW⟩ : ∃ W, mW (vIP q) s.code (d, n0, e) i = W := ⟨_, rfl⟩
   rw [hW] at hxw hws hat hwl ⊢
   by_cases ho : o = 1
   ·have ho' : (o == 1) = true := by simpa using ho
    have hh := zAw q hq d1 e1 a (hlab ho)
    obtain ⟨b, hb⟩ : ∃ b, hid q.us q.o a = b := ⟨_, rfl⟩
    rw [hb] at hh
    cases b
    case false =>
     have hv : vIP q (o, v, a) (d1, n1, e1) = ((d1, n1, e1), (o, v, a)) := by unfold vIP; rw [if_neg (by rw [hb]; simp)]
     rw [hv] at hws hms
     have hsm : W.set i (o, v, a) = W := by
      obtain ⟨h1, h2⟩ := List.getElem?_eq_some_iff.1 hxw
      rw [← h2]; exact List.set_getElem_self h1
     rw [hsm] at hws
     simp only [mkV] at hh ⊢
     repeat' first | (with_reducible first | refine zA ?_ | refine zB ?_ | refine zP ?_ | refine zJ ?_ | refine zI ?_) | ((with_reducible refine And.intro ?_ ?_); · exact Sq) | ((first | with_reducible refine zC fun KC J hJ hKC => ?_ | (refine hKC _ _ _ _ _ (zT [0] hh rfl rfl rfl (by decide) (by simp) rfl rfl Lq ?_))); simp (maxSteps := 9999999) only [push_cast, seval, ↓reduceIte, hlt, hat, hwl, hwn, ho', undef, zX, zN, zL, pick, mOf, idx, ren, ren2, ren1, ren0, zc, zV, zW]) | ((with_reducible refine hJ _ _ ?_); clear hJ hKC KC J) | ((with_reducible refine zG ?_ ?_); · rfl) | ((with_reducible refine zH ?_ ?_); · rfl)
     refine ⟨⟨i + 1, by omega⟩, by simp only; omega, ?_, ?_⟩
     ·exact Lq
     ·simp only [hms, hws, mkV]; exact ⟨_, rfl⟩
    case true =>
     have hval := zDb q d1 n1 e1
     obtain ⟨⟨d2, n2, e2⟩, hM2⟩ : ∃ m, zAL (d1, n1, e1) q.sp.val = m := ⟨_, rfl⟩
     rw [hM2] at hval
     have hv : vIP q (o, v, a) (d1, n1, e1) = ((d2, n2, e2), (o, n2, a)) := by unfold vIP; rw [if_pos ⟨ho, hb⟩]; simp only [hM2]
     rw [hv] at hws hms
     have hset := zOj n2 hxw
     rw [← hws] at hset
     obtain ⟨W', hW'⟩ : ∃ W', mW (vIP q) s.code (d, n0, e) (i + 1) = W' := ⟨_, rfl⟩
     rw [hW'] at hset
     simp only [mkV] at hh hval ⊢
     repeat' first | (with_reducible first | refine zA ?_ | refine zB ?_ | refine zP ?_ | refine zJ ?_ | refine zI ?_) | ((with_reducible refine And.intro ?_ ?_); · exact Sq) | ((first | with_reducible refine zC fun KC J hJ hKC => ?_ | with_reducible refine zY rfl fun KC J hJ hKC => ?_ | (refine hKC _ _ _ _ _ (zT [0] hh rfl rfl rfl (by decide) (by simp) rfl rfl Lq ?_)) | (refine hKC _ _ _ _ _ (zT [0] hval rfl rfl rfl (by decide) (by simp) rfl rfl Lq ?_))); simp (maxSteps := 9999999) only [push_cast, seval, ↓reduceIte, hlt, hat, hwl, hset, hwn, Nat.add_zero, ho', undef, zX, zN, zL, pick, mOf, idx, ren, ren2, ren1, ren0, zc, zV, zW]) | ((first | with_reducible refine hJ _ _ ?_ | (with_reducible refine hJ _ _ ?_ ?_; · kernel_rfl)); clear hJ hKC KC J) | ((with_reducible refine zG ?_ ?_); · rfl)
     refine ⟨⟨i + 1, by omega⟩, by simp only; omega, ?_, ?_⟩
     ·exact Lq
     ·simp only [hms, hW', mkV]; exact ⟨_, rfl⟩
   ·have ho' : (o == 1) = false := by simpa using ho
    have hv : vIP q (o, v, a) (d1, n1, e1) = ((d1, n1, e1), (o, v, a)) := by unfold vIP; rw [if_neg (fun h => ho h.1)]
    rw [hv] at hws hms
    have hsm : W.set i (o, v, a) = W := by
     obtain ⟨h1, h2⟩ := List.getElem?_eq_some_iff.1 hxw
     rw [← h2]; exact List.set_getElem_self h1
    rw [hsm] at hws
    simp only [mkV]
    repeat' first | (with_reducible first | refine zA ?_ | refine zB ?_ | refine zP ?_ | refine zJ ?_ | refine zI ?_) | ((with_reducible refine And.intro ?_ ?_); · exact Sq) | ((with_reducible refine zC fun KC J hJ hKC => ?_); simp (maxSteps := 9999999) only [push_cast, seval, ↓reduceIte, hlt, hat, hwl, hwn, ho', undef, zX, zN, zL, pick, mOf, idx, ren, ren2, ren1, ren0, zc, zV, zW]) | ((with_reducible refine hJ _ _ ?_); clear hJ hKC KC J) | ((with_reducible refine zG ?_ ?_); · rfl) | ((with_reducible refine zH ?_ ?_); · rfl)
    refine ⟨⟨i + 1, by omega⟩, by simp only; omega, ?_, ?_⟩
    ·exact Lq
    ·simp only [hms, hws, mkV]; exact ⟨_, rfl⟩
  ·have hin : i = n := by omega
   subst hin
   have hend := zJE (f := vIP q) (m := (d, n0, e)) hn
   have htk : s.code.take i = s.code := by rw [← hn]; exact List.take_length
   rw [hend, hMC] at hwl
   rw [hend, htk, hMC]
   obtain ⟨W, hW⟩ : ∃ W, MC.2 = W := ⟨_, rfl⟩
   rw [hW] at hwl ⊢
   have hWl : W.length = i := by have := zAz W; omega
   have hcp : zAh 3 i (zs W) = zo W := by rw [← hWl]; exact zLT W
   simp only [mkV]
   repeat' first | (refine zU 3 3 rfl (by (simp (maxSteps := 9999999) only [push_cast, seval, ↓reduceIte]) <;> rfl) ?_; simp (maxSteps := 9999999) only [push_cast, seval, ↓reduceIte, zAK, zi, fr3, fr2, fr1, fr0, zq, zn, hlt, hwl, hcp]) | (with_reducible first | refine zA ?_ | refine zB ?_ | refine zm ?_ | refine zl ?_ | refine zZ ?_) | ((with_reducible refine zC fun KC J hJ hKC => ?_); simp (maxSteps := 9999999) only [push_cast, seval, ↓reduceIte, hlt, hwl, hcp]) | ((with_reducible refine hJ _ _ ?_); clear hJ hKC KC J) | ((with_reducible refine zH ?_ ?_); · rfl)
   refine .inl ⟨rfl, [0, 1, 2, 3, 4], by decide, by decide, ?_, ?_⟩
   ·exact Lq
   ·simp only [pick, List.map_cons, List.map_nil, zAZ, zL, zV, zc, mOf, idx]
    exact LSv
 repeat' first | (with_reducible refine zHc 2 ?_) | (with_reducible first | refine zA ?_ | refine zB ?_) | ((with_reducible refine zC fun KC J hJ hKC => ?_); simp (maxSteps := 9999999) only [push_cast, seval, ↓reduceIte]) | ((with_reducible refine hJ _ _ ?_); clear hJ hKC KC J)
 obtain ⟨MM, hMM⟩ : ∃ m, zAB (vAP q) s.mem MC.1 = m := ⟨_, rfl⟩
 refine zCz 5 ⟨[.ptr 0 0 0, .any, .any, .ptr 1 0 0, .ptr 2 0 0, .any, .any, .any, .any, .any, .any, .any, .any, .any, .any, .any, .any, .any, .any, .any, .any, .any, .any, .any, .any, .any, .any, .any, .any, .any, .any, .any, .any, .any, .any, .any, .any, .any, .any, .any, .any, .any, .any, .any, .any, .any, .any, .any, .any, .any, .any, .any, .any, .any, .any, .any, .any, .any, .any, .any, .any, .any, .any, .any, .any, .any, .any, .any, .any, .any, .any, .any, .any, .any, .any, .any, .any, .any, .any, .any, .any, .any, .any, .any, .any, .any, .any, .any, .any, .any, .any, .any, .any, .any, .any, .any, .any, .any, .any, .any, .any, .any, .any, .any, .any, .any, .any, .any, .any, .any], [.ent (mkV q MM.1.1 MM.1.2.2), .ent ⟨0, none, 39, [.v (.int .i64 s.v), .v (.int .i64 s.l), .sl false 3 (zo (MC.2)), .sl false 2 (za (MM.2)), .sl f3 3 (zg s.stack), .sl f4 2 (za s.out)], .cells⟩, .ent ⟨0, none, 39, [.v (.int .i64 0), .v (.int .i64 0), .v (.slice none 0 0), .v (.slice none 0 0), .v (.slice none 0 0), .v (.slice none 0 0)], .cells⟩, .dead, .dead]⟩ (by first | exact ⟨[_, _, _, _, _], 0, rfl, rfl⟩ | exact ⟨[_, _, _, _, _], 1, rfl, rfl⟩ | exact ⟨[_, _, _, _, _], 2, rfl, rfl⟩ | exact ⟨[_, _, _, _, _], 3, rfl, rfl⟩ | exact ⟨[_, _, _, _, _], 4, rfl, rfl⟩) ?_ ?_
 ·skip
  repeat' first | (with_reducible refine zI ?_)
  refine zw 5 (γ := {i : Nat // i ≤ s.mem.length}) (fun i => ⟨[.ptr 0 0 0, .any, .any, .ptr 1 0 0, .ptr 2 0 0, .any, .any, .any, .any, .any, .any, .any, .any, .any, .any, .any, .any, .any, .any, .any, .any, .any, .any, .any, .any, .any, .any, .any, .any, .any, .any, .any, .any, .any, .any, .any, .any, .any, .any, .any, .any, .any, .any, .any, .any, .ref 4 0 s.mem.length, .v (.int .i64 s.mem.length), .v (.int .i64 i.1), .any, .any, .any, .any, .any, .any, .any, .any, .any, .any, .any, .any, .any, .any, .any, .any, .any, .any, .any, .any, .any, .any, .any, .any, .any, .any, .any, .any, .any, .any, .any, .any, .any, .any, .any, .any, .any, .any, .any, .any, .any, .any, .any, .any, .any, .any, .any, .any, .any, .any, .any, .any, .any, .any, .any, .any, .any, .any, .any, .any, .any, .any], [.ent (mkV q (zAB (vAP q) (s.mem.take i.1) MC.1).1.1 (zAB (vAP q) (s.mem.take i.1) MC.1).1.2.2), .ent ⟨0, none, 39, [.v (.int .i64 s.v), .v (.int .i64 s.l), .sl false 3 (zo (MC.2)), .ref 4 0 s.mem.length, .sl f3 3 (zg s.stack), .sl f4 2 (za s.out)], .cells⟩, .ent ⟨0, none, 39, [.v (.int .i64 0), .v (.int .i64 0), .v (.slice none 0 0), .v (.slice none 0 0), .v (.slice none 0 0), .v (.slice none 0 0)], .cells⟩, .dead, .ent ⟨0, some 2, 34, zk (mW (vAP q) s.mem MC.1 i.1), .cells⟩]⟩) (fun i => s.mem.length - i.1) ⟨0, by omega⟩ (fun i => rfl) (fun i => ?_) (fun i => rfl) ⟨?_, ?_⟩ ?_
  ·refine zAF ?_
   simp only [mkV, List.map_cons, List.map_nil, zL, zc, zV]
   rfl
  ·exact Lq
  ·simp only [zGb, List.take_zero, mkV]
   exact Fq
  rintro ⟨i, hi⟩
  dsimp only
  obtain ⟨n, hn⟩ : ∃ n, s.mem.length = n := ⟨_, rfl⟩
  rw [hn] at hi ⊢
  have hwl : (zk (mW (vAP q) s.mem MC.1 i)).length = n * 2 := by rw [zAp, zEI, hn]
  by_cases hlt : (i : Int) < (n : Int)
  ·have hx : s.mem[i]? = some s.mem[i] := List.getElem?_eq_getElem (by omega)
   obtain ⟨x, hxx⟩ : ∃ x, s.mem[i] = x := ⟨_, rfl⟩
   rw [hxx] at hx
   have hxw := zIL (f := vAP q) (m := MC.1) hx
   have hws := zGl (f := vAP q) (m := MC.1) hx
   have hms := zDO (vAP q) hx MC.1
   have hat := zFY hxw
   have hlab := hmL x (List.mem_of_getElem? hx)
   obtain ⟨⟨d1, n1, e1⟩, hM⟩ : ∃ m, (zAB (vAP q) (s.mem.take i) MC.1).1 = m := ⟨_, rfl⟩
   rw [hM] at hws hms ⊢
   obtain ⟨v, a⟩ := x
   simp only at hat hlab
   have hwn := zp (i := i) (n := n) (by omega) (by omega)
   obtain ⟨W, hW⟩ : ∃ W, mW (vAP q) s.mem MC.1 i = W := ⟨_, rfl⟩
   rw [hW] at hxw hws hat hwl ⊢
   ·skip
    have hh := zAw q hq d1 e1 a hlab
    obtain ⟨b, hb⟩ : ∃ b, hid q.us q.o a = b := ⟨_, rfl⟩
    rw [hb] at hh
    cases b
    case false =>
     have hv : vAP q (v, a) (d1, n1, e1) = ((d1, n1, e1), (v, a)) := by unfold vAP; rw [if_neg (by rw [hb]; simp)]
     rw [hv] at hws hms
     have hsm : W.set i (v, a) = W := by
      obtain ⟨h1, h2⟩ := List.getElem?_eq_some_iff.1 hxw
      rw [← h2]; exact List.set_getElem_self h1
     rw [hsm] at hws
     simp only [mkV] at hh ⊢
     repeat' first | (with_reducible first | refine zA ?_ | refine zB ?_ | refine zP ?_ | refine zJ ?_ | refine zI ?_) | ((with_reducible refine And.intro ?_ ?_); · exact Sq) | ((first | with_reducible refine zC fun KC J hJ hKC => ?_ | (refine hKC _ _ _ _ _ (zT [0] hh rfl rfl rfl (by decide) (by simp) rfl rfl Lq ?_))); simp (maxSteps := 9999999) only [push_cast, seval, ↓reduceIte, hlt, hat, hwl, hwn, zX, zN, zL, pick, mOf, idx, ren, ren2, ren1, ren0, zc, zV, zW]) | ((with_reducible refine hJ _ _ ?_); clear hJ hKC KC J) | ((with_reducible refine zG ?_ ?_); · rfl) | ((with_reducible refine zH ?_ ?_); · rfl)
     refine ⟨⟨i + 1, by omega⟩, by simp only; omega, ?_, ?_⟩
     ·exact Lq
     ·simp only [hms, hws, mkV]; exact ⟨_, rfl⟩
    case true =>
     have hval := zDb q d1 n1 e1
     obtain ⟨⟨d2, n2, e2⟩, hM2⟩ : ∃ m, zAL (d1, n1, e1) q.sp.val = m := ⟨_, rfl⟩
     rw [hM2] at hval
     have hv : vAP q (v, a) (d1, n1, e1) = ((d2, n2, e2), (n2, a)) := by unfold vAP; rw [if_pos hb]; simp only [hM2]
     rw [hv] at hws hms
     have hset := zOc n2 hxw
     rw [← hws] at hset
     obtain ⟨W', hW'⟩ : ∃ W', mW (vAP q) s.mem MC.1 (i + 1) = W' := ⟨_, rfl⟩
     rw [hW'] at hset
     simp only [mkV] at hh hval ⊢
     repeat' first | (with_reducible first | refine zA ?_ | refine zB ?_ | refine zP ?_ | refine zJ ?_ | refine zI ?_) | ((with_reducible refine And.intro ?_ ?_); · exact Sq) | ((first | with_reducible refine zC fun KC J hJ hKC => ?_ | with_reducible refine zY rfl fun KC J hJ hKC => ?_ | (refine hKC _ _ _ _ _ (zT [0] hh rfl rfl rfl (by decide) (by simp) rfl rfl Lq ?_)) | (refine hKC _ _ _ _ _ (zT [0] hval rfl rfl rfl (by decide) (by simp) rfl rfl Lq ?_))); simp (maxSteps := 9999999) only [push_cast, seval, ↓reduceIte, hlt, hat, hwl, hset, hwn, Nat.add_zero, zX, zN, zL, pick, mOf, idx, ren, ren2, ren1, ren0, zc, zV, zW]) | ((first | with_reducible refine hJ _ _ ?_ | (with_reducible refine hJ _ _ ?_ ?_; · kernel_rfl)); clear hJ hKC KC J) | ((with_reducible refine zG ?_ ?_); · rfl)
     refine ⟨⟨i + 1, by omega⟩, by simp only; omega, ?_, ?_⟩
     ·exact Lq
     ·simp only [hms, hW', mkV]; exact ⟨_, rfl⟩
  ·have hin : i = n := by omega
   subst hin
   have hend := zJE (f := vAP q) (m := MC.1) hn
   have htk : s.mem.take i = s.mem := by rw [← hn]; exact List.take_length
   rw [hend, hMM] at hwl
   rw [hend, htk, hMM]
   obtain ⟨W, hW⟩ : ∃ W, MM.2 = W := ⟨_, rfl⟩
   rw [hW] at hwl ⊢
   have hWl : W.length = i := by have := zAp W; omega
   have hcp : zAh 2 i (zk W) = za W := by rw [← hWl]; exact zGF W
   simp only [mkV]
   repeat' first | (refine zU 9 4 rfl (by (simp (maxSteps := 9999999) only [push_cast, seval, ↓reduceIte]) <;> rfl) ?_; simp (maxSteps := 9999999) only [push_cast, seval, ↓reduceIte, zAK, zi, fr3, fr2, fr1, fr0, zq, zn, hlt, hwl, hcp]) | (with_reducible first | refine zA ?_ | refine zB ?_ | refine zm ?_ | refine zl ?_ | refine zZ ?_) | ((with_reducible refine zC fun KC J hJ hKC => ?_); simp (maxSteps := 9999999) only [push_cast, seval, ↓reduceIte, hlt, hwl, hcp]) | ((with_reducible refine hJ _ _ ?_); clear hJ hKC KC J) | ((with_reducible refine zH ?_ ?_); · rfl)
   refine .inl ⟨rfl, [0, 1, 2, 3, 4], by decide, by decide, ?_, ?_⟩
   ·exact Lq
   ·simp only [pick, List.map_cons, List.map_nil, zAZ, zL, zV, zc, mOf, idx]
    exact LSv
 obtain ⟨⟨d2, n2, e2⟩, hM2⟩ : ∃ m, MM.1 = m := ⟨_, rfl⟩
 rw [hM2]
 have g1 := zAw q hq d2 e2 s.l hlL
 by_cases hh : hid q.us q.o s.l = true
 ·rw [hh] at g1
  have hst : zAR q s (d, n0, e) = (let k := zAB (vSP q) (zu q.us q.o s.stack) (d2, n2, e2)
    let t := zCF q k.2 k.1
    let v := zR t.1 13
    let n := zR v (zh q.us q.o).length
    (n, ⟨v.2.1, (zh q.us q.o).getD n.2.1.toNat 0, MC.2, MM.2, t.2, s.out⟩)) := by
   unfold zAR; simp only [hMC, hMM, hM2]; rw [if_pos hh]
  have hfl : ((!hid q.us q.o s.l) && decide (s.stack = [])) = false := by rw [hh]; rfl
  rw [hst, hfl]
  clear hst
  have hcrop := zDf q.f q.g f3 q.ns q.us (q.o : Int) s.stack hq.szs hq.u32 (by omega)
  rw [zCp hq.chk hkL (zAG.2 ⟨by omega, by have := hq.lab; omega⟩), zEs hq.chk hkL (zAG.2 ⟨by omega, by have := hq.lab; omega⟩)] at hcrop
  have hcrL : ∀ x ∈ zu q.us q.o s.stack, zx q.us.length x.2.2 = false := fun x hx => hkL x (List.mem_of_mem_take hx)
  have hcrl : (zu q.us q.o s.stack).length ≤ s.stack.length := by unfold zu; rw [List.length_take]; omega
  obtain ⟨CR, hCR⟩ : ∃ r, zu q.us q.o s.stack = r := ⟨_, rfl⟩
  rw [hCR] at hcrop hcrL hcrl ⊢
  have hKl := zAl (vSP q) (d2, n2, e2) CR
  have hne : zh q.us q.o ≠ [] := fun h => by have := zEX.2 ⟨hlL, hh⟩; rw [h] at this; cases this
  rcases Nat.eq_zero_or_pos CR.length with h0 | h0
  ·have hC0 : CR = [] := List.length_eq_zero_iff.1 h0
   subst hC0
   have g2 := zBr q d2 e2 false
   have g3 := zDC q hq hul d2 n2 e2 [] (by simp) hs0 hs1 (by simpa using hs0) none (fun _ => rfl)
   simp only [zAB, List.foldl_nil] at g3 ⊢
   obtain ⟨⟨⟨d3, n3, e3⟩, T⟩, hT⟩ : ∃ r, zCF q [] (d2, n2, e2) = r := ⟨_, rfl⟩
   rw [hT] at g3
   simp only [hT]
   have g4 := zBx q d3 n3 e3
   obtain ⟨⟨d4, n4, e4⟩, hP⟩ : ∃ m, zR (d3, n3, e3) 13 = m := ⟨_, rfl⟩
   simp only [hP] at g4 ⊢
   have g5 := zBp q hq hul d4 n4 e4 hne
   obtain ⟨⟨d5, n5, e5⟩, hU⟩ : ∃ m, zR (d4, n4, e4) (zh q.us q.o).length = m := ⟨_, rfl⟩
   simp only [hU] at g5 ⊢
   obtain ⟨lb, hlb⟩ : ∃ l, (zh q.us q.o).getD n5.toNat 0 = l := ⟨_, rfl⟩
   rw [hlb] at g5
   simp only [hlb]
   simp only [mkV, yE, yσ, yO, show zg [] = [] from rfl, show zj [] = [] from rfl, List.length_nil] at g1 g2 g3 g4 g5 ⊢
   repeat' first | (with_reducible first | refine zA ?_ | refine zB ?_ | refine zF ?_ | refine zJ ?_) | ((first | with_reducible refine zC fun KC J hJ hKC => ?_ | with_reducible refine zY rfl fun KC J hJ hKC => ?_ | (refine hKC _ _ _ _ _ (zT [0] g1 rfl rfl rfl (by decide) (by simp) rfl rfl Lq ?_)) | (refine hKC _ _ _ _ _ (zT [0] g2 rfl rfl rfl (by decide) (by simp) rfl rfl Lq ?_)) | (refine hKC _ _ _ _ _ (zT [0] g3 rfl rfl rfl (by decide) (by simp) rfl rfl Lq ?_)) | (refine hKC _ _ _ _ _ (zT [0] g4 rfl rfl rfl (by decide) (by simp) rfl rfl Lq ?_)) | (refine hKC _ _ _ _ _ (zT [0] g5 rfl rfl rfl (by decide) (by simp) rfl rfl Lq ?_)) | (refine hKC _ _ _ _ _ (zD (hcrop) rfl rfl rfl ?_ ?_); (· exact Lq))); simp (maxSteps := 9999999) only [push_cast, seval, ↓reduceIte, zX, zN, zL, pick, mOf, idx, ren, ren2, ren1, ren0, zc, zV, zW]) | ((first | with_reducible refine hJ _ _ ?_ | (with_reducible refine hJ _ _ ?_ ?_; · kernel_rfl)); clear hJ hKC KC J) | ((with_reducible refine zH ?_ ?_); · rfl)
   refine zd ?_
   simp (maxSteps := 9999999) only [push_cast, seval, ↓reduceIte, show Tryz.f188.results = #[(.cell 4 39)] from rfl]
   exact ⟨rfl, zK _⟩
  ·have g2 := zCO q hq d2 n2 e2 false CR h0 (by omega) hcrL
   obtain ⟨⟨⟨d6, n6, e6⟩, KS⟩, hKS⟩ : ∃ r, zAB (vSP q) CR (d2, n2, e2) = r := ⟨_, rfl⟩
   rw [hKS] at g2 hKl
   simp only at g2 hKl
   have g3 := zDC q hq hul d6 n6 e6 KS (by omega) hs0 hs1 (by omega) (some 0) (fun h => by cases h)
   rw [hKl] at g3
   simp only [hKS] at g3 ⊢
   obtain ⟨m, hm'⟩ : ∃ m, CR.length = m := ⟨_, rfl⟩
   rw [hm'] at g2 g3
   obtain ⟨⟨⟨d3, n3, e3⟩, T⟩, hT⟩ : ∃ r, zCF q KS (d6, n6, e6) = r := ⟨_, rfl⟩
   rw [hT] at g3
   simp only [hT]
   have g4 := zBx q d3 n3 e3
   obtain ⟨⟨d4, n4, e4⟩, hP⟩ : ∃ m, zR (d3, n3, e3) 13 = m := ⟨_, rfl⟩
   simp only [hP] at g4 ⊢
   have g5 := zBp q hq hul d4 n4 e4 hne
   obtain ⟨⟨d5, n5, e5⟩, hU⟩ : ∃ m, zR (d4, n4, e4) (zh q.us q.o).length = m := ⟨_, rfl⟩
   simp only [hU] at g5 ⊢
   obtain ⟨lb, hlb⟩ : ∃ l, (zh q.us q.o).getD n5.toNat 0 = l := ⟨_, rfl⟩
   rw [hlb] at g5
   simp only [hlb]
   simp only [mkV, yE, yσ, yO, show zg [] = [] from rfl, show zj [] = [] from rfl, List.length_nil] at g1 g2 g3 g4 g5 ⊢
   repeat' first | (with_reducible first | refine zA ?_ | refine zB ?_ | refine zF ?_ | refine zJ ?_) | ((first | with_reducible refine zC fun KC J hJ hKC => ?_ | with_reducible refine zY rfl fun KC J hJ hKC => ?_ | (refine hKC _ _ _ _ _ (zT [0] g1 rfl rfl rfl (by decide) (by simp) rfl rfl Lq ?_)) | (refine hKC _ _ _ _ _ (zBb [0] g2 rfl rfl rfl (by decide) (by simp) rfl rfl rfl Lq ?_)) | (refine hKC _ _ _ _ _ (zT [0, 7] g3 rfl rfl rfl (by decide) (by simp) rfl (by simp only [pick, List.map_cons, List.map_nil, zAZ, zL, zW, mOf, idx]; rfl) Lq ?_)) | (refine hKC _ _ _ _ _ (zT [0] g4 rfl rfl rfl (by decide) (by simp) rfl rfl Lq ?_)) | (refine hKC _ _ _ _ _ (zT [0] g5 rfl rfl rfl (by decide) (by simp) rfl rfl Lq ?_)) | (refine hKC _ _ _ _ _ (zD (hcrop) rfl rfl rfl ?_ ?_); (· exact Lq))); simp (maxSteps := 9999999) only [push_cast, seval, ↓reduceIte, zX, zN, zL, pick, mOf, idx, ren, ren2, ren1, ren0, zc, zV, zW]) | ((first | with_reducible refine hJ _ _ ?_ | (with_reducible refine hJ _ _ ?_ ?_; · kernel_rfl)); clear hJ hKC KC J) | ((with_reducible refine zH ?_ ?_); · rfl)
   refine zd ?_
   simp (maxSteps := 9999999) only [push_cast, seval, ↓reduceIte, show Tryz.f188.results = #[(.cell 4 39)] from rfl]
   exact ⟨rfl, zK _⟩
 ·have hh' : hid q.us q.o s.l = false := by simpa using hh
  rw [hh'] at g1
  have hst : zAR q s (d, n0, e) = ((zAB (vSP q) s.stack (d2, n2, e2)).1, ⟨s.v, s.l, MC.2, MM.2, (zAB (vSP q) s.stack (d2, n2, e2)).2, s.out⟩) := by
   unfold zAR; simp only [hMC, hMM, hM2]; rw [if_neg hh]
  rw [hst]
  clear hst
  rcases Nat.eq_zero_or_pos s.stack.length with h0 | h0
  ·have hC0 : s.stack = [] := List.length_eq_zero_iff.1 h0
   have hfl : ((!hid q.us q.o s.l) && decide (s.stack = [])) = true := by rw [hh', hC0]; rfl
   rw [hfl, hC0]
   have g2 := zBr q d2 e2 f3
   simp only [zAB, List.foldl_nil, mkV, show zg [] = [] from rfl] at g1 g2 ⊢
   repeat' first | (with_reducible first | refine zA ?_ | refine zB ?_ | refine zb ?_ | refine zF ?_) | ((first | with_reducible refine zC fun KC J hJ hKC => ?_ | (refine hKC _ _ _ _ _ (zT [0] g1 rfl rfl rfl (by decide) (by simp) rfl rfl Lq ?_)) | (refine hKC _ _ _ _ _ (zT [0] g2 rfl rfl rfl (by decide) (by simp) rfl rfl Lq ?_))); simp (maxSteps := 9999999) only [push_cast, seval, ↓reduceIte, zX, zN, zL, pick, mOf, idx, ren, ren2, ren1, ren0, zc, zV, zW]) | ((with_reducible refine hJ _ _ ?_); clear hJ hKC KC J) | ((with_reducible refine zG ?_ ?_); · rfl)
   refine zd ?_
   simp (maxSteps := 9999999) only [push_cast, seval, ↓reduceIte, show Tryz.f188.results = #[(.cell 4 39)] from rfl]
   exact ⟨rfl, zK _⟩
  ·have hfl : ((!hid q.us q.o s.l) && decide (s.stack = [])) = false := by
    rw [hh', decide_eq_false (fun h => by rw [h] at h0; cases h0)]; rfl
   rw [hfl]
   have g2 := zCO q hq d2 n2 e2 f3 s.stack h0 (by omega) hkL
   have hKl := zAl (vSP q) (d2, n2, e2) s.stack
   obtain ⟨⟨⟨d6, n6, e6⟩, KS⟩, hKS⟩ : ∃ r, zAB (vSP q) s.stack (d2, n2, e2) = r := ⟨_, rfl⟩
   rw [hKS] at g2 hKl
   simp only [hKS] at g2 hKl ⊢
   have hlC : (zj KS).length = s.stack.length * 3 := by rw [zy, hKl]
   have hcp : zAh 3 s.stack.length (zj KS) = zg KS := by rw [← hKl]; exact zEd KS
   simp only [mkV] at g1 g2 ⊢
   repeat' first | (refine zU 16 6 rfl (by (simp (maxSteps := 9999999) only [push_cast, seval, ↓reduceIte]) <;> rfl) ?_; simp (maxSteps := 9999999) only [push_cast, seval, ↓reduceIte, zAK, zi, fr3, fr2, fr1, fr0, zq, zn, hlC, hcp, zX, zN, zL, pick, mOf, idx, ren, ren2, ren1, ren0, zc, zV, zW]) | (with_reducible first | refine zA ?_ | refine zB ?_ | refine zb ?_ | refine zF ?_) | ((first | with_reducible refine zC fun KC J hJ hKC => ?_ | (refine hKC _ _ _ _ _ (zT [0] g1 rfl rfl rfl (by decide) (by simp) rfl rfl Lq ?_)) | (refine hKC _ _ _ _ _ (zBb [0] g2 rfl rfl rfl (by decide) (by simp) rfl rfl rfl Lq ?_))); simp (maxSteps := 9999999) only [push_cast, seval, ↓reduceIte, hlC, hcp, zX, zN, zL, pick, mOf, idx, ren, ren2, ren1, ren0, zc, zV, zW]) | ((with_reducible refine hJ _ _ ?_); clear hJ hKC KC J) | ((with_reducible refine zG ?_ ?_); · rfl)
   refine zd ?_
   simp (maxSteps := 9999999) only [push_cast, seval, ↓reduceIte, show Tryz.f188.results = #[(.cell 4 39)] from rfl]
   exact ⟨rfl, zK _⟩
theorem zMp (q : VQ) (hq : VOk q) (hul : q.us.length ≤ 8) (d : Dr) (n0 e : Int) (f1 f2 f3 f4 : Bool) (s : Sta) (hs : VIn q s) (hc0 : 0 < s.code.length) (hm0 : s.mem = []) :
  Fn Tryz.prog 188 [.ptr 0 0 0, .agg (zAO f1 f2 f3 f4 s)] [.ent (mkV q d e)] (zDF false true ((!hid q.us q.o s.l) && decide (s.stack = [])) f4 (zAR q s (d, n0, e)).2) [.ent (mkV q (zAR q s (d, n0, e)).1.1 (zAR q s (d, n0, e)).1.2.2)] := by
 obtain ⟨hc, hm, hk, hcL, hmL, hkL, hlL, hs0, hs1, hsk⟩ := hs
 have k1 := zRE f1 s.code hc0 (by omega)
 have k2 := zOZ f2
 simp only [zAO]
 have hmr : za s.mem = [] := by rw [hm0]; rfl
 rw [hmr]
 refine Fn.of (fn := Tryz.f188) (by kernel_rfl) rfl (by kernel_rfl) ⟨[.ptr 0 0 0, .agg [.v (.int .i64 s.v), .v (.int .i64 s.l), .sl f1 3 (zo s.code), .sl f2 2 ([]), .sl f3 3 (zg s.stack), .sl f4 2 (za s.out)], .v undef, .v undef, .v undef, .v undef, .v undef, .v undef, .v undef, .v undef, .v undef, .v undef, .v undef, .v undef, .v undef, .v undef, .v undef, .v undef, .v undef, .v undef, .v undef, .v undef, .v undef, .v undef, .v undef, .v undef, .v undef, .v undef, .v undef, .v undef, .v undef, .v undef, .v undef, .v undef, .v undef, .v undef, .v undef, .v undef, .v undef, .v undef, .v undef, .v undef, .v undef, .v undef, .v undef, .v undef, .v undef, .v undef, .v undef, .v undef, .v undef, .v undef, .v undef, .v undef, .v undef, .v undef, .v undef, .v undef, .v undef, .v undef, .v undef, .v undef, .v undef, .v undef, .v undef, .v undef, .v undef, .v undef, .v undef, .v undef, .v undef, .v undef, .v undef, .v undef, .v undef, .v undef, .v undef, .v undef, .v undef, .v undef, .v undef, .v undef, .v undef, .v undef, .v undef, .v undef, .v undef, .v undef, .v undef, .v undef, .v undef, .v undef, .v undef, .v undef, .v undef, .v undef, .v undef, .v undef, .v undef, .v undef, .v undef, .v undef, .v undef, .v undef, .v undef, .v undef, .v undef, .v undef, .v undef, .v undef], [.ent (mkV q d e)]⟩ rfl ?_
 simp only [mkV]
 repeat' first | (with_reducible refine zHc 0 ?_) | (with_reducible first | refine zA ?_ | refine zB ?_) | ((first | with_reducible refine zC fun KC J hJ hKC => ?_ | with_reducible refine zY rfl fun KC J hJ hKC => ?_ | (refine hKC _ _ _ _ _ (zBb [] k1 rfl rfl rfl (by simp) (fun _ h => by cases h) rfl rfl rfl Lq ?_)) | (refine hKC _ _ _ _ _ (zD (k2) rfl rfl rfl ?_ ?_); (· exact Lq))); simp (maxSteps := 9999999) only [push_cast, seval, ↓reduceIte, zX, zN, zL, pick, mOf, idx, ren, ren2, ren1, ren0, zc, zV, zW]) | ((first | with_reducible refine hJ _ _ ?_ | (with_reducible refine hJ _ _ ?_ ?_; · kernel_rfl)); clear hJ hKC KC J)
 obtain ⟨MC, hMC⟩ : ∃ m, zAB (vIP q) s.code (d, n0, e) = m := ⟨_, rfl⟩
 refine zCz 4 ⟨[.ptr 0 0 0, .any, .any, .ptr 1 0 0, .ptr 2 0 0, .any, .any, .any, .any, .any, .any, .any, .any, .any, .any, .any, .any, .any, .any, .any, .any, .any, .any, .any, .any, .any, .any, .any, .any, .any, .any, .any, .any, .any, .any, .any, .any, .any, .any, .any, .any, .any, .any, .any, .any, .any, .any, .any, .any, .any, .any, .any, .any, .any, .any, .any, .any, .any, .any, .any, .any, .any, .any, .any, .any, .any, .any, .any, .any, .any, .any, .any, .any, .any, .any, .any, .any, .any, .any, .any, .any, .any, .any, .any, .any, .any, .any, .any, .any, .any, .any, .any, .any, .any, .any, .any, .any, .any, .any, .any, .any, .any, .any, .any, .any, .any, .any, .any, .any, .any], [.ent (mkV q MC.1.1 MC.1.2.2), .ent ⟨0, none, 39, [.v (.int .i64 s.v), .v (.int .i64 s.l), .sl false 3 (zo (MC.2)), .sl true 2 [], .sl f3 3 (zg s.stack), .sl f4 2 (za s.out)], .cells⟩, .ent ⟨0, none, 39, [.v (.int .i64 0), .v (.int .i64 0), .v (.slice none 0 0), .v (.slice none 0 0), .v (.slice none 0 0), .v (.slice none 0 0)], .cells⟩, .dead]⟩ (by first | exact ⟨[_, _, _, _], 0, rfl, rfl⟩ | exact ⟨[_, _, _, _], 1, rfl, rfl⟩ | exact ⟨[_, _, _, _], 2, rfl, rfl⟩ | exact ⟨[_, _, _, _], 3, rfl, rfl⟩ | exact ⟨[_, _, _, _], 4, rfl, rfl⟩) ?_ ?_
 ·skip
  repeat' first | (with_reducible refine zI ?_)
  refine zw 4 (γ := {i : Nat // i ≤ s.code.length}) (fun i => ⟨[.ptr 0 0 0, .any, .any, .ptr 1 0 0, .ptr 2 0 0, .any, .any, .any, .any, .any, .any, .any, .any, .any, .any, .any, .any, .any, .any, .any, .ref 3 0 s.code.length, .v (.int .i64 s.code.length), .v (.int .i64 i.1), .any, .any, .any, .any, .any, .any, .any, .any, .any, .any, .any, .any, .any, .any, .any, .any, .any, .any, .any, .any, .any, .any, .any, .any, .any, .any, .any, .any, .any, .any, .any, .any, .any, .any, .any, .any, .any, .any, .any, .any, .any, .any, .any, .any, .any, .any, .any, .any, .any, .any, .any, .any, .any, .any, .any, .any, .any, .any, .any, .any, .any, .any, .any, .any, .any, .any, .any, .any, .any, .any, .any, .any, .any, .any, .any, .any, .any, .any, .any, .any, .any, .any, .any, .any, .any, .any, .any], [.ent (mkV q (zAB (vIP q) (s.code.take i.1) (d, n0, e)).1.1 (zAB (vIP q) (s.code.take i.1) (d, n0, e)).1.2.2), .ent ⟨0, none, 39, [.v (.int .i64 s.v), .v (.int .i64 s.l), .ref 3 0 s.code.length, .sl true 2 [], .sl f3 3 (zg s.stack), .sl f4 2 (za s.out)], .cells⟩, .ent ⟨0, none, 39, [.v (.int .i64 0), .v (.int .i64 0), .v (.slice none 0 0), .v (.slice none 0 0), .v (.slice none 0 0), .v (.slice none 0 0)], .cells⟩, .ent ⟨0, some 3, 100, zs (mW (vIP q) s.code (d, n0, e) i.1), .cells⟩]⟩) (fun i => s.code.length - i.1) ⟨0, by omega⟩ (fun i => rfl) (fun i => ?_) (fun i => rfl) ⟨?_, ?_⟩ ?_
  ·refine zAF ?_
   simp only [mkV, List.map_cons, List.map_nil, zL, zc, zV]
   rfl
  ·exact Lq
  ·simp only [zGb, List.take_zero, mkV]
   exact Fq
  rintro ⟨i, hi⟩
  dsimp only
  obtain ⟨n, hn⟩ : ∃ n, s.code.length = n := ⟨_, rfl⟩
  rw [hn] at hi ⊢
  have hwl : (zs (mW (vIP q) s.code (d, n0, e) i)).length = n * 3 := by rw [zAz, zEI, hn]
  by_cases hlt : (i : Int) < (n : Int)
  ·have hx : s.code[i]? = some s.code[i] := List.getElem?_eq_getElem (by omega)
   obtain ⟨x, hxx⟩ : ∃ x, s.code[i] = x := ⟨_, rfl⟩
   rw [hxx] at hx
   have hxw := zIL (f := vIP q) (m := (d, n0, e)) hx
   have hws := zGl (f := vIP q) (m := (d, n0, e)) hx
   have hms := zDO (vIP q) hx (d, n0, e)
   have hat := zKc hxw
   have hlab := hcL x (List.mem_of_getElem? hx)
   obtain ⟨⟨d1, n1, e1⟩, hM⟩ : ∃ m, (zAB (vIP q) (s.code.take i) (d, n0, e)).1 = m := ⟨_, rfl⟩
   rw [hM] at hws hms ⊢
   obtain ⟨o, v, a⟩ := x
   simp only at hat hlab
   have hwn := zp (i := i) (n := n) (by omega) (by omega)
   obtain ⟨W, hW⟩ : ∃ W, mW (vIP q) s.code (d, n0, e) i = W := ⟨_, rfl⟩
   rw [hW] at hxw hws hat hwl ⊢
   by_cases ho : o = 1
   ·have ho' : (o == 1) = true := by simpa using ho
    have hh := zAw q hq d1 e1 a (hlab ho)
    obtain ⟨b, hb⟩ : ∃ b, hid q.us q.o a = b := ⟨_, rfl⟩
    rw [hb] at hh
    cases b
    case false =>
     have hv : vIP q (o, v, a) (d1, n1, e1) = ((d1, n1, e1), (o, v, a)) := by unfold vIP; rw [if_neg (by rw [hb]; simp)]
     rw [hv] at hws hms
     have hsm : W.set i (o, v, a) = W := by
      obtain ⟨h1, h2⟩ := List.getElem?_eq_some_iff.1 hxw
      rw [← h2]; exact List.set_getElem_self h1
     rw [hsm] at hws
     simp only [mkV] at hh ⊢
     repeat' first | (with_reducible first | refine zA ?_ | refine zB ?_ | refine zP ?_ | refine zJ ?_ | refine zI ?_) | ((with_reducible refine And.intro ?_ ?_); · exact Sq) | ((first | with_reducible refine zC fun KC J hJ hKC => ?_ | (refine hKC _ _ _ _ _ (zT [0] hh rfl rfl rfl (by decide) (by simp) rfl rfl Lq ?_))); simp (maxSteps := 9999999) only [push_cast, seval, ↓reduceIte, hlt, hat, hwl, hwn, ho', undef, zX, zN, zL, pick, mOf, idx, ren, ren2, ren1, ren0, zc, zV, zW]) | ((with_reducible refine hJ _ _ ?_); clear hJ hKC KC J) | ((with_reducible refine zG ?_ ?_); · rfl) | ((with_reducible refine zH ?_ ?_); · rfl)
     refine ⟨⟨i + 1, by omega⟩, by simp only; omega, ?_, ?_⟩
     ·exact Lq
     ·simp only [hms, hws, mkV]; exact ⟨_, rfl⟩
    case true =>
     have hval := zDb q d1 n1 e1
     obtain ⟨⟨d2, n2, e2⟩, hM2⟩ : ∃ m, zAL (d1, n1, e1) q.sp.val = m := ⟨_, rfl⟩
     rw [hM2] at hval
     have hv : vIP q (o, v, a) (d1, n1, e1) = ((d2, n2, e2), (o, n2, a)) := by unfold vIP; rw [if_pos ⟨ho, hb⟩]; simp only [hM2]
     rw [hv] at hws hms
     have hset := zOj n2 hxw
     rw [← hws] at hset
     obtain ⟨W', hW'⟩ : ∃ W', mW (vIP q) s.code (d, n0, e) (i + 1) = W' := ⟨_, rfl⟩
     rw [hW'] at hset
     simp only [mkV] at hh hval ⊢
     repeat' first | (with_reducible first | refine zA ?_ | refine zB ?_ | refine zP ?_ | refine zJ ?_ | refine zI ?_) | ((with_reducible refine And.intro ?_ ?_); · exact Sq) | ((first | with_reducible refine zC fun KC J hJ hKC => ?_ | with_reducible refine zY rfl fun KC J hJ hKC => ?_ | (refine hKC _ _ _ _ _ (zT [0] hh rfl rfl rfl (by decide) (by simp) rfl rfl Lq ?_)) | (refine hKC _ _ _ _ _ (zT [0] hval rfl rfl rfl (by decide) (by simp) rfl rfl Lq ?_))); simp (maxSteps := 9999999) only [push_cast, seval, ↓reduceIte, hlt, hat, hwl, hset, hwn, Nat.add_zero, ho', undef, zX, zN, zL, pick, mOf, idx, ren, ren2, ren1, ren0, zc, zV, zW]) | ((first | with_reducible refine hJ _ _ ?_ | (with_reducible refine hJ _ _ ?_ ?_; · kernel_rfl)); clear hJ hKC KC J) | ((with_reducible refine zG ?_ ?_); · rfl)
     refine ⟨⟨i + 1, by omega⟩, by simp only; omega, ?_, ?_⟩
     ·exact Lq
     ·simp only [hms, hW', mkV]; exact ⟨_, rfl⟩
   ·have ho' : (o == 1) = false := by simpa using ho
    have hv : vIP q (o, v, a) (d1, n1, e1) = ((d1, n1, e1), (o, v, a)) := by unfold vIP; rw [if_neg (fun h => ho h.1)]
    rw [hv] at hws hms
    have hsm : W.set i (o, v, a) = W := by
     obtain ⟨h1, h2⟩ := List.getElem?_eq_some_iff.1 hxw
     rw [← h2]; exact List.set_getElem_self h1
    rw [hsm] at hws
    simp only [mkV]
    repeat' first | (with_reducible first | refine zA ?_ | refine zB ?_ | refine zP ?_ | refine zJ ?_ | refine zI ?_) | ((with_reducible refine And.intro ?_ ?_); · exact Sq) | ((with_reducible refine zC fun KC J hJ hKC => ?_); simp (maxSteps := 9999999) only [push_cast, seval, ↓reduceIte, hlt, hat, hwl, hwn, ho', undef, zX, zN, zL, pick, mOf, idx, ren, ren2, ren1, ren0, zc, zV, zW]) | ((with_reducible refine hJ _ _ ?_); clear hJ hKC KC J) | ((with_reducible refine zG ?_ ?_); · rfl) | ((with_reducible refine zH ?_ ?_); · rfl)
    refine ⟨⟨i + 1, by omega⟩, by simp only; omega, ?_, ?_⟩
    ·exact Lq
    ·simp only [hms, hws, mkV]; exact ⟨_, rfl⟩
  ·have hin : i = n := by omega
   subst hin
   have hend := zJE (f := vIP q) (m := (d, n0, e)) hn
   have htk : s.code.take i = s.code := by rw [← hn]; exact List.take_length
   rw [hend, hMC] at hwl
   rw [hend, htk, hMC]
   obtain ⟨W, hW⟩ : ∃ W, MC.2 = W := ⟨_, rfl⟩
   rw [hW] at hwl ⊢
   have hWl : W.length = i := by have := zAz W; omega
   have hcp : zAh 3 i (zs W) = zo W := by rw [← hWl]; exact zLT W
   simp only [mkV]
   repeat' first | (refine zU 3 3 rfl (by (simp (maxSteps := 9999999) only [push_cast, seval, ↓reduceIte]) <;> rfl) ?_; simp (maxSteps := 9999999) only [push_cast, seval, ↓reduceIte, zAK, zi, fr3, fr2, fr1, fr0, zq, zn, hlt, hwl, hcp]) | (with_reducible first | refine zA ?_ | refine zB ?_ | refine zm ?_ | refine zl ?_ | refine zZ ?_) | ((with_reducible refine zC fun KC J hJ hKC => ?_); simp (maxSteps := 9999999) only [push_cast, seval, ↓reduceIte, hlt, hwl, hcp]) | ((with_reducible refine hJ _ _ ?_); clear hJ hKC KC J) | ((with_reducible refine zH ?_ ?_); · rfl)
   refine .inl ⟨rfl, [0, 1, 2, 3], by decide, by decide, ?_, ?_⟩
   ·exact Lq
   ·simp only [pick, List.map_cons, List.map_nil, zAZ, zL, zV, zc, mOf, idx]
    exact LSv
 repeat' first | (with_reducible refine zHc 2 ?_) | (with_reducible first | refine zA ?_ | refine zB ?_) | ((with_reducible refine zC fun KC J hJ hKC => ?_); simp (maxSteps := 9999999) only [push_cast, seval, ↓reduceIte]) | ((with_reducible refine hJ _ _ ?_); clear hJ hKC KC J)
 obtain ⟨MM, hMM⟩ : ∃ m, zAB (vAP q) s.mem MC.1 = m := ⟨_, rfl⟩
 refine zCz 4 ⟨[.ptr 0 0 0, .any, .any, .ptr 1 0 0, .ptr 2 0 0, .any, .any, .any, .any, .any, .any, .any, .any, .any, .any, .any, .any, .any, .any, .any, .any, .any, .any, .any, .any, .any, .any, .any, .any, .any, .any, .any, .any, .any, .any, .any, .any, .any, .any, .any, .any, .any, .any, .any, .any, .any, .any, .any, .any, .any, .any, .any, .any, .any, .any, .any, .any, .any, .any, .any, .any, .any, .any, .any, .any, .any, .any, .any, .any, .any, .any, .any, .any, .any, .any, .any, .any, .any, .any, .any, .any, .any, .any, .any, .any, .any, .any, .any, .any, .any, .any, .any, .any, .any, .any, .any, .any, .any, .any, .any, .any, .any, .any, .any, .any, .any, .any, .any, .any, .any], [.ent (mkV q MM.1.1 MM.1.2.2), .ent ⟨0, none, 39, [.v (.int .i64 s.v), .v (.int .i64 s.l), .sl false 3 (zo (MC.2)), .sl true 2 [], .sl f3 3 (zg s.stack), .sl f4 2 (za s.out)], .cells⟩, .ent ⟨0, none, 39, [.v (.int .i64 0), .v (.int .i64 0), .v (.slice none 0 0), .v (.slice none 0 0), .v (.slice none 0 0), .v (.slice none 0 0)], .cells⟩, .dead]⟩ (by first | exact ⟨[_, _, _, _], 0, rfl, rfl⟩ | exact ⟨[_, _, _, _], 1, rfl, rfl⟩ | exact ⟨[_, _, _, _], 2, rfl, rfl⟩ | exact ⟨[_, _, _, _], 3, rfl, rfl⟩ | exact ⟨[_, _, _, _], 4, rfl, rfl⟩) ?_ ?_
 ·skip
  repeat' first | (with_reducible refine zI ?_)
  refine zw 4 (γ := Unit) (fun _ => ⟨[.ptr 0 0 0, .any, .any, .ptr 1 0 0, .ptr 2 0 0, .any, .any, .any, .any, .any, .any, .any, .any, .any, .any, .any, .any, .any, .any, .any, .any, .any, .any, .any, .any, .any, .any, .any, .any, .any, .any, .any, .any, .any, .any, .any, .any, .any, .any, .any, .any, .any, .any, .any, .any, .sl true 2 [], .v (.int .i64 0), .v (.int .i64 0), .any, .any, .any, .any, .any, .any, .any, .any, .any, .any, .any, .any, .any, .any, .any, .any, .any, .any, .any, .any, .any, .any, .any, .any, .any, .any, .any, .any, .any, .any, .any, .any, .any, .any, .any, .any, .any, .any, .any, .any, .any, .any, .any, .any, .any, .any, .any, .any, .any, .any, .any, .any, .any, .any, .any, .any, .any, .any, .any, .any, .any, .any], [.ent (mkV q MC.1.1 MC.1.2.2), .ent ⟨0, none, 39, [.v (.int .i64 s.v), .v (.int .i64 s.l), .sl false 3 (zo (MC.2)), .sl true 2 [], .sl f3 3 (zg s.stack), .sl f4 2 (za s.out)], .cells⟩, .ent ⟨0, none, 39, [.v (.int .i64 0), .v (.int .i64 0), .v (.slice none 0 0), .v (.slice none 0 0), .v (.slice none 0 0), .v (.slice none 0 0)], .cells⟩, .dead]⟩) (fun _ => 0) () (fun k => rfl) (fun k => ?_) (fun k => rfl) ⟨?_, ?_⟩ ?_
  ·refine zAF ?_
   simp only [mkV, List.map_cons, List.map_nil, zL]
   rfl
  ·exact Lq
  ·simp only [mkV]
   exact Fq
  intro _
  simp only [mkV]
  repeat' first | (with_reducible first | refine zA ?_ | refine zB ?_ | refine zm ?_ | refine zl ?_ | refine zZ ?_) | ((with_reducible refine zC fun KC J hJ hKC => ?_); simp (maxSteps := 9999999) only [push_cast, seval, ↓reduceIte]) | ((with_reducible refine hJ _ _ ?_); clear hJ hKC KC J) | ((with_reducible refine zH ?_ ?_); · rfl)
  rw [hm0] at hMM
  subst hMM
  refine .inl ⟨rfl, [0, 1, 2, 3], by decide, by decide, ?_, ?_⟩
  ·exact Lq
  ·simp only [zAB, List.foldl_nil, pick, List.map_cons, List.map_nil, zAZ, zL, mOf, idx]
   exact LSv
 have hMe : za MM.2 = [] := by rw [← hMM, hm0]; rfl
 obtain ⟨⟨d2, n2, e2⟩, hM2⟩ : ∃ m, MM.1 = m := ⟨_, rfl⟩
 rw [hM2]
 have g1 := zAw q hq d2 e2 s.l hlL
 by_cases hh : hid q.us q.o s.l = true
 ·rw [hh] at g1
  have hst : zAR q s (d, n0, e) = (let k := zAB (vSP q) (zu q.us q.o s.stack) (d2, n2, e2)
    let t := zCF q k.2 k.1
    let v := zR t.1 13
    let n := zR v (zh q.us q.o).length
    (n, ⟨v.2.1, (zh q.us q.o).getD n.2.1.toNat 0, MC.2, MM.2, t.2, s.out⟩)) := by
   unfold zAR; simp only [hMC, hMM, hM2]; rw [if_pos hh]
  have hfl : ((!hid q.us q.o s.l) && decide (s.stack = [])) = false := by rw [hh]; rfl
  rw [hst, hfl]
  clear hst
  have hcrop := zDf q.f q.g f3 q.ns q.us (q.o : Int) s.stack hq.szs hq.u32 (by omega)
  rw [zCp hq.chk hkL (zAG.2 ⟨by omega, by have := hq.lab; omega⟩), zEs hq.chk hkL (zAG.2 ⟨by omega, by have := hq.lab; omega⟩)] at hcrop
  have hcrL : ∀ x ∈ zu q.us q.o s.stack, zx q.us.length x.2.2 = false := fun x hx => hkL x (List.mem_of_mem_take hx)
  have hcrl : (zu q.us q.o s.stack).length ≤ s.stack.length := by unfold zu; rw [List.length_take]; omega
  obtain ⟨CR, hCR⟩ : ∃ r, zu q.us q.o s.stack = r := ⟨_, rfl⟩
  rw [hCR] at hcrop hcrL hcrl ⊢
  have hKl := zAl (vSP q) (d2, n2, e2) CR
  have hne : zh q.us q.o ≠ [] := fun h => by have := zEX.2 ⟨hlL, hh⟩; rw [h] at this; cases this
  rcases Nat.eq_zero_or_pos CR.length with h0 | h0
  ·have hC0 : CR = [] := List.length_eq_zero_iff.1 h0
   subst hC0
   have g2 := zBr q d2 e2 false
   have g3 := zDC q hq hul d2 n2 e2 [] (by simp) hs0 hs1 (by simpa using hs0) none (fun _ => rfl)
   simp only [zAB, List.foldl_nil] at g3 ⊢
   obtain ⟨⟨⟨d3, n3, e3⟩, T⟩, hT⟩ : ∃ r, zCF q [] (d2, n2, e2) = r := ⟨_, rfl⟩
   rw [hT] at g3
   simp only [hT]
   have g4 := zBx q d3 n3 e3
   obtain ⟨⟨d4, n4, e4⟩, hP⟩ : ∃ m, zR (d3, n3, e3) 13 = m := ⟨_, rfl⟩
   simp only [hP] at g4 ⊢
   have g5 := zBp q hq hul d4 n4 e4 hne
   obtain ⟨⟨d5, n5, e5⟩, hU⟩ : ∃ m, zR (d4, n4, e4) (zh q.us q.o).length = m := ⟨_, rfl⟩
   simp only [hU] at g5 ⊢
   obtain ⟨lb, hlb⟩ : ∃ l, (zh q.us q.o).getD n5.toNat 0 = l := ⟨_, rfl⟩
   rw [hlb] at g5
   simp only [hlb]
   simp only [mkV, yE, yσ, yO, show zg [] = [] from rfl, show zj [] = [] from rfl, List.length_nil] at g1 g2 g3 g4 g5 ⊢
   repeat' first | (with_reducible first | refine zA ?_ | refine zB ?_ | refine zF ?_ | refine zJ ?_) | ((first | with_reducible refine zC fun KC J hJ hKC => ?_ | with_reducible refine zY rfl fun KC J hJ hKC => ?_ | (refine hKC _ _ _ _ _ (zT [0] g1 rfl rfl rfl (by decide) (by simp) rfl rfl Lq ?_)) | (refine hKC _ _ _ _ _ (zT [0] g2 rfl rfl rfl (by decide) (by simp) rfl rfl Lq ?_)) | (refine hKC _ _ _ _ _ (zT [0] g3 rfl rfl rfl (by decide) (by simp) rfl rfl Lq ?_)) | (refine hKC _ _ _ _ _ (zT [0] g4 rfl rfl rfl (by decide) (by simp) rfl rfl Lq ?_)) | (refine hKC _ _ _ _ _ (zT [0] g5 rfl rfl rfl (by decide) (by simp) rfl rfl Lq ?_)) | (refine hKC _ _ _ _ _ (zD (hcrop) rfl rfl rfl ?_ ?_); (· exact Lq))); simp (maxSteps := 9999999) only [push_cast, seval, ↓reduceIte, zX, zN, zL, pick, mOf, idx, ren, ren2, ren1, ren0, zc, zV, zW]) | ((first | with_reducible refine hJ _ _ ?_ | (with_reducible refine hJ _ _ ?_ ?_; · kernel_rfl)); clear hJ hKC KC J) | ((with_reducible refine zH ?_ ?_); · rfl)
   refine zd ?_
   simp (maxSteps := 9999999) only [push_cast, seval, ↓reduceIte, show Tryz.f188.results = #[(.cell 4 39)] from rfl]
   exact ⟨rfl, by simp only [zDF, hMe]; exact zK _⟩
  ·have g2 := zCO q hq d2 n2 e2 false CR h0 (by omega) hcrL
   obtain ⟨⟨⟨d6, n6, e6⟩, KS⟩, hKS⟩ : ∃ r, zAB (vSP q) CR (d2, n2, e2) = r := ⟨_, rfl⟩
   rw [hKS] at g2 hKl
   simp only at g2 hKl
   have g3 := zDC q hq hul d6 n6 e6 KS (by omega) hs0 hs1 (by omega) (some 0) (fun h => by cases h)
   rw [hKl] at g3
   simp only [hKS] at g3 ⊢
   obtain ⟨m, hm'⟩ : ∃ m, CR.length = m := ⟨_, rfl⟩
   rw [hm'] at g2 g3
   obtain ⟨⟨⟨d3, n3, e3⟩, T⟩, hT⟩ : ∃ r, zCF q KS (d6, n6, e6) = r := ⟨_, rfl⟩
   rw [hT] at g3
   simp only [hT]
   have g4 := zBx q d3 n3 e3
   obtain ⟨⟨d4, n4, e4⟩, hP⟩ : ∃ m, zR (d3, n3, e3) 13 = m := ⟨_, rfl⟩
   simp only [hP] at g4 ⊢
   have g5 := zBp q hq hul d4 n4 e4 hne
   obtain ⟨⟨d5, n5, e5⟩, hU⟩ : ∃ m, zR (d4, n4, e4) (zh q.us q.o).length = m := ⟨_, rfl⟩
   simp only [hU] at g5 ⊢
   obtain ⟨lb, hlb⟩ : ∃ l, (zh q.us q.o).getD n5.toNat 0 = l := ⟨_, rfl⟩
   rw [hlb] at g5
   simp only [hlb]
   simp only [mkV, yE, yσ, yO, show zg [] = [] from rfl, show zj [] = [] from rfl, List.length_nil] at g1 g2 g3 g4 g5 ⊢
   repeat' first | (with_reducible first | refine zA ?_ | refine zB ?_ | refine zF ?_ | refine zJ ?_) | ((first | with_reducible refine zC fun KC J hJ hKC => ?_ | with_reducible refine zY rfl fun KC J hJ hKC => ?_ | (refine hKC _ _ _ _ _ (zT [0] g1 rfl rfl rfl (by decide) (by simp) rfl rfl Lq ?_)) | (refine hKC _ _ _ _ _ (zBb [0] g2 rfl rfl rfl (by decide) (by simp) rfl rfl rfl Lq ?_)) | (refine hKC _ _ _ _ _ (zT [0, 6] g3 rfl rfl rfl (by decide) (by simp) rfl (by simp only [pick, List.map_cons, List.map_nil, zAZ, zL, zW, mOf, idx]; rfl) Lq ?_)) | (refine hKC _ _ _ _ _ (zT [0] g4 rfl rfl rfl (by decide) (by simp) rfl rfl Lq ?_)) | (refine hKC _ _ _ _ _ (zT [0] g5 rfl rfl rfl (by decide) (by simp) rfl rfl Lq ?_)) | (refine hKC _ _ _ _ _ (zD (hcrop) rfl rfl rfl ?_ ?_); (· exact Lq))); simp (maxSteps := 9999999) only [push_cast, seval, ↓reduceIte, zX, zN, zL, pick, mOf, idx, ren, ren2, ren1, ren0, zc, zV, zW]) | ((first | with_reducible refine hJ _ _ ?_ | (with_reducible refine hJ _ _ ?_ ?_; · kernel_rfl)); clear hJ hKC KC J) | ((with_reducible refine zH ?_ ?_); · rfl)
   refine zd ?_
   simp (maxSteps := 9999999) only [push_cast, seval, ↓reduceIte, show Tryz.f188.results = #[(.cell 4 39)] from rfl]
   exact ⟨rfl, by simp only [zDF, hMe]; exact zK _⟩
 ·have hh' : hid q.us q.o s.l = false := by simpa using hh
  rw [hh'] at g1
  have hst : zAR q s (d, n0, e) = ((zAB (vSP q) s.stack (d2, n2, e2)).1, ⟨s.v, s.l, MC.2, MM.2, (zAB (vSP q) s.stack (d2, n2, e2)).2, s.out⟩) := by
   unfold zAR; simp only [hMC, hMM, hM2]; rw [if_neg hh]
  rw [hst]
  clear hst
  rcases Nat.eq_zero_or_pos s.stack.length with h0 | h0
  ·have hC0 : s.stack = [] := List.length_eq_zero_iff.1 h0
   have hfl : ((!hid q.us q.o s.l) && decide (s.stack = [])) = true := by rw [hh', hC0]; rfl
   rw [hfl, hC0]
   have g2 := zBr q d2 e2 f3
   simp only [zAB, List.foldl_nil, mkV, show zg [] = [] from rfl] at g1 g2 ⊢
   repeat' first | (with_reducible first | refine zA ?_ | refine zB ?_ | refine zb ?_ | refine zF ?_) | ((first | with_reducible refine zC fun KC J hJ hKC => ?_ | (refine hKC _ _ _ _ _ (zT [0] g1 rfl rfl rfl (by decide) (by simp) rfl rfl Lq ?_)) | (refine hKC _ _ _ _ _ (zT [0] g2 rfl rfl rfl (by decide) (by simp) rfl rfl Lq ?_))); simp (maxSteps := 9999999) only [push_cast, seval, ↓reduceIte, zX, zN, zL, pick, mOf, idx, ren, ren2, ren1, ren0, zc, zV, zW]) | ((with_reducible refine hJ _ _ ?_); clear hJ hKC KC J) | ((with_reducible refine zG ?_ ?_); · rfl)
   refine zd ?_
   simp (maxSteps := 9999999) only [push_cast, seval, ↓reduceIte, show Tryz.f188.results = #[(.cell 4 39)] from rfl]
   exact ⟨rfl, by simp only [zDF, hMe]; exact zK _⟩
  ·have hfl : ((!hid q.us q.o s.l) && decide (s.stack = [])) = false := by
    rw [hh', decide_eq_false (fun h => by rw [h] at h0; cases h0)]; rfl
   rw [hfl]
   have g2 := zCO q hq d2 n2 e2 f3 s.stack h0 (by omega) hkL
   have hKl := zAl (vSP q) (d2, n2, e2) s.stack
   obtain ⟨⟨⟨d6, n6, e6⟩, KS⟩, hKS⟩ : ∃ r, zAB (vSP q) s.stack (d2, n2, e2) = r := ⟨_, rfl⟩
   rw [hKS] at g2 hKl
   simp only [hKS] at g2 hKl ⊢
   have hlC : (zj KS).length = s.stack.length * 3 := by rw [zy, hKl]
   have hcp : zAh 3 s.stack.length (zj KS) = zg KS := by rw [← hKl]; exact zEd KS
   simp only [mkV] at g1 g2 ⊢
   repeat' first | (refine zU 16 5 rfl (by (simp (maxSteps := 9999999) only [push_cast, seval, ↓reduceIte]) <;> rfl) ?_; simp (maxSteps := 9999999) only [push_cast, seval, ↓reduceIte, zAK, zi, fr3, fr2, fr1, fr0, zq, zn, hlC, hcp, zX, zN, zL, pick, mOf, idx, ren, ren2, ren1, ren0, zc, zV, zW]) | (with_reducible first | refine zA ?_ | refine zB ?_ | refine zb ?_ | refine zF ?_) | ((first | with_reducible refine zC fun KC J hJ hKC => ?_ | (refine hKC _ _ _ _ _ (zT [0] g1 rfl rfl rfl (by decide) (by simp) rfl rfl Lq ?_)) | (refine hKC _ _ _ _ _ (zBb [0] g2 rfl rfl rfl (by decide) (by simp) rfl rfl rfl Lq ?_))); simp (maxSteps := 9999999) only [push_cast, seval, ↓reduceIte, hlC, hcp, zX, zN, zL, pick, mOf, idx, ren, ren2, ren1, ren0, zc, zV, zW]) | ((with_reducible refine hJ _ _ ?_); clear hJ hKC KC J) | ((with_reducible refine zG ?_ ?_); · rfl)
   refine zd ?_
   simp (maxSteps := 9999999) only [push_cast, seval, ↓reduceIte, show Tryz.f188.results = #[(.cell 4 39)] from rfl]
   exact ⟨rfl, by simp only [zDF, hMe]; exact zK _⟩
theorem zMd (q : VQ) (hq : VOk q) (hul : q.us.length ≤ 8) (d : Dr) (n0 e : Int) (f1 f2 f3 f4 : Bool) (s : Sta) (hs : VIn q s) (hc0 : s.code = []) (hm0 : 0 < s.mem.length) :
  Fn Tryz.prog 188 [.ptr 0 0 0, .agg (zAO f1 f2 f3 f4 s)] [.ent (mkV q d e)] (zDF true false ((!hid q.us q.o s.l) && decide (s.stack = [])) f4 (zAR q s (d, n0, e)).2) [.ent (mkV q (zAR q s (d, n0, e)).1.1 (zAR q s (d, n0, e)).1.2.2)] := by
 obtain ⟨hc, hm, hk, hcL, hmL, hkL, hlL, hs0, hs1, hsk⟩ := hs
 have k1 := zOp f1
 have k2 := zRC f2 s.mem hm0 (by omega)
 simp only [zAO]
 have hcr : zo s.code = [] := by rw [hc0]; rfl
 have hcl0 : s.code.length = 0 := by rw [hc0]; rfl
 rw [hcr]
 refine Fn.of (fn := Tryz.f188) (by kernel_rfl) rfl (by kernel_rfl) ⟨[.ptr 0 0 0, .agg [.v (.int .i64 s.v), .v (.int .i64 s.l), .sl f1 3 ([]), .sl f2 2 (za s.mem), .sl f3 3 (zg s.stack), .sl f4 2 (za s.out)], .v undef, .v undef, .v undef, .v undef, .v undef, .v undef, .v undef, .v undef, .v undef, .v undef, .v undef, .v undef, .v undef, .v undef, .v undef, .v undef, .v undef, .v undef, .v undef, .v undef, .v undef, .v undef, .v undef, .v undef, .v undef, .v undef, .v undef, .v undef, .v undef, .v undef, .v undef, .v undef, .v undef, .v undef, .v undef, .v undef, .v undef, .v undef, .v undef, .v undef, .v undef, .v undef, .v undef, .v undef, .v undef, .v undef, .v undef, .v undef, .v undef, .v undef, .v undef, .v undef, .v undef, .v undef, .v undef, .v undef, .v undef, .v undef, .v undef, .v undef, .v undef, .v undef, .v undef, .v undef, .v undef, .v undef, .v undef, .v undef, .v undef, .v undef, .v undef, .v undef, .v undef, .v undef, .v undef, .v undef, .v undef, .v undef, .v undef, .v undef, .v undef, .v undef, .v undef, .v undef, .v undef, .v undef, .v undef, .v undef, .v undef, .v undef, .v undef, .v undef, .v undef, .v undef, .v undef, .v undef, .v undef, .v undef, .v undef, .v undef, .v undef, .v undef, .v undef, .v undef, .v undef, .v undef, .v undef, .v undef], [.ent (mkV q d e)]⟩ rfl ?_
 simp only [mkV]
 repeat' first | (with_reducible refine zHc 0 ?_) | (with_reducible first | refine zA ?_ | refine zB ?_) | ((first | with_reducible refine zC fun KC J hJ hKC => ?_ | with_reducible refine zY rfl fun KC J hJ hKC => ?_ | (refine hKC _ _ _ _ _ (zBb [] k2 rfl rfl rfl (by simp) (fun _ h => by cases h) rfl rfl rfl Lq ?_)) | (refine hKC _ _ _ _ _ (zD (k1) rfl rfl rfl ?_ ?_); (· exact Lq))); simp (maxSteps := 9999999) only [push_cast, seval, ↓reduceIte, zX, zN, zL, pick, mOf, idx, ren, ren2, ren1, ren0, zc, zV, zW]) | ((first | with_reducible refine hJ _ _ ?_ | (with_reducible refine hJ _ _ ?_ ?_; · kernel_rfl)); clear hJ hKC KC J)
 obtain ⟨MC, hMC⟩ : ∃ m, zAB (vIP q) s.code (d, n0, e) = m := ⟨_, rfl⟩
 refine zCz 5 ⟨[.ptr 0 0 0, .any, .any, .ptr 1 0 0, .ptr 2 0 0, .any, .any, .any, .any, .any, .any, .any, .any, .any, .any, .any, .any, .any, .any, .any, .any, .any, .any, .any, .any, .any, .any, .any, .any, .any, .any, .any, .any, .any, .any, .any, .any, .any, .any, .any, .any, .any, .any, .any, .any, .any, .any, .any, .any, .any, .any, .any, .any, .any, .any, .any, .any, .any, .any, .any, .any, .any, .any, .any, .any, .any, .any, .any, .any, .any, .any, .any, .any, .any, .any, .any, .any, .any, .any, .any, .any, .any, .any, .any, .any, .any, .any, .any, .any, .any, .any, .any, .any, .any, .any, .any, .any, .any, .any, .any, .any, .any, .any, .any, .any, .any, .any, .any, .any, .any], [.ent (mkV q MC.1.1 MC.1.2.2), .ent ⟨0, none, 39, [.v (.int .i64 s.v), .v (.int .i64 s.l), .sl true 3 [], .ref 4 0 s.mem.length, .sl f3 3 (zg s.stack), .sl f4 2 (za s.out)], .cells⟩, .ent ⟨0, none, 39, [.v (.int .i64 0), .v (.int .i64 0), .v (.slice none 0 0), .v (.slice none 0 0), .v (.slice none 0 0), .v (.slice none 0 0)], .cells⟩, .dead, .ent ⟨0, some 2, 34, zk (s.mem), .cells⟩]⟩ (by first | exact ⟨[_, _, _, _, _], 0, rfl, rfl⟩ | exact ⟨[_, _, _, _, _], 1, rfl, rfl⟩ | exact ⟨[_, _, _, _, _], 2, rfl, rfl⟩ | exact ⟨[_, _, _, _, _], 3, rfl, rfl⟩ | exact ⟨[_, _, _, _, _], 4, rfl, rfl⟩) ?_ ?_
 ·skip
  repeat' first | (with_reducible refine zI ?_)
  refine zw 5 (γ := Unit) (fun _ => ⟨[.ptr 0 0 0, .any, .any, .ptr 1 0 0, .ptr 2 0 0, .any, .any, .any, .any, .any, .any, .any, .any, .any, .any, .any, .any, .any, .any, .any, .sl true 3 [], .v (.int .i64 0), .v (.int .i64 0), .any, .any, .any, .any, .any, .any, .any, .any, .any, .any, .any, .any, .any, .any, .any, .any, .any, .any, .any, .any, .any, .any, .any, .any, .any, .any, .any, .any, .any, .any, .any, .any, .any, .any, .any, .any, .any, .any, .any, .any, .any, .any, .any, .any, .any, .any, .any, .any, .any, .any, .any, .any, .any, .any, .any, .any, .any, .any, .any, .any, .any, .any, .any, .any, .any, .any, .any, .any, .any, .any, .any, .any, .any, .any, .any, .any, .any, .any, .any, .any, .any, .any, .any, .any, .any, .any, .any], [.ent (mkV q (d, n0, e).1 (d, n0, e).2.2), .ent ⟨0, none, 39, [.v (.int .i64 s.v), .v (.int .i64 s.l), .sl true 3 [], .ref 4 0 s.mem.length, .sl f3 3 (zg s.stack), .sl f4 2 (za s.out)], .cells⟩, .ent ⟨0, none, 39, [.v (.int .i64 0), .v (.int .i64 0), .v (.slice none 0 0), .v (.slice none 0 0), .v (.slice none 0 0), .v (.slice none 0 0)], .cells⟩, .free, .ent ⟨0, some 2, 34, zk (s.mem), .cells⟩]⟩) (fun _ => 0) () (fun k => rfl) (fun k => ?_) (fun k => rfl) ⟨?_, ?_⟩ ?_
  ·refine zAF ?_
   simp only [mkV, List.map_cons, List.map_nil, zL, zV]
   rfl
  ·exact Lq
  ·simp only [mkV]
   exact Fq
  intro _
  simp only [mkV]
  repeat' first | (with_reducible first | refine zA ?_ | refine zB ?_ | refine zm ?_ | refine zl ?_ | refine zZ ?_) | ((with_reducible refine zC fun KC J hJ hKC => ?_); simp (maxSteps := 9999999) only [push_cast, seval, ↓reduceIte]) | ((with_reducible refine hJ _ _ ?_); clear hJ hKC KC J) | ((with_reducible refine zH ?_ ?_); · rfl)
  rw [hc0] at hMC
  subst hMC
  refine .inl ⟨rfl, [0, 1, 2, 3, 4], by decide, by decide, ?_, ?_⟩
  ·exact Lq
  ·simp only [zAB, List.foldl_nil, pick, List.map_cons, List.map_nil, zAZ, zL, zV, mOf, idx]
   exact LSv
 repeat' first | (with_reducible refine zHc 2 ?_) | (with_reducible first | refine zA ?_ | refine zB ?_) | ((with_reducible refine zC fun KC J hJ hKC => ?_); simp (maxSteps := 9999999) only [push_cast, seval, ↓reduceIte]) | ((with_reducible refine hJ _ _ ?_); clear hJ hKC KC J)
 obtain ⟨MM, hMM⟩ : ∃ m, zAB (vAP q) s.mem MC.1 = m := ⟨_, rfl⟩
 refine zCz 5 ⟨[.ptr 0 0 0, .any, .any, .ptr 1 0 0, .ptr 2 0 0, .any, .any, .any, .any, .any, .any, .any, .any, .any, .any, .any, .any, .any, .any, .any, .any, .any, .any, .any, .any, .any, .any, .any, .any, .any, .any, .any, .any, .any, .any, .any, .any, .any, .any, .any, .any, .any, .any, .any, .any, .any, .any, .any, .any, .any, .any, .any, .any, .any, .any, .any, .any, .any, .any, .any, .any, .any, .any, .any, .any, .any, .any, .any, .any, .any, .any, .any, .any, .any, .any, .any, .any, .any, .any, .any, .any, .any, .any, .any, .any, .any, .any, .any, .any, .any, .any, .any, .any, .any, .any, .any, .any, .any, .any, .any, .any, .any, .any, .any, .any, .any, .any, .any, .any, .any], [.ent (mkV q MM.1.1 MM.1.2.2), .ent ⟨0, none, 39, [.v (.int .i64 s.v), .v (.int .i64 s.l), .sl true 3 [], .sl false 2 (za (MM.2)), .sl f3 3 (zg s.stack), .sl f4 2 (za s.out)], .cells⟩, .ent ⟨0, none, 39, [.v (.int .i64 0), .v (.int .i64 0), .v (.slice none 0 0), .v (.slice none 0 0), .v (.slice none 0 0), .v (.slice none 0 0)], .cells⟩, .dead, .dead]⟩ (by first | exact ⟨[_, _, _, _, _], 0, rfl, rfl⟩ | exact ⟨[_, _, _, _, _], 1, rfl, rfl⟩ | exact ⟨[_, _, _, _, _], 2, rfl, rfl⟩ | exact ⟨[_, _, _, _, _], 3, rfl, rfl⟩ | exact ⟨[_, _, _, _, _], 4, rfl, rfl⟩) ?_ ?_
 ·skip
  repeat' first | (with_reducible refine zI ?_)
  refine zw 5 (γ := {i : Nat // i ≤ s.mem.length}) (fun i => ⟨[.ptr 0 0 0, .any, .any, .ptr 1 0 0, .ptr 2 0 0, .any, .any, .any, .any, .any, .any, .any, .any, .any, .any, .any, .any, .any, .any, .any, .any, .any, .any, .any, .any, .any, .any, .any, .any, .any, .any, .any, .any, .any, .any, .any, .any, .any, .any, .any, .any, .any, .any, .any, .any, .ref 4 0 s.mem.length, .v (.int .i64 s.mem.length), .v (.int .i64 i.1), .any, .any, .any, .any, .any, .any, .any, .any, .any, .any, .any, .any, .any, .any, .any, .any, .any, .any, .any, .any, .any, .any, .any, .any, .any, .any, .any, .any, .any, .any, .any, .any, .any, .any, .any, .any, .any, .any, .any, .any, .any, .any, .any, .any, .any, .any, .any, .any, .any, .any, .any, .any, .any, .any, .any, .any, .any, .any, .any, .any, .any, .any], [.ent (mkV q (zAB (vAP q) (s.mem.take i.1) MC.1).1.1 (zAB (vAP q) (s.mem.take i.1) MC.1).1.2.2), .ent ⟨0, none, 39, [.v (.int .i64 s.v), .v (.int .i64 s.l), .sl true 3 [], .ref 4 0 s.mem.length, .sl f3 3 (zg s.stack), .sl f4 2 (za s.out)], .cells⟩, .ent ⟨0, none, 39, [.v (.int .i64 0), .v (.int .i64 0), .v (.slice none 0 0), .v (.slice none 0 0), .v (.slice none 0 0), .v (.slice none 0 0)], .cells⟩, .dead, .ent ⟨0, some 2, 34, zk (mW (vAP q) s.mem MC.1 i.1), .cells⟩]⟩) (fun i => s.mem.length - i.1) ⟨0, by omega⟩ (fun i => rfl) (fun i => ?_) (fun i => rfl) ⟨?_, ?_⟩ ?_
  ·refine zAF ?_
   simp only [mkV, List.map_cons, List.map_nil, zL, zc, zV]
   rfl
  ·exact Lq
  ·simp only [zGb, List.take_zero, mkV]
   exact Fq
  rintro ⟨i, hi⟩
  dsimp only
  obtain ⟨n, hn⟩ : ∃ n, s.mem.length = n := ⟨_, rfl⟩
  rw [hn] at hi ⊢
  have hwl : (zk (mW (vAP q) s.mem MC.1 i)).length = n * 2 := by rw [zAp, zEI, hn]
  by_cases hlt : (i : Int) < (n : Int)
  ·have hx : s.mem[i]? = some s.mem[i] := List.getElem?_eq_getElem (by omega)
   obtain ⟨x, hxx⟩ : ∃ x, s.mem[i] = x := ⟨_, rfl⟩
   rw [hxx] at hx
   have hxw := zIL (f := vAP q) (m := MC.1) hx
   have hws := zGl (f := vAP q) (m := MC.1) hx
   have hms := zDO (vAP q) hx MC.1
   have hat := zFY hxw
   have hlab := hmL x (List.mem_of_getElem? hx)
   obtain ⟨⟨d1, n1, e1⟩, hM⟩ : ∃ m, (zAB (vAP q) (s.mem.take i) MC.1).1 = m := ⟨_, rfl⟩
   rw [hM] at hws hms ⊢
   obtain ⟨v, a⟩ := x
   simp only at hat hlab
   have hwn := zp (i := i) (n := n) (by omega) (by omega)
   obtain ⟨W, hW⟩ : ∃ W, mW (vAP q) s.mem MC.1 i = W := ⟨_, rfl⟩
   rw [hW] at hxw hws hat hwl ⊢
   ·skip
    have hh := zAw q hq d1 e1 a hlab
    obtain ⟨b, hb⟩ : ∃ b, hid q.us q.o a = b := ⟨_, rfl⟩
    rw [hb] at hh
    cases b
    case false =>
     have hv : vAP q (v, a) (d1, n1, e1) = ((d1, n1, e1), (v, a)) := by unfold vAP; rw [if_neg (by rw [hb]; simp)]
     rw [hv] at hws hms
     have hsm : W.set i (v, a) = W := by
      obtain ⟨h1, h2⟩ := List.getElem?_eq_some_iff.1 hxw
      rw [← h2]; exact List.set_getElem_self h1
     rw [hsm] at hws
     simp only [mkV] at hh ⊢
     repeat' first | (with_reducible first | refine zA ?_ | refine zB ?_ | refine zP ?_ | refine zJ ?_ | refine zI ?_) | ((with_reducible refine And.intro ?_ ?_); · exact Sq) | ((first | with_reducible refine zC fun KC J hJ hKC => ?_ | (refine hKC _ _ _ _ _ (zT [0] hh rfl rfl rfl (by decide) (by simp) rfl rfl Lq ?_))); simp (maxSteps := 9999999) only [push_cast, seval, ↓reduceIte, hlt, hat, hwl, hwn, zX, zN, zL, pick, mOf, idx, ren, ren2, ren1, ren0, zc, zV, zW]) | ((with_reducible refine hJ _ _ ?_); clear hJ hKC KC J) | ((with_reducible refine zG ?_ ?_); · rfl) | ((with_reducible refine zH ?_ ?_); · rfl)
     refine ⟨⟨i + 1, by omega⟩, by simp only; omega, ?_, ?_⟩
     ·exact Lq
     ·simp only [hms, hws, mkV]; exact ⟨_, rfl⟩
    case true =>
     have hval := zDb q d1 n1 e1
     obtain ⟨⟨d2, n2, e2⟩, hM2⟩ : ∃ m, zAL (d1, n1, e1) q.sp.val = m := ⟨_, rfl⟩
     rw [hM2] at hval
     have hv : vAP q (v, a) (d1, n1, e1) = ((d2, n2, e2), (n2, a)) := by unfold vAP; rw [if_pos hb]; simp only [hM2]
     rw [hv] at hws hms
     have hset := zOc n2 hxw
     rw [← hws] at hset
     obtain ⟨W', hW'⟩ : ∃ W', mW (vAP q) s.mem MC.1 (i + 1) = W' := ⟨_, rfl⟩
     rw [hW'] at hset
     simp only [mkV] at hh hval ⊢
     repeat' first | (with_reducible first | refine zA ?_ | refine zB ?_ | refine zP ?_ | refine zJ ?_ | refine zI ?_) | ((with_reducible refine And.intro ?_ ?_); · exact Sq) | ((first | with_reducible refine zC fun KC J hJ hKC => ?_ | with_reducible refine zY rfl fun KC J hJ hKC => ?_ | (refine hKC _ _ _ _ _ (zT [0] hh rfl rfl rfl (by decide) (by simp) rfl rfl Lq ?_)) | (refine hKC _ _ _ _ _ (zT [0] hval rfl rfl rfl (by decide) (by simp) rfl rfl Lq ?_))); simp (maxSteps := 9999999) only [push_cast, seval, ↓reduceIte, hlt, hat, hwl, hset, hwn, Nat.add_zero, zX, zN, zL, pick, mOf, idx, ren, ren2, ren1, ren0, zc, zV, zW]) | ((first | with_reducible refine hJ _ _ ?_ | (with_reducible refine hJ _ _ ?_ ?_; · kernel_rfl)); clear hJ hKC KC J) | ((with_reducible refine zG ?_ ?_); · rfl)
     refine ⟨⟨i + 1, by omega⟩, by simp only; omega, ?_, ?_⟩
     ·exact Lq
     ·simp only [hms, hW', mkV]; exact ⟨_, rfl⟩
  ·have hin : i = n := by omega
   subst hin
   have hend := zJE (f := vAP q) (m := MC.1) hn
   have htk : s.mem.take i = s.mem := by rw [← hn]; exact List.take_length
   rw [hend, hMM] at hwl
   rw [hend, htk, hMM]
   obtain ⟨W, hW⟩ : ∃ W, MM.2 = W := ⟨_, rfl⟩
   rw [hW] at hwl ⊢
   have hWl : W.length = i := by have := zAp W; omega
   have hcp : zAh 2 i (zk W) = za W := by rw [← hWl]; exact zGF W
   simp only [mkV]
   repeat' first | (refine zU 9 4 rfl (by (simp (maxSteps := 9999999) only [push_cast, seval, ↓reduceIte]) <;> rfl) ?_; simp (maxSteps := 9999999) only [push_cast, seval, ↓reduceIte, zAK, zi, fr3, fr2, fr1, fr0, zq, zn, hlt, hwl, hcp]) | (with_reducible first | refine zA ?_ | refine zB ?_ | refine zm ?_ | refine zl ?_ | refine zZ ?_) | ((with_reducible refine zC fun KC J hJ hKC => ?_); simp (maxSteps := 9999999) only [push_cast, seval, ↓reduceIte, hlt, hwl, hcp]) | ((with_reducible refine hJ _ _ ?_); clear hJ hKC KC J) | ((with_reducible refine zH ?_ ?_); · rfl)
   refine .inl ⟨rfl, [0, 1, 2, 3, 4], by decide, by decide, ?_, ?_⟩
   ·exact Lq
   ·simp only [pick, List.map_cons, List.map_nil, zAZ, zL, zV, zc, mOf, idx]
    exact LSv
 have hCe : zo MC.2 = [] := by rw [← hMC, hc0]; rfl
 obtain ⟨⟨d2, n2, e2⟩, hM2⟩ : ∃ m, MM.1 = m := ⟨_, rfl⟩
 rw [hM2]
 have g1 := zAw q hq d2 e2 s.l hlL
 by_cases hh : hid q.us q.o s.l = true
 ·rw [hh] at g1
  have hst : zAR q s (d, n0, e) = (let k := zAB (vSP q) (zu q.us q.o s.stack) (d2, n2, e2)
    let t := zCF q k.2 k.1
    let v := zR t.1 13
    let n := zR v (zh q.us q.o).length
    (n, ⟨v.2.1, (zh q.us q.o).getD n.2.1.toNat 0, MC.2, MM.2, t.2, s.out⟩)) := by
   unfold zAR; simp only [hMC, hMM, hM2]; rw [if_pos hh]
  have hfl : ((!hid q.us q.o s.l) && decide (s.stack = [])) = false := by rw [hh]; rfl
  rw [hst, hfl]
  clear hst
  have hcrop := zDf q.f q.g f3 q.ns q.us (q.o : Int) s.stack hq.szs hq.u32 (by omega)
  rw [zCp hq.chk hkL (zAG.2 ⟨by omega, by have := hq.lab; omega⟩), zEs hq.chk hkL (zAG.2 ⟨by omega, by have := hq.lab; omega⟩)] at hcrop
  have hcrL : ∀ x ∈ zu q.us q.o s.stack, zx q.us.length x.2.2 = false := fun x hx => hkL x (List.mem_of_mem_take hx)
  have hcrl : (zu q.us q.o s.stack).length ≤ s.stack.length := by unfold zu; rw [List.length_take]; omega
  obtain ⟨CR, hCR⟩ : ∃ r, zu q.us q.o s.stack = r := ⟨_, rfl⟩
  rw [hCR] at hcrop hcrL hcrl ⊢
  have hKl := zAl (vSP q) (d2, n2, e2) CR
  have hne : zh q.us q.o ≠ [] := fun h => by have := zEX.2 ⟨hlL, hh⟩; rw [h] at this; cases this
  rcases Nat.eq_zero_or_pos CR.length with h0 | h0
  ·have hC0 : CR = [] := List.length_eq_zero_iff.1 h0
   subst hC0
   have g2 := zBr q d2 e2 false
   have g3 := zDC q hq hul d2 n2 e2 [] (by simp) hs0 hs1 (by simpa using hs0) none (fun _ => rfl)
   simp only [zAB, List.foldl_nil] at g3 ⊢
   obtain ⟨⟨⟨d3, n3, e3⟩, T⟩, hT⟩ : ∃ r, zCF q [] (d2, n2, e2) = r := ⟨_, rfl⟩
   rw [hT] at g3
   simp only [hT]
   have g4 := zBx q d3 n3 e3
   obtain ⟨⟨d4, n4, e4⟩, hP⟩ : ∃ m, zR (d3, n3, e3) 13 = m := ⟨_, rfl⟩
   simp only [hP] at g4 ⊢
   have g5 := zBp q hq hul d4 n4 e4 hne
   obtain ⟨⟨d5, n5, e5⟩, hU⟩ : ∃ m, zR (d4, n4, e4) (zh q.us q.o).length = m := ⟨_, rfl⟩
   simp only [hU] at g5 ⊢
   obtain ⟨lb, hlb⟩ : ∃ l, (zh q.us q.o).getD n5.toNat 0 = l := ⟨_, rfl⟩
   rw [hlb] at g5
   simp only [hlb]
   simp only [mkV, yE, yσ, yO, show zg [] = [] from rfl, show zj [] = [] from rfl, List.length_nil] at g1 g2 g3 g4 g5 ⊢
   repeat' first | (with_reducible first | refine zA ?_ | refine zB ?_ | refine zF ?_ | refine zJ ?_) | ((first | with_reducible refine zC fun KC J hJ hKC => ?_ | with_reducible refine zY rfl fun KC J hJ hKC => ?_ | (refine hKC _ _ _ _ _ (zT [0] g1 rfl rfl rfl (by decide) (by simp) rfl rfl Lq ?_)) | (refine hKC _ _ _ _ _ (zT [0] g2 rfl rfl rfl (by decide) (by simp) rfl rfl Lq ?_)) | (refine hKC _ _ _ _ _ (zT [0] g3 rfl rfl rfl (by decide) (by simp) rfl rfl Lq ?_)) | (refine hKC _ _ _ _ _ (zT [0] g4 rfl rfl rfl (by decide) (by simp) rfl rfl Lq ?_)) | (refine hKC _ _ _ _ _ (zT [0] g5 rfl rfl rfl (by decide) (by simp) rfl rfl Lq ?_)) | (refine hKC _ _ _ _ _ (zD (hcrop) rfl rfl rfl ?_ ?_); (· exact Lq))); simp (maxSteps := 9999999) only [push_cast, seval, ↓reduceIte, zX, zN, zL, pick, mOf, idx, ren, ren2, ren1, ren0, zc, zV, zW]) | ((first | with_reducible refine hJ _ _ ?_ | (with_reducible refine hJ _ _ ?_ ?_; · kernel_rfl)); clear hJ hKC KC J) | ((with_reducible refine zH ?_ ?_); · rfl)
   refine zd ?_
   simp (maxSteps := 9999999) only [push_cast, seval, ↓reduceIte, show Tryz.f188.results = #[(.cell 4 39)] from rfl]
   exact ⟨rfl, by simp only [zDF, hCe]; exact zK _⟩
  ·have g2 := zCO q hq d2 n2 e2 false CR h0 (by omega) hcrL
   obtain ⟨⟨⟨d6, n6, e6⟩, KS⟩, hKS⟩ : ∃ r, zAB (vSP q) CR (d2, n2, e2) = r := ⟨_, rfl⟩
   rw [hKS] at g2 hKl
   simp only at g2 hKl
   have g3 := zDC q hq hul d6 n6 e6 KS (by omega) hs0 hs1 (by omega) (some 0) (fun h => by cases h)
   rw [hKl] at g3
   simp only [hKS] at g3 ⊢
   obtain ⟨m, hm'⟩ : ∃ m, CR.length = m := ⟨_, rfl⟩
   rw [hm'] at g2 g3
   obtain ⟨⟨⟨d3, n3, e3⟩, T⟩, hT⟩ : ∃ r, zCF q KS (d6, n6, e6) = r := ⟨_, rfl⟩
   rw [hT] at g3
   simp only [hT]
   have g4 := zBx q d3 n3 e3
   obtain ⟨⟨d4, n4, e4⟩, hP⟩ : ∃ m, zR (d3, n3, e3) 13 = m := ⟨_, rfl⟩
   simp only [hP] at g4 ⊢
   have g5 := zBp q hq hul d4 n4 e4 hne
   obtain ⟨⟨d5, n5, e5⟩, hU⟩ : ∃ m, zR (d4, n4, e4) (zh q.us q.o).length = m := ⟨_, rfl⟩
   simp only [hU] at g5 ⊢
   obtain ⟨lb, hlb⟩ : ∃ l, (zh q.us q.o).getD n5.toNat 0 = l := ⟨_, rfl⟩
   rw [hlb] at g5
   simp only [hlb]
   simp only [mkV, yE, yσ, yO, show zg [] = [] from rfl, show zj [] = [] from rfl, List.length_nil] at g1 g2 g3 g4 g5 ⊢
   repeat' first | (with_reducible first | refine zA ?_ | refine zB ?_ | refine zF ?_ | refine zJ ?_) | ((first | with_reducible refine zC fun KC J hJ hKC => ?_ | with_reducible refine zY rfl fun KC J hJ hKC => ?_ | (refine hKC _ _ _ _ _ (zT [0] g1 rfl rfl rfl (by decide) (by simp) rfl rfl Lq ?_)) | (refine hKC _ _ _ _ _ (zBb [0] g2 rfl rfl rfl (by decide) (by simp) rfl rfl rfl Lq ?_)) | (refine hKC _ _ _ _ _ (zT [0, 7] g3 rfl rfl rfl (by decide) (by simp) rfl (by simp only [pick, List.map_cons, List.map_nil, zAZ, zL, zW, mOf, idx]; rfl) Lq ?_)) | (refine hKC _ _ _ _ _ (zT [0] g4 rfl rfl rfl (by decide) (by simp) rfl rfl Lq ?_)) | (refine hKC _ _ _ _ _ (zT [0] g5 rfl rfl rfl (by decide) (by simp) rfl rfl Lq ?_)) | (refine hKC _ _ _ _ _ (zD (hcrop) rfl rfl rfl ?_ ?_); (· exact Lq))); simp (maxSteps := 9999999) only [push_cast, seval, ↓reduceIte, zX, zN, zL, pick, mOf, idx, ren, ren2, ren1, ren0, zc, zV, zW]) | ((first | with_reducible refine hJ _ _ ?_ | (with_reducible refine hJ _ _ ?_ ?_; · kernel_rfl)); clear hJ hKC KC J) | ((with_reducible refine zH ?_ ?_); · rfl)
   refine zd ?_
   simp (maxSteps := 9999999) only [push_cast, seval, ↓reduceIte, show Tryz.f188.results = #[(.cell 4 39)] from rfl]
   exact ⟨rfl, by simp only [zDF, hCe]; exact zK _⟩
 ·have hh' : hid q.us q.o s.l = false := by simpa using hh
  rw [hh'] at g1
  have hst : zAR q s (d, n0, e) = ((zAB (vSP q) s.stack (d2, n2, e2)).1, ⟨s.v, s.l, MC.2, MM.2, (zAB (vSP q) s.stack (d2, n2, e2)).2, s.out⟩) := by
   unfold zAR; simp only [hMC, hMM, hM2]; rw [if_neg hh]
  rw [hst]
  clear hst
  rcases Nat.eq_zero_or_pos s.stack.length with h0 | h0
  ·have hC0 : s.stack = [] := List.length_eq_zero_iff.1 h0
   have hfl : ((!hid q.us q.o s.l) && decide (s.stack = [])) = true := by rw [hh', hC0]; rfl
   rw [hfl, hC0]
   have g2 := zBr q d2 e2 f3
   simp only [zAB, List.foldl_nil, mkV, show zg [] = [] from rfl] at g1 g2 ⊢
   repeat' first | (with_reducible first | refine zA ?_ | refine zB ?_ | refine zb ?_ | refine zF ?_) | ((first | with_reducible refine zC fun KC J hJ hKC => ?_ | (refine hKC _ _ _ _ _ (zT [0] g1 rfl rfl rfl (by decide) (by simp) rfl rfl Lq ?_)) | (refine hKC _ _ _ _ _ (zT [0] g2 rfl rfl rfl (by decide) (by simp) rfl rfl Lq ?_))); simp (maxSteps := 9999999) only [push_cast, seval, ↓reduceIte, zX, zN, zL, pick, mOf, idx, ren, ren2, ren1, ren0, zc, zV, zW]) | ((with_reducible refine hJ _ _ ?_); clear hJ hKC KC J) | ((with_reducible refine zG ?_ ?_); · rfl)
   refine zd ?_
   simp (maxSteps := 9999999) only [push_cast, seval, ↓reduceIte, show Tryz.f188.results = #[(.cell 4 39)] from rfl]
   exact ⟨rfl, by simp only [zDF, hCe]; exact zK _⟩
  ·have hfl : ((!hid q.us q.o s.l) && decide (s.stack = [])) = false := by
    rw [hh', decide_eq_false (fun h => by rw [h] at h0; cases h0)]; rfl
   rw [hfl]
   have g2 := zCO q hq d2 n2 e2 f3 s.stack h0 (by omega) hkL
   have hKl := zAl (vSP q) (d2, n2, e2) s.stack
   obtain ⟨⟨⟨d6, n6, e6⟩, KS⟩, hKS⟩ : ∃ r, zAB (vSP q) s.stack (d2, n2, e2) = r := ⟨_, rfl⟩
   rw [hKS] at g2 hKl
   simp only [hKS] at g2 hKl ⊢
   have hlC : (zj KS).length = s.stack.length * 3 := by rw [zy, hKl]
   have hcp : zAh 3 s.stack.length (zj KS) = zg KS := by rw [← hKl]; exact zEd KS
   simp only [mkV] at g1 g2 ⊢
   repeat' first | (refine zU 16 6 rfl (by (simp (maxSteps := 9999999) only [push_cast, seval, ↓reduceIte]) <;> rfl) ?_; simp (maxSteps := 9999999) only [push_cast, seval, ↓reduceIte, zAK, zi, fr3, fr2, fr1, fr0, zq, zn, hlC, hcp, zX, zN, zL, pick, mOf, idx, ren, ren2, ren1, ren0, zc, zV, zW]) | (with_reducible first | refine zA ?_ | refine zB ?_ | refine zb ?_ | refine zF ?_) | ((first | with_reducible refine zC fun KC J hJ hKC => ?_ | (refine hKC _ _ _ _ _ (zT [0] g1 rfl rfl rfl (by decide) (by simp) rfl rfl Lq ?_)) | (refine hKC _ _ _ _ _ (zBb [0] g2 rfl rfl rfl (by decide) (by simp) rfl rfl rfl Lq ?_))); simp (maxSteps := 9999999) only [push_cast, seval, ↓reduceIte, hlC, hcp, zX, zN, zL, pick, mOf, idx, ren, ren2, ren1, ren0, zc, zV, zW]) | ((with_reducible refine hJ _ _ ?_); clear hJ hKC KC J) | ((with_reducible refine zG ?_ ?_); · rfl)
   refine zd ?_
   simp (maxSteps := 9999999) only [push_cast, seval, ↓reduceIte, show Tryz.f188.results = #[(.cell 4 39)] from rfl]
   exact ⟨rfl, by simp only [zDF, hCe]; exact zK _⟩
theorem zME (q : VQ) (hq : VOk q) (hul : q.us.length ≤ 8) (d : Dr) (n0 e : Int) (f1 f2 f3 f4 : Bool) (s : Sta) (hs : VIn q s) (hc0 : s.code = []) (hm0 : s.mem = []) :
  Fn Tryz.prog 188 [.ptr 0 0 0, .agg (zAO f1 f2 f3 f4 s)] [.ent (mkV q d e)] (zDF true true ((!hid q.us q.o s.l) && decide (s.stack = [])) f4 (zAR q s (d, n0, e)).2) [.ent (mkV q (zAR q s (d, n0, e)).1.1 (zAR q s (d, n0, e)).1.2.2)] := by
 obtain ⟨hc, hm, hk, hcL, hmL, hkL, hlL, hs0, hs1, hsk⟩ := hs
 have k1 := zOp f1
 have k2 := zOZ f2
 simp only [zAO]
 have hcr : zo s.code = [] := by rw [hc0]; rfl
 have hcl0 : s.code.length = 0 := by rw [hc0]; rfl
 rw [hcr]
 have hmr : za s.mem = [] := by rw [hm0]; rfl
 rw [hmr]
 refine Fn.of (fn := Tryz.f188) (by kernel_rfl) rfl (by kernel_rfl) ⟨[.ptr 0 0 0, .agg [.v (.int .i64 s.v), .v (.int .i64 s.l), .sl f1 3 ([]), .sl f2 2 ([]), .sl f3 3 (zg s.stack), .sl f4 2 (za s.out)], .v undef, .v undef, .v undef, .v undef, .v undef, .v undef, .v undef, .v undef, .v undef, .v undef, .v undef, .v undef, .v undef, .v undef, .v undef, .v undef, .v undef, .v undef, .v undef, .v undef, .v undef, .v undef, .v undef, .v undef, .v undef, .v undef, .v undef, .v undef, .v undef, .v undef, .v undef, .v undef, .v undef, .v undef, .v undef, .v undef, .v undef, .v undef, .v undef, .v undef, .v undef, .v undef, .v undef, .v undef, .v undef, .v undef, .v undef, .v undef, .v undef, .v undef, .v undef, .v undef, .v undef, .v undef, .v undef, .v undef, .v undef, .v undef, .v undef, .v undef, .v undef, .v undef, .v undef, .v undef, .v undef, .v undef, .v undef, .v undef, .v undef, .v undef, .v undef, .v undef, .v undef, .v undef, .v undef, .v undef, .v undef, .v undef, .v undef, .v undef, .v undef, .v undef, .v undef, .v undef, .v undef, .v undef, .v undef, .v undef, .v undef, .v undef, .v undef, .v undef, .v undef, .v undef, .v undef, .v undef, .v undef, .v undef, .v undef, .v undef, .v undef, .v undef, .v undef, .v undef, .v undef, .v undef, .v undef, .v undef], [.ent (mkV q d e)]⟩ rfl ?_
 simp only [mkV]
 repeat' first | (with_reducible refine zHc 0 ?_) | (with_reducible first | refine zA ?_ | refine zB ?_) | ((first | with_reducible refine zC fun KC J hJ hKC => ?_ | with_reducible refine zY rfl fun KC J hJ hKC => ?_ | (refine hKC _ _ _ _ _ (zD (k1) rfl rfl rfl ?_ ?_); (· exact Lq)) | (refine hKC _ _ _ _ _ (zD (k2) rfl rfl rfl ?_ ?_); (· exact Lq))); simp (maxSteps := 9999999) only [push_cast, seval, ↓reduceIte, zX, zN, zL, pick, mOf, idx, ren, ren2, ren1, ren0, zc, zV, zW]) | ((first | with_reducible refine hJ _ _ ?_ | (with_reducible refine hJ _ _ ?_ ?_; · kernel_rfl)); clear hJ hKC KC J)
 obtain ⟨MC, hMC⟩ : ∃ m, zAB (vIP q) s.code (d, n0, e) = m := ⟨_, rfl⟩
 refine zCz 3 ⟨[.ptr 0 0 0, .any, .any, .ptr 1 0 0, .ptr 2 0 0, .any, .any, .any, .any, .any, .any, .any, .any, .any, .any, .any, .any, .any, .any, .any, .any, .any, .any, .any, .any, .any, .any, .any, .any, .any, .any, .any, .any, .any, .any, .any, .any, .any, .any, .any, .any, .any, .any, .any, .any, .any, .any, .any, .any, .any, .any, .any, .any, .any, .any, .any, .any, .any, .any, .any, .any, .any, .any, .any, .any, .any, .any, .any, .any, .any, .any, .any, .any, .any, .any, .any, .any, .any, .any, .any, .any, .any, .any, .any, .any, .any, .any, .any, .any, .any, .any, .any, .any, .any, .any, .any, .any, .any, .any, .any, .any, .any, .any, .any, .any, .any, .any, .any, .any, .any], [.ent (mkV q MC.1.1 MC.1.2.2), .ent ⟨0, none, 39, [.v (.int .i64 s.v), .v (.int .i64 s.l), .sl true 3 [], .sl true 2 [], .sl f3 3 (zg s.stack), .sl f4 2 (za s.out)], .cells⟩, .ent ⟨0, none, 39, [.v (.int .i64 0), .v (.int .i64 0), .v (.slice none 0 0), .v (.slice none 0 0), .v (.slice none 0 0), .v (.slice none 0 0)], .cells⟩]⟩ (by first | exact ⟨[_, _, _], 0, rfl, rfl⟩ | exact ⟨[_, _, _], 1, rfl, rfl⟩ | exact ⟨[_, _, _], 2, rfl, rfl⟩ | exact ⟨[_, _, _], 3, rfl, rfl⟩ | exact ⟨[_, _, _], 4, rfl, rfl⟩) ?_ ?_
 ·skip
  repeat' first | (with_reducible refine zI ?_)
  refine zw 3 (γ := Unit) (fun _ => ⟨[.ptr 0 0 0, .any, .any, .ptr 1 0 0, .ptr 2 0 0, .any, .any, .any, .any, .any, .any, .any, .any, .any, .any, .any, .any, .any, .any, .any, .sl true 3 [], .v (.int .i64 0), .v (.int .i64 0), .any, .any, .any, .any, .any, .any, .any, .any, .any, .any, .any, .any, .any, .any, .any, .any, .any, .any, .any, .any, .any, .any, .any, .any, .any, .any, .any, .any, .any, .any, .any, .any, .any, .any, .any, .any, .any, .any, .any, .any, .any, .any, .any, .any, .any, .any, .any, .any, .any, .any, .any, .any, .any, .any, .any, .any, .any, .any, .any, .any, .any, .any, .any, .any, .any, .any, .any, .any, .any, .any, .any, .any, .any, .any, .any, .any, .any, .any, .any, .any, .any, .any, .any, .any, .any, .any, .any], [.ent (mkV q (d, n0, e).1 (d, n0, e).2.2), .ent ⟨0, none, 39, [.v (.int .i64 s.v), .v (.int .i64 s.l), .sl true 3 [], .sl true 2 [], .sl f3 3 (zg s.stack), .sl f4 2 (za s.out)], .cells⟩, .ent ⟨0, none, 39, [.v (.int .i64 0), .v (.int .i64 0), .v (.slice none 0 0), .v (.slice none 0 0), .v (.slice none 0 0), .v (.slice none 0 0)], .cells⟩]⟩) (fun _ => 0) () (fun k => rfl) (fun k => ?_) (fun k => rfl) ⟨?_, ?_⟩ ?_
  ·refine zAF ?_
   simp only [mkV, List.map_cons, List.map_nil, zL, zV]
   rfl
  ·exact Lq
  ·simp only [mkV]
   exact Fq
  intro _
  simp only [mkV]
  repeat' first | (with_reducible first | refine zA ?_ | refine zB ?_ | refine zm ?_ | refine zl ?_ | refine zZ ?_) | ((with_reducible refine zC fun KC J hJ hKC => ?_); simp (maxSteps := 9999999) only [push_cast, seval, ↓reduceIte]) | ((with_reducible refine hJ _ _ ?_); clear hJ hKC KC J) | ((with_reducible refine zH ?_ ?_); · rfl)
  rw [hc0] at hMC
  subst hMC
  refine .inl ⟨rfl, [0, 1, 2], by decide, by decide, ?_, ?_⟩
  ·exact Lq
  ·simp only [zAB, List.foldl_nil, pick, List.map_cons, List.map_nil, zAZ, zL, zV, mOf, idx]
   exact LSv
 repeat' first | (with_reducible refine zHc 2 ?_) | (with_reducible first | refine zA ?_ | refine zB ?_) | ((with_reducible refine zC fun KC J hJ hKC => ?_); simp (maxSteps := 9999999) only [push_cast, seval, ↓reduceIte]) | ((with_reducible refine hJ _ _ ?_); clear hJ hKC KC J)
 obtain ⟨MM, hMM⟩ : ∃ m, zAB (vAP q) s.mem MC.1 = m := ⟨_, rfl⟩
 refine zCz 3 ⟨[.ptr 0 0 0, .any, .any, .ptr 1 0 0, .ptr 2 0 0, .any, .any, .any, .any, .any, .any, .any, .any, .any, .any, .any, .any, .any, .any, .any, .any, .any, .any, .any, .any, .any, .any, .any, .any, .any, .any, .any, .any, .any, .any, .any, .any, .any, .any, .any, .any, .any, .any, .any, .any, .any, .any, .any, .any, .any, .any, .any, .any, .any, .any, .any, .any, .any, .any, .any, .any, .any, .any, .any, .any, .any, .any, .any, .any, .any, .any, .any, .any, .any, .any, .any, .any, .any, .any, .any, .any, .any, .any, .any, .any, .any, .any, .any, .any, .any, .any, .any, .any, .any, .any, .any, .any, .any, .any, .any, .any, .any, .any, .any, .any, .any, .any, .any, .any, .any], [.ent (mkV q MM.1.1 MM.1.2.2), .ent ⟨0, none, 39, [.v (.int .i64 s.v), .v (.int .i64 s.l), .sl true 3 [], .sl true 2 [], .sl f3 3 (zg s.stack), .sl f4 2 (za s.out)], .cells⟩, .ent ⟨0, none, 39, [.v (.int .i64 0), .v (.int .i64 0), .v (.slice none 0 0), .v (.slice none 0 0), .v (.slice none 0 0), .v (.slice none 0 0)], .cells⟩]⟩ (by first | exact ⟨[_, _, _], 0, rfl, rfl⟩ | exact ⟨[_, _, _], 1, rfl, rfl⟩ | exact ⟨[_, _, _], 2, rfl, rfl⟩ | exact ⟨[_, _, _], 3, rfl, rfl⟩ | exact ⟨[_, _, _], 4, rfl, rfl⟩) ?_ ?_
 ·skip
  repeat' first | (with_reducible refine zI ?_)
  refine zw 3 (γ := Unit) (fun _ => ⟨[.ptr 0 0 0, .any, .any, .ptr 1 0 0, .ptr 2 0 0, .any, .any, .any, .any, .any, .any, .any, .any, .any, .any, .any, .any, .any, .any, .any, .any, .any, .any, .any, .any, .any, .any, .any, .any, .any, .any, .any, .any, .any, .any, .any, .any, .any, .any, .any, .any, .any, .any, .any, .any, .sl true 2 [], .v (.int .i64 0), .v (.int .i64 0), .any, .any, .any, .any, .any, .any, .any, .any, .any, .any, .any, .any, .any, .any, .any, .any, .any, .any, .any, .any, .any, .any, .any, .any, .any, .any, .any, .any, .any, .any, .any, .any, .any, .any, .any, .any, .any, .any, .any, .any, .any, .any, .any, .any, .any, .any, .any, .any, .any, .any, .any, .any, .any, .any, .any, .any, .any, .any, .any, .any, .any, .any], [.ent (mkV q MC.1.1 MC.1.2.2), .ent ⟨0, none, 39, [.v (.int .i64 s.v), .v (.int .i64 s.l), .sl true 3 [], .sl true 2 [], .sl f3 3 (zg s.stack), .sl f4 2 (za s.out)], .cells⟩, .ent ⟨0, none, 39, [.v (.int .i64 0), .v (.int .i64 0), .v (.slice none 0 0), .v (.slice none 0 0), .v (.slice none 0 0), .v (.slice none 0 0)], .cells⟩]⟩) (fun _ => 0) () (fun k => rfl) (fun k => ?_) (fun k => rfl) ⟨?_, ?_⟩ ?_
  ·refine zAF ?_
   simp only [mkV, List.map_cons, List.map_nil, zL]
   rfl
  ·exact Lq
  ·simp only [mkV]
   exact Fq
  intro _
  simp only [mkV]
  repeat' first | (with_reducible first | refine zA ?_ | refine zB ?_ | refine zm ?_ | refine zl ?_ | refine zZ ?_) | ((with_reducible refine zC fun KC J hJ hKC => ?_); simp (maxSteps := 9999999) only [push_cast, seval, ↓reduceIte]) | ((with_reducible refine hJ _ _ ?_); clear hJ hKC KC J) | ((with_reducible refine zH ?_ ?_); · rfl)
  rw [hm0] at hMM
  subst hMM
  refine .inl ⟨rfl, [0, 1, 2], by decide, by decide, ?_, ?_⟩
  ·exact Lq
  ·simp only [zAB, List.foldl_nil, pick, List.map_cons, List.map_nil, zAZ, zL, mOf, idx]
   exact LSv
 have hCe : zo MC.2 = [] := by rw [← hMC, hc0]; rfl
 have hMe : za MM.2 = [] := by rw [← hMM, hm0]; rfl
 obtain ⟨⟨d2, n2, e2⟩, hM2⟩ : ∃ m, MM.1 = m := ⟨_, rfl⟩
 rw [hM2]
 have g1 := zAw q hq d2 e2 s.l hlL
 by_cases hh : hid q.us q.o s.l = true
 ·rw [hh] at g1
  have hst : zAR q s (d, n0, e) = (let k := zAB (vSP q) (zu q.us q.o s.stack) (d2, n2, e2)
    let t := zCF q k.2 k.1
    let v := zR t.1 13
    let n := zR v (zh q.us q.o).length
    (n, ⟨v.2.1, (zh q.us q.o).getD n.2.1.toNat 0, MC.2, MM.2, t.2, s.out⟩)) := by
   unfold zAR; simp only [hMC, hMM, hM2]; rw [if_pos hh]
  have hfl : ((!hid q.us q.o s.l) && decide (s.stack = [])) = false := by rw [hh]; rfl
  rw [hst, hfl]
  clear hst
  have hcrop := zDf q.f q.g f3 q.ns q.us (q.o : Int) s.stack hq.szs hq.u32 (by omega)
  rw [zCp hq.chk hkL (zAG.2 ⟨by omega, by have := hq.lab; omega⟩), zEs hq.chk hkL (zAG.2 ⟨by omega, by have := hq.lab; omega⟩)] at hcrop
  have hcrL : ∀ x ∈ zu q.us q.o s.stack, zx q.us.length x.2.2 = false := fun x hx => hkL x (List.mem_of_mem_take hx)
  have hcrl : (zu q.us q.o s.stack).length ≤ s.stack.length := by unfold zu; rw [List.length_take]; omega
  obtain ⟨CR, hCR⟩ : ∃ r, zu q.us q.o s.stack = r := ⟨_, rfl⟩
  rw [hCR] at hcrop hcrL hcrl ⊢
  have hKl := zAl (vSP q) (d2, n2, e2) CR
  have hne : zh q.us q.o ≠ [] := fun h => by have := zEX.2 ⟨hlL, hh⟩; rw [h] at this; cases this
  rcases Nat.eq_zero_or_pos CR.length with h0 | h0
  ·have hC0 : CR = [] := List.length_eq_zero_iff.1 h0
   subst hC0
   have g2 := zBr q d2 e2 false
   have g3 := zDC q hq hul d2 n2 e2 [] (by simp) hs0 hs1 (by simpa using hs0) none (fun _ => rfl)
   simp only [zAB, List.foldl_nil] at g3 ⊢
   obtain ⟨⟨⟨d3, n3, e3⟩, T⟩, hT⟩ : ∃ r, zCF q [] (d2, n2, e2) = r := ⟨_, rfl⟩
   rw [hT] at g3
   simp only [hT]
   have g4 := zBx q d3 n3 e3
   obtain ⟨⟨d4, n4, e4⟩, hP⟩ : ∃ m, zR (d3, n3, e3) 13 = m := ⟨_, rfl⟩
   simp only [hP] at g4 ⊢
   have g5 := zBp q hq hul d4 n4 e4 hne
   obtain ⟨⟨d5, n5, e5⟩, hU⟩ : ∃ m, zR (d4, n4, e4) (zh q.us q.o).length = m := ⟨_, rfl⟩
   simp only [hU] at g5 ⊢
   obtain ⟨lb, hlb⟩ : ∃ l, (zh q.us q.o).getD n5.toNat 0 = l := ⟨_, rfl⟩
   rw [hlb] at g5
   simp only [hlb]
   simp only [mkV, yE, yσ, yO, show zg [] = [] from rfl, show zj [] = [] from rfl, List.length_nil] at g1 g2 g3 g4 g5 ⊢
   repeat' first | (with_reducible first | refine zA ?_ | refine zB ?_ | refine zF ?_ | refine zJ ?_) | ((first | with_reducible refine zC fun KC J hJ hKC => ?_ | with_reducible refine zY rfl fun KC J hJ hKC => ?_ | (refine hKC _ _ _ _ _ (zT [0] g1 rfl rfl rfl (by decide) (by simp) rfl rfl Lq ?_)) | (refine hKC _ _ _ _ _ (zT [0] g2 rfl rfl rfl (by decide) (by simp) rfl rfl Lq ?_)) | (refine hKC _ _ _ _ _ (zT [0] g3 rfl rfl rfl (by decide) (by simp) rfl rfl Lq ?_)) | (refine hKC _ _ _ _ _ (zT [0] g4 rfl rfl rfl (by decide) (by simp) rfl rfl Lq ?_)) | (refine hKC _ _ _ _ _ (zT [0] g5 rfl rfl rfl (by decide) (by simp) rfl rfl Lq ?_)) | (refine hKC _ _ _ _ _ (zD (hcrop) rfl rfl rfl ?_ ?_); (· exact Lq))); simp (maxSteps := 9999999) only [push_cast, seval, ↓reduceIte, zX, zN, zL, pick, mOf, idx, ren, ren2, ren1, ren0, zc, zV, zW]) | ((first | with_reducible refine hJ _ _ ?_ | (with_reducible refine hJ _ _ ?_ ?_; · kernel_rfl)); clear hJ hKC KC J) | ((with_reducible refine zH ?_ ?_); · rfl)
   refine zd ?_
   simp (maxSteps := 9999999) only [push_cast, seval, ↓reduceIte, show Tryz.f188.results = #[(.cell 4 39)] from rfl]
   exact ⟨rfl, by simp only [zDF, hCe, hMe]; exact zK _⟩
  ·have g2 := zCO q hq d2 n2 e2 false CR h0 (by omega) hcrL
   obtain ⟨⟨⟨d6, n6, e6⟩, KS⟩, hKS⟩ : ∃ r, zAB (vSP q) CR (d2, n2, e2) = r := ⟨_, rfl⟩
   rw [hKS] at g2 hKl
   simp only at g2 hKl
   have g3 := zDC q hq hul d6 n6 e6 KS (by omega) hs0 hs1 (by omega) (some 0) (fun h => by cases h)
   rw [hKl] at g3
   simp only [hKS] at g3 ⊢
   obtain ⟨m, hm'⟩ : ∃ m, CR.length = m := ⟨_, rfl⟩
   rw [hm'] at g2 g3
   obtain ⟨⟨⟨d3, n3, e3⟩, T⟩, hT⟩ : ∃ r, zCF q KS (d6, n6, e6) = r := ⟨_, rfl⟩
   rw [hT] at g3
   simp only [hT]
   have g4 := zBx q d3 n3 e3
   obtain ⟨⟨d4, n4, e4⟩, hP⟩ : ∃ m, zR (d3, n3, e3) 13 = m := ⟨_, rfl⟩
   simp only [hP] at g4 ⊢
   have g5 := zBp q hq hul d4 n4 e4 hne
   obtain ⟨⟨d5, n5, e5⟩, hU⟩ : ∃ m, zR (d4, n4, e4) (zh q.us q.o).length = m := ⟨_, rfl⟩
   simp only [hU] at g5 ⊢
   obtain ⟨lb, hlb⟩ : ∃ l, (zh q.us q.o).getD n5.toNat 0 = l := ⟨_, rfl⟩
   rw [hlb] at g5
   simp only [hlb]
   simp only [mkV, yE, yσ, yO, show zg [] = [] from rfl, show zj [] = [] from rfl, List.length_nil] at g1 g2 g3 g4 g5 ⊢
   repeat' first | (with_reducible first | refine zA ?_ | refine zB ?_ | refine zF ?_ | refine zJ ?_) | ((first | with_reducible refine zC fun KC J hJ hKC => ?_ | with_reducible refine zY rfl fun KC J hJ hKC => ?_ | (refine hKC _ _ _ _ _ (zT [0] g1 rfl rfl rfl (by decide) (by simp) rfl rfl Lq ?_)) | (refine hKC _ _ _ _ _ (zBb [0] g2 rfl rfl rfl (by decide) (by simp) rfl rfl rfl Lq ?_)) | (refine hKC _ _ _ _ _ (zT [0, 5] g3 rfl rfl rfl (by decide) (by simp) rfl (by simp only [pick, List.map_cons, List.map_nil, zAZ, zL, zW, mOf, idx]; rfl) Lq ?_)) | (refine hKC _ _ _ _ _ (zT [0] g4 rfl rfl rfl (by decide) (by simp) rfl rfl Lq ?_)) | (refine hKC _ _ _ _ _ (zT [0] g5 rfl rfl rfl (by decide) (by simp) rfl rfl Lq ?_)) | (refine hKC _ _ _ _ _ (zD (hcrop) rfl rfl rfl ?_ ?_); (· exact Lq))); simp (maxSteps := 9999999) only [push_cast, seval, ↓reduceIte, zX, zN, zL, pick, mOf, idx, ren, ren2, ren1, ren0, zc, zV, zW]) | ((first | with_reducible refine hJ _ _ ?_ | (with_reducible refine hJ _ _ ?_ ?_; · kernel_rfl)); clear hJ hKC KC J) | ((with_reducible refine zH ?_ ?_); · rfl)
   refine zd ?_
   simp (maxSteps := 9999999) only [push_cast, seval, ↓reduceIte, show Tryz.f188.results = #[(.cell 4 39)] from rfl]
   exact ⟨rfl, by simp only [zDF, hCe, hMe]; exact zK _⟩
 ·have hh' : hid q.us q.o s.l = false := by simpa using hh
  rw [hh'] at g1
  have hst : zAR q s (d, n0, e) = ((zAB (vSP q) s.stack (d2, n2, e2)).1, ⟨s.v, s.l, MC.2, MM.2, (zAB (vSP q) s.stack (d2, n2, e2)).2, s.out⟩) := by
   unfold zAR; simp only [hMC, hMM, hM2]; rw [if_neg hh]
  rw [hst]
  clear hst
  rcases Nat.eq_zero_or_pos s.stack.length with h0 | h0
  ·have hC0 : s.stack = [] := List.length_eq_zero_iff.1 h0
   have hfl : ((!hid q.us q.o s.l) && decide (s.stack = [])) = true := by rw [hh', hC0]; rfl
   rw [hfl, hC0]
   have g2 := zBr q d2 e2 f3
   simp only [zAB, List.foldl_nil, mkV, show zg [] = [] from rfl] at g1 g2 ⊢
   repeat' first | (with_reducible first | refine zA ?_ | refine zB ?_ | refine zb ?_ | refine zF ?_) | ((first | with_reducible refine zC fun KC J hJ hKC => ?_ | (refine hKC _ _ _ _ _ (zT [0] g1 rfl rfl rfl (by decide) (by simp) rfl rfl Lq ?_)) | (refine hKC _ _ _ _ _ (zT [0] g2 rfl rfl rfl (by decide) (by simp) rfl rfl Lq ?_))); simp (maxSteps := 9999999) only [push_cast, seval, ↓reduceIte, zX, zN, zL, pick, mOf, idx, ren, ren2, ren1, ren0, zc, zV, zW]) | ((with_reducible refine hJ _ _ ?_); clear hJ hKC KC J) | ((with_reducible refine zG ?_ ?_); · rfl)
   refine zd ?_
   simp (maxSteps := 9999999) only [push_cast, seval, ↓reduceIte, show Tryz.f188.results = #[(.cell 4 39)] from rfl]
   exact ⟨rfl, by simp only [zDF, hCe, hMe]; exact zK _⟩
  ·have hfl : ((!hid q.us q.o s.l) && decide (s.stack = [])) = false := by
    rw [hh', decide_eq_false (fun h => by rw [h] at h0; cases h0)]; rfl
   rw [hfl]
   have g2 := zCO q hq d2 n2 e2 f3 s.stack h0 (by omega) hkL
   have hKl := zAl (vSP q) (d2, n2, e2) s.stack
   obtain ⟨⟨⟨d6, n6, e6⟩, KS⟩, hKS⟩ : ∃ r, zAB (vSP q) s.stack (d2, n2, e2) = r := ⟨_, rfl⟩
   rw [hKS] at g2 hKl
   simp only [hKS] at g2 hKl ⊢
   have hlC : (zj KS).length = s.stack.length * 3 := by rw [zy, hKl]
   have hcp : zAh 3 s.stack.length (zj KS) = zg KS := by rw [← hKl]; exact zEd KS
   simp only [mkV] at g1 g2 ⊢
   repeat' first | (refine zU 16 4 rfl (by (simp (maxSteps := 9999999) only [push_cast, seval, ↓reduceIte]) <;> rfl) ?_; simp (maxSteps := 9999999) only [push_cast, seval, ↓reduceIte, zAK, zi, fr3, fr2, fr1, fr0, zq, zn, hlC, hcp, zX, zN, zL, pick, mOf, idx, ren, ren2, ren1, ren0, zc, zV, zW]) | (with_reducible first | refine zA ?_ | refine zB ?_ | refine zb ?_ | refine zF ?_) | ((first | with_reducible refine zC fun KC J hJ hKC => ?_ | (refine hKC _ _ _ _ _ (zT [0] g1 rfl rfl rfl (by decide) (by simp) rfl rfl Lq ?_)) | (refine hKC _ _ _ _ _ (zBb [0] g2 rfl rfl rfl (by decide) (by simp) rfl rfl rfl Lq ?_))); simp (maxSteps := 9999999) only [push_cast, seval, ↓reduceIte, hlC, hcp, zX, zN, zL, pick, mOf, idx, ren, ren2, ren1, ren0, zc, zV, zW]) | ((with_reducible refine hJ _ _ ?_); clear hJ hKC KC J) | ((with_reducible refine zG ?_ ?_); · rfl)
   refine zd ?_
   simp (maxSteps := 9999999) only [push_cast, seval, ↓reduceIte, show Tryz.f188.results = #[(.cell 4 39)] from rfl]
   exact ⟨rfl, by simp only [zDF, hCe, hMe]; exact zK _⟩
theorem zTn (q : VQ) (x : Int × Int × Int) : Is (vIP q x) (vIC q.sp q.us q.o x) := by
 unfold vIC
 by_cases h : x.1 = 1 ∧ hid q.us q.o x.2.2 = true
 ·rw [if_pos h]
  exact (Is.bind (zDQ q.sp.val) (g := fun v m => (m, (x.1, v, x.2.2))) fun v => .ret _).ext fun m => by unfold vIP; rw [if_pos h]
 ·rw [if_neg h]
  exact (Is.ret x).ext fun m => by unfold vIP; rw [if_neg h]
theorem zTk (q : VQ) (x : Int × Int) : Is (vAP q x) (vAC q.sp q.us q.o x) := by
 unfold vAC
 by_cases h : hid q.us q.o x.2 = true
 ·rw [if_pos h]
  exact (Is.bind (zDQ q.sp.val) (g := fun v m => (m, (v, x.2))) fun v => .ret _).ext fun m => by unfold vAP; rw [if_pos h]
 ·rw [if_neg h]
  exact (Is.ret x).ext fun m => by unfold vAP; rw [if_neg h]
theorem zLv (q : VQ) (r : Bool) : Is (fun m => (zBa q r m, (zBa q r m).2.1)) (vVC q.sp r) := by
 cases r
 ·exact zDQ _
 ·exact zAs 13
theorem zTj (q : VQ) (x : Bool × Int × Int) : Is (vSP q x) (vSC q.sp q.us q.o x) := by
 unfold vSC
 by_cases h : hid q.us q.o x.2.2 = true
 ·rw [if_pos h]
  exact (Is.bind (zLv q x.1) (g := fun v m => (m, (x.1, v, x.2.2))) fun v => .ret _).ext fun m => by unfold vSP; rw [if_pos h]
 ·rw [if_neg h]
  exact (Is.ret x).ext fun m => by unfold vSP; rw [if_neg h]
def v1R (q : VQ) (r l : Int) (m : M3) : M3 × (Bool × Int × Int) := (zBa q (decide (r = 1) && hid q.us q.o l) m, (decide (r = 1) && hid q.us q.o l, (zBa q (decide (r = 1) && hid q.us q.o l) m).2.1, l))
theorem zUN (q : VQ) (r l : Int) : Is (v1R q r l) ((vVC q.sp (decide (r = 1) && hid q.us q.o l)).bind fun v => .ret (decide (r = 1) && hid q.us q.o l, v, l)) := by
 unfold v1R
 obtain ⟨b, hb⟩ : ∃ b, (decide (r = 1) && hid q.us q.o l) = b := ⟨_, rfl⟩
 rw [hb]
 exact (Is.bind (zLv q b) (g := fun v m => (m, (b, v, l))) fun v => .ret (b, v, l)).ext fun m => rfl
section
attribute [local irreducible] v1R zR zBa vVC zCR hid Cp.bind
theorem zUZ (q : VQ) (r : Int) : Is (fun m => v1R q r (zR m (q.us.length : Int)).2.1 (zR m (q.us.length : Int))) ((zCR (q.us.length : Int)).bind fun l => (vVC q.sp (decide (r = 1) && hid q.us q.o l)).bind fun v => .ret (decide (r = 1) && hid q.us q.o l, v, l)) :=
 Is.bind (f := fun m => (zR m (q.us.length : Int), (zR m (q.us.length : Int)).2.1)) (zAs (q.us.length : Int)) (g := v1R q r) (zUN q r)
theorem zUB (q : VQ) : Is (fun m => v1R q (zR m 2).2.1 (zR (zR m 2) (q.us.length : Int)).2.1 (zR (zR m 2) (q.us.length : Int))) ((zCR 2).bind fun r => (zCR (q.us.length : Int)).bind fun l => (vVC q.sp (decide (r = 1) && hid q.us q.o l)).bind fun v => .ret (decide (r = 1) && hid q.us q.o l, v, l)) :=
 Is.bind (f := fun m => (zR m 2, (zR m 2).2.1)) (zAs 2) (g := fun r m => v1R q r (zR m (q.us.length : Int)).2.1 (zR m (q.us.length : Int))) (zUZ q)
end
theorem zUx (q : VQ) : Is (v1P q) (v1C q.sp q.us q.o) := by
 have h2 : (fun m => v1R q (zR m 2).2.1 (zR (zR m 2) q.us.length).2.1 (zR (zR m 2) q.us.length)) = v1P q := by
  funext m
  simp only [v1P, v1R]
 rw [← h2]
 exact zUB q
theorem zTJ (q : VQ) (k : List (Bool × Int × Int)) : Is (zCF q k) (zMh q.sp q.us q.o k) :=
 (Is.bind (zAs (q.sp.stack - (k.length : Int) + 1)) (g := fun n m => ((ze (v1P q) n.toNat m).1, k ++ (ze (v1P q) n.toNat m).2)) fun n =>
  Is.bind ((zUx q).times n.toNat) (g := fun t m => (m, k ++ t)) fun t => .ret _).ext fun m => rfl
theorem zLq (q : VQ) (s : Sta) : Is (zAR q s) (zEg q.sp q.us q.o s) := by
 unfold zEg
 by_cases h : hid q.us q.o s.l = true
 ·simp only [if_pos h]
  exact (Is.bind (zGt (zTn q) s.code) (g := fun c m => (fun a : M3 × List (Int × Int) =>
    (fun k : M3 × List (Bool × Int × Int) => (fun t : M3 × List (Bool × Int × Int) => (zR (zR t.1 13) (zh q.us q.o).length, (⟨(zR t.1 13).2.1, (zh q.us q.o).getD (zR (zR t.1 13) (zh q.us q.o).length).2.1.toNat 0, c, a.2, t.2, s.out⟩ : Sta))) (zCF q k.2 k.1)) (zAB (vSP q) (zu q.us q.o s.stack) a.1)) (zAB (vAP q) s.mem m)) fun c =>
   Is.bind (zGt (zTk q) s.mem) (g := fun a m => (fun k : M3 × List (Bool × Int × Int) => (fun t : M3 × List (Bool × Int × Int) => (zR (zR t.1 13) (zh q.us q.o).length, (⟨(zR t.1 13).2.1, (zh q.us q.o).getD (zR (zR t.1 13) (zh q.us q.o).length).2.1.toNat 0, c, a, t.2, s.out⟩ : Sta))) (zCF q k.2 k.1)) (zAB (vSP q) (zu q.us q.o s.stack) m)) fun a =>
   Is.bind (zGt (zTj q) (zu q.us q.o s.stack)) (g := fun k m => (fun t : M3 × List (Bool × Int × Int) => (zR (zR t.1 13) (zh q.us q.o).length, (⟨(zR t.1 13).2.1, (zh q.us q.o).getD (zR (zR t.1 13) (zh q.us q.o).length).2.1.toNat 0, c, a, t.2, s.out⟩ : Sta))) (zCF q k m)) fun k =>
   Is.bind (zTJ q k) (g := fun t m => (zR (zR m 13) (zh q.us q.o).length, (⟨(zR m 13).2.1, (zh q.us q.o).getD (zR (zR m 13) (zh q.us q.o).length).2.1.toNat 0, c, a, t, s.out⟩ : Sta))) fun t =>
   Is.bind (zAs 13) (g := fun v m => (zR m (zh q.us q.o).length, (⟨v, (zh q.us q.o).getD (zR m (zh q.us q.o).length).2.1.toNat 0, c, a, t, s.out⟩ : Sta))) fun v =>
   Is.bind (zAs (zh q.us q.o).length) (g := fun n m => (m, (⟨v, (zh q.us q.o).getD n.toNat 0, c, a, t, s.out⟩ : Sta))) fun n => .ret _).ext fun m => by
   unfold zAR; rw [if_pos h]
 ·simp only [if_neg h]
  exact (Is.bind (zGt (zTn q) s.code) (g := fun c m => ((zAB (vSP q) s.stack (zAB (vAP q) s.mem m).1).1, (⟨s.v, s.l, c, (zAB (vAP q) s.mem m).2, (zAB (vSP q) s.stack (zAB (vAP q) s.mem m).1).2, s.out⟩ : Sta))) fun c =>
   Is.bind (zGt (zTk q) s.mem) (g := fun a m => ((zAB (vSP q) s.stack m).1, (⟨s.v, s.l, c, a, (zAB (vSP q) s.stack m).2, s.out⟩ : Sta))) fun a =>
   Is.bind (zGt (zTj q) s.stack) (g := fun k m => (m, (⟨s.v, s.l, c, a, k, s.out⟩ : Sta))) fun k => .ret _).ext fun m => by
   unfold zAR; rw [if_neg h]
theorem zGJ (a b c f4 : Bool) (s : Sta) : Rle (zDF a b c f4 s) (.agg (zAO false false false f4 s)) :=
 Rle.agg (.cons (Rle.refl _) (.cons (Rle.refl _) (.cons (zIA _ _ _) (.cons (zIA _ _ _) (.cons (zIA _ _ _) (.cons (Rle.refl _) .nil))))))
theorem zPs (q : VQ) (hq : VOk q) (hul : q.us.length ≤ 8) (d : Dr) (n0 e : Int) (f1 f2 f3 f4 : Bool) (s : Sta) (hs : VIn q s) :
  Fn Tryz.prog 188 [.ptr 0 0 0, .agg (zAO f1 f2 f3 f4 s)] [.ent (mkV q d e)] (.agg (zAO false false false f4 (zAR q s (d, n0, e)).2)) [.ent (mkV q (zAR q s (d, n0, e)).1.1 (zAR q s (d, n0, e)).1.2.2)] := by
 rcases Nat.eq_zero_or_pos s.code.length with h1 | h1 <;> rcases Nat.eq_zero_or_pos s.mem.length with h2 | h2
 ·exact (zME q hq hul d n0 e f1 f2 f3 f4 s hs (List.length_eq_zero_iff.1 h1) (List.length_eq_zero_iff.1 h2)).post (zGJ _ _ _ _ _)
 ·exact (zMd q hq hul d n0 e f1 f2 f3 f4 s hs (List.length_eq_zero_iff.1 h1) h2).post (zGJ _ _ _ _ _)
 ·exact (zMp q hq hul d n0 e f1 f2 f3 f4 s hs h1 (List.length_eq_zero_iff.1 h2)).post (zGJ _ _ _ _ _)
 ·exact (zMr q hq hul d n0 e f1 f2 f3 f4 s hs h1 h2).post (zGJ _ _ _ _ _)
theorem zNM (h : Bool) (sp : Sp) (v : Int) (h0 : 0 ≤ sp.val) (h1 : sp.val ≤ 20) : Fn Tryz.prog 94 [.v (.int .i64 v), .fad (spF h sp)] [] (.v (.bool (!inB (-sp.val) sp.val v))) [] := by
 have hw : IntKind.i64.wrap (0 - sp.val) = -sp.val := by rw [zBk (by omega) (by omega)]; omega
 obtain ⟨x, hx⟩ : ∃ x, decide (v < -sp.val) = x := ⟨_, rfl⟩
 have he : (!inB (-sp.val) sp.val v) = (x || decide (sp.val < v)) := by
  rw [← hx, Bool.eq_iff_iff]; first | (simp [inB]; done) | (simp [inB]; omega)
 rw [he]
 simp only [spF]
 refine Fn.of (fn := Tryz.f94) (by kernel_rfl) rfl (by kernel_rfl) ⟨[.v (.int .i64 v), .fad [.v (.int .i64 sp.code), .v (.int .i64 sp.mem), .v (.int .i64 sp.stack), .v (.int .i64 sp.val), .sl h 1 (zM sp.ws)], .v undef, .v undef, .v undef, .v undef, .v undef, .v undef, .v undef, .v undef, .v undef, .v undef, .v undef, .v undef, .v undef], []⟩ rfl ?_
 cases x
 all_goals
  repeat' first | (with_reducible first | refine zA ?_ | refine zB ?_ | refine zF ?_) | ((with_reducible refine zC fun KC J hJ hKC => ?_); simp (maxSteps := 9999999) only [push_cast, seval, ↓reduceIte, hw, hx, undef]) | ((with_reducible refine hJ _ _ ?_); clear hJ hKC KC J)
  refine zE ?_
  simp (maxSteps := 9999999) only [push_cast, seval, ↓reduceIte, show Tryz.f94.results = #[(.tmp 3)] from rfl]
  exact Lq
theorem zTU (h : Bool) (sp : Sp) (x : Int × Int × Int) (h0 : 0 ≤ sp.val) (h1 : sp.val ≤ 20) (hx : 0 ≤ x.1) (hl : x.1 < sp.ws.length) (hw : sp.ws.length ≤ 1000) :
  Fn Tryz.prog 95 [.agg [.v (.int .i64 x.1), .v (.int .i64 x.2.1), .v (.int .i64 x.2.2)], .fad (spF h sp), .fad [.fn 94 [.fad (spF h sp)]]] [] (.v (.bool (!zBS sp x))) [] := by
 obtain ⟨o, v, l⟩ := x
 simp only at hx hl ⊢
 obtain ⟨k, rfl⟩ : ∃ k : Nat, o = k := ⟨o.toNat, by omega⟩
 have h2 := zNM h sp v h0 h1
 have hk : sp.ws[k]? = some sp.ws[k] := List.getElem?_eq_getElem (by omega)
 obtain ⟨w, hw0⟩ : ∃ w, sp.ws[k] = w := ⟨_, rfl⟩
 rw [hw0] at hk
 have hg : sp.ws.getD k 0 = w := by rw [List.getD_eq_getElem?_getD, hk]; rfl
 have hi : zBS sp ((k : Int), v, l) = (!(w == 0) && (!((k : Int) == 1) || inB (-sp.val) sp.val v)) := by
  have hde : ∀ a b : Int, decide (a = b) = (a == b) := fun a b => by rw [Bool.eq_iff_iff]; simp
  simp only [zBS, Int.toNat_natCast, hde]
  rw [hg]
 rw [hi]
 obtain ⟨a, ha⟩ : ∃ a, (w == 0) = a := ⟨_, rfl⟩
 obtain ⟨b, hb⟩ : ∃ b, ((k : Int) == 1) = b := ⟨_, rfl⟩
 obtain ⟨c, hc⟩ : ∃ c, inB (-sp.val) sp.val v = c := ⟨_, rfl⟩
 rw [hc] at h2 ⊢
 rw [ha, hb]
 simp only [spF] at h2 ⊢
 refine Fn.of (fn := Tryz.f95) (by kernel_rfl) rfl (by kernel_rfl) ⟨[.agg [.v (.int .i64 (k : Int)), .v (.int .i64 v), .v (.int .i64 l)], .fad [.v (.int .i64 sp.code), .v (.int .i64 sp.mem), .v (.int .i64 sp.stack), .v (.int .i64 sp.val), .sl h 1 (zM sp.ws)], .fad [.fn 94 [.fad [.v (.int .i64 sp.code), .v (.int .i64 sp.mem), .v (.int .i64 sp.stack), .v (.int .i64 sp.val), .sl h 1 (zM sp.ws)]]], .v undef, .v undef, .v undef, .v undef, .v undef, .v undef, .v undef, .v undef, .v undef, .v undef, .v undef, .v undef, .v undef, .v undef, .v undef, .v undef, .v undef, .v undef, .v undef, .v undef], []⟩ rfl ?_
 cases a
 case true =>
  repeat' first | (with_reducible first | refine zA ?_ | refine zB ?_ | refine zF ?_) | ((with_reducible refine And.intro ?_ ?_); · exact Sq) | ((with_reducible refine zC fun KC J hJ hKC => ?_); simp (maxSteps := 9999999) only [push_cast, seval, ↓reduceIte, zAV hk, ha, undef]) | ((with_reducible refine hJ _ _ ?_); clear hJ hKC KC J)
  refine zE ?_
  simp (maxSteps := 9999999) only [push_cast, seval, ↓reduceIte, show Tryz.f95.results = #[(.tmp 4)] from rfl]
  exact Lq
 cases b
 all_goals
  repeat' first | (with_reducible first | refine zA ?_ | refine zB ?_ | refine zF ?_) | ((with_reducible refine And.intro ?_ ?_); · exact Sq) | ((first | with_reducible refine zC fun KC J hJ hKC => ?_ | (refine hKC _ _ _ _ _ (zD (h2) rfl rfl rfl ?_ ?_); (· exact Lq))); simp (maxSteps := 9999999) only [push_cast, seval, ↓reduceIte, zAV hk, ha, hb, undef]) | ((with_reducible refine hJ _ _ ?_); clear hJ hKC KC J)
  refine zE ?_
  simp (maxSteps := 9999999) only [push_cast, seval, ↓reduceIte, show Tryz.f95.results = #[(.tmp 4)] from rfl]
  exact Lq
def zMX (sp : Sp) (a : Int × Int) : Bool := inB (-sp.val) sp.val a.1
def zMD (sp : Sp) (x : Bool × Int × Int) : Bool := x.1 || inB (-sp.val) sp.val x.2.1
theorem zSs (h : Bool) (sp : Sp) (x : Int × Int) (h0 : 0 ≤ sp.val) (h1 : sp.val ≤ 20) : Fn Tryz.prog 99 [.agg [.v (.int .i64 x.1), .v (.int .i64 x.2)], .fad [.fn 94 [.fad (spF h sp)]]] [] (.v (.bool (!zMX sp x))) [] := by
 have h2 := zNM h sp x.1 h0 h1
 unfold zMX
 simp only [spF] at h2 ⊢
 refine Fn.of (fn := Tryz.f99) (by kernel_rfl) rfl (by kernel_rfl) ⟨[.agg [.v (.int .i64 x.1), .v (.int .i64 x.2)], .fad [.fn 94 [.fad [.v (.int .i64 sp.code), .v (.int .i64 sp.mem), .v (.int .i64 sp.stack), .v (.int .i64 sp.val), .sl h 1 (zM sp.ws)]]], .v undef, .v undef, .v undef, .v undef, .v undef, .v undef], []⟩ rfl ?_
 repeat' first | (with_reducible first | refine zA ?_ | refine zB ?_ | refine zF ?_) | ((first | with_reducible refine zC fun KC J hJ hKC => ?_ | (refine hKC _ _ _ _ _ (zD (h2) rfl rfl rfl ?_ ?_); (· exact Lq))); simp (maxSteps := 9999999) only [push_cast, seval, ↓reduceIte]) | ((with_reducible refine hJ _ _ ?_); clear hJ hKC KC J)
 refine zE ?_
 simp (maxSteps := 9999999) only [push_cast, seval, ↓reduceIte, show Tryz.f99.results = #[(.tmp 3)] from rfl]
 exact Lq
theorem zTY (h : Bool) (sp : Sp) (x : Bool × Int × Int) (h0 : 0 ≤ sp.val) (h1 : sp.val ≤ 20) : Fn Tryz.prog 101 [.agg [.v (.bool x.1), .v (.int .i64 x.2.1), .v (.int .i64 x.2.2)], .fad [.fn 94 [.fad (spF h sp)]]] [] (.v (.bool (!zMD sp x))) [] := by
 obtain ⟨r, v, l⟩ := x
 have h2 := zNM h sp v h0 h1
 simp only [zMD, spF] at h2 ⊢
 cases r
 ·refine Fn.of (fn := Tryz.f101) (by kernel_rfl) rfl (by kernel_rfl) ⟨[.agg [.v (.bool false), .v (.int .i64 v), .v (.int .i64 l)], .fad [.fn 94 [.fad [.v (.int .i64 sp.code), .v (.int .i64 sp.mem), .v (.int .i64 sp.stack), .v (.int .i64 sp.val), .sl h 1 (zM sp.ws)]]], .v undef, .v undef, .v undef, .v undef, .v undef, .v undef, .v undef, .v undef, .v undef, .v undef, .v undef], []⟩ rfl ?_
  repeat' first | (with_reducible first | refine zA ?_ | refine zB ?_ | refine zF ?_) | ((first | with_reducible refine zC fun KC J hJ hKC => ?_ | (refine hKC _ _ _ _ _ (zD (h2) rfl rfl rfl ?_ ?_); (· exact Lq))); simp (maxSteps := 9999999) only [push_cast, seval, ↓reduceIte, undef]) | ((with_reducible refine hJ _ _ ?_); clear hJ hKC KC J)
  refine zE ?_
  simp (maxSteps := 9999999) only [push_cast, seval, ↓reduceIte, show Tryz.f101.results = #[(.tmp 3)] from rfl]
  exact Lq
 ·refine Fn.of (fn := Tryz.f101) (by kernel_rfl) rfl (by kernel_rfl) ⟨[.agg [.v (.bool true), .v (.int .i64 v), .v (.int .i64 l)], .fad [.fn 94 [.fad [.v (.int .i64 sp.code), .v (.int .i64 sp.mem), .v (.int .i64 sp.stack), .v (.int .i64 sp.val), .sl h 1 (zM sp.ws)]]], .v undef, .v undef, .v undef, .v undef, .v undef, .v undef, .v undef, .v undef, .v undef, .v undef, .v undef], []⟩ rfl ?_
  repeat' first | (with_reducible first | refine zA ?_ | refine zB ?_ | refine zF ?_) | ((with_reducible refine zC fun KC J hJ hKC => ?_); simp (maxSteps := 9999999) only [push_cast, seval, ↓reduceIte, undef]) | ((with_reducible refine hJ _ _ ?_); clear hJ hKC KC J)
  refine zE ?_
  simp (maxSteps := 9999999) only [push_cast, seval, ↓reduceIte, show Tryz.f101.results = #[(.tmp 3)] from rfl]
  exact Lq
theorem zTV (n : Nat) (sp : Sp) (s : Sta) : zDx n sp s = (zIl n s && (decide ((s.code.length : Int) ≤ sp.code) && (decide ((s.mem.length : Int) ≤ sp.mem) && (decide ((s.stack.length : Int) ≤ sp.stack) && (decide (s.out.length = 0) &&
  ((!s.code.any fun x => !zBS sp x) && ((!s.mem.any fun x => !zMX sp x) && (!s.stack.any fun x => !zMD sp x)))))))) := by
 simp only [zGG]; rfl
theorem zPt {n : Nat} {x : Int × Int × Int} (h : zBR n x = true) : 0 ≤ x.1 ∧ x.1 < 13 := by
 unfold zBR at h
 split at h
 ·omega
 ·simp only [Bool.and_eq_true, zAb] at h; omega
def zSy (ns : List ByteArray) (us : List Nat) (sp : Sp) (s : Sta) : Bool := decide (zCs ns us sp = 0) && zDx us.length sp s
set_option maxHeartbeats 16000000 in
theorem zKI (f g h : Bool) (ns : List ByteArray) (us : List Nat) (sp : Sp) (s : Sta) (hs : Szs ns) (hu : U32 us) (hw : sp.ws.length ≤ 1000) (hl : Sml s) :
  Fn Tryz.prog 48 [.agg [.sl f 1 (zS ns), .sl g 1 (zQ us)], .agg (spF h sp), .agg (zAO false false false false s)] [] (.tup [.v (.bool (zSy ns us sp s)), .v (.int .i64 (zCs ns us sp))]) [] := by
 have h1 := zKR f g h ns us sp hs hu hw
 unfold zSy
 obtain ⟨m, hm⟩ : ∃ m, zCs ns us sp = m := ⟨_, rfl⟩
 rw [hm] at h1 ⊢
 by_cases h0 : m = 0
 case neg =>
  have h0' : (m != 0) = true := by simpa using h0
  rw [decide_eq_false h0, Bool.false_and]
  simp only [spF, zAO] at h1 ⊢
  refine Fn.of (fn := Tryz.f48) (by kernel_rfl) rfl (by kernel_rfl) ⟨[.agg [.sl f 1 (zS ns), .sl g 1 (zQ us)], .agg [.v (.int .i64 sp.code), .v (.int .i64 sp.mem), .v (.int .i64 sp.stack), .v (.int .i64 sp.val), .sl h 1 (zM sp.ws)], .agg [.v (.int .i64 s.v), .v (.int .i64 s.l), .sl false 3 (zo s.code), .sl false 2 (za s.mem), .sl false 3 (zg s.stack), .sl false 2 (za s.out)], .v undef, .v undef, .v undef, .v undef, .v undef, .v undef, .v undef, .v undef, .v undef, .v undef, .v undef, .v undef, .v undef, .v undef, .v undef, .v undef, .v undef, .v undef, .v undef, .v undef, .v undef, .v undef, .v undef, .v undef, .v undef, .v undef, .v undef, .v undef, .v undef, .v undef, .v undef, .v undef, .v undef, .v undef, .v undef, .v undef, .v undef, .v undef, .v undef, .v undef, .v undef, .v undef, .v undef, .v undef, .v undef, .v undef, .v undef, .v undef, .v undef, .v undef, .v undef, .v undef, .v undef, .v undef, .v undef, .v undef, .v undef, .v undef, .v undef, .v undef, .v undef, .v undef, .v undef, .v undef, .v undef, .v undef, .v undef, .v undef, .v undef, .v undef, .v undef, .v undef], []⟩ rfl ?_
  repeat' first | (with_reducible first | refine zA ?_ | refine zB ?_ | refine zb ?_ | refine zF ?_) | ((first | with_reducible refine zC fun KC J hJ hKC => ?_ | (refine hKC _ _ _ _ _ (zD (h1) rfl rfl rfl ?_ ?_); (· exact Lq))); simp (maxSteps := 9999999) only [push_cast, seval, ↓reduceIte, h0', undef]) | ((with_reducible refine hJ _ _ ?_); clear hJ hKC KC J) | ((with_reducible refine zG ?_ ?_); · rfl)
  refine zE ?_
  simp (maxSteps := 9999999) only [push_cast, seval, ↓reduceIte, show Tryz.f48.results = #[(.tmp 6), (.tmp 7)] from rfl]
  exact Lq
 subst h0
 rw [decide_eq_true rfl, Bool.true_and]
 have hok : zAA ns us = 0 ∧ SpOk sp := by
  unfold zCs at hm
  split at hm
  ·rename_i hc
   split at hm
   ·rename_i hsp; exact ⟨hc, zHs.1 hsp⟩
   ·cases hm
  ·rename_i hc; exact absurd hm hc
 obtain ⟨hc, hsp⟩ := hok
 have h2 := zOJ f g ns us s hs hu hc hl
 obtain ⟨l1, l2, l3, l4⟩ := hl
 have hst : zIl us.length s = true → ∀ x ∈ s.code, 0 ≤ x.1 ∧ x.1 < sp.ws.length := fun hh x hx => by
  simp only [zIl, zFd, Bool.and_eq_true, List.all_eq_true] at hh
  have := zPt (hh.1.1 x hx)
  rw [hsp.wl]; exact this
 have h3 := fun hh => zEA false s.code 95 [.fad (spF h sp), .fad [.fn 94 [.fad (spF h sp)]]] (fun x => !zBS sp x) l1 rfl (fun x hx => zTU h sp x hsp.v0 hsp.v1 (hst hh x hx).1 (hst hh x hx).2 hw)
 have h4 := zCr false s.mem 99 [.fad [.fn 94 [.fad (spF h sp)]]] (fun x => !zMX sp x) l2 rfl (fun x _ => zSs h sp x hsp.v0 hsp.v1)
 have h5 := zEE false s.stack 101 [.fad [.fn 94 [.fad (spF h sp)]]] (fun x => !zMD sp x) l3 rfl (fun x _ => zTY h sp x hsp.v0 hsp.v1)
 rw [zTV]
 obtain ⟨c1, hc1⟩ : ∃ x, zIl us.length s = x := ⟨_, rfl⟩
 obtain ⟨d1, hd1⟩ : ∃ x, decide ((s.code.length : Int) ≤ sp.code) = x := ⟨_, rfl⟩
 obtain ⟨d2, hd2⟩ : ∃ x, decide ((s.mem.length : Int) ≤ sp.mem) = x := ⟨_, rfl⟩
 obtain ⟨d3, hd3⟩ : ∃ x, decide ((s.stack.length : Int) ≤ sp.stack) = x := ⟨_, rfl⟩
 obtain ⟨d4, hd4⟩ : ∃ x, decide (s.out.length = 0) = x := ⟨_, rfl⟩
 have hd4' : ((s.out.length : Int) == 0) = d4 := by rw [← hd4, Bool.eq_iff_iff]; simp
 obtain ⟨c3, hc3⟩ : ∃ x, (s.code.any fun x => !zBS sp x) = x := ⟨_, rfl⟩
 obtain ⟨c4, hc4⟩ : ∃ x, (s.mem.any fun x => !zMX sp x) = x := ⟨_, rfl⟩
 obtain ⟨c5, hc5⟩ : ∃ x, (s.stack.any fun x => !zMD sp x) = x := ⟨_, rfl⟩
 rw [hc1] at h2 h3 ⊢
 rw [hc3] at h3 ⊢
 rw [hc4] at h4 ⊢
 rw [hc5] at h5 ⊢
 rw [hd1, hd2, hd3, hd4]
 clear hst
 simp only [spF, zAO] at h1 h2 h3 h4 h5 ⊢
 refine Fn.of (fn := Tryz.f48) (by kernel_rfl) rfl (by kernel_rfl) ⟨[.agg [.sl f 1 (zS ns), .sl g 1 (zQ us)], .agg [.v (.int .i64 sp.code), .v (.int .i64 sp.mem), .v (.int .i64 sp.stack), .v (.int .i64 sp.val), .sl h 1 (zM sp.ws)], .agg [.v (.int .i64 s.v), .v (.int .i64 s.l), .sl false 3 (zo s.code), .sl false 2 (za s.mem), .sl false 3 (zg s.stack), .sl false 2 (za s.out)], .v undef, .v undef, .v undef, .v undef, .v undef, .v undef, .v undef, .v undef, .v undef, .v undef, .v undef, .v undef, .v undef, .v undef, .v undef, .v undef, .v undef, .v undef, .v undef, .v undef, .v undef, .v undef, .v undef, .v undef, .v undef, .v undef, .v undef, .v undef, .v undef, .v undef, .v undef, .v undef, .v undef, .v undef, .v undef, .v undef, .v undef, .v undef, .v undef, .v undef, .v undef, .v undef, .v undef, .v undef, .v undef, .v undef, .v undef, .v undef, .v undef, .v undef, .v undef, .v undef, .v undef, .v undef, .v undef, .v undef, .v undef, .v undef, .v undef, .v undef, .v undef, .v undef, .v undef, .v undef, .v undef, .v undef, .v undef, .v undef, .v undef, .v undef, .v undef, .v undef], []⟩ rfl ?_
 cases d1
 case false =>
  cases c1
  all_goals
   repeat' first | (refine zU 4 1 rfl (by (simp (maxSteps := 9999999) only [push_cast, seval, ↓reduceIte]) <;> rfl) ?_; simp (maxSteps := 9999999) only [push_cast, seval, ↓reduceIte, zAK, zi, fr3, fr2, fr1, fr0, zq, zn, hd1, hd2, hd3, hd4', undef]) | (refine zU 5 4 rfl (by (simp (maxSteps := 9999999) only [push_cast, seval, ↓reduceIte]) <;> rfl) ?_; simp (maxSteps := 9999999) only [push_cast, seval, ↓reduceIte, zAK, zi, fr3, fr2, fr1, fr0, zq, zn, hd1, hd2, hd3, hd4', undef]) | (with_reducible first | refine zA ?_ | refine zB ?_ | refine zF ?_ | refine zJ ?_) | ((first | with_reducible refine zC fun KC J hJ hKC => ?_ | (refine hKC _ _ _ _ _ (zD (h1) rfl rfl rfl ?_ ?_); (· exact Lq)) | (refine hKC _ _ _ _ _ (zD (h2) rfl rfl rfl ?_ ?_); (· exact Lq))); simp (maxSteps := 9999999) only [push_cast, seval, ↓reduceIte, hd1, hd2, hd3, hd4', undef]) | ((with_reducible refine hJ _ _ ?_); clear hJ hKC KC J) | ((with_reducible refine zH ?_ ?_); · rfl)
   refine zE ?_
   simp (maxSteps := 9999999) only [push_cast, seval, ↓reduceIte, show Tryz.f48.results = #[(.tmp 6), (.tmp 7)] from rfl]
   exact Lq
 cases d2
 case false =>
  cases c1
  all_goals
   repeat' first | (refine zU 4 1 rfl (by (simp (maxSteps := 9999999) only [push_cast, seval, ↓reduceIte]) <;> rfl) ?_; simp (maxSteps := 9999999) only [push_cast, seval, ↓reduceIte, zAK, zi, fr3, fr2, fr1, fr0, zq, zn, hd1, hd2, hd3, hd4', undef]) | (refine zU 5 4 rfl (by (simp (maxSteps := 9999999) only [push_cast, seval, ↓reduceIte]) <;> rfl) ?_; simp (maxSteps := 9999999) only [push_cast, seval, ↓reduceIte, zAK, zi, fr3, fr2, fr1, fr0, zq, zn, hd1, hd2, hd3, hd4', undef]) | (with_reducible first | refine zA ?_ | refine zB ?_ | refine zF ?_ | refine zJ ?_) | ((first | with_reducible refine zC fun KC J hJ hKC => ?_ | (refine hKC _ _ _ _ _ (zD (h1) rfl rfl rfl ?_ ?_); (· exact Lq)) | (refine hKC _ _ _ _ _ (zD (h2) rfl rfl rfl ?_ ?_); (· exact Lq))); simp (maxSteps := 9999999) only [push_cast, seval, ↓reduceIte, hd1, hd2, hd3, hd4', undef]) | ((with_reducible refine hJ _ _ ?_); clear hJ hKC KC J) | ((with_reducible refine zH ?_ ?_); · rfl)
   refine zE ?_
   simp (maxSteps := 9999999) only [push_cast, seval, ↓reduceIte, show Tryz.f48.results = #[(.tmp 6), (.tmp 7)] from rfl]
   exact Lq
 cases d3
 case false =>
  cases c1
  all_goals
   repeat' first | (refine zU 4 1 rfl (by (simp (maxSteps := 9999999) only [push_cast, seval, ↓reduceIte]) <;> rfl) ?_; simp (maxSteps := 9999999) only [push_cast, seval, ↓reduceIte, zAK, zi, fr3, fr2, fr1, fr0, zq, zn, hd1, hd2, hd3, hd4', undef]) | (refine zU 5 4 rfl (by (simp (maxSteps := 9999999) only [push_cast, seval, ↓reduceIte]) <;> rfl) ?_; simp (maxSteps := 9999999) only [push_cast, seval, ↓reduceIte, zAK, zi, fr3, fr2, fr1, fr0, zq, zn, hd1, hd2, hd3, hd4', undef]) | (with_reducible first | refine zA ?_ | refine zB ?_ | refine zF ?_ | refine zJ ?_) | ((first | with_reducible refine zC fun KC J hJ hKC => ?_ | (refine hKC _ _ _ _ _ (zD (h1) rfl rfl rfl ?_ ?_); (· exact Lq)) | (refine hKC _ _ _ _ _ (zD (h2) rfl rfl rfl ?_ ?_); (· exact Lq))); simp (maxSteps := 9999999) only [push_cast, seval, ↓reduceIte, hd1, hd2, hd3, hd4', undef]) | ((with_reducible refine hJ _ _ ?_); clear hJ hKC KC J) | ((with_reducible refine zH ?_ ?_); · rfl)
   refine zE ?_
   simp (maxSteps := 9999999) only [push_cast, seval, ↓reduceIte, show Tryz.f48.results = #[(.tmp 6), (.tmp 7)] from rfl]
   exact Lq
 cases c1
 case false =>
  repeat' first | (refine zU 4 1 rfl (by (simp (maxSteps := 9999999) only [push_cast, seval, ↓reduceIte]) <;> rfl) ?_; simp (maxSteps := 9999999) only [push_cast, seval, ↓reduceIte, zAK, zi, fr3, fr2, fr1, fr0, zq, zn, hd1, hd2, hd3, hd4', undef]) | (refine zU 5 4 rfl (by (simp (maxSteps := 9999999) only [push_cast, seval, ↓reduceIte]) <;> rfl) ?_; simp (maxSteps := 9999999) only [push_cast, seval, ↓reduceIte, zAK, zi, fr3, fr2, fr1, fr0, zq, zn, hd1, hd2, hd3, hd4', undef]) | (with_reducible first | refine zA ?_ | refine zB ?_ | refine zF ?_ | refine zJ ?_) | ((first | with_reducible refine zC fun KC J hJ hKC => ?_ | (refine hKC _ _ _ _ _ (zD (h1) rfl rfl rfl ?_ ?_); (· exact Lq)) | (refine hKC _ _ _ _ _ (zD (h2) rfl rfl rfl ?_ ?_); (· exact Lq))); simp (maxSteps := 9999999) only [push_cast, seval, ↓reduceIte, hd1, hd2, hd3, hd4', undef]) | ((with_reducible refine hJ _ _ ?_); clear hJ hKC KC J) | ((with_reducible refine zH ?_ ?_); · rfl)
  refine zE ?_
  simp (maxSteps := 9999999) only [push_cast, seval, ↓reduceIte, show Tryz.f48.results = #[(.tmp 6), (.tmp 7)] from rfl]
  exact Lq
 have h3 := h3 rfl
 cases d4
 case false =>
  repeat' first | (refine zU 4 1 rfl (by (simp (maxSteps := 9999999) only [push_cast, seval, ↓reduceIte]) <;> rfl) ?_; simp (maxSteps := 9999999) only [push_cast, seval, ↓reduceIte, zAK, zi, fr3, fr2, fr1, fr0, zq, zn, hd1, hd2, hd3, hd4', undef]) | (refine zU 5 4 rfl (by (simp (maxSteps := 9999999) only [push_cast, seval, ↓reduceIte]) <;> rfl) ?_; simp (maxSteps := 9999999) only [push_cast, seval, ↓reduceIte, zAK, zi, fr3, fr2, fr1, fr0, zq, zn, hd1, hd2, hd3, hd4', undef]) | (with_reducible first | refine zA ?_ | refine zB ?_ | refine zF ?_ | refine zJ ?_) | ((first | with_reducible refine zC fun KC J hJ hKC => ?_ | (refine hKC _ _ _ _ _ (zD (h1) rfl rfl rfl ?_ ?_); (· exact Lq)) | (refine hKC _ _ _ _ _ (zD (h2) rfl rfl rfl ?_ ?_); (· exact Lq))); simp (maxSteps := 9999999) only [push_cast, seval, ↓reduceIte, hd1, hd2, hd3, hd4', undef]) | ((with_reducible refine hJ _ _ ?_); clear hJ hKC KC J) | ((with_reducible refine zH ?_ ?_); · rfl)
  refine zE ?_
  simp (maxSteps := 9999999) only [push_cast, seval, ↓reduceIte, show Tryz.f48.results = #[(.tmp 6), (.tmp 7)] from rfl]
  exact Lq
 cases c3
 case true =>
  repeat' first | (refine zU 4 1 rfl (by (simp (maxSteps := 9999999) only [push_cast, seval, ↓reduceIte]) <;> rfl) ?_; simp (maxSteps := 9999999) only [push_cast, seval, ↓reduceIte, zAK, zi, fr3, fr2, fr1, fr0, zq, zn, hd1, hd2, hd3, hd4', undef]) | (refine zU 5 4 rfl (by (simp (maxSteps := 9999999) only [push_cast, seval, ↓reduceIte]) <;> rfl) ?_; simp (maxSteps := 9999999) only [push_cast, seval, ↓reduceIte, zAK, zi, fr3, fr2, fr1, fr0, zq, zn, hd1, hd2, hd3, hd4', undef]) | (with_reducible first | refine zA ?_ | refine zB ?_ | refine zF ?_ | refine zJ ?_) | ((first | with_reducible refine zC fun KC J hJ hKC => ?_ | (refine hKC _ _ _ _ _ (zD (h1) rfl rfl rfl ?_ ?_); (· exact Lq)) | (refine hKC _ _ _ _ _ (zD (h2) rfl rfl rfl ?_ ?_); (· exact Lq)) | (refine hKC _ _ _ _ _ (zD (h3) rfl rfl rfl ?_ ?_); (· exact Lq))); simp (maxSteps := 9999999) only [push_cast, seval, ↓reduceIte, hd1, hd2, hd3, hd4', undef]) | ((with_reducible refine hJ _ _ ?_); clear hJ hKC KC J) | ((with_reducible refine zH ?_ ?_); · rfl)
  refine zE ?_
  simp (maxSteps := 9999999) only [push_cast, seval, ↓reduceIte, show Tryz.f48.results = #[(.tmp 6), (.tmp 7)] from rfl]
  exact Lq
 cases c4
 case true =>
  repeat' first | (refine zU 4 1 rfl (by (simp (maxSteps := 9999999) only [push_cast, seval, ↓reduceIte]) <;> rfl) ?_; simp (maxSteps := 9999999) only [push_cast, seval, ↓reduceIte, zAK, zi, fr3, fr2, fr1, fr0, zq, zn, hd1, hd2, hd3, hd4', undef]) | (refine zU 5 4 rfl (by (simp (maxSteps := 9999999) only [push_cast, seval, ↓reduceIte]) <;> rfl) ?_; simp (maxSteps := 9999999) only [push_cast, seval, ↓reduceIte, zAK, zi, fr3, fr2, fr1, fr0, zq, zn, hd1, hd2, hd3, hd4', undef]) | (with_reducible first | refine zA ?_ | refine zB ?_ | refine zF ?_ | refine zJ ?_) | ((first | with_reducible refine zC fun KC J hJ hKC => ?_ | (refine hKC _ _ _ _ _ (zD (h1) rfl rfl rfl ?_ ?_); (· exact Lq)) | (refine hKC _ _ _ _ _ (zD (h2) rfl rfl rfl ?_ ?_); (· exact Lq)) | (refine hKC _ _ _ _ _ (zD (h3) rfl rfl rfl ?_ ?_); (· exact Lq)) | (refine hKC _ _ _ _ _ (zD (h4) rfl rfl rfl ?_ ?_); (· exact Lq))); simp (maxSteps := 9999999) only [push_cast, seval, ↓reduceIte, hd1, hd2, hd3, hd4', undef]) | ((with_reducible refine hJ _ _ ?_); clear hJ hKC KC J) | ((with_reducible refine zH ?_ ?_); · rfl)
  refine zE ?_
  simp (maxSteps := 9999999) only [push_cast, seval, ↓reduceIte, show Tryz.f48.results = #[(.tmp 6), (.tmp 7)] from rfl]
  exact Lq
 repeat' first | (refine zU 4 1 rfl (by (simp (maxSteps := 9999999) only [push_cast, seval, ↓reduceIte]) <;> rfl) ?_; simp (maxSteps := 9999999) only [push_cast, seval, ↓reduceIte, zAK, zi, fr3, fr2, fr1, fr0, zq, zn, hd1, hd2, hd3, hd4', undef]) | (refine zU 5 4 rfl (by (simp (maxSteps := 9999999) only [push_cast, seval, ↓reduceIte]) <;> rfl) ?_; simp (maxSteps := 9999999) only [push_cast, seval, ↓reduceIte, zAK, zi, fr3, fr2, fr1, fr0, zq, zn, hd1, hd2, hd3, hd4', undef]) | (with_reducible first | refine zA ?_ | refine zB ?_ | refine zF ?_ | refine zJ ?_) | ((first | with_reducible refine zC fun KC J hJ hKC => ?_ | (refine hKC _ _ _ _ _ (zD (h1) rfl rfl rfl ?_ ?_); (· exact Lq)) | (refine hKC _ _ _ _ _ (zD (h2) rfl rfl rfl ?_ ?_); (· exact Lq)) | (refine hKC _ _ _ _ _ (zD (h3) rfl rfl rfl ?_ ?_); (· exact Lq)) | (refine hKC _ _ _ _ _ (zD (h4) rfl rfl rfl ?_ ?_); (· exact Lq)) | (refine hKC _ _ _ _ _ (zD (h5) rfl rfl rfl ?_ ?_); (· exact Lq))); simp (maxSteps := 9999999) only [push_cast, seval, ↓reduceIte, hd1, hd2, hd3, hd4', undef]) | ((with_reducible refine hJ _ _ ?_); clear hJ hKC KC J) | ((with_reducible refine zH ?_ ?_); · rfl)
 refine zE ?_
 simp (maxSteps := 9999999) only [push_cast, seval, ↓reduceIte, show Tryz.f48.results = #[(.tmp 6), (.tmp 7)] from rfl]
 exact Lq
theorem zNT {ns : List ByteArray} {us : List Nat} (hc : zAA ns us = 0) : 1 ≤ us.length ∧ us.length ≤ 8 := by
 have := (zGh (show zGA ns us = true by
  unfold zAA at hc
  split at hc
  ·assumption
  ·cases hc)).1
 omega
def zDB (ns : List ByteArray) (us : List Nat) (sp : Sp) (o : Int) (s : Sta) (d : Dr) : Dr × Sta × Int :=
 if zCs ns us sp = 0 then if zDx us.length sp s = true then if zx us.length o = false then if zAn d.l d.g d.a = true then zQA Sta.z ((zEg sp us o.toNat s).run d) else (Dr.z, Sta.z, 1) else (Dr.z, Sta.z, 9) else (Dr.z, Sta.z, 1) else (Dr.z, Sta.z, zCs ns us sp)
theorem zTc (f g : Bool) (ns : List ByteArray) (us : List Nat) (sp : Sp) (o : Int) (s : Sta) (d : Dr) (hs : Szs ns) (hu : U32 us) (hw : sp.ws.length ≤ 1000) (hl : Sml s) :
  Fn Tryz.prog 92 [.agg [.sl f 1 (zS ns), .sl g 1 (zQ us)], .agg (spF false sp), .v (.int .i64 o), .agg (zAO false false false false s), zBC false false d] [] (.tup [zBC false false (zDB ns us sp o s d).1, .agg (zAO false false false false (zDB ns us sp o s d).2.1), .v (.int .i64 (zDB ns us sp o s d).2.2)]) [] := by
 have h1 := zKI f g false ns us sp s hs hu hw hl
 have h2 := zEa false false d.l d.g d.a
 unfold zDB
 unfold zSy at h1
 obtain ⟨m, hm⟩ : ∃ m, zCs ns us sp = m := ⟨_, rfl⟩
 obtain ⟨r, hr⟩ : ∃ r, zAn d.l d.g d.a = r := ⟨_, rfl⟩
 obtain ⟨b, hb⟩ : ∃ b, zDx us.length sp s = b := ⟨_, rfl⟩
 rw [hm, hb] at h1
 rw [hm, hb, hr]
 rw [hr] at h2
 simp only [spF, zBC, zAO] at h1 h2 ⊢
 by_cases h0 : m = 0
 case neg =>
  have h0' : (m != 0) = true := by simpa using h0
  rw [if_neg h0]
  refine Fn.of (fn := Tryz.f92) (by kernel_rfl) rfl (by kernel_rfl) ⟨[.agg [.sl f 1 (zS ns), .sl g 1 (zQ us)], .agg [.v (.int .i64 sp.code), .v (.int .i64 sp.mem), .v (.int .i64 sp.stack), .v (.int .i64 sp.val), .sl false 1 (zM sp.ws)], .v (.int .i64 o), .agg [.v (.int .i64 s.v), .v (.int .i64 s.l), .sl false 3 (zo s.code), .sl false 2 (za s.mem), .sl false 3 (zg s.stack), .sl false 2 (za s.out)], .agg [.sl false 1 (zM d.l), .v (.int .i64 d.a), .sl false 1 (zM d.g)], .v undef, .v undef, .v undef, .v undef, .v undef, .v undef, .v undef, .v undef, .v undef, .v undef, .v undef, .v undef, .v undef, .v undef, .v undef, .v undef, .v undef, .v undef, .v undef, .v undef, .v undef, .v undef, .v undef, .v undef, .v undef, .v undef, .v undef, .v undef, .v undef, .v undef, .v undef, .v undef, .v undef, .v undef, .v undef, .v undef, .v undef, .v undef, .v undef, .v undef, .v undef, .v undef, .v undef, .v undef, .v undef, .v undef, .v undef, .v undef, .v undef, .v undef, .v undef, .v undef, .v undef, .v undef, .v undef, .v undef, .v undef, .v undef, .v undef, .v undef, .v undef, .v undef, .v undef, .v undef, .v undef, .v undef, .v undef, .v undef, .v undef, .v undef, .v undef, .v undef, .v undef], []⟩ rfl ?_
  repeat' first | (with_reducible first | refine zA ?_ | refine zB ?_ | refine zb ?_ | refine zAC ?_ | refine zF ?_ | refine zI ?_) | ((first | with_reducible refine zC fun KC J hJ hKC => ?_ | (refine hKC _ _ _ _ _ (zD (h1) rfl rfl rfl ?_ ?_); (· exact Lq))); simp (maxSteps := 9999999) only [push_cast, seval, ↓reduceIte, h0']) | ((with_reducible refine hJ _ _ ?_); clear hJ hKC KC J) | ((with_reducible refine zG ?_ ?_); · rfl)
  refine zE ?_
  simp (maxSteps := 9999999) only [push_cast, seval, ↓reduceIte, show Tryz.f92.results = #[(.cell 10 30), (.cell 11 39), (.tmp 12)] from rfl]
  exact Lq
 subst h0
 rw [if_pos rfl]
 simp only [decide_true, Bool.true_and] at h1
 cases b
 case false =>
  rw [if_neg (by simp)]
  refine Fn.of (fn := Tryz.f92) (by kernel_rfl) rfl (by kernel_rfl) ⟨[.agg [.sl f 1 (zS ns), .sl g 1 (zQ us)], .agg [.v (.int .i64 sp.code), .v (.int .i64 sp.mem), .v (.int .i64 sp.stack), .v (.int .i64 sp.val), .sl false 1 (zM sp.ws)], .v (.int .i64 o), .agg [.v (.int .i64 s.v), .v (.int .i64 s.l), .sl false 3 (zo s.code), .sl false 2 (za s.mem), .sl false 3 (zg s.stack), .sl false 2 (za s.out)], .agg [.sl false 1 (zM d.l), .v (.int .i64 d.a), .sl false 1 (zM d.g)], .v undef, .v undef, .v undef, .v undef, .v undef, .v undef, .v undef, .v undef, .v undef, .v undef, .v undef, .v undef, .v undef, .v undef, .v undef, .v undef, .v undef, .v undef, .v undef, .v undef, .v undef, .v undef, .v undef, .v undef, .v undef, .v undef, .v undef, .v undef, .v undef, .v undef, .v undef, .v undef, .v undef, .v undef, .v undef, .v undef, .v undef, .v undef, .v undef, .v undef, .v undef, .v undef, .v undef, .v undef, .v undef, .v undef, .v undef, .v undef, .v undef, .v undef, .v undef, .v undef, .v undef, .v undef, .v undef, .v undef, .v undef, .v undef, .v undef, .v undef, .v undef, .v undef, .v undef, .v undef, .v undef, .v undef, .v undef, .v undef, .v undef, .v undef, .v undef, .v undef, .v undef], []⟩ rfl ?_
  repeat' first | (with_reducible first | refine zA ?_ | refine zB ?_ | refine zb ?_ | refine zAC ?_ | refine zF ?_ | refine zI ?_) | ((first | with_reducible refine zC fun KC J hJ hKC => ?_ | (refine hKC _ _ _ _ _ (zD (h1) rfl rfl rfl ?_ ?_); (· exact Lq))); simp (maxSteps := 9999999) only [push_cast, seval, ↓reduceIte, bne_self_eq_false]) | ((with_reducible refine hJ _ _ ?_); clear hJ hKC KC J) | ((with_reducible refine zG ?_ ?_); · rfl) | ((with_reducible refine zH ?_ ?_); · rfl)
  refine zE ?_
  simp (maxSteps := 9999999) only [push_cast, seval, ↓reduceIte, show Tryz.f92.results = #[(.cell 10 30), (.cell 11 39), (.tmp 12)] from rfl]
  exact Lq
 rw [if_pos rfl]
 have hchk : zAA ns us = 0 ∧ SpOk sp := by
  unfold zCs at hm
  split at hm
  ·rename_i hc
   split at hm
   ·rename_i hsp; exact ⟨hc, zHs.1 hsp⟩
   ·cases hm
  ·rename_i hc; exact absurd hm hc
 have hul := zNT hchk.1
 have hsp := hchk.2
 have hin := (zFD hsp).1 hb
 have hql : (zQ us).length = us.length := by simp [zQ]
 by_cases ho : zx us.length o = false
 case neg =>
  rw [if_neg ho]
  by_cases ho1 : o < 0
  ·have ho1' : decide (o < 0) = true := decide_eq_true ho1
   refine Fn.of (fn := Tryz.f92) (by kernel_rfl) rfl (by kernel_rfl) ⟨[.agg [.sl f 1 (zS ns), .sl g 1 (zQ us)], .agg [.v (.int .i64 sp.code), .v (.int .i64 sp.mem), .v (.int .i64 sp.stack), .v (.int .i64 sp.val), .sl false 1 (zM sp.ws)], .v (.int .i64 o), .agg [.v (.int .i64 s.v), .v (.int .i64 s.l), .sl false 3 (zo s.code), .sl false 2 (za s.mem), .sl false 3 (zg s.stack), .sl false 2 (za s.out)], .agg [.sl false 1 (zM d.l), .v (.int .i64 d.a), .sl false 1 (zM d.g)], .v undef, .v undef, .v undef, .v undef, .v undef, .v undef, .v undef, .v undef, .v undef, .v undef, .v undef, .v undef, .v undef, .v undef, .v undef, .v undef, .v undef, .v undef, .v undef, .v undef, .v undef, .v undef, .v undef, .v undef, .v undef, .v undef, .v undef, .v undef, .v undef, .v undef, .v undef, .v undef, .v undef, .v undef, .v undef, .v undef, .v undef, .v undef, .v undef, .v undef, .v undef, .v undef, .v undef, .v undef, .v undef, .v undef, .v undef, .v undef, .v undef, .v undef, .v undef, .v undef, .v undef, .v undef, .v undef, .v undef, .v undef, .v undef, .v undef, .v undef, .v undef, .v undef, .v undef, .v undef, .v undef, .v undef, .v undef, .v undef, .v undef, .v undef, .v undef, .v undef, .v undef], []⟩ rfl ?_
   repeat' first | (with_reducible first | refine zA ?_ | refine zB ?_ | refine zb ?_ | refine zAC ?_ | refine zF ?_ | refine zI ?_) | ((first | with_reducible refine zC fun KC J hJ hKC => ?_ | (refine hKC _ _ _ _ _ (zD (h1) rfl rfl rfl ?_ ?_); (· exact Lq))); simp (maxSteps := 9999999) only [push_cast, seval, ↓reduceIte, bne_self_eq_false, ho1, ho1', undef]) | ((with_reducible refine hJ _ _ ?_); clear hJ hKC KC J) | ((with_reducible refine zG ?_ ?_); · rfl) | ((with_reducible refine zH ?_ ?_); · rfl)
   refine zE ?_
   simp (maxSteps := 9999999) only [push_cast, seval, ↓reduceIte, show Tryz.f92.results = #[(.cell 10 30), (.cell 11 39), (.tmp 12)] from rfl]
   exact Lq
  ·have ho2 : (us.length : Int) ≤ o := by
    have : ¬ (0 ≤ o ∧ o < us.length) := fun h => ho (zAG.2 h)
    omega
   have ho1' : decide (o < 0) = false := decide_eq_false ho1
   have ho2' : decide ((us.length : Int) ≤ o) = true := decide_eq_true ho2
   refine Fn.of (fn := Tryz.f92) (by kernel_rfl) rfl (by kernel_rfl) ⟨[.agg [.sl f 1 (zS ns), .sl g 1 (zQ us)], .agg [.v (.int .i64 sp.code), .v (.int .i64 sp.mem), .v (.int .i64 sp.stack), .v (.int .i64 sp.val), .sl false 1 (zM sp.ws)], .v (.int .i64 o), .agg [.v (.int .i64 s.v), .v (.int .i64 s.l), .sl false 3 (zo s.code), .sl false 2 (za s.mem), .sl false 3 (zg s.stack), .sl false 2 (za s.out)], .agg [.sl false 1 (zM d.l), .v (.int .i64 d.a), .sl false 1 (zM d.g)], .v undef, .v undef, .v undef, .v undef, .v undef, .v undef, .v undef, .v undef, .v undef, .v undef, .v undef, .v undef, .v undef, .v undef, .v undef, .v undef, .v undef, .v undef, .v undef, .v undef, .v undef, .v undef, .v undef, .v undef, .v undef, .v undef, .v undef, .v undef, .v undef, .v undef, .v undef, .v undef, .v undef, .v undef, .v undef, .v undef, .v undef, .v undef, .v undef, .v undef, .v undef, .v undef, .v undef, .v undef, .v undef, .v undef, .v undef, .v undef, .v undef, .v undef, .v undef, .v undef, .v undef, .v undef, .v undef, .v undef, .v undef, .v undef, .v undef, .v undef, .v undef, .v undef, .v undef, .v undef, .v undef, .v undef, .v undef, .v undef, .v undef, .v undef, .v undef, .v undef, .v undef], []⟩ rfl ?_
   repeat' first | (with_reducible first | refine zA ?_ | refine zB ?_ | refine zb ?_ | refine zAC ?_ | refine zF ?_ | refine zI ?_) | ((first | with_reducible refine zC fun KC J hJ hKC => ?_ | (refine hKC _ _ _ _ _ (zD (h1) rfl rfl rfl ?_ ?_); (· exact Lq))); simp (maxSteps := 9999999) only [push_cast, seval, ↓reduceIte, bne_self_eq_false, ho1, ho2, ho1', ho2', hql, ge_iff_le]) | ((with_reducible refine hJ _ _ ?_); clear hJ hKC KC J) | ((with_reducible refine zG ?_ ?_); · rfl) | ((with_reducible refine zH ?_ ?_); · rfl)
   refine zE ?_
   simp (maxSteps := 9999999) only [push_cast, seval, ↓reduceIte, show Tryz.f92.results = #[(.cell 10 30), (.cell 11 39), (.tmp 12)] from rfl]
   exact Lq
 obtain ⟨O, rfl, hO⟩ := zBU ho
 rw [if_pos ho]
 have ho1 : ¬ ((O : Int) < 0) := by omega
 have ho2 : ¬ ((us.length : Int) ≤ (O : Int)) := by omega
 have ho1' : decide ((O : Int) < 0) = false := decide_eq_false ho1
 have ho2' : decide ((us.length : Int) ≤ (O : Int)) = false := decide_eq_false ho2
 cases r
 case false =>
  refine Fn.of (fn := Tryz.f92) (by kernel_rfl) rfl (by kernel_rfl) ⟨[.agg [.sl f 1 (zS ns), .sl g 1 (zQ us)], .agg [.v (.int .i64 sp.code), .v (.int .i64 sp.mem), .v (.int .i64 sp.stack), .v (.int .i64 sp.val), .sl false 1 (zM sp.ws)], .v (.int .i64 (O : Int)), .agg [.v (.int .i64 s.v), .v (.int .i64 s.l), .sl false 3 (zo s.code), .sl false 2 (za s.mem), .sl false 3 (zg s.stack), .sl false 2 (za s.out)], .agg [.sl false 1 (zM d.l), .v (.int .i64 d.a), .sl false 1 (zM d.g)], .v undef, .v undef, .v undef, .v undef, .v undef, .v undef, .v undef, .v undef, .v undef, .v undef, .v undef, .v undef, .v undef, .v undef, .v undef, .v undef, .v undef, .v undef, .v undef, .v undef, .v undef, .v undef, .v undef, .v undef, .v undef, .v undef, .v undef, .v undef, .v undef, .v undef, .v undef, .v undef, .v undef, .v undef, .v undef, .v undef, .v undef, .v undef, .v undef, .v undef, .v undef, .v undef, .v undef, .v undef, .v undef, .v undef, .v undef, .v undef, .v undef, .v undef, .v undef, .v undef, .v undef, .v undef, .v undef, .v undef, .v undef, .v undef, .v undef, .v undef, .v undef, .v undef, .v undef, .v undef, .v undef, .v undef, .v undef, .v undef, .v undef, .v undef, .v undef, .v undef, .v undef], []⟩ rfl ?_
  repeat' first | (with_reducible first | refine zA ?_ | refine zB ?_ | refine zb ?_ | refine zAC ?_ | refine zF ?_ | refine zI ?_) | ((first | with_reducible refine zC fun KC J hJ hKC => ?_ | (refine hKC _ _ _ _ _ (zD (h1) rfl rfl rfl ?_ ?_); (· exact Lq)) | (refine hKC _ _ _ _ _ (zD (h2) rfl rfl rfl ?_ ?_); (· exact Lq))); simp (maxSteps := 9999999) only [push_cast, seval, ↓reduceIte, bne_self_eq_false, ho1, ho2, ho1', ho2', hql, ge_iff_le]) | ((with_reducible refine hJ _ _ ?_); clear hJ hKC KC J) | ((with_reducible refine zG ?_ ?_); · rfl) | ((with_reducible refine zH ?_ ?_); · rfl)
  refine zE ?_
  simp (maxSteps := 9999999) only [push_cast, seval, ↓reduceIte, show Tryz.f92.results = #[(.cell 10 30), (.cell 11 39), (.tmp 12)] from rfl]
  exact Lq
 rw [if_pos rfl, Int.toNat_natCast]
 have hq : VOk ⟨f, g, ns, us, sp, O⟩ := ⟨hs, hu, hchk.1, hO⟩
 have hv : VIn ⟨f, g, ns, us, sp, O⟩ s := by
  have a1 := hsp.c1
  have a2 := hsp.m1
  have a3 := hsp.s1
  have a4 := hin.cl
  have a5 := hin.ml
  have a6 := hin.sl
  refine ⟨by omega, by omega, by omega, fun x hx hx1 => ?_, fun x hx => ?_, fun x hx => ?_, hin.l, hsp.s0, hsp.s1, hin.sl⟩
  ·have h := (hin.c x hx).1
   unfold zBR at h
   rw [if_pos hx1] at h
   simp only [Bool.and_eq_true, Bool.not_eq_true'] at h
   exact h.2
  ·have h := (hin.m x hx).1
   simp only [zCf, Bool.and_eq_true, Bool.not_eq_true'] at h
   exact h.2
  ·have h := (hin.s x hx).1
   simp only [zCT, Bool.and_eq_true, Bool.not_eq_true'] at h
   exact h.1
 have k := zPs ⟨f, g, ns, us, sp, O⟩ hq hul.2 d 0 0 false false false false s hv
 have he := (zLq ⟨f, g, ns, us, sp, O⟩ s).end Sta.z d 0
 simp only at he
 rw [he]
 clear he
 obtain ⟨⟨⟨d1, n1, e1⟩, t⟩, hT⟩ : ∃ x, zAR ⟨f, g, ns, us, sp, O⟩ s (d, 0, 0) = x := ⟨_, rfl⟩
 rw [hT] at k ⊢
 simp only [mkV, zAO] at k ⊢
 by_cases e0 : e1 = 0
 ·have e0' : (e1 != 0) = false := by simpa using e0
  rw [if_pos e0]
  refine Fn.of (fn := Tryz.f92) (by kernel_rfl) rfl (by kernel_rfl) ⟨[.agg [.sl f 1 (zS ns), .sl g 1 (zQ us)], .agg [.v (.int .i64 sp.code), .v (.int .i64 sp.mem), .v (.int .i64 sp.stack), .v (.int .i64 sp.val), .sl false 1 (zM sp.ws)], .v (.int .i64 (O : Int)), .agg [.v (.int .i64 s.v), .v (.int .i64 s.l), .sl false 3 (zo s.code), .sl false 2 (za s.mem), .sl false 3 (zg s.stack), .sl false 2 (za s.out)], .agg [.sl false 1 (zM d.l), .v (.int .i64 d.a), .sl false 1 (zM d.g)], .v undef, .v undef, .v undef, .v undef, .v undef, .v undef, .v undef, .v undef, .v undef, .v undef, .v undef, .v undef, .v undef, .v undef, .v undef, .v undef, .v undef, .v undef, .v undef, .v undef, .v undef, .v undef, .v undef, .v undef, .v undef, .v undef, .v undef, .v undef, .v undef, .v undef, .v undef, .v undef, .v undef, .v undef, .v undef, .v undef, .v undef, .v undef, .v undef, .v undef, .v undef, .v undef, .v undef, .v undef, .v undef, .v undef, .v undef, .v undef, .v undef, .v undef, .v undef, .v undef, .v undef, .v undef, .v undef, .v undef, .v undef, .v undef, .v undef, .v undef, .v undef, .v undef, .v undef, .v undef, .v undef, .v undef, .v undef, .v undef, .v undef, .v undef, .v undef, .v undef, .v undef], []⟩ rfl ?_
  repeat' first | (with_reducible first | refine zA ?_ | refine zB ?_ | refine zP ?_ | refine zF ?_ | refine zJ ?_ | refine zI ?_) | ((first | with_reducible refine zC fun KC J hJ hKC => ?_ | with_reducible refine zY rfl fun KC J hJ hKC => ?_ | (refine hKC _ _ _ _ _ (zT [8] k rfl rfl rfl (by decide) (by simp) rfl rfl Lq ?_)) | (refine hKC _ _ _ _ _ (zD (h1) rfl rfl rfl ?_ ?_); (· exact Lq)) | (refine hKC _ _ _ _ _ (zD (h2) rfl rfl rfl ?_ ?_); (· exact Lq))); simp (maxSteps := 9999999) only [push_cast, seval, ↓reduceIte, bne_self_eq_false, ho1, ho2, ho1', ho2', hql, ge_iff_le, e0', zX, zN, zL, pick, mOf, idx, ren, ren2, ren1, ren0]) | ((first | with_reducible refine hJ _ _ ?_ | (with_reducible refine hJ _ _ ?_ ?_; · kernel_rfl)); clear hJ hKC KC J) | ((with_reducible refine zH ?_ ?_); · rfl)
  refine zE ?_
  simp (maxSteps := 9999999) only [push_cast, seval, ↓reduceIte, show Tryz.f92.results = #[(.cell 10 30), (.cell 11 39), (.tmp 12)] from rfl]
  exact Lq
 ·have e0' : (e1 != 0) = true := by simpa using e0
  rw [if_neg e0]
  refine Fn.of (fn := Tryz.f92) (by kernel_rfl) rfl (by kernel_rfl) ⟨[.agg [.sl f 1 (zS ns), .sl g 1 (zQ us)], .agg [.v (.int .i64 sp.code), .v (.int .i64 sp.mem), .v (.int .i64 sp.stack), .v (.int .i64 sp.val), .sl false 1 (zM sp.ws)], .v (.int .i64 (O : Int)), .agg [.v (.int .i64 s.v), .v (.int .i64 s.l), .sl false 3 (zo s.code), .sl false 2 (za s.mem), .sl false 3 (zg s.stack), .sl false 2 (za s.out)], .agg [.sl false 1 (zM d.l), .v (.int .i64 d.a), .sl false 1 (zM d.g)], .v undef, .v undef, .v undef, .v undef, .v undef, .v undef, .v undef, .v undef, .v undef, .v undef, .v undef, .v undef, .v undef, .v undef, .v undef, .v undef, .v undef, .v undef, .v undef, .v undef, .v undef, .v undef, .v undef, .v undef, .v undef, .v undef, .v undef, .v undef, .v undef, .v undef, .v undef, .v undef, .v undef, .v undef, .v undef, .v undef, .v undef, .v undef, .v undef, .v undef, .v undef, .v undef, .v undef, .v undef, .v undef, .v undef, .v undef, .v undef, .v undef, .v undef, .v undef, .v undef, .v undef, .v undef, .v undef, .v undef, .v undef, .v undef, .v undef, .v undef, .v undef, .v undef, .v undef, .v undef, .v undef, .v undef, .v undef, .v undef, .v undef, .v undef, .v undef, .v undef, .v undef], []⟩ rfl ?_
  repeat' first | (with_reducible first | refine zA ?_ | refine zB ?_ | refine zb ?_ | refine zP ?_ | refine zF ?_ | refine zJ ?_ | refine zI ?_) | ((first | with_reducible refine zC fun KC J hJ hKC => ?_ | with_reducible refine zY rfl fun KC J hJ hKC => ?_ | (refine hKC _ _ _ _ _ (zT [8] k rfl rfl rfl (by decide) (by simp) rfl rfl Lq ?_)) | (refine hKC _ _ _ _ _ (zD (h1) rfl rfl rfl ?_ ?_); (· exact Lq)) | (refine hKC _ _ _ _ _ (zD (h2) rfl rfl rfl ?_ ?_); (· exact Lq))); simp (maxSteps := 9999999) only [push_cast, seval, ↓reduceIte, bne_self_eq_false, ho1, ho2, ho1', ho2', hql, ge_iff_le, e0', zX, zN, zL, pick, mOf, idx, ren, ren2, ren1, ren0]) | ((first | with_reducible refine hJ _ _ ?_ | (with_reducible refine hJ _ _ ?_ ?_; · kernel_rfl)); clear hJ hKC KC J) | ((with_reducible refine zG ?_ ?_); · rfl) | ((with_reducible refine zH ?_ ?_); · rfl)
  refine zE ?_
  simp (maxSteps := 9999999) only [push_cast, seval, ↓reduceIte, show Tryz.f92.results = #[(.cell 10 30), (.cell 11 39), (.tmp 12)] from rfl]
  exact Lq
def zCa (ns : List ByteArray) (us : List Nat) (sp : Sp) (d : Dr) : Dr × Sta × Int :=
 if zCs ns us sp = 0 then if zAn d.l d.g d.a = true then zQA Sta.z ((zGe us.length sp).run d) else (Dr.z, Sta.z, 1) else (Dr.z, Sta.z, zCs ns us sp)
theorem zKC {ns : List ByteArray} {us : List Nat} (hc : zAA ns us = 0) : 1 ≤ us.length ∧ us.length ≤ 8 := by
 have := (zGh (show zGA ns us = true by
  unfold zAA at hc
  split at hc
  ·assumption
  ·cases hc)).1
 omega
theorem zHa (f g : Bool) (ns : List ByteArray) (us : List Nat) (sp : Sp) (d : Dr) (hs : Szs ns) (hu : U32 us) (hw : sp.ws.length ≤ 1000) :
  Fn Tryz.prog 51 [.agg [.sl f 1 (zS ns), .sl g 1 (zQ us)], .agg (spF false sp), zBC false false d] [] (.tup [zBC false false (zCa ns us sp d).1, .agg (zAO false false false false (zCa ns us sp d).2.1), .v (.int .i64 (zCa ns us sp d).2.2)]) [] := by
 have h1 := zKR f g false ns us sp hs hu hw
 have h2 := zEa false false d.l d.g d.a
 unfold zCa
 obtain ⟨m, hm⟩ : ∃ m, zCs ns us sp = m := ⟨_, rfl⟩
 obtain ⟨r, hr⟩ : ∃ r, zAn d.l d.g d.a = r := ⟨_, rfl⟩
 rw [hm] at h1 ⊢
 rw [hr] at h2 ⊢
 simp only [spF, zBC, zAO] at h1 h2 ⊢
 by_cases h0 : m = 0
 case neg =>
  have h0' : (m != 0) = true := by simpa using h0
  rw [if_neg h0]
  refine Fn.of (fn := Tryz.f51) (by kernel_rfl) rfl (by kernel_rfl) ⟨[.agg [.sl f 1 (zS ns), .sl g 1 (zQ us)], .agg [.v (.int .i64 sp.code), .v (.int .i64 sp.mem), .v (.int .i64 sp.stack), .v (.int .i64 sp.val), .sl false 1 (zM sp.ws)], .agg [.sl false 1 (zM d.l), .v (.int .i64 d.a), .sl false 1 (zM d.g)], .v undef, .v undef, .v undef, .v undef, .v undef, .v undef, .v undef, .v undef, .v undef, .v undef, .v undef, .v undef, .v undef, .v undef, .v undef, .v undef, .v undef, .v undef, .v undef, .v undef, .v undef, .v undef, .v undef, .v undef, .v undef, .v undef, .v undef, .v undef, .v undef, .v undef, .v undef, .v undef, .v undef, .v undef, .v undef, .v undef, .v undef, .v undef, .v undef, .v undef, .v undef, .v undef, .v undef, .v undef, .v undef, .v undef, .v undef, .v undef, .v undef, .v undef, .v undef, .v undef, .v undef, .v undef, .v undef, .v undef, .v undef, .v undef, .v undef, .v undef, .v undef, .v undef, .v undef, .v undef, .v undef, .v undef, .v undef, .v undef, .v undef, .v undef, .v undef, .v undef, .v undef, .v undef], []⟩ rfl ?_
  repeat' first | (with_reducible first | refine zA ?_ | refine zB ?_ | refine zb ?_ | refine zF ?_) | ((first | with_reducible refine zC fun KC J hJ hKC => ?_ | (refine hKC _ _ _ _ _ (zD (h1) rfl rfl rfl ?_ ?_); (· exact Lq))); simp (maxSteps := 9999999) only [push_cast, seval, ↓reduceIte, h0']) | ((with_reducible refine hJ _ _ ?_); clear hJ hKC KC J) | ((with_reducible refine zG ?_ ?_); · rfl)
  refine zE ?_
  simp (maxSteps := 9999999) only [push_cast, seval, ↓reduceIte, show Tryz.f51.results = #[(.cell 6 30), (.cell 7 39), (.tmp 8)] from rfl]
  exact Lq
 subst h0
 have hchk : zAA ns us = 0 ∧ SpOk sp := by
  unfold zCs at hm
  split at hm
  ·rename_i hc
   split at hm
   ·rename_i hsp; exact ⟨hc, zHs.1 hsp⟩
   ·cases hm
  ·rename_i hc; exact absurd hm hc
 have hul := zKC hchk.1
 have hsp := hchk.2
 cases r
 case false =>
  refine Fn.of (fn := Tryz.f51) (by kernel_rfl) rfl (by kernel_rfl) ⟨[.agg [.sl f 1 (zS ns), .sl g 1 (zQ us)], .agg [.v (.int .i64 sp.code), .v (.int .i64 sp.mem), .v (.int .i64 sp.stack), .v (.int .i64 sp.val), .sl false 1 (zM sp.ws)], .agg [.sl false 1 (zM d.l), .v (.int .i64 d.a), .sl false 1 (zM d.g)], .v undef, .v undef, .v undef, .v undef, .v undef, .v undef, .v undef, .v undef, .v undef, .v undef, .v undef, .v undef, .v undef, .v undef, .v undef, .v undef, .v undef, .v undef, .v undef, .v undef, .v undef, .v undef, .v undef, .v undef, .v undef, .v undef, .v undef, .v undef, .v undef, .v undef, .v undef, .v undef, .v undef, .v undef, .v undef, .v undef, .v undef, .v undef, .v undef, .v undef, .v undef, .v undef, .v undef, .v undef, .v undef, .v undef, .v undef, .v undef, .v undef, .v undef, .v undef, .v undef, .v undef, .v undef, .v undef, .v undef, .v undef, .v undef, .v undef, .v undef, .v undef, .v undef, .v undef, .v undef, .v undef, .v undef, .v undef, .v undef, .v undef, .v undef, .v undef, .v undef, .v undef, .v undef], []⟩ rfl ?_
  repeat' first | (with_reducible first | refine zA ?_ | refine zB ?_ | refine zb ?_ | refine zF ?_ | refine zJ ?_) | ((first | with_reducible refine zC fun KC J hJ hKC => ?_ | (refine hKC _ _ _ _ _ (zD (h1) rfl rfl rfl ?_ ?_); (· exact Lq)) | (refine hKC _ _ _ _ _ (zD (h2) rfl rfl rfl ?_ ?_); (· exact Lq))); simp (maxSteps := 9999999) only [push_cast, seval, ↓reduceIte, bne_self_eq_false]) | ((with_reducible refine hJ _ _ ?_); clear hJ hKC KC J) | ((with_reducible refine zG ?_ ?_); · rfl) | ((with_reducible refine zH ?_ ?_); · rfl)
  refine zE ?_
  simp (maxSteps := 9999999) only [push_cast, seval, ↓reduceIte, show Tryz.f51.results = #[(.cell 6 30), (.cell 7 39), (.tmp 8)] from rfl]
  exact Lq
 rw [if_pos rfl, if_pos rfl, (zQs us.length sp).end Sta.z d 0]
 unfold zVF
 have k1 := zQp us.length sp d 0 0 sp.code hsp.c0 (by have := hsp.c1; omega) (by omega) (by omega)
 obtain ⟨⟨⟨d1, n1, e1⟩, c⟩, hc⟩ : ∃ x, zCB (zCq us.length sp) sp.code (d, 0, 0) = x := ⟨_, rfl⟩
 rw [hc] at k1 ⊢
 have k2 := zRl us.length sp d1 n1 e1 sp.mem hsp.m0 (by have := hsp.m1; omega) (by omega)
 simp only at k2 ⊢
 obtain ⟨⟨⟨d2, n2, e2⟩, a⟩, ha⟩ : ∃ x, zCB (zDz us.length sp) sp.mem (d1, n1, e1) = x := ⟨_, rfl⟩
 rw [ha] at k2 ⊢
 have k3 := zQy us.length sp d2 n2 e2 sp.stack hsp.s0 (by have := hsp.s1; omega) (by omega)
 simp only at k3 ⊢
 obtain ⟨⟨⟨d3, n3, e3⟩, s⟩, hS⟩ : ∃ x, zCB (zDi us.length sp) sp.stack (d2, n2, e2) = x := ⟨_, rfl⟩
 rw [hS] at k3 ⊢
 have k4 := zIu us.length sp d3 n3 e3
 simp only at k4 ⊢
 obtain ⟨⟨d4, n4, e4⟩, h4⟩ : ∃ x, zR (d3, n3, e3) 13 = x := ⟨_, rfl⟩
 rw [h4] at k4 ⊢
 have k5 := zEy us.length sp d4 n4 e4 (by omega)
 simp only at k5 ⊢
 obtain ⟨⟨d5, n5, e5⟩, h5⟩ : ∃ x, zR (d4, n4, e4) us.length = x := ⟨_, rfl⟩
 rw [h5] at k5 ⊢
 simp only [mkE] at k1 k2 k3 k4 k5 ⊢
 by_cases he : e5 = 0
 ·have he' : (e5 != 0) = false := by simpa using he
  rw [if_pos he]
  refine Fn.of (fn := Tryz.f51) (by kernel_rfl) rfl (by kernel_rfl) ⟨[.agg [.sl f 1 (zS ns), .sl g 1 (zQ us)], .agg [.v (.int .i64 sp.code), .v (.int .i64 sp.mem), .v (.int .i64 sp.stack), .v (.int .i64 sp.val), .sl false 1 (zM sp.ws)], .agg [.sl false 1 (zM d.l), .v (.int .i64 d.a), .sl false 1 (zM d.g)], .v undef, .v undef, .v undef, .v undef, .v undef, .v undef, .v undef, .v undef, .v undef, .v undef, .v undef, .v undef, .v undef, .v undef, .v undef, .v undef, .v undef, .v undef, .v undef, .v undef, .v undef, .v undef, .v undef, .v undef, .v undef, .v undef, .v undef, .v undef, .v undef, .v undef, .v undef, .v undef, .v undef, .v undef, .v undef, .v undef, .v undef, .v undef, .v undef, .v undef, .v undef, .v undef, .v undef, .v undef, .v undef, .v undef, .v undef, .v undef, .v undef, .v undef, .v undef, .v undef, .v undef, .v undef, .v undef, .v undef, .v undef, .v undef, .v undef, .v undef, .v undef, .v undef, .v undef, .v undef, .v undef, .v undef, .v undef, .v undef, .v undef, .v undef, .v undef, .v undef, .v undef, .v undef], []⟩ rfl ?_
  repeat' first | (with_reducible first | refine zA ?_ | refine zB ?_ | refine zF ?_ | refine zJ ?_) | ((first | with_reducible refine zC fun KC J hJ hKC => ?_ | with_reducible refine zY rfl fun KC J hJ hKC => ?_ | (refine hKC _ _ _ _ _ (zT [7] k1 rfl rfl rfl (by decide) (by simp) rfl rfl Lq ?_)) | (refine hKC _ _ _ _ _ (zT [7] k2 rfl rfl rfl (by decide) (by simp) rfl rfl Lq ?_)) | (refine hKC _ _ _ _ _ (zT [7] k3 rfl rfl rfl (by decide) (by simp) rfl rfl Lq ?_)) | (refine hKC _ _ _ _ _ (zT [7] k4 rfl rfl rfl (by decide) (by simp) rfl rfl Lq ?_)) | (refine hKC _ _ _ _ _ (zT [7] k5 rfl rfl rfl (by decide) (by simp) rfl rfl Lq ?_)) | (refine hKC _ _ _ _ _ (zD (h1) rfl rfl rfl ?_ ?_); (· exact Lq)) | (refine hKC _ _ _ _ _ (zD (h2) rfl rfl rfl ?_ ?_); (· exact Lq))); simp (maxSteps := 9999999) only [push_cast, seval, ↓reduceIte, bne_self_eq_false, he', zX, zN, zL, pick, mOf, idx, ren, ren2, ren1, ren0]) | ((first | with_reducible refine hJ _ _ ?_ | (with_reducible refine hJ _ _ ?_ ?_; · kernel_rfl)); clear hJ hKC KC J) | ((with_reducible refine zH ?_ ?_); · rfl)
  refine zE ?_
  simp (maxSteps := 9999999) only [push_cast, seval, ↓reduceIte, show Tryz.f51.results = #[(.cell 6 30), (.cell 7 39), (.tmp 8)] from rfl]
  exact Lq
 ·have he' : (e5 != 0) = true := by simpa using he
  rw [if_neg he]
  refine Fn.of (fn := Tryz.f51) (by kernel_rfl) rfl (by kernel_rfl) ⟨[.agg [.sl f 1 (zS ns), .sl g 1 (zQ us)], .agg [.v (.int .i64 sp.code), .v (.int .i64 sp.mem), .v (.int .i64 sp.stack), .v (.int .i64 sp.val), .sl false 1 (zM sp.ws)], .agg [.sl false 1 (zM d.l), .v (.int .i64 d.a), .sl false 1 (zM d.g)], .v undef, .v undef, .v undef, .v undef, .v undef, .v undef, .v undef, .v undef, .v undef, .v undef, .v undef, .v undef, .v undef, .v undef, .v undef, .v undef, .v undef, .v undef, .v undef, .v undef, .v undef, .v undef, .v undef, .v undef, .v undef, .v undef, .v undef, .v undef, .v undef, .v undef, .v undef, .v undef, .v undef, .v undef, .v undef, .v undef, .v undef, .v undef, .v undef, .v undef, .v undef, .v undef, .v undef, .v undef, .v undef, .v undef, .v undef, .v undef, .v undef, .v undef, .v undef, .v undef, .v undef, .v undef, .v undef, .v undef, .v undef, .v undef, .v undef, .v undef, .v undef, .v undef, .v undef, .v undef, .v undef, .v undef, .v undef, .v undef, .v undef, .v undef, .v undef, .v undef, .v undef, .v undef], []⟩ rfl ?_
  repeat' first | (with_reducible first | refine zA ?_ | refine zB ?_ | refine zb ?_ | refine zF ?_ | refine zJ ?_) | ((first | with_reducible refine zC fun KC J hJ hKC => ?_ | with_reducible refine zY rfl fun KC J hJ hKC => ?_ | (refine hKC _ _ _ _ _ (zT [7] k1 rfl rfl rfl (by decide) (by simp) rfl rfl Lq ?_)) | (refine hKC _ _ _ _ _ (zT [7] k2 rfl rfl rfl (by decide) (by simp) rfl rfl Lq ?_)) | (refine hKC _ _ _ _ _ (zT [7] k3 rfl rfl rfl (by decide) (by simp) rfl rfl Lq ?_)) | (refine hKC _ _ _ _ _ (zT [7] k4 rfl rfl rfl (by decide) (by simp) rfl rfl Lq ?_)) | (refine hKC _ _ _ _ _ (zT [7] k5 rfl rfl rfl (by decide) (by simp) rfl rfl Lq ?_)) | (refine hKC _ _ _ _ _ (zD (h1) rfl rfl rfl ?_ ?_); (· exact Lq)) | (refine hKC _ _ _ _ _ (zD (h2) rfl rfl rfl ?_ ?_); (· exact Lq))); simp (maxSteps := 9999999) only [push_cast, seval, ↓reduceIte, bne_self_eq_false, he', zX, zN, zL, pick, mOf, idx, ren, ren2, ren1, ren0]) | ((first | with_reducible refine hJ _ _ ?_ | (with_reducible refine hJ _ _ ?_ ?_; · kernel_rfl)); clear hJ hKC KC J) | ((with_reducible refine zG ?_ ?_); · rfl) | ((with_reducible refine zH ?_ ?_); · rfl)
  refine zE ?_
  simp (maxSteps := 9999999) only [push_cast, seval, ↓reduceIte, show Tryz.f51.results = #[(.cell 6 30), (.cell 7 39), (.tmp 8)] from rfl]
  exact Lq
def zHb (ns : List ByteArray) (us : List Nat) (sp : Sp) (o : Int) (d : Dr) : Dr × Sta × Sta × Int :=
 if (zCa ns us sp d).2.2 = 0 then
  if (zDB ns us sp o (zCa ns us sp d).2.1 (zCa ns us sp d).1).2.2 = 0 then ((zDB ns us sp o (zCa ns us sp d).2.1 (zCa ns us sp d).1).1, (zCa ns us sp d).2.1, (zDB ns us sp o (zCa ns us sp d).2.1 (zCa ns us sp d).1).2.1, 0)
  else (Dr.z, Sta.z, Sta.z, (zDB ns us sp o (zCa ns us sp d).2.1 (zCa ns us sp d).1).2.2)
 else (Dr.z, Sta.z, Sta.z, (zCa ns us sp d).2.2)
theorem zTS (f g : Bool) (ns : List ByteArray) (us : List Nat) (sp : Sp) (o : Int) (d : Dr) (hs : Szs ns) (hu : U32 us) (hw : sp.ws.length ≤ 1000) (hg : (zCa ns us sp d).2.2 = 0 → Sml (zCa ns us sp d).2.1) :
  Fn Tryz.prog 45 [.agg [.sl f 1 (zS ns), .sl g 1 (zQ us)], .agg (spF false sp), .v (.int .i64 o), zBC false false d] [] (.tup [zBC false false (zHb ns us sp o d).1, .agg (zAO false false false false (zHb ns us sp o d).2.1), .agg (zAO false false false false (zHb ns us sp o d).2.2.1), .v (.int .i64 (zHb ns us sp o d).2.2.2)]) [] := by
 have h1 := zHa f g ns us sp d hs hu hw
 unfold zHb
 obtain ⟨⟨d1, s, e⟩, hG⟩ : ∃ r, zCa ns us sp d = r := ⟨_, rfl⟩
 rw [hG] at h1 hg ⊢
 simp only at h1 hg ⊢
 by_cases e0 : e = 0
 ·have h2 := zTc f g ns us sp o s d1 hs hu hw (hg e0)
  subst e0
  obtain ⟨⟨d2, t, e2⟩, hV⟩ : ∃ r, zDB ns us sp o s d1 = r := ⟨_, rfl⟩
  rw [hV] at h2 ⊢
  rw [if_pos rfl]
  simp only [spF, zBC, zAO] at h1 h2 ⊢
  by_cases e3 : e2 = 0
  ·subst e3
   rw [if_pos rfl]
   refine Fn.of (fn := Tryz.f45) (by kernel_rfl) rfl (by kernel_rfl) ⟨[.agg [.sl f 1 (zS ns), .sl g 1 (zQ us)], .agg [.v (.int .i64 sp.code), .v (.int .i64 sp.mem), .v (.int .i64 sp.stack), .v (.int .i64 sp.val), .sl false 1 (zM sp.ws)], .v (.int .i64 o), .agg [.sl false 1 (zM d.l), .v (.int .i64 d.a), .sl false 1 (zM d.g)], .v undef, .v undef, .v undef, .v undef, .v undef, .v undef, .v undef, .v undef, .v undef, .v undef, .v undef, .v undef, .v undef, .v undef, .v undef, .v undef, .v undef, .v undef, .v undef, .v undef, .v undef, .v undef, .v undef, .v undef, .v undef, .v undef, .v undef, .v undef, .v undef, .v undef, .v undef, .v undef, .v undef, .v undef, .v undef, .v undef, .v undef, .v undef, .v undef, .v undef, .v undef, .v undef, .v undef, .v undef], []⟩ rfl ?_
   repeat' first | (with_reducible first | refine zA ?_ | refine zB ?_ | refine zF ?_ | refine zJ ?_) | ((first | with_reducible refine zC fun KC J hJ hKC => ?_ | with_reducible refine zY rfl fun KC J hJ hKC => ?_ | (refine hKC _ _ _ _ _ (zD (h1) rfl rfl rfl ?_ ?_); (· exact Lq)) | (refine hKC _ _ _ _ _ (zD (h2) rfl rfl rfl ?_ ?_); (· exact Lq))); simp (maxSteps := 9999999) only [push_cast, seval, ↓reduceIte, bne_self_eq_false]) | ((first | with_reducible refine hJ _ _ ?_ | (with_reducible refine hJ _ _ ?_ ?_; · kernel_rfl)); clear hJ hKC KC J) | ((with_reducible refine zH ?_ ?_); · rfl)
   refine zE ?_
   simp (maxSteps := 9999999) only [push_cast, seval, ↓reduceIte, show Tryz.f45.results = #[(.cell 8 30), (.cell 9 39), (.cell 10 39), (.tmp 11)] from rfl]
   exact Lq
  ·have e3' : (e2 != 0) = true := by simpa using e3
   rw [if_neg e3]
   refine Fn.of (fn := Tryz.f45) (by kernel_rfl) rfl (by kernel_rfl) ⟨[.agg [.sl f 1 (zS ns), .sl g 1 (zQ us)], .agg [.v (.int .i64 sp.code), .v (.int .i64 sp.mem), .v (.int .i64 sp.stack), .v (.int .i64 sp.val), .sl false 1 (zM sp.ws)], .v (.int .i64 o), .agg [.sl false 1 (zM d.l), .v (.int .i64 d.a), .sl false 1 (zM d.g)], .v undef, .v undef, .v undef, .v undef, .v undef, .v undef, .v undef, .v undef, .v undef, .v undef, .v undef, .v undef, .v undef, .v undef, .v undef, .v undef, .v undef, .v undef, .v undef, .v undef, .v undef, .v undef, .v undef, .v undef, .v undef, .v undef, .v undef, .v undef, .v undef, .v undef, .v undef, .v undef, .v undef, .v undef, .v undef, .v undef, .v undef, .v undef, .v undef, .v undef, .v undef, .v undef, .v undef, .v undef], []⟩ rfl ?_
   repeat' first | (with_reducible first | refine zA ?_ | refine zB ?_ | refine zb ?_ | refine zF ?_ | refine zJ ?_) | ((first | with_reducible refine zC fun KC J hJ hKC => ?_ | (refine hKC _ _ _ _ _ (zD (h1) rfl rfl rfl ?_ ?_); (· exact Lq)) | (refine hKC _ _ _ _ _ (zD (h2) rfl rfl rfl ?_ ?_); (· exact Lq))); simp (maxSteps := 9999999) only [push_cast, seval, ↓reduceIte, bne_self_eq_false, e3']) | ((with_reducible refine hJ _ _ ?_); clear hJ hKC KC J) | ((with_reducible refine zG ?_ ?_); · rfl) | ((with_reducible refine zH ?_ ?_); · rfl)
   refine zE ?_
   simp (maxSteps := 9999999) only [push_cast, seval, ↓reduceIte, show Tryz.f45.results = #[(.cell 8 30), (.cell 9 39), (.cell 10 39), (.tmp 11)] from rfl]
   exact Lq
 ·have e0' : (e != 0) = true := by simpa using e0
  rw [if_neg e0]
  simp only [spF, zBC, zAO] at h1 ⊢
  refine Fn.of (fn := Tryz.f45) (by kernel_rfl) rfl (by kernel_rfl) ⟨[.agg [.sl f 1 (zS ns), .sl g 1 (zQ us)], .agg [.v (.int .i64 sp.code), .v (.int .i64 sp.mem), .v (.int .i64 sp.stack), .v (.int .i64 sp.val), .sl false 1 (zM sp.ws)], .v (.int .i64 o), .agg [.sl false 1 (zM d.l), .v (.int .i64 d.a), .sl false 1 (zM d.g)], .v undef, .v undef, .v undef, .v undef, .v undef, .v undef, .v undef, .v undef, .v undef, .v undef, .v undef, .v undef, .v undef, .v undef, .v undef, .v undef, .v undef, .v undef, .v undef, .v undef, .v undef, .v undef, .v undef, .v undef, .v undef, .v undef, .v undef, .v undef, .v undef, .v undef, .v undef, .v undef, .v undef, .v undef, .v undef, .v undef, .v undef, .v undef, .v undef, .v undef, .v undef, .v undef, .v undef, .v undef], []⟩ rfl ?_
  repeat' first | (with_reducible first | refine zA ?_ | refine zB ?_ | refine zb ?_ | refine zF ?_) | ((first | with_reducible refine zC fun KC J hJ hKC => ?_ | (refine hKC _ _ _ _ _ (zD (h1) rfl rfl rfl ?_ ?_); (· exact Lq))); simp (maxSteps := 9999999) only [push_cast, seval, ↓reduceIte, e0']) | ((with_reducible refine hJ _ _ ?_); clear hJ hKC KC J) | ((with_reducible refine zG ?_ ?_); · rfl)
  refine zE ?_
  simp (maxSteps := 9999999) only [push_cast, seval, ↓reduceIte, show Tryz.f45.results = #[(.cell 8 30), (.cell 9 39), (.cell 10 39), (.tmp 11)] from rfl]
  exact Lq
end Go.Proofs.YtabliglgeiajlaaGreat.AM
