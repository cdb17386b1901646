/- What was put out, told. -/
import Derived.Test.YtabliglgeiajlaaO1
import Derived.Test.YtabliglgeiajlaaTA
set_option linter.unusedSimpArgs false
set_option linter.unusedVariables false
namespace Go.Proofs.Ytabliglgeiajlaa.AM
open Go Go.RowKit Go.Proofs
set_option maxRecDepth 100000
set_option maxHeartbeats 1000000

/-- What is put out, told. -/
theorem outsApi_fn (f g fa fb : Bool) (ns : List ByteArray) (us : List Nat) (o : Int) (xs ys : List (Int × Int)) (hs : Szs ns) (hu : U32 us) (hxl : xs.length ≤ 100) (hyl : ys.length ≤ 100) :
    Fn Try.prog 56 [.agg [.sl f 1 (strRow ns), .sl g 1 (u32Row us)], .v (.int .i64 o), .sl fa 2 (pRow xs), .sl fb 2 (pRow ys)] [] (.tup [.v (.bool (decide (may2A ns us o xs ys = 0) && decide (xs.filter (keepA us o.toNat) = ys.filter (keepA us o.toNat)))), .v (.int .i64 (may2A ns us o xs ys))]) [] := by
  have hlab := labelsA_fn true [(fa, xs), (fb, ys)] (by rw [labs2A_eq]; simp [labs2A]; omega) (by simp) (by intro r hr; simp at hr; rcases hr with rfl | rfl <;> simp <;> omega)
  rw [labs2A_eq] at hlab
  have hLl : (labs2A xs ys).length ≤ 200 := by simp [labs2A]; omega
  obtain ⟨m, hm⟩ : ∃ m, may2A ns us o xs ys = m := ⟨_, rfl⟩
  have hal : m = 0 → Fn Try.prog 133 [.agg [.sl f 1 (strRow ns), .sl g 1 (u32Row us), .v (.int .i64 o)], .sl fa 2 (pRow xs), .sl fb 2 (pRow ys)] [] (.v (.bool (decide (xs.filter (keepA us o.toNat) = ys.filter (keepA us o.toNat))))) [] := fun h0 => by
    obtain ⟨h1, ⟨b, rfl, h2⟩, h3, h4⟩ := may2A_ok (hm.trans h0)
    rw [Int.toNat_natCast]
    exact outs_fn f g fa fb ns us b xs ys hs hu h1 h2 (by omega) (by omega) h3 h4
  have hm' : mayF ns us (labs2A xs ys ++ [o]) = m := hm
  rw [hm]
  obtain ⟨L, hL⟩ : ∃ L, labs2A xs ys = L := ⟨_, rfl⟩
  rw [hL] at hlab hLl hm'
  have hmk : ∀ ge, Fn Try.prog 131 [.agg [.sl f 1 (strRow ns), .sl g 1 (u32Row us)], .ref 0 ge (L.length + 1)] [.ent ⟨ge, some 1, 3, cellI L ++ [.v (.int .i64 o)], .cells⟩] (.v (.int .i64 m)) [.dead] := fun ge => by
    have := mayK_fn f g ns us (L ++ [o]) ge (L.length + 1) (by simp) hs hu (by simp; omega)
    rw [cellI_app, hm'] at this
    exact this
  refine Fn.of (fn := Try.f56) (by kernel_rfl) rfl (by kernel_rfl) ⟨[.agg [.sl f 1 (strRow ns), .sl g 1 (u32Row us)], .v (.int .i64 o), .sl fa 2 (pRow xs), .sl fb 2 (pRow ys), .v undef, .v undef, .v undef, .v undef, .v undef, .v undef, .v undef, .v undef, .v undef, .v undef, .v undef, .v undef, .v undef, .v undef, .v undef, .v undef, .v undef, .v undef, .v undef, .v undef, .v undef, .v undef, .v undef, .v undef, .v undef, .v undef], []⟩ rfl ?_
  obtain ⟨z, hz⟩ : ∃ z, (m != 0) = z := ⟨_, rfl⟩
  have hdz : decide (m = 0) = !z := by rw [← hz]; by_cases h : m = 0 <;> simp [h]
  rw [hdz]
  have hz0 : z = false → m = 0 := fun h => by rw [h] at hz; simpa using hz
  rcases Nat.eq_zero_or_pos L.length with h0 | h0
  · have hL0 : L = [] := List.eq_nil_of_length_eq_zero h0
    subst hL0
    have e1 : lD [] = .v (.slice none 0 0) := rfl
    have e2 : lOut [] = [] := rfl
    rw [e1, e2] at hlab
    cases z
    case false =>
      have hal := hal (hz0 rfl)
      have hm0 := hz0 rfl
      repeat' first | (with_reducible first | refine AWP_seq' ?_ | refine k_normal ?_ | refine AWP_ret ?_ | refine AWP_skip ?_) | ((with_reducible first | refine AWP_reg fun KC J hJ hKC => ?_ | refine AWP_regD rfl fun KC J hJ hKC => ?_); simp (maxSteps := 10000000) only [push_cast, seval, ↓reduceIte, hz, backOf, callSets, renSlot, pick, mOf, idx]) | (refine' hKC _ _ _ _ _ (callV0 (kindA_fn) rfl rfl rfl ?_ ?_); (· exact Lq); simp (maxSteps := 10000000) only [push_cast, seval, ↓reduceIte, hz, backOf, callSets, renSlot, pick, mOf, idx]) | (refine hKC _ _ _ _ _ (callV0 hlab rfl rfl rfl ⟨leD_refl _, leD_refl _, trivial⟩ ?_); simp (maxSteps := 10000000) only [push_cast, seval, ↓reduceIte, hz, backOf, callSets, renSlot, pick, mOf, idx]) | (refine hKC _ _ _ _ _ (callK [5] (hmk 0) rfl rfl rfl (by decide) (by simp) rfl (by simp only [push_cast, pick, mOf, idx, renSlot]; rfl) (by simp only [push_cast, mOf, idx]; exact ⟨leD_refl _, leD_refl _, trivial⟩) ?_); simp (maxSteps := 10000000) only [push_cast, seval, ↓reduceIte, hz, backOf, callSets, renSlot, pick, mOf, idx]) | (refine hKC _ _ _ _ _ (callV0 (hal) rfl rfl rfl ?_ ?_); (· exact Lq); simp (maxSteps := 10000000) only [push_cast, seval, ↓reduceIte, hz, backOf, callSets, renSlot, pick, mOf, idx]) | ((first | with_reducible refine hJ _ _ ?_ | (with_reducible refine hJ _ _ ?_ ?_; · kernel_rfl)); clear hJ hKC KC J) | ((with_reducible refine AWP_condF ?_ ?_); · rfl)
      refine ret_plain ?_
      simp (maxSteps := 10000000) only [push_cast, seval, ↓reduceIte, show Try.f56.results = #[(.tmp 8), (.tmp 9)] from rfl]
      rw [hm0]
      exact Lq
    repeat' first | (with_reducible first | refine AWP_seq' ?_ | refine k_normal ?_ | refine k_ret ?_ | refine AWP_ret ?_) | ((with_reducible first | refine AWP_reg fun KC J hJ hKC => ?_ | refine AWP_regD rfl fun KC J hJ hKC => ?_); simp (maxSteps := 10000000) only [push_cast, seval, ↓reduceIte, hz, backOf, callSets, renSlot, pick, mOf, idx]) | (refine' hKC _ _ _ _ _ (callV0 (kindA_fn) rfl rfl rfl ?_ ?_); (· exact Lq); simp (maxSteps := 10000000) only [push_cast, seval, ↓reduceIte, hz, backOf, callSets, renSlot, pick, mOf, idx]) | (refine hKC _ _ _ _ _ (callV0 hlab rfl rfl rfl ⟨leD_refl _, leD_refl _, trivial⟩ ?_); simp (maxSteps := 10000000) only [push_cast, seval, ↓reduceIte, hz, backOf, callSets, renSlot, pick, mOf, idx]) | (refine hKC _ _ _ _ _ (callK [5] (hmk 0) rfl rfl rfl (by decide) (by simp) rfl (by simp only [push_cast, pick, mOf, idx, renSlot]; rfl) (by simp only [push_cast, mOf, idx]; exact ⟨leD_refl _, leD_refl _, trivial⟩) ?_); simp (maxSteps := 10000000) only [push_cast, seval, ↓reduceIte, hz, backOf, callSets, renSlot, pick, mOf, idx]) | ((first | with_reducible refine hJ _ _ ?_ | (with_reducible refine hJ _ _ ?_ ?_; · kernel_rfl)); clear hJ hKC KC J) | ((with_reducible refine AWP_condT ?_ ?_); · rfl)
    refine ret_plain ?_
    simp (maxSteps := 10000000) only [push_cast, seval, ↓reduceIte, show Try.f56.results = #[(.tmp 8), (.tmp 9)] from rfl]
    exact Lq
  obtain ⟨q, hq⟩ : ∃ q, L.length = q + 1 := ⟨L.length - 1, by omega⟩
  have e1 : lD L = .ref 0 q (q + 1) := by unfold lD; rw [hq]; rfl
  have e2 : lOut L = [.ent ⟨q, some 1, 3, cellI L, .cells⟩] := by unfold lOut; rw [hq]; rfl
  rw [e1, e2] at hlab
  rw [hq] at hmk
  have hlC : (cellI L).length = q + 1 := by rw [cellI_length, hq]
  have htC := take_of hlC
  have htC' : (cellI L).take (q + 1) = cellI L := List.take_of_length_le (by omega)
  have hbm : Nat.beq q q = true := Nat.beq_refl q
  cases z
  case false =>
    have hal := hal (hz0 rfl)
    have hm0 := hz0 rfl
    repeat' first | (with_reducible first | refine AWP_seq' ?_ | refine k_normal ?_ | refine AWP_ret ?_ | refine AWP_skip ?_) | ((with_reducible first | refine AWP_reg fun KC J hJ hKC => ?_ | refine AWP_regD rfl fun KC J hJ hKC => ?_); simp (maxSteps := 10000000) only [push_cast, seval, ↓reduceIte, hz, backOf, callSets, renSlot, pick, mOf, idx, hlC, htC, htC', hbm, ren_cellI]) | ((with_reducible refine And.intro ?_ ?_); · exact Sq) | (refine' hKC _ _ _ _ _ (callV0 (kindA_fn) rfl rfl rfl ?_ ?_); (· exact Lq); simp (maxSteps := 10000000) only [push_cast, seval, ↓reduceIte, hz, backOf, callSets, renSlot, pick, mOf, idx, hlC, htC, htC', hbm, ren_cellI]) | (refine hKC _ _ _ _ _ (callN [] hlab rfl rfl rfl (by simp) (fun _ h => by cases h) rfl rfl rfl ⟨leD_refl _, leD_refl _, trivial⟩ ?_); simp (maxSteps := 10000000) only [push_cast, seval, ↓reduceIte, hz, backOf, callSets, renSlot, pick, mOf, idx, hlC, htC, htC', hbm, ren_cellI]) | (refine hKC _ _ _ _ _ (callK [3] (hmk (q + 1)) rfl rfl rfl (by decide) (by simp) rfl (by simp only [push_cast, pick, mOf, idx, renSlot, ren_cellI, List.map_append]) (by simp only [push_cast, mOf, idx]; exact ⟨leD_refl _, leD_refl _, trivial⟩) ?_); simp (maxSteps := 10000000) only [push_cast, seval, ↓reduceIte, hz, backOf, callSets, renSlot, pick, mOf, idx, hlC, htC, htC', hbm, ren_cellI]) | (refine hKC _ _ _ _ _ (callV0 (hal) rfl rfl rfl ?_ ?_); (· exact Lq); simp (maxSteps := 10000000) only [push_cast, seval, ↓reduceIte, hz, backOf, callSets, renSlot, pick, mOf, idx, hlC, htC, htC', hbm, ren_cellI]) | ((first | with_reducible refine hJ _ _ ?_ | (with_reducible refine hJ _ _ ?_ ?_; · kernel_rfl)); clear hJ hKC KC J) | ((with_reducible refine AWP_condF ?_ ?_); · rfl)
    refine ret_plain ?_
    simp (maxSteps := 10000000) only [push_cast, seval, ↓reduceIte, show Try.f56.results = #[(.tmp 8), (.tmp 9)] from rfl]
    rw [hm0]
    exact Lq
  repeat' first | (with_reducible first | refine AWP_seq' ?_ | refine k_normal ?_ | refine k_ret ?_ | refine AWP_ret ?_) | ((with_reducible first | refine AWP_reg fun KC J hJ hKC => ?_ | refine AWP_regD rfl fun KC J hJ hKC => ?_); simp (maxSteps := 10000000) only [push_cast, seval, ↓reduceIte, hz, backOf, callSets, renSlot, pick, mOf, idx, hlC, htC, htC', hbm, ren_cellI]) | ((with_reducible refine And.intro ?_ ?_); · exact Sq) | (refine' hKC _ _ _ _ _ (callV0 (kindA_fn) rfl rfl rfl ?_ ?_); (· exact Lq); simp (maxSteps := 10000000) only [push_cast, seval, ↓reduceIte, hz, backOf, callSets, renSlot, pick, mOf, idx, hlC, htC, htC', hbm, ren_cellI]) | (refine hKC _ _ _ _ _ (callN [] hlab rfl rfl rfl (by simp) (fun _ h => by cases h) rfl rfl rfl ⟨leD_refl _, leD_refl _, trivial⟩ ?_); simp (maxSteps := 10000000) only [push_cast, seval, ↓reduceIte, hz, backOf, callSets, renSlot, pick, mOf, idx, hlC, htC, htC', hbm, ren_cellI]) | (refine hKC _ _ _ _ _ (callK [3] (hmk (q + 1)) rfl rfl rfl (by decide) (by simp) rfl (by simp only [push_cast, pick, mOf, idx, renSlot, ren_cellI, List.map_append]) (by simp only [push_cast, mOf, idx]; exact ⟨leD_refl _, leD_refl _, trivial⟩) ?_); simp (maxSteps := 10000000) only [push_cast, seval, ↓reduceIte, hz, backOf, callSets, renSlot, pick, mOf, idx, hlC, htC, htC', hbm, ren_cellI]) | ((first | with_reducible refine hJ _ _ ?_ | (with_reducible refine hJ _ _ ?_ ?_; · kernel_rfl)); clear hJ hKC KC J) | ((with_reducible refine AWP_condT ?_ ?_); · rfl)
  refine ret_plain ?_
  simp (maxSteps := 10000000) only [push_cast, seval, ↓reduceIte, show Try.f56.results = #[(.tmp 8), (.tmp 9)] from rfl]
  exact Lq
end Go.Proofs.Ytabliglgeiajlaa.AM
