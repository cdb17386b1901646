/- Told: Slot. -/
import Derived.Test.YtabliglgeiajlaaGS
set_option linter.unusedSimpArgs false
set_option linter.unusedVariables false
namespace Go.Proofs.Ytabliglgeiajlaa.AM
open Go Go.RowKit Go.Proofs
set_option maxRecDepth 100000
set_option maxHeartbeats 1000000

def labs2S (xs ys : List (Bool × Int × Int)) : List Int := xs.map (·.2.2) ++ ys.map (·.2.2)
theorem labs2S_eq (fa fb : Bool) (xs ys : List (Bool × Int × Int)) : labsS [(fa, xs), (fb, ys)] = labs2S xs ys := by simp [labsS, labs2S]
/-- May labels of rows be looked at, and an observer's. -/
def may2S (ns : List ByteArray) (us : List Nat) (o : Int) (xs ys : List (Bool × Int × Int)) : Int := mayF ns us (labs2S xs ys ++ [o])
theorem may2S_ok {ns : List ByteArray} {us : List Nat} {o : Int} {xs ys : List (Bool × Int × Int)} (h : may2S ns us o xs ys = 0) : checkF ns us = 0 ∧ (∃ b : Nat, o = (b : Int) ∧ b < us.length) ∧ (∀ x ∈ xs, oddL us.length x.2.2 = false) ∧ ∀ x ∈ ys, oddL us.length x.2.2 = false := by
  unfold may2S mayF at h
  split at h
  · rename_i hc
    split at h
    · cases h
    · rename_i ha
      have ha' : (labs2S xs ys ++ [o]).any (oddL us.length) = false := by simpa using ha
      rw [List.any_eq_false] at ha'
      refine ⟨hc, oddL_no (by simpa using ha' o (by simp)), fun x hx => by simpa using ha' _ (List.mem_append_left _ (List.mem_append_left _ (List.mem_map_of_mem hx))), fun x hx => by simpa using ha' _ (List.mem_append_left _ (List.mem_append_right _ (List.mem_map_of_mem hx)))⟩
  · rename_i hc; exact absurd h hc
theorem toldS_fn (f g fa fb : Bool) (ns : List ByteArray) (us : List Nat) (o : Int) (xs ys : List (Bool × Int × Int)) (hs : Szs ns) (hu : U32 us) (hxl : xs.length ≤ 100) (hyl : ys.length ≤ 100) :
    Fn Try.prog 129 [.agg [.sl f 1 (strRow ns), .sl g 1 (u32Row us)], .v (.int .i64 o), .agg fnsS, .sl fa 3 (sRow xs), .sl fb 3 (sRow ys)] [] (.tup [.v (.bool (decide (may2S ns us o xs ys = 0) && rowsBS (alS us o.toNat) xs ys)), .v (.int .i64 (may2S ns us o xs ys))]) [] := by
  have hlab := labelsS_fn true [(fa, xs), (fb, ys)] (by rw [labs2S_eq]; simp [labs2S]; omega) (by simp) (by intro r hr; simp at hr; rcases hr with rfl | rfl <;> simp <;> omega)
  rw [labs2S_eq] at hlab
  have hLl : (labs2S xs ys).length ≤ 200 := by simp [labs2S]; omega
  obtain ⟨m, hm⟩ : ∃ m, may2S ns us o xs ys = m := ⟨_, rfl⟩
  have hal : m = 0 → Fn Try.prog 161 [.agg [.sl f 1 (strRow ns), .sl g 1 (u32Row us), .v (.int .i64 o)], .agg fnsS, .sl fa 3 (sRow xs), .sl fb 3 (sRow ys)] [] (.v (.bool (rowsBS (alS us o.toNat) xs ys))) [] := fun h0 => by
    obtain ⟨h1, ⟨b, rfl, h2⟩, h3, _⟩ := may2S_ok (hm.trans h0)
    rw [Int.toNat_natCast]
    exact alikeS_fn f g fa fb ns us b xs ys hs hu h1 h2 (by omega) h3
  have hm' : mayF ns us (labs2S xs ys ++ [o]) = m := hm
  rw [hm]
  obtain ⟨L, hL⟩ : ∃ L, labs2S xs ys = L := ⟨_, rfl⟩
  rw [hL] at hlab hLl hm'
  have hmk : ∀ ge, Fn Try.prog 131 [.agg [.sl f 1 (strRow ns), .sl g 1 (u32Row us)], .ref 0 ge (L.length + 1)] [.ent ⟨ge, some 1, 3, cellI L ++ [.v (.int .i64 o)], .cells⟩] (.v (.int .i64 m)) [.dead] := fun ge => by
    have := mayK_fn f g ns us (L ++ [o]) ge (L.length + 1) (by simp) hs hu (by simp; omega)
    rw [cellI_app, hm'] at this
    exact this
  refine Fn.of (fn := Try.f129) (by kernel_rfl) rfl (by kernel_rfl) ⟨[.agg [.sl f 1 (strRow ns), .sl g 1 (u32Row us)], .v (.int .i64 o), .agg fnsS, .sl fa 3 (sRow xs), .sl fb 3 (sRow ys), .v undef, .v undef, .v undef, .v undef, .v undef, .v undef, .v undef, .v undef, .v undef, .v undef, .v undef, .v undef, .v undef, .v undef, .v undef, .v undef, .v undef, .v undef, .v undef, .v undef, .v undef, .v undef, .v undef, .v undef, .v undef, .v undef, .v undef, .v undef], []⟩ rfl ?_
  obtain ⟨z, hz⟩ : ∃ z, (m != 0) = z := ⟨_, rfl⟩
  have hdz : decide (m = 0) = !z := by rw [← hz]; by_cases h : m = 0 <;> simp [h]
  rw [hdz]
  have hz0 : z = false → m = 0 := fun h => by rw [h] at hz; simpa using hz
  rcases Nat.eq_zero_or_pos L.length with h0 | h0
  · have hL0 : L = [] := List.eq_nil_of_length_eq_zero h0
    subst hL0
    have e1 : lD [] = .v (.slice none 0 0) := rfl
    have e2 : lOut [] = [] := rfl
    rw [e1, e2] at hlab
    cases z
    case false =>
      have hal := hal (hz0 rfl)
      have hm0 := hz0 rfl
      repeat' first | (with_reducible first | refine AWP_seq' ?_ | refine k_normal ?_ | refine AWP_ret ?_ | refine AWP_skip ?_) | ((with_reducible first | refine AWP_reg fun KC J hJ hKC => ?_ | refine AWP_regD rfl fun KC J hJ hKC => ?_); simp (maxSteps := 10000000) only [push_cast, seval, ↓reduceIte, hz, backOf, callSets, renSlot, pick, mOf, idx]) | (refine hKC _ _ _ _ _ (callV0 hlab rfl rfl rfl ⟨leD_refl _, leD_refl _, trivial⟩ ?_); simp (maxSteps := 10000000) only [push_cast, seval, ↓reduceIte, hz, backOf, callSets, renSlot, pick, mOf, idx]) | (refine hKC _ _ _ _ _ (callK [5] (hmk 0) rfl rfl rfl (by decide) (by simp) rfl (by simp only [push_cast, pick, mOf, idx, renSlot]; rfl) (by simp only [push_cast, mOf, idx]; exact ⟨leD_refl _, leD_refl _, trivial⟩) ?_); simp (maxSteps := 10000000) only [push_cast, seval, ↓reduceIte, hz, backOf, callSets, renSlot, pick, mOf, idx]) | (refine hKC _ _ _ _ _ (callV0 (hal) rfl rfl rfl ?_ ?_); (· exact Lq); simp (maxSteps := 10000000) only [push_cast, seval, ↓reduceIte, hz, backOf, callSets, renSlot, pick, mOf, idx]) | ((first | with_reducible refine hJ _ _ ?_ | (with_reducible refine hJ _ _ ?_ ?_; · kernel_rfl)); clear hJ hKC KC J) | ((with_reducible refine AWP_condF ?_ ?_); · rfl)
      refine ret_plain ?_
      simp (maxSteps := 10000000) only [push_cast, seval, ↓reduceIte, show Try.f129.results = #[(.tmp 10), (.tmp 11)] from rfl]
      rw [hm0]
      exact Lq
    repeat' first | (with_reducible first | refine AWP_seq' ?_ | refine k_normal ?_ | refine k_ret ?_ | refine AWP_ret ?_) | ((with_reducible first | refine AWP_reg fun KC J hJ hKC => ?_ | refine AWP_regD rfl fun KC J hJ hKC => ?_); simp (maxSteps := 10000000) only [push_cast, seval, ↓reduceIte, hz, backOf, callSets, renSlot, pick, mOf, idx]) | (refine hKC _ _ _ _ _ (callV0 hlab rfl rfl rfl ⟨leD_refl _, leD_refl _, trivial⟩ ?_); simp (maxSteps := 10000000) only [push_cast, seval, ↓reduceIte, hz, backOf, callSets, renSlot, pick, mOf, idx]) | (refine hKC _ _ _ _ _ (callK [5] (hmk 0) rfl rfl rfl (by decide) (by simp) rfl (by simp only [push_cast, pick, mOf, idx, renSlot]; rfl) (by simp only [push_cast, mOf, idx]; exact ⟨leD_refl _, leD_refl _, trivial⟩) ?_); simp (maxSteps := 10000000) only [push_cast, seval, ↓reduceIte, hz, backOf, callSets, renSlot, pick, mOf, idx]) | ((first | with_reducible refine hJ _ _ ?_ | (with_reducible refine hJ _ _ ?_ ?_; · kernel_rfl)); clear hJ hKC KC J) | ((with_reducible refine AWP_condT ?_ ?_); · rfl)
    refine ret_plain ?_
    simp (maxSteps := 10000000) only [push_cast, seval, ↓reduceIte, show Try.f129.results = #[(.tmp 10), (.tmp 11)] from rfl]
    exact Lq
  obtain ⟨q, hq⟩ : ∃ q, L.length = q + 1 := ⟨L.length - 1, by omega⟩
  have e1 : lD L = .ref 0 q (q + 1) := by unfold lD; rw [hq]; rfl
  have e2 : lOut L = [.ent ⟨q, some 1, 3, cellI L, .cells⟩] := by unfold lOut; rw [hq]; rfl
  rw [e1, e2] at hlab
  rw [hq] at hmk
  have hlC : (cellI L).length = q + 1 := by rw [cellI_length, hq]
  have htC := take_of hlC
  have htC' : (cellI L).take (q + 1) = cellI L := List.take_of_length_le (by omega)
  have hbm : Nat.beq q q = true := Nat.beq_refl q
  cases z
  case false =>
    have hal := hal (hz0 rfl)
    have hm0 := hz0 rfl
    repeat' first | (with_reducible first | refine AWP_seq' ?_ | refine k_normal ?_ | refine AWP_ret ?_ | refine AWP_skip ?_) | ((with_reducible first | refine AWP_reg fun KC J hJ hKC => ?_ | refine AWP_regD rfl fun KC J hJ hKC => ?_); simp (maxSteps := 10000000) only [push_cast, seval, ↓reduceIte, hz, backOf, callSets, renSlot, pick, mOf, idx, hlC, htC, htC', hbm, ren_cellI]) | ((with_reducible refine And.intro ?_ ?_); · exact Sq) | (refine hKC _ _ _ _ _ (callN [] hlab rfl rfl rfl (by simp) (fun _ h => by cases h) rfl rfl rfl ⟨leD_refl _, leD_refl _, trivial⟩ ?_); simp (maxSteps := 10000000) only [push_cast, seval, ↓reduceIte, hz, backOf, callSets, renSlot, pick, mOf, idx, hlC, htC, htC', hbm, ren_cellI]) | (refine hKC _ _ _ _ _ (callK [3] (hmk (q + 1)) rfl rfl rfl (by decide) (by simp) rfl (by simp only [push_cast, pick, mOf, idx, renSlot, ren_cellI, List.map_append]) (by simp only [push_cast, mOf, idx]; exact ⟨leD_refl _, leD_refl _, trivial⟩) ?_); simp (maxSteps := 10000000) only [push_cast, seval, ↓reduceIte, hz, backOf, callSets, renSlot, pick, mOf, idx, hlC, htC, htC', hbm, ren_cellI]) | (refine hKC _ _ _ _ _ (callV0 (hal) rfl rfl rfl ?_ ?_); (· exact Lq); simp (maxSteps := 10000000) only [push_cast, seval, ↓reduceIte, hz, backOf, callSets, renSlot, pick, mOf, idx, hlC, htC, htC', hbm, ren_cellI]) | ((first | with_reducible refine hJ _ _ ?_ | (with_reducible refine hJ _ _ ?_ ?_; · kernel_rfl)); clear hJ hKC KC J) | ((with_reducible refine AWP_condF ?_ ?_); · rfl)
    refine ret_plain ?_
    simp (maxSteps := 10000000) only [push_cast, seval, ↓reduceIte, show Try.f129.results = #[(.tmp 10), (.tmp 11)] from rfl]
    rw [hm0]
    exact Lq
  repeat' first | (with_reducible first | refine AWP_seq' ?_ | refine k_normal ?_ | refine k_ret ?_ | refine AWP_ret ?_) | ((with_reducible first | refine AWP_reg fun KC J hJ hKC => ?_ | refine AWP_regD rfl fun KC J hJ hKC => ?_); simp (maxSteps := 10000000) only [push_cast, seval, ↓reduceIte, hz, backOf, callSets, renSlot, pick, mOf, idx, hlC, htC, htC', hbm, ren_cellI]) | ((with_reducible refine And.intro ?_ ?_); · exact Sq) | (refine hKC _ _ _ _ _ (callN [] hlab rfl rfl rfl (by simp) (fun _ h => by cases h) rfl rfl rfl ⟨leD_refl _, leD_refl _, trivial⟩ ?_); simp (maxSteps := 10000000) only [push_cast, seval, ↓reduceIte, hz, backOf, callSets, renSlot, pick, mOf, idx, hlC, htC, htC', hbm, ren_cellI]) | (refine hKC _ _ _ _ _ (callK [3] (hmk (q + 1)) rfl rfl rfl (by decide) (by simp) rfl (by simp only [push_cast, pick, mOf, idx, renSlot, ren_cellI, List.map_append]) (by simp only [push_cast, mOf, idx]; exact ⟨leD_refl _, leD_refl _, trivial⟩) ?_); simp (maxSteps := 10000000) only [push_cast, seval, ↓reduceIte, hz, backOf, callSets, renSlot, pick, mOf, idx, hlC, htC, htC', hbm, ren_cellI]) | ((first | with_reducible refine hJ _ _ ?_ | (with_reducible refine hJ _ _ ?_ ?_; · kernel_rfl)); clear hJ hKC KC J) | ((with_reducible refine AWP_condT ?_ ?_); · rfl)
  refine ret_plain ?_
  simp (maxSteps := 10000000) only [push_cast, seval, ↓reduceIte, show Try.f129.results = #[(.tmp 10), (.tmp 11)] from rfl]
  exact Lq
theorem apiS_fn (f g fa fb : Bool) (ns : List ByteArray) (us : List Nat) (o : Int) (xs ys : List (Bool × Int × Int)) (hs : Szs ns) (hu : U32 us) (hxl : xs.length ≤ 100) (hyl : ys.length ≤ 100) :
    Fn Try.prog 55 [.agg [.sl f 1 (strRow ns), .sl g 1 (u32Row us)], .v (.int .i64 o), .sl fa 3 (sRow xs), .sl fb 3 (sRow ys)] [] (.tup [.v (.bool (decide (may2S ns us o xs ys = 0) && rowsBS (alS us o.toNat) xs ys)), .v (.int .i64 (may2S ns us o xs ys))]) [] := by
  have htd := toldS_fn f g fa fb ns us o xs ys hs hu hxl hyl
  obtain ⟨m, hm⟩ : ∃ m, may2S ns us o xs ys = m := ⟨_, rfl⟩
  obtain ⟨b, hb⟩ : ∃ b, (decide (m = 0) && rowsBS (alS us o.toNat) xs ys) = b := ⟨_, rfl⟩
  rw [hm, hb] at htd ⊢
  refine Fn.of (fn := Try.f55) (by kernel_rfl) rfl (by kernel_rfl) ⟨[.agg [.sl f 1 (strRow ns), .sl g 1 (u32Row us)], .v (.int .i64 o), .sl fa 3 (sRow xs), .sl fb 3 (sRow ys), .v undef, .v undef, .v undef, .v undef, .v undef, .v undef, .v undef, .v undef, .v undef, .v undef, .v undef, .v undef, .v undef, .v undef], []⟩ rfl ?_
  repeat' first | (with_reducible first | refine AWP_seq' ?_ | refine k_normal ?_ | refine AWP_ret ?_) | ((with_reducible first | refine AWP_reg fun KC J hJ hKC => ?_ | refine AWP_regD rfl fun KC J hJ hKC => ?_); simp (maxSteps := 10000000) only [push_cast, seval, ↓reduceIte, hm, hb]) | (refine' hKC _ _ _ _ _ (callV0 (kindS_fn) rfl rfl rfl ?_ ?_); (· exact Lq); simp (maxSteps := 10000000) only [push_cast, seval, ↓reduceIte, hm, hb]) | (refine' hKC _ _ _ _ _ (callV0 (toldS_fn _ _ _ _ _ _ _ _ _ ?_ ?_ ?_ ?_) rfl rfl rfl ?_ ?_); (rotate_left 13); (· exact Lq); (rotate_left 1); (iterate 4 (· exact Hq)); simp (maxSteps := 10000000) only [push_cast, seval, ↓reduceIte, hm, hb]) | ((first | with_reducible refine hJ _ _ ?_ | (with_reducible refine hJ _ _ ?_ ?_; · kernel_rfl)); clear hJ hKC KC J)
  refine ret_plain ?_
  simp (maxSteps := 10000000) only [push_cast, seval, ↓reduceIte, show Try.f55.results = #[(.tmp 8), (.tmp 9)] from rfl]
  exact Lq
end Go.Proofs.Ytabliglgeiajlaa.AM
