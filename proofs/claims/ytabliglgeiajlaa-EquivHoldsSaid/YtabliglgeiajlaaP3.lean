/- Stacks cropped, and states: are they alike. -/
import Derived.Test.YtabliglgeiajlaaP2
import Derived.Test.YtabliglgeiajlaaN3
import Derived.Test.YtabliglgeiajlaaO2
set_option linter.unusedSimpArgs false
set_option linter.unusedVariables false
namespace Go.Proofs.Ytabliglgeiajlaa.AM
open Go Go.RowKit Go.Proofs
set_option maxRecDepth 100000
set_option maxHeartbeats 1000000

def labs1S (s : List (Bool × Int × Int)) : List Int := s.map (·.2.2)
theorem labs1S_eq (f : Bool) (s : List (Bool × Int × Int)) : labsS [(f, s)] = labs1S s := by simp [labsS, labs1S]
def may1S (ns : List ByteArray) (us : List Nat) (o : Int) (s : List (Bool × Int × Int)) : Int := mayF ns us (labs1S s ++ [o])
def cropM (ns : List ByteArray) (us : List Nat) (o : Int) (s : List (Bool × Int × Int)) : List (Bool × Int × Int) := if may1S ns us o s = 0 then cropS us o.toNat s else []
theorem mayF_ok {ns : List ByteArray} {us : List Nat} {L : List Int} (h : mayF ns us L = 0) : checkF ns us = 0 ∧ ∀ x ∈ L, oddL us.length x = false := by
  unfold mayF at h
  split at h
  · rename_i hc
    split at h
    · cases h
    · rename_i ha
      have ha' : L.any (oddL us.length) = false := by simpa using ha
      rw [List.any_eq_false] at ha'
      exact ⟨hc, fun x hx => by simpa using ha' x hx⟩
  · rename_i hc; exact absurd h hc
set_option maxHeartbeats 4000000 in
theorem apiCrop_fn (f g fa : Bool) (ns : List ByteArray) (us : List Nat) (o : Int) (s : List (Bool × Int × Int)) (hs : Szs ns) (hu : U32 us) (hl : s.length ≤ 100) :
    Fn Try.prog 72 [.agg [.sl f 1 (strRow ns), .sl g 1 (u32Row us)], .v (.int .i64 o), .sl fa 3 (sRow s)] [] (.tup [.sl false 3 (sRow (cropM ns us o s)), .v (.int .i64 (may1S ns us o s))]) [] := by
  have hlab := labelsS_fn true [(fa, s)] (by rw [labs1S_eq]; simp [labs1S]; omega) (by simp) (by intro r hr; simp at hr; subst hr; simp; omega)
  rw [labs1S_eq] at hlab
  have hLl : (labs1S s).length ≤ 200 := by simp [labs1S]; omega
  have hrow : rowsS [(fa, s)] = [[.sl fa 3 (sRow s)]] := rfl
  rw [hrow] at hlab
  obtain ⟨m, hm⟩ : ∃ m, may1S ns us o s = m := ⟨_, rfl⟩
  have hcr : m = 0 → Fn Try.prog 162 [.agg [.sl f 1 (strRow ns), .sl g 1 (u32Row us), .v (.int .i64 o)], .sl fa 3 (sRow s)] [] (.sl false 3 (sRow (cropS us o.toNat s))) [] := fun h0 => by
    obtain ⟨h1, h2⟩ := mayF_ok (hm.trans h0)
    obtain ⟨b, rfl, hb⟩ := oddL_no (h2 o (by simp))
    rw [Int.toNat_natCast]
    exact crop_fn f g fa ns us b s hs hu h1 hb (by omega) (fun x hx => h2 _ (List.mem_append_left _ (List.mem_map_of_mem hx)))
  have hm' : mayF ns us (labs1S s ++ [o]) = m := hm
  rw [cropM, hm]
  obtain ⟨L, hL⟩ : ∃ L, labs1S s = L := ⟨_, rfl⟩
  rw [hL] at hlab hLl hm'
  have hmk : ∀ ge, Fn Try.prog 131 [.agg [.sl f 1 (strRow ns), .sl g 1 (u32Row us)], .ref 0 ge (L.length + 1)] [.ent ⟨ge, some 1, 3, cellI L ++ [.v (.int .i64 o)], .cells⟩] (.v (.int .i64 m)) [.dead] := fun ge => by
    have := mayK_fn f g ns us (L ++ [o]) ge (L.length + 1) (by simp) hs hu (by simp; omega)
    rw [cellI_app, hm'] at this
    exact this
  refine Fn.of (fn := Try.f72) (by kernel_rfl) rfl (by kernel_rfl) ⟨[.agg [.sl f 1 (strRow ns), .sl g 1 (u32Row us)], .v (.int .i64 o), .sl fa 3 (sRow s), .v undef, .v undef, .v undef, .v undef, .v undef, .v undef, .v undef, .v undef, .v undef, .v undef, .v undef, .v undef, .v undef, .v undef, .v undef, .v undef, .v undef, .v undef, .v undef, .v undef, .v undef, .v undef, .v undef], []⟩ rfl ?_
  obtain ⟨z, hz⟩ : ∃ z, (m != 0) = z := ⟨_, rfl⟩
  have hz0 : z = false → m = 0 := fun h => by rw [h] at hz; simpa using hz
  have hz1 : z = true → ¬ m = 0 := fun h => by rw [h] at hz; simpa using hz
  rcases Nat.eq_zero_or_pos L.length with h0 | h0
  · have hL0 : L = [] := List.eq_nil_of_length_eq_zero h0
    subst hL0
    have e1 : lD [] = .v (.slice none 0 0) := rfl
    have e2 : lOut [] = [] := rfl
    rw [e1, e2] at hlab
    cases z
    case false =>
      have hcr := hcr (hz0 rfl)
      have hm0 := hz0 rfl
      rw [if_pos hm0]
      repeat' first | (with_reducible first | refine AWP_seq' ?_ | refine k_normal ?_ | refine AWP_ret ?_ | refine AWP_skip ?_) | ((with_reducible first | refine AWP_reg fun KC J hJ hKC => ?_ | refine AWP_regD rfl fun KC J hJ hKC => ?_); simp (maxSteps := 10000000) only [push_cast, seval, ↓reduceIte, hz, backOf, callSets, renSlot, pick, mOf, idx]) | (refine' hKC _ _ _ _ _ (callV0 (kindS_fn) rfl rfl rfl ?_ ?_); (· exact Lq); simp (maxSteps := 10000000) only [push_cast, seval, ↓reduceIte, hz, backOf, callSets, renSlot, pick, mOf, idx]) | (refine hKC _ _ _ _ _ (callV0 hlab rfl rfl rfl ⟨leD_refl _, leD_refl _, trivial⟩ ?_); simp (maxSteps := 10000000) only [push_cast, seval, ↓reduceIte, hz, backOf, callSets, renSlot, pick, mOf, idx]) | (refine hKC _ _ _ _ _ (callK [5] (hmk 0) rfl rfl rfl (by decide) (by simp) rfl (by simp only [push_cast, pick, mOf, idx, renSlot]; rfl) (by simp only [push_cast, mOf, idx]; exact ⟨leD_refl _, leD_refl _, trivial⟩) ?_); simp (maxSteps := 10000000) only [push_cast, seval, ↓reduceIte, hz, backOf, callSets, renSlot, pick, mOf, idx]) | (refine hKC _ _ _ _ _ (callV0 (hcr) rfl rfl rfl ?_ ?_); (· exact Lq); simp (maxSteps := 10000000) only [push_cast, seval, ↓reduceIte, hz, backOf, callSets, renSlot, pick, mOf, idx]) | ((first | with_reducible refine hJ _ _ ?_ | (with_reducible refine hJ _ _ ?_ ?_; · kernel_rfl)); clear hJ hKC KC J) | ((with_reducible refine AWP_condF ?_ ?_); · rfl)
      refine ret_plain ?_
      simp (maxSteps := 10000000) only [push_cast, seval, ↓reduceIte, show Try.f72.results = #[(.tmp 6), (.tmp 7)] from rfl]
      rw [hm0]
      exact Lq
    rw [if_neg (hz1 rfl)]
    repeat' first | (with_reducible first | refine AWP_seq' ?_ | refine k_normal ?_ | refine k_ret ?_ | refine AWP_ret ?_) | ((with_reducible first | refine AWP_reg fun KC J hJ hKC => ?_ | refine AWP_regD rfl fun KC J hJ hKC => ?_); simp (maxSteps := 10000000) only [push_cast, seval, ↓reduceIte, hz, backOf, callSets, renSlot, pick, mOf, idx]) | (refine' hKC _ _ _ _ _ (callV0 (kindS_fn) rfl rfl rfl ?_ ?_); (· exact Lq); simp (maxSteps := 10000000) only [push_cast, seval, ↓reduceIte, hz, backOf, callSets, renSlot, pick, mOf, idx]) | (refine hKC _ _ _ _ _ (callV0 hlab rfl rfl rfl ⟨leD_refl _, leD_refl _, trivial⟩ ?_); simp (maxSteps := 10000000) only [push_cast, seval, ↓reduceIte, hz, backOf, callSets, renSlot, pick, mOf, idx]) | (refine hKC _ _ _ _ _ (callK [5] (hmk 0) rfl rfl rfl (by decide) (by simp) rfl (by simp only [push_cast, pick, mOf, idx, renSlot]; rfl) (by simp only [push_cast, mOf, idx]; exact ⟨leD_refl _, leD_refl _, trivial⟩) ?_); simp (maxSteps := 10000000) only [push_cast, seval, ↓reduceIte, hz, backOf, callSets, renSlot, pick, mOf, idx]) | ((first | with_reducible refine hJ _ _ ?_ | (with_reducible refine hJ _ _ ?_ ?_; · kernel_rfl)); clear hJ hKC KC J) | ((with_reducible refine AWP_condT ?_ ?_); · rfl)
    refine ret_plain ?_
    simp (maxSteps := 10000000) only [push_cast, seval, ↓reduceIte, show Try.f72.results = #[(.tmp 6), (.tmp 7)] from rfl]
    exact Lq
  obtain ⟨q, hq⟩ : ∃ q, L.length = q + 1 := ⟨L.length - 1, by omega⟩
  have e1 : lD L = .ref 0 q (q + 1) := by unfold lD; rw [hq]; rfl
  have e2 : lOut L = [.ent ⟨q, some 1, 3, cellI L, .cells⟩] := by unfold lOut; rw [hq]; rfl
  rw [e1, e2] at hlab
  rw [hq] at hmk
  have hlC : (cellI L).length = q + 1 := by rw [cellI_length, hq]
  have htC := take_of hlC
  have htC' : (cellI L).take (q + 1) = cellI L := List.take_of_length_le (by omega)
  have hbm : Nat.beq q q = true := Nat.beq_refl q
  cases z
  case false =>
    have hcr := hcr (hz0 rfl)
    have hm0 := hz0 rfl
    rw [if_pos hm0]
    repeat' first | (with_reducible first | refine AWP_seq' ?_ | refine k_normal ?_ | refine AWP_ret ?_ | refine AWP_skip ?_) | ((with_reducible first | refine AWP_reg fun KC J hJ hKC => ?_ | refine AWP_regD rfl fun KC J hJ hKC => ?_); simp (maxSteps := 10000000) only [push_cast, seval, ↓reduceIte, hz, backOf, callSets, renSlot, pick, mOf, idx, hlC, htC, htC', hbm, ren_cellI]) | ((with_reducible refine And.intro ?_ ?_); · exact Sq) | (refine' hKC _ _ _ _ _ (callV0 (kindS_fn) rfl rfl rfl ?_ ?_); (· exact Lq); simp (maxSteps := 10000000) only [push_cast, seval, ↓reduceIte, hz, backOf, callSets, renSlot, pick, mOf, idx, hlC, htC, htC', hbm, ren_cellI]) | (refine hKC _ _ _ _ _ (callN [] hlab rfl rfl rfl (by simp) (fun _ h => by cases h) rfl rfl rfl ⟨leD_refl _, leD_refl _, trivial⟩ ?_); simp (maxSteps := 10000000) only [push_cast, seval, ↓reduceIte, hz, backOf, callSets, renSlot, pick, mOf, idx, hlC, htC, htC', hbm, ren_cellI]) | (refine hKC _ _ _ _ _ (callK [3] (hmk (q + 1)) rfl rfl rfl (by decide) (by simp) rfl (by simp only [push_cast, pick, mOf, idx, renSlot, ren_cellI, List.map_append]) (by simp only [push_cast, mOf, idx]; exact ⟨leD_refl _, leD_refl _, trivial⟩) ?_); simp (maxSteps := 10000000) only [push_cast, seval, ↓reduceIte, hz, backOf, callSets, renSlot, pick, mOf, idx, hlC, htC, htC', hbm, ren_cellI]) | (refine hKC _ _ _ _ _ (callV0 (hcr) rfl rfl rfl ?_ ?_); (· exact Lq); simp (maxSteps := 10000000) only [push_cast, seval, ↓reduceIte, hz, backOf, callSets, renSlot, pick, mOf, idx, hlC, htC, htC', hbm, ren_cellI]) | ((first | with_reducible refine hJ _ _ ?_ | (with_reducible refine hJ _ _ ?_ ?_; · kernel_rfl)); clear hJ hKC KC J) | ((with_reducible refine AWP_condF ?_ ?_); · rfl)
    refine ret_plain ?_
    simp (maxSteps := 10000000) only [push_cast, seval, ↓reduceIte, show Try.f72.results = #[(.tmp 6), (.tmp 7)] from rfl]
    rw [hm0]
    exact Lq
  rw [if_neg (hz1 rfl)]
  repeat' first | (with_reducible first | refine AWP_seq' ?_ | refine k_normal ?_ | refine k_ret ?_ | refine AWP_ret ?_) | ((with_reducible first | refine AWP_reg fun KC J hJ hKC => ?_ | refine AWP_regD rfl fun KC J hJ hKC => ?_); simp (maxSteps := 10000000) only [push_cast, seval, ↓reduceIte, hz, backOf, callSets, renSlot, pick, mOf, idx, hlC, htC, htC', hbm, ren_cellI]) | ((with_reducible refine And.intro ?_ ?_); · exact Sq) | (refine' hKC _ _ _ _ _ (callV0 (kindS_fn) rfl rfl rfl ?_ ?_); (· exact Lq); simp (maxSteps := 10000000) only [push_cast, seval, ↓reduceIte, hz, backOf, callSets, renSlot, pick, mOf, idx, hlC, htC, htC', hbm, ren_cellI]) | (refine hKC _ _ _ _ _ (callN [] hlab rfl rfl rfl (by simp) (fun _ h => by cases h) rfl rfl rfl ⟨leD_refl _, leD_refl _, trivial⟩ ?_); simp (maxSteps := 10000000) only [push_cast, seval, ↓reduceIte, hz, backOf, callSets, renSlot, pick, mOf, idx, hlC, htC, htC', hbm, ren_cellI]) | (refine hKC _ _ _ _ _ (callK [3] (hmk (q + 1)) rfl rfl rfl (by decide) (by simp) rfl (by simp only [push_cast, pick, mOf, idx, renSlot, ren_cellI, List.map_append]) (by simp only [push_cast, mOf, idx]; exact ⟨leD_refl _, leD_refl _, trivial⟩) ?_); simp (maxSteps := 10000000) only [push_cast, seval, ↓reduceIte, hz, backOf, callSets, renSlot, pick, mOf, idx, hlC, htC, htC', hbm, ren_cellI]) | ((first | with_reducible refine hJ _ _ ?_ | (with_reducible refine hJ _ _ ?_ ?_; · kernel_rfl)); clear hJ hKC KC J) | ((with_reducible refine AWP_condT ?_ ?_); · rfl)
  refine ret_plain ?_
  simp (maxSteps := 10000000) only [push_cast, seval, ↓reduceIte, show Try.f72.results = #[(.tmp 6), (.tmp 7)] from rfl]
  exact Lq
theorem equalS_fn (f g : Bool) (xs ys : List (Bool × Int × Int)) (hb : xs.length ≤ 1000) : Fn Try.prog 73 [.sl f 3 (sRow xs), .sl g 3 (sRow ys)] [] (.v (.bool (decide (xs = ys)))) [] := by
  refine Fn.of (fn := Try.f73) (by kernel_rfl) rfl (by kernel_rfl) ⟨[.sl f 3 (sRow xs), .sl g 3 (sRow ys), .v undef, .v undef, .v undef, .v undef, .v undef, .v undef, .v undef, .v undef, .v undef, .v undef, .v undef, .v undef, .v undef, .v undef, .v undef, .v undef, .v undef, .v undef, .v undef, .v undef, .v undef, .v undef, .v undef, .v undef], []⟩ rfl ?_
  by_cases hl : xs.length = ys.length
  · have hl' : ((xs.length : Int) != (ys.length : Int)) = false := by simp [hl]
    repeat' first | (with_reducible first | refine AWP_seq' ?_ | refine k_normal ?_ | refine AWP_skip ?_ | refine AWP_block ?_) | ((with_reducible refine AWP_reg fun KC J hJ hKC => ?_); simp (maxSteps := 10000000) only [push_cast, seval, ↓reduceIte, hl']) | ((with_reducible refine hJ _ _ ?_); clear hJ hKC KC J) | ((with_reducible refine AWP_condF ?_ ?_); · rfl)
    refine AWP_loopF (γ := {i : Nat // i ≤ xs.length ∧ ∀ j, j < i → xs[j]? = ys[j]?}) (fun i => ⟨[.sl f 3 (sRow xs), .sl g 3 (sRow ys), .any, .any, .any, .any, .any, .any, .any, .any, .any, .any, .v (.int .i64 xs.length), .v (.int .i64 i.1), .any, .any, .any, .any, .any, .any, .any, .any, .any, .any, .any, .any], []⟩) (fun i => xs.length - i.1) ⟨0, by simp⟩ ⟨?_, Fq⟩ ?_
    · exact Lq
    · rintro ⟨i, hi, hn⟩
      by_cases hlt : (i : Int) < (xs.length : Int)
      · have hx : xs[i]? = some xs[i] := List.getElem?_eq_getElem (by omega)
        have hy : ys[i]? = some ys[i] := List.getElem?_eq_getElem (by omega)
        obtain ⟨⟨a1, a2, a3⟩, ha⟩ : ∃ a, xs[i] = a := ⟨_, rfl⟩
        obtain ⟨⟨b1, b2, b3⟩, hb2⟩ : ∃ b, ys[i] = b := ⟨_, rfl⟩
        rw [ha] at hx
        rw [hb2] at hy
        by_cases he : (a1, a2, a3) = (b1, b2, b3)
        · have he' : decide ((a1, a2, a3) = (b1, b2, b3)) = true := decide_eq_true he
          cases he
          repeat' first | (with_reducible first | refine AWP_seq' ?_ | refine k_normal ?_ | refine b_normal ?_ | refine AWP_skip ?_ | refine AWP_block ?_) | ((with_reducible first | refine AWP_reg fun KC J hJ hKC => ?_ | refine AWP_regD rfl fun KC J hJ hKC => ?_); simp (maxSteps := 10000000) only [push_cast, seval, ↓reduceIte, hlt, getE_s hx, getE_s hy, beq_self_eq_true, Bool.and_self, Bool.not_true, bne_self_eq_false, wrapN (i := i) (n := xs.length) (by omega) (by omega)]) | ((with_reducible refine And.intro ?_ ?_); · exact Sq) | ((first | with_reducible refine hJ _ _ ?_ | (with_reducible refine hJ _ _ ?_ ?_; · kernel_rfl)); clear hJ hKC KC J) | ((with_reducible refine AWP_condT ?_ ?_); · rfl) | ((with_reducible refine AWP_condF ?_ ?_); · rfl)
          refine ⟨⟨i + 1, by omega, fun j hj => ?_⟩, by simp only; omega, ?_, Fq⟩
          · by_cases hji : j = i
            · rw [hji, hx, hy]
            · exact hn j (by omega)
          · exact Lq
        · have he' : (a1 == b1 && (a2 == b2 && a3 == b3)) = false := by
            cases h : (a1 == b1 && (a2 == b2 && a3 == b3)) with
            | false => rfl
            | true =>
              simp only [Bool.and_eq_true, beq_iff_eq] at h
              exact absurd (by rw [h.1, h.2.1, h.2.2]) he
          repeat' first | (with_reducible first | refine AWP_seq' ?_ | refine k_normal ?_ | refine k_ret ?_ | refine b_ret ?_ | refine AWP_ret ?_ | refine AWP_skip ?_ | refine AWP_block ?_) | ((with_reducible first | refine AWP_reg fun KC J hJ hKC => ?_ | refine AWP_regD rfl fun KC J hJ hKC => ?_); simp (maxSteps := 10000000) only [push_cast, seval, ↓reduceIte, hlt, getE_s hx, getE_s hy, he']) | ((with_reducible refine And.intro ?_ ?_); · exact Sq) | ((first | with_reducible refine hJ _ _ ?_ | (with_reducible refine hJ _ _ ?_ ?_; · kernel_rfl)); clear hJ hKC KC J) | ((with_reducible refine AWP_condT ?_ ?_); · rfl)
          refine ret_plain ?_
          simp (maxSteps := 10000000) only [push_cast, seval, ↓reduceIte, show Try.f73.results = #[(.tmp 4)] from rfl]
          rw [decide_eq_false (fun h => he (by rw [h, hy] at hx; exact (Option.some.inj hx).symm))]
          exact leD_refl _
      · skip
        repeat' first | (with_reducible first | refine AWP_seq' ?_ | refine k_normal ?_ | refine k_exit ?_ | refine b_exit ?_ | refine AWP_ret ?_ | refine AWP_exit ?_) | ((with_reducible refine AWP_reg fun KC J hJ hKC => ?_); simp (maxSteps := 10000000) only [push_cast, seval, ↓reduceIte, hlt]) | ((with_reducible refine hJ _ _ ?_); clear hJ hKC KC J) | ((with_reducible refine AWP_condF ?_ ?_); · rfl)
        refine ret_plain ?_
        simp (maxSteps := 10000000) only [push_cast, seval, ↓reduceIte, show Try.f73.results = #[(.tmp 4)] from rfl]
        rw [decide_eq_true (list_eq_of hl fun j hj => hn j (by omega))]
        exact leD_refl _
  · have hl' : ((xs.length : Int) != (ys.length : Int)) = true := by simp; omega
    repeat' first | (with_reducible first | refine AWP_seq' ?_ | refine k_normal ?_ | refine k_ret ?_ | refine AWP_ret ?_) | ((with_reducible refine AWP_reg fun KC J hJ hKC => ?_); simp (maxSteps := 10000000) only [push_cast, seval, ↓reduceIte, hl']) | ((with_reducible refine hJ _ _ ?_); clear hJ hKC KC J) | ((with_reducible refine AWP_condT ?_ ?_); · rfl)
    refine ret_plain ?_
    simp (maxSteps := 10000000) only [push_cast, seval, ↓reduceIte, show Try.f73.results = #[(.tmp 4)] from rfl]
    rw [decide_eq_false (fun h => hl (by rw [h]))]
    exact leD_refl _
end Go.Proofs.Ytabliglgeiajlaa.AM
