/- Law 18: SeqMakes. -/
import Derived.Test.YtabliglgeiajlaaGreatSY
import Derived.Test.YtabliglgeiajlaaGreatSD
import Derived.Test.YtabliglgeiajlaaGreatF0
set_option linter.unusedSimpArgs false
set_option linter.unusedVariables false
namespace Go.Proofs.YtabliglgeiajlaaGreat.AM
open Go Go.RowKit Go.Proofs
set_option maxRecDepth 100000
set_option maxHeartbeats 4000000

theorem few18_fn (f g : Bool) (ns : List ByteArray) (us : List Nat) :
    Fn Tryz.prog 10 [.agg [.sl f 1 (strRow ns), .sl g 1 (u32Row us)]] [] (.agg [.sl false 1 (strRow ((ns.take 10).map cutS)), .sl false 1 (u32Row (us.take 10))]) [] := by
  refine Fn.of (fn := Tryz.f10) (by kernel_rfl) rfl (by kernel_rfl) ⟨[.agg [.sl f 1 (strRow ns), .sl g 1 (u32Row us)], .v undef, .v undef, .v undef, .v undef, .v undef, .v undef, .v undef, .v undef, .v undef, .v undef, .v undef, .v undef, .v undef, .v undef, .v undef, .v undef, .v undef, .v undef, .v undef, .v undef, .v undef, .v undef, .v undef, .v undef, .v undef, .v undef, .v undef, .v undef, .v undef, .v undef, .v undef, .v undef, .v undef, .v undef, .v undef, .v undef, .v undef], []⟩ rfl ?_
  repeat' first | (with_reducible first | refine AWP_seq' ?_ | refine k_normal ?_ | refine AWP_block ?_) | ((with_reducible refine AWP_reg fun KC J hJ hKC => ?_); simp (maxSteps := 10000000) only [push_cast, seval, ↓reduceIte, take_minL (K := 10) (k := 10) rfl ns, take_minL (K := 10) (k := 10) rfl us]) | ((with_reducible refine And.intro ?_ ?_); · exact Sq) | ((with_reducible refine hJ _ _ ?_); clear hJ hKC KC J)
  obtain ⟨xs, hxs⟩ : ∃ xs, ns.take 10 = xs := ⟨_, rfl⟩
  have hx10 : xs.length ≤ 10 := by rw [← hxs]; simp; omega
  rw [hxs]
  refine AWP_loopF (γ := {i : Nat // i ≤ xs.length}) (fun i => ⟨[.any, .ptr 0 0 0, .ptr 1 0 0, .ptr 2 0 0, .any, .any, .any, .any, .any, .any, .any, .any, .any, .any, .any, .any, .any, .any, .any, .any, .sl false 1 (strRow xs), .v (.int .i64 xs.length), .v (.int .i64 i.1), .any, .any, .any, .any, .any, .any, .any, .any, .any, .any, .any, .any, .any, .any, .any], fσ ⟨0, none, 25, [.sl f 1 (strRow ns), .sl g 1 (u32Row us)], .cells⟩ ⟨0, none, 25, [.v (.slice none 0 0), .v (.slice none 0 0)], .cells⟩ (.sl false 1 (u32Row (us.take 10))) xs i.1⟩) (fun i => xs.length - i.1) ⟨0, by simp⟩ ⟨?_, ?_⟩ ?_
  · exact Lq
  · simp only [fσ]
    exact Fq
  rintro ⟨i, hi⟩
  obtain ⟨e1, he1⟩ : ∃ e1 : Ent, ⟨0, none, 25, [.sl f 1 (strRow ns), .sl g 1 (u32Row us)], .cells⟩ = e1 := ⟨_, rfl⟩
  rw [he1]
  by_cases hlt : (i : Int) < (xs.length : Int)
  · have hx : xs[i]? = some xs[i] := List.getElem?_eq_getElem (by omega)
    obtain ⟨a, ha⟩ : ∃ a, xs[i] = a := ⟨_, rfl⟩
    rw [ha] at hx
    have hcut : a.extract 0 (if (15 : Int) < (a.size : Int) then 15 else (a.size : Int)).toNat = cutS a := rfl
    rcases Nat.eq_zero_or_pos i with rfl | hpos
    · have hσ := fσ_zero e1 ⟨0, none, 25, [.v (.slice none 0 0), .v (.slice none 0 0)], .cells⟩ (.sl false 1 (u32Row (us.take 10))) xs
      have hσ1 := fσ_one e1 ⟨0, none, 25, [.v (.slice none 0 0), .v (.slice none 0 0)], .cells⟩ (.sl false 1 (u32Row (us.take 10))) xs hx
      have hlt0 : (0 : Int) < xs.length := hlt
      repeat' first | (with_reducible first | refine AWP_seq' ?_ | refine k_normal ?_ | refine b_normal ?_ | refine AWP_skip ?_ | refine AWP_block ?_) | ((with_reducible first | refine AWP_reg fun KC J hJ hKC => ?_ | refine AWP_regD rfl fun KC J hJ hKC => ?_); simp (maxSteps := 10000000) only [push_cast, seval, ↓reduceIte, hlt0, hσ, getE_str hx, hcut]) | ((with_reducible refine And.intro ?_ ?_); · exact Sq) | ((first | with_reducible refine hJ _ _ ?_ | (with_reducible refine hJ _ _ ?_ ?_; · kernel_rfl)); clear hJ hKC KC J) | ((with_reducible refine AWP_condT ?_ ?_); · rfl)
      refine ⟨⟨0 + 1, by omega⟩, by simp only; omega, ?_, ?_⟩
      · exact Lq
      · simp only [hσ1]
        exact Fq
    · obtain ⟨i', hi'⟩ : ∃ i', i = i' + 1 := ⟨i - 1, by omega⟩
      have hσ := fσ_pos e1 ⟨0, none, 25, [.v (.slice none 0 0), .v (.slice none 0 0)], .cells⟩ (.sl false 1 (u32Row (us.take 10))) xs hi'
      have hσ1 := fσ_succ e1 ⟨0, none, 25, [.v (.slice none 0 0), .v (.slice none 0 0)], .cells⟩ (.sl false 1 (u32Row (us.take 10))) xs hi' hx
      have hlS : (cellS (fewL xs i)).length = i := by simp [cellS, fewL_length hi]
      have htS := take_of hlS
      have htS' : (cellS (fewL xs i)).take i = cellS (fewL xs i) := List.take_of_length_le (by omega)
      have hbq : Nat.beq i' i' = true := Nat.beq_refl i'
      repeat' first | (with_reducible first | refine AWP_seq' ?_ | refine k_normal ?_ | refine b_normal ?_ | refine AWP_skip ?_ | refine AWP_block ?_) | ((with_reducible first | refine AWP_reg fun KC J hJ hKC => ?_ | refine AWP_regD rfl fun KC J hJ hKC => ?_); simp (maxSteps := 10000000) only [push_cast, seval, ↓reduceIte, hlt, hσ, getE_str hx, hcut, hbq, hlS, htS, htS', wrapN (i := i) (n := xs.length) (by omega) (by omega)]) | ((with_reducible refine And.intro ?_ ?_); · exact Sq) | ((first | with_reducible refine hJ _ _ ?_ | (with_reducible refine hJ _ _ ?_ ?_; · kernel_rfl)); clear hJ hKC KC J) | ((with_reducible refine AWP_condT ?_ ?_); · rfl)
      refine ⟨⟨i + 1, by omega⟩, by simp only; omega, ?_, ?_⟩
      · exact Lq
      · simp only [hσ1]
        exact Fq
  · have hix : i = xs.length := by omega
    have hfin : fewL xs i = xs.map cutS := by rw [fewL, hix, List.take_length]
    rcases Nat.eq_zero_or_pos i with rfl | hpos
    · have hσ := fσ_zero e1 ⟨0, none, 25, [.v (.slice none 0 0), .v (.slice none 0 0)], .cells⟩ (.sl false 1 (u32Row (us.take 10))) xs
      have hlt0 : ¬ (0 : Int) < xs.length := hlt
      repeat' first | (with_reducible first | refine AWP_seq' ?_ | refine k_normal ?_ | refine k_exit ?_ | refine b_exit ?_ | refine AWP_ret ?_ | refine AWP_exit ?_) | ((with_reducible refine AWP_reg fun KC J hJ hKC => ?_); simp (maxSteps := 10000000) only [push_cast, seval, ↓reduceIte, hlt0, hσ]) | ((with_reducible refine hJ _ _ ?_); clear hJ hKC KC J) | ((with_reducible refine AWP_condF ?_ ?_); · rfl)
      refine ret_plain ?_
      simp (maxSteps := 10000000) only [push_cast, seval, ↓reduceIte, show Tryz.f10.results = #[(.cell 2 25)] from rfl]
      rw [← hfin]
      exact Lq
    · obtain ⟨i', hi'⟩ : ∃ i', i = i' + 1 := ⟨i - 1, by omega⟩
      have hσ := fσ_pos e1 ⟨0, none, 25, [.v (.slice none 0 0), .v (.slice none 0 0)], .cells⟩ (.sl false 1 (u32Row (us.take 10))) xs hi'
      have hbq : Nat.beq i' i' = true := Nat.beq_refl i'
      have hlS : (cellS (fewL xs i)).length = i := by simp [cellS, fewL_length hi]
      have hcS : chunk 1 i (cellS (fewL xs i)) = strRow (fewL xs i) := by
        have := chunk_one (fun s : ByteArray => (.v (.string s) : D)) (fewL xs i)
        rw [fewL_length hi] at this; exact this
      subst he1
      repeat' first | (with_reducible first | refine AWP_seq' ?_ | refine k_normal ?_ | refine k_exit ?_ | refine b_exit ?_ | refine AWP_exit ?_) | ((with_reducible refine AWP_reg fun KC J hJ hKC => ?_); simp (maxSteps := 10000000) only [push_cast, seval, ↓reduceIte, hlt, hσ]) | ((with_reducible refine hJ _ _ ?_); clear hJ hKC KC J) | ((with_reducible refine AWP_condF ?_ ?_); · rfl)
      refine AWP_freeze 4 rfl (by simp (maxSteps := 10000000) only [push_cast, seval, ↓reduceIte]) ?_
      simp (maxSteps := 10000000) only [push_cast, seval, ↓reduceIte, frSt, frSlot, fr3, fr2, fr1, fr0, sameB, arrOf, hbq, hlS, hcS]
      refine AWP_ret ?_
      refine ret_plain ?_
      simp (maxSteps := 10000000) only [push_cast, seval, ↓reduceIte, show Tryz.f10.results = #[(.cell 2 25)] from rfl]
      rw [← hfin]
      exact Lq
/-- A state cut short. -/
def cutDr (d : Dr) : Dr := ⟨d.l.take 503, d.a, d.g.take 2003⟩
theorem draws18_fn (f g : Bool) (d : Dr) : Fn Tryz.prog 11 [encDr f g d] [] (encDr false false (cutDr d)) [] := by
  simp only [encDr, cutDr]
  refine Fn.of (fn := Tryz.f11) (by kernel_rfl) rfl (by kernel_rfl) ⟨[.agg [.sl f 1 (intRow d.l), .v (.int .i64 d.a), .sl g 1 (intRow d.g)], .v undef, .v undef, .v undef, .v undef, .v undef, .v undef, .v undef, .v undef, .v undef, .v undef, .v undef, .v undef, .v undef, .v undef, .v undef, .v undef, .v undef, .v undef, .v undef], []⟩ rfl ?_
  repeat' first | (with_reducible first | refine AWP_seq' ?_ | refine k_normal ?_ | refine AWP_ret ?_) | ((with_reducible first | refine AWP_reg fun KC J hJ hKC => ?_ | refine AWP_regD rfl fun KC J hJ hKC => ?_); simp (maxSteps := 10000000) only [push_cast, seval, ↓reduceIte, take_minL (K := 503) (k := 503) rfl d.l, take_minL (K := 2003) (k := 2003) rfl d.g]) | ((with_reducible refine And.intro ?_ ?_); · exact Sq) | ((first | with_reducible refine hJ _ _ ?_ | (with_reducible refine hJ _ _ ?_ ?_; · kernel_rfl)); clear hJ hKC KC J)
  refine ret_plain ?_
  simp (maxSteps := 10000000) only [push_cast, seval, ↓reduceIte, show Tryz.f11.results = #[(.cell 2 30)] from rfl]
  exact Lq
def nsQ : List ByteArray := [{ data := #[97] }, { data := #[98] }]
@[reducible] def sp18 : Sp := ⟨4, 0, 0, 5, List.replicate 13 1⟩
theorem alive18_fn : Fn Tryz.prog 18 [] [] (.v (.bool true)) [] := by
  have hs : Szs nsQ := by
    intro s hs
    simp only [nsQ, List.mem_cons, List.not_mem_nil, or_false] at hs
    rcases hs with rfl | rfl <;> (show 1 ≤ _; omega)
  have hu : U32 [3, 2] := by
    intro u hu
    simp at hu
    rcases hu with rfl | rfl <;> decide
  have h1 := (seqState_fn true true nsQ [3, 2] sp18 ⟨[1, 6, 2], 0, []⟩ hs hu (by simp)).pre (args := [.agg [.sl true 1 (strRow nsQ), .sl true 1 (u32Row [3, 2])], .agg (spF true sp18), encDr true false ⟨[1, 6, 2], 0, []⟩])
    (.cons (.refl _) (.cons (.agg (.cons (.refl _) (.cons (.refl _) (.cons (.refl _) (.cons (.refl _) (.cons (.full _ _) .nil)))))) (.cons (.agg (.cons (.full _ _) (.cons (.refl _) (.cons (.refl _) .nil)))) .nil)))
  rw [show seqF nsQ [3, 2] sp18 ⟨[1, 6, 2], 0, []⟩ = (⟨[1, 6, 2], 3, [1, 6, 2, 0, 0, 0, 0, 0, 0]⟩, ⟨0, 0, [(1, -1, 0), (11, 0, 0)], [], [], []⟩, 0) by kernel_rfl] at h1
  simp only [spF, sp18, encDr, staF] at h1
  have h2 := drNew_fn true [1, 6, 2]
  refine Fn.of (fn := Tryz.f18) (by kernel_rfl) rfl (by kernel_rfl) ⟨[.v undef, .v undef, .v undef, .v undef, .v undef, .v undef, .v undef, .v undef, .v undef, .v undef, .v undef, .v undef, .v undef, .v undef, .v undef, .v undef, .v undef, .v undef, .v undef, .v undef, .v undef, .v undef, .v undef, .v undef, .v undef, .v undef, .v undef, .v undef, .v undef, .v undef, .v undef, .v undef, .v undef, .v undef, .v undef, .v undef, .v undef, .v undef, .v undef, .v undef, .v undef, .v undef, .v undef, .v undef], []⟩ rfl ?_
  repeat' first | (with_reducible first | refine AWP_seq' ?_ | refine k_normal ?_ | refine AWP_ret ?_) | ((with_reducible first | refine AWP_reg fun KC J hJ hKC => ?_ | refine AWP_regD rfl fun KC J hJ hKC => ?_); simp (maxSteps := 10000000) only [push_cast, seval, ↓reduceIte, getE_t (l := [(1, -1, 0), (11, 0, 0)]) (n := 0) rfl, getE_t (l := [(1, -1, 0), (11, 0, 0)]) (n := 1) rfl]) | (refine hKC _ _ _ _ _ (callV0 (h1) rfl rfl rfl ?_ ?_); (· exact Lq); simp (maxSteps := 10000000) only [push_cast, seval, ↓reduceIte, getE_t (l := [(1, -1, 0), (11, 0, 0)]) (n := 0) rfl, getE_t (l := [(1, -1, 0), (11, 0, 0)]) (n := 1) rfl]) | (refine hKC _ _ _ _ _ (callV0 (h2) rfl rfl rfl ?_ ?_); (· exact Lq); simp (maxSteps := 10000000) only [push_cast, seval, ↓reduceIte, getE_t (l := [(1, -1, 0), (11, 0, 0)]) (n := 0) rfl, getE_t (l := [(1, -1, 0), (11, 0, 0)]) (n := 1) rfl]) | ((first | with_reducible refine hJ _ _ ?_ | (with_reducible refine hJ _ _ ?_ ?_; · kernel_rfl)); clear hJ hKC KC J)
  refine ret_plain ?_
  simp (maxSteps := 10000000) only [push_cast, seval, ↓reduceIte, show Tryz.f18.results = #[(.tmp 0)] from rfl]
  exact Lq
theorem hasB_sml8 {n : Nat} {sp : Sp} {s : Sta} (h : hasB n sp s = true) : Sml15 s := by
  simp only [hasB, staB, codeB, Bool.and_eq_true, decide_eq_true_eq] at h
  obtain ⟨⟨⟨_, h1⟩, _, _, _, h2, _, h3, _, h4⟩, _⟩ := h
  exact ⟨by omega, by omega, by omega, by omega⟩
theorem mayG_ok {ns : List ByteArray} {us : List Nat} {sp : Sp} (hm : mayG ns us sp = 0) : checkF ns us = 0 ∧ SpOk sp := by
  unfold mayG at hm
  split at hm
  · rename_i hc
    split at hm
    · rename_i hsp; exact ⟨hc, spB_iff.1 hsp⟩
    · cases hm
  · rename_i hc; exact absurd hm hc
theorem seqF_small {ns : List ByteArray} {us : List Nat} {sp : Sp} {d : Dr} (hl : d.l.length ≤ 1000) (hg : d.g.length ≤ 3000) : Sml15 (seqF ns us sp d).2.1 ∧ (seqF ns us sp d).1.l.length ≤ 4000 ∧ (seqF ns us sp d).1.g.length ≤ 4000 := by
  have z : Sml15 Sta.z := ⟨by decide, by decide, by decide, by decide⟩
  have zz : Sml15 Sta.z ∧ Dr.z.l.length ≤ 4000 ∧ Dr.z.g.length ≤ 4000 := ⟨z, by decide, by decide⟩
  unfold seqF
  split
  · rename_i hm
    split
    · have hsp := (mayG_ok hm).2
      cases hr : (seqC us.length sp).run d with
      | error e => exact zz
      | ok x =>
        obtain ⟨d', s⟩ := x
        obtain ⟨cs, h1, h2, h3⟩ := Cp.run_path _ hr
        have hb := Cp.all_path _ (seqC_all hsp) h1
        have hl2 := Cp.path_deep _ (deep_seq hsp) h1
        refine ⟨hasB_sml8 hb.1, ?_, ?_⟩
        · show d'.l.length ≤ 4000; rw [h3]; omega
        · show d'.g.length ≤ 4000; rw [h2, List.length_append]; omega
    · exact zz
  · exact zz
def spCut8 (sp : Sp) : Sp := { sp with ws := sp.ws.take 16 }
theorem seqMakes_fn (f g h fd gd : Bool) (ns : List ByteArray) (us : List Nat) (sp : Sp) (d : Dr) (hu0 : U32 us) :
    Fn Tryz.prog 3 [.agg [.sl f 1 (strRow ns), .sl g 1 (u32Row us)], .agg (spF false sp), encDr fd gd d] [] (.v (.bool true)) [] := by
  have hs := szs_few ns
  have hu := u32_few hu0
  have h1 := few18_fn f g ns us
  have h2 := draws18_fn fd gd d
  obtain ⟨xs, hxs⟩ : ∃ xs, (ns.take 10).map cutS = xs := ⟨_, rfl⟩
  obtain ⟨ys, hys⟩ : ∃ xs, us.take 10 = xs := ⟨_, rfl⟩
  have hyl : ys.length ≤ 10 := by rw [← hys, List.length_take]; omega
  rw [hxs] at hs h1
  rw [hys] at hu h1
  obtain ⟨q, hq⟩ : ∃ q, spCut8 sp = q := ⟨_, rfl⟩
  have hqw : q.ws.length ≤ 1000 := by rw [← hq]; simp [spCut8]; omega
  have q1 : sp.code = q.code := by rw [← hq]; rfl
  have q2 : sp.mem = q.mem := by rw [← hq]; rfl
  have q3 : sp.stack = q.stack := by rw [← hq]; rfl
  have q4 : sp.val = q.val := by rw [← hq]; rfl
  have q5 : sp.ws.take 16 = q.ws := by rw [← hq]; rfl
  obtain ⟨e, he⟩ : ∃ e, cutDr d = e := ⟨_, rfl⟩
  have hel : e.l.length ≤ 1000 := by rw [← he]; simp [cutDr]; omega
  have heg : e.g.length ≤ 3000 := by rw [← he]; simp [cutDr]; omega
  rw [he] at h2
  have h3 := seqState_fn false false xs ys q e hs hu hqw
  have h4 := rMay15_fn false false false xs ys q hs hu hqw
  have h5 := rRight_fn false false e.l e.g e.a
  have h6 := alive18_fn
  have tt := templates_fn
  have rt := rTemplates_fn
  have htl := tmplRow_length
  have hsm := seqF_small (ns := xs) (us := ys) (sp := q) hel heg
  have z9 := rSame9_fn Sta.z Sta.z ⟨by decide, by decide, by decide, by decide⟩ ⟨by decide, by decide, by decide, by decide⟩
  have zd := rSame_fn false false false false [] [] [] [] 0 0 (by decide) (by decide)
  rw [show sameT Sta.z Sta.z = true from sameT_iff.2 rfl] at z9
  rw [decide_eq_true (rfl : (⟨[], 0, []⟩ : Dr) = ⟨[], 0, []⟩)] at zd
  obtain ⟨m, hm⟩ : ∃ m, mayG xs ys q = m := ⟨_, rfl⟩
  rw [hm] at h4
  obtain ⟨r, hr⟩ : ∃ r, rightB e.l e.g e.a = r := ⟨_, rfl⟩
  rw [hr] at h5
  have hg0 : ¬ m = 0 → seqF xs ys q e = (Dr.z, Sta.z, m) := fun h0 => by unfold seqF; rw [if_neg (by rw [hm]; exact h0), hm]
  have hg1 : m = 0 → r = false → seqF xs ys q e = (Dr.z, Sta.z, 1) := fun h0 h1 => by unfold seqF; rw [if_pos (by rw [hm]; exact h0), if_neg (by rw [hr, h1]; simp)]
  have hg2 : m = 0 → r = true → seqF xs ys q e = endF Sta.z ((seqC ys.length q).run e) := fun h0 h1 => by unfold seqF; rw [if_pos (by rw [hm]; exact h0), if_pos (by rw [hr, h1])]
  have hmo : m = 0 → SpOk q := fun h0 => (mayG_ok (by rw [hm]; exact h0)).2
  obtain ⟨⟨X, S, E⟩, hX⟩ : ∃ x, seqF xs ys q e = x := ⟨_, rfl⟩
  rw [hX] at h3 hsm hg0 hg1 hg2
  simp only at h3 hsm
  obtain ⟨hs1, hs2, hs3⟩ := hsm
  simp only [encDr, spF, staF] at h1 h2 h3 h4 ⊢
  refine Fn.of (fn := Tryz.f3) (by kernel_rfl) rfl (by kernel_rfl) ⟨[.agg [.sl f 1 (strRow ns), .sl g 1 (u32Row us)], .agg [.v (.int .i64 sp.code), .v (.int .i64 sp.mem), .v (.int .i64 sp.stack), .v (.int .i64 sp.val), .sl false 1 (intRow sp.ws)], .agg [.sl fd 1 (intRow d.l), .v (.int .i64 d.a), .sl gd 1 (intRow d.g)], .v undef, .v undef, .v undef, .v undef, .v undef, .v undef, .v undef, .v undef, .v undef, .v undef, .v undef, .v undef, .v undef, .v undef, .v undef, .v undef, .v undef, .v undef, .v undef, .v undef, .v undef, .v undef, .v undef, .v undef, .v undef, .v undef, .v undef, .v undef, .v undef, .v undef, .v undef, .v undef, .v undef, .v undef, .v undef, .v undef, .v undef, .v undef, .v undef, .v undef, .v undef, .v undef, .v undef, .v undef, .v undef, .v undef, .v undef, .v undef, .v undef, .v undef, .v undef, .v undef, .v undef, .v undef, .v undef, .v undef, .v undef, .v undef, .v undef, .v undef, .v undef, .v undef, .v undef, .v undef, .v undef, .v undef, .v undef, .v undef, .v undef, .v undef, .v undef, .v undef, .v undef, .v undef, .v undef, .v undef, .v undef, .v undef, .v undef, .v undef, .v undef, .v undef, .v undef, .v undef, .v undef, .v undef, .v undef, .v undef, .v undef, .v undef, .v undef, .v undef, .v undef, .v undef, .v undef, .v undef, .v undef, .v undef, .v undef, .v undef, .v undef, .v undef, .v undef, .v undef, .v undef, .v undef, .v undef, .v undef, .v undef, .v undef, .v undef, .v undef, .v undef, .v undef, .v undef], []⟩ rfl ?_
  repeat' first | (with_reducible first | refine AWP_seq' ?_ | refine k_normal ?_ | refine AWP_block ?_) | ((with_reducible first | refine AWP_reg fun KC J hJ hKC => ?_ | refine AWP_regD rfl fun KC J hJ hKC => ?_); simp (maxSteps := 10000000) only [push_cast, seval, ↓reduceIte, q1, q2, q3, q4, q5, take_minL (K := 16) (k := 16) rfl sp.ws, undef, beq_self_eq_true, bne_self_eq_false, htl]) | ((with_reducible refine And.intro ?_ ?_); · exact Sq) | (refine hKC _ _ _ _ _ (callV0 (h1) rfl rfl rfl ?_ ?_); (· exact Lq); simp (maxSteps := 10000000) only [push_cast, seval, ↓reduceIte, q1, q2, q3, q4, q5, take_minL (K := 16) (k := 16) rfl sp.ws, undef, beq_self_eq_true, bne_self_eq_false, htl]) | (refine hKC _ _ _ _ _ (callV0 (h2) rfl rfl rfl ?_ ?_); (· exact Lq); simp (maxSteps := 10000000) only [push_cast, seval, ↓reduceIte, q1, q2, q3, q4, q5, take_minL (K := 16) (k := 16) rfl sp.ws, undef, beq_self_eq_true, bne_self_eq_false, htl]) | (refine hKC _ _ _ _ _ (callV0 (h3) rfl rfl rfl ?_ ?_); (· exact Lq); simp (maxSteps := 10000000) only [push_cast, seval, ↓reduceIte, q1, q2, q3, q4, q5, take_minL (K := 16) (k := 16) rfl sp.ws, undef, beq_self_eq_true, bne_self_eq_false, htl]) | (refine hKC _ _ _ _ _ (callV0 (tt) rfl rfl rfl ?_ ?_); (· exact Lq); simp (maxSteps := 10000000) only [push_cast, seval, ↓reduceIte, q1, q2, q3, q4, q5, take_minL (K := 16) (k := 16) rfl sp.ws, undef, beq_self_eq_true, bne_self_eq_false, htl]) | (refine hKC _ _ _ _ _ (callV0 (rt) rfl rfl rfl ?_ ?_); (· exact Lq); simp (maxSteps := 10000000) only [push_cast, seval, ↓reduceIte, q1, q2, q3, q4, q5, take_minL (K := 16) (k := 16) rfl sp.ws, undef, beq_self_eq_true, bne_self_eq_false, htl]) | ((first | with_reducible refine hJ _ _ ?_ | (with_reducible refine hJ _ _ ?_ ?_; · kernel_rfl)); clear hJ hKC KC J)
  refine AWP_loopF (γ := {i : Nat // i ≤ 11}) (fun i => ⟨[.any, .any, .any, .ptr 0 0 0, .ptr 1 0 0, .ptr 2 0 0, .any, .ptr 6 0 0, .ptr 7 0 0, .v (.int .i64 E), .sl true 1 tmplRow, .any, .any, .any, .any, .any, .any, .any, .any, .any, .any, .any, .any, .any, .any, .any, .any, .any, .any, .any, .any, .any, .any, .any, .any, .any, .sl true 1 tmplRow, .v (.int .i64 11), .v (.int .i64 i.1), .any, .any, .any, .any, .any, .any, .any, .any, .any, .any, .any, .any, .any, .any, .any, .any, .any, .any, .any, .any, .any, .any, .any, .any, .any, .any, .any, .any, .any, .any, .any, .any, .any, .any, .any, .any, .any, .any, .any, .any, .any, .any, .any, .any, .any, .any, .any, .any, .any, .any, .any, .any, .any, .any, .any, .any, .any, .any, .any, .any, .any, .any, .any, .any, .any, .any, .any, .any, .any, .any, .any, .any, .any, .any, .any, .any, .any, .any, .any], [.ent ⟨0, none, 25, [.sl false 1 (strRow xs), .sl false 1 (u32Row ys)], .cells⟩, .ent ⟨0, none, 28, [.v (.int .i64 q.code), .v (.int .i64 q.mem), .v (.int .i64 q.stack), .v (.int .i64 q.val), .sl false 1 (intRow q.ws)], .cells⟩, .ent ⟨0, none, 30, [.sl false 1 (intRow e.l), .v (.int .i64 e.a), .sl false 1 (intRow e.g)], .cells⟩, .free, .free, .free, .ent ⟨0, none, 30, [.sl false 1 (intRow X.l), .v (.int .i64 X.a), .sl false 1 (intRow X.g)], .cells⟩, .ent ⟨0, none, 39, [.v (.int .i64 S.v), .v (.int .i64 S.l), .sl false 3 (tRow S.code), .sl false 2 (pRow S.mem), .sl false 3 (sRow S.stack), .sl false 2 (pRow S.out)], .cells⟩, .free, .free]⟩) (fun i => 11 - i.1) ⟨0, by omega⟩ ⟨?_, Fq⟩ ?_
  · exact Lq
  rintro ⟨i, hi⟩
  by_cases hlt : (i : Int) < 11
  · have hil : i < tmpls.length := by show i < 11; omega
    have hx : tmpls[i]? = some tmpls[i] := List.getElem?_eq_getElem hil
    have hge : ¬ ((11 : Int) ≤ (i : Int)) := by omega
    obtain ⟨t, ht⟩ : ∃ t, tmpls[i] = t := ⟨_, rfl⟩
    rw [ht] at hx
    have hgt : getE tmplRow i = [.sl true 1 (intRow t)] := by unfold tmplRow; exact getE_map _ _ _ _ hx
    have hto := (tmpls_ok t (List.mem_of_getElem? hx)).2.1
    have z2 := rInts_fn true true t t (by omega)
    rw [decide_eq_true rfl] at z2
    repeat' first | (with_reducible first | refine AWP_seq' ?_ | refine k_normal ?_ | refine b_normal ?_ | refine AWP_skip ?_ | refine AWP_block ?_) | ((with_reducible refine AWP_reg fun KC J hJ hKC => ?_); simp (maxSteps := 10000000) only [push_cast, seval, ↓reduceIte, hlt, hge, hgt, htl, wrapN (i := i) (n := 11) (by omega) (by omega)]) | ((with_reducible refine And.intro ?_ ?_); · exact Sq) | (refine hKC _ _ _ _ _ (callV0 (z2) rfl rfl rfl ?_ ?_); (· exact Lq); simp (maxSteps := 10000000) only [push_cast, seval, ↓reduceIte, hlt, hge, hgt, htl, wrapN (i := i) (n := 11) (by omega) (by omega)]) | ((with_reducible refine hJ _ _ ?_); clear hJ hKC KC J) | ((with_reducible refine AWP_condT ?_ ?_); · rfl) | ((with_reducible refine AWP_condF ?_ ?_); · rfl)
    refine ⟨⟨i + 1, by omega⟩, by simp only; omega, ?_, Fq⟩
    exact Lq
  have hin : i = 11 := by omega
  subst hin
  by_cases h0 : m = 0
  case neg =>
    have h0' : (m == 0) = false := by simpa using h0
    have h0'' : (m != 0) = true := by simpa using h0
    obtain ⟨rfl, rfl, rfl⟩ : X = Dr.z ∧ S = Sta.z ∧ E = m := by have := hg0 h0; simp only [Prod.mk.injEq] at this; exact this
    simp only [Dr.z, Sta.z, staF] at z9 ⊢
    repeat' first | (with_reducible first | refine AWP_seq' ?_ | refine k_normal ?_ | refine k_ret ?_ | refine k_exit ?_ | refine b_exit ?_ | refine AWP_ret ?_ | refine AWP_skip ?_ | refine AWP_exit ?_) | ((with_reducible refine AWP_reg fun KC J hJ hKC => ?_); simp (maxSteps := 10000000) only [push_cast, seval, ↓reduceIte, h0', h0'', undef, htl, beq_self_eq_true]) | (refine hKC _ _ _ _ _ (callV0 (h4) rfl rfl rfl ?_ ?_); (· exact Lq); simp (maxSteps := 10000000) only [push_cast, seval, ↓reduceIte, h0', h0'', undef, htl, beq_self_eq_true]) | (refine hKC _ _ _ _ _ (callV0 (h6) rfl rfl rfl ?_ ?_); (· exact Lq); simp (maxSteps := 10000000) only [push_cast, seval, ↓reduceIte, h0', h0'', undef, htl, beq_self_eq_true]) | (refine hKC _ _ _ _ _ (callV0 (z9) rfl rfl rfl ?_ ?_); (· exact Lq); simp (maxSteps := 10000000) only [push_cast, seval, ↓reduceIte, h0', h0'', undef, htl, beq_self_eq_true]) | (refine hKC _ _ _ _ _ (callV0 (zd) rfl rfl rfl ?_ ?_); (· exact Lq); simp (maxSteps := 10000000) only [push_cast, seval, ↓reduceIte, h0', h0'', undef, htl, beq_self_eq_true]) | ((with_reducible refine hJ _ _ ?_); clear hJ hKC KC J) | ((with_reducible refine AWP_condT ?_ ?_); · rfl) | ((with_reducible refine AWP_condF ?_ ?_); · rfl)
    refine ret_plain ?_
    simp (maxSteps := 10000000) only [push_cast, seval, ↓reduceIte, show Tryz.f3.results = #[(.tmp 6)] from rfl]
    exact Lq
  subst h0
  cases r
  case false =>
    obtain ⟨rfl, rfl, rfl⟩ : X = Dr.z ∧ S = Sta.z ∧ E = 1 := by have := hg1 rfl rfl; simp only [Prod.mk.injEq] at this; exact this
    simp only [Dr.z, Sta.z, staF] at z9 ⊢
    repeat' first | (with_reducible first | refine AWP_seq' ?_ | refine k_normal ?_ | refine k_ret ?_ | refine k_exit ?_ | refine b_exit ?_ | refine AWP_ret ?_ | refine AWP_exit ?_) | ((with_reducible refine AWP_reg fun KC J hJ hKC => ?_); simp (maxSteps := 10000000) only [push_cast, seval, ↓reduceIte, undef, htl, beq_self_eq_true]) | (refine hKC _ _ _ _ _ (callV0 (h4) rfl rfl rfl ?_ ?_); (· exact Lq); simp (maxSteps := 10000000) only [push_cast, seval, ↓reduceIte, undef, htl, beq_self_eq_true]) | (refine hKC _ _ _ _ _ (callV0 (h5) rfl rfl rfl ?_ ?_); (· exact Lq); simp (maxSteps := 10000000) only [push_cast, seval, ↓reduceIte, undef, htl, beq_self_eq_true]) | (refine hKC _ _ _ _ _ (callV0 (h6) rfl rfl rfl ?_ ?_); (· exact Lq); simp (maxSteps := 10000000) only [push_cast, seval, ↓reduceIte, undef, htl, beq_self_eq_true]) | (refine hKC _ _ _ _ _ (callV0 (z9) rfl rfl rfl ?_ ?_); (· exact Lq); simp (maxSteps := 10000000) only [push_cast, seval, ↓reduceIte, undef, htl, beq_self_eq_true]) | (refine hKC _ _ _ _ _ (callV0 (zd) rfl rfl rfl ?_ ?_); (· exact Lq); simp (maxSteps := 10000000) only [push_cast, seval, ↓reduceIte, undef, htl, beq_self_eq_true]) | ((with_reducible refine hJ _ _ ?_); clear hJ hKC KC J) | ((with_reducible refine AWP_condT ?_ ?_); · rfl) | ((with_reducible refine AWP_condF ?_ ?_); · rfl)
    refine ret_plain ?_
    simp (maxSteps := 10000000) only [push_cast, seval, ↓reduceIte, show Tryz.f3.results = #[(.tmp 6)] from rfl]
    exact Lq
  have h7 := rState18_fn false false xs ys q e (by omega) (hmo rfl)
  rw [← hg2 rfl rfl] at h7
  have z1 := rSame9_fn S S hs1 hs1
  have z2 := rSame_fn false false false false X.l X.g X.l X.g X.a X.a (by omega) (by omega)
  rw [show sameT S S = true from sameT_iff.2 rfl] at z1
  rw [decide_eq_true rfl] at z2
  simp only [staF, encDr, spF] at h7 z1
  repeat' first | (with_reducible first | refine AWP_seq' ?_ | refine k_normal ?_ | refine k_exit ?_ | refine b_exit ?_ | refine AWP_ret ?_ | refine AWP_skip ?_ | refine AWP_exit ?_) | ((with_reducible refine AWP_reg fun KC J hJ hKC => ?_); simp (maxSteps := 10000000) only [push_cast, seval, ↓reduceIte, undef, htl, beq_self_eq_true, bne_self_eq_false]) | (refine hKC _ _ _ _ _ (callV0 (h4) rfl rfl rfl ?_ ?_); (· exact Lq); simp (maxSteps := 10000000) only [push_cast, seval, ↓reduceIte, undef, htl, beq_self_eq_true, bne_self_eq_false]) | (refine hKC _ _ _ _ _ (callV0 (h5) rfl rfl rfl ?_ ?_); (· exact Lq); simp (maxSteps := 10000000) only [push_cast, seval, ↓reduceIte, undef, htl, beq_self_eq_true, bne_self_eq_false]) | (refine hKC _ _ _ _ _ (callV0 (h6) rfl rfl rfl ?_ ?_); (· exact Lq); simp (maxSteps := 10000000) only [push_cast, seval, ↓reduceIte, undef, htl, beq_self_eq_true, bne_self_eq_false]) | (refine hKC _ _ _ _ _ (callV0 (h7) rfl rfl rfl ?_ ?_); (· exact Lq); simp (maxSteps := 10000000) only [push_cast, seval, ↓reduceIte, undef, htl, beq_self_eq_true, bne_self_eq_false]) | (refine hKC _ _ _ _ _ (callV0 (z1) rfl rfl rfl ?_ ?_); (· exact Lq); simp (maxSteps := 10000000) only [push_cast, seval, ↓reduceIte, undef, htl, beq_self_eq_true, bne_self_eq_false]) | (refine hKC _ _ _ _ _ (callV0 (z2) rfl rfl rfl ?_ ?_); (· exact Lq); simp (maxSteps := 10000000) only [push_cast, seval, ↓reduceIte, undef, htl, beq_self_eq_true, bne_self_eq_false]) | ((with_reducible refine hJ _ _ ?_); clear hJ hKC KC J) | ((with_reducible refine AWP_condF ?_ ?_); · rfl)
  refine ret_plain ?_
  simp (maxSteps := 10000000) only [push_cast, seval, ↓reduceIte, show Tryz.f3.results = #[(.tmp 6)] from rfl]
  exact Lq
end Go.Proofs.YtabliglgeiajlaaGreat.AM
