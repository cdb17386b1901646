/- The reference's State. -/
import Derived.Test.YtabliglgeiajlaaGreatHT
import Derived.Test.YtabliglgeiajlaaGreatHE
import Derived.Test.YtabliglgeiajlaaGreatHM
import Derived.Test.YtabliglgeiajlaaGreatHR
import Derived.Test.YtabliglgeiajlaaGreatS0
set_option linter.unusedSimpArgs false
set_option linter.unusedVariables false
namespace Go.Proofs.YtabliglgeiajlaaGreat.AM
open Go Go.RowKit Go.Proofs
set_option maxRecDepth 100000
set_option maxHeartbeats 4000000

theorem timesR_length {α : Type} (f : M3 → M3 × α) (m : M3) : ∀ n, (timesF f n m).2.length = n
  | 0 => rfl
  | n + 1 => by simp [timesF, timesR_length f m n]
theorem timesF_bad {α : Type} {f : M3 → M3 × α} (hf : ∀ m, ¬ m.2.2 = 0 → (f m).1 = m) {b : M3} {i : Nat} (h : ¬ (timesF f i b).1.2.2 = 0) : ∀ j, (timesF f (i + j) b).1 = (timesF f i b).1
  | 0 => rfl
  | j + 1 => by
    have ih := timesF_bad hf h j
    show (f (timesF f (i + j) b).1).1 = _
    rw [ih, hf _ h]
theorem timesF_good {α : Type} {f : M3 → M3 × α} (hf : ∀ m, ¬ m.2.2 = 0 → (f m).1 = m) {b : M3} {n : Nat} (h : (timesF f n b).1.2.2 = 0) : b.2.2 = 0 := by
  by_cases hb : b.2.2 = 0
  · exact hb
  · have := timesF_bad (i := 0) hf (b := b) hb n
    rw [Nat.zero_add] at this
    rw [this] at h
    exact h
theorem belowR_good {m : M3} {b : Int} (h : (belowR m b).2.2 = 0) : m.2.2 = 0 := by
  by_cases hm : m.2.2 = 0
  · exact hm
  · rw [belowR_bad hm] at h; exact h
theorem atomR_bad (nl : Int) (sp : Sp) (m : M3) (h : ¬ m.2.2 = 0) : (atomR nl sp m).1 = m := by
  simp only [atomR, numberR_bad h, belowR_bad h]
theorem slotR_bad (nl : Int) (sp : Sp) (m : M3) (h : ¬ m.2.2 = 0) : (slotR nl sp m).1 = m := by
  simp only [slotR, belowR_bad h, if_neg h, decide_eq_false h, Bool.false_and, Bool.false_eq_true, if_false, numberR_bad h]
theorem belowR_num {m : M3} {b : Int} (hb : 1 ≤ b) (hm : m.2.2 = 0) : 0 ≤ (belowR m b).2.1 ∧ (belowR m b).2.1 < b := by
  unfold belowR tookR
  rw [if_pos hm]
  have h := takeF_num m.1 b hb
  split
  · exact h
  · exact ⟨by simp only; omega, by simp only; omega⟩
/-- What lies ahead: the lattice, the space, the draws, what is told, the state, the choices. -/
abbrev wσ (f g : Bool) (ns : List ByteArray) (us : List Nat) (sp : Sp) (d : Dr) (c a s : D) (m : M3) : List Slot :=
  [.ent ⟨0, none, 25, [.sl f 1 (strRow ns), .sl g 1 (u32Row us)], .cells⟩, .ent ⟨0, none, 28, spF false sp, .cells⟩, .ent ⟨0, none, 30, [.sl false 1 (intRow d.l), .v (.int .i64 d.a), .sl false 1 (intRow d.g)], .cells⟩,
    .ent ⟨0, none, 52, [.v (.slice none 0 0), .v (.int .i64 0), .v (.slice none 0 0), .v (.int .i64 0), .v (.int .i64 0), .v (.slice none 0 0), .v (.slice none 0 0), .v (.slice none 0 0), .v (.slice none 0 0), .v (.int .i64 0)], .cells⟩,
    .ent ⟨0, none, 39, [.v (.int .i64 0), .v (.int .i64 0), c, a, s, .v (.slice none 0 0)], .cells⟩, .free, .ent ⟨0, none, 106, encM m, .cells⟩]
/-- A row that was made, if nothing is wrong. -/
def okD (e : Int) (x : D) : D := if e = 0 then x else .any
theorem okD_ren {e : Int} {x : D} {f : D → D} (h : f x = x) (ha : f .any = .any) : f (okD e x) = okD e x := by unfold okD; split <;> assumption
theorem okD_sl (m : Nat → Option Nat) (e : Int) (b : Bool) (sz : Nat) (xs : List (List D)) : ren m (okD e (.sl b sz xs)) = okD e (.sl b sz xs) := okD_ren rfl rfl
theorem wrapDown {B : Int} {i : Nat} (h : 0 < B - (i : Int)) (hB : B ≤ 1000) : IntKind.i64.wrap (B - (i : Int) - 1) = B - ((i + 1 : Nat) : Int) := by
  rw [wrapI (by omega) (by omega)]; omega
theorem rState15_fn (f g : Bool) (ns : List ByteArray) (us : List Nat) (sp : Sp) (d : Dr) (hul : us.length ≤ 1000) (hsp : SpOk sp) :
    Fn Tryz.prog 61 [.agg [.sl f 1 (strRow ns), .sl g 1 (u32Row us)], .agg (spF false sp), encDr false false d] [] (.agg [.sl false 1 (intRow (endF Sta.z ((genC us.length sp).run d)).1.l), .v (.int .i64 (endF Sta.z ((genC us.length sp).run d)).1.a), .sl false 1 (intRow (endF Sta.z ((genC us.length sp).run d)).1.g), .v (.int .i64 (endF Sta.z ((genC us.length sp).run d)).2.1.v), .v (.int .i64 (endF Sta.z ((genC us.length sp).run d)).2.1.l), .sl false 3 (tRow (endF Sta.z ((genC us.length sp).run d)).2.1.code), .sl false 2 (pRow (endF Sta.z ((genC us.length sp).run d)).2.1.mem), .sl false 3 (sRow (endF Sta.z ((genC us.length sp).run d)).2.1.stack), .sl false 2 (pRow (endF Sta.z ((genC us.length sp).run d)).2.1.out), .v (.int .i64 (endF Sta.z ((genC us.length sp).run d)).2.2)]) [] := by
  have hc0 := hsp.c0
  have hc1 := hsp.c1
  have hm0 := hsp.m0
  have hm1 := hsp.m1
  have hs0 := hsp.s0
  have hs1 := hsp.s1
  have hwl := hsp.wl
  rw [(isR_gen us.length sp).end Sta.z d 0]
  unfold genR rowsR
  simp only [encDr]
  -- the program
  have b1 := rBelow_fn (d, 0, 0) (sp.code + 1) (by omega)
  have hn1 := belowR_num (m := (d, 0, 0)) (b := sp.code + 1) (by omega) rfl
  obtain ⟨b, hB⟩ : ∃ b, belowR (d, 0, 0) (sp.code + 1) = b := ⟨_, rfl⟩
  simp only [hB] at b1 hn1 ⊢
  obtain ⟨N, hN⟩ : ∃ N : Nat, b.2.1.toNat = N := ⟨_, rfl⟩
  have hN1 : b.2.1 ≤ 1000 := by omega
  simp only [hN]
  obtain ⟨F, hF0⟩ : ∃ F, instrR us.length sp = F := ⟨_, rfl⟩
  have hone : ∀ m : M3, Fn Tryz.prog 137 [.agg (encM m), .v (.int .i64 us.length), .agg (spF false sp)] [] (.agg (encM (F m).1 ++ [.v (.int .i64 (F m).2.1), .v (.int .i64 (F m).2.2.1), .v (.int .i64 (F m).2.2.2)])) [] := fun m => by rw [← hF0]; exact rInstr_fn false us.length m sp (by omega) (by omega)
  simp only [hF0]
  simp only [encM, spF] at b1 hone ⊢
  have wm : IntKind.i64.wrap (sp.code + 1) = sp.code + 1 := wrapI (by omega) (by omega)
  refine Fn.of (fn := Tryz.f61) (by kernel_rfl) rfl (by kernel_rfl) ⟨[.agg [.sl f 1 (strRow ns), .sl g 1 (u32Row us)], .agg [.v (.int .i64 sp.code), .v (.int .i64 sp.mem), .v (.int .i64 sp.stack), .v (.int .i64 sp.val), .sl false 1 (intRow sp.ws)], .agg [.sl false 1 (intRow d.l), .v (.int .i64 d.a), .sl false 1 (intRow d.g)], .v undef, .v undef, .v undef, .v undef, .v undef, .v undef, .v undef, .v undef, .v undef, .v undef, .v undef, .v undef, .v undef, .v undef, .v undef, .v undef, .v undef, .v undef, .v undef, .v undef, .v undef, .v undef, .v undef, .v undef, .v undef, .v undef, .v undef, .v undef, .v undef, .v undef, .v undef, .v undef, .v undef, .v undef, .v undef, .v undef, .v undef, .v undef, .v undef, .v undef, .v undef, .v undef, .v undef, .v undef, .v undef, .v undef, .v undef, .v undef, .v undef, .v undef, .v undef, .v undef, .v undef, .v undef, .v undef, .v undef, .v undef, .v undef, .v undef, .v undef, .v undef, .v undef, .v undef, .v undef, .v undef, .v undef, .v undef, .v undef, .v undef, .v undef, .v undef, .v undef, .v undef, .v undef, .v undef, .v undef, .v undef, .v undef, .v undef, .v undef, .v undef, .v undef, .v undef, .v undef, .v undef, .v undef, .v undef, .v undef, .v undef, .v undef, .v undef, .v undef, .v undef, .v undef, .v undef, .v undef, .v undef, .v undef, .v undef, .v undef, .v undef, .v undef, .v undef, .v undef, .v undef, .v undef, .v undef, .v undef, .v undef, .v undef, .v undef, .v undef, .v undef, .v undef, .v undef, .v undef, .v undef, .v undef, .v undef, .v undef, .v undef, .v undef, .v undef, .v undef, .v undef, .v undef, .v undef, .v undef], []⟩ rfl ?_
  repeat' first | (with_reducible refine holdB 0 ?_) | (with_reducible first | refine AWP_seq' ?_ | refine k_normal ?_) | ((with_reducible refine AWP_reg fun KC J hJ hKC => ?_); simp (maxSteps := 10000000) only [push_cast, seval, ↓reduceIte, wm]) | (refine hKC _ _ _ _ _ (callV0 (b1) rfl rfl rfl ?_ ?_); (· exact Lq); simp (maxSteps := 10000000) only [push_cast, seval, ↓reduceIte, wm]) | ((with_reducible refine hJ _ _ ?_); clear hJ hKC KC J)
  refine AWP_cutW 7 ⟨[.any, .any, .any, .ptr 0 0 0, .ptr 1 0 0, .ptr 2 0 0, .ptr 3 0 0, .v (.int .i64 us.length), .ptr 4 0 0, .ptr 6 0 0, .any, .any, .any, .any, .any, .any, .any, .any, .any, .any, .any, .any, .any, .any, .any, .any, .any, .any, .any, .any, .any, .any, .any, .any, .any, .any, .any, .any, .any, .any, .any, .any, .any, .any, .any, .any, .any, .any, .any, .any, .any, .any, .any, .any, .any, .any, .any, .any, .any, .any, .any, .any, .any, .any, .any, .any, .any, .any, .any, .any, .any, .any, .any, .any, .any, .any, .any, .any, .any, .any, .any, .any, .any, .any, .any, .any, .any, .any, .any, .any, .any, .any, .any, .any, .any, .any, .any, .any, .any, .any, .any, .any, .any, .any, .any, .any, .any, .any, .any, .any, .any, .any, .any, .any, .any, .any, .any, .any, .any, .any, .any, .any, .any, .any, .any, .any, .any, .any, .any, .any, .any], wσ f g ns us sp d (.sl false 3 (tRow (timesF F N b).2)) (.v (.slice none 0 0)) (.v (.slice none 0 0)) (timesF F N b).1⟩ ⟨_, 0, (List.append_nil _).symm, rfl⟩ ?_ ?_
  · skip
    repeat' first | (with_reducible refine AWP_block ?_)
    refine AWP_loopE 7 (γ := {i : Nat // i ≤ N}) (fun i => ⟨[.any, .any, .any, .ptr 0 0 0, .ptr 1 0 0, .ptr 2 0 0, .ptr 3 0 0, .v (.int .i64 us.length), .ptr 4 0 0, .ptr 6 0 0, .v (.int .i64 (b.2.1 - (i.1 : Int))), .any, .any, .any, .any, .any, .any, .any, .any, .any, .any, .any, .any, .any, .any, .any, .any, .any, .any, .any, .any, .any, .any, .any, .any, .any, .any, .any, .any, .any, .any, .any, .any, .any, .any, .any, .any, .any, .any, .any, .any, .any, .any, .any, .any, .any, .any, .any, .any, .any, .any, .any, .any, .any, .any, .any, .any, .any, .any, .any, .any, .any, .any, .any, .any, .any, .any, .any, .any, .any, .any, .any, .any, .any, .any, .any, .any, .any, .any, .any, .any, .any, .any, .any, .any, .any, .any, .any, .any, .any, .any, .any, .any, .any, .any, .any, .any, .any, .any, .any, .any, .any, .any, .any, .any, .any, .any, .any, .any, .any, .any, .any, .any, .any, .any, .any, .any, .any, .any, .any, .any], σR (wσ f g ns us sp d (eR 10 i.1) (.v (.slice none 0 0)) (.v (.slice none 0 0)) (timesF F i.1 b).1) 3 i.1 3 100 (tCells (timesF F i.1 b).2)⟩) (fun i => N - i.1) ⟨0, by omega⟩ rfl (fun i => σR_le (wσ _ _ _ _ _ _ _ _ _ _) _ _ _ _ _) (fun i => ?_) (fun i => ?_) ⟨?_, ?_⟩ ?_
    · refine clsd_all ?_
      rcases rCase (wσ f g ns us sp d (eR 10 i.1) (.v (.slice none 0 0)) (.v (.slice none 0 0)) (timesF F i.1 b).1) 10 3 i.1 3 100 (tCells (timesF F i.1 b).2) with ⟨_, hD, hσ⟩ | ⟨j, _, hD, hσ⟩
      all_goals
        simp only [hσ]
        simp only [hD, wσ, spF, encM, List.cons_append, List.nil_append, List.replicate, List.map_cons, List.map_nil, renSlot, ren_tCells]
        rfl
    · rcases rCase (wσ f g ns us sp d (eR 10 i.1) (.v (.slice none 0 0)) (.v (.slice none 0 0)) (timesF F i.1 b).1) 10 3 i.1 3 100 (tCells (timesF F i.1 b).2) with ⟨_, hD, hσ⟩ | ⟨j, _, hD, hσ⟩
      all_goals
        simp only [hσ]
        simp only [hD]
        rfl
    · simp only [show b.2.1 - ((0 : Nat) : Int) = b.2.1 by omega]
      exact Lq
    · exact Fq
    rintro ⟨i, hi⟩
    have hLl := timesR_length F b i
    obtain ⟨m0, hm0⟩ : ∃ m, (timesF F i b).1 = m := ⟨_, rfl⟩
    obtain ⟨L, hL⟩ : ∃ L, (timesF F i b).2 = L := ⟨_, rfl⟩
    have hst : timesF F (i + 1) b = ((F m0).1, L ++ [(F m0).2]) := by simp only [timesF, hm0, hL]
    simp only [hm0, hL] at hLl ⊢
    by_cases hlt : i < N
    · have hgt : (0 < b.2.1 - (i : Int)) := by omega
      have hi1 : i + 1 ≤ N := by omega
      have h1 := hone m0
      obtain ⟨⟨m2, x⟩, hx⟩ : ∃ r, F m0 = r := ⟨_, rfl⟩
      rw [hx] at h1 hst
      simp only [encM, List.cons_append, List.nil_append] at h1
      have hD1 : eR 10 (i + 1) = .ref 10 i (i + 1) := rfl
      have hσ1 : ∀ q, σR q 3 (i + 1) 3 100 (tCells (L ++ [x])) = q ++ [.dead, .dead, .dead, .ent ⟨i, some 3, 100, tCells L ++ tCells [x], .cells⟩] := fun q => by rw [tCells_app]; unfold σR; rw [if_neg (by omega)]; simp only [List.replicate, List.append_assoc, List.cons_append, List.nil_append]; rfl
      rcases rCase (wσ f g ns us sp d (eR 10 i) (.v (.slice none 0 0)) (.v (.slice none 0 0)) m0) 10 3 i 3 100 (tCells L) with ⟨h0, hD, hσ⟩ | ⟨q, hq, hD, hσ⟩
      · have hL0 : L = [] := List.length_eq_zero_iff.1 (by omega)
        subst hL0
        simp only [hσ]
        simp only [hD]
        repeat' first | (with_reducible first | refine AWP_seq' ?_ | refine k_normal ?_ | refine b_normal ?_ | refine AWP_skip ?_ | refine AWP_block ?_) | ((with_reducible refine AWP_reg fun KC J hJ hKC => ?_); simp (maxSteps := 10000000) only [push_cast, seval, ↓reduceIte, hgt, wσ, spF, encM, wrapDown hgt hN1]) | (refine hKC _ _ _ _ _ (callV0 (h1) rfl rfl rfl ?_ ?_); (· exact Lq); simp (maxSteps := 10000000) only [push_cast, seval, ↓reduceIte, hgt, wσ, spF, encM, wrapDown hgt hN1]) | ((with_reducible refine hJ _ _ ?_); clear hJ hKC KC J) | ((with_reducible refine AWP_condT ?_ ?_); · rfl)
        subst h0
        refine ⟨⟨_, hi1⟩, by simp only; omega, ?_, ?_⟩
        · exact Lq
        · simp only [hst, hσ1, hD1, wσ, encM, spF, List.cons_append, List.nil_append]
          exact ⟨[_, _, _, _, _, _, _, _, _, _, _], _, rfl, .inr (.inl rfl), .inr (.inl rfl), .inr (.inl rfl), .inr (.inl rfl), .inr (.inl rfl), .inr (.inl rfl), .inr (.inl rfl), .inl rfl, .inl rfl, .inl rfl, .inr (.inl rfl), trivial⟩
      · have hlC : (tCells L).length = (q + 1) * 3 := by rw [tCells_length, hLl, hq]
        have htC := take_len hlC
        have hbm : Nat.beq q q = true := Nat.beq_refl q
        simp only [hσ]
        simp only [hD]
        repeat' first | (with_reducible first | refine AWP_seq' ?_ | refine k_normal ?_ | refine b_normal ?_ | refine AWP_skip ?_ | refine AWP_block ?_) | ((with_reducible refine AWP_reg fun KC J hJ hKC => ?_); simp (maxSteps := 10000000) only [push_cast, seval, ↓reduceIte, hgt, wσ, spF, encM, List.cons_append, List.nil_append, List.replicate, hlC, htC, hbm, wrapDown hgt hN1]) | ((with_reducible refine And.intro ?_ ?_); · exact Sq) | (refine hKC _ _ _ _ _ (callV0 (h1) rfl rfl rfl ?_ ?_); (· exact Lq); simp (maxSteps := 10000000) only [push_cast, seval, ↓reduceIte, hgt, wσ, spF, encM, List.cons_append, List.nil_append, List.replicate, hlC, htC, hbm, wrapDown hgt hN1]) | ((with_reducible refine hJ _ _ ?_); clear hJ hKC KC J) | ((with_reducible refine AWP_condT ?_ ?_); · rfl)
        subst hq
        refine ⟨⟨_, hi1⟩, by simp only; omega, ?_, ?_⟩
        · exact Lq
        · simp only [hst, hσ1, hD1, wσ, encM, spF, List.cons_append, List.nil_append]
          exact ⟨[_, _, _, _, _, _, _, _, _, _, _], _, rfl, .inr (.inl rfl), .inr (.inl rfl), .inr (.inl rfl), .inr (.inl rfl), .inr (.inl rfl), .inr (.inl rfl), .inr (.inl rfl), .inl rfl, .inl rfl, .inl rfl, .inr (.inl rfl), trivial⟩
    · have hgt : ¬ (0 < b.2.1 - (i : Int)) := by omega
      have hin : i = N := by omega
      subst hin
      rw [hm0, hL]
      rcases rCase (wσ f g ns us sp d (eR 10 i) (.v (.slice none 0 0)) (.v (.slice none 0 0)) m0) 10 3 i 3 100 (tCells L) with ⟨h0, hD, hσ⟩ | ⟨q, hq, hD, hσ⟩
      · have hL0 : L = [] := List.length_eq_zero_iff.1 (by omega)
        subst hL0
        simp only [hσ]
        simp only [hD]
        repeat' first | (with_reducible first | refine AWP_seq' ?_ | refine k_normal ?_ | refine k_exit ?_ | refine b_exit ?_ | refine AWP_exit ?_) | ((with_reducible refine AWP_reg fun KC J hJ hKC => ?_); simp (maxSteps := 10000000) only [push_cast, seval, ↓reduceIte, hgt, wσ, spF, encM]) | ((with_reducible refine hJ _ _ ?_); clear hJ hKC KC J) | ((with_reducible refine AWP_condF ?_ ?_); · rfl)
        refine .inl ⟨rfl, weak_dropS (Nat.le_refl 7) (clsd_all (by simp only [wσ, spF, encM, List.map_cons, List.map_nil, renSlot, okD_sl]; rfl)) (by rfl) Lq ⟨[_, _, _, _, _, _, _], _, rfl, .inr (.inl rfl), .inr (.inl rfl), .inr (.inl rfl), .inr (.inl rfl), .inr (.inr ⟨_, _, rfl, rfl, ?_⟩), .inr (.inl rfl), .inr (.inl rfl), trivial⟩⟩
        exact Lq
      · have hcI : chunk 3 (q + 1) (tCells L) = tRow L := by rw [← hq, ← hLl]; exact chunk_t L
        have hlC : (tCells L).length = (q + 1) * 3 := by rw [tCells_length, hLl, hq]
        have hbm : Nat.beq q q = true := Nat.beq_refl q
        simp only [hσ]
        simp only [hD, wσ, spF, encM, List.cons_append, List.nil_append, List.replicate]
        repeat' first | (refine AWP_freezeR 5 10 rfl (by (simp (maxSteps := 10000000) only [push_cast, seval, ↓reduceIte]) <;> rfl) ?_; simp (maxSteps := 10000000) only [push_cast, seval, ↓reduceIte, frSt, frSlot, fr3, fr2, fr1, fr0, sameB, arrOf, hgt, hcI, hlC, hbm]) | (with_reducible first | refine AWP_seq' ?_ | refine k_normal ?_ | refine k_exit ?_ | refine b_exit ?_ | refine AWP_exit ?_) | ((with_reducible refine AWP_reg fun KC J hJ hKC => ?_); simp (maxSteps := 10000000) only [push_cast, seval, ↓reduceIte, hgt, hcI, hlC, hbm]) | ((with_reducible refine hJ _ _ ?_); clear hJ hKC KC J) | ((with_reducible refine AWP_condF ?_ ?_); · rfl)
        refine .inl ⟨rfl, weak_dropS (Nat.le_refl 7) (clsd_all (by simp only [wσ, spF, encM, List.map_cons, List.map_nil, renSlot, okD_sl]; rfl)) (by rfl) Lq ⟨[_, _, _, _, _, _, _], _, rfl, .inr (.inl rfl), .inr (.inl rfl), .inr (.inl rfl), .inr (.inl rfl), .inr (.inr ⟨_, _, rfl, rfl, ?_⟩), .inr (.inl rfl), .inr (.inl rfl), trivial⟩⟩
        exact Lq
  obtain ⟨m1, hM1⟩ : ∃ m, (timesF F N b).1 = m := ⟨_, rfl⟩
  obtain ⟨C, hC1⟩ : ∃ L, (timesF F N b).2 = L := ⟨_, rfl⟩
  simp only [hM1, hC1]
  clear hone hN1 hN hn1 b1 wm
  have b1 := rBelow_fn m1 (sp.mem + 1) (by omega)
  have hbn := fun h : (belowR m1 (sp.mem + 1)).2.2 = 0 => belowR_num (m := m1) (b := sp.mem + 1) (by omega) (belowR_good h)
  have hbg := fun h : (belowR m1 (sp.mem + 1)).2.2 = 0 => belowR_good h
  obtain ⟨b, hB⟩ : ∃ b, belowR m1 (sp.mem + 1) = b := ⟨_, rfl⟩
  simp only [hB] at b1 hbn hbg ⊢
  obtain ⟨N, hN⟩ : ∃ N : Nat, b.2.1.toNat = N := ⟨_, rfl⟩
  simp only [hN]
  have hF := atomR_bad us.length sp
  have hone := fun m : M3 => rSlot0_fn false us.length m sp (by omega)
  obtain ⟨F, hF0⟩ : ∃ F, atomR us.length sp = F := ⟨_, rfl⟩
  simp only [hF0] at hone hF ⊢
  simp only [encM, spF, List.cons_append, List.nil_append] at b1 hone
  have wm : IntKind.i64.wrap (sp.mem + 1) = sp.mem + 1 := wrapI (by omega) (by omega)
  repeat' first | (with_reducible refine holdB 2 ?_) | (with_reducible first | refine AWP_seq' ?_ | refine k_normal ?_) | ((with_reducible refine AWP_reg fun KC J hJ hKC => ?_); simp (maxSteps := 10000000) only [push_cast, seval, ↓reduceIte, wm, wσ, encM, spF]) | (refine hKC _ _ _ _ _ (callV0 (b1) rfl rfl rfl ?_ ?_); (· exact Lq); simp (maxSteps := 10000000) only [push_cast, seval, ↓reduceIte, wm, wσ, encM, spF]) | ((with_reducible refine hJ _ _ ?_); clear hJ hKC KC J)
  refine AWP_cutW 7 ⟨[.any, .any, .any, .ptr 0 0 0, .ptr 1 0 0, .ptr 2 0 0, .ptr 3 0 0, .v (.int .i64 us.length), .ptr 4 0 0, .ptr 6 0 0, .any, .any, .any, .any, .any, .any, .any, .any, .any, .any, .any, .any, .any, .any, .any, .any, .any, .any, .any, .any, .any, .any, .any, .any, .any, .any, .any, .any, .any, .any, .any, .any, .any, .any, .any, .any, .any, .any, .any, .any, .any, .any, .any, .any, .any, .any, .any, .any, .any, .any, .any, .any, .any, .any, .any, .any, .any, .any, .any, .any, .any, .any, .any, .any, .any, .any, .any, .any, .any, .any, .any, .any, .any, .any, .any, .any, .any, .any, .any, .any, .any, .any, .any, .any, .any, .any, .any, .any, .any, .any, .any, .any, .any, .any, .any, .any, .any, .any, .any, .any, .any, .any, .any, .any, .any, .any, .any, .any, .any, .any, .any, .any, .any, .any, .any, .any, .any, .any, .any, .any, .any], wσ f g ns us sp d (.sl false 3 (tRow C)) (okD (timesF F N b).1.2.2 (.sl false 2 (pRow (timesF F N b).2))) (.v (.slice none 0 0)) (timesF F N b).1⟩ ⟨[_, _, _, _, _, _, _], 1, rfl, rfl⟩ ?_ ?_
  · skip
    repeat' first | (with_reducible refine AWP_block ?_)
    refine AWP_loopE 7 (γ := {i : Nat // i ≤ N}) (fun i => ⟨[.any, .any, .any, .ptr 0 0 0, .ptr 1 0 0, .ptr 2 0 0, .ptr 3 0 0, .v (.int .i64 us.length), .ptr 4 0 0, .ptr 6 0 0, .any, .any, .v (.int .i64 (b.2.1 - (i.1 : Int))), .any, .any, .any, .any, .any, .any, .any, .any, .any, .any, .any, .any, .any, .any, .any, .any, .any, .any, .any, .any, .any, .any, .any, .any, .any, .any, .any, .any, .any, .any, .any, .any, .any, .any, .any, .any, .any, .any, .any, .any, .any, .any, .any, .any, .any, .any, .any, .any, .any, .any, .any, .any, .any, .any, .any, .any, .any, .any, .any, .any, .any, .any, .any, .any, .any, .any, .any, .any, .any, .any, .any, .any, .any, .any, .any, .any, .any, .any, .any, .any, .any, .any, .any, .any, .any, .any, .any, .any, .any, .any, .any, .any, .any, .any, .any, .any, .any, .any, .any, .any, .any, .any, .any, .any, .any, .any, .any, .any, .any, .any, .any, .any, .any, .any, .any, .any, .any, .any], σR (wσ f g ns us sp d (.sl false 3 (tRow C)) (eR 10 i.1) (.v (.slice none 0 0)) (timesF F i.1 b).1) 3 i.1 2 34 (pCells (timesF F i.1 b).2)⟩) (fun i => N - i.1) ⟨0, by omega⟩ rfl (fun i => σR_le (wσ _ _ _ _ _ _ _ _ _ _) _ _ _ _ _) (fun i => ?_) (fun i => ?_) ⟨?_, ?_⟩ ?_
    · refine clsd_all ?_
      rcases rCase (wσ f g ns us sp d (.sl false 3 (tRow C)) (eR 10 i.1) (.v (.slice none 0 0)) (timesF F i.1 b).1) 10 3 i.1 2 34 (pCells (timesF F i.1 b).2) with ⟨_, hD, hσ⟩ | ⟨j, _, hD, hσ⟩
      all_goals
        simp only [hσ]
        simp only [hD, wσ, spF, encM, List.cons_append, List.nil_append, List.replicate, List.map_cons, List.map_nil, renSlot, ren_pCells]
        rfl
    · rcases rCase (wσ f g ns us sp d (.sl false 3 (tRow C)) (eR 10 i.1) (.v (.slice none 0 0)) (timesF F i.1 b).1) 10 3 i.1 2 34 (pCells (timesF F i.1 b).2) with ⟨_, hD, hσ⟩ | ⟨j, _, hD, hσ⟩
      all_goals
        simp only [hσ]
        simp only [hD]
        rfl
    · simp only [show b.2.1 - ((0 : Nat) : Int) = b.2.1 by omega]
      exact Lq
    · exact Fq
    rintro ⟨i, hi⟩
    have hLl := timesR_length F b i
    have hbad := fun h => timesF_bad hF (b := b) (i := i) h
    obtain ⟨m0, hm0⟩ : ∃ m, (timesF F i b).1 = m := ⟨_, rfl⟩
    obtain ⟨L, hL⟩ : ∃ L, (timesF F i b).2 = L := ⟨_, rfl⟩
    have hst : timesF F (i + 1) b = ((F m0).1, L ++ [(F m0).2]) := by simp only [timesF, hm0, hL]
    simp only [hm0, hL] at hLl hbad ⊢
    by_cases hlt : i < N
    · by_cases heq : m0.2.2 = 0
      · have heq' : (m0.2.2 == 0) = true := by simpa using heq
        have hn1 := hbn (timesF_good hF (n := i) (by rw [hm0]; exact heq))
        have hN1 : b.2.1 ≤ 1000 := by omega
        have hgt : (0 < b.2.1 - (i : Int)) := by omega
        have hi1 : i + 1 ≤ N := by omega
        have h1 := hone m0
        obtain ⟨⟨m2, x⟩, hx⟩ : ∃ r, F m0 = r := ⟨_, rfl⟩
        rw [hx] at h1 hst
        simp only [encM, List.cons_append, List.nil_append] at h1
        have hD1 : eR 10 (i + 1) = .ref 10 i (i + 1) := rfl
        have hσ1 : ∀ q, σR q 3 (i + 1) 2 34 (pCells (L ++ [x])) = q ++ [.dead, .dead, .dead, .ent ⟨i, some 2, 34, pCells L ++ pCells [x], .cells⟩] := fun q => by rw [pCells_app]; unfold σR; rw [if_neg (by omega)]; simp only [List.replicate, List.append_assoc, List.cons_append, List.nil_append]; rfl
        rcases rCase (wσ f g ns us sp d (.sl false 3 (tRow C)) (eR 10 i) (.v (.slice none 0 0)) m0) 10 3 i 2 34 (pCells L) with ⟨h0, hD, hσ⟩ | ⟨q, hq, hD, hσ⟩
        · have hL0 : L = [] := List.length_eq_zero_iff.1 (by omega)
          subst hL0
          simp only [hσ]
          simp only [hD]
          repeat' first | (with_reducible first | refine AWP_seq' ?_ | refine k_normal ?_ | refine b_normal ?_ | refine AWP_skip ?_ | refine AWP_block ?_) | ((with_reducible refine AWP_reg fun KC J hJ hKC => ?_); simp (maxSteps := 10000000) only [push_cast, seval, ↓reduceIte, hgt, heq', wσ, spF, encM, wrapDown hgt hN1]) | (refine hKC _ _ _ _ _ (callV0 (h1) rfl rfl rfl ?_ ?_); (· exact Lq); simp (maxSteps := 10000000) only [push_cast, seval, ↓reduceIte, hgt, heq', wσ, spF, encM, wrapDown hgt hN1]) | ((with_reducible refine hJ _ _ ?_); clear hJ hKC KC J) | ((with_reducible refine AWP_condT ?_ ?_); · rfl)
          subst h0
          refine ⟨⟨_, hi1⟩, by simp only; omega, ?_, ?_⟩
          · exact Lq
          · simp only [hst, hσ1, hD1, wσ, encM, spF, List.cons_append, List.nil_append]
            exact ⟨[_, _, _, _, _, _, _, _, _, _, _], _, rfl, .inr (.inl rfl), .inr (.inl rfl), .inr (.inl rfl), .inr (.inl rfl), .inr (.inl rfl), .inr (.inl rfl), .inr (.inl rfl), .inl rfl, .inl rfl, .inl rfl, .inr (.inl rfl), trivial⟩
        · have hlC : (pCells L).length = (q + 1) * 2 := by rw [pCells_length, hLl, hq]
          have htC := take_len hlC
          have hbm : Nat.beq q q = true := Nat.beq_refl q
          simp only [hσ]
          simp only [hD]
          repeat' first | (with_reducible first | refine AWP_seq' ?_ | refine k_normal ?_ | refine b_normal ?_ | refine AWP_skip ?_ | refine AWP_block ?_) | ((with_reducible refine AWP_reg fun KC J hJ hKC => ?_); simp (maxSteps := 10000000) only [push_cast, seval, ↓reduceIte, hgt, heq', wσ, spF, encM, List.cons_append, List.nil_append, List.replicate, hlC, htC, hbm, wrapDown hgt hN1]) | ((with_reducible refine And.intro ?_ ?_); · exact Sq) | (refine hKC _ _ _ _ _ (callV0 (h1) rfl rfl rfl ?_ ?_); (· exact Lq); simp (maxSteps := 10000000) only [push_cast, seval, ↓reduceIte, hgt, heq', wσ, spF, encM, List.cons_append, List.nil_append, List.replicate, hlC, htC, hbm, wrapDown hgt hN1]) | ((with_reducible refine hJ _ _ ?_); clear hJ hKC KC J) | ((with_reducible refine AWP_condT ?_ ?_); · rfl)
          subst hq
          refine ⟨⟨_, hi1⟩, by simp only; omega, ?_, ?_⟩
          · exact Lq
          · simp only [hst, hσ1, hD1, wσ, encM, spF, List.cons_append, List.nil_append]
            exact ⟨[_, _, _, _, _, _, _, _, _, _, _], _, rfl, .inr (.inl rfl), .inr (.inl rfl), .inr (.inl rfl), .inr (.inl rfl), .inr (.inl rfl), .inr (.inl rfl), .inr (.inl rfl), .inl rfl, .inl rfl, .inl rfl, .inr (.inl rfl), trivial⟩
      · have heq' : (m0.2.2 == 0) = false := by simpa using heq
        have hgt : (0 < b.2.1 - (i : Int)) := by omega
        have hmN : (timesF F N b).1 = m0 := by have := hbad heq (N - i); rwa [show i + (N - i) = N by omega] at this
        rw [hmN]
        rcases rCase (wσ f g ns us sp d (.sl false 3 (tRow C)) (eR 10 i) (.v (.slice none 0 0)) m0) 10 3 i 2 34 (pCells L) with ⟨h0, hD, hσ⟩ | ⟨q, hq, hD, hσ⟩
        · have hL0 : L = [] := List.length_eq_zero_iff.1 (by omega)
          subst hL0
          simp only [hσ]
          simp only [hD]
          repeat' first | (with_reducible first | refine AWP_seq' ?_ | refine k_normal ?_ | refine k_exit ?_ | refine b_exit ?_ | refine AWP_exit ?_) | ((with_reducible refine AWP_reg fun KC J hJ hKC => ?_); simp (maxSteps := 10000000) only [push_cast, seval, ↓reduceIte, hgt, heq', undef, wσ, spF, encM]) | ((with_reducible refine hJ _ _ ?_); clear hJ hKC KC J) | ((with_reducible refine AWP_condF ?_ ?_); · rfl)
          refine .inl ⟨rfl, weak_dropS (Nat.le_refl 7) (clsd_all (by simp only [wσ, spF, encM, List.map_cons, List.map_nil, renSlot, okD_sl]; rfl)) (by rfl) Lq ⟨[_, _, _, _, _, _, _], _, rfl, .inr (.inl rfl), .inr (.inl rfl), .inr (.inl rfl), .inr (.inl rfl), .inr (.inr ⟨_, _, rfl, rfl, ?_⟩), .inr (.inl rfl), .inr (.inl rfl), trivial⟩⟩
          simp only [okD, if_neg heq]; exact Lq
        · have hcI : chunk 2 (q + 1) (pCells L) = pRow L := by rw [← hq, ← hLl]; exact chunk_p L
          have hlC : (pCells L).length = (q + 1) * 2 := by rw [pCells_length, hLl, hq]
          have hbm : Nat.beq q q = true := Nat.beq_refl q
          simp only [hσ]
          simp only [hD, wσ, spF, encM, List.cons_append, List.nil_append, List.replicate]
          repeat' first | (with_reducible first | refine AWP_seq' ?_ | refine k_normal ?_ | refine k_exit ?_ | refine b_exit ?_ | refine AWP_exit ?_) | ((with_reducible refine AWP_reg fun KC J hJ hKC => ?_); simp (maxSteps := 10000000) only [push_cast, seval, ↓reduceIte, hgt, heq', undef, hcI, hlC, hbm]) | ((with_reducible refine hJ _ _ ?_); clear hJ hKC KC J) | ((with_reducible refine AWP_condF ?_ ?_); · rfl)
          refine .inl ⟨rfl, weak_dropS (Nat.le_refl 7) (clsd_all (by simp only [wσ, spF, encM, List.map_cons, List.map_nil, renSlot, okD_sl]; rfl)) (by rfl) Lq ⟨[_, _, _, _, _, _, _], _, rfl, .inr (.inl rfl), .inr (.inl rfl), .inr (.inl rfl), .inr (.inl rfl), .inr (.inr ⟨_, _, rfl, rfl, ?_⟩), .inr (.inl rfl), .inr (.inl rfl), trivial⟩⟩
          simp only [okD, if_neg heq]; exact Lq
    · have hgt : ¬ (0 < b.2.1 - (i : Int)) := by omega
      have hin : i = N := by omega
      subst hin
      rw [hm0, hL]
      rcases rCase (wσ f g ns us sp d (.sl false 3 (tRow C)) (eR 10 i) (.v (.slice none 0 0)) m0) 10 3 i 2 34 (pCells L) with ⟨h0, hD, hσ⟩ | ⟨q, hq, hD, hσ⟩
      · have hL0 : L = [] := List.length_eq_zero_iff.1 (by omega)
        subst hL0
        simp only [hσ]
        simp only [hD]
        repeat' first | (with_reducible first | refine AWP_seq' ?_ | refine k_normal ?_ | refine k_exit ?_ | refine b_exit ?_ | refine AWP_exit ?_) | ((with_reducible refine AWP_reg fun KC J hJ hKC => ?_); simp (maxSteps := 10000000) only [push_cast, seval, ↓reduceIte, hgt, undef, wσ, spF, encM]) | ((with_reducible refine hJ _ _ ?_); clear hJ hKC KC J) | ((with_reducible refine AWP_condF ?_ ?_); · rfl)
        refine .inl ⟨rfl, weak_dropS (Nat.le_refl 7) (clsd_all (by simp only [wσ, spF, encM, List.map_cons, List.map_nil, renSlot, okD_sl]; rfl)) (by rfl) Lq ⟨[_, _, _, _, _, _, _], _, rfl, .inr (.inl rfl), .inr (.inl rfl), .inr (.inl rfl), .inr (.inl rfl), .inr (.inr ⟨_, _, rfl, rfl, ?_⟩), .inr (.inl rfl), .inr (.inl rfl), trivial⟩⟩
        (unfold okD; split <;> exact Lq)
      · have hcI : chunk 2 (q + 1) (pCells L) = pRow L := by rw [← hq, ← hLl]; exact chunk_p L
        have hlC : (pCells L).length = (q + 1) * 2 := by rw [pCells_length, hLl, hq]
        have hbm : Nat.beq q q = true := Nat.beq_refl q
        simp only [hσ]
        simp only [hD, wσ, spF, encM, List.cons_append, List.nil_append, List.replicate]
        repeat' first | (refine AWP_freezeR 12 10 rfl (by (simp (maxSteps := 10000000) only [push_cast, seval, ↓reduceIte]) <;> rfl) ?_; simp (maxSteps := 10000000) only [push_cast, seval, ↓reduceIte, frSt, frSlot, fr3, fr2, fr1, fr0, sameB, arrOf, hgt, undef, hcI, hlC, hbm]) | (with_reducible first | refine AWP_seq' ?_ | refine k_normal ?_ | refine k_exit ?_ | refine b_exit ?_ | refine AWP_exit ?_) | ((with_reducible refine AWP_reg fun KC J hJ hKC => ?_); simp (maxSteps := 10000000) only [push_cast, seval, ↓reduceIte, hgt, undef, hcI, hlC, hbm]) | ((with_reducible refine hJ _ _ ?_); clear hJ hKC KC J) | ((with_reducible refine AWP_condF ?_ ?_); · rfl)
        refine .inl ⟨rfl, weak_dropS (Nat.le_refl 7) (clsd_all (by simp only [wσ, spF, encM, List.map_cons, List.map_nil, renSlot, okD_sl]; rfl)) (by rfl) Lq ⟨[_, _, _, _, _, _, _], _, rfl, .inr (.inl rfl), .inr (.inl rfl), .inr (.inl rfl), .inr (.inl rfl), .inr (.inr ⟨_, _, rfl, rfl, ?_⟩), .inr (.inl rfl), .inr (.inl rfl), trivial⟩⟩
        (unfold okD; split <;> exact Lq)
  obtain ⟨m2, hM2⟩ : ∃ m, (timesF F N b).1 = m := ⟨_, rfl⟩
  obtain ⟨Q, hC2⟩ : ∃ L, (timesF F N b).2 = L := ⟨_, rfl⟩
  simp only [hM2, hC2]
  have hg2 : m2.2.2 = 0 → m1.2.2 = 0 := fun h => hbg (timesF_good hF (n := N) (by rw [hM2]; exact h))
  obtain ⟨X2, hX2⟩ : ∃ y, okD m2.2.2 (.sl false 2 (pRow Q)) = y := ⟨_, rfl⟩
  have hr2 : ∀ m, ren m X2 = X2 := fun m => by rw [← hX2]; exact okD_ren rfl rfl
  have hf2 : ∀ k h sz cs, fr1 k h sz cs X2 = X2 := fun k h sz cs => by rw [← hX2]; exact okD_ren rfl rfl
  have hX2' : X2 = .any ∨ X2 = .sl false 2 (pRow Q) := by
    rw [← hX2]; unfold okD; split
    · exact .inr rfl
    · exact .inl rfl
  simp only [hX2]
  clear hone hN b1 wm hbn hbg hF
  have b1 := rBelow_fn m2 (sp.stack + 1) (by omega)
  have hbn := fun h : (belowR m2 (sp.stack + 1)).2.2 = 0 => belowR_num (m := m2) (b := sp.stack + 1) (by omega) (belowR_good h)
  have hbg := fun h : (belowR m2 (sp.stack + 1)).2.2 = 0 => belowR_good h
  obtain ⟨b, hB⟩ : ∃ b, belowR m2 (sp.stack + 1) = b := ⟨_, rfl⟩
  simp only [hB] at b1 hbn hbg ⊢
  obtain ⟨N, hN⟩ : ∃ N : Nat, b.2.1.toNat = N := ⟨_, rfl⟩
  simp only [hN]
  have hF := slotR_bad us.length sp
  have hone := fun m : M3 => rSlot1_fn false us.length m sp (by omega)
  obtain ⟨F, hF0⟩ : ∃ F, slotR us.length sp = F := ⟨_, rfl⟩
  simp only [hF0] at hone hF ⊢
  simp only [encM, spF, List.cons_append, List.nil_append] at b1 hone
  have wm : IntKind.i64.wrap (sp.stack + 1) = sp.stack + 1 := wrapI (by omega) (by omega)
  repeat' first | (with_reducible refine holdB 4 ?_) | (with_reducible first | refine AWP_seq' ?_ | refine k_normal ?_) | ((with_reducible refine AWP_reg fun KC J hJ hKC => ?_); simp (maxSteps := 10000000) only [push_cast, seval, ↓reduceIte, wm, wσ, encM, spF]) | (refine hKC _ _ _ _ _ (callV0 (b1) rfl rfl rfl ?_ ?_); (· exact Lq); simp (maxSteps := 10000000) only [push_cast, seval, ↓reduceIte, wm, wσ, encM, spF]) | ((with_reducible refine hJ _ _ ?_); clear hJ hKC KC J)
  refine AWP_cutW 7 ⟨[.any, .any, .any, .ptr 0 0 0, .ptr 1 0 0, .ptr 2 0 0, .ptr 3 0 0, .v (.int .i64 us.length), .ptr 4 0 0, .ptr 6 0 0, .any, .any, .any, .any, .any, .any, .any, .any, .any, .any, .any, .any, .any, .any, .any, .any, .any, .any, .any, .any, .any, .any, .any, .any, .any, .any, .any, .any, .any, .any, .any, .any, .any, .any, .any, .any, .any, .any, .any, .any, .any, .any, .any, .any, .any, .any, .any, .any, .any, .any, .any, .any, .any, .any, .any, .any, .any, .any, .any, .any, .any, .any, .any, .any, .any, .any, .any, .any, .any, .any, .any, .any, .any, .any, .any, .any, .any, .any, .any, .any, .any, .any, .any, .any, .any, .any, .any, .any, .any, .any, .any, .any, .any, .any, .any, .any, .any, .any, .any, .any, .any, .any, .any, .any, .any, .any, .any, .any, .any, .any, .any, .any, .any, .any, .any, .any, .any, .any, .any, .any, .any], wσ f g ns us sp d (.sl false 3 (tRow C)) X2 (okD (timesF F N b).1.2.2 (.sl false 3 (sRow (timesF F N b).2))) (timesF F N b).1⟩ ⟨[_, _, _, _, _, _, _], 1, rfl, rfl⟩ ?_ ?_
  · skip
    repeat' first | (with_reducible refine AWP_block ?_)
    refine AWP_loopE 7 (γ := {i : Nat // i ≤ N}) (fun i => ⟨[.any, .any, .any, .ptr 0 0 0, .ptr 1 0 0, .ptr 2 0 0, .ptr 3 0 0, .v (.int .i64 us.length), .ptr 4 0 0, .ptr 6 0 0, .any, .any, .any, .any, .v (.int .i64 (b.2.1 - (i.1 : Int))), .any, .any, .any, .any, .any, .any, .any, .any, .any, .any, .any, .any, .any, .any, .any, .any, .any, .any, .any, .any, .any, .any, .any, .any, .any, .any, .any, .any, .any, .any, .any, .any, .any, .any, .any, .any, .any, .any, .any, .any, .any, .any, .any, .any, .any, .any, .any, .any, .any, .any, .any, .any, .any, .any, .any, .any, .any, .any, .any, .any, .any, .any, .any, .any, .any, .any, .any, .any, .any, .any, .any, .any, .any, .any, .any, .any, .any, .any, .any, .any, .any, .any, .any, .any, .any, .any, .any, .any, .any, .any, .any, .any, .any, .any, .any, .any, .any, .any, .any, .any, .any, .any, .any, .any, .any, .any, .any, .any, .any, .any, .any, .any, .any, .any, .any, .any], σR (wσ f g ns us sp d (.sl false 3 (tRow C)) X2 (eR 10 i.1) (timesF F i.1 b).1) 3 i.1 3 104 (sCells (timesF F i.1 b).2)⟩) (fun i => N - i.1) ⟨0, by omega⟩ rfl (fun i => σR_le (wσ _ _ _ _ _ _ _ _ _ _) _ _ _ _ _) (fun i => ?_) (fun i => ?_) ⟨?_, ?_⟩ ?_
    · refine clsd_all ?_
      rcases rCase (wσ f g ns us sp d (.sl false 3 (tRow C)) X2 (eR 10 i.1) (timesF F i.1 b).1) 10 3 i.1 3 104 (sCells (timesF F i.1 b).2) with ⟨_, hD, hσ⟩ | ⟨j, _, hD, hσ⟩
      all_goals
        simp only [hσ]
        simp only [hD, wσ, spF, encM, List.cons_append, List.nil_append, List.replicate, List.map_cons, List.map_nil, renSlot, ren_sCells, hr2, hf2]
        rfl
    · rcases rCase (wσ f g ns us sp d (.sl false 3 (tRow C)) X2 (eR 10 i.1) (timesF F i.1 b).1) 10 3 i.1 3 104 (sCells (timesF F i.1 b).2) with ⟨_, hD, hσ⟩ | ⟨j, _, hD, hσ⟩
      all_goals
        simp only [hσ]
        simp only [hD]
        rfl
    · simp only [show b.2.1 - ((0 : Nat) : Int) = b.2.1 by omega]
      exact Lq
    · exact Fq
    rintro ⟨i, hi⟩
    have hLl := timesR_length F b i
    have hbad := fun h => timesF_bad hF (b := b) (i := i) h
    obtain ⟨m0, hm0⟩ : ∃ m, (timesF F i b).1 = m := ⟨_, rfl⟩
    obtain ⟨L, hL⟩ : ∃ L, (timesF F i b).2 = L := ⟨_, rfl⟩
    have hst : timesF F (i + 1) b = ((F m0).1, L ++ [(F m0).2]) := by simp only [timesF, hm0, hL]
    simp only [hm0, hL] at hLl hbad ⊢
    by_cases hlt : i < N
    · by_cases heq : m0.2.2 = 0
      · have heq' : (m0.2.2 == 0) = true := by simpa using heq
        have hn1 := hbn (timesF_good hF (n := i) (by rw [hm0]; exact heq))
        have hN1 : b.2.1 ≤ 1000 := by omega
        have hgt : (0 < b.2.1 - (i : Int)) := by omega
        have hi1 : i + 1 ≤ N := by omega
        have h1 := hone m0
        obtain ⟨⟨m2, x⟩, hx⟩ : ∃ r, F m0 = r := ⟨_, rfl⟩
        rw [hx] at h1 hst
        simp only [encM, List.cons_append, List.nil_append] at h1
        have hD1 : eR 10 (i + 1) = .ref 10 i (i + 1) := rfl
        have hσ1 : ∀ q, σR q 3 (i + 1) 3 104 (sCells (L ++ [x])) = q ++ [.dead, .dead, .dead, .ent ⟨i, some 3, 104, sCells L ++ sCells [x], .cells⟩] := fun q => by rw [sCells_app]; unfold σR; rw [if_neg (by omega)]; simp only [List.replicate, List.append_assoc, List.cons_append, List.nil_append]; rfl
        rcases rCase (wσ f g ns us sp d (.sl false 3 (tRow C)) X2 (eR 10 i) m0) 10 3 i 3 104 (sCells L) with ⟨h0, hD, hσ⟩ | ⟨q, hq, hD, hσ⟩
        · have hL0 : L = [] := List.length_eq_zero_iff.1 (by omega)
          subst hL0
          simp only [hσ]
          simp only [hD]
          repeat' first | (with_reducible first | refine AWP_seq' ?_ | refine k_normal ?_ | refine b_normal ?_ | refine AWP_skip ?_ | refine AWP_block ?_) | ((with_reducible refine AWP_reg fun KC J hJ hKC => ?_); simp (maxSteps := 10000000) only [push_cast, seval, ↓reduceIte, hgt, heq', wσ, spF, encM, wrapDown hgt hN1, hr2, hf2]) | (refine hKC _ _ _ _ _ (callV0 (h1) rfl rfl rfl ?_ ?_); (· exact Lq); simp (maxSteps := 10000000) only [push_cast, seval, ↓reduceIte, hgt, heq', wσ, spF, encM, wrapDown hgt hN1, hr2, hf2]) | ((with_reducible refine hJ _ _ ?_); clear hJ hKC KC J) | ((with_reducible refine AWP_condT ?_ ?_); · rfl)
          subst h0
          refine ⟨⟨_, hi1⟩, by simp only; omega, ?_, ?_⟩
          · exact Lq
          · simp only [hst, hσ1, hD1, wσ, encM, spF, List.cons_append, List.nil_append]
            exact ⟨[_, _, _, _, _, _, _, _, _, _, _], _, rfl, .inr (.inl rfl), .inr (.inl rfl), .inr (.inl rfl), .inr (.inl rfl), .inr (.inl rfl), .inr (.inl rfl), .inr (.inl rfl), .inl rfl, .inl rfl, .inl rfl, .inr (.inl rfl), trivial⟩
        · have hlC : (sCells L).length = (q + 1) * 3 := by rw [sCells_length, hLl, hq]
          have htC := take_len hlC
          have hbm : Nat.beq q q = true := Nat.beq_refl q
          simp only [hσ]
          simp only [hD]
          repeat' first | (with_reducible first | refine AWP_seq' ?_ | refine k_normal ?_ | refine b_normal ?_ | refine AWP_skip ?_ | refine AWP_block ?_) | ((with_reducible refine AWP_reg fun KC J hJ hKC => ?_); simp (maxSteps := 10000000) only [push_cast, seval, ↓reduceIte, hgt, heq', wσ, spF, encM, List.cons_append, List.nil_append, List.replicate, hlC, htC, hbm, wrapDown hgt hN1, hr2, hf2]) | ((with_reducible refine And.intro ?_ ?_); · exact Sq) | (refine hKC _ _ _ _ _ (callV0 (h1) rfl rfl rfl ?_ ?_); (· exact Lq); simp (maxSteps := 10000000) only [push_cast, seval, ↓reduceIte, hgt, heq', wσ, spF, encM, List.cons_append, List.nil_append, List.replicate, hlC, htC, hbm, wrapDown hgt hN1, hr2, hf2]) | ((with_reducible refine hJ _ _ ?_); clear hJ hKC KC J) | ((with_reducible refine AWP_condT ?_ ?_); · rfl)
          subst hq
          refine ⟨⟨_, hi1⟩, by simp only; omega, ?_, ?_⟩
          · exact Lq
          · simp only [hst, hσ1, hD1, wσ, encM, spF, List.cons_append, List.nil_append]
            exact ⟨[_, _, _, _, _, _, _, _, _, _, _], _, rfl, .inr (.inl rfl), .inr (.inl rfl), .inr (.inl rfl), .inr (.inl rfl), .inr (.inl rfl), .inr (.inl rfl), .inr (.inl rfl), .inl rfl, .inl rfl, .inl rfl, .inr (.inl rfl), trivial⟩
      · have heq' : (m0.2.2 == 0) = false := by simpa using heq
        have hgt : (0 < b.2.1 - (i : Int)) := by omega
        have hmN : (timesF F N b).1 = m0 := by have := hbad heq (N - i); rwa [show i + (N - i) = N by omega] at this
        rw [hmN]
        rcases rCase (wσ f g ns us sp d (.sl false 3 (tRow C)) X2 (eR 10 i) m0) 10 3 i 3 104 (sCells L) with ⟨h0, hD, hσ⟩ | ⟨q, hq, hD, hσ⟩
        · have hL0 : L = [] := List.length_eq_zero_iff.1 (by omega)
          subst hL0
          simp only [hσ]
          simp only [hD]
          repeat' first | (with_reducible first | refine AWP_seq' ?_ | refine k_normal ?_ | refine k_exit ?_ | refine b_exit ?_ | refine AWP_exit ?_) | ((with_reducible refine AWP_reg fun KC J hJ hKC => ?_); simp (maxSteps := 10000000) only [push_cast, seval, ↓reduceIte, hgt, heq', undef, wσ, spF, encM, hr2, hf2]) | ((with_reducible refine hJ _ _ ?_); clear hJ hKC KC J) | ((with_reducible refine AWP_condF ?_ ?_); · rfl)
          refine .inl ⟨rfl, weak_dropS (Nat.le_refl 7) (clsd_all (by simp only [wσ, spF, encM, List.map_cons, List.map_nil, renSlot, okD_sl, hr2, hf2]; rfl)) (by rfl) Lq ⟨[_, _, _, _, _, _, _], _, rfl, .inr (.inl rfl), .inr (.inl rfl), .inr (.inl rfl), .inr (.inl rfl), .inr (.inr ⟨_, _, rfl, rfl, ?_⟩), .inr (.inl rfl), .inr (.inl rfl), trivial⟩⟩
          simp only [okD, if_neg heq]; exact Lq
        · have hcI : chunk 3 (q + 1) (sCells L) = sRow L := by rw [← hq, ← hLl]; exact chunk_s L
          have hlC : (sCells L).length = (q + 1) * 3 := by rw [sCells_length, hLl, hq]
          have hbm : Nat.beq q q = true := Nat.beq_refl q
          simp only [hσ]
          simp only [hD, wσ, spF, encM, List.cons_append, List.nil_append, List.replicate]
          repeat' first | (with_reducible first | refine AWP_seq' ?_ | refine k_normal ?_ | refine k_exit ?_ | refine b_exit ?_ | refine AWP_exit ?_) | ((with_reducible refine AWP_reg fun KC J hJ hKC => ?_); simp (maxSteps := 10000000) only [push_cast, seval, ↓reduceIte, hgt, heq', undef, hcI, hlC, hbm, hr2, hf2]) | ((with_reducible refine hJ _ _ ?_); clear hJ hKC KC J) | ((with_reducible refine AWP_condF ?_ ?_); · rfl)
          refine .inl ⟨rfl, weak_dropS (Nat.le_refl 7) (clsd_all (by simp only [wσ, spF, encM, List.map_cons, List.map_nil, renSlot, okD_sl, hr2, hf2]; rfl)) (by rfl) Lq ⟨[_, _, _, _, _, _, _], _, rfl, .inr (.inl rfl), .inr (.inl rfl), .inr (.inl rfl), .inr (.inl rfl), .inr (.inr ⟨_, _, rfl, rfl, ?_⟩), .inr (.inl rfl), .inr (.inl rfl), trivial⟩⟩
          simp only [okD, if_neg heq]; exact Lq
    · have hgt : ¬ (0 < b.2.1 - (i : Int)) := by omega
      have hin : i = N := by omega
      subst hin
      rw [hm0, hL]
      rcases rCase (wσ f g ns us sp d (.sl false 3 (tRow C)) X2 (eR 10 i) m0) 10 3 i 3 104 (sCells L) with ⟨h0, hD, hσ⟩ | ⟨q, hq, hD, hσ⟩
      · have hL0 : L = [] := List.length_eq_zero_iff.1 (by omega)
        subst hL0
        simp only [hσ]
        simp only [hD]
        repeat' first | (with_reducible first | refine AWP_seq' ?_ | refine k_normal ?_ | refine k_exit ?_ | refine b_exit ?_ | refine AWP_exit ?_) | ((with_reducible refine AWP_reg fun KC J hJ hKC => ?_); simp (maxSteps := 10000000) only [push_cast, seval, ↓reduceIte, hgt, undef, wσ, spF, encM, hr2, hf2]) | ((with_reducible refine hJ _ _ ?_); clear hJ hKC KC J) | ((with_reducible refine AWP_condF ?_ ?_); · rfl)
        refine .inl ⟨rfl, weak_dropS (Nat.le_refl 7) (clsd_all (by simp only [wσ, spF, encM, List.map_cons, List.map_nil, renSlot, okD_sl, hr2, hf2]; rfl)) (by rfl) Lq ⟨[_, _, _, _, _, _, _], _, rfl, .inr (.inl rfl), .inr (.inl rfl), .inr (.inl rfl), .inr (.inl rfl), .inr (.inr ⟨_, _, rfl, rfl, ?_⟩), .inr (.inl rfl), .inr (.inl rfl), trivial⟩⟩
        (unfold okD; split <;> exact Lq)
      · have hcI : chunk 3 (q + 1) (sCells L) = sRow L := by rw [← hq, ← hLl]; exact chunk_s L
        have hlC : (sCells L).length = (q + 1) * 3 := by rw [sCells_length, hLl, hq]
        have hbm : Nat.beq q q = true := Nat.beq_refl q
        rcases hX2' with rfl | rfl
        all_goals
          simp only [hσ]
          simp only [hD, wσ, spF, encM, List.cons_append, List.nil_append, List.replicate]
          repeat' first | (refine AWP_freezeR 19 10 rfl (by (simp (maxSteps := 10000000) only [push_cast, seval, ↓reduceIte]) <;> rfl) ?_; simp (maxSteps := 10000000) only [push_cast, seval, ↓reduceIte, frSt, frSlot, fr3, fr2, fr1, fr0, sameB, arrOf, hgt, undef, hcI, hlC, hbm, hr2, hf2]) | (with_reducible first | refine AWP_seq' ?_ | refine k_normal ?_ | refine k_exit ?_ | refine b_exit ?_ | refine AWP_exit ?_) | ((with_reducible refine AWP_reg fun KC J hJ hKC => ?_); simp (maxSteps := 10000000) only [push_cast, seval, ↓reduceIte, hgt, undef, hcI, hlC, hbm, hr2, hf2]) | ((with_reducible refine hJ _ _ ?_); clear hJ hKC KC J) | ((with_reducible refine AWP_condF ?_ ?_); · rfl)
          refine .inl ⟨rfl, weak_dropS (Nat.le_refl 7) (clsd_all (by simp only [wσ, spF, encM, List.map_cons, List.map_nil, renSlot, okD_sl, hr2, hf2]; rfl)) (by rfl) Lq ⟨[_, _, _, _, _, _, _], _, rfl, .inr (.inl rfl), .inr (.inl rfl), .inr (.inl rfl), .inr (.inl rfl), .inr (.inr ⟨_, _, rfl, rfl, ?_⟩), .inr (.inl rfl), .inr (.inl rfl), trivial⟩⟩
          (unfold okD; split <;> exact Lq)
  obtain ⟨m3, hM3⟩ : ∃ m, (timesF F N b).1 = m := ⟨_, rfl⟩
  obtain ⟨S, hC3⟩ : ∃ L, (timesF F N b).2 = L := ⟨_, rfl⟩
  simp only [hM3, hC3]
  have hg3 : m3.2.2 = 0 → m2.2.2 = 0 := fun h => hbg (timesF_good hF (n := N) (by rw [hM3]; exact h))
  clear hone hN b1 wm hbn hbg hF
  have k4 := rBelow_fn m3 13 (by omega)
  have hg4 := fun h : (belowR m3 13).2.2 = 0 => belowR_good h
  obtain ⟨m4, hM4⟩ : ∃ m, belowR m3 13 = m := ⟨_, rfl⟩
  simp only [hM4] at k4 hg4 ⊢
  have k5 := rBelow_fn m4 us.length (by omega)
  have hg5 := fun h : (belowR m4 us.length).2.2 = 0 => belowR_good h
  obtain ⟨m5, hM5⟩ : ∃ m, belowR m4 us.length = m := ⟨_, rfl⟩
  simp only [hM5] at k5 hg5 ⊢
  simp only [encM] at k4 k5
  by_cases he : m5.2.2 = 0
  · have he' : (m5.2.2 != 0) = false := by simpa using he
    have e2 := hg3 (hg4 (hg5 he))
    have eX2 : X2 = .sl false 2 (pRow Q) := by rw [← hX2, okD, if_pos e2]
    subst eX2
    simp only [okD, if_pos (hg4 (hg5 he)), if_pos he]
    repeat' first | (with_reducible first | refine AWP_seq' ?_ | refine k_normal ?_ | refine AWP_ret ?_ | refine AWP_skip ?_) | ((with_reducible refine AWP_reg fun KC J hJ hKC => ?_); simp (maxSteps := 10000000) only [push_cast, seval, ↓reduceIte, he', wσ, encM, spF]) | (refine hKC _ _ _ _ _ (callV0 (k4) rfl rfl rfl ?_ ?_); (· exact Lq); simp (maxSteps := 10000000) only [push_cast, seval, ↓reduceIte, he', wσ, encM, spF]) | (refine hKC _ _ _ _ _ (callV0 (k5) rfl rfl rfl ?_ ?_); (· exact Lq); simp (maxSteps := 10000000) only [push_cast, seval, ↓reduceIte, he', wσ, encM, spF]) | ((with_reducible refine hJ _ _ ?_); clear hJ hKC KC J) | ((with_reducible refine AWP_condF ?_ ?_); · rfl)
    refine ret_plain ?_
    simp (maxSteps := 10000000) only [push_cast, seval, ↓reduceIte, show Tryz.f61.results = #[(.cell 6 52)] from rfl]
    exact Lq
  · have he' : (m5.2.2 != 0) = true := by simpa using he
    simp only [okD, if_neg he]
    by_cases h3 : m3.2.2 = 0
    all_goals
      first | rw [if_pos h3] | rw [if_neg h3]
      repeat' first | (with_reducible first | refine AWP_seq' ?_ | refine k_normal ?_ | refine k_ret ?_ | refine AWP_ret ?_) | ((with_reducible refine AWP_reg fun KC J hJ hKC => ?_); simp (maxSteps := 10000000) only [push_cast, seval, ↓reduceIte, he', wσ, encM, spF, hr2, hf2]) | (refine hKC _ _ _ _ _ (callV0 (k4) rfl rfl rfl ?_ ?_); (· exact Lq); simp (maxSteps := 10000000) only [push_cast, seval, ↓reduceIte, he', wσ, encM, spF, hr2, hf2]) | (refine hKC _ _ _ _ _ (callV0 (k5) rfl rfl rfl ?_ ?_); (· exact Lq); simp (maxSteps := 10000000) only [push_cast, seval, ↓reduceIte, he', wσ, encM, spF, hr2, hf2]) | ((with_reducible refine hJ _ _ ?_); clear hJ hKC KC J) | ((with_reducible refine AWP_condT ?_ ?_); · rfl)
      refine ret_plain ?_
      simp (maxSteps := 10000000) only [push_cast, seval, ↓reduceIte, show Tryz.f61.results = #[(.cell 6 52)] from rfl]
      exact Lq
end Go.Proofs.YtabliglgeiajlaaGreat.AM
