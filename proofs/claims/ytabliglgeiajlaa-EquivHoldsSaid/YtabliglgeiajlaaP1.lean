/- What is handed back, frozen; rows of numbers put together. -/
import Derived.Test.YtabliglgeiajlaaLA
import Derived.Test.YtabliglgeiajlaaLI
import Derived.Test.YtabliglgeiajlaaLS
set_option linter.unusedSimpArgs false
set_option linter.unusedVariables false
namespace Go.Proofs.Ytabliglgeiajlaa.AM
open Go Go.RowKit Go.Proofs
set_option maxRecDepth 100000
set_option maxHeartbeats 1000000

/-- A new own block that is handed back may be taken as one that nobody writes. -/
theorem Fn.frozen {P : Program} {f : Nat} {args : List D} {res : D} {e : Ent} (h : Fn P f args [] res [.ent e]) (hk : getC [.ent e] 0 = .ent e) (hf : frzAll e.cells = true) :
    Fn P f args [] (ren (mOf []) (fr3 0 e.gen (arrOf e) e.cells res)) [] where
  spec := fun N0 ρ w vs hp hs hr => by
    refine Calls.mono (h.spec N0 ρ w vs hp hs hr) ?_
    rintro x w' ⟨v, ρ', rfl, hp', hv⟩
    have R : Rel (base0 w N0 [] ρ) ⟨[res], [.ent e]⟩ ⟨#[v], []⟩ w' := ⟨ρ', hp', ⟨rfl, fun t d hd => by
      cases t with
      | zero => simp only [List.getElem?_cons_zero, Option.some.injEq] at hd; subst hd; exact ⟨v, rfl, hv⟩
      | succ t => simp at hd⟩, ⟨[], rfl, List.nodup_nil, fun D hD => by cases hD⟩⟩
    obtain ⟨ρ2, hp2, ⟨_, hr2⟩, _⟩ := (R.freeze (k := 0) hk hf).pick (ks := []) List.nodup_nil (fun k g hu => by
      obtain ⟨s, hs, _⟩ := hu
      simp [base0] at hs)
    obtain ⟨u, hu, hrep⟩ := hr2 0 _ rfl
    simp only [List.getElem?_toArray, List.getElem?_cons_zero, Option.some.injEq] at hu
    subst hu
    exact ⟨v, ρ2, rfl, hp2, hrep⟩
  enter := h.enter
/-- Less is told of what is handed back. -/
theorem Fn.leR {P : Program} {f : Nat} {args : List D} {ext out : List Slot} {res res' : D} (h : Fn P f args ext res out) (hl : leD res res') : Fn P f args ext res' out where
  spec := fun N0 ρ w vs hp hs hr => by
    refine Calls.mono (h.spec N0 ρ w vs hp hs hr) ?_
    rintro x w' ⟨v, ρ', rfl, hp', hv⟩
    exact ⟨v, ρ', rfl, hp', hl.rep hv⟩
  enter := h.enter
theorem Fn.labs {P : Program} {f : Nat} {args : List D} {L : List Int} (h : Fn P f args [] (lD L) (lOut L)) : Fn P f args [] (.sl false 1 (intRow L)) [] := by
  rcases Nat.eq_zero_or_pos L.length with h0 | h0
  · have hL : L = [] := List.eq_nil_of_length_eq_zero h0
    subst hL
    exact Fn.leR h leD_nil
  · obtain ⟨q, hq⟩ : ∃ q, L.length = q + 1 := ⟨L.length - 1, by omega⟩
    have e1 : lD L = .ref 0 q (q + 1) := by unfold lD; rw [hq]; rfl
    have e2 : lOut L = [.ent ⟨q, some 1, 3, cellI L, .cells⟩] := by unfold lOut; rw [hq]; rfl
    rw [e1, e2] at h
    have hfz := h.frozen rfl (frz_cellI L)
    have hlC : (cellI L).length = q + 1 := by rw [cellI_length, hq]
    have hbm : Nat.beq q q = true := Nat.beq_refl q
    have hcI : chunk 1 (q + 1) (cellI L) = intRow L := by rw [← hq]; exact chunk_i L
    have e3 : fr3 0 q 1 (cellI L) (.ref 0 q (q + 1)) = .sl false 1 (intRow L) := by
      have hsb : sameB 0 q 0 q = true := hbm
      have hbl : Nat.ble (q + 1) (q + 1) = true := by rw [Nat.ble_eq]; exact Nat.le_refl _
      simp only [fr3, fr2, fr1, fr0, hsb, Nat.mul_one, hlC, hbl, hcI]
    have e4 : arrOf ⟨q, some 1, 3, cellI L, .cells⟩ = 1 := rfl
    rw [e4] at hfz
    simp only at hfz
    rw [e3] at hfz
    exact hfz
theorem labelsFA_fn (f : Bool) (rows : List (Bool × List (Int × Int))) (hb : (labsA rows).length ≤ 1000) (hr : rows.length ≤ 1000) (hrl : ∀ r ∈ rows, r.2.length ≤ 1000) : Fn (Try.prog) 132 [.agg fnsA, .sl f 1 (rowsA rows)] [] (.sl false 1 (intRow (labsA rows))) [] := (labelsA_fn f rows hb hr hrl).labs
theorem labelsFI_fn (f : Bool) (rows : List (Bool × List (Int × Int × Int))) (hb : (labsI rows).length ≤ 1000) (hr : rows.length ≤ 1000) (hrl : ∀ r ∈ rows, r.2.length ≤ 1000) : Fn (Try.prog) 156 [.agg fnsI, .sl f 1 (rowsI rows)] [] (.sl false 1 (intRow (labsI rows))) [] := (labelsI_fn f rows hb hr hrl).labs
theorem labelsFS_fn (f : Bool) (rows : List (Bool × List (Bool × Int × Int))) (hb : (labsS rows).length ≤ 1000) (hr : rows.length ≤ 1000) (hrl : ∀ r ∈ rows, r.2.length ≤ 1000) : Fn (Try.prog) 157 [.agg fnsS, .sl f 1 (rowsS rows)] [] (.sl false 1 (intRow (labsS rows))) [] := (labelsS_fn f rows hb hr hrl).labs

/-! ### Rows put together -/
theorem grow_fn (n : Nat) (h0 : 0 < n) (hn : n ≤ 10000) : Fn Try.prog 237 [.v (.slice none 0 0), .v (.int .i64 (n : Int))] [] (.ref 0 0 0) [.ent ⟨0, some 1, 3, [], .cells⟩] := by
  have h1 : decide ((n : Int) < 0) = false := decide_eq_false (by omega)
  have h2 : IntKind.i64.wrap ((n : Int) - 0) = n := by rw [IntKind.wrap_i64]; omega
  have h3 : decide ((0 : Int) < n) = true := decide_eq_true (by omega)
  refine Fn.of (fn := Try.f237) (by kernel_rfl) rfl (by kernel_rfl) ⟨[.v (.slice none 0 0), .v (.int .i64 (n : Int)), .v undef, .v undef, .v undef, .v undef, .v undef, .v undef, .v undef, .v undef, .v undef, .v undef, .v undef, .v undef, .v undef, .v undef, .v undef, .v undef, .v undef, .v undef, .v undef, .v undef, .v undef, .v undef, .v undef, .v undef, .v undef], []⟩ rfl ?_
  have h4 : IntKind.i64.wrap 0 = 0 := by rw [IntKind.wrap_i64]; rfl
  repeat' first | (with_reducible first | refine AWP_seq' ?_ | refine k_normal ?_ | refine AWP_skip ?_) | ((with_reducible refine AWP_reg fun KC J hJ hKC => ?_); simp (maxSteps := 10000000) only [push_cast, seval, ↓reduceIte, h1, h2, h3, h4]) | ((with_reducible refine And.intro ?_ ?_); · exact Sq) | ((with_reducible refine hJ _ _ ?_); clear hJ hKC KC J) | ((with_reducible refine AWP_condT ?_ ?_); · rfl) | ((with_reducible refine AWP_condF ?_ ?_); · rfl)
  refine AWP_ret ?_
  refine ret_new [0] ?_ (by simp) ?_
  · simp (maxSteps := 10000000) only [push_cast, seval, ↓reduceIte, show Try.f237.results = #[.tmp 4] from rfl, pick, mOf, idx, renSlot]
    exact leD_refl _
  · intro k hk
    exact absurd hk (by simp)
/-- Rows of rows of numbers. -/
def rows1 (l : List (Bool × List Int)) : List (List D) := l.map fun r => [.sl r.1 1 (intRow r.2)]
def flat1 (l : List (Bool × List Int)) : List Int := l.flatMap (·.2)
@[push_cast] theorem rows1_length (l : List (Bool × List Int)) : (rows1 l).length = l.length := by simp [rows1]
theorem getE_rows1 {l : List (Bool × List Int)} {n : Nat} {x : Bool × List Int} (h : l[n]? = some x) : getE (rows1 l) n = [.sl x.1 1 (intRow x.2)] := by unfold rows1; exact getE_map _ _ _ _ h
theorem flat1_take {l : List (Bool × List Int)} {i : Nat} {x : Bool × List Int} (h : l[i]? = some x) : flat1 (l.take (i + 1)) = flat1 (l.take i) ++ x.2 := by
  obtain ⟨hi, rfl⟩ := List.getElem?_eq_some_iff.1 h
  unfold flat1
  rw [List.take_succ_eq_append_getElem hi, List.flatMap_append]
  simp only [List.flatMap_cons, List.flatMap_nil, List.append_nil]
theorem flat1_le (l : List (Bool × List Int)) (i : Nat) : (flat1 (l.take i)).length ≤ (flat1 l).length := by
  have : flat1 l = flat1 (l.take i) ++ flat1 (l.drop i) := by
    rw [flat1, flat1, flat1, ← List.flatMap_append, List.take_append_drop]
  rw [this]; simp
theorem intRow_nil : intRow [] = [] := rfl
theorem isNilL_intRow (a : Int) (l : List Int) : isNilL (intRow (a :: l)) = false := rfl
theorem intRow_flatI (l : List Int) : (intRow l).flatten = cellI l := intRow_flatten l
set_option maxHeartbeats 4000000 in
theorem concat_fn (f : Bool) (rows : List (Bool × List Int)) (h0 : 0 < (flat1 rows).length) (hb : (flat1 rows).length ≤ 1000) (hr : rows.length ≤ 1000) :
    Fn Try.prog 155 [.sl f 1 (rows1 rows)] [] (.sl false 1 (intRow (flat1 rows))) [] := by
  refine Fn.of (fn := Try.f155) (by kernel_rfl) rfl (by kernel_rfl) ⟨[.sl f 1 (rows1 rows), .v undef, .v undef, .v undef, .v undef, .v undef, .v undef, .v undef, .v undef, .v undef, .v undef, .v undef, .v undef, .v undef, .v undef, .v undef, .v undef, .v undef, .v undef, .v undef, .v undef, .v undef, .v undef, .v undef, .v undef, .v undef, .v undef, .v undef, .v undef, .v undef, .v undef, .v undef, .v undef, .v undef, .v undef, .v undef], []⟩ rfl ?_
  repeat' first | (with_reducible first | refine AWP_seq' ?_ | refine k_normal ?_ | refine AWP_block ?_) | ((with_reducible refine AWP_reg fun KC J hJ hKC => ?_); simp (maxSteps := 10000000) only [push_cast, seval, ↓reduceIte]) | ((with_reducible refine hJ _ _ ?_); clear hJ hKC KC J)
  refine AWP_loopD 0 (γ := {i : Nat // i ≤ rows.length}) (fun i => ⟨[.sl f 1 (rows1 rows), .any, .v (.slice none 0 0), .v (.int .i64 (flat1 (rows.take i.1)).length), .any, .any, .any, .any, .any, .sl f 1 (rows1 rows), .v (.int .i64 rows.length), .v (.int .i64 i.1), .any, .any, .any, .any, .any, .any, .any, .any, .any, .any, .any, .any, .any, .any, .any, .any, .any, .any, .any, .any, .any, .any, .any, .any], []⟩) (fun i => rows.length - i.1) ⟨0, by omega⟩ (fun i => rfl) (fun i => rfl) (fun i => rfl) ⟨?_, Fq⟩ ?_
  · simp only [List.take_zero, flat1, List.flatMap_nil, List.length_nil]
    exact Lq
  rintro ⟨i, hi⟩
  by_cases hlt : (i : Int) < (rows.length : Int)
  · have hx : rows[i]? = some rows[i] := List.getElem?_eq_getElem (by omega)
    obtain ⟨r, hr0⟩ : ∃ r, rows[i] = r := ⟨_, rfl⟩
    rw [hr0] at hx
    have hst := flat1_take hx
    have hbd := flat1_le rows (i + 1)
    rw [hst, List.length_append] at hbd
    obtain ⟨n, hn⟩ : ∃ n, (flat1 (rows.take i)).length = n := ⟨_, rfl⟩
    rw [hn] at hbd
    have hw : IntKind.i64.wrap ((n : Int) + (r.2.length : Int)) = ((n + r.2.length : Nat) : Int) := by rw [IntKind.wrap_i64]; omega
    have hn0 : decide (((n + r.2.length : Nat) : Int) < 0) = false := decide_eq_false (by omega)
    simp only [hn]
    repeat' first | (with_reducible first | refine AWP_seq' ?_ | refine k_normal ?_ | refine b_normal ?_ | refine AWP_skip ?_ | refine AWP_block ?_) | ((with_reducible refine AWP_reg fun KC J hJ hKC => ?_); simp (maxSteps := 10000000) only [push_cast, seval, ↓reduceIte, hlt, getE_rows1 hx, hw, hn0, wrapN (i := i) (n := rows.length) (by omega) (by omega)]) | ((with_reducible refine And.intro ?_ ?_); · exact Sq) | ((with_reducible refine hJ _ _ ?_); clear hJ hKC KC J) | ((with_reducible refine AWP_condT ?_ ?_); · rfl) | ((with_reducible refine AWP_condF ?_ ?_); · rfl)
    refine ⟨⟨i + 1, by omega⟩, by simp only; omega, ?_, ⟨_, rfl⟩⟩
    simp only [hst, List.length_append, hn]
    exact Lq
  · have hin : i = rows.length := by omega
    subst hin
    rw [List.take_length]
    have hg := grow_fn (flat1 rows).length h0 (by omega)
    repeat' first | (with_reducible first | refine AWP_seq' ?_ | refine k_normal ?_ | refine k_exit ?_ | refine b_exit ?_ | refine AWP_exit ?_ | refine AWP_block ?_) | ((with_reducible refine AWP_reg fun KC J hJ hKC => ?_); simp (maxSteps := 10000000) only [push_cast, seval, ↓reduceIte, hlt, backOf, callSets, renSlot, pick, mOf, idx]) | (refine hKC _ _ _ _ _ (callN [] hg rfl rfl rfl (by simp) (fun _ h => by cases h) rfl rfl rfl (leF_cons (leD_refl _) (leF_cons (leD_refl _) leF_nil)) ?_); simp (maxSteps := 10000000) only [push_cast, seval, ↓reduceIte, hlt, backOf, callSets, renSlot, pick, mOf, idx]) | ((with_reducible refine hJ _ _ ?_); clear hJ hKC KC J) | ((with_reducible refine AWP_condF ?_ ?_); · rfl)
    refine AWP_loopD 1 (γ := {p : Nat × Nat // p.1 ≤ rows.length}) (fun p => ⟨[.sl f 1 (rows1 rows), .any, .v (.slice none 0 0), .v (.int .i64 (flat1 rows).length), .any, .any, .ref 0 p.1.2 (flat1 (rows.take p.1.1)).length, .any, .any, .any, .any, .any, .any, .any, .any, .any, .any, .any, .any, .any, .any, .any, .any, .any, .any, .sl f 1 (rows1 rows), .v (.int .i64 rows.length), .v (.int .i64 p.1.1), .any, .any, .any, .any, .any, .any, .any, .any], [.ent ⟨p.1.2, some 1, 3, cellI (flat1 (rows.take p.1.1)), .cells⟩]⟩) (fun p => rows.length - p.1.1) ⟨(0, 0), by omega⟩ (fun p => rfl) (fun p => clsd_all (by simp only [List.map_cons, List.map_nil, renSlot, ren_cellI])) (fun p => rfl) ⟨?_, ?_⟩ ?_
    · simp only [List.take_zero, flat1, List.flatMap_nil, List.length_nil]
      exact Lq
    · simp only [List.take_zero, flat1, List.flatMap_nil, cellI, List.map_nil]
      exact Fq
    rintro ⟨⟨i, g⟩, hi⟩
    simp only at hi ⊢
    by_cases hlt : (i : Int) < (rows.length : Int)
    · have hx : rows[i]? = some rows[i] := List.getElem?_eq_getElem (by omega)
      obtain ⟨r, hr0⟩ : ∃ r, rows[i] = r := ⟨_, rfl⟩
      rw [hr0] at hx
      have hst := flat1_take hx
      have hbd := flat1_le rows (i + 1)
      rw [hst, List.length_append] at hbd
      obtain ⟨L, hL⟩ : ∃ L, flat1 (rows.take i) = L := ⟨_, rfl⟩
      rw [hL] at hbd hst ⊢
      have hlC := cellI_length L
      have htC : (cellI L).take L.length = cellI L := List.take_of_length_le (by omega)
      have hbm : Nat.beq g g = true := Nat.beq_refl g
      obtain ⟨fr, xr⟩ := r
      cases xr with
      | nil =>
        simp only [List.append_nil] at hst
        repeat' first | (with_reducible first | refine AWP_seq' ?_ | refine k_normal ?_ | refine b_normal ?_ | refine AWP_skip ?_ | refine AWP_block ?_) | ((with_reducible refine AWP_reg fun KC J hJ hKC => ?_); simp (maxSteps := 10000000) only [push_cast, seval, ↓reduceIte, hlt, getE_rows1 hx, intRow_nil, hbm, hlC, htC, wrapN (i := i) (n := rows.length) (by omega) (by omega)]) | ((with_reducible refine And.intro ?_ ?_); · exact Sq) | ((with_reducible refine hJ _ _ ?_); clear hJ hKC KC J) | ((with_reducible refine AWP_condT ?_ ?_); · rfl)
        refine ⟨⟨(i + 1, g), by omega⟩, by simp only; omega, ?_, ?_⟩
        · simp only [hst]
          exact Lq
        · simp only [hst]
          exact ⟨_, rfl⟩
      | cons a xr =>
        have hA := cellI_app L (a :: xr)
        rw [← intRow_flatI (a :: xr)] at hA
        simp only [List.length_cons] at hbd
        repeat' first | (with_reducible first | refine AWP_seq' ?_ | refine k_normal ?_ | refine b_normal ?_ | refine AWP_skip ?_ | refine AWP_block ?_) | ((with_reducible refine AWP_reg fun KC J hJ hKC => ?_); simp (maxSteps := 10000000) only [push_cast, seval, ↓reduceIte, hlt, getE_rows1 hx, isNilL_intRow, hbm, hlC, htC, wrapN (i := i) (n := rows.length) (by omega) (by omega)]) | ((with_reducible refine And.intro ?_ ?_); · exact Sq) | ((with_reducible refine hJ _ _ ?_); clear hJ hKC KC J) | ((with_reducible refine AWP_condT ?_ ?_); · rfl)
        refine ⟨⟨(i + 1, g + 1), by omega⟩, by simp only; omega, ?_, ?_⟩
        · simp only [hst, List.length_append, List.length_cons]
          exact Lq
        · simp only [hst, hA]
          exact ⟨_, rfl⟩
    · have hin : i = rows.length := by omega
      subst hin
      rw [List.take_length]
      obtain ⟨L, hL⟩ : ∃ L, flat1 rows = L := ⟨_, rfl⟩
      rw [hL] at hb ⊢
      have hlC := cellI_length L
      have hcI := chunk_i L
      have hbm : Nat.beq g g = true := Nat.beq_refl g
      repeat' first | (with_reducible first | refine AWP_seq' ?_ | refine k_normal ?_ | refine k_exit ?_ | refine b_exit ?_ | refine AWP_exit ?_) | ((with_reducible refine AWP_reg fun KC J hJ hKC => ?_); simp (maxSteps := 10000000) only [push_cast, seval, ↓reduceIte, hlt]) | ((with_reducible refine hJ _ _ ?_); clear hJ hKC KC J) | ((with_reducible refine AWP_condF ?_ ?_); · rfl)
      refine AWP_freeze 0 rfl (by simp (maxSteps := 10000000) only [push_cast, seval, ↓reduceIte]) ?_
      simp (maxSteps := 10000000) only [push_cast, seval, ↓reduceIte, frSt, frSlot, fr3, fr2, fr1, fr0, sameB, arrOf, hbm, hlC, hcI]
      refine AWP_ret ?_
      refine ret_plain ?_
      simp (maxSteps := 10000000) only [push_cast, seval, ↓reduceIte, show Try.f155.results = #[(.tmp 2)] from rfl]
      exact leD_refl _
end Go.Proofs.Ytabliglgeiajlaa.AM
