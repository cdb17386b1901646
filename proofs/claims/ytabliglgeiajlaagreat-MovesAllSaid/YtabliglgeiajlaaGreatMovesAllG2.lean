/- Walks and plain laws, put together: part 2. -/
import Derived.Test.YtabliglgeiajlaaGreatMovesAllG1
import Derived.Test.YtabliglgeiajlaaGreatMc
import Derived.Test.YtabliglgeiajlaaGreatMovesAllG0
set_option linter.unusedSimpArgs false
set_option linter.unusedVariables false
namespace Go.Proofs.YtabliglgeiajlaaGreat.AM
open Go Go.RowKit Go.Proofs
set_option maxRecDepth 100000
set_option maxHeartbeats 4000000
theorem app_set {A B : List D} {x0 x1 x2 a : D} {n : Nat} (h : A.length = n) : (A ++ [x0, x1, x2] ++ B).set (n + 1) a = A ++ [x0, a, x2] ++ B := by
  subst h; simp [List.set_append_right]
theorem app_set2 {A B : List D} {x0 x1 x2 a : D} {n : Nat} (h : A.length = n) : (A ++ [x0, x1, x2] ++ B).set (n + 2) a = A ++ [x0, x1, a] ++ B := by
  subst h; simp [List.set_append_right]
theorem spl_set {X : List D} {k : Nat} {a : D} (h : k < X.length) : X.take k ++ [a] ++ X.drop (k + 1) = X.set k a := by
  rw [List.set_eq_take_append_cons_drop, if_pos h]; simp
theorem tC_get1 {l : List (Int × Int × Int)} {n : Nat} {x : Int × Int × Int} (h : l[n]? = some x) : getF (tCells l) (n * 3 + 1) = .v (.int .i64 x.2.1) ∧ getF (tCells l) (n * 3 + 2) = .v (.int .i64 x.2.2) := by
  have h0 := tCells_at h
  have h1 := congrArg (fun m => m[1]?) h0
  have h2 := congrArg (fun m => m[2]?) h0
  simp only [List.getElem?_take_of_lt (show 1 < 3 by omega), List.getElem?_take_of_lt (show 2 < 3 by omega), List.getElem?_drop] at h1 h2
  rw [getF_eq, getF_eq, h1, h2]; exact ⟨rfl, rfl⟩
theorem tC_set {l : List (Int × Int × Int)} {n : Nat} {o v w : Int} (v' w' : Int) (h : l[n]? = some (o, v, w)) : ((tCells l).take (n * 3 + 1) ++ [D.v (.int .i64 v')] ++ (tCells l).drop (n * 3 + 1 + 1)).take (n * 3 + 2) ++ [D.v (.int .i64 w')] ++ ((tCells l).take (n * 3 + 1) ++ [D.v (.int .i64 v')] ++ (tCells l).drop (n * 3 + 1 + 1)).drop (n * 3 + 2 + 1) = tCells (l.set n (o, v', w')) := by
  obtain ⟨hn, hx⟩ := List.getElem?_eq_some_iff.1 h
  have hl : ((tCells l).take (n * 3)).length = n * 3 := by rw [List.length_take, tCells_length]; omega
  have hl0 := tCells_length l
  rw [spl_set (X := tCells l) (k := n * 3 + 1) (by omega), spl_set (by rw [List.length_set]; omega)]
  have e := tCells_set l (o, v, w) hn
  rw [show l.set n (o, v, w) = l by rw [← hx]; exact List.set_getElem_self hn] at e
  rw [tCells_set l _ hn]
  conv => lhs; rw [e]
  rw [app_set hl, app_set2 hl]
theorem sC_get1 {l : List (Bool × Int × Int)} {n : Nat} {x : Bool × Int × Int} (h : l[n]? = some x) : getF (sCells l) (n * 3 + 1) = .v (.int .i64 x.2.1) ∧ getF (sCells l) (n * 3 + 2) = .v (.int .i64 x.2.2) := by
  have h0 := sCells_at h
  have h1 := congrArg (fun m => m[1]?) h0
  have h2 := congrArg (fun m => m[2]?) h0
  simp only [List.getElem?_take_of_lt (show 1 < 3 by omega), List.getElem?_take_of_lt (show 2 < 3 by omega), List.getElem?_drop] at h1 h2
  rw [getF_eq, getF_eq, h1, h2]; exact ⟨rfl, rfl⟩
theorem sC_set {l : List (Bool × Int × Int)} {n : Nat} {o : Bool} {v w : Int} (v' w' : Int) (h : l[n]? = some (o, v, w)) : ((sCells l).take (n * 3 + 1) ++ [D.v (.int .i64 v')] ++ (sCells l).drop (n * 3 + 1 + 1)).take (n * 3 + 2) ++ [D.v (.int .i64 w')] ++ ((sCells l).take (n * 3 + 1) ++ [D.v (.int .i64 v')] ++ (sCells l).drop (n * 3 + 1 + 1)).drop (n * 3 + 2 + 1) = sCells (l.set n (o, v', w')) := by
  obtain ⟨hn, hx⟩ := List.getElem?_eq_some_iff.1 h
  have hl : ((sCells l).take (n * 3)).length = n * 3 := by rw [List.length_take, sCells_length]; omega
  have hl0 := sCells_length l
  rw [spl_set (X := sCells l) (k := n * 3 + 1) (by omega), spl_set (by rw [List.length_set]; omega)]
  have e := sCells_set l (o, v, w) hn
  rw [show l.set n (o, v, w) = l by rw [← hx]; exact List.set_getElem_self hn] at e
  rw [sCells_set l _ hn]
  conv => lhs; rw [e]
  rw [app_set hl, app_set2 hl]
theorem pC_get {l : List (Int × Int)} {n : Nat} {x : Int × Int} (h : l[n]? = some x) : getF (pCells l) (n * 2) = .v (.int .i64 x.1) ∧ getF (pCells l) (n * 2 + 1) = .v (.int .i64 x.2) := by
  obtain ⟨hn, rfl⟩ := List.getElem?_eq_some_iff.1 h
  have h0 : (pCells l).drop (n * 2) = pCells (l.drop n) := pCells_drop l n
  rw [List.drop_eq_getElem_cons hn] at h0
  have h1 := congrArg (fun m => m[0]?) h0
  have h2 := congrArg (fun m => m[1]?) h0
  simp only [List.getElem?_drop, Nat.add_zero] at h1 h2
  rw [getF_eq, getF_eq, h1, h2]; exact ⟨rfl, rfl⟩
theorem pC_set {l : List (Int × Int)} {n : Nat} {x : Int × Int} (v' w' : Int) (h : l[n]? = some x) : ((pCells l).take (n * 2) ++ [D.v (.int .i64 v')] ++ (pCells l).drop (n * 2 + 1)).take (n * 2 + 1) ++ [D.v (.int .i64 w')] ++ ((pCells l).take (n * 2) ++ [D.v (.int .i64 v')] ++ (pCells l).drop (n * 2 + 1)).drop (n * 2 + 1 + 1) = pCells (l.set n (v', w')) := by
  obtain ⟨hn, rfl⟩ := List.getElem?_eq_some_iff.1 h
  have hl : ((pCells l).take (n * 2)).length = n * 2 := by rw [List.length_take, pCells_length]; omega
  have hl0 := pCells_length l
  rw [spl_set (X := pCells l) (k := n * 2) (by omega), spl_set (by rw [List.length_set]; omega)]
  have e : pCells l = (pCells l).take (n * 2) ++ (.v (.int .i64 l[n].1) :: .v (.int .i64 l[n].2) :: pCells (l.drop (n + 1))) := by
    conv => lhs; rw [← List.take_append_drop (n * 2) (pCells l), pCells_drop, List.drop_eq_getElem_cons hn]
    rfl
  conv => lhs; rw [e]
  rw [List.set_eq_take_append_cons_drop (l := l), if_pos hn]
  have e2 : pCells (l.take n ++ (v', w') :: l.drop (n + 1)) = (pCells l).take (n * 2) ++ (.v (.int .i64 v') :: .v (.int .i64 w') :: pCells (l.drop (n + 1))) := by
    rw [pCells_app, pCells_take]; rfl
  rw [e2]
  generalize (pCells l).take (n * 2) = A at hl
  generalize n * 2 = N at hl
  subst hl
  simp [List.set_append_right]
theorem mvIdle_fn (i : Nat) (s : Sta) (hl : s.code.length ≤ 15) : Fn Tryz.prog 245 [.agg (staF false false false false s), .fad [.v (.int .i64 (i : Int))]] [] (.agg (staF false false false false (mvF (.idle i) s))) [] := by
  have hbm : Nat.beq 0 0 = true := rfl
  simp only [staF, mvF]
  by_cases hi : i < s.code.length
  · have hi' : (i : Int) < (s.code.length : Int) := by omega
    have hcl := clT_fn false s.code (by omega) (by omega)
    rw [upd_some (List.getElem?_eq_getElem hi)]
    have hset := tCells_set s.code (a := i) (0, 0, 0) hi
    have hlC := tCells_length s.code
    obtain ⟨n, hn⟩ : ∃ n, s.code.length = n := ⟨_, rfl⟩
    rw [hn] at hi' hcl hlC
    obtain ⟨L, hL⟩ : ∃ L, s.code.set i (0, 0, 0) = L := ⟨_, rfl⟩
    have hLn : L.length = n := by rw [← hL, List.length_set, hn]
    rw [hL] at hset ⊢
    have hset' := hset.symm
    have hLC : (tCells L).length = n * 3 := by rw [tCells_length, hLn]
    have hLr : chunk 3 n (tCells L) = tRow L := by rw [← hLn]; exact chunk_t L
    refine Fn.of (fn := Tryz.f245) (by kernel_rfl) rfl (by kernel_rfl) ⟨[.agg [.v (.int .i64 s.v), .v (.int .i64 s.l), .sl false 3 (tRow s.code), .sl false 2 (pRow s.mem), .sl false 3 (sRow s.stack), .sl false 2 (pRow s.out)], .fad [.v (.int .i64 (i : Int))], .v undef, .v undef, .v undef, .v undef, .v undef, .v undef, .v undef, .v undef, .v undef, .v undef, .v undef, .v undef, .v undef, .v undef, .v undef, .v undef, .v undef], []⟩ rfl ?_
    repeat' first | (refine AWP_freezeR 4 2 rfl (by (simp (maxSteps := 9999999) only [push_cast, seval, ↓reduceIte]) <;> rfl) ?_; simp (maxSteps := 9999999) only [push_cast, seval, ↓reduceIte, frSt, frSlot, fr3, fr2, fr1, fr0, sameB, arrOf, hn, hi', hlC, hset', hbm, hLC, hLr, backOf, callSets, renSlot, pick, mOf, idx, ren_tCells, ren_sCells, ren_pCells]) | (with_reducible first | refine AWP_seq' ?_ | refine k_normal ?_ | refine AWP_ret ?_) | ((with_reducible refine And.intro ?_ ?_); · exact Sq) | ((first | with_reducible refine AWP_reg fun KC J hJ hKC => ?_ | (refine hKC _ _ _ _ _ (callN [] hcl rfl rfl rfl (by simp) (fun _ h => by cases h) rfl rfl rfl Lq ?_))); simp (maxSteps := 9999999) only [push_cast, seval, ↓reduceIte, hn, hi', hlC, hset', hbm, hLC, hLr, backOf, callSets, renSlot, pick, mOf, idx, ren_tCells, ren_sCells, ren_pCells]) | ((with_reducible refine hJ _ _ ?_); clear hJ hKC KC J) | ((with_reducible refine AWP_condT ?_ ?_); · rfl)
    refine ret_plain ?_
    simp (maxSteps := 9999999) only [push_cast, seval, ↓reduceIte, show Tryz.f245.results = #[(.cell 3 39)] from rfl]
    exact Lq
  · have hi' : ¬ (i : Int) < (s.code.length : Int) := by omega
    rw [upd_none (by omega)]
    refine Fn.of (fn := Tryz.f245) (by kernel_rfl) rfl (by kernel_rfl) ⟨[.agg [.v (.int .i64 s.v), .v (.int .i64 s.l), .sl false 3 (tRow s.code), .sl false 2 (pRow s.mem), .sl false 3 (sRow s.stack), .sl false 2 (pRow s.out)], .fad [.v (.int .i64 (i : Int))], .v undef, .v undef, .v undef, .v undef, .v undef, .v undef, .v undef, .v undef, .v undef, .v undef, .v undef, .v undef, .v undef, .v undef, .v undef, .v undef, .v undef], []⟩ rfl ?_
    repeat' first | (with_reducible first | refine AWP_seq' ?_ | refine k_normal ?_ | refine AWP_ret ?_ | refine AWP_skip ?_) | ((with_reducible refine AWP_reg fun KC J hJ hKC => ?_); simp (maxSteps := 9999999) only [push_cast, seval, ↓reduceIte, hi']) | ((with_reducible refine hJ _ _ ?_); clear hJ hKC KC J) | ((with_reducible refine AWP_condF ?_ ?_); · rfl)
    refine ret_plain ?_
    simp (maxSteps := 9999999) only [push_cast, seval, ↓reduceIte, show Tryz.f245.results = #[(.cell 3 39)] from rfl]
    exact Lq
theorem mvPull_fn (i : Nat) (s : Sta) (hl : s.stack.length ≤ 15) : Fn Tryz.prog 246 [.agg (staF false false false false s), .fad [.v (.int .i64 (i : Int))]] [] (.agg (staF false false false false (mvF (.pull i) s))) [] := by
  simp only [staF, mvF]
  by_cases hi : i < s.stack.length
  · have hi' : (i : Int) < (s.stack.length : Int) := by omega
    have hcl := clS_fn false s.stack (by omega) (by omega)
    have hde := delS_fn s.stack s.stack.length i (i + 1) rfl hi rfl (by omega)
    have wi := wrapN (i := i) (n := s.stack.length) hi (by omega)
    rw [if_pos hi]
    obtain ⟨n, hn⟩ : ∃ n, s.stack.length = n := ⟨_, rfl⟩
    rw [hn] at hi' hcl hde
    refine Fn.of (fn := Tryz.f246) (by kernel_rfl) rfl (by kernel_rfl) ⟨[.agg [.v (.int .i64 s.v), .v (.int .i64 s.l), .sl false 3 (tRow s.code), .sl false 2 (pRow s.mem), .sl false 3 (sRow s.stack), .sl false 2 (pRow s.out)], .fad [.v (.int .i64 (i : Int))], .v undef, .v undef, .v undef, .v undef, .v undef, .v undef, .v undef, .v undef, .v undef, .v undef, .v undef, .v undef, .v undef, .v undef, .v undef, .v undef], []⟩ rfl ?_
    repeat' first | (with_reducible first | refine AWP_seq' ?_ | refine k_normal ?_ | refine AWP_ret ?_) | ((first | with_reducible refine AWP_reg fun KC J hJ hKC => ?_ | with_reducible refine AWP_regD rfl fun KC J hJ hKC => ?_ | (refine hKC _ _ _ _ _ (callN [] hcl rfl rfl rfl (by simp) (fun _ h => by cases h) rfl rfl rfl Lq ?_)) | (refine hKC _ _ _ _ _ (callK [2] hde rfl rfl rfl (by decide) (by simp) rfl (by simp only [push_cast, pick, mOf, idx, renSlot, ren_tCells, ren_sCells, ren_pCells]) (by simp only [push_cast, mOf, idx]; exact Lq) ?_))); simp (maxSteps := 9999999) only [push_cast, seval, ↓reduceIte, hn, hi', wi, backOf, callSets, renSlot, pick, mOf, idx, ren_tCells, ren_sCells, ren_pCells]) | ((first | with_reducible refine hJ _ _ ?_ | (with_reducible refine hJ _ _ ?_ ?_; · kernel_rfl)); clear hJ hKC KC J) | ((with_reducible refine AWP_condT ?_ ?_); · rfl)
    refine ret_plain ?_
    simp (maxSteps := 9999999) only [push_cast, seval, ↓reduceIte, show Tryz.f246.results = #[(.cell 3 39)] from rfl]
    exact Lq
  · have hi' : ¬ (i : Int) < (s.stack.length : Int) := by omega
    rw [if_neg hi]
    refine Fn.of (fn := Tryz.f246) (by kernel_rfl) rfl (by kernel_rfl) ⟨[.agg [.v (.int .i64 s.v), .v (.int .i64 s.l), .sl false 3 (tRow s.code), .sl false 2 (pRow s.mem), .sl false 3 (sRow s.stack), .sl false 2 (pRow s.out)], .fad [.v (.int .i64 (i : Int))], .v undef, .v undef, .v undef, .v undef, .v undef, .v undef, .v undef, .v undef, .v undef, .v undef, .v undef, .v undef, .v undef, .v undef, .v undef, .v undef], []⟩ rfl ?_
    repeat' first | (with_reducible first | refine AWP_seq' ?_ | refine k_normal ?_ | refine AWP_ret ?_ | refine AWP_skip ?_) | ((with_reducible refine AWP_reg fun KC J hJ hKC => ?_); simp (maxSteps := 9999999) only [push_cast, seval, ↓reduceIte, hi']) | ((with_reducible refine hJ _ _ ?_); clear hJ hKC KC J) | ((with_reducible refine AWP_condF ?_ ?_); · rfl)
    refine ret_plain ?_
    simp (maxSteps := 9999999) only [push_cast, seval, ↓reduceIte, show Tryz.f246.results = #[(.cell 3 39)] from rfl]
    exact Lq
theorem mvAt0_fn {us : List Nat} (i : Nat) {d : Do} (hd : DoOk us d) (s : Sta) (hs : StaN us.length s) : Fn Tryz.prog 248 [.agg (staF false false false false s), .fad [.v (.int .i64 0)], .fad [.v (.int .i64 (i : Int))], .fad [.fn (doN d) [.fad [.v (.int .i64 (doV d))]]]] [] (.agg (staF false false false false (atF 0 i (doF d) s))) [] := by
  have hbm : Nat.beq 0 0 = true := rfl
  have hl : s.code.length ≤ 12 := by have := hs.codeL; omega
  simp only [staF, atF]
  by_cases hi : i < s.code.length
  · have hi' : (i : Int) < (s.code.length : Int) := by omega
    have hcl := clT_fn false s.code (by omega) (by omega)
    have hx : s.code[i]? = some s.code[i] := List.getElem?_eq_getElem hi
    obtain ⟨x, hxx⟩ : ∃ x, s.code[i] = x := ⟨_, rfl⟩
    rw [hxx] at hx
    have hxb := hs.code x (List.mem_of_getElem? hx)
    rw [upd_some hx]
    have hlC := tCells_length s.code
    obtain ⟨o, v, l⟩ := x
    simp only at hxb
    obtain ⟨n, hn⟩ : ∃ n, s.code.length = n := ⟨_, rfl⟩
    rw [hn] at hi' hcl hlC
    by_cases ho : o = 1
    · subst ho
      have hge := getE_t hx
      have e1 : instM (doF d) (1, v, l) = (1, doF d (v, l)) := rfl
      rw [e1]
      have hdo := do_fn hd v l hxb.1 hxb.2.1
      obtain ⟨v', hv'⟩ : ∃ v', (doF d (v, l)).1 = v' := ⟨_, rfl⟩
      obtain ⟨l', hl'⟩ : ∃ l', (doF d (v, l)).2 = l' := ⟨_, rfl⟩
      have hdd : doF d (v, l) = (v', l') := by rw [← hv', ← hl']
      rw [hv', hl'] at hdo
      rw [hdd]
      have hset' := tC_set v' l' hx
      have hg := tC_get1 hx
      obtain ⟨hg1, hg2⟩ := hg
      simp only at hg1 hg2
      obtain ⟨L, hL⟩ : ∃ L, s.code.set i (1, v', l') = L := ⟨_, rfl⟩
      have hLn : L.length = n := by rw [← hL, List.length_set, hn]
      rw [hL] at hset' ⊢
      have hLC : (tCells L).length = n * 3 := by rw [tCells_length, hLn]
      have hLr : chunk 3 n (tCells L) = tRow L := by rw [← hLn]; exact chunk_t L
      refine Fn.of (fn := Tryz.f248) (by kernel_rfl) rfl (by kernel_rfl) ⟨[.agg [.v (.int .i64 s.v), .v (.int .i64 s.l), .sl false 3 (tRow s.code), .sl false 2 (pRow s.mem), .sl false 3 (sRow s.stack), .sl false 2 (pRow s.out)], .fad [.v (.int .i64 0)], .fad [.v (.int .i64 (i : Int))], .fad [.fn (doN d) [.fad [.v (.int .i64 (doV d))]]], .v undef, .v undef, .v undef, .v undef, .v undef, .v undef, .v undef, .v undef, .v undef, .v undef, .v undef, .v undef, .v undef, .v undef, .v undef, .v undef, .v undef, .v undef, .v undef, .v undef, .v undef, .v undef, .v undef, .v undef, .v undef, .v undef, .v undef, .v undef, .v undef, .v undef, .v undef, .v undef, .v undef, .v undef, .v undef, .v undef, .v undef, .v undef, .v undef, .v undef, .v undef, .v undef, .v undef, .v undef, .v undef, .v undef, .v undef, .v undef, .v undef, .v undef, .v undef, .v undef, .v undef, .v undef, .v undef, .v undef, .v undef, .v undef, .v undef, .v undef, .v undef, .v undef, .v undef, .v undef, .v undef, .v undef, .v undef, .v undef, .v undef, .v undef, .v undef, .v undef, .v undef, .v undef, .v undef, .v undef, .v undef, .v undef, .v undef, .v undef, .v undef, .v undef, .v undef, .v undef, .v undef, .v undef, .v undef, .v undef, .v undef, .v undef, .v undef, .v undef, .v undef, .v undef, .v undef, .v undef, .v undef, .v undef, .v undef, .v undef, .v undef, .v undef, .v undef, .v undef, .v undef, .v undef, .v undef, .v undef, .v undef, .v undef, .v undef, .v undef, .v undef, .v undef, .v undef, .v undef, .v undef, .v undef, .v undef, .v undef, .v undef, .v undef, .v undef, .v undef, .v undef, .v undef], []⟩ rfl ?_
      repeat' first | (refine AWP_freezeR 13 2 rfl (by (simp (maxSteps := 9999999) only [push_cast, seval, ↓reduceIte]) <;> rfl) ?_; simp (maxSteps := 9999999) only [push_cast, seval, ↓reduceIte, frSt, frSlot, fr3, fr2, fr1, fr0, sameB, arrOf, hn, hi', hlC, hg1, hg2, hset', hbm, hLC, hLr, undef, List.length_set, hge, backOf, callSets, renSlot, pick, mOf, idx, ren_tCells, ren_sCells, ren_pCells]) | (with_reducible first | refine AWP_seq' ?_ | refine k_normal ?_ | refine b_normal ?_ | refine AWP_ret ?_ | refine AWP_block ?_) | ((with_reducible refine And.intro ?_ ?_); · exact Sq) | ((first | with_reducible refine AWP_reg fun KC J hJ hKC => ?_ | with_reducible refine AWP_regD rfl fun KC J hJ hKC => ?_ | (refine hKC _ _ _ _ _ (callN [] hcl rfl rfl rfl (by simp) (fun _ h => by cases h) rfl rfl rfl Lq ?_)) | (refine hKC _ _ _ _ _ (callV0 (hdo) rfl rfl rfl ?_ ?_); (· exact Lq))); simp (maxSteps := 9999999) only [push_cast, seval, ↓reduceIte, hn, hi', hlC, hg1, hg2, hset', hbm, hLC, hLr, undef, List.length_set, hge, backOf, callSets, renSlot, pick, mOf, idx, ren_tCells, ren_sCells, ren_pCells]) | ((first | with_reducible refine hJ _ _ ?_ | (with_reducible refine hJ _ _ ?_ ?_; · kernel_rfl)); clear hJ hKC KC J) | ((with_reducible refine AWP_condT ?_ ?_); · rfl)
      refine ret_plain ?_
      simp (maxSteps := 9999999) only [push_cast, seval, ↓reduceIte, show Tryz.f248.results = #[(.cell 5 39)] from rfl]
      exact Lq
    · have ho' : (o == 1) = false := by simpa using ho
      have hge := getE_t hx
      have e1 : instM (doF d) (o, v, l) = (o, v, l) := if_neg ho
      rw [e1, show s.code.set i (o, v, l) = s.code by rw [← hxx]; exact List.set_getElem_self hi]
      refine Fn.of (fn := Tryz.f248) (by kernel_rfl) rfl (by kernel_rfl) ⟨[.agg [.v (.int .i64 s.v), .v (.int .i64 s.l), .sl false 3 (tRow s.code), .sl false 2 (pRow s.mem), .sl false 3 (sRow s.stack), .sl false 2 (pRow s.out)], .fad [.v (.int .i64 0)], .fad [.v (.int .i64 (i : Int))], .fad [.fn (doN d) [.fad [.v (.int .i64 (doV d))]]], .v undef, .v undef, .v undef, .v undef, .v undef, .v undef, .v undef, .v undef, .v undef, .v undef, .v undef, .v undef, .v undef, .v undef, .v undef, .v undef, .v undef, .v undef, .v undef, .v undef, .v undef, .v undef, .v undef, .v undef, .v undef, .v undef, .v undef, .v undef, .v undef, .v undef, .v undef, .v undef, .v undef, .v undef, .v undef, .v undef, .v undef, .v undef, .v undef, .v undef, .v undef, .v undef, .v undef, .v undef, .v undef, .v undef, .v undef, .v undef, .v undef, .v undef, .v undef, .v undef, .v undef, .v undef, .v undef, .v undef, .v undef, .v undef, .v undef, .v undef, .v undef, .v undef, .v undef, .v undef, .v undef, .v undef, .v undef, .v undef, .v undef, .v undef, .v undef, .v undef, .v undef, .v undef, .v undef, .v undef, .v undef, .v undef, .v undef, .v undef, .v undef, .v undef, .v undef, .v undef, .v undef, .v undef, .v undef, .v undef, .v undef, .v undef, .v undef, .v undef, .v undef, .v undef, .v undef, .v undef, .v undef, .v undef, .v undef, .v undef, .v undef, .v undef, .v undef, .v undef, .v undef, .v undef, .v undef, .v undef, .v undef, .v undef, .v undef, .v undef, .v undef, .v undef, .v undef, .v undef, .v undef, .v undef, .v undef, .v undef, .v undef, .v undef, .v undef, .v undef, .v undef, .v undef], []⟩ rfl ?_
      repeat' first | (with_reducible first | refine AWP_seq' ?_ | refine k_normal ?_ | refine b_normal ?_ | refine AWP_ret ?_ | refine AWP_skip ?_ | refine AWP_block ?_) | ((with_reducible refine And.intro ?_ ?_); · exact Sq) | ((with_reducible refine AWP_reg fun KC J hJ hKC => ?_); simp (maxSteps := 9999999) only [push_cast, seval, ↓reduceIte, hn, hi', hge, ho', undef]) | ((with_reducible refine hJ _ _ ?_); clear hJ hKC KC J) | ((with_reducible refine AWP_condF ?_ ?_); · rfl)
      refine ret_plain ?_
      simp (maxSteps := 9999999) only [push_cast, seval, ↓reduceIte, show Tryz.f248.results = #[(.cell 5 39)] from rfl]
      exact Lq
  · have hi' : ¬ (i : Int) < (s.code.length : Int) := by omega
    rw [upd_none (by omega)]
    refine Fn.of (fn := Tryz.f248) (by kernel_rfl) rfl (by kernel_rfl) ⟨[.agg [.v (.int .i64 s.v), .v (.int .i64 s.l), .sl false 3 (tRow s.code), .sl false 2 (pRow s.mem), .sl false 3 (sRow s.stack), .sl false 2 (pRow s.out)], .fad [.v (.int .i64 0)], .fad [.v (.int .i64 (i : Int))], .fad [.fn (doN d) [.fad [.v (.int .i64 (doV d))]]], .v undef, .v undef, .v undef, .v undef, .v undef, .v undef, .v undef, .v undef, .v undef, .v undef, .v undef, .v undef, .v undef, .v undef, .v undef, .v undef, .v undef, .v undef, .v undef, .v undef, .v undef, .v undef, .v undef, .v undef, .v undef, .v undef, .v undef, .v undef, .v undef, .v undef, .v undef, .v undef, .v undef, .v undef, .v undef, .v undef, .v undef, .v undef, .v undef, .v undef, .v undef, .v undef, .v undef, .v undef, .v undef, .v undef, .v undef, .v undef, .v undef, .v undef, .v undef, .v undef, .v undef, .v undef, .v undef, .v undef, .v undef, .v undef, .v undef, .v undef, .v undef, .v undef, .v undef, .v undef, .v undef, .v undef, .v undef, .v undef, .v undef, .v undef, .v undef, .v undef, .v undef, .v undef, .v undef, .v undef, .v undef, .v undef, .v undef, .v undef, .v undef, .v undef, .v undef, .v undef, .v undef, .v undef, .v undef, .v undef, .v undef, .v undef, .v undef, .v undef, .v undef, .v undef, .v undef, .v undef, .v undef, .v undef, .v undef, .v undef, .v undef, .v undef, .v undef, .v undef, .v undef, .v undef, .v undef, .v undef, .v undef, .v undef, .v undef, .v undef, .v undef, .v undef, .v undef, .v undef, .v undef, .v undef, .v undef, .v undef, .v undef, .v undef, .v undef, .v undef, .v undef, .v undef], []⟩ rfl ?_
    repeat' first | (with_reducible first | refine AWP_seq' ?_ | refine k_normal ?_ | refine b_normal ?_ | refine AWP_ret ?_ | refine AWP_skip ?_ | refine AWP_block ?_) | ((with_reducible refine AWP_reg fun KC J hJ hKC => ?_); simp (maxSteps := 9999999) only [push_cast, seval, ↓reduceIte, hi', undef]) | ((with_reducible refine hJ _ _ ?_); clear hJ hKC KC J) | ((with_reducible refine AWP_condF ?_ ?_); · rfl)
    refine ret_plain ?_
    simp (maxSteps := 9999999) only [push_cast, seval, ↓reduceIte, show Tryz.f248.results = #[(.cell 5 39)] from rfl]
    exact Lq
theorem mvAt1_fn {us : List Nat} (i : Nat) {d : Do} (hd : DoOk us d) (s : Sta) (hs : StaN us.length s) : Fn Tryz.prog 248 [.agg (staF false false false false s), .fad [.v (.int .i64 1)], .fad [.v (.int .i64 (i : Int))], .fad [.fn (doN d) [.fad [.v (.int .i64 (doV d))]]]] [] (.agg (staF false false false false (atF 1 i (doF d) s))) [] := by
  have hbm : Nat.beq 0 0 = true := rfl
  have hl : s.mem.length ≤ 12 := by have := hs.memL; omega
  simp only [staF, atF]
  by_cases hi : i < s.mem.length
  · have hi' : (i : Int) < (s.mem.length : Int) := by omega
    have hcl := clA_fn false s.mem (by omega) (by omega)
    have hx : s.mem[i]? = some s.mem[i] := List.getElem?_eq_getElem hi
    obtain ⟨x, hxx⟩ : ∃ x, s.mem[i] = x := ⟨_, rfl⟩
    rw [hxx] at hx
    have hxb := hs.mem x (List.mem_of_getElem? hx)
    rw [upd_some hx]
    have hlC := pCells_length s.mem
    obtain ⟨v, l⟩ := x
    simp only at hxb
    obtain ⟨n, hn⟩ : ∃ n, s.mem.length = n := ⟨_, rfl⟩
    rw [hn] at hi' hcl hlC
    have hdo := do_fn hd v l hxb.1 hxb.2.1
    obtain ⟨v', hv'⟩ : ∃ v', (doF d (v, l)).1 = v' := ⟨_, rfl⟩
    obtain ⟨l', hl'⟩ : ∃ l', (doF d (v, l)).2 = l' := ⟨_, rfl⟩
    have hdd : doF d (v, l) = (v', l') := by rw [← hv', ← hl']
    rw [hv', hl'] at hdo
    rw [hdd]
    have hset' := pC_set v' l' hx
    have hg := pC_get hx
    obtain ⟨hg1, hg2⟩ := hg
    simp only at hg1 hg2
    obtain ⟨L, hL⟩ : ∃ L, s.mem.set i (v', l') = L := ⟨_, rfl⟩
    have hLn : L.length = n := by rw [← hL, List.length_set, hn]
    rw [hL] at hset' ⊢
    have hLC : (pCells L).length = n * 2 := by rw [pCells_length, hLn]
    have hLr : chunk 2 n (pCells L) = pRow L := by rw [← hLn]; exact chunk_p L
    refine Fn.of (fn := Tryz.f248) (by kernel_rfl) rfl (by kernel_rfl) ⟨[.agg [.v (.int .i64 s.v), .v (.int .i64 s.l), .sl false 3 (tRow s.code), .sl false 2 (pRow s.mem), .sl false 3 (sRow s.stack), .sl false 2 (pRow s.out)], .fad [.v (.int .i64 1)], .fad [.v (.int .i64 (i : Int))], .fad [.fn (doN d) [.fad [.v (.int .i64 (doV d))]]], .v undef, .v undef, .v undef, .v undef, .v undef, .v undef, .v undef, .v undef, .v undef, .v undef, .v undef, .v undef, .v undef, .v undef, .v undef, .v undef, .v undef, .v undef, .v undef, .v undef, .v undef, .v undef, .v undef, .v undef, .v undef, .v undef, .v undef, .v undef, .v undef, .v undef, .v undef, .v undef, .v undef, .v undef, .v undef, .v undef, .v undef, .v undef, .v undef, .v undef, .v undef, .v undef, .v undef, .v undef, .v undef, .v undef, .v undef, .v undef, .v undef, .v undef, .v undef, .v undef, .v undef, .v undef, .v undef, .v undef, .v undef, .v undef, .v undef, .v undef, .v undef, .v undef, .v undef, .v undef, .v undef, .v undef, .v undef, .v undef, .v undef, .v undef, .v undef, .v undef, .v undef, .v undef, .v undef, .v undef, .v undef, .v undef, .v undef, .v undef, .v undef, .v undef, .v undef, .v undef, .v undef, .v undef, .v undef, .v undef, .v undef, .v undef, .v undef, .v undef, .v undef, .v undef, .v undef, .v undef, .v undef, .v undef, .v undef, .v undef, .v undef, .v undef, .v undef, .v undef, .v undef, .v undef, .v undef, .v undef, .v undef, .v undef, .v undef, .v undef, .v undef, .v undef, .v undef, .v undef, .v undef, .v undef, .v undef, .v undef, .v undef, .v undef, .v undef, .v undef, .v undef, .v undef], []⟩ rfl ?_
    repeat' first | (refine AWP_freezeR 13 2 rfl (by (simp (maxSteps := 9999999) only [push_cast, seval, ↓reduceIte]) <;> rfl) ?_; simp (maxSteps := 9999999) only [push_cast, seval, ↓reduceIte, frSt, frSlot, fr3, fr2, fr1, fr0, sameB, arrOf, hn, hi', hlC, hg1, hg2, hset', hbm, hLC, hLr, undef, List.length_set, Nat.add_zero, backOf, callSets, renSlot, pick, mOf, idx, ren_tCells, ren_sCells, ren_pCells]) | (with_reducible first | refine AWP_seq' ?_ | refine k_normal ?_ | refine b_normal ?_ | refine AWP_ret ?_ | refine AWP_block ?_) | ((with_reducible refine And.intro ?_ ?_); · exact Sq) | ((first | with_reducible refine AWP_reg fun KC J hJ hKC => ?_ | with_reducible refine AWP_regD rfl fun KC J hJ hKC => ?_ | (refine hKC _ _ _ _ _ (callN [] hcl rfl rfl rfl (by simp) (fun _ h => by cases h) rfl rfl rfl Lq ?_)) | (refine hKC _ _ _ _ _ (callV0 (hdo) rfl rfl rfl ?_ ?_); (· exact Lq))); simp (maxSteps := 9999999) only [push_cast, seval, ↓reduceIte, hn, hi', hlC, hg1, hg2, hset', hbm, hLC, hLr, undef, List.length_set, Nat.add_zero, backOf, callSets, renSlot, pick, mOf, idx, ren_tCells, ren_sCells, ren_pCells]) | ((first | with_reducible refine hJ _ _ ?_ | (with_reducible refine hJ _ _ ?_ ?_; · kernel_rfl)); clear hJ hKC KC J) | ((with_reducible refine AWP_condT ?_ ?_); · rfl) | ((with_reducible refine AWP_condF ?_ ?_); · rfl)
    refine ret_plain ?_
    simp (maxSteps := 9999999) only [push_cast, seval, ↓reduceIte, show Tryz.f248.results = #[(.cell 5 39)] from rfl]
    exact Lq
  · have hi' : ¬ (i : Int) < (s.mem.length : Int) := by omega
    rw [upd_none (by omega)]
    refine Fn.of (fn := Tryz.f248) (by kernel_rfl) rfl (by kernel_rfl) ⟨[.agg [.v (.int .i64 s.v), .v (.int .i64 s.l), .sl false 3 (tRow s.code), .sl false 2 (pRow s.mem), .sl false 3 (sRow s.stack), .sl false 2 (pRow s.out)], .fad [.v (.int .i64 1)], .fad [.v (.int .i64 (i : Int))], .fad [.fn (doN d) [.fad [.v (.int .i64 (doV d))]]], .v undef, .v undef, .v undef, .v undef, .v undef, .v undef, .v undef, .v undef, .v undef, .v undef, .v undef, .v undef, .v undef, .v undef, .v undef, .v undef, .v undef, .v undef, .v undef, .v undef, .v undef, .v undef, .v undef, .v undef, .v undef, .v undef, .v undef, .v undef, .v undef, .v undef, .v undef, .v undef, .v undef, .v undef, .v undef, .v undef, .v undef, .v undef, .v undef, .v undef, .v undef, .v undef, .v undef, .v undef, .v undef, .v undef, .v undef, .v undef, .v undef, .v undef, .v undef, .v undef, .v undef, .v undef, .v undef, .v undef, .v undef, .v undef, .v undef, .v undef, .v undef, .v undef, .v undef, .v undef, .v undef, .v undef, .v undef, .v undef, .v undef, .v undef, .v undef, .v undef, .v undef, .v undef, .v undef, .v undef, .v undef, .v undef, .v undef, .v undef, .v undef, .v undef, .v undef, .v undef, .v undef, .v undef, .v undef, .v undef, .v undef, .v undef, .v undef, .v undef, .v undef, .v undef, .v undef, .v undef, .v undef, .v undef, .v undef, .v undef, .v undef, .v undef, .v undef, .v undef, .v undef, .v undef, .v undef, .v undef, .v undef, .v undef, .v undef, .v undef, .v undef, .v undef, .v undef, .v undef, .v undef, .v undef, .v undef, .v undef, .v undef, .v undef, .v undef, .v undef, .v undef, .v undef], []⟩ rfl ?_
    repeat' first | (with_reducible first | refine AWP_seq' ?_ | refine k_normal ?_ | refine b_normal ?_ | refine AWP_ret ?_ | refine AWP_skip ?_ | refine AWP_block ?_) | ((with_reducible refine AWP_reg fun KC J hJ hKC => ?_); simp (maxSteps := 9999999) only [push_cast, seval, ↓reduceIte, hi', undef]) | ((with_reducible refine hJ _ _ ?_); clear hJ hKC KC J) | ((with_reducible refine AWP_condF ?_ ?_); · rfl)
    refine ret_plain ?_
    simp (maxSteps := 9999999) only [push_cast, seval, ↓reduceIte, show Tryz.f248.results = #[(.cell 5 39)] from rfl]
    exact Lq
theorem mvAt2_fn {us : List Nat} (i : Nat) {d : Do} (hd : DoOk us d) (s : Sta) (hs : StaN us.length s) : Fn Tryz.prog 248 [.agg (staF false false false false s), .fad [.v (.int .i64 2)], .fad [.v (.int .i64 (i : Int))], .fad [.fn (doN d) [.fad [.v (.int .i64 (doV d))]]]] [] (.agg (staF false false false false (atF 2 i (doF d) s))) [] := by
  have hbm : Nat.beq 0 0 = true := rfl
  have hl : s.stack.length ≤ 12 := by have := hs.stackL; omega
  simp only [staF, atF]
  by_cases hi : i < s.stack.length
  · have hi' : (i : Int) < (s.stack.length : Int) := by omega
    have hcl := clS_fn false s.stack (by omega) (by omega)
    have hx : s.stack[i]? = some s.stack[i] := List.getElem?_eq_getElem hi
    obtain ⟨x, hxx⟩ : ∃ x, s.stack[i] = x := ⟨_, rfl⟩
    rw [hxx] at hx
    have hxb := hs.stack x (List.mem_of_getElem? hx)
    rw [upd_some hx]
    have hlC := sCells_length s.stack
    obtain ⟨r, v, l⟩ := x
    simp only at hxb
    obtain ⟨n, hn⟩ : ∃ n, s.stack.length = n := ⟨_, rfl⟩
    rw [hn] at hi' hcl hlC
    have hdo := do_fn hd v l hxb.1 hxb.2.1
    obtain ⟨v', hv'⟩ : ∃ v', (doF d (v, l)).1 = v' := ⟨_, rfl⟩
    obtain ⟨l', hl'⟩ : ∃ l', (doF d (v, l)).2 = l' := ⟨_, rfl⟩
    have hdd : doF d (v, l) = (v', l') := by rw [← hv', ← hl']
    rw [hv', hl'] at hdo
    rw [show slotM (doF d) (r, v, l) = (r, doF d (v, l)) from rfl, hdd]
    have hset' := sC_set v' l' hx
    have hg := sC_get1 hx
    obtain ⟨hg1, hg2⟩ := hg
    simp only at hg1 hg2
    obtain ⟨L, hL⟩ : ∃ L, s.stack.set i (r, v', l') = L := ⟨_, rfl⟩
    have hLn : L.length = n := by rw [← hL, List.length_set, hn]
    rw [hL] at hset' ⊢
    have hLC : (sCells L).length = n * 3 := by rw [sCells_length, hLn]
    have hLr : chunk 3 n (sCells L) = sRow L := by rw [← hLn]; exact chunk_s L
    refine Fn.of (fn := Tryz.f248) (by kernel_rfl) rfl (by kernel_rfl) ⟨[.agg [.v (.int .i64 s.v), .v (.int .i64 s.l), .sl false 3 (tRow s.code), .sl false 2 (pRow s.mem), .sl false 3 (sRow s.stack), .sl false 2 (pRow s.out)], .fad [.v (.int .i64 2)], .fad [.v (.int .i64 (i : Int))], .fad [.fn (doN d) [.fad [.v (.int .i64 (doV d))]]], .v undef, .v undef, .v undef, .v undef, .v undef, .v undef, .v undef, .v undef, .v undef, .v undef, .v undef, .v undef, .v undef, .v undef, .v undef, .v undef, .v undef, .v undef, .v undef, .v undef, .v undef, .v undef, .v undef, .v undef, .v undef, .v undef, .v undef, .v undef, .v undef, .v undef, .v undef, .v undef, .v undef, .v undef, .v undef, .v undef, .v undef, .v undef, .v undef, .v undef, .v undef, .v undef, .v undef, .v undef, .v undef, .v undef, .v undef, .v undef, .v undef, .v undef, .v undef, .v undef, .v undef, .v undef, .v undef, .v undef, .v undef, .v undef, .v undef, .v undef, .v undef, .v undef, .v undef, .v undef, .v undef, .v undef, .v undef, .v undef, .v undef, .v undef, .v undef, .v undef, .v undef, .v undef, .v undef, .v undef, .v undef, .v undef, .v undef, .v undef, .v undef, .v undef, .v undef, .v undef, .v undef, .v undef, .v undef, .v undef, .v undef, .v undef, .v undef, .v undef, .v undef, .v undef, .v undef, .v undef, .v undef, .v undef, .v undef, .v undef, .v undef, .v undef, .v undef, .v undef, .v undef, .v undef, .v undef, .v undef, .v undef, .v undef, .v undef, .v undef, .v undef, .v undef, .v undef, .v undef, .v undef, .v undef, .v undef, .v undef, .v undef, .v undef, .v undef, .v undef, .v undef, .v undef], []⟩ rfl ?_
    repeat' first | (refine AWP_freezeR 13 2 rfl (by (simp (maxSteps := 9999999) only [push_cast, seval, ↓reduceIte]) <;> rfl) ?_; simp (maxSteps := 9999999) only [push_cast, seval, ↓reduceIte, frSt, frSlot, fr3, fr2, fr1, fr0, sameB, arrOf, hn, hi', hlC, hg1, hg2, hset', hbm, hLC, hLr, undef, List.length_set, backOf, callSets, renSlot, pick, mOf, idx, ren_tCells, ren_sCells, ren_pCells]) | (with_reducible first | refine AWP_seq' ?_ | refine k_normal ?_ | refine b_normal ?_ | refine AWP_ret ?_ | refine AWP_block ?_) | ((with_reducible refine And.intro ?_ ?_); · exact Sq) | ((first | with_reducible refine AWP_reg fun KC J hJ hKC => ?_ | with_reducible refine AWP_regD rfl fun KC J hJ hKC => ?_ | (refine hKC _ _ _ _ _ (callN [] hcl rfl rfl rfl (by simp) (fun _ h => by cases h) rfl rfl rfl Lq ?_)) | (refine hKC _ _ _ _ _ (callV0 (hdo) rfl rfl rfl ?_ ?_); (· exact Lq))); simp (maxSteps := 9999999) only [push_cast, seval, ↓reduceIte, hn, hi', hlC, hg1, hg2, hset', hbm, hLC, hLr, undef, List.length_set, backOf, callSets, renSlot, pick, mOf, idx, ren_tCells, ren_sCells, ren_pCells]) | ((first | with_reducible refine hJ _ _ ?_ | (with_reducible refine hJ _ _ ?_ ?_; · kernel_rfl)); clear hJ hKC KC J) | ((with_reducible refine AWP_condT ?_ ?_); · rfl) | ((with_reducible refine AWP_condF ?_ ?_); · rfl)
    refine ret_plain ?_
    simp (maxSteps := 9999999) only [push_cast, seval, ↓reduceIte, show Tryz.f248.results = #[(.cell 5 39)] from rfl]
    exact Lq
  · have hi' : ¬ (i : Int) < (s.stack.length : Int) := by omega
    rw [upd_none (by omega)]
    refine Fn.of (fn := Tryz.f248) (by kernel_rfl) rfl (by kernel_rfl) ⟨[.agg [.v (.int .i64 s.v), .v (.int .i64 s.l), .sl false 3 (tRow s.code), .sl false 2 (pRow s.mem), .sl false 3 (sRow s.stack), .sl false 2 (pRow s.out)], .fad [.v (.int .i64 2)], .fad [.v (.int .i64 (i : Int))], .fad [.fn (doN d) [.fad [.v (.int .i64 (doV d))]]], .v undef, .v undef, .v undef, .v undef, .v undef, .v undef, .v undef, .v undef, .v undef, .v undef, .v undef, .v undef, .v undef, .v undef, .v undef, .v undef, .v undef, .v undef, .v undef, .v undef, .v undef, .v undef, .v undef, .v undef, .v undef, .v undef, .v undef, .v undef, .v undef, .v undef, .v undef, .v undef, .v undef, .v undef, .v undef, .v undef, .v undef, .v undef, .v undef, .v undef, .v undef, .v undef, .v undef, .v undef, .v undef, .v undef, .v undef, .v undef, .v undef, .v undef, .v undef, .v undef, .v undef, .v undef, .v undef, .v undef, .v undef, .v undef, .v undef, .v undef, .v undef, .v undef, .v undef, .v undef, .v undef, .v undef, .v undef, .v undef, .v undef, .v undef, .v undef, .v undef, .v undef, .v undef, .v undef, .v undef, .v undef, .v undef, .v undef, .v undef, .v undef, .v undef, .v undef, .v undef, .v undef, .v undef, .v undef, .v undef, .v undef, .v undef, .v undef, .v undef, .v undef, .v undef, .v undef, .v undef, .v undef, .v undef, .v undef, .v undef, .v undef, .v undef, .v undef, .v undef, .v undef, .v undef, .v undef, .v undef, .v undef, .v undef, .v undef, .v undef, .v undef, .v undef, .v undef, .v undef, .v undef, .v undef, .v undef, .v undef, .v undef, .v undef, .v undef, .v undef, .v undef, .v undef], []⟩ rfl ?_
    repeat' first | (with_reducible first | refine AWP_seq' ?_ | refine k_normal ?_ | refine b_normal ?_ | refine AWP_ret ?_ | refine AWP_skip ?_ | refine AWP_block ?_) | ((with_reducible refine AWP_reg fun KC J hJ hKC => ?_); simp (maxSteps := 9999999) only [push_cast, seval, ↓reduceIte, hi', undef]) | ((with_reducible refine hJ _ _ ?_); clear hJ hKC KC J) | ((with_reducible refine AWP_condF ?_ ?_); · rfl)
    refine ret_plain ?_
    simp (maxSteps := 9999999) only [push_cast, seval, ↓reduceIte, show Tryz.f248.results = #[(.cell 5 39)] from rfl]
    exact Lq
end Go.Proofs.YtabliglgeiajlaaGreat.AM

namespace Go.Proofs.YtabliglgeiajlaaGreat.AM
open Go Go.RowKit Go.Proofs
set_option maxRecDepth 100000
set_option maxHeartbeats 4000000
def wC (i : Nat) (R : List (Int × Int × Int)) (k : Nat) : List (Int × Int × Int) := (R.take k).map (befC i) ++ R.drop k
def wS (i : Nat) (R : List (Bool × Int × Int)) (k : Nat) : List (Bool × Int × Int) := (R.take k).map (befS i) ++ R.drop k
theorem wC_length (i : Nat) (R) (k : Nat) : (wC i R k).length = R.length := by simp [wC]; omega
theorem wS_length (i : Nat) (R) (k : Nat) : (wS i R k).length = R.length := by simp [wS]; omega
theorem w_get {α : Type} (f : α → α) {R : List α} {k : Nat} {x : α} (h : R[k]? = some x) : ((R.take k).map f ++ R.drop k)[k]? = some x := by
  obtain ⟨hk, rfl⟩ := List.getElem?_eq_some_iff.1 h
  rw [List.getElem?_append_right (by simp; omega)]
  simp only [List.length_map, List.length_take, List.getElem?_drop]
  rw [show k + (k - min k R.length) = k by omega, h]
theorem w_succ {α : Type} (f : α → α) {R : List α} {k : Nat} {x : α} (h : R[k]? = some x) : (R.take (k + 1)).map f ++ R.drop (k + 1) = ((R.take k).map f ++ R.drop k).set k (f x) := by
  obtain ⟨hk, rfl⟩ := List.getElem?_eq_some_iff.1 h
  rw [List.take_succ_eq_append_getElem hk, List.drop_eq_getElem_cons hk, List.set_append_right _ _ (by simp; omega)]
  simp only [List.length_map, List.length_take, List.map_append, List.map_cons, List.map_nil]
  rw [show k - min k R.length = 0 by omega, List.set_cons_zero, List.append_assoc]
  rfl
theorem wC_get {i : Nat} {R} {k : Nat} {x} (h : R[k]? = some x) : (wC i R k)[k]? = some x := w_get _ h
theorem wS_get {i : Nat} {R} {k : Nat} {x} (h : R[k]? = some x) : (wS i R k)[k]? = some x := w_get _ h
theorem wC_succ {i : Nat} {R} {k : Nat} {x} (h : R[k]? = some x) : wC i R (k + 1) = (wC i R k).set k (befC i x) := w_succ _ h
theorem wS_succ {i : Nat} {R} {k : Nat} {x} (h : R[k]? = some x) : wS i R (k + 1) = (wS i R k).set k (befS i x) := w_succ _ h
theorem wC_end {i : Nat} {R : List (Int × Int × Int)} {k : Nat} (h : R.length = k) : wC i R k = R.map (befC i) := by subst h; simp [wC]
theorem wS_end {i : Nat} {R : List (Bool × Int × Int)} {k : Nat} (h : R.length = k) : wS i R k = R.map (befS i) := by subst h; simp [wS]
theorem tC_set1 {l : List (Int × Int × Int)} {n : Nat} {o v w : Int} (v' : Int) (h : l[n]? = some (o, v, w)) : (tCells l).take (n * 3 + 1) ++ [D.v (.int .i64 v')] ++ (tCells l).drop (n * 3 + 1 + 1) = tCells (l.set n (o, v', w)) := by
  obtain ⟨hn, hx⟩ := List.getElem?_eq_some_iff.1 h
  have hl : ((tCells l).take (n * 3)).length = n * 3 := by rw [List.length_take, tCells_length]; omega
  have hl0 := tCells_length l
  rw [spl_set (by omega)]
  have e := tCells_set l (o, v, w) hn
  rw [show l.set n (o, v, w) = l by rw [← hx]; exact List.set_getElem_self hn] at e
  rw [tCells_set l _ hn]
  conv => lhs; rw [e]
  rw [app_set hl]
theorem sC_set1 {l : List (Bool × Int × Int)} {n : Nat} {o : Bool} {v w : Int} (v' : Int) (h : l[n]? = some (o, v, w)) : (sCells l).take (n * 3 + 1) ++ [D.v (.int .i64 v')] ++ (sCells l).drop (n * 3 + 1 + 1) = sCells (l.set n (o, v', w)) := by
  obtain ⟨hn, hx⟩ := List.getElem?_eq_some_iff.1 h
  have hl : ((sCells l).take (n * 3)).length = n * 3 := by rw [List.length_take, sCells_length]; omega
  have hl0 := sCells_length l
  rw [spl_set (by omega)]
  have e := sCells_set l (o, v, w) hn
  rw [show l.set n (o, v, w) = l by rw [← hx]; exact List.set_getElem_self hn] at e
  rw [sCells_set l _ hn]
  conv => lhs; rw [e]
  rw [app_set hl]
theorem mvWithout_fn (i : Nat) (s : Sta) {n0 : Nat} (hs : StaN n0 s) : Fn Tryz.prog 241 [.agg (staF false false false false s), .fad [.v (.int .i64 (i : Int))]] [] (.agg (staF false false false false (mvF (.without i) s))) [] := by
  have hbm : Nat.beq 0 0 = true := rfl
  have l1 := hs.codeL
  have l3 := hs.stackL
  simp only [staF, mvF]
  by_cases hi : i < s.code.length
  · have hi' : ((s.code.length : Int) ≤ (i : Int)) = False := by simp; omega
    have hcl := clT_fn false s.code (by omega) (by omega)
    have hde := delT_fn s.code s.code.length i (i + 1) rfl hi rfl (by omega)
    have wi := wrapN (i := i) (n := s.code.length) hi (by omega)
    rw [if_pos hi]
    obtain ⟨R, hR⟩ : ∃ R, s.code.take i ++ s.code.drop (i + 1) = R := ⟨_, rfl⟩
    obtain ⟨q, hq⟩ : ∃ q, i + (s.code.length - (i + 1)) = q := ⟨_, rfl⟩
    have hRq : R.length = q := by rw [← hR]; simp; omega
    rw [hq, hR] at hde
    have hRb : ∀ x ∈ R, -20 ≤ x.2.1 ∧ x.2.1 ≤ 20 ∧ (x.1 = 1 → oddL n0 x.2.2 = false) := fun x hx => hs.code x (by
      rw [← hR] at hx
      rcases List.mem_append.1 hx with h | h
      · exact List.mem_of_mem_take h
      · exact List.mem_of_mem_drop h)
    rw [hR]
    obtain ⟨n, hn⟩ : ∃ n, s.code.length = n := ⟨_, rfl⟩
    rw [hn] at hi' hcl hde
    by_cases hz : 0 < s.stack.length
    · have hcs := clS_fn false s.stack hz (by omega)
      have hm0 : True := trivial
      obtain ⟨m, hm⟩ : ∃ m, s.stack.length = m := ⟨_, rfl⟩
      rw [hm] at hcs
      refine Fn.of (fn := Tryz.f241) (by kernel_rfl) rfl (by kernel_rfl) ⟨[.agg [.v (.int .i64 s.v), .v (.int .i64 s.l), .sl false 3 (tRow s.code), .sl false 2 (pRow s.mem), .sl false 3 (sRow s.stack), .sl false 2 (pRow s.out)], .fad [.v (.int .i64 (i : Int))], .v undef, .v undef, .v undef, .v undef, .v undef, .v undef, .v undef, .v undef, .v undef, .v undef, .v undef, .v undef, .v undef, .v undef, .v undef, .v undef, .v undef, .v undef, .v undef, .v undef, .v undef, .v undef, .v undef, .v undef, .v undef, .v undef, .v undef, .v undef, .v undef, .v undef, .v undef, .v undef, .v undef, .v undef, .v undef, .v undef, .v undef, .v undef, .v undef, .v undef, .v undef, .v undef, .v undef, .v undef, .v undef, .v undef, .v undef, .v undef, .v undef, .v undef, .v undef, .v undef, .v undef, .v undef, .v undef, .v undef, .v undef, .v undef, .v undef, .v undef, .v undef, .v undef, .v undef, .v undef, .v undef, .v undef, .v undef, .v undef, .v undef, .v undef, .v undef, .v undef, .v undef, .v undef, .v undef], []⟩ rfl ?_
      repeat' first | (with_reducible first | refine AWP_seq' ?_ | refine k_normal ?_ | refine AWP_skip ?_ | refine AWP_block ?_) | ((first | with_reducible refine AWP_reg fun KC J hJ hKC => ?_ | with_reducible refine AWP_regD rfl fun KC J hJ hKC => ?_ | (refine hKC _ _ _ _ _ (callN [] hcl rfl rfl rfl (by simp) (fun _ h => by cases h) rfl rfl rfl Lq ?_)) | (refine hKC _ _ _ _ _ (callK [2] hde rfl rfl rfl (by decide) (by simp) rfl (by simp only [push_cast, pick, mOf, idx, renSlot, ren_tCells, ren_sCells, ren_pCells]) (by simp only [push_cast, mOf, idx]; exact Lq) ?_)) | (refine hKC _ _ _ _ _ (callN [] hcs rfl rfl rfl (by simp) (fun _ h => by cases h) rfl rfl rfl Lq ?_))); simp (maxSteps := 9999999) only [push_cast, seval, ↓reduceIte, hn, hi', wi, hq, backOf, callSets, renSlot, pick, mOf, idx, ren_tCells, ren_sCells, ren_pCells]) | ((first | with_reducible refine hJ _ _ ?_ | (with_reducible refine hJ _ _ ?_ ?_; · kernel_rfl)); clear hJ hKC KC J) | ((with_reducible refine AWP_condF ?_ ?_); · rfl)
      refine AWP_loopD 5 (γ := {k : Nat // k ≤ q}) (fun k => ⟨[.any, .fad [.v (.int .i64 (i : Int))], .ptr 0 0 0, .ptr 1 0 0, .fn 242 [.fad [.v (.int .i64 (i : Int))]], .any, .any, .any, .any, .any, .any, .any, .any, .any, .any, .any, .any, .any, .any, .any, .any, .any, .any, .any, .any, .any, .any, .any, .any, .ref 2 0 q, .v (.int .i64 q), .v (.int .i64 k.1), .any, .any, .any, .any, .any, .any, .any, .any, .any, .any, .any, .any, .any, .any, .any, .any, .any, .any, .any, .any, .any, .any, .any, .any, .any, .any, .any, .any, .any, .any, .any, .any, .any, .any, .any, .any, .any, .any, .any, .any, .any, .any, .any, .any, .any], [.ent ⟨0, none, 39, [.v (.int .i64 s.v), .v (.int .i64 s.l), .ref 2 0 q, .sl false 2 (pRow s.mem), .ref 4 0 m, .sl false 2 (pRow s.out)], .cells⟩, .ent ⟨0, none, 39, [.v (.int .i64 0), .v (.int .i64 0), .v (.slice none 0 0), .v (.slice none 0 0), .v (.slice none 0 0), .v (.slice none 0 0)], .cells⟩, .ent ⟨0, some 3, 100, tCells (wC i R k.1), .cells⟩, .free, .ent ⟨0, some 3, 104, sCells (s.stack), .cells⟩]⟩) (fun k => q - k.1) ⟨0, by omega⟩ (fun k => rfl) (fun k => ?_) (fun k => rfl) ⟨?_, ?_⟩ ?_
      · refine clsd_all ?_
        simp only [List.map_cons, List.map_nil, renSlot, ren_tCells, ren_sCells]
        rfl
      · exact Lq
      · exact Fq
      rintro ⟨k, hk⟩
      dsimp only
      by_cases hlt : (k : Int) < (q : Int)
      · have hx : R[k]? = some R[k] := List.getElem?_eq_getElem (by omega)
        obtain ⟨x, hxx⟩ : ∃ x, R[k] = x := ⟨_, rfl⟩
        rw [hxx] at hx
        have hxw := wC_get (i := i) hx
        have hws := wC_succ (i := i) hx
        have hxb := hRb x (List.mem_of_getElem? hx)
        have hat := tCells_at hxw
        have hwl : (tCells (wC i R k)).length = q * 3 := by rw [tCells_length, wC_length, hRq]
        obtain ⟨o, v, l⟩ := x
        simp only at hat hxb
        by_cases h8 : o = 8
        · subst h8
          have hbf := mvBefore_fn i v hxb.1 hxb.2.1
          have e8 : befC i (8, v, l) = (8, befI i v, l) := rfl
          have hset := tC_set1 (befI i v) hxw
          rw [← e8, ← hws] at hset
          obtain ⟨L, hL⟩ : ∃ L, wC i R (k + 1) = L := ⟨_, rfl⟩
          rw [hL] at hset
          obtain ⟨L0, hL0⟩ : ∃ L, wC i R k = L := ⟨_, rfl⟩
          rw [hL0] at hset hat hwl ⊢
          repeat' first | (with_reducible first | refine AWP_seq' ?_ | refine k_normal ?_ | refine b_normal ?_ | refine AWP_skip ?_ | refine AWP_block ?_) | ((with_reducible refine And.intro ?_ ?_); · exact Sq) | ((first | with_reducible refine AWP_reg fun KC J hJ hKC => ?_ | with_reducible refine AWP_regD rfl fun KC J hJ hKC => ?_ | (refine hKC _ _ _ _ _ (callV0 (hbf) rfl rfl rfl ?_ ?_); (· exact Lq))); simp (maxSteps := 9999999) only [push_cast, seval, ↓reduceIte, hlt, hat, hwl, hset, backOf, callSets, renSlot, pick, mOf, idx, ren_tCells, ren_sCells, ren_pCells, wrapN (i := k) (n := q) (by omega) (by omega)]) | ((first | with_reducible refine hJ _ _ ?_ | (with_reducible refine hJ _ _ ?_ ?_; · kernel_rfl)); clear hJ hKC KC J) | ((with_reducible refine AWP_condT ?_ ?_); · rfl)
          refine ⟨⟨k + 1, by omega⟩, by simp only; omega, ?_, ?_⟩
          · exact Lq
          · simp only [hL]; exact ⟨_, rfl⟩
        · have h8' : (o == 8) = false := by simpa using h8
          have e8 : befC i (o, v, l) = (o, v, l) := if_neg h8
          have hsm : (wC i R k).set k (o, v, l) = wC i R k := by
            obtain ⟨h1, h2⟩ := List.getElem?_eq_some_iff.1 hxw
            rw [← h2]; exact List.set_getElem_self h1
          rw [e8, hsm] at hws
          obtain ⟨L0, hL0⟩ : ∃ L, wC i R k = L := ⟨_, rfl⟩
          rw [hL0] at hat hwl hws ⊢
          repeat' first | (with_reducible first | refine AWP_seq' ?_ | refine k_normal ?_ | refine b_normal ?_ | refine AWP_skip ?_ | refine AWP_block ?_) | ((with_reducible refine And.intro ?_ ?_); · exact Sq) | ((with_reducible refine AWP_reg fun KC J hJ hKC => ?_); simp (maxSteps := 9999999) only [push_cast, seval, ↓reduceIte, hlt, hat, hwl, h8', backOf, callSets, renSlot, pick, mOf, idx, ren_tCells, ren_sCells, ren_pCells, wrapN (i := k) (n := q) (by omega) (by omega)]) | ((with_reducible refine hJ _ _ ?_); clear hJ hKC KC J) | ((with_reducible refine AWP_condT ?_ ?_); · rfl) | ((with_reducible refine AWP_condF ?_ ?_); · rfl)
          refine ⟨⟨k + 1, by omega⟩, by simp only; omega, ?_, ?_⟩
          · exact Lq
          · simp only [hws]; exact ⟨_, rfl⟩
      have hkq : q = k := by omega
      subst hkq
      have hwe := wC_end (i := i) hRq
      rw [hwe]
      obtain ⟨RM, hRM⟩ : ∃ L, R.map (befC i) = L := ⟨_, rfl⟩
      have hRMk : RM.length = q := by rw [← hRM, List.length_map, hRq]
      rw [hRM]
      have hTC : (tCells RM).length = q * 3 := by rw [tCells_length, hRMk]
      have hTr : chunk 3 q (tCells RM) = tRow RM := by rw [← hRMk]; exact chunk_t RM
      repeat' first | (with_reducible first | refine AWP_seq' ?_ | refine k_normal ?_ | refine k_exit ?_ | refine b_exit ?_ | refine AWP_exit ?_ | refine AWP_block ?_) | ((with_reducible refine AWP_reg fun KC J hJ hKC => ?_); simp (maxSteps := 9999999) only [push_cast, seval, ↓reduceIte, hlt]) | ((with_reducible refine hJ _ _ ?_); clear hJ hKC KC J) | ((with_reducible refine AWP_condF ?_ ?_); · rfl)
      refine AWP_loopD 5 (γ := {k : Nat // k ≤ m}) (fun j => ⟨[.any, .fad [.v (.int .i64 (i : Int))], .ptr 0 0 0, .ptr 1 0 0, .fn 242 [.fad [.v (.int .i64 (i : Int))]], .any, .any, .any, .any, .any, .any, .any, .any, .any, .any, .any, .any, .any, .any, .any, .any, .any, .any, .any, .any, .any, .any, .any, .any, .any, .any, .any, .any, .any, .any, .any, .any, .any, .any, .any, .any, .any, .any, .any, .any, .any, .any, .any, .any, .any, .ref 4 0 m, .v (.int .i64 m), .v (.int .i64 j.1), .any, .any, .any, .any, .any, .any, .any, .any, .any, .any, .any, .any, .any, .any, .any, .any, .any, .any, .any, .any, .any, .any, .any, .any], [.ent ⟨0, none, 39, [.v (.int .i64 s.v), .v (.int .i64 s.l), .ref 2 0 q, .sl false 2 (pRow s.mem), .ref 4 0 m, .sl false 2 (pRow s.out)], .cells⟩, .ent ⟨0, none, 39, [.v (.int .i64 0), .v (.int .i64 0), .v (.slice none 0 0), .v (.slice none 0 0), .v (.slice none 0 0), .v (.slice none 0 0)], .cells⟩, .ent ⟨0, some 3, 100, tCells (RM), .cells⟩, .free, .ent ⟨0, some 3, 104, sCells (wS i s.stack j.1), .cells⟩]⟩) (fun j => m - j.1) ⟨0, by omega⟩ (fun k => rfl) (fun k => ?_) (fun k => rfl) ⟨?_, ?_⟩ ?_
      · refine clsd_all ?_
        simp only [List.map_cons, List.map_nil, renSlot, ren_tCells, ren_sCells]
        rfl
      · exact Lq
      · exact Fq
      rintro ⟨j, hj⟩
      dsimp only
      by_cases hlj : (j : Int) < (m : Int)
      · have hx : s.stack[j]? = some s.stack[j] := List.getElem?_eq_getElem (by omega)
        obtain ⟨x, hxx⟩ : ∃ x, s.stack[j] = x := ⟨_, rfl⟩
        rw [hxx] at hx
        have hxw := wS_get (i := i) hx
        have hws := wS_succ (i := i) hx
        have hxb := hs.stack x (List.mem_of_getElem? hx)
        have hat := sCells_at hxw
        have hwl : (sCells (wS i s.stack j)).length = m * 3 := by rw [sCells_length, wS_length, hm]
        obtain ⟨o, v, l⟩ := x
        simp only at hat hxb
        cases o
        case true =>
          have hbf := mvBefore_fn i v hxb.1 hxb.2.1
          have e8 : befS i (true, v, l) = (true, befI i v, l) := rfl
          have hset := sC_set1 (befI i v) hxw
          rw [← e8, ← hws] at hset
          obtain ⟨L, hL⟩ : ∃ L, wS i s.stack (j + 1) = L := ⟨_, rfl⟩
          rw [hL] at hset
          obtain ⟨L0, hL0⟩ : ∃ L, wS i s.stack j = L := ⟨_, rfl⟩
          rw [hL0] at hset hat hwl ⊢
          repeat' first | (with_reducible first | refine AWP_seq' ?_ | refine k_normal ?_ | refine b_normal ?_ | refine AWP_skip ?_ | refine AWP_block ?_) | ((with_reducible refine And.intro ?_ ?_); · exact Sq) | ((first | with_reducible refine AWP_reg fun KC J hJ hKC => ?_ | with_reducible refine AWP_regD rfl fun KC J hJ hKC => ?_ | (refine hKC _ _ _ _ _ (callV0 (hbf) rfl rfl rfl ?_ ?_); (· exact Lq))); simp (maxSteps := 9999999) only [push_cast, seval, ↓reduceIte, hlj, hat, hwl, hset, backOf, callSets, renSlot, pick, mOf, idx, ren_tCells, ren_sCells, ren_pCells, wrapN (i := j) (n := m) (by omega) (by omega)]) | ((first | with_reducible refine hJ _ _ ?_ | (with_reducible refine hJ _ _ ?_ ?_; · kernel_rfl)); clear hJ hKC KC J) | ((with_reducible refine AWP_condT ?_ ?_); · rfl)
          refine ⟨⟨j + 1, by omega⟩, by simp only; omega, ?_, ?_⟩
          · exact Lq
          · simp only [hL]; exact ⟨_, rfl⟩
        case false =>
          have e8 : befS i (false, v, l) = (false, v, l) := rfl
          have hsm : (wS i s.stack j).set j (false, v, l) = wS i s.stack j := by
            obtain ⟨h1, h2⟩ := List.getElem?_eq_some_iff.1 hxw
            rw [← h2]; exact List.set_getElem_self h1
          rw [e8, hsm] at hws
          obtain ⟨L0, hL0⟩ : ∃ L, wS i s.stack j = L := ⟨_, rfl⟩
          rw [hL0] at hat hwl hws ⊢
          repeat' first | (with_reducible first | refine AWP_seq' ?_ | refine k_normal ?_ | refine b_normal ?_ | refine AWP_skip ?_ | refine AWP_block ?_) | ((with_reducible refine And.intro ?_ ?_); · exact Sq) | ((with_reducible refine AWP_reg fun KC J hJ hKC => ?_); simp (maxSteps := 9999999) only [push_cast, seval, ↓reduceIte, hlj, hat, hwl, backOf, callSets, renSlot, pick, mOf, idx, ren_tCells, ren_sCells, ren_pCells, wrapN (i := j) (n := m) (by omega) (by omega)]) | ((with_reducible refine hJ _ _ ?_); clear hJ hKC KC J) | ((with_reducible refine AWP_condT ?_ ?_); · rfl) | ((with_reducible refine AWP_condF ?_ ?_); · rfl)
          refine ⟨⟨j + 1, by omega⟩, by simp only; omega, ?_, ?_⟩
          · exact Lq
          · simp only [hws]; exact ⟨_, rfl⟩
      have hjm : m = j := by omega
      subst hjm
      have hse := wS_end (i := i) hm
      rw [hse]
      obtain ⟨SM, hSM⟩ : ∃ L, s.stack.map (befS i) = L := ⟨_, rfl⟩
      have hSMk : SM.length = m := by rw [← hSM, List.length_map, hm]
      rw [hSM]
      have hSC : (sCells SM).length = m * 3 := by rw [sCells_length, hSMk]
      have hSr : chunk 3 m (sCells SM) = sRow SM := by rw [← hSMk]; exact chunk_s SM
      have hbp := mvBefore_fn i s.v hs.v0 hs.v1
      repeat' first | (refine AWP_freezeR 18 2 rfl (by (simp (maxSteps := 9999999) only [push_cast, seval, ↓reduceIte]) <;> rfl) ?_; simp (maxSteps := 9999999) only [push_cast, seval, ↓reduceIte, frSt, frSlot, fr3, fr2, fr1, fr0, sameB, arrOf, hlj, hTC, hTr, hSC, hSr, hbm, backOf, callSets, renSlot, pick, mOf, idx, ren_tCells, ren_sCells, ren_pCells]) | (refine AWP_freezeR 18 4 rfl (by (simp (maxSteps := 9999999) only [push_cast, seval, ↓reduceIte]) <;> rfl) ?_; simp (maxSteps := 9999999) only [push_cast, seval, ↓reduceIte, frSt, frSlot, fr3, fr2, fr1, fr0, sameB, arrOf, hlj, hTC, hTr, hSC, hSr, hbm, backOf, callSets, renSlot, pick, mOf, idx, ren_tCells, ren_sCells, ren_pCells]) | (with_reducible first | refine AWP_seq' ?_ | refine k_normal ?_ | refine k_exit ?_ | refine b_exit ?_ | refine AWP_ret ?_ | refine AWP_exit ?_) | ((first | with_reducible refine AWP_reg fun KC J hJ hKC => ?_ | (refine hKC _ _ _ _ _ (callV0 (hbp) rfl rfl rfl ?_ ?_); (· exact Lq))); simp (maxSteps := 9999999) only [push_cast, seval, ↓reduceIte, hlj, hTC, hTr, hSC, hSr, hbm, backOf, callSets, renSlot, pick, mOf, idx, ren_tCells, ren_sCells, ren_pCells]) | ((with_reducible refine hJ _ _ ?_); clear hJ hKC KC J) | ((with_reducible refine AWP_condF ?_ ?_); · rfl)
      refine ret_plain ?_
      simp (maxSteps := 9999999) only [push_cast, seval, ↓reduceIte, show Tryz.f241.results = #[(.cell 3 39)] from rfl]
      exact Lq
    · have he : s.stack = [] := List.length_eq_zero_iff.1 (by omega)
      have hcs := clS_nil false
      have hm0 : True := trivial
      rw [he]
      simp only [show sRow [] = [] from rfl, List.map_nil]
      refine Fn.post ?_ (Rle.agg (RleF.cons (Rle.refl _) (RleF.cons (Rle.refl _) (RleF.cons (Rle.refl _) (RleF.cons (Rle.refl _) (RleF.cons (Rle.full 3 []) (RleF.refl _)))))))
      refine Fn.of (fn := Tryz.f241) (by kernel_rfl) rfl (by kernel_rfl) ⟨[.agg [.v (.int .i64 s.v), .v (.int .i64 s.l), .sl false 3 (tRow s.code), .sl false 2 (pRow s.mem), .sl false 3 [], .sl false 2 (pRow s.out)], .fad [.v (.int .i64 (i : Int))], .v undef, .v undef, .v undef, .v undef, .v undef, .v undef, .v undef, .v undef, .v undef, .v undef, .v undef, .v undef, .v undef, .v undef, .v undef, .v undef, .v undef, .v undef, .v undef, .v undef, .v undef, .v undef, .v undef, .v undef, .v undef, .v undef, .v undef, .v undef, .v undef, .v undef, .v undef, .v undef, .v undef, .v undef, .v undef, .v undef, .v undef, .v undef, .v undef, .v undef, .v undef, .v undef, .v undef, .v undef, .v undef, .v undef, .v undef, .v undef, .v undef, .v undef, .v undef, .v undef, .v undef, .v undef, .v undef, .v undef, .v undef, .v undef, .v undef, .v undef, .v undef, .v undef, .v undef, .v undef, .v undef, .v undef, .v undef, .v undef, .v undef, .v undef, .v undef, .v undef, .v undef, .v undef, .v undef], []⟩ rfl ?_
      repeat' first | (with_reducible first | refine AWP_seq' ?_ | refine k_normal ?_ | refine AWP_skip ?_ | refine AWP_block ?_) | ((first | with_reducible refine AWP_reg fun KC J hJ hKC => ?_ | with_reducible refine AWP_regD rfl fun KC J hJ hKC => ?_ | (refine hKC _ _ _ _ _ (callN [] hcl rfl rfl rfl (by simp) (fun _ h => by cases h) rfl rfl rfl Lq ?_)) | (refine hKC _ _ _ _ _ (callK [2] hde rfl rfl rfl (by decide) (by simp) rfl (by simp only [push_cast, pick, mOf, idx, renSlot, ren_tCells, ren_sCells, ren_pCells]) (by simp only [push_cast, mOf, idx]; exact Lq) ?_)) | (refine hKC _ _ _ _ _ (callV0 (hcs) rfl rfl rfl ?_ ?_); (· exact Lq))); simp (maxSteps := 9999999) only [push_cast, seval, ↓reduceIte, hn, hi', wi, hq, backOf, callSets, renSlot, pick, mOf, idx, ren_tCells, ren_sCells, ren_pCells]) | ((first | with_reducible refine hJ _ _ ?_ | (with_reducible refine hJ _ _ ?_ ?_; · kernel_rfl)); clear hJ hKC KC J) | ((with_reducible refine AWP_condF ?_ ?_); · rfl)
      refine AWP_loopD 5 (γ := {k : Nat // k ≤ q}) (fun k => ⟨[.any, .fad [.v (.int .i64 (i : Int))], .ptr 0 0 0, .ptr 1 0 0, .fn 242 [.fad [.v (.int .i64 (i : Int))]], .any, .any, .any, .any, .any, .any, .any, .any, .any, .any, .any, .any, .any, .any, .any, .any, .any, .any, .any, .any, .any, .any, .any, .any, .ref 2 0 q, .v (.int .i64 q), .v (.int .i64 k.1), .any, .any, .any, .any, .any, .any, .any, .any, .any, .any, .any, .any, .any, .any, .any, .any, .any, .any, .any, .any, .any, .any, .any, .any, .any, .any, .any, .any, .any, .any, .any, .any, .any, .any, .any, .any, .any, .any, .any, .any, .any, .any, .any, .any, .any], [.ent ⟨0, none, 39, [.v (.int .i64 s.v), .v (.int .i64 s.l), .ref 2 0 q, .sl false 2 (pRow s.mem), .sl true 3 [], .sl false 2 (pRow s.out)], .cells⟩, .ent ⟨0, none, 39, [.v (.int .i64 0), .v (.int .i64 0), .v (.slice none 0 0), .v (.slice none 0 0), .v (.slice none 0 0), .v (.slice none 0 0)], .cells⟩, .ent ⟨0, some 3, 100, tCells (wC i R k.1), .cells⟩, .free, .free]⟩) (fun k => q - k.1) ⟨0, by omega⟩ (fun k => rfl) (fun k => ?_) (fun k => rfl) ⟨?_, ?_⟩ ?_
      · refine clsd_all ?_
        simp only [List.map_cons, List.map_nil, renSlot, ren_tCells, ren_sCells]
        rfl
      · exact Lq
      · exact Fq
      rintro ⟨k, hk⟩
      dsimp only
      by_cases hlt : (k : Int) < (q : Int)
      · have hx : R[k]? = some R[k] := List.getElem?_eq_getElem (by omega)
        obtain ⟨x, hxx⟩ : ∃ x, R[k] = x := ⟨_, rfl⟩
        rw [hxx] at hx
        have hxw := wC_get (i := i) hx
        have hws := wC_succ (i := i) hx
        have hxb := hRb x (List.mem_of_getElem? hx)
        have hat := tCells_at hxw
        have hwl : (tCells (wC i R k)).length = q * 3 := by rw [tCells_length, wC_length, hRq]
        obtain ⟨o, v, l⟩ := x
        simp only at hat hxb
        by_cases h8 : o = 8
        · subst h8
          have hbf := mvBefore_fn i v hxb.1 hxb.2.1
          have e8 : befC i (8, v, l) = (8, befI i v, l) := rfl
          have hset := tC_set1 (befI i v) hxw
          rw [← e8, ← hws] at hset
          obtain ⟨L, hL⟩ : ∃ L, wC i R (k + 1) = L := ⟨_, rfl⟩
          rw [hL] at hset
          obtain ⟨L0, hL0⟩ : ∃ L, wC i R k = L := ⟨_, rfl⟩
          rw [hL0] at hset hat hwl ⊢
          repeat' first | (with_reducible first | refine AWP_seq' ?_ | refine k_normal ?_ | refine b_normal ?_ | refine AWP_skip ?_ | refine AWP_block ?_) | ((with_reducible refine And.intro ?_ ?_); · exact Sq) | ((first | with_reducible refine AWP_reg fun KC J hJ hKC => ?_ | with_reducible refine AWP_regD rfl fun KC J hJ hKC => ?_ | (refine hKC _ _ _ _ _ (callV0 (hbf) rfl rfl rfl ?_ ?_); (· exact Lq))); simp (maxSteps := 9999999) only [push_cast, seval, ↓reduceIte, hlt, hat, hwl, hset, backOf, callSets, renSlot, pick, mOf, idx, ren_tCells, ren_sCells, ren_pCells, wrapN (i := k) (n := q) (by omega) (by omega)]) | ((first | with_reducible refine hJ _ _ ?_ | (with_reducible refine hJ _ _ ?_ ?_; · kernel_rfl)); clear hJ hKC KC J) | ((with_reducible refine AWP_condT ?_ ?_); · rfl)
          refine ⟨⟨k + 1, by omega⟩, by simp only; omega, ?_, ?_⟩
          · exact Lq
          · simp only [hL]; exact ⟨_, rfl⟩
        · have h8' : (o == 8) = false := by simpa using h8
          have e8 : befC i (o, v, l) = (o, v, l) := if_neg h8
          have hsm : (wC i R k).set k (o, v, l) = wC i R k := by
            obtain ⟨h1, h2⟩ := List.getElem?_eq_some_iff.1 hxw
            rw [← h2]; exact List.set_getElem_self h1
          rw [e8, hsm] at hws
          obtain ⟨L0, hL0⟩ : ∃ L, wC i R k = L := ⟨_, rfl⟩
          rw [hL0] at hat hwl hws ⊢
          repeat' first | (with_reducible first | refine AWP_seq' ?_ | refine k_normal ?_ | refine b_normal ?_ | refine AWP_skip ?_ | refine AWP_block ?_) | ((with_reducible refine And.intro ?_ ?_); · exact Sq) | ((with_reducible refine AWP_reg fun KC J hJ hKC => ?_); simp (maxSteps := 9999999) only [push_cast, seval, ↓reduceIte, hlt, hat, hwl, h8', backOf, callSets, renSlot, pick, mOf, idx, ren_tCells, ren_sCells, ren_pCells, wrapN (i := k) (n := q) (by omega) (by omega)]) | ((with_reducible refine hJ _ _ ?_); clear hJ hKC KC J) | ((with_reducible refine AWP_condT ?_ ?_); · rfl) | ((with_reducible refine AWP_condF ?_ ?_); · rfl)
          refine ⟨⟨k + 1, by omega⟩, by simp only; omega, ?_, ?_⟩
          · exact Lq
          · simp only [hws]; exact ⟨_, rfl⟩
      have hkq : q = k := by omega
      subst hkq
      have hwe := wC_end (i := i) hRq
      rw [hwe]
      obtain ⟨RM, hRM⟩ : ∃ L, R.map (befC i) = L := ⟨_, rfl⟩
      have hRMk : RM.length = q := by rw [← hRM, List.length_map, hRq]
      rw [hRM]
      have hTC : (tCells RM).length = q * 3 := by rw [tCells_length, hRMk]
      have hTr : chunk 3 q (tCells RM) = tRow RM := by rw [← hRMk]; exact chunk_t RM
      repeat' first | (with_reducible first | refine AWP_seq' ?_ | refine k_normal ?_ | refine k_exit ?_ | refine b_exit ?_ | refine AWP_exit ?_ | refine AWP_block ?_) | ((with_reducible refine AWP_reg fun KC J hJ hKC => ?_); simp (maxSteps := 9999999) only [push_cast, seval, ↓reduceIte, hlt]) | ((with_reducible refine hJ _ _ ?_); clear hJ hKC KC J) | ((with_reducible refine AWP_condF ?_ ?_); · rfl)
      refine AWP_loopD 5 (γ := Unit) (fun _ => ⟨[.any, .fad [.v (.int .i64 (i : Int))], .ptr 0 0 0, .ptr 1 0 0, .fn 242 [.fad [.v (.int .i64 (i : Int))]], .any, .any, .any, .any, .any, .any, .any, .any, .any, .any, .any, .any, .any, .any, .any, .any, .any, .any, .any, .any, .any, .any, .any, .any, .any, .any, .any, .any, .any, .any, .any, .any, .any, .any, .any, .any, .any, .any, .any, .any, .any, .any, .any, .any, .any, .sl true 3 [], .v (.int .i64 0), .v (.int .i64 0), .any, .any, .any, .any, .any, .any, .any, .any, .any, .any, .any, .any, .any, .any, .any, .any, .any, .any, .any, .any, .any, .any, .any, .any], [.ent ⟨0, none, 39, [.v (.int .i64 s.v), .v (.int .i64 s.l), .ref 2 0 q, .sl false 2 (pRow s.mem), .sl true 3 [], .sl false 2 (pRow s.out)], .cells⟩, .ent ⟨0, none, 39, [.v (.int .i64 0), .v (.int .i64 0), .v (.slice none 0 0), .v (.slice none 0 0), .v (.slice none 0 0), .v (.slice none 0 0)], .cells⟩, .ent ⟨0, some 3, 100, tCells (RM), .cells⟩, .free, .free]⟩) (fun _ => 0) () (fun k => rfl) (fun k => ?_) (fun k => rfl) ⟨?_, ?_⟩ ?_
      · refine clsd_all ?_
        simp only [List.map_cons, List.map_nil, renSlot, ren_tCells, ren_sCells]
        rfl
      · exact Lq
      · exact Fq
      intro _
      have hbp := mvBefore_fn i s.v hs.v0 hs.v1
      repeat' first | (refine AWP_freezeR 18 2 rfl (by (simp (maxSteps := 9999999) only [push_cast, seval, ↓reduceIte]) <;> rfl) ?_; simp (maxSteps := 9999999) only [push_cast, seval, ↓reduceIte, frSt, frSlot, fr3, fr2, fr1, fr0, sameB, arrOf, hTC, hTr, hbm, backOf, callSets, renSlot, pick, mOf, idx, ren_tCells, ren_sCells, ren_pCells]) | (with_reducible first | refine AWP_seq' ?_ | refine k_normal ?_ | refine k_exit ?_ | refine b_exit ?_ | refine AWP_ret ?_ | refine AWP_exit ?_) | ((first | with_reducible refine AWP_reg fun KC J hJ hKC => ?_ | (refine hKC _ _ _ _ _ (callV0 (hbp) rfl rfl rfl ?_ ?_); (· exact Lq))); simp (maxSteps := 9999999) only [push_cast, seval, ↓reduceIte, hTC, hTr, hbm, backOf, callSets, renSlot, pick, mOf, idx, ren_tCells, ren_sCells, ren_pCells]) | ((with_reducible refine hJ _ _ ?_); clear hJ hKC KC J) | ((with_reducible refine AWP_condF ?_ ?_); · rfl)
      refine ret_plain ?_
      simp (maxSteps := 9999999) only [push_cast, seval, ↓reduceIte, show Tryz.f241.results = #[(.cell 3 39)] from rfl]
      exact Lq
  · have hi' : ((s.code.length : Int) ≤ (i : Int)) = True := by simp; omega
    rw [if_neg hi]
    refine Fn.of (fn := Tryz.f241) (by kernel_rfl) rfl (by kernel_rfl) ⟨[.agg [.v (.int .i64 s.v), .v (.int .i64 s.l), .sl false 3 (tRow s.code), .sl false 2 (pRow s.mem), .sl false 3 (sRow s.stack), .sl false 2 (pRow s.out)], .fad [.v (.int .i64 (i : Int))], .v undef, .v undef, .v undef, .v undef, .v undef, .v undef, .v undef, .v undef, .v undef, .v undef, .v undef, .v undef, .v undef, .v undef, .v undef, .v undef, .v undef, .v undef, .v undef, .v undef, .v undef, .v undef, .v undef, .v undef, .v undef, .v undef, .v undef, .v undef, .v undef, .v undef, .v undef, .v undef, .v undef, .v undef, .v undef, .v undef, .v undef, .v undef, .v undef, .v undef, .v undef, .v undef, .v undef, .v undef, .v undef, .v undef, .v undef, .v undef, .v undef, .v undef, .v undef, .v undef, .v undef, .v undef, .v undef, .v undef, .v undef, .v undef, .v undef, .v undef, .v undef, .v undef, .v undef, .v undef, .v undef, .v undef, .v undef, .v undef, .v undef, .v undef, .v undef, .v undef, .v undef, .v undef, .v undef], []⟩ rfl ?_
    repeat' first | (with_reducible first | refine AWP_seq' ?_ | refine k_normal ?_ | refine k_ret ?_ | refine AWP_ret ?_) | ((with_reducible refine AWP_reg fun KC J hJ hKC => ?_); simp (maxSteps := 9999999) only [push_cast, seval, ↓reduceIte, hi', ge_iff_le]) | ((with_reducible refine hJ _ _ ?_); clear hJ hKC KC J) | ((with_reducible refine AWP_condT ?_ ?_); · rfl)
    refine ret_plain ?_
    simp (maxSteps := 9999999) only [push_cast, seval, ↓reduceIte, show Tryz.f241.results = #[(.cell 3 39)] from rfl]
    exact Lq
end Go.Proofs.YtabliglgeiajlaaGreat.AM

namespace Go.Proofs.YtabliglgeiajlaaGreat.AM
open Go Go.RowKit Go.Proofs
def WeakU (σu s t : List Slot) : Prop := ∃ ks : List Nat, ks.Nodup ∧ (∀ k g, used σu k g → ks[k]? = some k) ∧ leS (pick ks s) t
theorem Rel.weakU {B : Base} {s : St} {a : Act} {w : World} {σu t : List Slot} (h : Rel B s a w) (hw : WeakU σu s.σ t) (hn : ∀ k g, used B.σ0 k g → used σu k g) : ∃ fr, Rel B ⟨fr, t⟩ a w := by
  obtain ⟨ks, h1, h2, h3⟩ := hw
  exact ⟨_, (h.pick h1 (fun k g hk => h2 k g (hn k g hk))).le (t := ⟨s.fr.map (ren (mOf ks)), t⟩) (leF_refl _) h3⟩
theorem Yld.ofU {P : Program} {kk : Nat} {args : List D} {ext : List Slot} {b : Bool} {out : List Slot} {fr : List D} {r : Loop} (hk : ext[kk]? = some (recS fr r)) (hready : r.state = .ready) (hps : r.params.size = args.length)
    (fr1 : List D) (hassign : ∀ l, AWP P (some l) r.assign ⟨setsP fr (r.params.toList.zip args), ext⟩ (fun e s => e = .normal ∧ s = ⟨fr1, ext⟩))
    (ks : List Nat) (slot : Nat) (hn : (ks ++ [slot]).Nodup) (hkk : kk ∉ ks) (hks : ∀ k ∈ ks, k < ext.length)
    (σu : List Slot) (hσu : pick ks (ext.set kk (recS fr { r with state := .busy })) = σu) (fr2 : List D) (hfr2 : fr1.map (ren (mOf ks)) = fr2)
    (hbody : ∀ l, AWP P (some l) r.body ⟨fr2, σu⟩ (fun e s => ∃ σv jump, WeakU σu s.σ σv ∧ σv.length = ks.length ∧ exitJump e = some jump ∧ jump.isNone = b ∧
      (setsF (ext.set kk (recS fr { r with state := .busy })) (callSets (ks ++ [slot]) σv))[kk]? = some (recS fr { r with state := .busy }) ∧
      out = (setsF (ext.set kk (recS fr { r with state := .busy })) (callSets (ks ++ [slot]) σv)).set kk (recS fr (afterRound r jump)))) : Yld P kk args ext b out := by
  intro N0 ρ w vs hp hvs hrep
  obtain ⟨cs, hl, hsz, hcs, hturn⟩ := hp.recOf hk
  refine ⟨_, _, _, _, run_yield hl (by rw [hvs]; exact hps.symm), ?_⟩
  have hkkl : kk < ext.length := (List.getElem?_eq_some_iff.1 hk).1
  refine roundIn_of_wpIn trivial ?_
  have hfr : FrOk (base0 w N0 ext ρ) ⟨setsP fr (r.params.toList.zip args), ext⟩ ρ ((r.params.zip vs).foldl (fun tmps (t, a) => tmps.setIfInBounds t a) cs) w := by
    have h := FrOk.setsP (B := base0 w N0 ext ρ) (σ := ext) (ρ := ρ) (w := w) (r.params.toList.zip vs.toList) (fr := fr) (tmps := cs) args ⟨hsz.symm, hcs⟩ (by simp [hvs, hps]) (fun j d p h1 h2 => by
      rw [List.getElem?_zip_eq_some] at h2
      exact hrep j d p.2 h1 (by simpa using h2.2))
    rw [List.map_fst_zip (by simp [hvs, hps])] at h
    rw [← Array.foldl_toList, Array.toList_zip]
    exact h
  refine hassign (ρ kk).1 (base0 w N0 ext ρ) _ w ⟨ρ, hp, hfr, [], rfl, List.nodup_nil, fun D hD => by cases hD⟩ _ (fun e st' a1 w1 hK hr1 => ?_)
  obtain ⟨rfl, rfl⟩ := hK
  obtain ⟨ρ1, hp1, hfr1, Ds, hDs, hnd, hDm⟩ := hr1
  obtain ⟨cs1, hl1, _, _, hturn1⟩ := hp1.recOf hk
  have hat1 : ρ1 kk = ρ kk := hp1.at hk hk rfl
  rw [hat1] at hl1 hturn1
  refine ⟨_, run_beginRound hl1 hready, ?_⟩
  obtain ⟨m1, hp2⟩ := hturn1 { r with state := .busy }
  have hnks : ks.Nodup := (List.nodup_append.1 hn).1
  obtain ⟨hcp, T⟩ := hand hp2 hnks
  generalize hw2 : w1.putObj (ρ kk).1 (.loop { ({ r with state := .busy } : Loop) with tmps := cs1 }) = w2 at m1 hp2 hcp T
  show r.body.wpIn (FW (some (ρ kk).1)) 0 P _ a1 w2
  let B2 : Base := { base0 w2 (hideN (base0 w N0 ext ρ) (ext.set kk (recS fr { r with state := .busy })) ρ1 ks) (pick ks (ext.set kk (recS fr { r with state := .busy }))) (pickρ ks ρ1) with m0 := 0 }
  have hcp' : Hp B2 (pick ks (ext.set kk (recS fr { r with state := .busy }))) (pickρ ks ρ1) w2 := ⟨hcp.ent, hcp.inj, hcp.nf, hcp.own, hcp.size, hcp.os, hcp.tape, hcp.output, hcp.base, hcp.n0, Nat.zero_le _, hcp.hist⟩
  have hdef : ∀ D ∈ Ds, w2.heap[D]? = some (.deferred (some [])) := fun D hD => by
    have h1 := (hDm D hD).2
    rw [← hw2, World.putObj_heap_other (by rintro rfl; rw [hl1] at h1; cases h1)]
    exact h1
  subst hσu
  subst hfr2
  refine hbody (ρ kk).1 B2 a1 w2 ⟨pickρ ks ρ1, hcp', ⟨by simpa using hfr1.1, fun t d hd => ?_⟩, Ds, hDs, hnd, fun D hD => ⟨Nat.zero_le _, hdef D hD⟩⟩ _ (fun e st' a3 w3 hK hr3 => ?_)
  · obtain ⟨d0, hd0, rfl⟩ := map_get hd
    obtain ⟨u, h1, h2⟩ := hfr1.2 t d0 hd0
    exact ⟨u, h1, T.ren (m1.rp h2)⟩
  · obtain ⟨σv, jump, hweak, hlen, hej, hb, hrec, hout⟩ := hK
    obtain ⟨fr3, ρ3, hp3, _, _⟩ := hr3.weakU hweak (fun k g hu => hu)
    have hp3' : Hp (base0 w2 (hideN (base0 w N0 ext ρ) (ext.set kk (recS fr { r with state := .busy })) ρ1 ks) (pick ks (ext.set kk (recS fr { r with state := .busy }))) (pickρ ks ρ1)) σv ρ3 w3 :=
      ⟨hp3.ent, hp3.inj, hp3.nf, hp3.own, hp3.size, hp3.os, hp3.tape, hp3.output, hp3.base, hp3.n0, Nat.le_refl _, hp3.hist⟩
    obtain ⟨_, hp4, _⟩ := back hp2 hn (by simpa using hks) (.inl (by omega)) (by omega) (by omega) hp3'
    obtain ⟨cs4, hl4, _, _, hturn4⟩ := hp4.recOf hrec
    have hat4 := hp4.at hk hrec rfl
    have hat4' : (callρ (ks ++ [slot]) σv.length ρ1 ρ3 kk) = ρ kk := hat4
    rw [hat4'] at hl4 hturn4
    have hend := run_endRound (P := P) jump hl4
    obtain ⟨_, hp5⟩ := hturn4 (afterRound r jump)
    rw [← hout] at hp5
    have hfin : ∃ v w', (Instr.endRound (ρ kk).1 jump).run P w3 = .ok v w' ∧ (∃ v' ρ', Ending.returned v = .returned v' ∧ Hp (base0 w N0 ext ρ) out ρ' w' ∧ Rp (base0 w N0 ext ρ) out ρ' w' (.v (.bool b)) v') :=
      ⟨_, _, hend, _, _, rfl, hp5, by rw [hb]; exact .fro _ _ (.v _)⟩
    cases e with
    | normal => cases hej; exact hfin
    | ret => cases hej; exact hfin
    | exit id => cases hej; exact hfin
    | goto t => cases hej
    | panic c => cases hej
    | outgrown => cases hej
theorem AWP_rangeU {P : Program} {st : St} {K : Exit → St → Prop} {g : Operand} {ps : Array Tmp} {assign body : Code} {f : Nat} {caps : List D} {n : Nat} {el : Nat → List D} (hg : st.eval g = .fn f caps) (hcaps : frz0All caps = true) (hit : ItFn P f caps n el)
    (hps : ∀ i, i < n → ps.size = (el i).length) (m : Nat) (hm : st.σ.length = m) (hfr : st.fr.map (ren (mOf (List.range (m + 1)))) = st.fr)
    (σs : Nat → List Slot) (hs0 : σs 0 = st.σ) (hsl : ∀ i, (σs i).length = m) (hsc : ∀ i, (σs i).map (renSlot (mOf (List.range (m + 1)))) = σs i) (hsc' : ∀ i, Clsd (σs i))
    (ok : Nat → Bool) (jmp : Exit) (jc : Code) (hj : exitJump jmp = some (some jc))
    (fr1 : Nat → List D) (hassign : ∀ l i r, i < n → AWP P (some l) assign ⟨setsP st.fr (ps.toList.zip (el i)), σs i ++ [recS st.fr r]⟩ (fun e s => e = .normal ∧ s = ⟨fr1 i, σs i ++ [recS st.fr r]⟩))
    (hfr1 : ∀ i, (fr1 i).map (ren (mOf (List.range m))) = fr1 i)
    (hbody : ∀ l i, i < n → (∀ j, j < i → ok j = true) → AWP P (some l) body ⟨fr1 i, σs i⟩ (fun e s => WeakU (σs i) s.σ (σs (i + 1)) ∧ e = if ok i = true then .normal else jmp))
    (hdone : (∀ j, j < n → ok j = true) → K .normal ⟨st.fr, σs n ++ [.dead]⟩)
    (hstop : ∀ k, k < n → ok k = false → (∀ j, j < k → ok j = true) → K jmp ⟨st.fr, σs (k + 1) ++ [.dead]⟩) : AWP P none (.rangeFunc g ps assign body) st K := by
  refine AWP_rangeFunc hg fun r h1 h2 h3 h4 h5 => ?_
  rw [hm]
  let rr : Nat → Loop := fun i => match i with | 0 => r | i + 1 => if ok i = true then r else afterRound r (some jc)
  let inv : Nat → List Slot := fun i => σs i ++ [recS st.fr (rr i)]
  have hcl : ∀ i, Clsd (inv i) := fun i => clsd_snoc (by rw [hsl]; exact hsc i) (by rw [hsl]; exact hfr)
  have hlen : ∀ i, (inv i).length = m + 1 := fun i => by simp [inv, hsl]
  have hrec : ∀ i, (inv i)[m]? = some (recS st.fr (rr i)) := fun i => by
    show (σs i ++ [recS st.fr (rr i)])[m]? = _
    rw [List.getElem?_append_right (by rw [hsl]; exact Nat.le_refl _), hsl]
    simp
  have hinv0 : pick (List.range (m + 1)) (st.σ ++ [recS st.fr r]) = inv 0 := by
    have := hcl 0
    unfold Clsd at this
    rw [hlen] at this
    rw [← hs0]
    exact this
  have hy : ∀ i, i < n → (∀ j, j < i → ok j = true) → Yld P m (el i) (inv i) (ok i) (inv (i + 1)) := by
    intro i hi hok
    have hri : rr i = r := by
      cases i with
      | zero => rfl
      | succ i => show (if ok i = true then r else _) = r; rw [if_pos (hok i (by omega))]
    have hset : ∀ b : Slot, (inv i).set m b = σs i ++ [b] := fun b => set_snoc (hsl i)
    have hpick : pick (List.range m) ((inv i).set m (recS st.fr { r with state := .busy })) = σs i := by
      rw [hset]
      have := hsc' i
      unfold Clsd at this
      rw [hsl] at this
      have h9 := pick_range_append (ext := σs i) (rest := [recS st.fr { r with state := .busy }])
      rw [hsl] at h9
      rw [h9]; exact this
    have hcs : ∀ b : Slot, setsF ((inv i).set m b) (callSets (List.range m ++ [m + 1]) (σs (i + 1))) = σs (i + 1) ++ [b] := by
      intro b
      have h9 := callSets_closed (s := m + 1) (hsc' (i + 1))
      rw [hsl] at h9
      rw [hset, h9]
      have h10 := setsF_pre (ext := σs i) (rest := [b]) (out := σs (i + 1)) (by rw [hsl, hsl])
      rw [hsl] at h10
      exact h10
    refine Yld.ofU (kk := m) (fr := st.fr) (r := r) (by rw [hrec, hri]) h1 (by rw [h3]; exact hps i hi) (fr1 i) (fun l => ?_) (List.range m) (m + 1) (nodup_range1 (by omega)) (by simp) (by rw [hlen]; simp; omega) (σs i) hpick (fr1 i) (hfr1 i) (fun l => ?_)
    · rw [h3, h4]
      show AWP P (some l) assign ⟨_, σs i ++ [recS st.fr (rr i)]⟩ _
      rw [hri]
      have := hassign l i r hi
      show AWP P (some l) assign _ (fun e s => e = .normal ∧ s = ⟨fr1 i, σs i ++ [recS st.fr (rr i)]⟩)
      rw [hri]
      exact this
    · rw [h5]
      refine (hbody l i hi hok).mono fun e s hs => ?_
      obtain ⟨hw, he⟩ := hs
      refine ⟨σs (i + 1), if ok i = true then none else some jc, hw, by rw [hsl]; simp, ?_, ?_, ?_, ?_⟩
      · rw [he]
        by_cases h : ok i = true
        · rw [if_pos h, if_pos h]; rfl
        · rw [if_neg h, if_neg h]; exact hj
      · cases ok i <;> rfl
      · rw [hcs, List.getElem?_append_right (by rw [hsl]; exact Nat.le_refl _), hsl]; simp
      · rw [hcs, set_snoc (hsl (i + 1))]
        show σs (i + 1) ++ [recS st.fr (if ok i = true then r else afterRound r (some jc))] = _
        by_cases h : ok i = true
        · rw [if_pos h, if_pos h, after_none h1 h2]
        · rw [if_neg h, if_neg h]
  have hargs : (D.kref false m 0 :: caps).map (ren (mOf (List.range (m + 1)))) = .kref false m 0 :: caps := by
    rw [List.map_cons, map_frz0 (fun d hd => ren_frz0 hd) hcaps]
    congr 1
    show ren0 (mOf (List.range (m + 1))) (.kref false m 0) = _
    simp only [ren0, mOf_range]
    rw [if_pos (by omega)]
  have hfin : ∀ k, setsF (st.σ ++ [recS st.fr r]) (callSets (List.range (m + 1) ++ [m + 1]) (inv k)) = inv k := by
    intro k
    have h9 := callSets_closed (s := m + 1) (hcl k)
    rw [hlen] at h9
    rw [h9]
    have h10 := setsF_self (s := st.σ ++ [recS st.fr r]) (t := inv k) (by rw [hlen]; simp [hm])
    rw [hlen] at h10
    exact h10
  have hdec := ok_dec n ok
  rcases hdec with hall | ⟨s, hs, hsf, hsb⟩
  · refine ⟨.any, inv n, st.fr, rr n, ?_, hlen n, by rw [hfin]; exact hrec n, ?_, .normal, ?_, ?_⟩
    · rw [hargs, hinv0]
      exact hit m inv ok (fun _ => st.fr) rr hrec hcl hlen hy n (.inl ⟨rfl, hall⟩)
    · have : rr n = r := by
        cases n with
        | zero => rfl
        | succ n => show (if ok n = true then r else _) = r; rw [if_pos (hall n (by omega))]
      rw [this, h1]; simp
    · have : rr n = r := by
        cases n with
        | zero => rfl
        | succ n => show (if ok n = true then r else _) = r; rw [if_pos (hall n (by omega))]
      rw [this, h2]; rfl
    · rw [hfin]
      show K .normal ⟨st.fr, (σs n ++ [recS st.fr (rr n)]).set m .dead⟩
      rw [set_snoc (hsl n)]
      exact hdone hall
  · have hrs : rr (s + 1) = afterRound r (some jc) := by show (if ok s = true then r else _) = _; rw [hsf]; simp
    refine ⟨.any, inv (s + 1), st.fr, rr (s + 1), ?_, hlen _, by rw [hfin]; exact hrec _, ?_, jmp, ?_, ?_⟩
    · rw [hargs, hinv0]
      exact hit m inv ok (fun _ => st.fr) rr hrec hcl hlen hy (s + 1) (.inr ⟨s, hs, rfl, hsf, hsb⟩)
    · rw [hrs]; simp [afterRound]
    · rw [hrs, hj]; rfl
    · rw [hfin]
      show K jmp ⟨st.fr, (σs (s + 1) ++ [recS st.fr (rr (s + 1))]).set m .dead⟩
      rw [set_snoc (hsl _)]
      exact hstop s hs hsf hsb
section
variable {P : Program} {ro : Option Nat} {st : St} {K : Exit → St → Prop}
theorem AWP_loopK0 {γ : Type} {c : Code} (inv : γ → St) (m : γ → Nat) (g0 : γ)
    (round : ∀ g, AWP P ro c (inv g) (thenK (fun s' => ∃ g', m g' < m g ∧ Weak (inv g0).σ.length s' (inv g')) K)) : AWP P ro (.loop c) (inv g0) K := fun B a w hr Q hQ => by
  intro b k cs hro hb hrm
  have hlt := hr.used_lt
  have key : ∀ j g a w, m g = j → Rel B (inv g) a w →
      ∃ e a' w', Q e a' w' ∧ ArrivesIn (Machine.fenced P (FW ro)) P (lone (b.atR a (.code c :: .inLoop c :: k)) cs w) b k cs e a' w' := by
    intro j
    induction j using Nat.strongRecOn with
    | _ j ih =>
      intro g a w hj hrel
      have hw := round g B a w hrel (fun e a' w' => (e = .normal ∧ ∃ g', m g' < m g ∧ Rel B (inv g') a' w') ∨ (e ≠ .normal ∧ Q e a' w')) (fun e st' a' w' hK hr' => by
        cases e with
        | normal => obtain ⟨g', hg, hI'⟩ := hK; exact .inl ⟨rfl, g', hg, hr'.weak hI' hlt⟩
        | exit id => exact .inr ⟨by simp, hQ _ _ _ _ hK hr'⟩
        | goto l => exact .inr ⟨by simp, hQ _ _ _ _ hK hr'⟩
        | ret => exact .inr ⟨by simp, hQ _ _ _ _ hK hr'⟩
        | panic c => exact .inr ⟨by simp, hQ _ _ _ _ hK hr'⟩
        | outgrown => exact .inr ⟨by simp, hQ _ _ _ _ hK hr'⟩)
      obtain ⟨e, a₁, w₁, hq, harr⟩ := hw b (.inLoop c :: k) cs hro hb hrm
      rcases hq with ⟨rfl, g', hg, hr'⟩ | ⟨hne, hq⟩
      · obtain ⟨e₂, a₂, w₂, hq₂, harr₂⟩ := ih (m g') (hj ▸ hg) g' a₁ w₁ rfl hr'
        exact ⟨e₂, a₂, w₂, hq₂, .of_steps (StepsIn.trans harr (.one (fenced_calm hb hrm rfl) stepR_inLoop)) harr₂⟩
      · exact ⟨e, a₁, w₁, hq, .pass (x := .inLoop c) rfl (fun _ _ => .inl hne) harr⟩
  obtain ⟨e, a', w', hq, harr⟩ := key _ g0 a w rfl hr
  exact ⟨e, a', w', hq, .of_steps (.one (fenced_calm hb hrm rfl) stepR_loop) harr⟩
theorem AWP_loopK {γ : Type} {c : Code} (n : Nat) (inv : γ → St) (m : γ → Nat) (g0 : γ) (hn : (inv g0).σ.length = n) (h0 : leF st.fr (inv g0).fr ∧ ∃ k, st.σ = (inv g0).σ ++ List.replicate k .free)
    (round : ∀ g, AWP P ro c (inv g) (thenK (fun s' => ∃ g', m g' < m g ∧ Weak n s' (inv g')) K)) : AWP P ro (.loop c) st K := by
  subst hn
  exact AWP_to (inv g0) h0.1 h0.2 (AWP_loopK0 inv m g0 round)
end
section
variable {P : Program} {ro : Option Nat} {st : St} {K : Exit → St → Prop} {ops : Array Oper} {dr : Bool} {c c2 : Code}
theorem AWP_cutR {id : Nat} (t : St) (h1 : AWP P ro (.region id ops dr) st (ToS t)) (h2 : AWP P ro c t (thenK (fun s => AWP P ro c2 s K) K)) : Hold (AWP P ro (.seq (.seq (.region id ops dr) c) c2) st K) := by
  unfold Hold
  refine AWP_seq' (AWP_seq' (h1.mono fun e s hs => ?_))
  obtain ⟨rfl, h3, h4⟩ := hs
  exact AWP_to t h3 h4 h2
theorem AWP_cutR1 {id : Nat} (t : St) (h1 : AWP P ro (.region id ops dr) st (ToS t)) (h2 : AWP P ro c2 t K) : Hold (AWP P ro (.seq (.region id ops dr) c2) st K) := by
  unfold Hold
  refine AWP_seq' (h1.mono fun e s hs => ?_)
  obtain ⟨rfl, h3, h4⟩ := hs
  exact AWP_to t h3 h4 h2
end
theorem WeakU.of_free {p s t : List Slot} {k n : Nat} (hl : p.length = n) (h : WeakS n s t) : WeakU (p ++ List.replicate k .free) s t := by
  obtain ⟨ks, h1, h2, h3⟩ := h
  refine ⟨ks, h1, fun k g hu => h2 k ?_, h3⟩
  obtain ⟨x, hx, _⟩ := used_append.1 hu
  rw [← hl]; exact (List.getElem?_eq_some_iff.1 hx).1
theorem WeakU.of {σu s t : List Slot} {n : Nat} (hl : σu.length = n) (h : WeakS n s t) : WeakU σu s t := by
  obtain ⟨ks, h1, h2, h3⟩ := h
  refine ⟨ks, h1, fun k g hu => h2 k ?_, h3⟩
  obtain ⟨x, hx, _⟩ := hu
  rw [← hl]; exact (List.getElem?_eq_some_iff.1 hx).1
end Go.Proofs.YtabliglgeiajlaaGreat.AM

namespace Go.Proofs.YtabliglgeiajlaaGreat.AM
open Go Go.RowKit Go.Proofs
set_option maxRecDepth 100000
set_option maxHeartbeats 4000000
def mvN : Mv → Nat
  | .without _ => 241
  | .idle _ => 245
  | .less => 144
  | .silent => 145
  | .pull _ => 246
  | .num _ _ _ => 248
  | .still => 150
def mvC : Mv → List D
  | .without i => [.fad [.v (.int .i64 (i : Int))]]
  | .idle i => [.fad [.v (.int .i64 (i : Int))]]
  | .less => []
  | .silent => []
  | .pull i => [.fad [.v (.int .i64 (i : Int))]]
  | .num k i d => [.fad [.v (.int .i64 (k : Int))], .fad [.v (.int .i64 (i : Int))], .fad [.fn (doN d) [.fad [.v (.int .i64 (doV d))]]]]
  | .still => []
abbrev mvD (m : Mv) : D := .fn (mvN m) (mvC m)
theorem mv_fn {us : List Nat} (m : Mv) (hm : MvOk us m) (s : Sta) (hs : StaN us.length s) : Fn Tryz.prog (mvN m) (.agg (staF false false false false s) :: mvC m) [] (.agg (staF false false false false (mvF m s))) [] := by
  have l1 := hs.codeL
  have l2 := hs.memL
  have l3 := hs.stackL
  cases m with
  | without i => exact mvWithout_fn i s hs
  | idle i => exact mvIdle_fn i s (by omega)
  | less => exact mvLess_fn0 s (by omega)
  | silent => exact mvSilent_fn s
  | pull i => exact mvPull_fn i s (by omega)
  | num k i d =>
    obtain ⟨hk, hd⟩ := hm
    match k, hk with
    | 0, _ => exact mvAt0_fn i hd s hs
    | 1, _ => exact mvAt1_fn i hd s hs
    | 2, _ => exact mvAt2_fn i hd s hs
  | still => exact mvStill_fn s
theorem withoutMk_fn (i : Nat) : Fn Tryz.prog 142 [.v (.int .i64 (i : Int))] [] (mvD (.without i)) [] := by
  refine Fn.of (fn := Tryz.f142) (by kernel_rfl) rfl (by kernel_rfl) ⟨[.v (.int .i64 (i : Int)), .v undef, .v undef, .v undef], []⟩ rfl ?_
  repeat' first | (with_reducible first | refine AWP_seq' ?_ | refine k_normal ?_) | ((with_reducible refine AWP_reg fun KC J hJ hKC => ?_); simp (maxSteps := 9999999) only [push_cast, seval, ↓reduceIte]) | ((with_reducible refine hJ _ _ ?_); clear hJ hKC KC J)
  refine AWP_freeze 0 rfl (by simp (maxSteps := 9999999) only [push_cast, seval, ↓reduceIte]) ?_
  simp (maxSteps := 9999999) only [push_cast, seval, ↓reduceIte, frSt, frSlot, fr3, fr2, fr1, fr0, sameB, arrOf]
  refine AWP_ret ?_
  refine ret_plain ?_
  simp (maxSteps := 9999999) only [push_cast, seval, ↓reduceIte, show Tryz.f142.results = #[(.tmp 2)] from rfl]
  exact leD_refl _
theorem idleMk_fn (i : Nat) : Fn Tryz.prog 143 [.v (.int .i64 (i : Int))] [] (mvD (.idle i)) [] := by
  refine Fn.of (fn := Tryz.f143) (by kernel_rfl) rfl (by kernel_rfl) ⟨[.v (.int .i64 (i : Int)), .v undef, .v undef, .v undef], []⟩ rfl ?_
  repeat' first | (with_reducible first | refine AWP_seq' ?_ | refine k_normal ?_) | ((with_reducible refine AWP_reg fun KC J hJ hKC => ?_); simp (maxSteps := 9999999) only [push_cast, seval, ↓reduceIte]) | ((with_reducible refine hJ _ _ ?_); clear hJ hKC KC J)
  refine AWP_freeze 0 rfl (by simp (maxSteps := 9999999) only [push_cast, seval, ↓reduceIte]) ?_
  simp (maxSteps := 9999999) only [push_cast, seval, ↓reduceIte, frSt, frSlot, fr3, fr2, fr1, fr0, sameB, arrOf]
  refine AWP_ret ?_
  refine ret_plain ?_
  simp (maxSteps := 9999999) only [push_cast, seval, ↓reduceIte, show Tryz.f143.results = #[(.tmp 2)] from rfl]
  exact leD_refl _
theorem pullMk_fn (i : Nat) : Fn Tryz.prog 146 [.v (.int .i64 (i : Int))] [] (mvD (.pull i)) [] := by
  refine Fn.of (fn := Tryz.f146) (by kernel_rfl) rfl (by kernel_rfl) ⟨[.v (.int .i64 (i : Int)), .v undef, .v undef, .v undef], []⟩ rfl ?_
  repeat' first | (with_reducible first | refine AWP_seq' ?_ | refine k_normal ?_) | ((with_reducible refine AWP_reg fun KC J hJ hKC => ?_); simp (maxSteps := 9999999) only [push_cast, seval, ↓reduceIte]) | ((with_reducible refine hJ _ _ ?_); clear hJ hKC KC J)
  refine AWP_freeze 0 rfl (by simp (maxSteps := 9999999) only [push_cast, seval, ↓reduceIte]) ?_
  simp (maxSteps := 9999999) only [push_cast, seval, ↓reduceIte, frSt, frSlot, fr3, fr2, fr1, fr0, sameB, arrOf]
  refine AWP_ret ?_
  refine ret_plain ?_
  simp (maxSteps := 9999999) only [push_cast, seval, ↓reduceIte, show Tryz.f146.results = #[(.tmp 2)] from rfl]
  exact leD_refl _
theorem atMk_fn (k i : Nat) (d : Do) : Fn Tryz.prog 148 [.v (.int .i64 (k : Int)), .v (.int .i64 (i : Int)), .fn (doN d) [.fad [.v (.int .i64 (doV d))]]] [] (mvD (.num k i d)) [] := by
  refine Fn.of (fn := Tryz.f148) (by kernel_rfl) rfl (by kernel_rfl) ⟨[.v (.int .i64 (k : Int)), .v (.int .i64 (i : Int)), .fn (doN d) [.fad [.v (.int .i64 (doV d))]], .v undef, .v undef, .v undef, .v undef, .v undef], []⟩ rfl ?_
  repeat' first | (with_reducible first | refine AWP_seq' ?_ | refine k_normal ?_) | ((with_reducible refine AWP_reg fun KC J hJ hKC => ?_); simp (maxSteps := 9999999) only [push_cast, seval, ↓reduceIte]) | ((with_reducible refine hJ _ _ ?_); clear hJ hKC KC J)
  refine AWP_freeze 0 rfl (by simp (maxSteps := 9999999) only [push_cast, seval, ↓reduceIte]) ?_
  simp (maxSteps := 9999999) only [push_cast, seval, ↓reduceIte, frSt, frSlot, fr3, fr2, fr1, fr0, sameB, arrOf]
  refine AWP_freeze 1 rfl (by simp (maxSteps := 9999999) only [push_cast, seval, ↓reduceIte]) ?_
  simp (maxSteps := 9999999) only [push_cast, seval, ↓reduceIte, frSt, frSlot, fr3, fr2, fr1, fr0, sameB, arrOf]
  refine AWP_freeze 2 rfl (by rfl) ?_
  simp (maxSteps := 9999999) only [push_cast, seval, ↓reduceIte, frSt, frSlot, fr3, fr2, fr1, fr0, sameB, arrOf]
  refine AWP_ret ?_
  refine ret_plain ?_
  simp (maxSteps := 9999999) only [push_cast, seval, ↓reduceIte, show Tryz.f148.results = #[(.tmp 6)] from rfl]
  exact leD_refl _
def mvCells (L : List (Mv × Mv)) : List D := (L.map fun m => [mvD m.1, mvD m.2]).flatten
def mvRow (L : List (Mv × Mv)) : List (List D) := L.map fun m => [mvD m.1, mvD m.2]
theorem mvC_frz (m : Mv) : frz0All (mvC m) = true := by cases m <;> rfl
theorem mvC_map {f : D → D} (hf : ∀ d, frz0 d = true → f d = d) (m : Mv) : (mvC m).map f = mvC m := map_frz0 hf (mvC_frz m)
theorem fr0_frz0 {k g sz : Nat} {c : List D} {d : D} (h : frz0 d = true) : fr0 k g sz c d = d := by cases d <;> first | rfl | (simp [frz0] at h; done)
@[push_cast] theorem mvC_frzP (m : Mv) : frz0All (mvC m) = true := mvC_frz m
@[push_cast] theorem mvC_ren0 (k : Nat → Option Nat) (m : Mv) : (mvC m).map (ren0 k) = mvC m := mvC_map (fun d hd => ren0_frz0 hd) m
@[push_cast] theorem mvC_fr0 (k g sz : Nat) (c : List D) (m : Mv) : (mvC m).map (fr0 k g sz c) = mvC m := mvC_map (fun d hd => fr0_frz0 hd) m
theorem ren_mvD (k : Nat → Option Nat) (m : Mv) : ren k (mvD m) = mvD m := by
  show D.fn (mvN m) ((mvC m).map (ren0 k)) = _
  rw [mvC_ren0]
theorem fr1_mvD (k g sz : Nat) (c : List D) (m : Mv) : fr1 k g sz c (mvD m) = mvD m := by
  show D.fn (mvN m) ((mvC m).map (fr0 k g sz c)) = _
  rw [mvC_fr0]
theorem frz_mvD (m : Mv) : frz (mvD m) = true := mvC_frz m
theorem mvCells_length (L : List (Mv × Mv)) : (mvCells L).length = L.length * 2 := by
  induction L with
  | nil => rfl
  | cons a l ih => simp [mvCells] at *; omega
theorem mvCells_app (l m : List (Mv × Mv)) : mvCells (l ++ m) = mvCells l ++ mvCells m := by simp [mvCells]
@[push_cast] theorem frz_mvCells (L : List (Mv × Mv)) : frzAll (mvCells L) = true := by
  induction L with
  | nil => rfl
  | cons a l ih =>
    show (frz (mvD a.1) && (frz (mvD a.2) && frzAll (mvCells l))) = true
    rw [frz_mvD, frz_mvD, ih]; rfl
@[push_cast] theorem fr_mvCells (k g sz : Nat) (c : List D) (L : List (Mv × Mv)) : (mvCells L).map (fr1 k g sz c) = mvCells L := by
  induction L with
  | nil => rfl
  | cons a l ih =>
    show fr1 k g sz c (mvD a.1) :: fr1 k g sz c (mvD a.2) :: (mvCells l).map (fr1 k g sz c) = _
    rw [fr1_mvD, fr1_mvD, ih]; rfl
theorem ren_mvCells (m : Nat → Option Nat) (L : List (Mv × Mv)) : (mvCells L).map (ren m) = mvCells L := by
  induction L with
  | nil => rfl
  | cons a l ih =>
    show ren m (mvD a.1) :: ren m (mvD a.2) :: (mvCells l).map (ren m) = _
    rw [ren_mvD, ren_mvD, ih]; rfl
theorem chunk_mv (L : List (Mv × Mv)) : chunk 2 L.length (mvCells L) = mvRow L := by
  induction L with
  | nil => rfl
  | cons a l ih =>
    show [mvD a.1, mvD a.2] :: chunk 2 l.length (mvCells l) = _
    rw [ih]; rfl
theorem getE_mv {L : List (Mv × Mv)} {n : Nat} {m : Mv × Mv} (h : L[n]? = some m) : getE (mvRow L) n = [mvD m.1, mvD m.2] := getE_map _ L n m h
@[push_cast] theorem mvRow_length (L : List (Mv × Mv)) : (mvRow L).length = L.length := by simp [mvRow]
theorem end_new {P : Program} {fn : Func} {n : Nat} {res : D} {out : List Slot} {st : St} (ks : List Nat) (h : match resD P fn st with | some (c, d) => c ∧ pick ks st.σ = out ∧ leD (ren (mOf ks) d) res | none => False) (hn : ks.Nodup) (hk : ∀ k, k < n → ks[k]? = some k) : retK P fn n res out .normal st := by
  split at h
  · rename_i c d hd
    exact ⟨.inl rfl, ks, c, d, hd, h.1, hn, hk, h.2.1, h.2.2⟩
  · exact h.elim
theorem mvBoth0_fn (m : Mv) : Fn Tryz.prog 141 [mvD m, .ptr 0 0 0] [.ent ⟨0, none, 202, [.v (.slice none 0 0)], .cells⟩] .any [.ent ⟨0, none, 202, [.ref 1 0 1], .cells⟩, .ent ⟨0, some 2, 203, mvCells [(m, m)], .cells⟩] := by
  refine Fn.of (fn := Tryz.f141) (by kernel_rfl) rfl (by kernel_rfl) ⟨[mvD m, .ptr 0 0 0, .v undef, .v undef, .v undef, .v undef, .v undef, .v undef, .v undef], [.ent ⟨0, none, 202, [.v (.slice none 0 0)], .cells⟩]⟩ rfl ?_
  repeat' first | ((with_reducible refine AWP_reg fun KC J hJ hKC => ?_); simp (maxSteps := 9999999) only [push_cast, seval, ↓reduceIte]) | ((with_reducible refine hJ _ _ ?_); clear hJ hKC KC J)
  refine end_new [0, 2] ?_ (by decide) ?_
  · simp (maxSteps := 9999999) only [push_cast, seval, ↓reduceIte, show Tryz.f141.results = #[] from rfl, pick, mOf, idx, renSlot]
    exact ⟨rfl, leD_any⟩
  · intro k hk
    have : k = 0 := by simpa using hk
    subst this; rfl
theorem mvBothS_fn (m : Mv) (g n : Nat) (L : List (Mv × Mv)) (hL : L.length = n) (hb : n ≤ 1000) : Fn Tryz.prog 141 [mvD m, .ptr 0 0 0] [.ent ⟨0, none, 202, [.ref 1 g n], .cells⟩, .ent ⟨g, some 2, 203, mvCells L, .cells⟩] .any [.ent ⟨0, none, 202, [.ref 1 (g + 1) (n + 1)], .cells⟩, .ent ⟨g + 1, some 2, 203, mvCells (L ++ [(m, m)]), .cells⟩] := by
  have hlC : (mvCells L).length = n * 2 := by rw [mvCells_length, hL]
  have htC := take_len hlC
  have hbm : Nat.beq g g = true := Nat.beq_refl g
  refine Fn.of (fn := Tryz.f141) (by kernel_rfl) rfl (by kernel_rfl) ⟨[mvD m, .ptr 0 0 0, .v undef, .v undef, .v undef, .v undef, .v undef, .v undef, .v undef], [.ent ⟨0, none, 202, [.ref 1 g n], .cells⟩, .ent ⟨g, some 2, 203, mvCells L, .cells⟩]⟩ rfl ?_
  repeat' first | ((with_reducible refine And.intro ?_ ?_); · exact Sq) | ((with_reducible refine AWP_reg fun KC J hJ hKC => ?_); simp (maxSteps := 9999999) only [push_cast, seval, ↓reduceIte, hlC, htC, hbm]) | ((with_reducible refine hJ _ _ ?_); clear hJ hKC KC J)
  refine end_keys ?_
  simp (maxSteps := 9999999) only [push_cast, seval, ↓reduceIte, show Tryz.f141.results = #[] from rfl]
  exact ⟨(by show List.map _ [0, 1] = _; simp only [List.map_cons, List.map_nil, getS, renSlot, ren_mvCells, mvCells_app, List.map_append, ren_mvD]; rfl), leD_any⟩
end Go.Proofs.YtabliglgeiajlaaGreat.AM

namespace Go.Proofs.YtabliglgeiajlaaGreat.AM
open Go Go.RowKit Go.Proofs
set_option maxRecDepth 100000
set_option maxHeartbeats 4000000
def castL (L : List (Nat × Nat)) : List (Int × Int) := L.map fun p => ((p.1 : Int), (p.2 : Int))
theorem castL_app (a b : List (Nat × Nat)) : castL (a ++ b) = castL a ++ castL b := by simp [castL]
theorem castL_length (a : List (Nat × Nat)) : (castL a).length = a.length := by simp [castL]
def P1 (s : Sta) (i : Nat) : List (Nat × Nat) := ((List.range i).filter fun i => (s.code.getD i (0, 0, 0)).1 == 1).map (fun i => (0, i))
def P2 (s : Sta) (i : Nat) : List (Nat × Nat) := P1 s s.code.length ++ (List.range i).map (fun i => (1, i))
def P3 (s : Sta) (i : Nat) : List (Nat × Nat) := P2 s s.mem.length ++ (List.range i).map (fun i => (2, i))
theorem P1_succ {s : Sta} {i : Nat} {x : Int × Int × Int} (h : s.code[i]? = some x) : P1 s (i + 1) = P1 s i ++ (if x.1 == 1 then [(0, i)] else []) := by
  unfold P1
  rw [List.range_succ, List.filter_append, List.map_append]
  congr 1
  rw [List.filter_cons, List.getD_eq_getElem?_getD, h]
  simp only [Option.getD_some]
  split <;> rfl
theorem P2_succ (s : Sta) (i : Nat) : P2 s (i + 1) = P2 s i ++ [(1, i)] := by
  unfold P2; rw [List.range_succ, List.map_append, List.append_assoc]; rfl
theorem P3_succ (s : Sta) (i : Nat) : P3 s (i + 1) = P3 s i ++ [(2, i)] := by
  unfold P3; rw [List.range_succ, List.map_append, List.append_assoc]; rfl
theorem P1_le (s : Sta) (i : Nat) : (P1 s i).length ≤ i := by
  unfold P1; rw [List.length_map]; exact Nat.le_trans (List.length_filter_le _ _) (by simp)
theorem P2_le (s : Sta) (i : Nat) : (P2 s i).length ≤ s.code.length + i := by
  have := P1_le s s.code.length
  unfold P2; rw [List.length_append, List.length_map, List.length_range]; omega
theorem P3_le (s : Sta) (i : Nat) : (P3 s i).length ≤ s.code.length + s.mem.length + i := by
  have := P2_le s s.mem.length
  unfold P3; rw [List.length_append, List.length_map, List.length_range]; omega
theorem P1_mono (s : Sta) (i : Nat) : (P1 s 0).length ≤ (P1 s i).length := Nat.zero_le _
theorem P2_mono (s : Sta) (i : Nat) : (P2 s 0).length ≤ (P2 s i).length := by simp [P2]
theorem P3_mono (s : Sta) (i : Nat) : (P3 s 0).length ≤ (P3 s i).length := by simp [P3]
theorem P_places (s : Sta) : P3 s s.stack.length = placesF s := rfl
theorem places_fn (s : Sta) (hs : Sml15 s) : Fn Tryz.prog 147 [.agg (staF false false false false s)] [] (.sl false 2 (pRow (castL (placesF s)))) [] := by
  obtain ⟨l1, l2, l3, l4⟩ := hs
  simp only [staF]
  refine Fn.of (fn := Tryz.f147) (by kernel_rfl) rfl (by kernel_rfl) ⟨[.agg [.v (.int .i64 s.v), .v (.int .i64 s.l), .sl false 3 (tRow s.code), .sl false 2 (pRow s.mem), .sl false 3 (sRow s.stack), .sl false 2 (pRow s.out)], .v undef, .v undef, .v undef, .v undef, .v undef, .v undef, .v undef, .v undef, .v undef, .v undef, .v undef, .v undef, .v undef, .v undef, .v undef, .v undef, .v undef, .v undef, .v undef, .v undef, .v undef, .v undef, .v undef, .v undef, .v undef, .v undef, .v undef, .v undef, .v undef, .v undef, .v undef, .v undef, .v undef, .v undef, .v undef, .v undef, .v undef, .v undef, .v undef, .v undef, .v undef, .v undef, .v undef, .v undef, .v undef, .v undef, .v undef, .v undef, .v undef], []⟩ rfl ?_
  repeat' first | (with_reducible first | refine AWP_seq' ?_ | refine k_normal ?_ | refine AWP_block ?_) | ((with_reducible refine AWP_reg fun KC J hJ hKC => ?_); simp (maxSteps := 9999999) only [push_cast, seval, ↓reduceIte]) | ((with_reducible refine hJ _ _ ?_); clear hJ hKC KC J)
  obtain ⟨nP1, hn0⟩ : ∃ n, (σR [.ent ⟨0, none, 39, [.v (.int .i64 s.v), .v (.int .i64 s.l), .sl false 3 (tRow s.code), .sl false 2 (pRow s.mem), .sl false 3 (sRow s.stack), .sl false 2 (pRow s.out)], .cells⟩] 0 (P1 s 0).length 2 208 (pCells (castL (P1 s 0)))).length = n := ⟨_, rfl⟩
  have hn1 : nP1 = 1 ∨ (nP1 = 2 ∧ 0 < (P1 s 0).length) := by
    rw [← hn0]
    rcases rCase [.ent ⟨0, none, 39, [.v (.int .i64 s.v), .v (.int .i64 s.l), .sl false 3 (tRow s.code), .sl false 2 (pRow s.mem), .sl false 3 (sRow s.stack), .sl false 2 (pRow s.out)], .cells⟩] 1 0 (P1 s 0).length 2 208 (pCells (castL (P1 s 0))) with ⟨h0, _, hσ⟩ | ⟨j, h0, _, hσ⟩
    · rw [hσ]; exact .inl rfl
    · rw [hσ]; exact .inr ⟨rfl, by omega⟩
  refine AWP_loopK nP1 (γ := {i : Nat // i ≤ s.code.length}) (fun i => ⟨[.any, .ptr 0 0 0, .any, eR 1 (P1 s i.1).length, .any, .any, .any, .any, .any, .sl false 3 (tRow s.code), .v (.int .i64 s.code.length), .v (.int .i64 i.1), .any, .any, .any, .any, .any, .any, .any, .any, .any, .any, .any, .any, .any, .any, .any, .any, .any, .any, .any, .any, .any, .any, .any, .any, .any, .any, .any, .any, .any, .any, .any, .any, .any, .any, .any, .any, .any, .any], σR [.ent ⟨0, none, 39, [.v (.int .i64 s.v), .v (.int .i64 s.l), .sl false 3 (tRow s.code), .sl false 2 (pRow s.mem), .sl false 3 (sRow s.stack), .sl false 2 (pRow s.out)], .cells⟩] 0 (P1 s i.1).length 2 208 (pCells (castL (P1 s i.1)))⟩) (fun i => s.code.length - i.1) ⟨0, by omega⟩ hn0 ⟨?_, ?_⟩ ?_
  · exact Lq
  · exact Fq
  rintro ⟨i, hi⟩
  dsimp only
  have hPl := P1_le s i
  have hP0 : (P1 s 0).length ≤ (P1 s i).length := P1_mono s i
  have hCl := castL_length (P1 s i)
  have hpl := pCells_length (castL (P1 s i))
  by_cases hlt : (i : Int) < (s.code.length : Int)
  · have hx : s.code[i]? = some s.code[i] := List.getElem?_eq_getElem (by omega)
    obtain ⟨x, hxx⟩ : ∃ x, s.code[i] = x := ⟨_, rfl⟩
    rw [hxx] at hx
    have hge := getE_t hx
    by_cases h1 : x.1 = 1
    · have h1' : (x.1 == 1) = true := by simpa using h1
      have hst : P1 s (i + 1) = P1 s i ++ [(0, i)] := by rw [P1_succ hx, if_pos (by simpa using h1)]
      have hst2 : castL (P1 s (i + 1)) = castL (P1 s i) ++ [((0 : Int), (i : Int))] := by rw [hst, castL_app]; rfl
      have hst3 : (P1 s (i + 1)).length = (P1 s i).length + 1 := by rw [hst, List.length_append]; rfl
      rcases rCase [.ent ⟨0, none, 39, [.v (.int .i64 s.v), .v (.int .i64 s.l), .sl false 3 (tRow s.code), .sl false 2 (pRow s.mem), .sl false 3 (sRow s.stack), .sl false 2 (pRow s.out)], .cells⟩] 1 0 (P1 s i).length 2 208 (pCells (castL (P1 s i))) with ⟨h0, hD, hσ⟩ | ⟨j, h0, hD, hσ⟩
      · have hL0 : castL (P1 s i) = [] := List.length_eq_zero_iff.1 (by omega)
        rw [hL0, List.nil_append] at hst2
        repeat' first | (with_reducible first | refine AWP_seq' ?_ | refine k_normal ?_ | refine b_normal ?_ | refine AWP_skip ?_ | refine AWP_block ?_) | ((with_reducible refine And.intro ?_ ?_); · exact Sq) | ((with_reducible refine AWP_reg fun KC J hJ hKC => ?_); simp (maxSteps := 9999999) only [push_cast, seval, ↓reduceIte, hlt, hD, hσ, hge, h1', wrapN (i := i) (n := s.code.length) (by omega) (by omega)]) | ((with_reducible refine hJ _ _ ?_); clear hJ hKC KC J) | ((with_reducible refine AWP_condT ?_ ?_); · rfl)
        refine ⟨⟨i + 1, by omega⟩, by simp only; omega, [0, 3], by decide, ?_, ?_, ?_⟩
        · intro k hk
          have hk2 : k < 1 := by omega
          match k, hk2 with
          | 0, _ => rfl
        · simp only [hst3, h0, Nat.zero_add, eR, if_neg (show ¬ (1 : Nat) = 0 by omega), push_cast, mOf, idx]
          exact Lq
        · simp only [hst2, hst3, h0, Nat.zero_add, σR, if_neg (show ¬ (1 : Nat) = 0 by omega), List.replicate_zero, List.append_nil, List.cons_append, List.nil_append, pick, List.map_cons, List.map_nil, getS, renSlot, push_cast, mOf, idx]
          exact leS_refl _
      · have hpl2 : (pCells (castL (P1 s i))).length = (j + 1) * 2 := by omega
        have htC := take_len hpl2
        have hbm : Nat.beq j j = true := Nat.beq_refl j
        repeat' first | (with_reducible first | refine AWP_seq' ?_ | refine k_normal ?_ | refine b_normal ?_ | refine AWP_skip ?_ | refine AWP_block ?_) | ((with_reducible refine And.intro ?_ ?_); · exact Sq) | ((with_reducible refine AWP_reg fun KC J hJ hKC => ?_); simp (maxSteps := 9999999) only [push_cast, seval, ↓reduceIte, hlt, hD, hσ, hpl2, htC, hbm, List.replicate_zero, List.append_nil, List.cons_append, List.nil_append, hge, h1', wrapN (i := i) (n := s.code.length) (by omega) (by omega)]) | ((with_reducible refine hJ _ _ ?_); clear hJ hKC KC J) | ((with_reducible refine AWP_condT ?_ ?_); · rfl)
        refine ⟨⟨i + 1, by omega⟩, by simp only; omega, [0, 1], by decide, ?_, ?_, ?_⟩
        · intro k hk
          have hk2 : k < 2 := by omega
          match k, hk2 with
          | 0, _ => rfl
          | 1, _ => rfl
        · simp only [hst3, h0, eR, if_neg (show ¬ (j + 1 + 1 : Nat) = 0 by omega), push_cast, mOf, idx, Nat.add_sub_cancel]
          exact Lq
        · simp only [hst2, hst3, h0, σR, if_neg (show ¬ (j + 1 + 1 : Nat) = 0 by omega), pCells_app, List.replicate_zero, List.append_nil, List.cons_append, List.nil_append, pick, List.map_cons, List.map_nil, getS, renSlot, List.map_append, ren_pCells, push_cast, mOf, idx, Nat.add_sub_cancel]
          exact leS_refl _
    · have h1' : (x.1 == 1) = false := by simpa using h1
      have hst : P1 s (i + 1) = P1 s i := by rw [P1_succ hx, if_neg (by simp [h1']), List.append_nil]
      rcases rCase [.ent ⟨0, none, 39, [.v (.int .i64 s.v), .v (.int .i64 s.l), .sl false 3 (tRow s.code), .sl false 2 (pRow s.mem), .sl false 3 (sRow s.stack), .sl false 2 (pRow s.out)], .cells⟩] 1 0 (P1 s i).length 2 208 (pCells (castL (P1 s i))) with ⟨h0, hD, hσ⟩ | ⟨j, h0, hD, hσ⟩
      · skip
        repeat' first | (with_reducible first | refine AWP_seq' ?_ | refine k_normal ?_ | refine b_normal ?_ | refine AWP_skip ?_ | refine AWP_block ?_) | ((with_reducible refine And.intro ?_ ?_); · exact Sq) | ((with_reducible refine AWP_reg fun KC J hJ hKC => ?_); simp (maxSteps := 9999999) only [push_cast, seval, ↓reduceIte, hlt, hD, hσ, hge, h1', wrapN (i := i) (n := s.code.length) (by omega) (by omega)]) | ((with_reducible refine hJ _ _ ?_); clear hJ hKC KC J) | ((with_reducible refine AWP_condT ?_ ?_); · rfl) | ((with_reducible refine AWP_condF ?_ ?_); · rfl)
        refine ⟨⟨i + 1, by omega⟩, by simp only; omega, [0], by decide, ?_, ?_, ?_⟩
        · intro k hk
          have hk2 : k < 1 := by omega
          match k, hk2 with
          | 0, _ => rfl
        · simp only [hst, hD, push_cast, mOf, idx]
          exact Lq
        · simp only [hst, hσ, pick, List.map_cons, List.map_nil, getS, renSlot, push_cast, mOf, idx]
          exact leS_refl _
      · skip
        repeat' first | (with_reducible first | refine AWP_seq' ?_ | refine k_normal ?_ | refine b_normal ?_ | refine AWP_skip ?_ | refine AWP_block ?_) | ((with_reducible refine And.intro ?_ ?_); · exact Sq) | ((with_reducible refine AWP_reg fun KC J hJ hKC => ?_); simp (maxSteps := 9999999) only [push_cast, seval, ↓reduceIte, hlt, hD, hσ, List.replicate_zero, List.append_nil, List.cons_append, List.nil_append, hge, h1', wrapN (i := i) (n := s.code.length) (by omega) (by omega)]) | ((with_reducible refine hJ _ _ ?_); clear hJ hKC KC J) | ((with_reducible refine AWP_condT ?_ ?_); · rfl) | ((with_reducible refine AWP_condF ?_ ?_); · rfl)
        refine ⟨⟨i + 1, by omega⟩, by simp only; omega, [0, 1], by decide, ?_, ?_, ?_⟩
        · intro k hk
          have hk2 : k < 2 := by omega
          match k, hk2 with
          | 0, _ => rfl
          | 1, _ => rfl
        · simp only [hst, hD, push_cast, mOf, idx]
          exact Lq
        · simp only [hst, hσ, List.replicate_zero, List.append_nil, List.cons_append, List.nil_append, pick, List.map_cons, List.map_nil, getS, renSlot, ren_pCells, push_cast, mOf, idx]
          exact leS_refl _
  have hin : i = s.code.length := by omega
  subst hin
  clear hn1 hPl hP0 hCl hpl
  clear hn0
  rw [show P1 s s.code.length = P2 s 0 by simp [P2]]
  repeat' first | (with_reducible refine hold 8 ?_) | (with_reducible first | refine AWP_seq' ?_ | refine k_normal ?_ | refine k_exit ?_ | refine b_exit ?_ | refine AWP_exit ?_) | ((with_reducible refine AWP_reg fun KC J hJ hKC => ?_); simp (maxSteps := 9999999) only [push_cast, seval, ↓reduceIte, hlt]) | ((with_reducible refine hJ _ _ ?_); clear hJ hKC KC J) | ((with_reducible refine AWP_condF ?_ ?_); · rfl)
  refine AWP_cutR ⟨[.any, .ptr 0 0 0, .any, eR 1 (P2 s 0).length, .any, .any, .any, .any, .any, .any, .any, .any, .any, .any, .any, .any, .any, .any, .any, .any, .any, .any, .any, .any, .any, .any, .any, .v (.int .i64 s.mem.length), .v (.int .i64 0), .any, .any, .any, .any, .any, .any, .any, .any, .any, .any, .any, .any, .any, .any, .any, .any, .any, .any, .any, .any, .any], σR [.ent ⟨0, none, 39, [.v (.int .i64 s.v), .v (.int .i64 s.l), .sl false 3 (tRow s.code), .sl false 2 (pRow s.mem), .sl false 3 (sRow s.stack), .sl false 2 (pRow s.out)], .cells⟩] 0 (P2 s 0).length 2 208 (pCells (castL (P2 s 0)))⟩ ?_ ?_
  · rcases rCase [.ent ⟨0, none, 39, [.v (.int .i64 s.v), .v (.int .i64 s.l), .sl false 3 (tRow s.code), .sl false 2 (pRow s.mem), .sl false 3 (sRow s.stack), .sl false 2 (pRow s.out)], .cells⟩] 1 0 (P2 s 0).length 2 208 (pCells (castL (P2 s 0))) with ⟨h0, hD, hσ⟩ | ⟨j, h0, hD, hσ⟩
    all_goals
      simp only [hD, hσ, List.replicate_zero, List.append_nil, List.cons_append, List.nil_append]
      repeat' first | ((with_reducible refine AWP_reg fun KC J hJ hKC => ?_); simp (maxSteps := 9999999) only [push_cast, seval, ↓reduceIte]) | ((with_reducible refine hJ _ _ ?_); clear hJ hKC KC J)
      (refine to_of ?_ Fq; (· exact Lq))
  repeat' first | (with_reducible refine AWP_block ?_)
  obtain ⟨nP2, hn0⟩ : ∃ n, (σR [.ent ⟨0, none, 39, [.v (.int .i64 s.v), .v (.int .i64 s.l), .sl false 3 (tRow s.code), .sl false 2 (pRow s.mem), .sl false 3 (sRow s.stack), .sl false 2 (pRow s.out)], .cells⟩] 0 (P2 s 0).length 2 208 (pCells (castL (P2 s 0)))).length = n := ⟨_, rfl⟩
  have hn1 : nP2 = 1 ∨ (nP2 = 2 ∧ 0 < (P2 s 0).length) := by
    rw [← hn0]
    rcases rCase [.ent ⟨0, none, 39, [.v (.int .i64 s.v), .v (.int .i64 s.l), .sl false 3 (tRow s.code), .sl false 2 (pRow s.mem), .sl false 3 (sRow s.stack), .sl false 2 (pRow s.out)], .cells⟩] 1 0 (P2 s 0).length 2 208 (pCells (castL (P2 s 0))) with ⟨h0, _, hσ⟩ | ⟨j, h0, _, hσ⟩
    · rw [hσ]; exact .inl rfl
    · rw [hσ]; exact .inr ⟨rfl, by omega⟩
  refine AWP_loopK nP2 (γ := {i : Nat // i ≤ s.mem.length}) (fun i => ⟨[.any, .ptr 0 0 0, .any, eR 1 (P2 s i.1).length, .any, .any, .any, .any, .any, .any, .any, .any, .any, .any, .any, .any, .any, .any, .any, .any, .any, .any, .any, .any, .any, .any, .any, .v (.int .i64 s.mem.length), .v (.int .i64 i.1), .any, .any, .any, .any, .any, .any, .any, .any, .any, .any, .any, .any, .any, .any, .any, .any, .any, .any, .any, .any, .any], σR [.ent ⟨0, none, 39, [.v (.int .i64 s.v), .v (.int .i64 s.l), .sl false 3 (tRow s.code), .sl false 2 (pRow s.mem), .sl false 3 (sRow s.stack), .sl false 2 (pRow s.out)], .cells⟩] 0 (P2 s i.1).length 2 208 (pCells (castL (P2 s i.1)))⟩) (fun i => s.mem.length - i.1) ⟨0, by omega⟩ hn0 ⟨?_, ?_⟩ ?_
  · exact Lq
  · exact Fq
  rintro ⟨i, hi⟩
  dsimp only
  have hPl := P2_le s i
  have hP0 : (P2 s 0).length ≤ (P2 s i).length := P2_mono s i
  have hCl := castL_length (P2 s i)
  have hpl := pCells_length (castL (P2 s i))
  by_cases hlt : (i : Int) < (s.mem.length : Int)
  · have hst : P2 s (i + 1) = P2 s i ++ [(1, i)] := P2_succ s i
    have hst2 : castL (P2 s (i + 1)) = castL (P2 s i) ++ [((1 : Int), (i : Int))] := by rw [hst, castL_app]; rfl
    have hst3 : (P2 s (i + 1)).length = (P2 s i).length + 1 := by rw [hst, List.length_append]; rfl
    rcases rCase [.ent ⟨0, none, 39, [.v (.int .i64 s.v), .v (.int .i64 s.l), .sl false 3 (tRow s.code), .sl false 2 (pRow s.mem), .sl false 3 (sRow s.stack), .sl false 2 (pRow s.out)], .cells⟩] 1 0 (P2 s i).length 2 208 (pCells (castL (P2 s i))) with ⟨h0, hD, hσ⟩ | ⟨j, h0, hD, hσ⟩
    · have hL0 : castL (P2 s i) = [] := List.length_eq_zero_iff.1 (by omega)
      rw [hL0, List.nil_append] at hst2
      repeat' first | (with_reducible first | refine AWP_seq' ?_ | refine k_normal ?_ | refine b_normal ?_ | refine AWP_skip ?_ | refine AWP_block ?_) | ((with_reducible refine AWP_reg fun KC J hJ hKC => ?_); simp (maxSteps := 9999999) only [push_cast, seval, ↓reduceIte, hlt, hD, hσ, wrapN (i := i) (n := s.mem.length) (by omega) (by omega)]) | ((with_reducible refine hJ _ _ ?_); clear hJ hKC KC J) | ((with_reducible refine AWP_condT ?_ ?_); · rfl)
      refine ⟨⟨i + 1, by omega⟩, by simp only; omega, [0, 2], by decide, ?_, ?_, ?_⟩
      · intro k hk
        have hk2 : k < 1 := by omega
        match k, hk2 with
        | 0, _ => rfl
      · simp only [hst3, h0, Nat.zero_add, eR, if_neg (show ¬ (1 : Nat) = 0 by omega), push_cast, mOf, idx]
        exact Lq
      · simp only [hst2, hst3, h0, Nat.zero_add, σR, if_neg (show ¬ (1 : Nat) = 0 by omega), List.replicate_zero, List.append_nil, List.cons_append, List.nil_append, pick, List.map_cons, List.map_nil, getS, renSlot, push_cast, mOf, idx]
        exact leS_refl _
    · have hpl2 : (pCells (castL (P2 s i))).length = (j + 1) * 2 := by omega
      have htC := take_len hpl2
      have hbm : Nat.beq j j = true := Nat.beq_refl j
      repeat' first | (with_reducible first | refine AWP_seq' ?_ | refine k_normal ?_ | refine b_normal ?_ | refine AWP_skip ?_ | refine AWP_block ?_) | ((with_reducible refine And.intro ?_ ?_); · exact Sq) | ((with_reducible refine AWP_reg fun KC J hJ hKC => ?_); simp (maxSteps := 9999999) only [push_cast, seval, ↓reduceIte, hlt, hD, hσ, hpl2, htC, hbm, List.replicate_zero, List.append_nil, List.cons_append, List.nil_append, wrapN (i := i) (n := s.mem.length) (by omega) (by omega)]) | ((with_reducible refine hJ _ _ ?_); clear hJ hKC KC J) | ((with_reducible refine AWP_condT ?_ ?_); · rfl)
      refine ⟨⟨i + 1, by omega⟩, by simp only; omega, [0, 1], by decide, ?_, ?_, ?_⟩
      · intro k hk
        have hk2 : k < 2 := by omega
        match k, hk2 with
        | 0, _ => rfl
        | 1, _ => rfl
      · simp only [hst3, h0, eR, if_neg (show ¬ (j + 1 + 1 : Nat) = 0 by omega), push_cast, mOf, idx, Nat.add_sub_cancel]
        exact Lq
      · simp only [hst2, hst3, h0, σR, if_neg (show ¬ (j + 1 + 1 : Nat) = 0 by omega), pCells_app, List.replicate_zero, List.append_nil, List.cons_append, List.nil_append, pick, List.map_cons, List.map_nil, getS, renSlot, List.map_append, ren_pCells, push_cast, mOf, idx, Nat.add_sub_cancel]
        exact leS_refl _
  have hin : i = s.mem.length := by omega
  subst hin
  clear hn1 hPl hP0 hCl hpl
  clear hn0
  rw [show P2 s s.mem.length = P3 s 0 by simp [P3]]
  repeat' first | (with_reducible refine hold 13 ?_) | (with_reducible first | refine AWP_seq' ?_ | refine k_normal ?_ | refine k_exit ?_ | refine b_exit ?_ | refine AWP_exit ?_) | ((with_reducible refine AWP_reg fun KC J hJ hKC => ?_); simp (maxSteps := 9999999) only [push_cast, seval, ↓reduceIte, hlt]) | ((with_reducible refine hJ _ _ ?_); clear hJ hKC KC J) | ((with_reducible refine AWP_condF ?_ ?_); · rfl)
  refine AWP_cutR ⟨[.any, .ptr 0 0 0, .any, eR 1 (P3 s 0).length, .any, .any, .any, .any, .any, .any, .any, .any, .any, .any, .any, .any, .any, .any, .any, .any, .any, .any, .any, .any, .any, .any, .any, .any, .any, .any, .any, .any, .any, .any, .any, .any, .any, .any, .any, .v (.int .i64 s.stack.length), .v (.int .i64 0), .any, .any, .any, .any, .any, .any, .any, .any, .any], σR [.ent ⟨0, none, 39, [.v (.int .i64 s.v), .v (.int .i64 s.l), .sl false 3 (tRow s.code), .sl false 2 (pRow s.mem), .sl false 3 (sRow s.stack), .sl false 2 (pRow s.out)], .cells⟩] 0 (P3 s 0).length 2 208 (pCells (castL (P3 s 0)))⟩ ?_ ?_
  · rcases rCase [.ent ⟨0, none, 39, [.v (.int .i64 s.v), .v (.int .i64 s.l), .sl false 3 (tRow s.code), .sl false 2 (pRow s.mem), .sl false 3 (sRow s.stack), .sl false 2 (pRow s.out)], .cells⟩] 1 0 (P3 s 0).length 2 208 (pCells (castL (P3 s 0))) with ⟨h0, hD, hσ⟩ | ⟨j, h0, hD, hσ⟩
    all_goals
      simp only [hD, hσ, List.replicate_zero, List.append_nil, List.cons_append, List.nil_append]
      repeat' first | ((with_reducible refine AWP_reg fun KC J hJ hKC => ?_); simp (maxSteps := 9999999) only [push_cast, seval, ↓reduceIte]) | ((with_reducible refine hJ _ _ ?_); clear hJ hKC KC J)
      (refine to_of ?_ Fq; (· exact Lq))
  repeat' first | (with_reducible refine AWP_block ?_)
  obtain ⟨nP3, hn0⟩ : ∃ n, (σR [.ent ⟨0, none, 39, [.v (.int .i64 s.v), .v (.int .i64 s.l), .sl false 3 (tRow s.code), .sl false 2 (pRow s.mem), .sl false 3 (sRow s.stack), .sl false 2 (pRow s.out)], .cells⟩] 0 (P3 s 0).length 2 208 (pCells (castL (P3 s 0)))).length = n := ⟨_, rfl⟩
  have hn1 : nP3 = 1 ∨ (nP3 = 2 ∧ 0 < (P3 s 0).length) := by
    rw [← hn0]
    rcases rCase [.ent ⟨0, none, 39, [.v (.int .i64 s.v), .v (.int .i64 s.l), .sl false 3 (tRow s.code), .sl false 2 (pRow s.mem), .sl false 3 (sRow s.stack), .sl false 2 (pRow s.out)], .cells⟩] 1 0 (P3 s 0).length 2 208 (pCells (castL (P3 s 0))) with ⟨h0, _, hσ⟩ | ⟨j, h0, _, hσ⟩
    · rw [hσ]; exact .inl rfl
    · rw [hσ]; exact .inr ⟨rfl, by omega⟩
  refine AWP_loopK nP3 (γ := {i : Nat // i ≤ s.stack.length}) (fun i => ⟨[.any, .ptr 0 0 0, .any, eR 1 (P3 s i.1).length, .any, .any, .any, .any, .any, .any, .any, .any, .any, .any, .any, .any, .any, .any, .any, .any, .any, .any, .any, .any, .any, .any, .any, .any, .any, .any, .any, .any, .any, .any, .any, .any, .any, .any, .any, .v (.int .i64 s.stack.length), .v (.int .i64 i.1), .any, .any, .any, .any, .any, .any, .any, .any, .any], σR [.ent ⟨0, none, 39, [.v (.int .i64 s.v), .v (.int .i64 s.l), .sl false 3 (tRow s.code), .sl false 2 (pRow s.mem), .sl false 3 (sRow s.stack), .sl false 2 (pRow s.out)], .cells⟩] 0 (P3 s i.1).length 2 208 (pCells (castL (P3 s i.1)))⟩) (fun i => s.stack.length - i.1) ⟨0, by omega⟩ hn0 ⟨?_, ?_⟩ ?_
  · exact Lq
  · exact Fq
  rintro ⟨i, hi⟩
  dsimp only
  have hPl := P3_le s i
  have hP0 : (P3 s 0).length ≤ (P3 s i).length := P3_mono s i
  have hCl := castL_length (P3 s i)
  have hpl := pCells_length (castL (P3 s i))
  by_cases hlt : (i : Int) < (s.stack.length : Int)
  · have hst : P3 s (i + 1) = P3 s i ++ [(2, i)] := P3_succ s i
    have hst2 : castL (P3 s (i + 1)) = castL (P3 s i) ++ [((2 : Int), (i : Int))] := by rw [hst, castL_app]; rfl
    have hst3 : (P3 s (i + 1)).length = (P3 s i).length + 1 := by rw [hst, List.length_append]; rfl
    rcases rCase [.ent ⟨0, none, 39, [.v (.int .i64 s.v), .v (.int .i64 s.l), .sl false 3 (tRow s.code), .sl false 2 (pRow s.mem), .sl false 3 (sRow s.stack), .sl false 2 (pRow s.out)], .cells⟩] 1 0 (P3 s i).length 2 208 (pCells (castL (P3 s i))) with ⟨h0, hD, hσ⟩ | ⟨j, h0, hD, hσ⟩
    · have hL0 : castL (P3 s i) = [] := List.length_eq_zero_iff.1 (by omega)
      rw [hL0, List.nil_append] at hst2
      repeat' first | (with_reducible first | refine AWP_seq' ?_ | refine k_normal ?_ | refine b_normal ?_ | refine AWP_skip ?_ | refine AWP_block ?_) | ((with_reducible refine AWP_reg fun KC J hJ hKC => ?_); simp (maxSteps := 9999999) only [push_cast, seval, ↓reduceIte, hlt, hD, hσ, wrapN (i := i) (n := s.stack.length) (by omega) (by omega)]) | ((with_reducible refine hJ _ _ ?_); clear hJ hKC KC J) | ((with_reducible refine AWP_condT ?_ ?_); · rfl)
      refine ⟨⟨i + 1, by omega⟩, by simp only; omega, [0, 2], by decide, ?_, ?_, ?_⟩
      · intro k hk
        have hk2 : k < 1 := by omega
        match k, hk2 with
        | 0, _ => rfl
      · simp only [hst3, h0, Nat.zero_add, eR, if_neg (show ¬ (1 : Nat) = 0 by omega), push_cast, mOf, idx]
        exact Lq
      · simp only [hst2, hst3, h0, Nat.zero_add, σR, if_neg (show ¬ (1 : Nat) = 0 by omega), List.replicate_zero, List.append_nil, List.cons_append, List.nil_append, pick, List.map_cons, List.map_nil, getS, renSlot, push_cast, mOf, idx]
        exact leS_refl _
    · have hpl2 : (pCells (castL (P3 s i))).length = (j + 1) * 2 := by omega
      have htC := take_len hpl2
      have hbm : Nat.beq j j = true := Nat.beq_refl j
      repeat' first | (with_reducible first | refine AWP_seq' ?_ | refine k_normal ?_ | refine b_normal ?_ | refine AWP_skip ?_ | refine AWP_block ?_) | ((with_reducible refine And.intro ?_ ?_); · exact Sq) | ((with_reducible refine AWP_reg fun KC J hJ hKC => ?_); simp (maxSteps := 9999999) only [push_cast, seval, ↓reduceIte, hlt, hD, hσ, hpl2, htC, hbm, List.replicate_zero, List.append_nil, List.cons_append, List.nil_append, wrapN (i := i) (n := s.stack.length) (by omega) (by omega)]) | ((with_reducible refine hJ _ _ ?_); clear hJ hKC KC J) | ((with_reducible refine AWP_condT ?_ ?_); · rfl)
      refine ⟨⟨i + 1, by omega⟩, by simp only; omega, [0, 1], by decide, ?_, ?_, ?_⟩
      · intro k hk
        have hk2 : k < 2 := by omega
        match k, hk2 with
        | 0, _ => rfl
        | 1, _ => rfl
      · simp only [hst3, h0, eR, if_neg (show ¬ (j + 1 + 1 : Nat) = 0 by omega), push_cast, mOf, idx, Nat.add_sub_cancel]
        exact Lq
      · simp only [hst2, hst3, h0, σR, if_neg (show ¬ (j + 1 + 1 : Nat) = 0 by omega), pCells_app, List.replicate_zero, List.append_nil, List.cons_append, List.nil_append, pick, List.map_cons, List.map_nil, getS, renSlot, List.map_append, ren_pCells, push_cast, mOf, idx, Nat.add_sub_cancel]
        exact leS_refl _
  have hin : i = s.stack.length := by omega
  subst hin
  clear hn1 hPl hP0 hCl hpl
  clear hn0
  have hpl := pCells_length (castL (P3 s s.stack.length))
  have hCl := castL_length (P3 s s.stack.length)
  have hcp := chunk_p (castL (P3 s s.stack.length))
  rw [P_places] at hpl hCl hcp ⊢
  rw [hCl] at hcp
  rcases rCase [.ent ⟨0, none, 39, [.v (.int .i64 s.v), .v (.int .i64 s.l), .sl false 3 (tRow s.code), .sl false 2 (pRow s.mem), .sl false 3 (sRow s.stack), .sl false 2 (pRow s.out)], .cells⟩] 1 0 (placesF s).length 2 208 (pCells (castL (placesF s))) with ⟨h0, hD, hσ⟩ | ⟨j, h0, hD, hσ⟩
  · have hL0 : castL (placesF s) = [] := List.length_eq_zero_iff.1 (by omega)
    rw [hL0]
    repeat' first | (with_reducible first | refine AWP_seq' ?_ | refine k_normal ?_ | refine k_exit ?_ | refine b_exit ?_ | refine AWP_ret ?_ | refine AWP_exit ?_) | ((with_reducible refine AWP_reg fun KC J hJ hKC => ?_); simp (maxSteps := 9999999) only [push_cast, seval, ↓reduceIte, hlt, hD, hσ]) | ((with_reducible refine hJ _ _ ?_); clear hJ hKC KC J) | ((with_reducible refine AWP_condF ?_ ?_); · rfl)
    refine ret_plain ?_
    simp (maxSteps := 9999999) only [push_cast, seval, ↓reduceIte, show Tryz.f147.results = #[(.tmp 2)] from rfl]
    exact Lq
  · have hpl2 : (pCells (castL (placesF s))).length = (j + 1) * 2 := by omega
    have hbm : Nat.beq j j = true := Nat.beq_refl j
    rw [h0] at hcp
    repeat' first | (refine AWP_freezeR 18 1 rfl (by (simp (maxSteps := 9999999) only [push_cast, seval, ↓reduceIte]) <;> rfl) ?_; simp (maxSteps := 9999999) only [push_cast, seval, ↓reduceIte, frSt, frSlot, fr3, fr2, fr1, fr0, sameB, arrOf, hlt, hD, hσ, hpl2, hcp, hbm, List.replicate_zero, List.append_nil, List.cons_append, List.nil_append]) | (with_reducible first | refine AWP_seq' ?_ | refine k_normal ?_ | refine k_exit ?_ | refine b_exit ?_ | refine AWP_ret ?_ | refine AWP_exit ?_) | ((with_reducible refine AWP_reg fun KC J hJ hKC => ?_); simp (maxSteps := 9999999) only [push_cast, seval, ↓reduceIte, hlt, hD, hσ, hpl2, hcp, hbm, List.replicate_zero, List.append_nil, List.cons_append, List.nil_append]) | ((with_reducible refine hJ _ _ ?_); clear hJ hKC KC J) | ((with_reducible refine AWP_condF ?_ ?_); · rfl)
    refine ret_plain ?_
    simp (maxSteps := 9999999) only [push_cast, seval, ↓reduceIte, show Tryz.f147.results = #[(.tmp 2)] from rfl]
    exact Lq
end Go.Proofs.YtabliglgeiajlaaGreat.AM

namespace Go.Proofs.YtabliglgeiajlaaGreat.AM
open Go Go.RowKit Go.Proofs
set_option maxRecDepth 100000
set_option maxHeartbeats 4000000
theorem checkF_three {ns : List ByteArray} {us : List Nat} (h : checkF ns us = 0) : mayB ns us = true ∧ Ord us ∧ Lat us := by
  unfold checkF at h
  split at h
  · split at h
    · split at h
      · exact ⟨by assumption, by assumption, by assumption⟩
      · cases h
    · cases h
  · cases h
theorem has_bot {us : List Nat} (ho : Ord us) (hL : Lat us) : ∀ k, k < us.length → ∃ t, t < us.length ∧ ∀ a, a ≤ k → fl us t a = true
  | 0, hk => ⟨0, hk, fun a ha => by have : a = 0 := by omega
                                    subst this; exact ho.1 0 hk⟩
  | k + 1, hk => by
    obtain ⟨t, ht, hta⟩ := has_bot ho hL k (by omega)
    have hj := (hL t ht (k + 1) hk).2
    rcases idxF_casesR (fun i => decide (downN us i us.length = (downN us t us.length &&& downN us (k + 1) us.length))) (List.range us.length) with ⟨h, _⟩ | ⟨c, _, hc, hp, _⟩
    · rw [meetI, h] at hj; omega
    · rw [List.getElem_range] at hp
      rw [List.length_range] at hc
      have hcj : isM us t (k + 1) c := (isM_iff ho ht hk hc).2 (by simpa using hp)
      refine ⟨c, hc, fun a ha => ?_⟩
      rcases Nat.lt_or_ge k a with h | h
      · have : a = k + 1 := by omega
        subst this; exact hcj.1.2
      · exact ho.2.2 c hc t ht a (by omega) hcj.1.1 (hta a h)
def allU (us : List Nat) : Nat := 2 ^ us.length - 1
def botI (us : List Nat) : Int := idxF (fun x => decide (x = allU us)) us
theorem fl_all {us : List Nat} (hl : Low us) {a : Nat} (ha : a < us.length) : us.getD a 0 = allU us ↔ ∀ c, c < us.length → fl us a c = true := by
  constructor
  · intro h c hc
    show (us.getD a 0).testBit c = true
    rw [h, allU, Nat.testBit_two_pow_sub_one]; simpa using hc
  · intro h
    refine Nat.eq_of_testBit_eq fun i => ?_
    rw [allU, Nat.testBit_two_pow_sub_one]
    show fl us a i = _
    cases hx : fl us a i with
    | true => simp [hl.bit ha hx]
    | false =>
      by_cases hi : i < us.length
      · rw [h i hi] at hx; cases hx
      · simp [hi]
theorem botI_spec {ns : List ByteArray} {us : List Nat} (hc : checkF ns us = 0) : Bot us (botI us) := by
  obtain ⟨hm, ho, hL⟩ := checkF_three hc
  have hlw := low_of_may hm
  have h8 := (mayB_get hm).1
  have hget : ∀ i, (hi : i < us.length) → us.getD i 0 = us[i] := fun i hi => by rw [List.getD_eq_getElem?_getD, List.getElem?_eq_getElem hi]; rfl
  obtain ⟨t, ht, hta⟩ := has_bot ho hL (us.length - 1) (by omega)
  have hpt := (fl_all hlw ht).2 fun c hc => hta c (by omega)
  rcases idxF_casesR (fun x => decide (x = allU us)) us with ⟨_, hn⟩ | ⟨i, hi, hil, hp, _⟩
  · have := hn us[t] (List.getElem_mem ht)
    rw [← hget t ht, hpt] at this; simp at this
  · exact ⟨i, hi, hil, (fl_all hlw hil).1 (by rw [hget i hil]; simpa using hp)⟩
theorem indexU32_fn (f : Bool) (xs : List Nat) (v : Nat) (hb : xs.length ≤ 1000) : Fn Tryz.prog 240 [.sl f 1 (u32Row xs), .v (.int .u32 (uv v))] [] (.v (.int .i64 (idxF (fun y => decide (y = v)) xs))) [] := by
  refine Fn.of (fn := Tryz.f240) (by kernel_rfl) rfl (by kernel_rfl) ⟨[.sl f 1 (u32Row xs), .v (.int .u32 (uv v)), .v undef, .v undef, .v undef, .v undef, .v undef, .v undef, .v undef, .v undef, .v undef, .v undef, .v undef, .v undef, .v undef, .v undef, .v undef, .v undef, .v undef], []⟩ rfl ?_
  repeat' first | (with_reducible first | refine AWP_seq' ?_ | refine k_normal ?_ | refine AWP_block ?_) | ((with_reducible refine AWP_reg fun KC J hJ hKC => ?_); simp (maxSteps := 9999999) only [push_cast, seval, ↓reduceIte]) | ((with_reducible refine hJ _ _ ?_); clear hJ hKC KC J)
  refine AWP_loopF (γ := {i : Nat // i ≤ xs.length ∧ ∀ (j : Nat) (hj : j < xs.length), j < i → decide (xs[j] = v) = false}) (fun i => ⟨[.sl f 1 (u32Row xs), .v (.int .u32 (uv v)), .any, .any, .any, .any, .any, .v (.int .i64 xs.length), .v (.int .i64 i.1), .any, .any, .any, .any, .any, .any, .any, .any, .any, .any], []⟩) (fun i => xs.length - i.1) ⟨0, by simp⟩ ⟨?_, Fq⟩ ?_
  · exact Lq
  · rintro ⟨i, hi, hn⟩
    by_cases hlt : (i : Int) < (xs.length : Int)
    · have hx : xs[i]? = some xs[i] := List.getElem?_eq_getElem (by omega)
      obtain ⟨b, hb1⟩ : ∃ b, decide (xs[i] = v) = b := ⟨_, rfl⟩
      have hb2 : decide (v = xs[i]) = b := by rw [← hb1, decide_eq_decide]; exact eq_comm
      cases b
      case true =>
        repeat' first | (with_reducible first | refine AWP_seq' ?_ | refine k_normal ?_ | refine k_ret ?_ | refine b_ret ?_ | refine AWP_ret ?_ | refine AWP_skip ?_ | refine AWP_block ?_) | ((with_reducible refine And.intro ?_ ?_); · exact Sq) | ((with_reducible refine AWP_reg fun KC J hJ hKC => ?_); simp (maxSteps := 9999999) only [push_cast, seval, ↓reduceIte, hlt, getE_u32 hx, hb1, hb2]) | ((with_reducible refine hJ _ _ ?_); clear hJ hKC KC J) | ((with_reducible refine AWP_condT ?_ ?_); · rfl)
        refine ret_plain ?_
        simp (maxSteps := 9999999) only [push_cast, seval, ↓reduceIte, show Tryz.f240.results = #[(.tmp 4)] from rfl]
        exact leD_v (by rw [idxF_at (by omega) hb1 hn])
      repeat' first | (with_reducible first | refine AWP_seq' ?_ | refine k_normal ?_ | refine b_normal ?_ | refine AWP_skip ?_ | refine AWP_block ?_) | ((with_reducible refine And.intro ?_ ?_); · exact Sq) | ((with_reducible refine AWP_reg fun KC J hJ hKC => ?_); simp (maxSteps := 9999999) only [push_cast, seval, ↓reduceIte, hlt, getE_u32 hx, hb1, hb2, wrapN (i := i) (n := xs.length) (by omega) (by omega)]) | ((with_reducible refine hJ _ _ ?_); clear hJ hKC KC J) | ((with_reducible refine AWP_condT ?_ ?_); · rfl) | ((with_reducible refine AWP_condF ?_ ?_); · rfl)
      refine ⟨⟨i + 1, by omega, fun j hj hji => ?_⟩, by simp only; omega, ?_, Fq⟩
      · by_cases he : j = i
        · subst he; exact hb1
        · exact hn j hj (by omega)
      · exact Lq
    · skip
      repeat' first | (with_reducible first | refine AWP_seq' ?_ | refine k_normal ?_ | refine k_exit ?_ | refine b_exit ?_ | refine AWP_ret ?_ | refine AWP_exit ?_) | ((with_reducible refine AWP_reg fun KC J hJ hKC => ?_); simp (maxSteps := 9999999) only [push_cast, seval, ↓reduceIte, hlt]) | ((with_reducible refine hJ _ _ ?_); clear hJ hKC KC J) | ((with_reducible refine AWP_condF ?_ ?_); · rfl)
      refine ret_plain ?_
      simp (maxSteps := 9999999) only [push_cast, seval, ↓reduceIte, show Tryz.f240.results = #[(.tmp 4)] from rfl]
      exact leD_v (by rw [idxF_none (fun j hj => hn j hj (by omega))])
theorem bottom_fn (f g : Bool) (ns : List ByteArray) (us : List Nat) (hs : Szs ns) (hu : U32 us) (hc : checkF ns us = 0) :
    Fn Tryz.prog 140 [.agg [.sl f 1 (strRow ns), .sl g 1 (u32Row us)]] [] (.tup [.v (.int .i64 (botI us)), .v (.int .i64 0)]) [] := by
  have hm : mayF ns us [] = 0 := by rw [mayF, if_pos hc]; rfl
  have hth := there_fn f g true ns us [] hs hu (by simp)
  rw [hm, show intRow [] = [] from rfl] at hth
  have h8 := (mayB_get (checkF_three hc).1).1.2.1
  have hix := indexU32_fn g us (allU us) (by omega)
  have hsh : ishl .u32 1 (us.length : Int) = uv (1 <<< us.length) := uv_shl (a := 1) (by omega) (by omega)
  have hw : IntKind.u32.wrap (uv (1 <<< us.length) - 1) = uv (allU us) := by
    have : 1 <<< us.length = 2 ^ us.length := by rw [Nat.shiftLeft_eq, Nat.one_mul]
    rw [this, allU]
    have h1 : 1 ≤ 2 ^ us.length := Nat.one_le_two_pow
    have h2 : 2 ^ us.length ≤ 2 ^ 8 := Nat.pow_le_pow_right (by decide) h8
    show IntKind.u32.wrap (((2 ^ us.length : Nat) : Int) - 1) = ((2 ^ us.length - 1 : Nat) : Int)
    rw [show (((2 ^ us.length : Nat) : Int) - 1) = ((2 ^ us.length - 1 : Nat) : Int) by omega]
    have h3 : 2 ^ us.length - 1 < 256 := by omega
    generalize 2 ^ us.length - 1 = X at h3
    rw [IntKind.wrap_u32]; omega
  refine Fn.of (fn := Tryz.f140) (by kernel_rfl) rfl (by kernel_rfl) ⟨[.agg [.sl f 1 (strRow ns), .sl g 1 (u32Row us)], .v undef, .v undef, .v undef, .v undef, .v undef, .v undef, .v undef, .v undef, .v undef, .v undef, .v undef, .v undef, .v undef, .v undef, .v undef, .v undef, .v undef, .v undef, .v undef], []⟩ rfl ?_
  repeat' first | (with_reducible first | refine AWP_seq' ?_ | refine k_normal ?_ | refine AWP_ret ?_ | refine AWP_skip ?_) | ((with_reducible refine And.intro ?_ ?_); · exact Sq) | ((first | with_reducible refine AWP_reg fun KC J hJ hKC => ?_ | (refine hKC _ _ _ _ _ (callV0 (hth) rfl rfl rfl ?_ ?_); (· exact Lq)) | (refine hKC _ _ _ _ _ (callV0 (hix) rfl rfl rfl ?_ ?_); (· exact Lq))); simp (maxSteps := 9999999) only [push_cast, seval, ↓reduceIte, hsh, hw]) | ((with_reducible refine hJ _ _ ?_); clear hJ hKC KC J) | ((with_reducible refine AWP_condF ?_ ?_); · rfl)
  refine ret_plain ?_
  simp (maxSteps := 9999999) only [push_cast, seval, ↓reduceIte, show Tryz.f140.results = #[(.tmp 2), (.tmp 3)] from rfl]
  exact Lq
end Go.Proofs.YtabliglgeiajlaaGreat.AM

namespace Go.Proofs.YtabliglgeiajlaaGreat.AM
open Go Go.RowKit Go.Proofs
set_option maxRecDepth 100000
set_option maxHeartbeats 4000000
def oE (n : Nat) : Option Nat → D
  | none => .v (.slice none 0 0)
  | some g => .ref 5 g n
def oσ (L : List (Mv × Mv)) : Option Nat → List Slot
  | none => [.dead, .dead, .free, .dead, .ent ⟨0, none, 202, [.v (.slice none 0 0)], .cells⟩]
  | some g => [.dead, .dead, .free, .dead, .ent ⟨0, none, 202, [.ref 5 g L.length], .cells⟩, .ent ⟨g, some 2, 203, mvCells L, .cells⟩]
def A1 (s : Sta) (i : Nat) : List (Mv × Mv) := (List.range i).map fun i => (.without i, .without i)
def A2 (s : Sta) (i : Nat) : List (Mv × Mv) := A1 s s.code.length ++ (List.range i).map fun i => (.idle i, .idle i)
def A3 (s : Sta) : List (Mv × Mv) := A2 s s.code.length ++ [(.less, .less)]
def gO : Option Nat → Nat
  | none => 0
  | some g => g + 1
def A4 (s : Sta) : List (Mv × Mv) := A2 s s.code.length ++ [(.less, .less), (.silent, .silent)]
def A5 (s : Sta) (i : Nat) : List (Mv × Mv) := A4 s ++ (List.range i).map fun i => (.pull i, .pull i)
def A6 (s t : Sta) (i : Nat) : List (Mv × Mv) := A5 s (max s.stack.length t.stack.length) ++ ((placesF s).take i).flatMap numM
def A7 (s t : Sta) (b : Int) (i : Nat) : List (Mv × Mv) := A6 s t (placesF s).length ++ ((placesF s).take i).map (botM b)
theorem A1_succ (s : Sta) (i : Nat) : A1 s (i + 1) = A1 s i ++ [(.without i, .without i)] := by unfold A1; rw [List.range_succ, List.map_append]; rfl
theorem A2_succ (s : Sta) (i : Nat) : A2 s (i + 1) = A2 s i ++ [(.idle i, .idle i)] := by unfold A2; rw [List.range_succ, List.map_append, List.append_assoc]; rfl
theorem A5_succ (s : Sta) (i : Nat) : A5 s (i + 1) = A5 s i ++ [(.pull i, .pull i)] := by unfold A5; rw [List.range_succ, List.map_append, List.append_assoc]; rfl
theorem A6_succ {s t : Sta} {i : Nat} {p : Nat × Nat} (h : (placesF s)[i]? = some p) : A6 s t (i + 1) = A6 s t i ++ halfM p 0 ++ halfM p 1 := by
  unfold A6; rw [List.take_add_one, h]; simp [numM]
theorem A7_succ {s t : Sta} {b : Int} {i : Nat} {p : Nat × Nat} (h : (placesF s)[i]? = some p) : A7 s t b (i + 1) = A7 s t b i ++ [botM b p] := by
  unfold A7; rw [List.take_add_one, h]; simp
theorem A4_3 (s : Sta) : A4 s = A3 s ++ [(.silent, .silent)] := by simp [A4, A3]
theorem A5_zero (s : Sta) : A5 s 0 = A4 s := by simp [A5]
theorem A6_zero (s t : Sta) : A6 s t 0 = A5 s (max s.stack.length t.stack.length) := by simp [A6]
theorem A7_zero (s t : Sta) (b : Int) : A7 s t b 0 = A6 s t (placesF s).length := by simp [A7]
def hsM (p : Nat × Nat) (b : Nat) : List (Mv × Mv) := (List.range b).flatMap (halfM p)
theorem hsM_succ (p : Nat × Nat) (b : Nat) : hsM p (b + 1) = hsM p b ++ halfM p b := by unfold hsM; rw [List.range_succ, List.flatMap_append]; simp
theorem A6_hs {s t : Sta} {i : Nat} {p : Nat × Nat} (h : (placesF s)[i]? = some p) : A6 s t i ++ hsM p 2 = A6 s t (i + 1) := by
  rw [A6_succ h, hsM_succ, hsM_succ, show hsM p 0 = [] from rfl]; simp
theorem hsM_le (p : Nat × Nat) {b : Nat} (h : b ≤ 2) : (hsM p b).length ≤ 6 := by
  have : (hsM p b).length = 3 * b := by
    induction b with
    | zero => rfl
    | succ b ih => rw [hsM_succ, List.length_append, ih (by omega)]; simp [halfM]; omega
  omega
theorem getE_cast {L : List (Nat × Nat)} {i : Nat} {p : Nat × Nat} (h : L[i]? = some p) : getE (pRow (castL L)) i = [.v (.int .i64 (p.1 : Int)), .v (.int .i64 (p.2 : Int))] := by
  have : (castL L)[i]? = some ((p.1 : Int), (p.2 : Int)) := by unfold castL; rw [List.getElem?_map, h]; rfl
  exact getE_p this
theorem A2_zero (s : Sta) : A2 s 0 = A1 s s.code.length := by simp [A2]
theorem A1_le (s : Sta) (i : Nat) : (A1 s i).length = i := by simp [A1]
theorem A2_le (s : Sta) (i : Nat) : (A2 s i).length = s.code.length + i := by simp [A2, A1]
theorem A3_le (s : Sta) : (A3 s).length = s.code.length + s.code.length + 1 := by simp [A3, A2_le]
theorem A4_le (s : Sta) : (A4 s).length = s.code.length + s.code.length + 2 := by simp [A4, A2_le]
theorem A5_le (s : Sta) (i : Nat) : (A5 s i).length = s.code.length + s.code.length + 2 + i := by simp [A5, A4_le]
theorem numM_len (p : Nat × Nat) : (numM p).length = 6 := rfl
theorem flat6 (l : List (Nat × Nat)) : (l.flatMap numM).length = 6 * l.length := by
  induction l with
  | nil => rfl
  | cons a l ih => rw [List.flatMap_cons, List.length_append, numM_len, ih, List.length_cons]; omega
theorem placesF_len (s : Sta) : (placesF s).length ≤ s.code.length + s.mem.length + s.stack.length := P3_le s s.stack.length
theorem A6_le (s t : Sta) (i : Nat) : (A6 s t i).length ≤ s.code.length + s.code.length + 2 + max s.stack.length t.stack.length + 6 * (placesF s).length := by
  have : ((placesF s).take i).length ≤ (placesF s).length := List.length_take_le' _ _
  simp only [A6, List.length_append, A5_le, flat6]; omega
theorem A7_le (s t : Sta) (b : Int) (i : Nat) : (A7 s t b i).length ≤ s.code.length + s.code.length + 2 + max s.stack.length t.stack.length + 7 * (placesF s).length := by
  have : ((placesF s).take i).length ≤ (placesF s).length := List.length_take_le' _ _
  have := A6_le s t (placesF s).length
  simp only [A7, List.length_append, List.length_map]; omega
theorem A7_all (s t : Sta) (b : Int) : A7 s t b (placesF s).length = movesL b s t := by
  unfold A7 A6 A5 A4 A2 A1 movesL
  rw [List.take_length]
theorem moves_fn (f g : Bool) (ns : List ByteArray) (us : List Nat) (hs : Szs ns) (hu : U32 us) (hc : checkF ns us = 0) (s t : Sta) (hs1 : Sml15 s) (ht1 : Sml15 t) :
    Fn Tryz.prog 63 [.agg [.sl f 1 (strRow ns), .sl g 1 (u32Row us)], .agg (encT s t)] [] (.fn 152 [.fad [.sl false 2 (mvRow (movesL (botI us) s t))]]) [] := by
  obtain ⟨l1, l2, l3, l4⟩ := hs1
  obtain ⟨k1, k2, k3, k4⟩ := ht1
  have hbt := bottom_fn f g ns us hs hu hc
  obtain ⟨bt, hbt0⟩ : ∃ b, botI us = b := ⟨_, rfl⟩
  rw [hbt0] at hbt ⊢
  have hpl := placesF_len s
  simp only [encT, staF, List.cons_append, List.nil_append]
  refine Fn.of (fn := Tryz.f63) (by kernel_rfl) rfl (by kernel_rfl) ⟨[.agg [.sl f 1 (strRow ns), .sl g 1 (u32Row us)], .agg [.v (.int .i64 s.v), .v (.int .i64 s.l), .sl false 3 (tRow s.code), .sl false 2 (pRow s.mem), .sl false 3 (sRow s.stack), .sl false 2 (pRow s.out), .v (.int .i64 t.v), .v (.int .i64 t.l), .sl false 3 (tRow t.code), .sl false 2 (pRow t.mem), .sl false 3 (sRow t.stack), .sl false 2 (pRow t.out)], .v undef, .v undef, .v undef, .v undef, .v undef, .v undef, .v undef, .v undef, .v undef, .v undef, .v undef, .v undef, .v undef, .v undef, .v undef, .v undef, .v undef, .v undef, .v undef, .v undef, .v undef, .v undef, .v undef, .v undef, .v undef, .v undef, .v undef, .v undef, .v undef, .v undef, .v undef, .v undef, .v undef, .v undef, .v undef, .v undef, .v undef, .v undef, .v undef, .v undef, .v undef, .v undef, .v undef, .v undef, .v undef, .v undef, .v undef, .v undef, .v undef, .v undef, .v undef, .v undef, .v undef, .v undef, .v undef, .v undef, .v undef, .v undef, .v undef, .v undef, .v undef, .v undef, .v undef, .v undef, .v undef, .v undef, .v undef, .v undef, .v undef, .v undef, .v undef, .v undef, .v undef, .v undef, .v undef, .v undef, .v undef, .v undef, .v undef, .v undef, .v undef, .v undef, .v undef, .v undef, .v undef, .v undef, .v undef, .v undef, .v undef, .v undef, .v undef, .v undef, .v undef, .v undef, .v undef, .v undef, .v undef, .v undef, .v undef, .v undef, .v undef, .v undef, .v undef, .v undef, .v undef, .v undef, .v undef, .v undef, .v undef, .v undef, .v undef, .v undef, .v undef, .v undef], []⟩ rfl ?_
  repeat' first | (refine AWP_freezeR 4 0 rfl (by (simp (maxSteps := 9999999) only [push_cast, seval, ↓reduceIte]) <;> rfl) ?_; simp (maxSteps := 9999999) only [push_cast, seval, ↓reduceIte, frSt, frSlot, fr3, fr2, fr1, fr0, sameB, arrOf, backOf, callSets, renSlot, pick, mOf, idx, ren_mvCells]) | (refine AWP_freezeR 4 1 rfl (by (simp (maxSteps := 9999999) only [push_cast, seval, ↓reduceIte]) <;> rfl) ?_; simp (maxSteps := 9999999) only [push_cast, seval, ↓reduceIte, frSt, frSlot, fr3, fr2, fr1, fr0, sameB, arrOf, backOf, callSets, renSlot, pick, mOf, idx, ren_mvCells]) | (refine AWP_freezeR 4 3 rfl (by (simp (maxSteps := 9999999) only [push_cast, seval, ↓reduceIte]) <;> rfl) ?_; simp (maxSteps := 9999999) only [push_cast, seval, ↓reduceIte, frSt, frSlot, fr3, fr2, fr1, fr0, sameB, arrOf, backOf, callSets, renSlot, pick, mOf, idx, ren_mvCells]) | (with_reducible first | refine AWP_seq' ?_ | refine k_normal ?_ | refine AWP_block ?_) | ((first | with_reducible refine AWP_reg fun KC J hJ hKC => ?_ | (refine hKC _ _ _ _ _ (callV0 (hbt) rfl rfl rfl ?_ ?_); (· exact Lq))); simp (maxSteps := 9999999) only [push_cast, seval, ↓reduceIte, backOf, callSets, renSlot, pick, mOf, idx, ren_mvCells]) | ((with_reducible refine hJ _ _ ?_); clear hJ hKC KC J)
  refine AWP_loopK (5) (γ := {p : Nat × Option Nat // p.1 ≤ s.code.length ∧ (p.2 = none → A1 s p.1 = [])}) (fun p => ⟨[.any, .any, .any, .fad [.v (.int .i64 s.v), .v (.int .i64 s.l), .sl false 3 (tRow s.code), .sl false 2 (pRow s.mem), .sl false 3 (sRow s.stack), .sl false 2 (pRow s.out), .v (.int .i64 t.v), .v (.int .i64 t.l), .sl false 3 (tRow t.code), .sl false 2 (pRow t.mem), .sl false 3 (sRow t.stack), .sl false 2 (pRow t.out)], .any, .fad [.v (.int .i64 bt)], .any, .ptr 4 0 0, .fn 141 [.ptr 4 0 0], .any, .any, .any, .any, .any, .any, .any, .any, .any, .any, .any, .any, .any, .any, .any, .any, .any, .any, .v (.int .i64 s.code.length), .v (.int .i64 p.1.1), .any, .any, .any, .any, .any, .any, .any, .any, .any, .any, .any, .any, .any, .any, .any, .any, .any, .any, .any, .any, .any, .any, .any, .any, .any, .any, .any, .any, .any, .any, .any, .any, .any, .any, .any, .any, .any, .any, .any, .any, .any, .any, .any, .any, .any, .any, .any, .any, .any, .any, .any, .any, .any, .any, .any, .any, .any, .any, .any, .any, .any, .any, .any, .any, .any, .any, .any, .any, .any, .any, .any, .any, .any, .any, .any, .any, .any, .any, .any, .any, .any, .any, .any, .any, .any, .any, .any], oσ (A1 s p.1.1) p.1.2⟩) (fun p => s.code.length - p.1.1) ⟨(0, none), by simp, fun _ => rfl⟩ rfl ⟨?_, ?_⟩ ?_
  · exact Lq
  · exact Fq
  rintro ⟨⟨i, oA1⟩, hi, hno⟩
  dsimp only at hi hno ⊢
  have hAl := A1_le s i
  by_cases hlt : (i : Int) < (s.code.length : Int)
  · have hst : A1 s (i + 1) = A1 s i ++ [(.without i, .without i)] := A1_succ s i
    have hmk := withoutMk_fn i
    rcases oA1 with _ | gg
    · have hL0 := hno rfl
      rw [hL0, List.nil_append] at hst
      have hb0 := mvBoth0_fn (.without i)
      repeat' first | (with_reducible first | refine AWP_seq' ?_ | refine k_normal ?_ | refine b_normal ?_ | refine AWP_skip ?_ | refine AWP_block ?_) | ((first | with_reducible refine AWP_reg fun KC J hJ hKC => ?_ | (refine hKC _ _ _ _ _ (callN [4] hb0 rfl rfl rfl (by decide) (by simp) rfl rfl (by simp only [push_cast, pick, mOf, idx, renSlot]) (by simp only [push_cast, mOf, idx]; exact Lq) ?_)) | (refine hKC _ _ _ _ _ (callV0 (hmk) rfl rfl rfl ?_ ?_); (· exact Lq))); simp (maxSteps := 9999999) only [push_cast, seval, ↓reduceIte, hlt, oE, oσ, List.cons_append, List.nil_append, List.append_nil, hL0, wrapN (i := i) (n := s.code.length) (by omega) (by omega), backOf, callSets, renSlot, pick, mOf, idx, ren_mvCells]) | ((with_reducible refine hJ _ _ ?_); clear hJ hKC KC J) | ((with_reducible refine AWP_condT ?_ ?_); · rfl)
      refine ⟨⟨(i + 1, some 0), by simp only; omega, (fun h => by cases h)⟩, by simp only; omega, [0, 1, 2, 3, 4, 6], by decide, ?_, ?_, ?_⟩
      · intro k hk
        have hk2 : k < 5 := by omega
        match k, hk2 with
        | 0, _ => rfl
        | 1, _ => rfl
        | 2, _ => rfl
        | 3, _ => rfl
        | 4, _ => rfl
      · simp only [push_cast, mOf, idx]
        exact Lq
      · simp only [oE, oσ, List.cons_append, List.nil_append, List.append_nil, hst, pick, List.map_cons, List.map_nil, getS, renSlot, ren_mvCells, push_cast, mOf, idx]
        exact leS_refl _
    · obtain ⟨n, hn⟩ : ∃ n, (A1 s i).length = n := ⟨_, rfl⟩
      have hbS := mvBothS_fn (.without i) gg n (A1 s i) hn (by omega)
      have hn1 : (A1 s i ++ [((.without i, .without i) : Mv × Mv)]).length = n + 1 := by rw [List.length_append, hn]; rfl
      repeat' first | (with_reducible first | refine AWP_seq' ?_ | refine k_normal ?_ | refine b_normal ?_ | refine AWP_skip ?_ | refine AWP_block ?_) | ((first | with_reducible refine AWP_reg fun KC J hJ hKC => ?_ | (refine hKC _ _ _ _ _ (callK [4, 5] hbS rfl rfl rfl (by decide) (by simp) rfl (by simp only [push_cast, pick, mOf, idx, renSlot, ren_mvCells]) (by simp only [push_cast, mOf, idx]; exact Lq) ?_)) | (refine hKC _ _ _ _ _ (callV0 (hmk) rfl rfl rfl ?_ ?_); (· exact Lq))); simp (maxSteps := 9999999) only [push_cast, seval, ↓reduceIte, hlt, oE, oσ, List.cons_append, List.nil_append, List.append_nil, hn, wrapN (i := i) (n := s.code.length) (by omega) (by omega), backOf, callSets, renSlot, pick, mOf, idx, ren_mvCells]) | ((with_reducible refine hJ _ _ ?_); clear hJ hKC KC J) | ((with_reducible refine AWP_condT ?_ ?_); · rfl)
      refine ⟨⟨(i + 1, some (gg + 1)), by simp only; omega, (fun h => by cases h)⟩, by simp only; omega, [0, 1, 2, 3, 4, 5], by decide, ?_, ?_, ?_⟩
      · intro k hk
        have hk2 : k < 6 := by omega
        match k, hk2 with
        | 0, _ => rfl
        | 1, _ => rfl
        | 2, _ => rfl
        | 3, _ => rfl
        | 4, _ => rfl
        | 5, _ => rfl
      · simp only [push_cast, mOf, idx]
        exact Lq
      · simp only [oE, oσ, List.cons_append, List.nil_append, List.append_nil, hst, hn1, pick, List.map_cons, List.map_nil, getS, renSlot, ren_mvCells, push_cast, mOf, idx]
        exact leS_refl _
  have hin : i = s.code.length := by omega
  subst hin
  have hog : oA1 = none → A1 s s.code.length = [] := hno
  clear hno hAl hi
  obtain ⟨og, hogd⟩ : ∃ o, oA1 = o := ⟨_, rfl⟩
  rw [hogd] at hog ⊢
  repeat' first | (with_reducible refine hold 9 ?_) | (with_reducible first | refine AWP_seq' ?_ | refine k_normal ?_ | refine k_exit ?_ | refine b_exit ?_ | refine AWP_exit ?_) | ((with_reducible refine AWP_reg fun KC J hJ hKC => ?_); simp (maxSteps := 9999999) only [push_cast, seval, ↓reduceIte, hlt]) | ((with_reducible refine hJ _ _ ?_); clear hJ hKC KC J) | ((with_reducible refine AWP_condF ?_ ?_); · rfl)
  refine AWP_cutR ⟨[.any, .any, .any, .fad [.v (.int .i64 s.v), .v (.int .i64 s.l), .sl false 3 (tRow s.code), .sl false 2 (pRow s.mem), .sl false 3 (sRow s.stack), .sl false 2 (pRow s.out), .v (.int .i64 t.v), .v (.int .i64 t.l), .sl false 3 (tRow t.code), .sl false 2 (pRow t.mem), .sl false 3 (sRow t.stack), .sl false 2 (pRow t.out)], .any, .fad [.v (.int .i64 bt)], .any, .ptr 4 0 0, .fn 141 [.ptr 4 0 0], .any, .any, .any, .any, .any, .any, .any, .any, .any, .any, .any, .any, .any, .any, .any, .any, .any, .any, .any, .any, .any, .any, .any, .any, .any, .any, .any, .any, .any, .any, .v (.int .i64 s.code.length), .v (.int .i64 0), .any, .any, .any, .any, .any, .any, .any, .any, .any, .any, .any, .any, .any, .any, .any, .any, .any, .any, .any, .any, .any, .any, .any, .any, .any, .any, .any, .any, .any, .any, .any, .any, .any, .any, .any, .any, .any, .any, .any, .any, .any, .any, .any, .any, .any, .any, .any, .any, .any, .any, .any, .any, .any, .any, .any, .any, .any, .any, .any, .any, .any, .any, .any, .any, .any, .any, .any, .any, .any, .any, .any, .any, .any, .any, .any], oσ (A1 s s.code.length) og⟩ ?_ ?_
  · rcases og with _ | gg
    all_goals
      simp only [oE, oσ, List.cons_append, List.nil_append, List.append_nil]
      repeat' first | ((with_reducible refine AWP_reg fun KC J hJ hKC => ?_); simp (maxSteps := 9999999) only [push_cast, seval, ↓reduceIte]) | ((with_reducible refine hJ _ _ ?_); clear hJ hKC KC J)
      (refine to_of ?_ Fq; (· exact Lq))
  repeat' first | (with_reducible refine AWP_block ?_)
  refine AWP_loopK ((oσ (A1 s s.code.length) og).length) (γ := {p : Nat × Option Nat // p.1 ≤ s.code.length ∧ (p.2 = none → A2 s p.1 = []) ∧ (og ≠ none → p.2 ≠ none)}) (fun p => ⟨[.any, .any, .any, .fad [.v (.int .i64 s.v), .v (.int .i64 s.l), .sl false 3 (tRow s.code), .sl false 2 (pRow s.mem), .sl false 3 (sRow s.stack), .sl false 2 (pRow s.out), .v (.int .i64 t.v), .v (.int .i64 t.l), .sl false 3 (tRow t.code), .sl false 2 (pRow t.mem), .sl false 3 (sRow t.stack), .sl false 2 (pRow t.out)], .any, .fad [.v (.int .i64 bt)], .any, .ptr 4 0 0, .fn 141 [.ptr 4 0 0], .any, .any, .any, .any, .any, .any, .any, .any, .any, .any, .any, .any, .any, .any, .any, .any, .any, .any, .any, .any, .any, .any, .any, .any, .any, .any, .any, .any, .any, .any, .v (.int .i64 s.code.length), .v (.int .i64 p.1.1), .any, .any, .any, .any, .any, .any, .any, .any, .any, .any, .any, .any, .any, .any, .any, .any, .any, .any, .any, .any, .any, .any, .any, .any, .any, .any, .any, .any, .any, .any, .any, .any, .any, .any, .any, .any, .any, .any, .any, .any, .any, .any, .any, .any, .any, .any, .any, .any, .any, .any, .any, .any, .any, .any, .any, .any, .any, .any, .any, .any, .any, .any, .any, .any, .any, .any, .any, .any, .any, .any, .any, .any, .any, .any, .any], oσ (A2 s p.1.1) p.1.2⟩) (fun p => s.code.length - p.1.1) ⟨(0, og), by simp, fun h => by rw [A2_zero]; exact hog h, fun h => h⟩ (by show (oσ (A2 s 0) og).length = _; rw [A2_zero]) ⟨?_, ?_⟩ ?_
  · exact Lq
  · exact (show ∃ k, oσ (A1 s s.code.length) og = oσ (A2 s 0) og ++ List.replicate k .free by rw [A2_zero]; exact Fq)
  rintro ⟨⟨i, oA2⟩, hi, hno, hkeep⟩
  dsimp only at hi hno hkeep ⊢
  have hAl := A2_le s i
  by_cases hlt : (i : Int) < (s.code.length : Int)
  · have hst : A2 s (i + 1) = A2 s i ++ [(.idle i, .idle i)] := A2_succ s i
    have hmk := idleMk_fn i
    rcases oA2 with _ | gg
    · have hL0 := hno rfl
      rw [hL0, List.nil_append] at hst
      have hb0 := mvBoth0_fn (.idle i)
      have hn5 : (oσ (A1 s s.code.length) og).length ≤ 5 := by
        rcases og with _ | q
        · exact Nat.le_refl _
        · exact absurd rfl (hkeep (fun h => by cases h))
      repeat' first | (with_reducible first | refine AWP_seq' ?_ | refine k_normal ?_ | refine b_normal ?_ | refine AWP_skip ?_ | refine AWP_block ?_) | ((first | with_reducible refine AWP_reg fun KC J hJ hKC => ?_ | (refine hKC _ _ _ _ _ (callN [4] hb0 rfl rfl rfl (by decide) (by simp) rfl rfl (by simp only [push_cast, pick, mOf, idx, renSlot]) (by simp only [push_cast, mOf, idx]; exact Lq) ?_)) | (refine hKC _ _ _ _ _ (callV0 (hmk) rfl rfl rfl ?_ ?_); (· exact Lq))); simp (maxSteps := 9999999) only [push_cast, seval, ↓reduceIte, hlt, oE, oσ, List.cons_append, List.nil_append, List.append_nil, hL0, wrapN (i := i) (n := s.code.length) (by omega) (by omega), backOf, callSets, renSlot, pick, mOf, idx, ren_mvCells]) | ((with_reducible refine hJ _ _ ?_); clear hJ hKC KC J) | ((with_reducible refine AWP_condT ?_ ?_); · rfl)
      refine ⟨⟨(i + 1, some 0), by simp only; omega, (fun h => by cases h), fun _ h => by cases h⟩, by simp only; omega, [0, 1, 2, 3, 4, 6], by decide, ?_, ?_, ?_⟩
      · intro k hk
        have hk2 : k < 5 := by omega
        match k, hk2 with
        | 0, _ => rfl
        | 1, _ => rfl
        | 2, _ => rfl
        | 3, _ => rfl
        | 4, _ => rfl
      · simp only [push_cast, mOf, idx]
        exact Lq
      · simp only [oE, oσ, List.cons_append, List.nil_append, List.append_nil, hst, pick, List.map_cons, List.map_nil, getS, renSlot, ren_mvCells, push_cast, mOf, idx]
        exact leS_refl _
    · obtain ⟨n, hn⟩ : ∃ n, (A2 s i).length = n := ⟨_, rfl⟩
      have hbS := mvBothS_fn (.idle i) gg n (A2 s i) hn (by omega)
      have hn1 : (A2 s i ++ [((.idle i, .idle i) : Mv × Mv)]).length = n + 1 := by rw [List.length_append, hn]; rfl
      have hn6 : (oσ (A1 s s.code.length) og).length ≤ 6 := by rcases og with _ | q <;> exact Nat.le_of_ble_eq_true rfl
      repeat' first | (with_reducible first | refine AWP_seq' ?_ | refine k_normal ?_ | refine b_normal ?_ | refine AWP_skip ?_ | refine AWP_block ?_) | ((first | with_reducible refine AWP_reg fun KC J hJ hKC => ?_ | (refine hKC _ _ _ _ _ (callK [4, 5] hbS rfl rfl rfl (by decide) (by simp) rfl (by simp only [push_cast, pick, mOf, idx, renSlot, ren_mvCells]) (by simp only [push_cast, mOf, idx]; exact Lq) ?_)) | (refine hKC _ _ _ _ _ (callV0 (hmk) rfl rfl rfl ?_ ?_); (· exact Lq))); simp (maxSteps := 9999999) only [push_cast, seval, ↓reduceIte, hlt, oE, oσ, List.cons_append, List.nil_append, List.append_nil, hn, wrapN (i := i) (n := s.code.length) (by omega) (by omega), backOf, callSets, renSlot, pick, mOf, idx, ren_mvCells]) | ((with_reducible refine hJ _ _ ?_); clear hJ hKC KC J) | ((with_reducible refine AWP_condT ?_ ?_); · rfl)
      refine ⟨⟨(i + 1, some (gg + 1)), by simp only; omega, (fun h => by cases h), fun _ h => by cases h⟩, by simp only; omega, [0, 1, 2, 3, 4, 5], by decide, ?_, ?_, ?_⟩
      · intro k hk
        have hk2 : k < 6 := by omega
        match k, hk2 with
        | 0, _ => rfl
        | 1, _ => rfl
        | 2, _ => rfl
        | 3, _ => rfl
        | 4, _ => rfl
        | 5, _ => rfl
      · simp only [push_cast, mOf, idx]
        exact Lq
      · simp only [oE, oσ, List.cons_append, List.nil_append, List.append_nil, hst, hn1, pick, List.map_cons, List.map_nil, getS, renSlot, ren_mvCells, push_cast, mOf, idx]
        exact leS_refl _
  have hin : i = s.code.length := by omega
  subst hin
  have hog2 : oA2 = none → A2 s s.code.length = [] := hno
  clear hno hkeep hAl hi
  have hM1 : (if (t.stack.length : Int) > (s.stack.length : Int) then (t.stack.length : Int) else (s.stack.length : Int)) = ((max s.stack.length t.stack.length : Nat) : Int) := by split <;> omega
  have hM2 : (if (s.stack.length : Int) < (t.stack.length : Int) then (t.stack.length : Int) else (s.stack.length : Int)) = ((max s.stack.length t.stack.length : Nat) : Int) := by split <;> omega
  repeat' first | (with_reducible refine hold1 14 ?_) | (with_reducible first | refine AWP_seq' ?_ | refine k_normal ?_ | refine k_exit ?_ | refine b_exit ?_ | refine AWP_exit ?_) | ((with_reducible refine AWP_reg fun KC J hJ hKC => ?_); simp (maxSteps := 9999999) only [push_cast, seval, ↓reduceIte, hlt]) | ((with_reducible refine hJ _ _ ?_); clear hJ hKC KC J) | ((with_reducible refine AWP_condF ?_ ?_); · rfl)
  refine AWP_cutR1 ⟨[.any, .any, .any, .fad [.v (.int .i64 s.v), .v (.int .i64 s.l), .sl false 3 (tRow s.code), .sl false 2 (pRow s.mem), .sl false 3 (sRow s.stack), .sl false 2 (pRow s.out), .v (.int .i64 t.v), .v (.int .i64 t.l), .sl false 3 (tRow t.code), .sl false 2 (pRow t.mem), .sl false 3 (sRow t.stack), .sl false 2 (pRow t.out)], .any, .fad [.v (.int .i64 bt)], .any, .ptr 4 0 0, .fn 141 [.ptr 4 0 0], .any, .any, .any, .any, .any, .any, .any, .any, .any, .any, .any, .any, .any, .any, .any, .any, .any, .any, .any, .any, .any, .any, .any, .any, .any, .any, .any, .any, .any, .any, .any, .any, .any, .any, .any, .any, .any, .any, .any, .any, .any, .any, .any, .any, .any, .any, .any, .any, .any, .any, .any, .any, .any, .any, .any, .any, .any, .any, .any, .any, .any, .any, .any, .any, .any, .any, .any, .any, .any, .any, .any, .any, .any, .any, .any, .any, .any, .any, .any, .any, .any, .any, .any, .any, .any, .any, .any, .any, .any, .any, .any, .any, .any, .any, .any, .any, .any, .any, .any, .any, .any, .any, .any, .any, .any, .any, .any], oσ (A3 s) (some (gO oA2))⟩ ?_ ?_
  · have hb0 := mvBoth0_fn .less
    rcases oA2 with _ | gg
    · have hL0 := hog2 rfl
      have hst : A3 s = [(.less, .less)] := by rw [A3, hL0]; rfl
      simp only [oE, oσ, List.cons_append, List.nil_append, List.append_nil, gO, hst]
      repeat' first | ((first | with_reducible refine AWP_reg fun KC J hJ hKC => ?_ | (refine hKC _ _ _ _ _ (callN [4] hb0 rfl rfl rfl (by decide) (by simp) rfl rfl (by simp only [push_cast, pick, mOf, idx, renSlot]) (by simp only [push_cast, mOf, idx]; exact Lq) ?_))); simp (maxSteps := 9999999) only [push_cast, seval, ↓reduceIte, backOf, callSets, renSlot, pick, mOf, idx, ren_mvCells]) | ((with_reducible refine hJ _ _ ?_); clear hJ hKC KC J)
      (refine to_of ?_ Fq; (· exact Lq))
    · obtain ⟨n, hn⟩ : ∃ n, (A2 s s.code.length).length = n := ⟨_, rfl⟩
      have hbS := mvBothS_fn .less gg n (A2 s s.code.length) hn (by have := A2_le s s.code.length; omega)
      have hn1 : (A3 s).length = n + 1 := by rw [A3, List.length_append, hn]; rfl
      have hst : A3 s = A2 s s.code.length ++ [(.less, .less)] := rfl
      simp only [oE, oσ, List.cons_append, List.nil_append, List.append_nil, gO, hn1, hn]
      simp only [hst]
      repeat' first | ((first | with_reducible refine AWP_reg fun KC J hJ hKC => ?_ | (refine hKC _ _ _ _ _ (callK [4, 5] hbS rfl rfl rfl (by decide) (by simp) rfl (by simp only [push_cast, pick, mOf, idx, renSlot, ren_mvCells]) (by simp only [push_cast, mOf, idx]; exact Lq) ?_))); simp (maxSteps := 9999999) only [push_cast, seval, ↓reduceIte, backOf, callSets, renSlot, pick, mOf, idx, ren_mvCells]) | ((with_reducible refine hJ _ _ ?_); clear hJ hKC KC J)
      (refine to_of ?_ Fq; (· exact Lq))
  obtain ⟨g3, hg3⟩ : ∃ x, gO oA2 = x := ⟨_, rfl⟩
  rw [hg3]
  clear hg3 hog2
  repeat' first | (with_reducible refine hold1 15 ?_)
  refine AWP_cutR1 ⟨[.any, .any, .any, .fad [.v (.int .i64 s.v), .v (.int .i64 s.l), .sl false 3 (tRow s.code), .sl false 2 (pRow s.mem), .sl false 3 (sRow s.stack), .sl false 2 (pRow s.out), .v (.int .i64 t.v), .v (.int .i64 t.l), .sl false 3 (tRow t.code), .sl false 2 (pRow t.mem), .sl false 3 (sRow t.stack), .sl false 2 (pRow t.out)], .any, .fad [.v (.int .i64 bt)], .any, .ptr 4 0 0, .fn 141 [.ptr 4 0 0], .any, .any, .any, .any, .any, .any, .any, .any, .any, .any, .any, .any, .any, .any, .any, .any, .any, .any, .any, .any, .any, .any, .any, .any, .any, .any, .any, .any, .any, .any, .any, .any, .any, .any, .any, .any, .any, .any, .any, .any, .any, .any, .any, .any, .any, .any, .any, .any, .any, .any, .any, .any, .any, .any, .any, .any, .any, .any, .any, .any, .any, .any, .any, .any, .any, .any, .any, .any, .any, .any, .any, .any, .any, .any, .any, .any, .any, .any, .any, .any, .any, .any, .any, .any, .any, .any, .any, .any, .any, .any, .any, .any, .any, .any, .any, .any, .any, .any, .any, .any, .any, .any, .any, .any, .any, .any, .any], oσ (A4 s) (some (g3 + 1))⟩ ?_ ?_
  · obtain ⟨n, hn⟩ : ∃ n, (A3 s).length = n := ⟨_, rfl⟩
    have hbS := mvBothS_fn .silent g3 n (A3 s) hn (by have := A3_le s; omega)
    have hst := A4_3 s
    have hn1 : (A3 s ++ [((.silent, .silent) : Mv × Mv)]).length = n + 1 := by rw [List.length_append, hn]; rfl
    simp only [oE, oσ, List.cons_append, List.nil_append, List.append_nil, hst, hn1, hn]
    repeat' first | ((first | with_reducible refine AWP_reg fun KC J hJ hKC => ?_ | (refine hKC _ _ _ _ _ (callK [4, 5] hbS rfl rfl rfl (by decide) (by simp) rfl (by simp only [push_cast, pick, mOf, idx, renSlot, ren_mvCells]) (by simp only [push_cast, mOf, idx]; exact Lq) ?_))); simp (maxSteps := 9999999) only [push_cast, seval, ↓reduceIte, backOf, callSets, renSlot, pick, mOf, idx, ren_mvCells]) | ((with_reducible refine hJ _ _ ?_); clear hJ hKC KC J)
    (refine to_of ?_ Fq; (· exact Lq))
  obtain ⟨M, hM⟩ : ∃ M, max s.stack.length t.stack.length = M := ⟨_, rfl⟩
  have hMl : M ≤ 15 := by omega
  rw [hM] at hM1 hM2
  have hA5 := A5_le s
  have hA40 : A5 s 0 = A4 s := A5_zero s
  repeat' first | (with_reducible first | refine AWP_seq' ?_ | refine k_normal ?_ | refine AWP_block ?_) | ((with_reducible refine AWP_reg fun KC J hJ hKC => ?_); simp (maxSteps := 9999999) only [push_cast, seval, ↓reduceIte, oE, oσ, List.cons_append, List.nil_append, List.append_nil, hM1, hM2]) | ((with_reducible refine hJ _ _ ?_); clear hJ hKC KC J)
  refine AWP_loopD 6 (γ := {p : Nat × Nat // p.1 ≤ M}) (fun p => ⟨[.any, .any, .any, .fad [.v (.int .i64 s.v), .v (.int .i64 s.l), .sl false 3 (tRow s.code), .sl false 2 (pRow s.mem), .sl false 3 (sRow s.stack), .sl false 2 (pRow s.out), .v (.int .i64 t.v), .v (.int .i64 t.l), .sl false 3 (tRow t.code), .sl false 2 (pRow t.mem), .sl false 3 (sRow t.stack), .sl false 2 (pRow t.out)], .any, .fad [.v (.int .i64 bt)], .any, .ptr 4 0 0, .fn 141 [.ptr 4 0 0], .any, .any, .any, .any, .any, .any, .any, .any, .any, .any, .any, .any, .any, .any, .any, .any, .any, .any, .any, .any, .any, .any, .any, .any, .any, .any, .any, .any, .any, .any, .any, .any, .any, .any, .any, .any, .any, .any, .any, .any, .any, .any, .any, .any, .any, .any, .any, .any, .any, .any, .any, .v (.int .i64 M), .v (.int .i64 p.1.1), .any, .any, .any, .any, .any, .any, .any, .any, .any, .any, .any, .any, .any, .any, .any, .any, .any, .any, .any, .any, .any, .any, .any, .any, .any, .any, .any, .any, .any, .any, .any, .any, .any, .any, .any, .any, .any, .any, .any, .any, .any, .any, .any, .any, .any, .any, .any, .any, .any, .any, .any, .any, .any, .any], oσ (A5 s p.1.1) (some p.1.2)⟩) (fun p => M - p.1.1) ⟨(0, g3 + 1), by omega⟩ (fun p => rfl) (fun p => ?_) (fun p => rfl) ⟨?_, ?_⟩ ?_
  · refine clsd_all ?_
    simp only [oσ, List.map_cons, List.map_nil, List.map_append, renSlot, ren_mvCells]
    rfl
  · exact Lq
  · exact (show ∃ k, oσ (A4 s) (some (g3 + 1)) = oσ (A5 s 0) (some (g3 + 1)) ++ List.replicate k .free by rw [hA40]; exact Fq)
  rintro ⟨⟨i, gg⟩, hi⟩
  dsimp only at hi ⊢
  by_cases hlt : (i : Int) < (M : Int)
  · have hst : A5 s (i + 1) = A5 s i ++ [(.pull i, .pull i)] := A5_succ s i
    have hmk := pullMk_fn i
    obtain ⟨n, hn⟩ : ∃ n, (A5 s i).length = n := ⟨_, rfl⟩
    have hbS := mvBothS_fn (.pull i) gg n (A5 s i) hn (by have := hA5 i; omega)
    have hn1 : (A5 s i ++ [((.pull i, .pull i) : Mv × Mv)]).length = n + 1 := by rw [List.length_append, hn]; rfl
    repeat' first | (with_reducible first | refine AWP_seq' ?_ | refine k_normal ?_ | refine b_normal ?_ | refine AWP_skip ?_ | refine AWP_block ?_) | ((first | with_reducible refine AWP_reg fun KC J hJ hKC => ?_ | (refine hKC _ _ _ _ _ (callK [4, 5] hbS rfl rfl rfl (by decide) (by simp) rfl (by simp only [push_cast, pick, mOf, idx, renSlot, ren_mvCells]) (by simp only [push_cast, mOf, idx]; exact Lq) ?_)) | (refine hKC _ _ _ _ _ (callV0 (hmk) rfl rfl rfl ?_ ?_); (· exact Lq))); simp (maxSteps := 9999999) only [push_cast, seval, ↓reduceIte, hlt, oE, oσ, List.cons_append, List.nil_append, List.append_nil, hn, wrapN (i := i) (n := M) (by omega) (by omega), backOf, callSets, renSlot, pick, mOf, idx, ren_mvCells]) | ((with_reducible refine hJ _ _ ?_); clear hJ hKC KC J) | ((with_reducible refine AWP_condT ?_ ?_); · rfl)
    refine ⟨⟨(i + 1, gg + 1), by simp only; omega⟩, by simp only; omega, ?_, ?_⟩
    · exact Lq
    · simp only [oE, oσ, List.cons_append, List.nil_append, List.append_nil, hst, hn1]
      exact ⟨_, rfl⟩
  have hin : i = M := by omega
  subst hin
  have hpf := places_fn s ⟨l1, l2, l3, l4⟩
  simp only [staF] at hpf
  have hcl : (castL (placesF s)).length = (placesF s).length := castL_length _
  have hA6 := A6_le s t
  have hA60 : A6 s t 0 = A5 s i := by rw [A6_zero, hM]
  obtain ⟨q, hq⟩ : ∃ q, (placesF s).length = q := ⟨_, rfl⟩
  rw [hq] at hcl hpl
  repeat' first | (with_reducible first | refine AWP_seq' ?_ | refine k_normal ?_ | refine k_exit ?_ | refine b_exit ?_ | refine AWP_exit ?_ | refine AWP_block ?_) | ((first | with_reducible refine AWP_reg fun KC J hJ hKC => ?_ | (refine hKC _ _ _ _ _ (callV0 (hpf) rfl rfl rfl ?_ ?_); (· exact Lq))); simp (maxSteps := 9999999) only [push_cast, seval, ↓reduceIte, hlt, hcl, oE, oσ, List.cons_append, List.nil_append, List.append_nil]) | ((with_reducible refine hJ _ _ ?_); clear hJ hKC KC J) | ((with_reducible refine AWP_condF ?_ ?_); · rfl)
  clear hi
  refine AWP_loopD 6 (γ := {p : Nat × Nat // p.1 ≤ q}) (fun p => ⟨[.any, .any, .any, .fad [.v (.int .i64 s.v), .v (.int .i64 s.l), .sl false 3 (tRow s.code), .sl false 2 (pRow s.mem), .sl false 3 (sRow s.stack), .sl false 2 (pRow s.out), .v (.int .i64 t.v), .v (.int .i64 t.l), .sl false 3 (tRow t.code), .sl false 2 (pRow t.mem), .sl false 3 (sRow t.stack), .sl false 2 (pRow t.out)], .any, .fad [.v (.int .i64 bt)], .any, .ptr 4 0 0, .fn 141 [.ptr 4 0 0], .any, .any, .any, .any, .any, .any, .any, .any, .any, .any, .any, .any, .any, .any, .any, .any, .any, .any, .any, .any, .any, .any, .any, .any, .any, .any, .any, .any, .any, .any, .any, .any, .any, .any, .any, .any, .any, .any, .any, .any, .any, .any, .any, .any, .any, .any, .any, .any, .any, .any, .any, .any, .any, .any, .any, .any, .any, .any, .any, .any, .any, .any, .sl false 2 (pRow (castL (placesF s))), .v (.int .i64 q), .v (.int .i64 p.1.1), .any, .any, .any, .any, .any, .any, .any, .any, .any, .any, .any, .any, .any, .any, .any, .any, .any, .any, .any, .any, .any, .any, .any, .any, .any, .any, .any, .any, .any, .any, .any, .any, .any, .any, .any, .any, .any, .any, .any, .any, .any, .any], oσ (A6 s t p.1.1) (some p.1.2)⟩) (fun p => q - p.1.1) ⟨(0, gg), by omega⟩ (fun p => rfl) (fun p => ?_) (fun p => rfl) ⟨?_, ?_⟩ ?_
  · refine clsd_all ?_
    simp only [oσ, List.map_cons, List.map_nil, List.map_append, renSlot, ren_mvCells]
    rfl
  · exact Lq
  · show ∃ k, _ = oσ (A6 s t 0) (some gg) ++ List.replicate k .free
    rw [hA60]; exact Fq
  clear hlt
  rintro ⟨⟨j, g4⟩, hj⟩
  dsimp only at hj ⊢
  by_cases hlt : (j : Int) < (q : Int)
  · have hx : (placesF s)[j]? = some (placesF s)[j] := List.getElem?_eq_getElem (by omega)
    obtain ⟨p, hp⟩ : ∃ p, (placesF s)[j] = p := ⟨_, rfl⟩
    rw [hp] at hx
    have hge := getE_cast hx
    have hA6s := A6_hs (t := t) hx
    have hA6j := hA6 j
    repeat' first | (refine AWP_freezeR 24 6 rfl (by (simp (maxSteps := 9999999) only [push_cast, seval, ↓reduceIte]) <;> rfl) ?_; simp (maxSteps := 9999999) only [push_cast, seval, ↓reduceIte, frSt, frSlot, fr3, fr2, fr1, fr0, sameB, arrOf, hlt, hcl, hge, oE, oσ, List.cons_append, List.nil_append, List.append_nil]) | (with_reducible first | refine AWP_seq' ?_ | refine k_normal ?_ | refine AWP_skip ?_ | refine AWP_block ?_) | ((with_reducible refine And.intro ?_ ?_); · exact Sq) | ((with_reducible refine AWP_reg fun KC J hJ hKC => ?_); simp (maxSteps := 9999999) only [push_cast, seval, ↓reduceIte, hlt, hcl, hge, oE, oσ, List.cons_append, List.nil_append, List.append_nil]) | ((with_reducible refine hJ _ _ ?_); clear hJ hKC KC J) | ((with_reducible refine AWP_condT ?_ ?_); · rfl)
    refine AWP_loopD 7 (γ := {r : Nat × Nat // r.1 ≤ 2}) (fun r => ⟨[.any, .any, .any, .fad [.v (.int .i64 s.v), .v (.int .i64 s.l), .sl false 3 (tRow s.code), .sl false 2 (pRow s.mem), .sl false 3 (sRow s.stack), .sl false 2 (pRow s.out), .v (.int .i64 t.v), .v (.int .i64 t.l), .sl false 3 (tRow t.code), .sl false 2 (pRow t.mem), .sl false 3 (sRow t.stack), .sl false 2 (pRow t.out)], .any, .fad [.v (.int .i64 bt)], .any, .ptr 4 0 0, .fn 141 [.ptr 4 0 0], .any, .any, .any, .any, .fad [.v (.int .i64 (p.1 : Int)), .v (.int .i64 (p.2 : Int))], .any, .any, .any, .any, .any, .any, .any, .any, .any, .any, .any, .any, .any, .any, .any, .any, .any, .any, .any, .any, .any, .any, .any, .any, .any, .any, .any, .any, .any, .any, .any, .any, .any, .any, .any, .any, .any, .any, .any, .any, .any, .any, .any, .any, .any, .any, .any, .any, .any, .any, .any, .any, .any, .any, .any, .any, .any, .sl false 2 (pRow (castL (placesF s))), .v (.int .i64 q), .v (.int .i64 j), .any, .any, .any, .v (.int .i64 r.1.1), .any, .any, .any, .any, .any, .any, .any, .any, .any, .any, .any, .any, .any, .any, .any, .any, .any, .any, .any, .any, .any, .any, .any, .any, .any, .any, .any, .any, .any, .any, .any, .any, .any, .any, .any, .any, .any, .any], oσ (A6 s t j ++ hsM p r.1.1) (some r.1.2) ++ [.dead]⟩) (fun r => 2 - r.1.1) ⟨(0, g4), by omega⟩ (fun r => rfl) (fun r => ?_) (fun r => rfl) ⟨?_, ?_⟩ ?_
    · refine clsd_all ?_
      simp only [oσ, List.map_cons, List.map_nil, List.map_append, renSlot, ren_mvCells]
      rfl
    · exact Lq
    · exact (show ∃ k, oσ (A6 s t j) (some g4) ++ [.dead] = oσ (A6 s t j ++ hsM p 0) (some g4) ++ [.dead] ++ List.replicate k .free by rw [show hsM p 0 = [] from rfl, List.append_nil]; exact Fq)
    rintro ⟨⟨b, g5⟩, hb⟩
    dsimp only at hb ⊢
    by_cases hlb : (b : Int) < 2
    · have hat := atMk_fn p.1 p.2 (.half b)
      have hhs := hsM_le p hb
      have hst : A6 s t j ++ hsM p (b + 1) = (A6 s t j ++ hsM p b) ++ halfM p b := by rw [hsM_succ, List.append_assoc]
      obtain ⟨L, hL⟩ : ∃ L, A6 s t j ++ hsM p b = L := ⟨_, rfl⟩
      rw [hL] at hst ⊢
      obtain ⟨n, hn⟩ : ∃ n, L.length = n := ⟨_, rfl⟩
      have hnl : n ≤ 1000 := by rw [← hn, ← hL, List.length_append]; omega
      have hlC : (mvCells L).length = n * 2 := by rw [mvCells_length, hn]
      have htC := take_len hlC
      have hbm : Nat.beq g5 g5 = true := Nat.beq_refl g5
      have hn3 : (L ++ halfM p b).length = n + 3 := by rw [List.length_append, hn]; rfl
      have hn4 : (A6 s t j).length + (hsM p (b + 1)).length = n + 3 := by rw [← hn3, ← hst, List.length_append]
      have hmc : mvCells (L ++ halfM p b) = mvCells L ++ [mvD (.num p.1 p.2 (.half b)), mvD (.num p.1 p.2 (.half b)), mvD (.num p.1 p.2 (.half b)), mvD .still, mvD .still, mvD (.num p.1 p.2 (.half b))] := by rw [mvCells_app]; rfl
      repeat' first | (refine AWP_freezeR 27 7 rfl (by (simp (maxSteps := 9999999) only [push_cast, seval, ↓reduceIte]) <;> rfl) ?_; simp (maxSteps := 9999999) only [push_cast, seval, ↓reduceIte, frSt, frSlot, fr3, fr2, fr1, fr0, sameB, arrOf, hlb, oE, oσ, List.cons_append, List.nil_append, List.append_nil, hn, hlC, htC, hbm, wrapN (i := b) (n := 2) (by omega) (by omega), backOf, callSets, renSlot, pick, mOf, idx, ren_mvCells]) | (with_reducible first | refine AWP_seq' ?_ | refine k_normal ?_ | refine b_normal ?_ | refine AWP_skip ?_ | refine AWP_block ?_) | ((with_reducible refine And.intro ?_ ?_); · exact Sq) | ((first | with_reducible refine AWP_reg fun KC J hJ hKC => ?_ | (refine hKC _ _ _ _ _ (callV0 (hat) rfl rfl rfl ?_ ?_); (· exact Lq))); simp (maxSteps := 9999999) only [push_cast, seval, ↓reduceIte, hlb, oE, oσ, List.cons_append, List.nil_append, List.append_nil, hn, hlC, htC, hbm, wrapN (i := b) (n := 2) (by omega) (by omega), backOf, callSets, renSlot, pick, mOf, idx, ren_mvCells]) | ((with_reducible refine hJ _ _ ?_); clear hJ hKC KC J) | ((with_reducible refine AWP_condT ?_ ?_); · rfl)
      refine ⟨⟨(b + 1, g5 + 1), by simp only; omega⟩, by simp only; omega, ?_, ?_⟩
      · exact Lq
      · simp only [oE, oσ, List.cons_append, List.nil_append, List.append_nil, hst, hn3, hn4, hmc]
        exact ⟨_, rfl⟩
    have hb2 : b = 2 := by omega
    subst hb2
    rw [hA6s]
    repeat' first | (with_reducible first | refine AWP_seq' ?_ | refine k_normal ?_ | refine k_exit ?_ | refine b_normal ?_ | refine b_exit ?_ | refine AWP_exit ?_) | ((with_reducible refine AWP_reg fun KC J hJ hKC => ?_); simp (maxSteps := 9999999) only [push_cast, seval, ↓reduceIte, hlb, wrapN (i := j) (n := q) (by omega) (by omega), oE, oσ, List.cons_append, List.nil_append, List.append_nil]) | ((with_reducible refine hJ _ _ ?_); clear hJ hKC KC J) | ((with_reducible refine AWP_condF ?_ ?_); · rfl)
    refine ⟨⟨(j + 1, g5), by simp only; omega⟩, by simp only; omega, ?_, ?_⟩
    · exact Lq
    · simp only [oE, oσ, List.cons_append, List.nil_append, List.append_nil]
      exact ⟨_, rfl⟩
  have hjq : j = q := by omega
  subst hjq
  have hA7 := A7_le s t bt
  have hA70 : A7 s t bt 0 = A6 s t j := by rw [A7_zero, hq]
  repeat' first | (with_reducible first | refine AWP_seq' ?_ | refine k_normal ?_ | refine k_exit ?_ | refine b_exit ?_ | refine AWP_exit ?_ | refine AWP_block ?_) | ((first | with_reducible refine AWP_reg fun KC J hJ hKC => ?_ | (refine hKC _ _ _ _ _ (callV0 (hpf) rfl rfl rfl ?_ ?_); (· exact Lq))); simp (maxSteps := 9999999) only [push_cast, seval, ↓reduceIte, hlt, hcl, oE, oσ, List.cons_append, List.nil_append, List.append_nil]) | ((with_reducible refine hJ _ _ ?_); clear hJ hKC KC J) | ((with_reducible refine AWP_condF ?_ ?_); · rfl)
  clear hj
  refine AWP_loopD 6 (γ := {p : Nat × Nat // p.1 ≤ j}) (fun p => ⟨[.any, .any, .any, .fad [.v (.int .i64 s.v), .v (.int .i64 s.l), .sl false 3 (tRow s.code), .sl false 2 (pRow s.mem), .sl false 3 (sRow s.stack), .sl false 2 (pRow s.out), .v (.int .i64 t.v), .v (.int .i64 t.l), .sl false 3 (tRow t.code), .sl false 2 (pRow t.mem), .sl false 3 (sRow t.stack), .sl false 2 (pRow t.out)], .any, .fad [.v (.int .i64 bt)], .any, .ptr 4 0 0, .fn 141 [.ptr 4 0 0], .any, .any, .any, .any, .any, .any, .any, .any, .any, .any, .any, .any, .any, .any, .any, .any, .any, .any, .any, .any, .any, .any, .any, .any, .any, .any, .any, .any, .any, .any, .any, .any, .any, .any, .any, .any, .any, .any, .any, .any, .any, .any, .any, .any, .any, .any, .any, .any, .any, .any, .any, .any, .any, .any, .any, .any, .any, .any, .any, .any, .any, .any, .any, .any, .any, .any, .any, .any, .any, .any, .any, .any, .any, .any, .any, .any, .any, .any, .any, .any, .any, .any, .any, .any, .any, .any, .any, .any, .any, .any, .any, .sl false 2 (pRow (castL (placesF s))), .v (.int .i64 j), .v (.int .i64 p.1.1), .any, .any, .any, .any, .any, .any, .any, .any, .any, .any, .any, .any, .any], oσ (A7 s t bt p.1.1) (some p.1.2)⟩) (fun p => j - p.1.1) ⟨(0, g4), by omega⟩ (fun p => rfl) (fun p => ?_) (fun p => rfl) ⟨?_, ?_⟩ ?_
  · refine clsd_all ?_
    simp only [oσ, List.map_cons, List.map_nil, List.map_append, renSlot, ren_mvCells]
    rfl
  · exact Lq
  · show ∃ k, _ = oσ (A7 s t bt 0) (some g4) ++ List.replicate k .free
    rw [hA70]; exact Fq
  clear hlt
  rintro ⟨⟨k, g6⟩, hk⟩
  dsimp only at hk ⊢
  have hA7k := hA7 k
  obtain ⟨n, hn⟩ : ∃ n, (A7 s t bt k).length = n := ⟨_, rfl⟩
  by_cases hlt : (k : Int) < (j : Int)
  · have hx : (placesF s)[k]? = some (placesF s)[k] := List.getElem?_eq_getElem (by omega)
    obtain ⟨p, hp⟩ : ∃ p, (placesF s)[k] = p := ⟨_, rfl⟩
    rw [hp] at hx
    have hge := getE_cast hx
    have hat := atMk_fn p.1 p.2 (.bot bt)
    have hst : A7 s t bt (k + 1) = A7 s t bt k ++ [(.num p.1 p.2 (.bot bt), .num p.1 p.2 (.bot bt))] := A7_succ hx
    have hbS := mvBothS_fn (.num p.1 p.2 (.bot bt)) g6 n (A7 s t bt k) hn (by omega)
    have hn1 : (A7 s t bt k ++ [((.num p.1 p.2 (.bot bt), .num p.1 p.2 (.bot bt)) : Mv × Mv)]).length = n + 1 := by rw [List.length_append, hn]; rfl
    repeat' first | (refine AWP_freezeR 34 6 rfl (by (simp (maxSteps := 9999999) only [push_cast, seval, ↓reduceIte]) <;> rfl) ?_; simp (maxSteps := 9999999) only [push_cast, seval, ↓reduceIte, frSt, frSlot, fr3, fr2, fr1, fr0, sameB, arrOf, hlt, hcl, hge, oE, oσ, List.cons_append, List.nil_append, List.append_nil, hn, wrapN (i := k) (n := j) (by omega) (by omega), backOf, callSets, renSlot, pick, mOf, idx, ren_mvCells]) | (with_reducible first | refine AWP_seq' ?_ | refine k_normal ?_ | refine b_normal ?_ | refine AWP_skip ?_ | refine AWP_block ?_) | ((with_reducible refine And.intro ?_ ?_); · exact Sq) | ((first | with_reducible refine AWP_reg fun KC J hJ hKC => ?_ | (refine hKC _ _ _ _ _ (callK [4, 5] hbS rfl rfl rfl (by decide) (by simp) rfl (by simp only [push_cast, pick, mOf, idx, renSlot, ren_mvCells]) (by simp only [push_cast, mOf, idx]; exact Lq) ?_)) | (refine hKC _ _ _ _ _ (callV0 (hat) rfl rfl rfl ?_ ?_); (· exact Lq))); simp (maxSteps := 9999999) only [push_cast, seval, ↓reduceIte, hlt, hcl, hge, oE, oσ, List.cons_append, List.nil_append, List.append_nil, hn, wrapN (i := k) (n := j) (by omega) (by omega), backOf, callSets, renSlot, pick, mOf, idx, ren_mvCells]) | ((with_reducible refine hJ _ _ ?_); clear hJ hKC KC J) | ((with_reducible refine AWP_condT ?_ ?_); · rfl)
    refine ⟨⟨(k + 1, g6 + 1), by simp only; omega⟩, by simp only; omega, ?_, ?_⟩
    · exact Lq
    · simp only [oE, oσ, List.cons_append, List.nil_append, List.append_nil, hst, hn1]
      exact ⟨_, rfl⟩
  have hkj : k = j := by omega
  subst hkj
  have hall := A7_all s t bt
  rw [hq] at hall
  rw [hall] at hn ⊢
  obtain ⟨L, hL⟩ : ∃ L, movesL bt s t = L := ⟨_, rfl⟩
  rw [hL] at hn ⊢
  have hlC : (mvCells L).length = n * 2 := by rw [mvCells_length, hn]
  have hcp : chunk 2 n (mvCells L) = mvRow L := by rw [← hn]; exact chunk_mv L
  have hbm : Nat.beq g6 g6 = true := Nat.beq_refl g6
  repeat' first | (refine AWP_freezeR 36 5 rfl (by (simp (maxSteps := 9999999) only [push_cast, seval, ↓reduceIte]) <;> rfl) ?_; simp (maxSteps := 9999999) only [push_cast, seval, ↓reduceIte, frSt, frSlot, fr3, fr2, fr1, fr0, sameB, arrOf, hlt, oE, oσ, List.cons_append, List.nil_append, List.append_nil, hn, hlC, hcp, hbm]) | (refine AWP_freezeR 36 4 rfl (by (simp (maxSteps := 9999999) only [push_cast, seval, ↓reduceIte]) <;> rfl) ?_; simp (maxSteps := 9999999) only [push_cast, seval, ↓reduceIte, frSt, frSlot, fr3, fr2, fr1, fr0, sameB, arrOf, hlt, oE, oσ, List.cons_append, List.nil_append, List.append_nil, hn, hlC, hcp, hbm]) | (with_reducible first | refine AWP_seq' ?_ | refine k_normal ?_ | refine k_exit ?_ | refine b_exit ?_ | refine AWP_ret ?_ | refine AWP_exit ?_) | ((with_reducible refine AWP_reg fun KC J hJ hKC => ?_); simp (maxSteps := 9999999) only [push_cast, seval, ↓reduceIte, hlt, oE, oσ, List.cons_append, List.nil_append, List.append_nil, hn, hlC, hcp, hbm]) | ((with_reducible refine hJ _ _ ?_); clear hJ hKC KC J) | ((with_reducible refine AWP_condF ?_ ?_); · rfl)
  refine ret_plain ?_
  simp (maxSteps := 9999999) only [push_cast, seval, ↓reduceIte, show Tryz.f63.results = #[(.tmp 4)] from rfl]
  exact Lq
end Go.Proofs.YtabliglgeiajlaaGreat.AM

namespace Go.Proofs.YtabliglgeiajlaaGreat.AM
open Go Go.RowKit Go.Proofs
set_option maxRecDepth 100000
set_option maxHeartbeats 4000000
theorem nums_num {n : Nat} {s : Sta} (h : StaN n s) : ∀ p ∈ numsL s, -20 ≤ p.1 ∧ p.1 ≤ 20 ∧ (0 ≤ p.2 → oddL n p.2 = false) := by
  intro p hp
  simp only [numsL, List.mem_cons, List.mem_append, List.mem_map] at hp
  rcases hp with rfl | ⟨x, hx, rfl⟩ | (hp | hp) | ⟨x, hx, rfl⟩
  · exact ⟨h.v0, h.v1, fun _ => h.l⟩
  · obtain ⟨a, b, c⟩ := h.code x hx
    refine ⟨a, b, fun h0 => ?_⟩
    unfold instQ at h0 ⊢
    by_cases h1 : x.1 = 1
    · simp only [if_pos h1]; exact c h1
    · simp only [if_neg h1] at h0; omega
  · exact ⟨(h.mem p hp).1, (h.mem p hp).2.1, fun _ => (h.mem p hp).2.2⟩
  · exact ⟨(h.out p hp).1, (h.out p hp).2.1, fun _ => (h.out p hp).2.2⟩
  · exact ⟨(h.stack x hx).1, (h.stack x hx).2.1, fun _ => (h.stack x hx).2.2⟩
theorem numZ_B {us : List Nat} {k : Nat} {z : Int × Int × Int} (h : Bz k z) {p : Int × Int} (h0 : -20 ≤ p.1) (h1 : p.1 ≤ 20) : Bz (k + 1) (numZ us z p) := by
  have := absI_le h0 h1
  have := hgt_le us p.2.toNat
  simp only [Bz, numZ] at h ⊢
  split <;> omega
theorem foldZ_B {us : List Nat} {n : Nat} {s : Sta} (h : StaN n s) {C : Int} (h0 : 0 ≤ C) (h1 : C ≤ 100) (i : Nat) : Bz (1 + ((numsL s).take i).length) (((numsL s).take i).foldl (numZ us) (C, 0, 0)) :=
  foldl_B (fun x hx k z hh => numZ_B hh (nums_num h x (List.mem_of_mem_take hx)).1 (nums_num h x (List.mem_of_mem_take hx)).2.1) (by simp only [Bz]; omega)
theorem mvSize_fn (f g : Bool) (ns : List ByteArray) (us : List Nat) (hs0 : Szs ns) (hu : U32 us) (hc : checkF ns us = 0) (s : Sta) (hs : StaN us.length s) :
    Fn Tryz.prog 73 [.agg [.sl f 1 (strRow ns), .sl g 1 (u32Row us)], .agg (staF false false false false s)] [] (.agg (encZ (sizeZ us (0, 0, 0) s))) [] := by
  have hnf := numbers_fn s
  have l1 := hs.codeL
  have l2 := hs.memL
  have l3 := hs.stackL
  have l4 := hs.outL
  have hit := numbers_it s ⟨by omega, by omega, by omega, by omega⟩
  rw [sizeZ_num hs]
  obtain ⟨n, hn⟩ : ∃ n, (s.code.filter deedB).length = n := ⟨_, rfl⟩
  have hnl : n ≤ 12 := by rw [← hn]; exact Nat.le_trans (List.length_filter_le _ _) l1
  have w1 : IntKind.i64.wrap ((s.code.length : Int) + (n : Int)) = (s.code.length : Int) + (n : Int) := wrapI (by omega) (by omega)
  have w2 : IntKind.i64.wrap ((s.code.length : Int) + (n : Int) + (s.mem.length : Int)) = (s.code.length : Int) + (n : Int) + (s.mem.length : Int) := wrapI (by omega) (by omega)
  have w3 : IntKind.i64.wrap ((s.code.length : Int) + (n : Int) + (s.mem.length : Int) + (s.stack.length : Int)) = (s.code.length : Int) + (n : Int) + (s.mem.length : Int) + (s.stack.length : Int) := wrapI (by omega) (by omega)
  obtain ⟨C, hC⟩ : ∃ C : Int, (0 : Int) + ((s.code.length + s.mem.length + s.stack.length + s.out.length + (s.code.filter deedB).length : Nat) : Int) = C := ⟨_, rfl⟩
  rw [hC]
  rw [hn] at hC
  have w4 : IntKind.i64.wrap ((s.code.length : Int) + (n : Int) + (s.mem.length : Int) + (s.stack.length : Int) + (s.out.length : Int)) = C := by rw [wrapI (by omega) (by omega)]; omega
  have hC0 : 0 ≤ C := by omega
  have hC1 : C ≤ 100 := by omega
  simp only [staF] at hnf hit ⊢
  refine Fn.of (fn := Tryz.f73) (by kernel_rfl) rfl (by kernel_rfl) ⟨[.agg [.sl f 1 (strRow ns), .sl g 1 (u32Row us)], .agg [.v (.int .i64 s.v), .v (.int .i64 s.l), .sl false 3 (tRow s.code), .sl false 2 (pRow s.mem), .sl false 3 (sRow s.stack), .sl false 2 (pRow s.out)], .v undef, .v undef, .v undef, .v undef, .v undef, .v undef, .v undef, .v undef, .v undef, .v undef, .v undef, .v undef, .v undef, .v undef, .v undef, .v undef, .v undef, .v undef, .v undef, .v undef, .v undef, .v undef, .v undef, .v undef, .v undef, .v undef, .v undef, .v undef, .v undef, .v undef, .v undef, .v undef, .v undef, .v undef, .v undef, .v undef, .v undef, .v undef, .v undef, .v undef, .v undef, .v undef, .v undef, .v undef, .v undef, .v undef, .v undef, .v undef, .v undef, .v undef, .v undef, .v undef, .v undef, .v undef, .v undef, .v undef, .v undef, .v undef], []⟩ rfl ?_
  by_cases h0 : 0 < s.code.length
  · have hcl := clT_fn false s.code h0 (by omega)
    have hde := deleteFuncT_fn s.code s.code.length rfl 166 [] deedB (by omega) rfl (fun x _ => noop_fn x)
    repeat' first | (with_reducible first | refine AWP_seq' ?_ | refine k_normal ?_ | refine AWP_block ?_) | ((first | with_reducible refine AWP_reg fun KC J hJ hKC => ?_ | (refine hKC _ _ _ _ _ (callN [] hcl rfl rfl rfl (by simp) (fun _ h => by cases h) rfl rfl rfl Lq ?_)) | (refine hKC _ _ _ _ _ (callK [3] hde rfl rfl rfl (by decide) (by simp) rfl (by simp only [push_cast, pick, mOf, idx, renSlot, ren_tCells]) (by simp only [push_cast, mOf, idx]; exact ⟨leD_refl _, leD_refl _, trivial⟩) ?_)) | (refine hKC _ _ _ _ _ (callV0 (hnf) rfl rfl rfl ?_ ?_); (· exact Lq))); simp (maxSteps := 9999999) only [push_cast, seval, ↓reduceIte, hn, w1, w2, w3, w4, backOf, callSets, renSlot, pick, mOf, idx, ren_tCells]) | ((with_reducible refine hJ _ _ ?_); clear hJ hKC KC J)
    refine AWP_le ([.any, .any, .ptr 0 0 0, .ptr 1 0 0, .ptr 2 0 0, .any, .ptr 5 0 0, .any, .any, .any, .any, .any, .any, .any, .any, .any, .any, .any, .any, .any, .any, .any, .any, .any, .any, .any, .any, .any, .any, .any, .any, .any, .any, .any, .any, .fn 252 [.fad [.v (.int .i64 s.v), .v (.int .i64 s.l), .sl false 3 (tRow s.code), .sl false 2 (pRow s.mem), .sl false 3 (sRow s.stack), .sl false 2 (pRow s.out)]], .any, .any, .any, .any, .any, .any, .any, .any, .any, .any, .any, .any, .any, .any, .any, .any, .any, .any, .any, .any, .any, .any, .any, .any]) (by exact Lq) ?_
    refine AWP_range (f := 252) rfl rfl hit (fun i hi => rfl) 7 rfl rfl
      (fun i => [.ent ⟨0, none, 25, [.sl f 1 (strRow ns), .sl g 1 (u32Row us)], .cells⟩, .ent ⟨0, none, 39, [.v (.int .i64 s.v), .v (.int .i64 s.l), .sl false 3 (tRow s.code), .sl false 2 (pRow s.mem), .sl false 3 (sRow s.stack), .sl false 2 (pRow s.out)], .cells⟩, .ent ⟨0, none, 66, [.v (.int .i64 0), .v (.int .i64 0), .v (.int .i64 0)], .cells⟩, .dead, .free, .ent ⟨0, none, 66, encZ (((numsL s).take i).foldl (numZ us) (C, 0, 0)), .cells⟩, .free])
      (by simp only [List.take_zero, List.foldl_nil, encZ]) (fun i => rfl) (fun i => rfl) (fun i => rfl) (fun _ => true) .ret .ret rfl
      (fun i => [.any, .any, .ptr 0 0 0, .ptr 1 0 0, .ptr 2 0 0, .any, .ptr 5 0 0, .v (.int .i64 ((numsL s).getD i (0, 0)).1), .v (.int .i64 ((numsL s).getD i (0, 0)).2), .any, .any, .any, .any, .any, .any, .any, .any, .any, .any, .any, .any, .any, .any, .any, .any, .any, .any, .any, .any, .any, .any, .any, .any, .any, .any, .fn 252 [.fad [.v (.int .i64 s.v), .v (.int .i64 s.l), .sl false 3 (tRow s.code), .sl false 2 (pRow s.mem), .sl false 3 (sRow s.stack), .sl false 2 (pRow s.out)]], .v (.int .i64 ((numsL s).getD i (0, 0)).1), .v (.int .i64 ((numsL s).getD i (0, 0)).2), .any, .any, .any, .any, .any, .any, .any, .any, .any, .any, .any, .any, .any, .any, .any, .any, .any, .any, .any, .any, .any, .any])
      (fun l' i r hi => ?_) (fun i => rfl) (fun l' i hi _ => ?_) (fun _ => ?_) (fun k hk h _ => by cases h)
    · skip
      repeat' first | (with_reducible first | refine AWP_seq' ?_ | refine k_normal ?_) | ((with_reducible refine And.intro ?_ ?_); · exact Sq) | ((with_reducible refine AWP_reg fun KC J hJ hKC => ?_); simp (maxSteps := 9999999) only [push_cast, seval, ↓reduceIte]) | ((with_reducible refine hJ _ _ ?_); clear hJ hKC KC J)
      exact rfl
    · dsimp only
      have hx : (numsL s)[i]? = some (numsL s)[i] := List.getElem?_eq_getElem hi
      obtain ⟨p, hp⟩ : ∃ p, (numsL s)[i] = p := ⟨_, rfl⟩
      rw [hp] at hx
      have hg : (numsL s).getD i (0, 0) = p := by rw [List.getD_eq_getElem?_getD, hx]; rfl
      have hst : ((numsL s).take (i + 1)).foldl (numZ us) (C, 0, 0) = numZ us (((numsL s).take i).foldl (numZ us) (C, 0, 0)) p := foldl_succ _ _ hx
      have hpn := nums_num hs p (List.mem_of_getElem? hx)
      have hZB := foldZ_B (us := us) hs hC0 hC1 i
      rw [hst]
      obtain ⟨z, hz⟩ : ∃ z, ((numsL s).take i).foldl (numZ us) (C, 0, 0) = z := ⟨_, rfl⟩
      rw [hz] at hZB ⊢
      rw [hg]
      obtain ⟨v, l⟩ := p
      simp only [encZ, numZ] at hpn ⊢
      have wn : IntKind.i64.wrap (0 - v) = 0 - v := wrapI (by omega) (by omega)
      have hm : (if 0 - v > v then 0 - v else v) = absI v := by unfold absI; split <;> split <;> omega
      have hai := absI_le hpn.1 hpn.2.1
      simp only [Bz] at hZB
      have hzl : ((numsL s).take i).length ≤ 39 := Nat.le_trans (List.length_take_le' _ _) (by simp [numsL]; omega)
      have ws : IntKind.i64.wrap (z.2.1 + absI v) = z.2.1 + absI v := wrapI (by omega) (by omega)
      by_cases hl0 : 0 ≤ l
      · have hod := hpn.2.2 hl0
        obtain ⟨a, rfl, ha⟩ := oddL_no hod
        have hh := latHeight_fn f g ns us hs0 hu hc a ha
        have hhl := hgt_le us a
        have wh : IntKind.i64.wrap (z.2.2 + ((hgt us a : Nat) : Int)) = z.2.2 + ((hgt us a : Nat) : Int) := wrapI (by omega) (by omega)
        rw [if_pos hl0, Int.toNat_natCast]
        repeat' first | (with_reducible first | refine AWP_seq' ?_ | refine k_normal ?_ | refine b_normal ?_ | refine AWP_block ?_) | ((first | with_reducible refine AWP_reg fun KC J hJ hKC => ?_ | (refine hKC _ _ _ _ _ (callV0 (hh) rfl rfl rfl ?_ ?_); (· exact Lq))); simp (maxSteps := 9999999) only [push_cast, seval, ↓reduceIte, wn, hm, ws, wh, hl0]) | ((with_reducible refine hJ _ _ ?_); clear hJ hKC KC J) | ((with_reducible refine AWP_condT ?_ ?_); · rfl)
        exact ⟨(by first | exact weakS_free (k := 0) rfl rfl rfl | exact weakS_free (k := 1) rfl rfl rfl | exact weakS_free (k := 2) rfl rfl rfl | exact weakS_free (k := 3) rfl rfl rfl | exact weakS_free (k := 4) rfl rfl rfl | exact weakS_free (k := 5) rfl rfl rfl | exact weakS_free (k := 6) rfl rfl rfl | exact weakS_free (k := 7) rfl rfl rfl | exact weakS_free (k := 8) rfl rfl rfl), rfl⟩
      · rw [if_neg hl0]
        repeat' first | (with_reducible first | refine AWP_seq' ?_ | refine k_normal ?_ | refine b_normal ?_ | refine AWP_skip ?_ | refine AWP_block ?_) | ((with_reducible refine AWP_reg fun KC J hJ hKC => ?_); simp (maxSteps := 9999999) only [push_cast, seval, ↓reduceIte, wn, hm, ws, hl0]) | ((with_reducible refine hJ _ _ ?_); clear hJ hKC KC J) | ((with_reducible refine AWP_condF ?_ ?_); · rfl)
        exact ⟨(by first | exact weakS_free (k := 0) rfl rfl rfl | exact weakS_free (k := 1) rfl rfl rfl | exact weakS_free (k := 2) rfl rfl rfl | exact weakS_free (k := 3) rfl rfl rfl | exact weakS_free (k := 4) rfl rfl rfl | exact weakS_free (k := 5) rfl rfl rfl | exact weakS_free (k := 6) rfl rfl rfl | exact weakS_free (k := 7) rfl rfl rfl | exact weakS_free (k := 8) rfl rfl rfl), rfl⟩
    · dsimp only
      rw [List.take_length]
      simp only [encZ]
      repeat' first | (with_reducible first | refine AWP_seq' ?_ | refine k_normal ?_ | refine b_normal ?_ | refine AWP_ret ?_) | ((with_reducible refine AWP_reg fun KC J hJ hKC => ?_); simp (maxSteps := 9999999) only [push_cast, seval, ↓reduceIte]) | ((with_reducible refine hJ _ _ ?_); clear hJ hKC KC J)
      refine ret_plain ?_
      simp (maxSteps := 9999999) only [push_cast, seval, ↓reduceIte, show Tryz.f73.results = #[(.cell 4 66)] from rfl]
      exact Lq
  · have he : s.code = [] := List.length_eq_zero_iff.1 (by omega)
    have hcl := clT_nil false
    have hde := deleteFuncT_nil 166 [] rfl
    rw [he] at hn
    rw [he] at w1 w2 w3 w4
    have n0 : n = 0 := by rw [← hn]; rfl
    subst n0
    simp only [List.length_nil] at w1 w2 w3 w4
    simp only [he, show tRow [] = [] from rfl] at hnf hit ⊢
    have w0 : IntKind.i64.wrap 0 = 0 := rfl
    have v2 : IntKind.i64.wrap (0 + (s.mem.length : Int)) = (s.mem.length : Int) := by rw [wrapI (by omega) (by omega)]; omega
    have v3 : IntKind.i64.wrap ((s.mem.length : Int) + (s.stack.length : Int)) = (s.mem.length : Int) + (s.stack.length : Int) := wrapI (by omega) (by omega)
    have v4 : IntKind.i64.wrap ((s.mem.length : Int) + (s.stack.length : Int) + (s.out.length : Int)) = C := by
      rw [he] at hC
      simp only [List.length_nil] at hC
      rw [wrapI (by omega) (by omega)]; omega
    repeat' first | (with_reducible first | refine AWP_seq' ?_ | refine k_normal ?_ | refine AWP_block ?_) | ((first | with_reducible refine AWP_reg fun KC J hJ hKC => ?_ | (refine hKC _ _ _ _ _ (callV0 (hcl) rfl rfl rfl ?_ ?_); (· exact Lq)) | (refine hKC _ _ _ _ _ (callV0 (hde) rfl rfl rfl ?_ ?_); (· exact Lq)) | (refine hKC _ _ _ _ _ (callV0 (hnf) rfl rfl rfl ?_ ?_); (· exact Lq))); simp (maxSteps := 9999999) only [push_cast, seval, ↓reduceIte, w0, v2, v3, v4, List.length_nil]) | ((with_reducible refine hJ _ _ ?_); clear hJ hKC KC J)
    refine AWP_le ([.any, .any, .ptr 0 0 0, .ptr 1 0 0, .ptr 2 0 0, .any, .ptr 5 0 0, .any, .any, .any, .any, .any, .any, .any, .any, .any, .any, .any, .any, .any, .any, .any, .any, .any, .any, .any, .any, .any, .any, .any, .any, .any, .any, .any, .any, .fn 252 [.fad [.v (.int .i64 s.v), .v (.int .i64 s.l), .sl false 3 ([]), .sl false 2 (pRow s.mem), .sl false 3 (sRow s.stack), .sl false 2 (pRow s.out)]], .any, .any, .any, .any, .any, .any, .any, .any, .any, .any, .any, .any, .any, .any, .any, .any, .any, .any, .any, .any, .any, .any, .any, .any]) (by exact Lq) ?_
    refine AWP_range (f := 252) rfl rfl hit (fun i hi => rfl) 7 rfl rfl
      (fun i => [.ent ⟨0, none, 25, [.sl f 1 (strRow ns), .sl g 1 (u32Row us)], .cells⟩, .ent ⟨0, none, 39, [.v (.int .i64 s.v), .v (.int .i64 s.l), .sl false 3 ([]), .sl false 2 (pRow s.mem), .sl false 3 (sRow s.stack), .sl false 2 (pRow s.out)], .cells⟩, .ent ⟨0, none, 66, [.v (.int .i64 0), .v (.int .i64 0), .v (.int .i64 0)], .cells⟩, .free, .free, .ent ⟨0, none, 66, encZ (((numsL s).take i).foldl (numZ us) (C, 0, 0)), .cells⟩, .free])
      (by simp only [List.take_zero, List.foldl_nil, encZ]) (fun i => rfl) (fun i => rfl) (fun i => rfl) (fun _ => true) .ret .ret rfl
      (fun i => [.any, .any, .ptr 0 0 0, .ptr 1 0 0, .ptr 2 0 0, .any, .ptr 5 0 0, .v (.int .i64 ((numsL s).getD i (0, 0)).1), .v (.int .i64 ((numsL s).getD i (0, 0)).2), .any, .any, .any, .any, .any, .any, .any, .any, .any, .any, .any, .any, .any, .any, .any, .any, .any, .any, .any, .any, .any, .any, .any, .any, .any, .any, .fn 252 [.fad [.v (.int .i64 s.v), .v (.int .i64 s.l), .sl false 3 ([]), .sl false 2 (pRow s.mem), .sl false 3 (sRow s.stack), .sl false 2 (pRow s.out)]], .v (.int .i64 ((numsL s).getD i (0, 0)).1), .v (.int .i64 ((numsL s).getD i (0, 0)).2), .any, .any, .any, .any, .any, .any, .any, .any, .any, .any, .any, .any, .any, .any, .any, .any, .any, .any, .any, .any, .any, .any])
      (fun l' i r hi => ?_) (fun i => rfl) (fun l' i hi _ => ?_) (fun _ => ?_) (fun k hk h _ => by cases h)
    · skip
      repeat' first | (with_reducible first | refine AWP_seq' ?_ | refine k_normal ?_) | ((with_reducible refine And.intro ?_ ?_); · exact Sq) | ((with_reducible refine AWP_reg fun KC J hJ hKC => ?_); simp (maxSteps := 9999999) only [push_cast, seval, ↓reduceIte]) | ((with_reducible refine hJ _ _ ?_); clear hJ hKC KC J)
      exact rfl
    · dsimp only
      have hx : (numsL s)[i]? = some (numsL s)[i] := List.getElem?_eq_getElem hi
      obtain ⟨p, hp⟩ : ∃ p, (numsL s)[i] = p := ⟨_, rfl⟩
      rw [hp] at hx
      have hg : (numsL s).getD i (0, 0) = p := by rw [List.getD_eq_getElem?_getD, hx]; rfl
      have hst : ((numsL s).take (i + 1)).foldl (numZ us) (C, 0, 0) = numZ us (((numsL s).take i).foldl (numZ us) (C, 0, 0)) p := foldl_succ _ _ hx
      have hpn := nums_num hs p (List.mem_of_getElem? hx)
      have hZB := foldZ_B (us := us) hs hC0 hC1 i
      rw [hst]
      obtain ⟨z, hz⟩ : ∃ z, ((numsL s).take i).foldl (numZ us) (C, 0, 0) = z := ⟨_, rfl⟩
      rw [hz] at hZB ⊢
      rw [hg]
      obtain ⟨v, l⟩ := p
      simp only [encZ, numZ] at hpn ⊢
      have wn : IntKind.i64.wrap (0 - v) = 0 - v := wrapI (by omega) (by omega)
      have hm : (if 0 - v > v then 0 - v else v) = absI v := by unfold absI; split <;> split <;> omega
      have hai := absI_le hpn.1 hpn.2.1
      simp only [Bz] at hZB
      have hzl : ((numsL s).take i).length ≤ 39 := Nat.le_trans (List.length_take_le' _ _) (by simp [numsL]; omega)
      have ws : IntKind.i64.wrap (z.2.1 + absI v) = z.2.1 + absI v := wrapI (by omega) (by omega)
      by_cases hl0 : 0 ≤ l
      · have hod := hpn.2.2 hl0
        obtain ⟨a, rfl, ha⟩ := oddL_no hod
        have hh := latHeight_fn f g ns us hs0 hu hc a ha
        have hhl := hgt_le us a
        have wh : IntKind.i64.wrap (z.2.2 + ((hgt us a : Nat) : Int)) = z.2.2 + ((hgt us a : Nat) : Int) := wrapI (by omega) (by omega)
        rw [if_pos hl0, Int.toNat_natCast]
        repeat' first | (with_reducible first | refine AWP_seq' ?_ | refine k_normal ?_ | refine b_normal ?_ | refine AWP_block ?_) | ((first | with_reducible refine AWP_reg fun KC J hJ hKC => ?_ | (refine hKC _ _ _ _ _ (callV0 (hh) rfl rfl rfl ?_ ?_); (· exact Lq))); simp (maxSteps := 9999999) only [push_cast, seval, ↓reduceIte, wn, hm, ws, wh, hl0]) | ((with_reducible refine hJ _ _ ?_); clear hJ hKC KC J) | ((with_reducible refine AWP_condT ?_ ?_); · rfl)
        exact ⟨(by first | exact weakS_free (k := 0) rfl rfl rfl | exact weakS_free (k := 1) rfl rfl rfl | exact weakS_free (k := 2) rfl rfl rfl | exact weakS_free (k := 3) rfl rfl rfl | exact weakS_free (k := 4) rfl rfl rfl | exact weakS_free (k := 5) rfl rfl rfl | exact weakS_free (k := 6) rfl rfl rfl | exact weakS_free (k := 7) rfl rfl rfl | exact weakS_free (k := 8) rfl rfl rfl), rfl⟩
      · rw [if_neg hl0]
        repeat' first | (with_reducible first | refine AWP_seq' ?_ | refine k_normal ?_ | refine b_normal ?_ | refine AWP_skip ?_ | refine AWP_block ?_) | ((with_reducible refine AWP_reg fun KC J hJ hKC => ?_); simp (maxSteps := 9999999) only [push_cast, seval, ↓reduceIte, wn, hm, ws, hl0]) | ((with_reducible refine hJ _ _ ?_); clear hJ hKC KC J) | ((with_reducible refine AWP_condF ?_ ?_); · rfl)
        exact ⟨(by first | exact weakS_free (k := 0) rfl rfl rfl | exact weakS_free (k := 1) rfl rfl rfl | exact weakS_free (k := 2) rfl rfl rfl | exact weakS_free (k := 3) rfl rfl rfl | exact weakS_free (k := 4) rfl rfl rfl | exact weakS_free (k := 5) rfl rfl rfl | exact weakS_free (k := 6) rfl rfl rfl | exact weakS_free (k := 7) rfl rfl rfl | exact weakS_free (k := 8) rfl rfl rfl), rfl⟩
    · dsimp only
      rw [List.take_length]
      simp only [encZ]
      repeat' first | (with_reducible first | refine AWP_seq' ?_ | refine k_normal ?_ | refine b_normal ?_ | refine AWP_ret ?_) | ((with_reducible refine AWP_reg fun KC J hJ hKC => ?_); simp (maxSteps := 9999999) only [push_cast, seval, ↓reduceIte]) | ((with_reducible refine hJ _ _ ?_); clear hJ hKC KC J)
      refine ret_plain ?_
      simp (maxSteps := 9999999) only [push_cast, seval, ↓reduceIte, show Tryz.f73.results = #[(.cell 4 66)] from rfl]
      exact Lq
end Go.Proofs.YtabliglgeiajlaaGreat.AM

namespace Go.Proofs.YtabliglgeiajlaaGreat.AM
open Go Go.RowKit Go.Proofs
set_option maxRecDepth 100000
set_option maxHeartbeats 4000000
theorem sizeZ_B0 {us : List Nat} {n : Nat} {s : Sta} (h : StaN n s) : Bz 40 (sizeZ us (0, 0, 0) s) := by
  have l1 := h.codeL
  have l2 := h.memL
  have l3 := h.stackL
  have l4 := h.outL
  have h1 := List.length_filter_le deedB s.code
  rw [sizeZ_num h]
  have h2 := foldZ_B (us := us) h (C := 0 + ((s.code.length + s.mem.length + s.stack.length + s.out.length + (s.code.filter deedB).length : Nat) : Int)) (by omega) (by omega) (numsL s).length
  rw [List.take_length] at h2
  have h3 : (numsL s).length ≤ 39 := by simp [numsL]; omega
  simp only [Bz] at h2 ⊢
  omega
def measF (ns : List ByteArray) (us : List Nat) (a b : Sta) : Int × Int × Int := if mayT ns us a b = 0 then siz2 us (a, b) else (0, 0, 0)
theorem mayT_ok {ns : List ByteArray} {us : List Nat} {a b : Sta} (h : mayT ns us a b = 0) : checkF ns us = 0 ∧ staB us.length a = true ∧ staB us.length b = true := by
  unfold mayT at h
  split at h
  · split at h
    · rename_i h1 h2; exact ⟨h1, h2⟩
    · cases h
  · rename_i h1; exact absurd h h1
theorem mvMeasure_fn (f g : Bool) (ns : List ByteArray) (us : List Nat) (a b : Sta) (hs : Szs ns) (hu : U32 us) (ha : Sml a) (hb : Sml b) :
    Fn Tryz.prog 29 [.agg [.sl f 1 (strRow ns), .sl g 1 (u32Row us)], .agg (encT a b)] [] (.tup [.agg (encZ (measF ns us a b)), .v (.int .i64 (mayT ns us a b))]) [] := by
  have h1 := mvMay_fn f g ns us a b hs hu ha hb
  unfold measF
  by_cases hm : mayT ns us a b = 0
  · obtain ⟨hc, hA, hB⟩ := mayT_ok hm
    have h2 := mvSize_fn f g ns us hs hu hc a (sta_num hA)
    have h3 := mvSize_fn f g ns us hs hu hc b (sta_num hB)
    have b2 := sizeZ_B0 (us := us) (sta_num hA)
    have b3 := sizeZ_B0 (us := us) (sta_num hB)
    rw [hm] at h1
    rw [if_pos hm, hm]
    simp only [siz2, addT]
    obtain ⟨⟨x1, x2, x3⟩, hx⟩ : ∃ x, sizeZ us (0, 0, 0) a = x := ⟨_, rfl⟩
    obtain ⟨⟨y1, y2, y3⟩, hy⟩ : ∃ x, sizeZ us (0, 0, 0) b = x := ⟨_, rfl⟩
    rw [hx] at h2 b2
    rw [hy] at h3 b3
    rw [hx, hy]
    simp only [Bz] at b2 b3
    have w1 : IntKind.i64.wrap (x1 + y1) = x1 + y1 := wrapI (by omega) (by omega)
    have w2 : IntKind.i64.wrap (x2 + y2) = x2 + y2 := wrapI (by omega) (by omega)
    have w3 : IntKind.i64.wrap (x3 + y3) = x3 + y3 := wrapI (by omega) (by omega)
    simp only [encT, staF, encZ, List.cons_append, List.nil_append] at h1 h2 h3 ⊢
    refine Fn.of (fn := Tryz.f29) (by kernel_rfl) rfl (by kernel_rfl) ⟨[.agg [.sl f 1 (strRow ns), .sl g 1 (u32Row us)], .agg [.v (.int .i64 a.v), .v (.int .i64 a.l), .sl false 3 (tRow a.code), .sl false 2 (pRow a.mem), .sl false 3 (sRow a.stack), .sl false 2 (pRow a.out), .v (.int .i64 b.v), .v (.int .i64 b.l), .sl false 3 (tRow b.code), .sl false 2 (pRow b.mem), .sl false 3 (sRow b.stack), .sl false 2 (pRow b.out)], .v undef, .v undef, .v undef, .v undef, .v undef, .v undef, .v undef, .v undef, .v undef, .v undef, .v undef, .v undef, .v undef, .v undef, .v undef, .v undef, .v undef, .v undef, .v undef, .v undef, .v undef, .v undef, .v undef, .v undef, .v undef, .v undef, .v undef, .v undef, .v undef, .v undef, .v undef, .v undef, .v undef, .v undef, .v undef, .v undef, .v undef, .v undef], []⟩ rfl ?_
    repeat' first | (with_reducible first | refine AWP_seq' ?_ | refine k_normal ?_ | refine AWP_ret ?_ | refine AWP_skip ?_) | ((first | with_reducible refine AWP_reg fun KC J hJ hKC => ?_ | with_reducible refine AWP_regD rfl fun KC J hJ hKC => ?_ | (refine hKC _ _ _ _ _ (callV0 (h1) rfl rfl rfl ?_ ?_); (· exact Lq)) | (refine hKC _ _ _ _ _ (callV0 (h2) rfl rfl rfl ?_ ?_); (· exact Lq)) | (refine hKC _ _ _ _ _ (callV0 (h3) rfl rfl rfl ?_ ?_); (· exact Lq))); simp (maxSteps := 9999999) only [push_cast, seval, ↓reduceIte, bne_self_eq_false, w1, w2, w3]) | ((first | with_reducible refine hJ _ _ ?_ | (with_reducible refine hJ _ _ ?_ ?_; · kernel_rfl)); clear hJ hKC KC J) | ((with_reducible refine AWP_condF ?_ ?_); · rfl)
    refine ret_plain ?_
    simp (maxSteps := 9999999) only [push_cast, seval, ↓reduceIte, show Tryz.f29.results = #[(.cell 4 66), (.tmp 5)] from rfl]
    exact Lq
  · obtain ⟨c, hc⟩ : ∃ c, mayT ns us a b = c := ⟨_, rfl⟩
    rw [hc] at h1 hm ⊢
    rw [if_neg hm]
    have hc' : (c != 0) = true := by simpa using hm
    simp only [encT, staF, encZ, List.cons_append, List.nil_append] at h1 ⊢
    refine Fn.of (fn := Tryz.f29) (by kernel_rfl) rfl (by kernel_rfl) ⟨[.agg [.sl f 1 (strRow ns), .sl g 1 (u32Row us)], .agg [.v (.int .i64 a.v), .v (.int .i64 a.l), .sl false 3 (tRow a.code), .sl false 2 (pRow a.mem), .sl false 3 (sRow a.stack), .sl false 2 (pRow a.out), .v (.int .i64 b.v), .v (.int .i64 b.l), .sl false 3 (tRow b.code), .sl false 2 (pRow b.mem), .sl false 3 (sRow b.stack), .sl false 2 (pRow b.out)], .v undef, .v undef, .v undef, .v undef, .v undef, .v undef, .v undef, .v undef, .v undef, .v undef, .v undef, .v undef, .v undef, .v undef, .v undef, .v undef, .v undef, .v undef, .v undef, .v undef, .v undef, .v undef, .v undef, .v undef, .v undef, .v undef, .v undef, .v undef, .v undef, .v undef, .v undef, .v undef, .v undef, .v undef, .v undef, .v undef, .v undef, .v undef], []⟩ rfl ?_
    repeat' first | (with_reducible first | refine AWP_seq' ?_ | refine k_normal ?_ | refine k_ret ?_ | refine AWP_ret ?_) | ((first | with_reducible refine AWP_reg fun KC J hJ hKC => ?_ | (refine hKC _ _ _ _ _ (callV0 (h1) rfl rfl rfl ?_ ?_); (· exact Lq))); simp (maxSteps := 9999999) only [push_cast, seval, ↓reduceIte, hc']) | ((with_reducible refine hJ _ _ ?_); clear hJ hKC KC J) | ((with_reducible refine AWP_condT ?_ ?_); · rfl)
    refine ret_plain ?_
    simp (maxSteps := 9999999) only [push_cast, seval, ↓reduceIte, show Tryz.f29.results = #[(.cell 4 66), (.tmp 5)] from rfl]
    exact Lq
end Go.Proofs.YtabliglgeiajlaaGreat.AM

namespace Go.Proofs.YtabliglgeiajlaaGreat.AM
open Go Go.RowKit Go.Proofs
set_option maxRecDepth 100000
set_option maxHeartbeats 4000000
theorem moves_it (L : List (Mv × Mv)) (hl : L.length ≤ 1000) :
    ItFn Tryz.prog 152 [.fad [.sl false 2 (mvRow L)]] L.length (fun i => [mvD (L.getD i (.still, .still)).1, mvD (L.getD i (.still, .still)).2]) := by
  intro m inv ok frr rr hrec hcl hlen hy n hn
  have hrl := mvRow_length L
  refine Fn.of (fn := Tryz.f152) (by kernel_rfl) rfl (by kernel_rfl) ⟨[.kref false m 0, .fad [.sl false 2 (mvRow L)], .v undef, .v undef, .v undef, .v undef, .v undef, .v undef, .v undef, .v undef, .v undef, .v undef, .v undef, .v undef, .v undef, .v undef, .v undef, .v undef, .v undef], inv 0⟩ rfl ?_
  repeat' first | (with_reducible first | refine AWP_seq' ?_ | refine k_normal ?_ | refine AWP_block ?_) | ((with_reducible refine AWP_reg fun KC J hJ hKC => ?_); simp (maxSteps := 9999999) only [push_cast, seval, ↓reduceIte]) | ((with_reducible refine hJ _ _ ?_); clear hJ hKC KC J)
  refine AWP_loopD (m + 1) (γ := {i : Nat // i ≤ L.length ∧ ∀ j, j < i → ok j = true}) (fun i => ⟨[.kref false m 0, .any, .any, .any, .any, .sl false 2 (mvRow L), .v (.int .i64 L.length), .v (.int .i64 i.1), .any, .any, .any, .any, .any, .any, .any, .any, .any, .any, .any], inv i.1⟩) (fun i => L.length - i.1) ⟨0, by omega, fun j hj => by omega⟩ (fun i => hlen _) (fun i => hcl _) (fun i => ?_) ⟨?_, ?_⟩ ?_
  · simp only [List.map_cons, List.map_nil, ren, ren2, ren1, ren0, mOf_range, Nat.lt_succ_self, if_true]
  · simp only [hrl]
    exact Lq
  · exact Fq
  rintro ⟨i, hi, hok⟩
  dsimp only
  by_cases hlt : (i : Int) < (L.length : Int)
  · have hx : L[i]? = some L[i] := List.getElem?_eq_getElem (by omega)
    obtain ⟨x, hxx⟩ : ∃ x, L[i] = x := ⟨_, rfl⟩
    rw [hxx] at hx
    have hyi := hy i (by omega) hok
    have hat : L.getD i (.still, .still) = x := by
      rw [List.getD_eq_getElem?_getD, hx]; rfl
    simp only [hat] at hyi
    obtain ⟨K, hK⟩ : ∃ K, i = K := ⟨_, rfl⟩
    have hge := getE_mv hx
    have hLL : (inv (i + 1)).length = (inv i).length := by rw [hlen, hlen]
    have hset := setsF_pre (rest := [Slot.ent ⟨0, none, 203, [mvD x.1, mvD x.2], .cells⟩, Slot.free]) hLL
    cases hoki : ok i with
    | true =>
      rw [hoki] at hyi
      repeat' first | (with_reducible first | refine AWP_seq' ?_ | refine k_normal ?_ | refine b_normal ?_ | refine AWP_skip ?_ | refine AWP_block ?_) | ((with_reducible refine And.intro ?_ ?_); · exact Sq) | ((first | with_reducible refine AWP_reg fun KC J hJ hKC => ?_ | (refine hKC _ _ _ _ _ (callY hyi (hrec i) (hcl i) (hcl (i + 1)) hLL rfl (Nat.le_succ _) rfl rfl rfl (by simp only [push_cast]) ?_))); simp (maxSteps := 9999999) only [push_cast, seval, ↓reduceIte, hlt, hge, hrl, hset, getS_len, getS_len1, set_len, set_len1, List.append_assoc, List.cons_append, List.nil_append, wrapN (i := i) (n := L.length) (by omega) (by omega)]) | ((with_reducible refine hJ _ _ ?_); clear hJ hKC KC J) | ((with_reducible refine AWP_condT ?_ ?_); · rfl) | ((with_reducible refine AWP_condF ?_ ?_); · rfl)
      refine ⟨⟨i + 1, by omega, fun j hj => ?_⟩, by simp only; omega, ?_, ?_⟩
      · by_cases he : j = i
        · rw [he]; exact hoki
        · exact hok j (by omega)
      · exact Lq
      · exact ⟨_, rfl⟩
    | false =>
      rw [hoki] at hyi
      repeat' first | (with_reducible first | refine AWP_seq' ?_ | refine k_normal ?_ | refine k_ret ?_ | refine b_ret ?_ | refine AWP_ret ?_ | refine AWP_skip ?_ | refine AWP_block ?_) | ((with_reducible refine And.intro ?_ ?_); · exact Sq) | ((first | with_reducible refine AWP_reg fun KC J hJ hKC => ?_ | (refine hKC _ _ _ _ _ (callY hyi (hrec i) (hcl i) (hcl (i + 1)) hLL rfl (Nat.le_succ _) rfl rfl rfl (by simp only [push_cast]) ?_))); simp (maxSteps := 9999999) only [push_cast, seval, ↓reduceIte, hlt, hge, hrl, hset, getS_len, getS_len1, set_len, set_len1, List.append_assoc, List.cons_append, List.nil_append, wrapN (i := i) (n := L.length) (by omega) (by omega)]) | ((with_reducible refine hJ _ _ ?_); clear hJ hKC KC J) | ((with_reducible refine AWP_condT ?_ ?_); · rfl)
      have hni : n = i + 1 := by
        rcases hn with ⟨h1, h2⟩ | ⟨k, h1, h2, h3, h4⟩
        · have := h2 i (by omega); rw [hoki] at this; cases this
        · rcases Nat.lt_trichotomy k i with h | h | h
          · have := hok k h; rw [h3] at this; cases this
          · omega
          · have := h4 i h; rw [hoki] at this; cases this
      rw [hni, hlen]
      exact ret_itX [_, _] (.inr rfl) rfl rfl (hcl _) (by rw [hlen])
  have hin : i = L.length := by omega
  subst hin
  repeat' first | (with_reducible first | refine AWP_seq' ?_ | refine k_normal ?_ | refine k_exit ?_ | refine b_exit ?_ | refine AWP_exit ?_) | ((with_reducible refine AWP_reg fun KC J hJ hKC => ?_); simp (maxSteps := 9999999) only [push_cast, seval, ↓reduceIte, hlt]) | ((with_reducible refine hJ _ _ ?_); clear hJ hKC KC J) | ((with_reducible refine AWP_condF ?_ ?_); · rfl)
  have hni : n = L.length := by
    rcases hn with ⟨h1, h2⟩ | ⟨k, h1, h2, h3, h4⟩
    · exact h1
    · have := hok k (by omega); rw [h3] at this; cases this
  rw [hni, hlen]
  exact ret_itX [] (.inl rfl) rfl (by simp) (hcl _) (by rw [hlen])
def twoRow (R : List (Sta × Sta)) : List (List D) := R.map fun y => encT y.1 y.2
def twoCells (R : List (Sta × Sta)) : List D := (twoRow R).flatten
theorem twoCells_length (R : List (Sta × Sta)) : (twoCells R).length = R.length * 12 := by
  induction R with
  | nil => rfl
  | cons a l ih => simp [twoCells, twoRow, staF] at *; omega
theorem twoCells_app (a b : List (Sta × Sta)) : twoCells (a ++ b) = twoCells a ++ twoCells b := by simp [twoCells, twoRow]
@[push_cast] theorem frz_twoCells (R : List (Sta × Sta)) : frzAll (twoCells R) = true := by
  induction R with
  | nil => rfl
  | cons a l ih => simpa [twoCells, twoRow, staF, frzAll, frz, frz0] using ih
@[push_cast] theorem fr_twoCells (k g sz : Nat) (c : List D) (R : List (Sta × Sta)) : (twoCells R).map (fr1 k g sz c) = twoCells R := by
  induction R with
  | nil => rfl
  | cons a l ih => simpa [twoCells, twoRow, staF, fr1, fr0] using ih
theorem ren_twoCells (m : Nat → Option Nat) (R : List (Sta × Sta)) : (twoCells R).map (ren m) = twoCells R := by
  induction R with
  | nil => rfl
  | cons a l ih => simpa [twoCells, twoRow, staF, ren, ren2, ren1, ren0] using ih
theorem chunk_two (R : List (Sta × Sta)) : chunk 12 R.length (twoCells R) = twoRow R := by
  induction R with
  | nil => rfl
  | cons a l ih =>
    show chunk 12 (l.length + 1) (encT a.1 a.2 ++ twoCells l) = encT a.1 a.2 :: twoRow l
    rw [chunk, List.take_left' (show (encT a.1 a.2).length = 12 from rfl), List.drop_left' (show (encT a.1 a.2).length = 12 from rfl), ih]
theorem allOf_take {s t : Sta} {L : List (Mv × Mv)} {i : Nat} {m : Mv × Mv} (h : L[i]? = some m) : allOf s t (L.take (i + 1)) = allOf s t (L.take i) ++ (if likeT s t m = true then [] else [mkT s t m]) := by
  unfold allOf
  rw [List.take_add_one, h, List.filter_append, List.map_append]
  congr 1
  simp only [Option.toList_some, List.filter_cons, List.filter_nil]
  cases likeT s t m <;> rfl
theorem allOf_le (s t : Sta) (L : List (Mv × Mv)) (i : Nat) : (allOf s t (L.take i)).length ≤ L.length := by
  unfold allOf
  rw [List.length_map]
  exact Nat.le_trans (List.length_filter_le _ _) (List.length_take_le' _ _)
def rS (R : List (Sta × Sta)) : Slot := if R.length = 0 then .free else .ent ⟨R.length - 1, some 12, 56, twoCells R, .cells⟩
theorem rS_case (R : List (Sta × Sta)) : (R = [] ∧ eR 4 R.length = .v (.slice none 0 0) ∧ rS R = .free) ∨ (∃ j, R.length = j + 1 ∧ eR 4 R.length = .ref 4 j (j + 1) ∧ rS R = .ent ⟨j, some 12, 56, twoCells R, .cells⟩) := by
  cases R with
  | nil => exact .inl ⟨rfl, rfl, rfl⟩
  | cons a l => exact .inr ⟨l.length, rfl, rfl, rfl⟩
theorem sta_sml {n : Nat} {s : Sta} (h : staB n s = true) : Sml s := by
  have := sta_num h
  exact ⟨by have := this.codeL; omega, by have := this.memL; omega, by have := this.stackL; omega, by have := this.outL; omega⟩
theorem sta_15 {n : Nat} {s : Sta} (h : staB n s = true) : Sml15 s := by
  have := sta_num h
  exact ⟨by have := this.codeL; omega, by have := this.memL; omega, by have := this.stackL; omega, by have := this.outL; omega⟩
def allM (ns : List ByteArray) (us : List Nat) (s t : Sta) : List (Sta × Sta) := if mayT ns us s t = 0 then allF (botI us) s t else []
theorem mvAll_fn (f g : Bool) (ns : List ByteArray) (us : List Nat) (s t : Sta) (hs : Szs ns) (hu : U32 us) (ha : Sml s) (hb : Sml t) :
    Fn Tryz.prog 24 [.agg [.sl f 1 (strRow ns), .sl g 1 (u32Row us)], .agg (encT s t)] [] (.tup [.sl false 12 (twoRow (allM ns us s t)), .v (.int .i64 (mayT ns us s t))]) [] := by
  have h1 := mvMay_fn f g ns us s t hs hu ha hb
  unfold allM
  by_cases hm : mayT ns us s t = 0
  · obtain ⟨hc, hA, hB⟩ := mayT_ok hm
    have h2 := moves_fn f g ns us hs hu hc s t (sta_15 hA) (sta_15 hB)
    have hbo := botI_spec hc
    rw [hm] at h1
    rw [if_pos hm, hm]
    unfold allF
    have hok : ∀ m ∈ movesL (botI us) s t, MvOk us m.1 ∧ MvOk us m.2 := fun m h => movesL_ok hbo h
    have hLl : (movesL (botI us) s t).length ≤ 1000 := by
      have e := A7_all s t (botI us)
      have e2 := A7_le s t (botI us) (placesF s).length
      have e3 := placesF_len s
      have s1 := sta_15 hA
      have s2 := sta_15 hB
      have := s1.code
      have := s1.mem
      have := s1.stack
      have := s2.stack
      rw [← e]; omega
    obtain ⟨L, hL⟩ : ∃ L, movesL (botI us) s t = L := ⟨_, rfl⟩
    rw [hL] at h2 hok hLl ⊢
    have hit := moves_it L hLl
    simp only [encT, staF, List.cons_append, List.nil_append] at h1 h2 ⊢
    refine Fn.of (fn := Tryz.f24) (by kernel_rfl) rfl (by kernel_rfl) ⟨[.agg [.sl f 1 (strRow ns), .sl g 1 (u32Row us)], .agg [.v (.int .i64 s.v), .v (.int .i64 s.l), .sl false 3 (tRow s.code), .sl false 2 (pRow s.mem), .sl false 3 (sRow s.stack), .sl false 2 (pRow s.out), .v (.int .i64 t.v), .v (.int .i64 t.l), .sl false 3 (tRow t.code), .sl false 2 (pRow t.mem), .sl false 3 (sRow t.stack), .sl false 2 (pRow t.out)], .v undef, .v undef, .v undef, .v undef, .v undef, .v undef, .v undef, .v undef, .v undef, .v undef, .v undef, .v undef, .v undef, .v undef, .v undef, .v undef, .v undef, .v undef, .v undef, .v undef, .v undef, .v undef, .v undef, .v undef, .v undef, .v undef, .v undef, .v undef, .v undef, .v undef, .v undef, .v undef, .v undef, .v undef, .v undef, .v undef, .v undef, .v undef, .v undef, .v undef, .v undef, .v undef, .v undef, .v undef, .v undef, .v undef, .v undef, .v undef], []⟩ rfl ?_
    repeat' first | (refine AWP_freezeR 5 0 rfl (by (simp (maxSteps := 9999999) only [push_cast, seval, ↓reduceIte]) <;> rfl) ?_; simp (maxSteps := 9999999) only [push_cast, seval, ↓reduceIte, frSt, frSlot, fr3, fr2, fr1, fr0, sameB, arrOf, bne_self_eq_false]) | (refine AWP_freezeR 5 1 rfl (by (simp (maxSteps := 9999999) only [push_cast, seval, ↓reduceIte]) <;> rfl) ?_; simp (maxSteps := 9999999) only [push_cast, seval, ↓reduceIte, frSt, frSlot, fr3, fr2, fr1, fr0, sameB, arrOf, bne_self_eq_false]) | (with_reducible first | refine AWP_seq' ?_ | refine k_normal ?_ | refine AWP_skip ?_ | refine AWP_block ?_) | ((first | with_reducible refine AWP_reg fun KC J hJ hKC => ?_ | (refine hKC _ _ _ _ _ (callV0 (h1) rfl rfl rfl ?_ ?_); (· exact Lq)) | (refine hKC _ _ _ _ _ (callV0 (h2) rfl rfl rfl ?_ ?_); (· exact Lq))); simp (maxSteps := 9999999) only [push_cast, seval, ↓reduceIte, bne_self_eq_false]) | ((with_reducible refine hJ _ _ ?_); clear hJ hKC KC J) | ((with_reducible refine AWP_condF ?_ ?_); · rfl)
    refine AWP_le ([.any, .any, .any, .fad [.v (.int .i64 s.v), .v (.int .i64 s.l), .sl false 3 (tRow s.code), .sl false 2 (pRow s.mem), .sl false 3 (sRow s.stack), .sl false 2 (pRow s.out), .v (.int .i64 t.v), .v (.int .i64 t.l), .sl false 3 (tRow t.code), .sl false 2 (pRow t.mem), .sl false 3 (sRow t.stack), .sl false 2 (pRow t.out)], .any, .any, .any, .ptr 3 0 0, .any, .any, .any, .any, .any, .any, .any, .any, .any, .any, .any, .fn 152 [.fad [.sl false 2 (mvRow L)]], .any, .any, .any, .any, .any, .any, .any, .any, .any, .any, .any, .any, .any, .any, .any, .any, .any, .any, .any, .any, .any, .any, .any, .any, .any, .any, .any, .any, .any, .any]) (by exact Lq) ?_
    refine AWP_rangeU (f := 152) rfl rfl hit (fun i hi => rfl) 5 rfl rfl
      (fun i => [.dead, .dead, .free, .ent ⟨0, none, 58, [eR 4 (allOf s t (L.take i)).length], .cells⟩, rS (allOf s t (L.take i))])
      rfl (fun i => rfl) (fun i => ?_) (fun i => ?_) (fun _ => true) .ret .ret rfl
      (fun i => [.any, .any, .any, .fad [.v (.int .i64 s.v), .v (.int .i64 s.l), .sl false 3 (tRow s.code), .sl false 2 (pRow s.mem), .sl false 3 (sRow s.stack), .sl false 2 (pRow s.out), .v (.int .i64 t.v), .v (.int .i64 t.l), .sl false 3 (tRow t.code), .sl false 2 (pRow t.mem), .sl false 3 (sRow t.stack), .sl false 2 (pRow t.out)], .any, .any, .any, .ptr 3 0 0, mvD (L.getD i (.still, .still)).1, mvD (L.getD i (.still, .still)).2, .any, .any, .any, .any, .any, .any, .any, .any, .any, .fn 152 [.fad [.sl false 2 (mvRow L)]], mvD (L.getD i (.still, .still)).1, mvD (L.getD i (.still, .still)).2, .any, .any, .any, .any, .any, .any, .any, .any, .any, .any, .any, .any, .any, .any, .any, .any, .any, .any, .any, .any, .any, .any, .any, .any, .any, .any, .any, .any])
      (fun l' i r hi => ?_) (fun i => ?_) (fun l' i hi _ => ?_) (fun _ => ?_) (fun k hk h _ => by cases h)
    · rcases rS_case (allOf s t (L.take i)) with ⟨_, hD, hσ⟩ | ⟨j, _, hD, hσ⟩
      all_goals
        simp only [hD, hσ, List.map_cons, List.map_nil, renSlot, ren_twoCells]
        rfl
    · refine clsd_all ?_
      rcases rS_case (allOf s t (L.take i)) with ⟨_, hD, hσ⟩ | ⟨j, _, hD, hσ⟩
      all_goals
        simp only [hD, hσ, List.map_cons, List.map_nil, renSlot, ren_twoCells]
        rfl
    · skip
      repeat' first | (with_reducible first | refine AWP_seq' ?_ | refine k_normal ?_) | ((with_reducible refine And.intro ?_ ?_); · exact Sq) | ((with_reducible refine AWP_reg fun KC J hJ hKC => ?_); simp (maxSteps := 9999999) only [push_cast, seval, ↓reduceIte]) | ((with_reducible refine hJ _ _ ?_); clear hJ hKC KC J)
      exact rfl
    · simp only [List.map_cons, List.map_nil, ren_mvD]
      rfl
    · dsimp only
      have hx : L[i]? = some L[i] := List.getElem?_eq_getElem hi
      obtain ⟨m, hmm⟩ : ∃ m, L[i] = m := ⟨_, rfl⟩
      rw [hmm] at hx
      have hg : L.getD i (.still, .still) = m := by rw [List.getD_eq_getElem?_getD, hx]; rfl
      rw [hg]
      obtain ⟨k1, k2⟩ := hok m (List.mem_of_getElem? hx)
      have hst := allOf_take (s := s) (t := t) hx
      have hle := allOf_le s t L i
      have f1 := mv_fn m.1 k1 s (sta_num hA)
      have f2 := mv_fn m.2 k2 t (sta_num hB)
      have c1 := mv_B k1 hA
      have c2 := mv_B k2 hB
      have f3 := stLike_fn (mvF m.1 s) s (sta_sml c1)
      have f4 := stLike_fn (mvF m.2 t) t (sta_sml c2)
      have hz1 := mvC_frz m.1
      have hz2 := mvC_frz m.2
      unfold likeT mkT at hst
      obtain ⟨y1, hy1⟩ : ∃ y, mvF m.1 s = y := ⟨_, rfl⟩
      obtain ⟨y2, hy2⟩ : ∃ y, mvF m.2 t = y := ⟨_, rfl⟩
      rw [hy1, hy2] at hst
      rw [hy1] at f1 f3
      rw [hy2] at f2 f4
      simp only [staF] at f1 f2 f3 f4
      obtain ⟨b1, hb1⟩ : ∃ b, likeS y1 s = b := ⟨_, rfl⟩
      obtain ⟨b2, hb2⟩ : ∃ b, likeS y2 t = b := ⟨_, rfl⟩
      rw [hb1] at f3 hst
      rw [hb2] at f4 hst
      obtain ⟨R, hR⟩ : ∃ R, allOf s t (L.take i) = R := ⟨_, rfl⟩
      obtain ⟨R', hR'⟩ : ∃ R, allOf s t (L.take (i + 1)) = R := ⟨_, rfl⟩
      rw [hR] at hst hle ⊢
      rw [hR'] at hst ⊢
      rcases rS_case R with ⟨h0, hD, hσ⟩ | ⟨j, h0, hD, hσ⟩
      · cases b1 <;> cases b2
        all_goals
          simp only [Bool.and_self, Bool.and_true, Bool.and_false, Bool.true_and, Bool.false_and, if_true, if_false, Bool.false_eq_true, List.append_nil] at hst
          repeat' first | (with_reducible first | refine AWP_seq' ?_ | refine k_normal ?_ | refine b_normal ?_ | refine AWP_skip ?_ | refine AWP_block ?_) | ((first | with_reducible refine AWP_reg fun KC J hJ hKC => ?_ | with_reducible refine AWP_regD rfl fun KC J hJ hKC => ?_ | (refine hKC _ _ _ _ _ (callV0 (f1) rfl rfl rfl ?_ ?_); (· exact Lq)) | (refine hKC _ _ _ _ _ (callV0 (f2) rfl rfl rfl ?_ ?_); (· exact Lq)) | (refine hKC _ _ _ _ _ (callV0 (f3) rfl rfl rfl ?_ ?_); (· exact Lq)) | (refine hKC _ _ _ _ _ (callV0 (f4) rfl rfl rfl ?_ ?_); (· exact Lq))); simp (maxSteps := 9999999) only [push_cast, seval, ↓reduceIte, hD, hσ, undef, Bool.not_true, Bool.not_false, backOf, callSets, renSlot, pick, mOf, idx, ren_twoCells]) | ((first | with_reducible refine hJ _ _ ?_ | (with_reducible refine hJ _ _ ?_ ?_; · kernel_rfl)); clear hJ hKC KC J) | ((with_reducible refine AWP_condT ?_ ?_); · rfl) | ((with_reducible refine AWP_condF ?_ ?_); · rfl)
        all_goals
          refine ⟨?_, rfl⟩
          subst h0
          rw [hst]
        iterate 3
          · refine WeakU.of_free (p := [.dead, .dead, .free, .ent ⟨0, none, 58, [.v (.slice none 0 0)], .cells⟩]) (k := 1) rfl ⟨[0, 1, 2, 3, 11], by decide, ?_, ?_⟩
            · intro k hk
              match k, hk with
              | 0, _ => rfl
              | 1, _ => rfl
              | 2, _ => rfl
              | 3, _ => rfl
            · simp only [pick, List.map_cons, List.map_nil, getS, renSlot, push_cast, mOf, idx]
              exact leS_refl _
        · refine WeakU.of_free (p := [.dead, .dead, .free, .ent ⟨0, none, 58, [.v (.slice none 0 0)], .cells⟩]) (k := 1) rfl ⟨[0, 1, 2, 3, 4], by decide, ?_, ?_⟩
          · intro k hk
            match k, hk with
            | 0, _ => rfl
            | 1, _ => rfl
            | 2, _ => rfl
            | 3, _ => rfl
          · simp only [pick, List.map_cons, List.map_nil, getS, renSlot, push_cast, mOf, idx]
            exact leS_refl _
      · have hlC : (twoCells R).length = (j + 1) * 12 := by rw [twoCells_length, h0]
        have htC := take_len hlC
        have hbm : Nat.beq j j = true := Nat.beq_refl j
        have hn1 : ∀ y, (R ++ [y]).length = j + 2 := fun y => by rw [List.length_append, h0]; rfl
        have hD1 : ∀ y, eR 4 (R ++ [y]).length = .ref 4 (j + 1) (j + 2) := fun y => by rw [hn1]; rfl
        have hD2 : eR 4 (R.length + 1) = .ref 4 (j + 1) (j + 2) := by rw [h0]; rfl
        have hσ1 : ∀ y, rS (R ++ [y]) = .ent ⟨j + 1, some 12, 56, twoCells R ++ encT y.1 y.2, .cells⟩ := fun y => by
          unfold rS; rw [hn1, if_neg (by omega), twoCells_app]; simp [twoCells, twoRow]
        cases b1 <;> cases b2
        all_goals
          simp only [Bool.and_self, Bool.and_true, Bool.and_false, Bool.true_and, Bool.false_and, if_true, if_false, Bool.false_eq_true, List.append_nil] at hst
          repeat' first | (with_reducible first | refine AWP_seq' ?_ | refine k_normal ?_ | refine b_normal ?_ | refine AWP_skip ?_ | refine AWP_block ?_) | ((with_reducible refine And.intro ?_ ?_); · exact Sq) | ((first | with_reducible refine AWP_reg fun KC J hJ hKC => ?_ | with_reducible refine AWP_regD rfl fun KC J hJ hKC => ?_ | (refine hKC _ _ _ _ _ (callV0 (f1) rfl rfl rfl ?_ ?_); (· exact Lq)) | (refine hKC _ _ _ _ _ (callV0 (f2) rfl rfl rfl ?_ ?_); (· exact Lq)) | (refine hKC _ _ _ _ _ (callV0 (f3) rfl rfl rfl ?_ ?_); (· exact Lq)) | (refine hKC _ _ _ _ _ (callV0 (f4) rfl rfl rfl ?_ ?_); (· exact Lq))); simp (maxSteps := 9999999) only [push_cast, seval, ↓reduceIte, hD, hσ, undef, hlC, htC, hbm, Bool.not_true, Bool.not_false, backOf, callSets, renSlot, pick, mOf, idx, ren_twoCells]) | ((first | with_reducible refine hJ _ _ ?_ | (with_reducible refine hJ _ _ ?_ ?_; · kernel_rfl)); clear hJ hKC KC J) | ((with_reducible refine AWP_condT ?_ ?_); · rfl) | ((with_reducible refine AWP_condF ?_ ?_); · rfl)
        all_goals
          refine ⟨WeakU.of (n := 5) rfl ⟨[0, 1, 2, 3, 4], by decide, ?_, ?_⟩, rfl⟩
          · intro k hk
            match k, hk with
            | 0, _ => rfl
            | 1, _ => rfl
            | 2, _ => rfl
            | 3, _ => rfl
            | 4, _ => rfl
          · rw [hst]
            simp only [hD, hσ, hD1, hD2, hσ1, pick, List.map_cons, List.map_nil, List.map_append, getS, renSlot, ren_twoCells, push_cast, mOf, idx]
            exact leS_refl _
    · dsimp only
      rw [List.take_length]
      obtain ⟨R, hR⟩ : ∃ R, allOf s t L = R := ⟨_, rfl⟩
      rw [hR]
      rcases rS_case R with ⟨h0, hD, hσ⟩ | ⟨j, h0, hD, hσ⟩
      · subst h0
        simp only [show twoRow [] = [] from rfl]
        repeat' first | (with_reducible first | refine AWP_seq' ?_ | refine k_normal ?_ | refine b_normal ?_ | refine AWP_ret ?_) | ((with_reducible refine AWP_reg fun KC J hJ hKC => ?_); simp (maxSteps := 9999999) only [push_cast, seval, ↓reduceIte, hD, hσ]) | ((with_reducible refine hJ _ _ ?_); clear hJ hKC KC J)
        refine ret_plain ?_
        simp (maxSteps := 9999999) only [push_cast, seval, ↓reduceIte, show Tryz.f24.results = #[(.tmp 4), (.tmp 5)] from rfl]
        exact Lq
      · have hlC : (twoCells R).length = (j + 1) * 12 := by rw [twoCells_length, h0]
        have hcp : chunk 12 (j + 1) (twoCells R) = twoRow R := by rw [← h0]; exact chunk_two R
        have hbm : Nat.beq j j = true := Nat.beq_refl j
        simp only [hD, hσ, List.cons_append, List.nil_append]
        repeat' first | (refine AWP_freezeR 11 4 rfl (by (simp (maxSteps := 9999999) only [push_cast, seval, ↓reduceIte]) <;> rfl) ?_; simp (maxSteps := 9999999) only [push_cast, seval, ↓reduceIte, frSt, frSlot, fr3, fr2, fr1, fr0, sameB, arrOf, hlC, hcp, hbm]) | (with_reducible first | refine AWP_seq' ?_ | refine k_normal ?_ | refine b_normal ?_ | refine AWP_ret ?_) | ((with_reducible refine AWP_reg fun KC J hJ hKC => ?_); simp (maxSteps := 9999999) only [push_cast, seval, ↓reduceIte, hlC, hcp, hbm]) | ((with_reducible refine hJ _ _ ?_); clear hJ hKC KC J)
        refine ret_plain ?_
        simp (maxSteps := 9999999) only [push_cast, seval, ↓reduceIte, show Tryz.f24.results = #[(.tmp 4), (.tmp 5)] from rfl]
        exact Lq
  · obtain ⟨c, hc⟩ : ∃ c, mayT ns us s t = c := ⟨_, rfl⟩
    rw [hc] at h1 hm ⊢
    rw [if_neg hm]
    have hc' : (c != 0) = true := by simpa using hm
    simp only [encT, staF, List.cons_append, List.nil_append, show twoRow [] = [] from rfl] at h1 ⊢
    refine Fn.of (fn := Tryz.f24) (by kernel_rfl) rfl (by kernel_rfl) ⟨[.agg [.sl f 1 (strRow ns), .sl g 1 (u32Row us)], .agg [.v (.int .i64 s.v), .v (.int .i64 s.l), .sl false 3 (tRow s.code), .sl false 2 (pRow s.mem), .sl false 3 (sRow s.stack), .sl false 2 (pRow s.out), .v (.int .i64 t.v), .v (.int .i64 t.l), .sl false 3 (tRow t.code), .sl false 2 (pRow t.mem), .sl false 3 (sRow t.stack), .sl false 2 (pRow t.out)], .v undef, .v undef, .v undef, .v undef, .v undef, .v undef, .v undef, .v undef, .v undef, .v undef, .v undef, .v undef, .v undef, .v undef, .v undef, .v undef, .v undef, .v undef, .v undef, .v undef, .v undef, .v undef, .v undef, .v undef, .v undef, .v undef, .v undef, .v undef, .v undef, .v undef, .v undef, .v undef, .v undef, .v undef, .v undef, .v undef, .v undef, .v undef, .v undef, .v undef, .v undef, .v undef, .v undef, .v undef, .v undef, .v undef, .v undef, .v undef], []⟩ rfl ?_
    repeat' first | (with_reducible first | refine AWP_seq' ?_ | refine k_normal ?_ | refine k_ret ?_ | refine AWP_ret ?_) | ((first | with_reducible refine AWP_reg fun KC J hJ hKC => ?_ | (refine hKC _ _ _ _ _ (callV0 (h1) rfl rfl rfl ?_ ?_); (· exact Lq))); simp (maxSteps := 9999999) only [push_cast, seval, ↓reduceIte, hc']) | ((with_reducible refine hJ _ _ ?_); clear hJ hKC KC J) | ((with_reducible refine AWP_condT ?_ ?_); · rfl)
    refine ret_plain ?_
    simp (maxSteps := 9999999) only [push_cast, seval, ↓reduceIte, show Tryz.f24.results = #[(.tmp 4), (.tmp 5)] from rfl]
    exact Lq
end Go.Proofs.YtabliglgeiajlaaGreat.AM
