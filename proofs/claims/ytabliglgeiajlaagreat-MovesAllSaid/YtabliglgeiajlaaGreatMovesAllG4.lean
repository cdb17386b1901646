/- Walks and plain laws, put together: part 4. -/
import Derived.Test.YtabliglgeiajlaaGreatMovesAllG3
import Derived.Test.YtabliglgeiajlaaGreatMovesAllG0
import Derived.Test.YtabliglgeiajlaaGreatMc
import Derived.Test.YtabliglgeiajlaaGreatMovesAllG1
set_option linter.unusedSimpArgs false
set_option linter.unusedVariables false
namespace Go.Proofs.YtabliglgeiajlaaGreat.AM
open Go Go.RowKit Go.Proofs
set_option maxRecDepth 100000
set_option maxHeartbeats 4000000
def dW : Do → Int
  | .half b => (b : Int)
  | .bot _ => 2
def dB : Do → Int
  | .half _ => 0
  | .bot b => b
theorem rmDone_fn {us : List Nat} {d : Do} (hd : DoOk us d) (v l : Int) (h0 : -20 ≤ v) (h1 : v ≤ 20) : Fn Tryz.prog 251 [.agg [.v (.int .i64 (dW d)), .v (.int .i64 (dB d))], .agg [.v (.int .i64 v), .v (.int .i64 l)]] [] (.agg [.v (.int .i64 (doF d (v, l)).1), .v (.int .i64 (doF d (v, l)).2)]) [] := by
  cases d with
  | half b =>
    have h2 := tdiv2 v
    have hb : -20 ≤ v.tdiv 2 ∧ v.tdiv 2 ≤ 20 := by rcases Int.le_total 0 v with h | h <;> omega
    have w1 : IntKind.i64.wrap (v.tdiv 2) = v.tdiv 2 := wrapI (by omega) (by omega)
    match b, hd with
    | 0, _ =>
      rw [show (doF (.half 0) (v, l)).1 = 0 by simp [doF], show (doF (.half 0) (v, l)).2 = l from rfl, show dW (.half 0) = 0 from rfl, show dB (.half 0) = 0 from rfl]
      refine Fn.of (fn := Tryz.f251) (by kernel_rfl) rfl (by kernel_rfl) ⟨[.agg [.v (.int .i64 0), .v (.int .i64 0)], .agg [.v (.int .i64 v), .v (.int .i64 l)], .v undef, .v undef, .v undef, .v undef, .v undef, .v undef, .v undef, .v undef, .v undef, .v undef, .v undef, .v undef, .v undef, .v undef, .v undef, .v undef, .v undef, .v undef, .v undef, .v undef, .v undef], []⟩ rfl ?_
      repeat' first | (with_reducible first | refine AWP_seq' ?_ | refine k_normal ?_ | refine AWP_ret ?_ | refine AWP_skip ?_) | ((with_reducible refine AWP_reg fun KC J hJ hKC => ?_); simp (maxSteps := 9999999) only [push_cast, seval, ↓reduceIte]) | ((with_reducible refine hJ _ _ ?_); clear hJ hKC KC J) | ((with_reducible refine AWP_condT ?_ ?_); · rfl) | ((with_reducible refine AWP_condF ?_ ?_); · rfl)
      refine ret_plain ?_
      simp (maxSteps := 9999999) only [push_cast, seval, ↓reduceIte, show Tryz.f251.results = #[(.cell 4 34)] from rfl]
      exact Lq
    | 1, _ =>
      rw [show (doF (.half 1) (v, l)).1 = v.tdiv 2 by simp [doF], show (doF (.half 1) (v, l)).2 = l from rfl, show dW (.half 1) = 1 from rfl, show dB (.half 1) = 0 from rfl]
      refine Fn.of (fn := Tryz.f251) (by kernel_rfl) rfl (by kernel_rfl) ⟨[.agg [.v (.int .i64 1), .v (.int .i64 0)], .agg [.v (.int .i64 v), .v (.int .i64 l)], .v undef, .v undef, .v undef, .v undef, .v undef, .v undef, .v undef, .v undef, .v undef, .v undef, .v undef, .v undef, .v undef, .v undef, .v undef, .v undef, .v undef, .v undef, .v undef, .v undef, .v undef], []⟩ rfl ?_
      repeat' first | (with_reducible first | refine AWP_seq' ?_ | refine k_normal ?_ | refine AWP_ret ?_ | refine AWP_skip ?_) | ((with_reducible refine AWP_reg fun KC J hJ hKC => ?_); simp (maxSteps := 9999999) only [push_cast, seval, ↓reduceIte, w1]) | ((with_reducible refine hJ _ _ ?_); clear hJ hKC KC J) | ((with_reducible refine AWP_condT ?_ ?_); · rfl) | ((with_reducible refine AWP_condF ?_ ?_); · rfl)
      refine ret_plain ?_
      simp (maxSteps := 9999999) only [push_cast, seval, ↓reduceIte, show Tryz.f251.results = #[(.cell 4 34)] from rfl]
      exact Lq
  | bot b =>
    rw [show (doF (.bot b) (v, l)).1 = v from rfl, show (doF (.bot b) (v, l)).2 = b from rfl, show dW (.bot b) = 2 from rfl, show dB (.bot b) = b from rfl]
    refine Fn.of (fn := Tryz.f251) (by kernel_rfl) rfl (by kernel_rfl) ⟨[.agg [.v (.int .i64 2), .v (.int .i64 b)], .agg [.v (.int .i64 v), .v (.int .i64 l)], .v undef, .v undef, .v undef, .v undef, .v undef, .v undef, .v undef, .v undef, .v undef, .v undef, .v undef, .v undef, .v undef, .v undef, .v undef, .v undef, .v undef, .v undef, .v undef, .v undef, .v undef], []⟩ rfl ?_
    repeat' first | (with_reducible first | refine AWP_seq' ?_ | refine k_normal ?_ | refine AWP_ret ?_ | refine AWP_skip ?_) | ((with_reducible refine AWP_reg fun KC J hJ hKC => ?_); simp (maxSteps := 9999999) only [push_cast, seval, ↓reduceIte]) | ((with_reducible refine hJ _ _ ?_); clear hJ hKC KC J) | ((with_reducible refine AWP_condT ?_ ?_); · rfl) | ((with_reducible refine AWP_condF ?_ ?_); · rfl)
    refine ret_plain ?_
    simp (maxSteps := 9999999) only [push_cast, seval, ↓reduceIte, show Tryz.f251.results = #[(.cell 4 34)] from rfl]
    exact Lq
def updW {α : Type} (k0 k : Nat) (l : List α) (j : Nat) (g : α → α) : List α := if k = k0 then upd l j g else l
theorem updW_le {α : Type} (k0 k : Nat) (l : List α) (j : Nat) (g : α → α) (i : Nat) : (updW k0 k (l.take i) j g).length ≤ i := by
  unfold updW
  split
  · rw [upd_length]; exact List.length_take_le _ _
  · exact List.length_take_le _ _
theorem updW_take {α : Type} {k0 k j i : Nat} {l : List α} {g : α → α} {x : α} (h : l[i]? = some x) : updW k0 k (l.take (i + 1)) j g = updW k0 k (l.take i) j g ++ [if k = k0 ∧ i = j then g x else x] := by
  unfold updW
  by_cases hk : k = k0
  · rw [if_pos hk, if_pos hk, upd_take h]
    by_cases hi : i = j
    · rw [if_pos hi, if_pos ⟨hk, hi⟩]
    · rw [if_neg hi, if_neg (fun h => hi h.2)]
  · rw [if_neg hk, if_neg hk, if_neg (fun h => hk h.1), List.take_add_one, h]; rfl
theorem atF_W {k : Nat} (hk : k ≤ 2) (j : Nat) (f : Int × Int → Int × Int) (s : Sta) : atF k j f s = { s with code := updW 0 k s.code j (instM f), mem := updW 1 k s.mem j f, stack := updW 2 k s.stack j (slotM f) } := by
  match k, hk with
  | 0, _ => rfl
  | 1, _ => rfl
  | 2, _ => rfl
theorem rmDoK_fn {us : List Nat} (k j : Nat) (hk2 : k ≤ 2) {d : Do} (hd : DoOk us d) (s : Sta) (hs : StaN us.length s) : Fn Tryz.prog 162 [.agg (staF false false false false s), .agg [.v (.int .i64 (k : Int)), .v (.int .i64 (j : Int))], .agg [.v (.int .i64 (dW d)), .v (.int .i64 (dB d))]] [] (.agg (staF false false false false (atF k j (doF d) s))) [] := by
  have l1 := hs.codeL
  have l2 := hs.memL
  have l3 := hs.stackL
  rw [atF_W hk2]
  show Fn _ _ _ _ (.agg [.v (.int .i64 s.v), .v (.int .i64 s.l), .sl false 3 (tRow (updW 0 k s.code j (instM (doF d)))), .sl false 2 (pRow (updW 1 k s.mem j (doF d))), .sl false 3 (sRow (updW 2 k s.stack j (slotM (doF d)))), .sl false 2 (pRow s.out)]) _
  simp only [staF]
  refine Fn.of (fn := Tryz.f162) (by kernel_rfl) rfl (by kernel_rfl) ⟨[.agg [.v (.int .i64 s.v), .v (.int .i64 s.l), .sl false 3 (tRow s.code), .sl false 2 (pRow s.mem), .sl false 3 (sRow s.stack), .sl false 2 (pRow s.out)], .agg [.v (.int .i64 (k : Int)), .v (.int .i64 (j : Int))], .agg [.v (.int .i64 (dW d)), .v (.int .i64 (dB d))], .v undef, .v undef, .v undef, .v undef, .v undef, .v undef, .v undef, .v undef, .v undef, .v undef, .v undef, .v undef, .v undef, .v undef, .v undef, .v undef, .v undef, .v undef, .v undef, .v undef, .v undef, .v undef, .v undef, .v undef, .v undef, .v undef, .v undef, .v undef, .v undef, .v undef, .v undef, .v undef, .v undef, .v undef, .v undef, .v undef, .v undef, .v undef, .v undef, .v undef, .v undef, .v undef, .v undef, .v undef, .v undef, .v undef, .v undef, .v undef, .v undef, .v undef, .v undef, .v undef, .v undef, .v undef, .v undef, .v undef, .v undef, .v undef, .v undef, .v undef, .v undef, .v undef, .v undef, .v undef, .v undef, .v undef, .v undef, .v undef, .v undef, .v undef, .v undef, .v undef, .v undef, .v undef, .v undef, .v undef, .v undef, .v undef, .v undef, .v undef, .v undef, .v undef, .v undef, .v undef, .v undef, .v undef, .v undef, .v undef, .v undef, .v undef, .v undef, .v undef, .v undef, .v undef, .v undef, .v undef, .v undef, .v undef, .v undef, .v undef, .v undef, .v undef, .v undef, .v undef, .v undef, .v undef, .v undef, .v undef, .v undef, .v undef, .v undef, .v undef, .v undef, .v undef, .v undef, .v undef, .v undef, .v undef, .v undef, .v undef, .v undef, .v undef, .v undef, .v undef, .v undef], []⟩ rfl ?_
  repeat' first | (refine AWP_freezeR 2 1 rfl (by (simp (maxSteps := 9999999) only [push_cast, seval, ↓reduceIte]) <;> rfl) ?_; simp (maxSteps := 9999999) only [push_cast, seval, ↓reduceIte, frSt, frSlot, fr3, fr2, fr1, fr0, sameB, arrOf]) | (refine AWP_freezeR 2 2 rfl (by (simp (maxSteps := 9999999) only [push_cast, seval, ↓reduceIte]) <;> rfl) ?_; simp (maxSteps := 9999999) only [push_cast, seval, ↓reduceIte, frSt, frSlot, fr3, fr2, fr1, fr0, sameB, arrOf]) | (with_reducible refine holdB 0 ?_) | (with_reducible first | refine AWP_seq' ?_ | refine k_normal ?_) | ((with_reducible refine AWP_reg fun KC J hJ hKC => ?_); simp (maxSteps := 9999999) only [push_cast, seval, ↓reduceIte]) | ((with_reducible refine hJ _ _ ?_); clear hJ hKC KC J)
  have hxB := hs.code
  refine AWP_cutW 5 ⟨[.any, .any, .any, .ptr 0 0 0, .fad [.v (.int .i64 (k : Int)), .v (.int .i64 (j : Int))], .fad [.v (.int .i64 (dW d)), .v (.int .i64 (dB d))], .ptr 3 0 0, .ptr 4 0 0, .any, .any, .any, .any, .any, .any, .any, .any, .any, .any, .any, .any, .any, .any, .any, .any, .any, .any, .any, .any, .any, .any, .any, .any, .any, .any, .any, .any, .any, .any, .any, .any, .any, .any, .any, .any, .any, .any, .any, .any, .any, .any, .any, .any, .any, .any, .any, .any, .any, .any, .any, .any, .any, .any, .any, .any, .any, .any, .any, .any, .any, .any, .any, .any, .any, .any, .any, .any, .any, .any, .any, .any, .any, .any, .any, .any, .any, .any, .any, .any, .any, .any, .any, .any, .any, .any, .any, .any, .any, .any, .any, .any, .any, .any, .any, .any, .any, .any, .any, .any, .any, .any, .any, .any, .any, .any, .any, .any, .any, .any, .any, .any, .any, .any, .any, .any, .any, .any, .any, .any], [.ent ⟨0, none, 39, [.v (.int .i64 s.v), .v (.int .i64 s.l), .sl false 3 (tRow s.code), .sl false 2 (pRow s.mem), .sl false 3 (sRow s.stack), .sl false 2 (pRow s.out)], .cells⟩, .dead, .dead, .ent ⟨0, none, 39, [.v (.int .i64 0), .v (.int .i64 0), .v (.slice none 0 0), .v (.slice none 0 0), .v (.slice none 0 0), .v (.slice none 0 0)], .cells⟩, .ent ⟨0, none, 39, [.v (.int .i64 s.v), .v (.int .i64 s.l), .sl false 3 (tRow (updW 0 k s.code j (instM (doF d)))), .v (.slice none 0 0), .v (.slice none 0 0), .sl false 2 (pRow s.out)], .cells⟩]⟩ ⟨[_, _, _, _, _], 0, rfl, rfl⟩ ?_ ?_
  · skip
    repeat' first | (with_reducible refine AWP_block ?_)
    refine AWP_loopK 5 (γ := {q : Nat × Option Nat // q.1 ≤ s.code.length ∧ (q.2 = none → updW 0 k (s.code.take q.1) j (instM (doF d)) = []) ∧ (∀ g, q.2 = some g → updW 0 k (s.code.take q.1) j (instM (doF d)) ≠ [])}) (fun q => ⟨[.any, .any, .any, .ptr 0 0 0, .fad [.v (.int .i64 (k : Int)), .v (.int .i64 (j : Int))], .fad [.v (.int .i64 (dW d)), .v (.int .i64 (dB d))], .ptr 3 0 0, .ptr 4 0 0, .any, .any, .any, .any, .any, .any, .any, .any, .any, .any, .any, .any, .any, .any, .sl false 3 (tRow s.code), .v (.int .i64 s.code.length), .v (.int .i64 q.1.1), .any, .any, .any, .any, .any, .any, .any, .any, .any, .any, .any, .any, .any, .any, .any, .any, .any, .any, .any, .any, .any, .any, .any, .any, .any, .any, .any, .any, .any, .any, .any, .any, .any, .any, .any, .any, .any, .any, .any, .any, .any, .any, .any, .any, .any, .any, .any, .any, .any, .any, .any, .any, .any, .any, .any, .any, .any, .any, .any, .any, .any, .any, .any, .any, .any, .any, .any, .any, .any, .any, .any, .any, .any, .any, .any, .any, .any, .any, .any, .any, .any, .any, .any, .any, .any, .any, .any, .any, .any, .any, .any, .any, .any, .any, .any, .any, .any, .any, .any, .any, .any, .any, .any], gσ (fun cq => [.ent ⟨0, none, 39, [.v (.int .i64 s.v), .v (.int .i64 s.l), .sl false 3 (tRow s.code), .sl false 2 (pRow s.mem), .sl false 3 (sRow s.stack), .sl false 2 (pRow s.out)], .cells⟩, .dead, .dead, .ent ⟨0, none, 39, [.v (.int .i64 0), .v (.int .i64 0), .v (.slice none 0 0), .v (.slice none 0 0), .v (.slice none 0 0), .v (.slice none 0 0)], .cells⟩, .ent ⟨0, none, 39, [.v (.int .i64 s.v), .v (.int .i64 s.l), cq, .v (.slice none 0 0), .v (.slice none 0 0), .sl false 2 (pRow s.out)], .cells⟩]) 5 3 100 (.v (.slice none 0 0)) (updW 0 k (s.code.take q.1.1) j (instM (doF d))).length (tCells (updW 0 k (s.code.take q.1.1) j (instM (doF d)))) q.1.2⟩) (fun q => s.code.length - q.1.1) ⟨(0, none), by simp, fun _ => (by simp [updW, upd]), fun g h => by cases h⟩ rfl ⟨?_, ?_⟩ ?_
    · exact Lq
    · exact Fq
    rintro ⟨⟨i, og⟩, hi, hno, hns⟩
    dsimp only at hi hno hns ⊢
    have hLe : (updW 0 k (s.code.take i) j (instM (doF d))).length ≤ i := updW_le 0 k s.code j (instM (doF d)) i
    by_cases hlt : (i : Int) < (s.code.length : Int)
    · have hx : s.code[i]? = some s.code[i] := List.getElem?_eq_getElem (by omega)
      obtain ⟨x, hxx⟩ : ∃ x, s.code[i] = x := ⟨_, rfl⟩
      rw [hxx] at hx
      have hge := getE_t hx
      have hxb := hxB x (List.mem_of_getElem? hx)
      obtain ⟨o, v, l⟩ := x
      simp only at hxb
      have hst9 : updW 0 k (s.code.take (i + 1)) j (instM (doF d)) = updW 0 k (s.code.take i) j (instM (doF d)) ++ [if k = 0 ∧ i = j then (instM (doF d)) (o, v, l) else (o, v, l)] := updW_take hx
      have hdo := rmDone_fn hd v l hxb.1 hxb.2.1
      obtain ⟨v', hv'⟩ : ∃ v', (doF d (v, l)).1 = v' := ⟨_, rfl⟩
      obtain ⟨l', hl'⟩ : ∃ l', (doF d (v, l)).2 = l' := ⟨_, rfl⟩
      have hdd : doF d (v, l) = (v', l') := by rw [← hv', ← hl']
      rw [hv', hl'] at hdo
      by_cases hkj : k = 0 ∧ i = j
      · have hkb : ((k : Int) == 0) = true := by simp [hkj.1]
        have hjb : ((j : Int) == (i : Int)) = true := by simp [hkj.2]
        rw [if_pos hkj] at hst9
        by_cases ho : o = 1
        · subst ho
          have hst : updW 0 k (s.code.take (i + 1)) j (instM (doF d)) = updW 0 k (s.code.take i) j (instM (doF d)) ++ [(1, v', l')] := by rw [hst9, show instM (doF d) (1, v, l) = (1, doF d (v, l)) from rfl, hdd]
          rcases og with _ | gg
          · have hL0 := hno rfl
            rw [hL0, List.nil_append] at hst
            repeat' first | (with_reducible first | refine AWP_seq' ?_ | refine k_normal ?_ | refine b_normal ?_ | refine AWP_skip ?_ | refine AWP_block ?_) | ((with_reducible refine And.intro ?_ ?_); · exact Sq) | ((first | with_reducible refine AWP_reg fun KC J hJ hKC => ?_ | (refine hKC _ _ _ _ _ (callV0 (hdo) rfl rfl rfl ?_ ?_); (· exact Lq))); simp (maxSteps := 9999999) only [push_cast, seval, ↓reduceIte, hlt, gσ, gE, List.cons_append, List.nil_append, hL0, hge, hkb, hjb, undef, wrapN (i := i) (n := s.code.length) (by omega) (by omega)]) | ((with_reducible refine hJ _ _ ?_); clear hJ hKC KC J) | ((with_reducible refine AWP_condT ?_ ?_); · rfl)
            refine ⟨⟨(i + 1, some 0), by simp only; omega, (fun h => by cases h), (fun g h => by rw [hst]; simp)⟩, by simp only; omega, [0, 1, 2, 3, 4, 9], by decide, by decide, ?_, ?_⟩
            · simp only [gσ, gE, List.cons_append, List.nil_append, hst, push_cast, mOf, idx]
              exact Lq
            · simp only [gσ, gE, List.cons_append, List.nil_append, hst, pick, List.map_cons, List.map_nil, List.map_append, getS, renSlot, ren_tCells, push_cast, mOf, idx]
              exact LSq
          · obtain ⟨m, hm⟩ : ∃ m, (updW 0 k (s.code.take i) j (instM (doF d))).length = m := ⟨_, rfl⟩
            have hlC : (tCells (updW 0 k (s.code.take i) j (instM (doF d)))).length = m * 3 := by rw [tCells_length, hm]
            have htC := take_len hlC
            have hbm : Nat.beq gg gg = true := Nat.beq_refl gg
            have hn1 : (updW 0 k (s.code.take (i + 1)) j (instM (doF d))).length = m + 1 := by rw [hst, List.length_append, hm]; rfl
            have hcs : tCells (updW 0 k (s.code.take (i + 1)) j (instM (doF d))) = tCells (updW 0 k (s.code.take i) j (instM (doF d))) ++ tCells [(1, v', l')] := by rw [hst, tCells_app]
            have hst0 := hst
            obtain ⟨L', hL'⟩ : ∃ L', updW 0 k (s.code.take (i + 1)) j (instM (doF d)) = L' := ⟨_, rfl⟩
            rw [hL'] at hn1 hcs
            repeat' first | (with_reducible first | refine AWP_seq' ?_ | refine k_normal ?_ | refine b_normal ?_ | refine AWP_skip ?_ | refine AWP_block ?_) | ((with_reducible refine And.intro ?_ ?_); · exact Sq) | ((first | with_reducible refine AWP_reg fun KC J hJ hKC => ?_ | (refine hKC _ _ _ _ _ (callV0 (hdo) rfl rfl rfl ?_ ?_); (· exact Lq))); simp (maxSteps := 9999999) only [push_cast, seval, ↓reduceIte, hlt, gσ, gE, List.cons_append, List.nil_append, hm, hlC, htC, hbm, hge, hkb, hjb, undef, wrapN (i := i) (n := s.code.length) (by omega) (by omega)]) | ((with_reducible refine hJ _ _ ?_); clear hJ hKC KC J) | ((with_reducible refine AWP_condT ?_ ?_); · rfl)
            refine ⟨⟨(i + 1, some (gg + 1)), by simp only; omega, (fun h => by cases h), (fun g h => by rw [hst0]; simp)⟩, by simp only; omega, [0, 1, 2, 3, 4, 5], by decide, by decide, ?_, ?_⟩
            · simp only [gσ, gE, List.cons_append, List.nil_append, hL', hn1, hcs, push_cast, mOf, idx]
              exact Lq
            · simp only [gσ, gE, List.cons_append, List.nil_append, hL', hn1, hcs, pick, List.map_cons, List.map_nil, List.map_append, getS, renSlot, ren_tCells, push_cast, mOf, idx]
              exact LSq
        · have ho' : (o == 1) = false := by simpa using ho
          have hst : updW 0 k (s.code.take (i + 1)) j (instM (doF d)) = updW 0 k (s.code.take i) j (instM (doF d)) ++ [(o, v, l)] := by rw [hst9, show instM (doF d) (o, v, l) = (o, v, l) from if_neg ho]
          rcases og with _ | gg
          · have hL0 := hno rfl
            rw [hL0, List.nil_append] at hst
            repeat' first | (with_reducible first | refine AWP_seq' ?_ | refine k_normal ?_ | refine b_normal ?_ | refine AWP_skip ?_ | refine AWP_block ?_) | ((with_reducible refine And.intro ?_ ?_); · exact Sq) | ((with_reducible refine AWP_reg fun KC J hJ hKC => ?_); simp (maxSteps := 9999999) only [push_cast, seval, ↓reduceIte, hlt, gσ, gE, List.cons_append, List.nil_append, hL0, hge, hkb, hjb, ho', undef, wrapN (i := i) (n := s.code.length) (by omega) (by omega)]) | ((with_reducible refine hJ _ _ ?_); clear hJ hKC KC J) | ((with_reducible refine AWP_condT ?_ ?_); · rfl) | ((with_reducible refine AWP_condF ?_ ?_); · rfl)
            refine ⟨⟨(i + 1, some 0), by simp only; omega, (fun h => by cases h), (fun g h => by rw [hst]; simp)⟩, by simp only; omega, [0, 1, 2, 3, 4, 7], by decide, by decide, ?_, ?_⟩
            · simp only [gσ, gE, List.cons_append, List.nil_append, hst, push_cast, mOf, idx]
              exact Lq
            · simp only [gσ, gE, List.cons_append, List.nil_append, hst, pick, List.map_cons, List.map_nil, List.map_append, getS, renSlot, ren_tCells, push_cast, mOf, idx]
              exact LSq
          · obtain ⟨m, hm⟩ : ∃ m, (updW 0 k (s.code.take i) j (instM (doF d))).length = m := ⟨_, rfl⟩
            have hlC : (tCells (updW 0 k (s.code.take i) j (instM (doF d)))).length = m * 3 := by rw [tCells_length, hm]
            have htC := take_len hlC
            have hbm : Nat.beq gg gg = true := Nat.beq_refl gg
            have hn1 : (updW 0 k (s.code.take (i + 1)) j (instM (doF d))).length = m + 1 := by rw [hst, List.length_append, hm]; rfl
            have hcs : tCells (updW 0 k (s.code.take (i + 1)) j (instM (doF d))) = tCells (updW 0 k (s.code.take i) j (instM (doF d))) ++ tCells [(o, v, l)] := by rw [hst, tCells_app]
            have hst0 := hst
            obtain ⟨L', hL'⟩ : ∃ L', updW 0 k (s.code.take (i + 1)) j (instM (doF d)) = L' := ⟨_, rfl⟩
            rw [hL'] at hn1 hcs
            repeat' first | (with_reducible first | refine AWP_seq' ?_ | refine k_normal ?_ | refine b_normal ?_ | refine AWP_skip ?_ | refine AWP_block ?_) | ((with_reducible refine And.intro ?_ ?_); · exact Sq) | ((with_reducible refine AWP_reg fun KC J hJ hKC => ?_); simp (maxSteps := 9999999) only [push_cast, seval, ↓reduceIte, hlt, gσ, gE, List.cons_append, List.nil_append, hm, hlC, htC, hbm, hge, hkb, hjb, ho', undef, wrapN (i := i) (n := s.code.length) (by omega) (by omega)]) | ((with_reducible refine hJ _ _ ?_); clear hJ hKC KC J) | ((with_reducible refine AWP_condT ?_ ?_); · rfl) | ((with_reducible refine AWP_condF ?_ ?_); · rfl)
            refine ⟨⟨(i + 1, some (gg + 1)), by simp only; omega, (fun h => by cases h), (fun g h => by rw [hst0]; simp)⟩, by simp only; omega, [0, 1, 2, 3, 4, 5], by decide, by decide, ?_, ?_⟩
            · simp only [gσ, gE, List.cons_append, List.nil_append, hL', hn1, hcs, push_cast, mOf, idx]
              exact Lq
            · simp only [gσ, gE, List.cons_append, List.nil_append, hL', hn1, hcs, pick, List.map_cons, List.map_nil, List.map_append, getS, renSlot, ren_tCells, push_cast, mOf, idx]
              exact LSq
      · rw [if_neg hkj] at hst9
        have hst := hst9
        obtain ⟨c1, hc1⟩ : ∃ c, ((k : Int) == 0) = c := ⟨_, rfl⟩
        obtain ⟨c2, hc2⟩ : ∃ c, ((j : Int) == (i : Int)) = c := ⟨_, rfl⟩
        have hcc : (c1 && c2) = false := by
          cases h1 : c1
          · rfl
          · cases h2 : c2
            · rfl
            · rw [h1] at hc1; rw [h2] at hc2; simp at hc1 hc2; exact absurd ⟨by omega, by omega⟩ hkj
        cases c1
        all_goals first | (rw [Bool.true_and] at hcc; subst hcc) | skip
        case false =>
          rcases og with _ | gg
          · have hL0 := hno rfl
            rw [hL0, List.nil_append] at hst
            repeat' first | (with_reducible first | refine AWP_seq' ?_ | refine k_normal ?_ | refine b_normal ?_ | refine AWP_skip ?_ | refine AWP_block ?_) | ((with_reducible refine And.intro ?_ ?_); · exact Sq) | ((with_reducible refine AWP_reg fun KC J hJ hKC => ?_); simp (maxSteps := 9999999) only [push_cast, seval, ↓reduceIte, hlt, gσ, gE, List.cons_append, List.nil_append, hL0, hge, hc1, undef, wrapN (i := i) (n := s.code.length) (by omega) (by omega)]) | ((with_reducible refine hJ _ _ ?_); clear hJ hKC KC J) | ((with_reducible refine AWP_condT ?_ ?_); · rfl) | ((with_reducible refine AWP_condF ?_ ?_); · rfl)
            refine ⟨⟨(i + 1, some 0), by simp only; omega, (fun h => by cases h), (fun g h => by rw [hst]; simp)⟩, by simp only; omega, [0, 1, 2, 3, 4, 7], by decide, by decide, ?_, ?_⟩
            · simp only [gσ, gE, List.cons_append, List.nil_append, hst, push_cast, mOf, idx]
              exact Lq
            · simp only [gσ, gE, List.cons_append, List.nil_append, hst, pick, List.map_cons, List.map_nil, List.map_append, getS, renSlot, ren_tCells, push_cast, mOf, idx]
              exact LSq
          · obtain ⟨m, hm⟩ : ∃ m, (updW 0 k (s.code.take i) j (instM (doF d))).length = m := ⟨_, rfl⟩
            have hlC : (tCells (updW 0 k (s.code.take i) j (instM (doF d)))).length = m * 3 := by rw [tCells_length, hm]
            have htC := take_len hlC
            have hbm : Nat.beq gg gg = true := Nat.beq_refl gg
            have hn1 : (updW 0 k (s.code.take (i + 1)) j (instM (doF d))).length = m + 1 := by rw [hst, List.length_append, hm]; rfl
            have hcs : tCells (updW 0 k (s.code.take (i + 1)) j (instM (doF d))) = tCells (updW 0 k (s.code.take i) j (instM (doF d))) ++ tCells [(o, v, l)] := by rw [hst, tCells_app]
            have hst0 := hst
            obtain ⟨L', hL'⟩ : ∃ L', updW 0 k (s.code.take (i + 1)) j (instM (doF d)) = L' := ⟨_, rfl⟩
            rw [hL'] at hn1 hcs
            repeat' first | (with_reducible first | refine AWP_seq' ?_ | refine k_normal ?_ | refine b_normal ?_ | refine AWP_skip ?_ | refine AWP_block ?_) | ((with_reducible refine And.intro ?_ ?_); · exact Sq) | ((with_reducible refine AWP_reg fun KC J hJ hKC => ?_); simp (maxSteps := 9999999) only [push_cast, seval, ↓reduceIte, hlt, gσ, gE, List.cons_append, List.nil_append, hm, hlC, htC, hbm, hge, hc1, undef, wrapN (i := i) (n := s.code.length) (by omega) (by omega)]) | ((with_reducible refine hJ _ _ ?_); clear hJ hKC KC J) | ((with_reducible refine AWP_condT ?_ ?_); · rfl) | ((with_reducible refine AWP_condF ?_ ?_); · rfl)
            refine ⟨⟨(i + 1, some (gg + 1)), by simp only; omega, (fun h => by cases h), (fun g h => by rw [hst0]; simp)⟩, by simp only; omega, [0, 1, 2, 3, 4, 5], by decide, by decide, ?_, ?_⟩
            · simp only [gσ, gE, List.cons_append, List.nil_append, hL', hn1, hcs, push_cast, mOf, idx]
              exact Lq
            · simp only [gσ, gE, List.cons_append, List.nil_append, hL', hn1, hcs, pick, List.map_cons, List.map_nil, List.map_append, getS, renSlot, ren_tCells, push_cast, mOf, idx]
              exact LSq
        case true =>
          rcases og with _ | gg
          · have hL0 := hno rfl
            rw [hL0, List.nil_append] at hst
            repeat' first | (with_reducible first | refine AWP_seq' ?_ | refine k_normal ?_ | refine b_normal ?_ | refine AWP_skip ?_ | refine AWP_block ?_) | ((with_reducible refine And.intro ?_ ?_); · exact Sq) | ((with_reducible refine AWP_reg fun KC J hJ hKC => ?_); simp (maxSteps := 9999999) only [push_cast, seval, ↓reduceIte, hlt, gσ, gE, List.cons_append, List.nil_append, hL0, hge, hc1, hc2, undef, wrapN (i := i) (n := s.code.length) (by omega) (by omega)]) | ((with_reducible refine hJ _ _ ?_); clear hJ hKC KC J) | ((with_reducible refine AWP_condT ?_ ?_); · rfl) | ((with_reducible refine AWP_condF ?_ ?_); · rfl)
            refine ⟨⟨(i + 1, some 0), by simp only; omega, (fun h => by cases h), (fun g h => by rw [hst]; simp)⟩, by simp only; omega, [0, 1, 2, 3, 4, 7], by decide, by decide, ?_, ?_⟩
            · simp only [gσ, gE, List.cons_append, List.nil_append, hst, push_cast, mOf, idx]
              exact Lq
            · simp only [gσ, gE, List.cons_append, List.nil_append, hst, pick, List.map_cons, List.map_nil, List.map_append, getS, renSlot, ren_tCells, push_cast, mOf, idx]
              exact LSq
          · obtain ⟨m, hm⟩ : ∃ m, (updW 0 k (s.code.take i) j (instM (doF d))).length = m := ⟨_, rfl⟩
            have hlC : (tCells (updW 0 k (s.code.take i) j (instM (doF d)))).length = m * 3 := by rw [tCells_length, hm]
            have htC := take_len hlC
            have hbm : Nat.beq gg gg = true := Nat.beq_refl gg
            have hn1 : (updW 0 k (s.code.take (i + 1)) j (instM (doF d))).length = m + 1 := by rw [hst, List.length_append, hm]; rfl
            have hcs : tCells (updW 0 k (s.code.take (i + 1)) j (instM (doF d))) = tCells (updW 0 k (s.code.take i) j (instM (doF d))) ++ tCells [(o, v, l)] := by rw [hst, tCells_app]
            have hst0 := hst
            obtain ⟨L', hL'⟩ : ∃ L', updW 0 k (s.code.take (i + 1)) j (instM (doF d)) = L' := ⟨_, rfl⟩
            rw [hL'] at hn1 hcs
            repeat' first | (with_reducible first | refine AWP_seq' ?_ | refine k_normal ?_ | refine b_normal ?_ | refine AWP_skip ?_ | refine AWP_block ?_) | ((with_reducible refine And.intro ?_ ?_); · exact Sq) | ((with_reducible refine AWP_reg fun KC J hJ hKC => ?_); simp (maxSteps := 9999999) only [push_cast, seval, ↓reduceIte, hlt, gσ, gE, List.cons_append, List.nil_append, hm, hlC, htC, hbm, hge, hc1, hc2, undef, wrapN (i := i) (n := s.code.length) (by omega) (by omega)]) | ((with_reducible refine hJ _ _ ?_); clear hJ hKC KC J) | ((with_reducible refine AWP_condT ?_ ?_); · rfl) | ((with_reducible refine AWP_condF ?_ ?_); · rfl)
            refine ⟨⟨(i + 1, some (gg + 1)), by simp only; omega, (fun h => by cases h), (fun g h => by rw [hst0]; simp)⟩, by simp only; omega, [0, 1, 2, 3, 4, 5], by decide, by decide, ?_, ?_⟩
            · simp only [gσ, gE, List.cons_append, List.nil_append, hL', hn1, hcs, push_cast, mOf, idx]
              exact Lq
            · simp only [gσ, gE, List.cons_append, List.nil_append, hL', hn1, hcs, pick, List.map_cons, List.map_nil, List.map_append, getS, renSlot, ren_tCells, push_cast, mOf, idx]
              exact LSq
    have hin : i = s.code.length := by omega
    subst hin
    have hend : updW 0 k (s.code.take s.code.length) j (instM (doF d)) = updW 0 k s.code j (instM (doF d)) := by rw [List.take_length]
    rw [hend] at hno hns ⊢
    obtain ⟨L, hL⟩ : ∃ L, updW 0 k s.code j (instM (doF d)) = L := ⟨_, rfl⟩
    rw [hL] at hno hns ⊢
    rcases og with _ | gg
    · have hL0 := hno rfl
      subst hL0
      repeat' first | (with_reducible first | refine AWP_seq' ?_ | refine k_normal ?_ | refine k_exit ?_ | refine b_exit ?_ | refine AWP_exit ?_) | ((with_reducible refine AWP_reg fun KC J hJ hKC => ?_); simp (maxSteps := 9999999) only [push_cast, seval, ↓reduceIte, hlt, Int.lt_irrefl, gσ, gE, List.cons_append, List.nil_append]) | ((with_reducible refine hJ _ _ ?_); clear hJ hKC KC J) | ((with_reducible refine AWP_condF ?_ ?_); · rfl)
      refine .inl ⟨rfl, [0, 1, 2, 3, 4], by decide, by decide, ?_, ?_⟩
      · simp only [push_cast, mOf, idx, hL]
        exact Lq
      · simp only [hL, pick, List.map_cons, List.map_nil, List.map_append, getS, renSlot, push_cast, mOf, idx, show tRow [] = [] from rfl, show pRow [] = [] from rfl, show sRow [] = [] from rfl]
        exact LSq
    · have hne := hns gg rfl
      obtain ⟨m, hm⟩ : ∃ m, L.length = m := ⟨_, rfl⟩
      have hlC : (tCells L).length = m * 3 := by rw [tCells_length, hm]
      have hcp : chunk 3 m (tCells L) = tRow L := by rw [← hm]; exact chunk_t L
      have hbm : Nat.beq gg gg = true := Nat.beq_refl gg
      simp only [gσ, gE, List.cons_append, List.nil_append, hm]
      repeat' first | (refine AWP_freezeR 3 5 rfl (by (simp (maxSteps := 9999999) only [push_cast, seval, ↓reduceIte]) <;> rfl) ?_; simp (maxSteps := 9999999) only [push_cast, seval, ↓reduceIte, frSt, frSlot, fr3, fr2, fr1, fr0, sameB, arrOf, hlt, Int.lt_irrefl, hlC, hcp, hbm, gσ, gE, List.cons_append, List.nil_append]) | (with_reducible first | refine AWP_seq' ?_ | refine k_normal ?_ | refine k_exit ?_ | refine b_exit ?_ | refine AWP_exit ?_) | ((with_reducible refine AWP_reg fun KC J hJ hKC => ?_); simp (maxSteps := 9999999) only [push_cast, seval, ↓reduceIte, hlt, Int.lt_irrefl, hlC, hcp, hbm, gσ, gE, List.cons_append, List.nil_append]) | ((with_reducible refine hJ _ _ ?_); clear hJ hKC KC J) | ((with_reducible refine AWP_condF ?_ ?_); · rfl)
      refine .inl ⟨rfl, [0, 1, 2, 3, 4], by decide, by decide, ?_, ?_⟩
      · simp only [push_cast, mOf, idx, hL]
        exact Lq
      · simp only [hL, pick, List.map_cons, List.map_nil, List.map_append, getS, renSlot, push_cast, mOf, idx]
        exact LSq
  clear hxB
  repeat' first | (with_reducible refine holdB 2 ?_) | (with_reducible first | refine AWP_seq' ?_ | refine k_normal ?_) | ((with_reducible refine AWP_reg fun KC J hJ hKC => ?_); simp (maxSteps := 9999999) only [push_cast, seval, ↓reduceIte]) | ((with_reducible refine hJ _ _ ?_); clear hJ hKC KC J)
  have hxB := hs.mem
  refine AWP_cutW 5 ⟨[.any, .any, .any, .ptr 0 0 0, .fad [.v (.int .i64 (k : Int)), .v (.int .i64 (j : Int))], .fad [.v (.int .i64 (dW d)), .v (.int .i64 (dB d))], .ptr 3 0 0, .ptr 4 0 0, .any, .any, .any, .any, .any, .any, .any, .any, .any, .any, .any, .any, .any, .any, .any, .any, .any, .any, .any, .any, .any, .any, .any, .any, .any, .any, .any, .any, .any, .any, .any, .any, .any, .any, .any, .any, .any, .any, .any, .any, .any, .any, .any, .any, .any, .any, .any, .any, .any, .any, .any, .any, .any, .any, .any, .any, .any, .any, .any, .any, .any, .any, .any, .any, .any, .any, .any, .any, .any, .any, .any, .any, .any, .any, .any, .any, .any, .any, .any, .any, .any, .any, .any, .any, .any, .any, .any, .any, .any, .any, .any, .any, .any, .any, .any, .any, .any, .any, .any, .any, .any, .any, .any, .any, .any, .any, .any, .any, .any, .any, .any, .any, .any, .any, .any, .any, .any, .any, .any, .any], [.ent ⟨0, none, 39, [.v (.int .i64 s.v), .v (.int .i64 s.l), .sl false 3 (tRow s.code), .sl false 2 (pRow s.mem), .sl false 3 (sRow s.stack), .sl false 2 (pRow s.out)], .cells⟩, .dead, .dead, .ent ⟨0, none, 39, [.v (.int .i64 0), .v (.int .i64 0), .v (.slice none 0 0), .v (.slice none 0 0), .v (.slice none 0 0), .v (.slice none 0 0)], .cells⟩, .ent ⟨0, none, 39, [.v (.int .i64 s.v), .v (.int .i64 s.l), .sl false 3 (tRow (updW 0 k s.code j (instM (doF d)))), .sl false 2 (pRow (updW 1 k s.mem j (doF d))), .v (.slice none 0 0), .sl false 2 (pRow s.out)], .cells⟩]⟩ ⟨[_, _, _, _, _], 0, rfl, rfl⟩ ?_ ?_
  · skip
    repeat' first | (with_reducible refine AWP_block ?_)
    refine AWP_loopK 5 (γ := {q : Nat × Option Nat // q.1 ≤ s.mem.length ∧ (q.2 = none → updW 1 k (s.mem.take q.1) j (doF d) = []) ∧ (∀ g, q.2 = some g → updW 1 k (s.mem.take q.1) j (doF d) ≠ [])}) (fun q => ⟨[.any, .any, .any, .ptr 0 0 0, .fad [.v (.int .i64 (k : Int)), .v (.int .i64 (j : Int))], .fad [.v (.int .i64 (dW d)), .v (.int .i64 (dB d))], .ptr 3 0 0, .ptr 4 0 0, .any, .any, .any, .any, .any, .any, .any, .any, .any, .any, .any, .any, .any, .any, .any, .any, .any, .any, .any, .any, .any, .any, .any, .any, .any, .any, .any, .any, .any, .any, .any, .any, .any, .any, .any, .any, .any, .any, .any, .any, .any, .any, .any, .any, .any, .any, .any, .any, .any, .any, .any, .any, .any, .any, .any, .any, .sl false 2 (pRow s.mem), .v (.int .i64 s.mem.length), .v (.int .i64 q.1.1), .any, .any, .any, .any, .any, .any, .any, .any, .any, .any, .any, .any, .any, .any, .any, .any, .any, .any, .any, .any, .any, .any, .any, .any, .any, .any, .any, .any, .any, .any, .any, .any, .any, .any, .any, .any, .any, .any, .any, .any, .any, .any, .any, .any, .any, .any, .any, .any, .any, .any, .any, .any, .any, .any, .any, .any, .any, .any, .any, .any, .any], gσ (fun cq => [.ent ⟨0, none, 39, [.v (.int .i64 s.v), .v (.int .i64 s.l), .sl false 3 (tRow s.code), .sl false 2 (pRow s.mem), .sl false 3 (sRow s.stack), .sl false 2 (pRow s.out)], .cells⟩, .dead, .dead, .ent ⟨0, none, 39, [.v (.int .i64 0), .v (.int .i64 0), .v (.slice none 0 0), .v (.slice none 0 0), .v (.slice none 0 0), .v (.slice none 0 0)], .cells⟩, .ent ⟨0, none, 39, [.v (.int .i64 s.v), .v (.int .i64 s.l), .sl false 3 (tRow (updW 0 k s.code j (instM (doF d)))), cq, .v (.slice none 0 0), .sl false 2 (pRow s.out)], .cells⟩]) 5 2 34 (.v (.slice none 0 0)) (updW 1 k (s.mem.take q.1.1) j (doF d)).length (pCells (updW 1 k (s.mem.take q.1.1) j (doF d))) q.1.2⟩) (fun q => s.mem.length - q.1.1) ⟨(0, none), by simp, fun _ => (by simp [updW, upd]), fun g h => by cases h⟩ rfl ⟨?_, ?_⟩ ?_
    · exact Lq
    · exact Fq
    rintro ⟨⟨i, og⟩, hi, hno, hns⟩
    dsimp only at hi hno hns ⊢
    have hLe : (updW 1 k (s.mem.take i) j (doF d)).length ≤ i := updW_le 1 k s.mem j (doF d) i
    by_cases hlt : (i : Int) < (s.mem.length : Int)
    · have hx : s.mem[i]? = some s.mem[i] := List.getElem?_eq_getElem (by omega)
      obtain ⟨x, hxx⟩ : ∃ x, s.mem[i] = x := ⟨_, rfl⟩
      rw [hxx] at hx
      have hge := getE_p hx
      have hxb := hxB x (List.mem_of_getElem? hx)
      obtain ⟨v, l⟩ := x
      simp only at hxb
      have hst9 : updW 1 k (s.mem.take (i + 1)) j (doF d) = updW 1 k (s.mem.take i) j (doF d) ++ [if k = 1 ∧ i = j then (doF d) (v, l) else (v, l)] := updW_take hx
      have hdo := rmDone_fn hd v l hxb.1 hxb.2.1
      obtain ⟨v', hv'⟩ : ∃ v', (doF d (v, l)).1 = v' := ⟨_, rfl⟩
      obtain ⟨l', hl'⟩ : ∃ l', (doF d (v, l)).2 = l' := ⟨_, rfl⟩
      have hdd : doF d (v, l) = (v', l') := by rw [← hv', ← hl']
      rw [hv', hl'] at hdo
      by_cases hkj : k = 1 ∧ i = j
      · have hkb : ((k : Int) == 1) = true := by simp [hkj.1]
        have hjb : ((j : Int) == (i : Int)) = true := by simp [hkj.2]
        rw [if_pos hkj] at hst9
        have hst : updW 1 k (s.mem.take (i + 1)) j (doF d) = updW 1 k (s.mem.take i) j (doF d) ++ [(v', l')] := by rw [hst9, hdd]
        rcases og with _ | gg
        · have hL0 := hno rfl
          rw [hL0, List.nil_append] at hst
          repeat' first | (with_reducible first | refine AWP_seq' ?_ | refine k_normal ?_ | refine b_normal ?_ | refine AWP_skip ?_ | refine AWP_block ?_) | ((with_reducible refine And.intro ?_ ?_); · exact Sq) | ((first | with_reducible refine AWP_reg fun KC J hJ hKC => ?_ | (refine hKC _ _ _ _ _ (callV0 (hdo) rfl rfl rfl ?_ ?_); (· exact Lq))); simp (maxSteps := 9999999) only [push_cast, seval, ↓reduceIte, hlt, gσ, gE, List.cons_append, List.nil_append, hL0, hge, hkb, hjb, undef, wrapN (i := i) (n := s.mem.length) (by omega) (by omega)]) | ((with_reducible refine hJ _ _ ?_); clear hJ hKC KC J) | ((with_reducible refine AWP_condT ?_ ?_); · rfl)
          refine ⟨⟨(i + 1, some 0), by simp only; omega, (fun h => by cases h), (fun g h => by rw [hst]; simp)⟩, by simp only; omega, [0, 1, 2, 3, 4, 8], by decide, by decide, ?_, ?_⟩
          · simp only [gσ, gE, List.cons_append, List.nil_append, hst, push_cast, mOf, idx]
            exact Lq
          · simp only [gσ, gE, List.cons_append, List.nil_append, hst, pick, List.map_cons, List.map_nil, List.map_append, getS, renSlot, ren_pCells, push_cast, mOf, idx]
            exact LSq
        · obtain ⟨m, hm⟩ : ∃ m, (updW 1 k (s.mem.take i) j (doF d)).length = m := ⟨_, rfl⟩
          have hlC : (pCells (updW 1 k (s.mem.take i) j (doF d))).length = m * 2 := by rw [pCells_length, hm]
          have htC := take_len hlC
          have hbm : Nat.beq gg gg = true := Nat.beq_refl gg
          have hn1 : (updW 1 k (s.mem.take (i + 1)) j (doF d)).length = m + 1 := by rw [hst, List.length_append, hm]; rfl
          have hcs : pCells (updW 1 k (s.mem.take (i + 1)) j (doF d)) = pCells (updW 1 k (s.mem.take i) j (doF d)) ++ pCells [(v', l')] := by rw [hst, pCells_app]
          have hst0 := hst
          obtain ⟨L', hL'⟩ : ∃ L', updW 1 k (s.mem.take (i + 1)) j (doF d) = L' := ⟨_, rfl⟩
          rw [hL'] at hn1 hcs
          repeat' first | (with_reducible first | refine AWP_seq' ?_ | refine k_normal ?_ | refine b_normal ?_ | refine AWP_skip ?_ | refine AWP_block ?_) | ((with_reducible refine And.intro ?_ ?_); · exact Sq) | ((first | with_reducible refine AWP_reg fun KC J hJ hKC => ?_ | (refine hKC _ _ _ _ _ (callV0 (hdo) rfl rfl rfl ?_ ?_); (· exact Lq))); simp (maxSteps := 9999999) only [push_cast, seval, ↓reduceIte, hlt, gσ, gE, List.cons_append, List.nil_append, hm, hlC, htC, hbm, hge, hkb, hjb, undef, wrapN (i := i) (n := s.mem.length) (by omega) (by omega)]) | ((with_reducible refine hJ _ _ ?_); clear hJ hKC KC J) | ((with_reducible refine AWP_condT ?_ ?_); · rfl)
          refine ⟨⟨(i + 1, some (gg + 1)), by simp only; omega, (fun h => by cases h), (fun g h => by rw [hst0]; simp)⟩, by simp only; omega, [0, 1, 2, 3, 4, 5], by decide, by decide, ?_, ?_⟩
          · simp only [gσ, gE, List.cons_append, List.nil_append, hL', hn1, hcs, push_cast, mOf, idx]
            exact Lq
          · simp only [gσ, gE, List.cons_append, List.nil_append, hL', hn1, hcs, pick, List.map_cons, List.map_nil, List.map_append, getS, renSlot, ren_pCells, push_cast, mOf, idx]
            exact LSq
      · rw [if_neg hkj] at hst9
        have hst := hst9
        obtain ⟨c1, hc1⟩ : ∃ c, ((k : Int) == 1) = c := ⟨_, rfl⟩
        obtain ⟨c2, hc2⟩ : ∃ c, ((j : Int) == (i : Int)) = c := ⟨_, rfl⟩
        have hcc : (c1 && c2) = false := by
          cases h1 : c1
          · rfl
          · cases h2 : c2
            · rfl
            · rw [h1] at hc1; rw [h2] at hc2; simp at hc1 hc2; exact absurd ⟨by omega, by omega⟩ hkj
        cases c1
        all_goals first | (rw [Bool.true_and] at hcc; subst hcc) | skip
        case false =>
          rcases og with _ | gg
          · have hL0 := hno rfl
            rw [hL0, List.nil_append] at hst
            repeat' first | (with_reducible first | refine AWP_seq' ?_ | refine k_normal ?_ | refine b_normal ?_ | refine AWP_skip ?_ | refine AWP_block ?_) | ((with_reducible refine And.intro ?_ ?_); · exact Sq) | ((with_reducible refine AWP_reg fun KC J hJ hKC => ?_); simp (maxSteps := 9999999) only [push_cast, seval, ↓reduceIte, hlt, gσ, gE, List.cons_append, List.nil_append, hL0, hge, hc1, undef, wrapN (i := i) (n := s.mem.length) (by omega) (by omega)]) | ((with_reducible refine hJ _ _ ?_); clear hJ hKC KC J) | ((with_reducible refine AWP_condT ?_ ?_); · rfl) | ((with_reducible refine AWP_condF ?_ ?_); · rfl)
            refine ⟨⟨(i + 1, some 0), by simp only; omega, (fun h => by cases h), (fun g h => by rw [hst]; simp)⟩, by simp only; omega, [0, 1, 2, 3, 4, 7], by decide, by decide, ?_, ?_⟩
            · simp only [gσ, gE, List.cons_append, List.nil_append, hst, push_cast, mOf, idx]
              exact Lq
            · simp only [gσ, gE, List.cons_append, List.nil_append, hst, pick, List.map_cons, List.map_nil, List.map_append, getS, renSlot, ren_pCells, push_cast, mOf, idx]
              exact LSq
          · obtain ⟨m, hm⟩ : ∃ m, (updW 1 k (s.mem.take i) j (doF d)).length = m := ⟨_, rfl⟩
            have hlC : (pCells (updW 1 k (s.mem.take i) j (doF d))).length = m * 2 := by rw [pCells_length, hm]
            have htC := take_len hlC
            have hbm : Nat.beq gg gg = true := Nat.beq_refl gg
            have hn1 : (updW 1 k (s.mem.take (i + 1)) j (doF d)).length = m + 1 := by rw [hst, List.length_append, hm]; rfl
            have hcs : pCells (updW 1 k (s.mem.take (i + 1)) j (doF d)) = pCells (updW 1 k (s.mem.take i) j (doF d)) ++ pCells [(v, l)] := by rw [hst, pCells_app]
            have hst0 := hst
            obtain ⟨L', hL'⟩ : ∃ L', updW 1 k (s.mem.take (i + 1)) j (doF d) = L' := ⟨_, rfl⟩
            rw [hL'] at hn1 hcs
            repeat' first | (with_reducible first | refine AWP_seq' ?_ | refine k_normal ?_ | refine b_normal ?_ | refine AWP_skip ?_ | refine AWP_block ?_) | ((with_reducible refine And.intro ?_ ?_); · exact Sq) | ((with_reducible refine AWP_reg fun KC J hJ hKC => ?_); simp (maxSteps := 9999999) only [push_cast, seval, ↓reduceIte, hlt, gσ, gE, List.cons_append, List.nil_append, hm, hlC, htC, hbm, hge, hc1, undef, wrapN (i := i) (n := s.mem.length) (by omega) (by omega)]) | ((with_reducible refine hJ _ _ ?_); clear hJ hKC KC J) | ((with_reducible refine AWP_condT ?_ ?_); · rfl) | ((with_reducible refine AWP_condF ?_ ?_); · rfl)
            refine ⟨⟨(i + 1, some (gg + 1)), by simp only; omega, (fun h => by cases h), (fun g h => by rw [hst0]; simp)⟩, by simp only; omega, [0, 1, 2, 3, 4, 5], by decide, by decide, ?_, ?_⟩
            · simp only [gσ, gE, List.cons_append, List.nil_append, hL', hn1, hcs, push_cast, mOf, idx]
              exact Lq
            · simp only [gσ, gE, List.cons_append, List.nil_append, hL', hn1, hcs, pick, List.map_cons, List.map_nil, List.map_append, getS, renSlot, ren_pCells, push_cast, mOf, idx]
              exact LSq
        case true =>
          rcases og with _ | gg
          · have hL0 := hno rfl
            rw [hL0, List.nil_append] at hst
            repeat' first | (with_reducible first | refine AWP_seq' ?_ | refine k_normal ?_ | refine b_normal ?_ | refine AWP_skip ?_ | refine AWP_block ?_) | ((with_reducible refine And.intro ?_ ?_); · exact Sq) | ((with_reducible refine AWP_reg fun KC J hJ hKC => ?_); simp (maxSteps := 9999999) only [push_cast, seval, ↓reduceIte, hlt, gσ, gE, List.cons_append, List.nil_append, hL0, hge, hc1, hc2, undef, wrapN (i := i) (n := s.mem.length) (by omega) (by omega)]) | ((with_reducible refine hJ _ _ ?_); clear hJ hKC KC J) | ((with_reducible refine AWP_condT ?_ ?_); · rfl) | ((with_reducible refine AWP_condF ?_ ?_); · rfl)
            refine ⟨⟨(i + 1, some 0), by simp only; omega, (fun h => by cases h), (fun g h => by rw [hst]; simp)⟩, by simp only; omega, [0, 1, 2, 3, 4, 7], by decide, by decide, ?_, ?_⟩
            · simp only [gσ, gE, List.cons_append, List.nil_append, hst, push_cast, mOf, idx]
              exact Lq
            · simp only [gσ, gE, List.cons_append, List.nil_append, hst, pick, List.map_cons, List.map_nil, List.map_append, getS, renSlot, ren_pCells, push_cast, mOf, idx]
              exact LSq
          · obtain ⟨m, hm⟩ : ∃ m, (updW 1 k (s.mem.take i) j (doF d)).length = m := ⟨_, rfl⟩
            have hlC : (pCells (updW 1 k (s.mem.take i) j (doF d))).length = m * 2 := by rw [pCells_length, hm]
            have htC := take_len hlC
            have hbm : Nat.beq gg gg = true := Nat.beq_refl gg
            have hn1 : (updW 1 k (s.mem.take (i + 1)) j (doF d)).length = m + 1 := by rw [hst, List.length_append, hm]; rfl
            have hcs : pCells (updW 1 k (s.mem.take (i + 1)) j (doF d)) = pCells (updW 1 k (s.mem.take i) j (doF d)) ++ pCells [(v, l)] := by rw [hst, pCells_app]
            have hst0 := hst
            obtain ⟨L', hL'⟩ : ∃ L', updW 1 k (s.mem.take (i + 1)) j (doF d) = L' := ⟨_, rfl⟩
            rw [hL'] at hn1 hcs
            repeat' first | (with_reducible first | refine AWP_seq' ?_ | refine k_normal ?_ | refine b_normal ?_ | refine AWP_skip ?_ | refine AWP_block ?_) | ((with_reducible refine And.intro ?_ ?_); · exact Sq) | ((with_reducible refine AWP_reg fun KC J hJ hKC => ?_); simp (maxSteps := 9999999) only [push_cast, seval, ↓reduceIte, hlt, gσ, gE, List.cons_append, List.nil_append, hm, hlC, htC, hbm, hge, hc1, hc2, undef, wrapN (i := i) (n := s.mem.length) (by omega) (by omega)]) | ((with_reducible refine hJ _ _ ?_); clear hJ hKC KC J) | ((with_reducible refine AWP_condT ?_ ?_); · rfl) | ((with_reducible refine AWP_condF ?_ ?_); · rfl)
            refine ⟨⟨(i + 1, some (gg + 1)), by simp only; omega, (fun h => by cases h), (fun g h => by rw [hst0]; simp)⟩, by simp only; omega, [0, 1, 2, 3, 4, 5], by decide, by decide, ?_, ?_⟩
            · simp only [gσ, gE, List.cons_append, List.nil_append, hL', hn1, hcs, push_cast, mOf, idx]
              exact Lq
            · simp only [gσ, gE, List.cons_append, List.nil_append, hL', hn1, hcs, pick, List.map_cons, List.map_nil, List.map_append, getS, renSlot, ren_pCells, push_cast, mOf, idx]
              exact LSq
    have hin : i = s.mem.length := by omega
    subst hin
    have hend : updW 1 k (s.mem.take s.mem.length) j (doF d) = updW 1 k s.mem j (doF d) := by rw [List.take_length]
    rw [hend] at hno hns ⊢
    obtain ⟨L, hL⟩ : ∃ L, updW 1 k s.mem j (doF d) = L := ⟨_, rfl⟩
    rw [hL] at hno hns ⊢
    rcases og with _ | gg
    · have hL0 := hno rfl
      subst hL0
      repeat' first | (with_reducible first | refine AWP_seq' ?_ | refine k_normal ?_ | refine k_exit ?_ | refine b_exit ?_ | refine AWP_exit ?_) | ((with_reducible refine AWP_reg fun KC J hJ hKC => ?_); simp (maxSteps := 9999999) only [push_cast, seval, ↓reduceIte, hlt, Int.lt_irrefl, gσ, gE, List.cons_append, List.nil_append]) | ((with_reducible refine hJ _ _ ?_); clear hJ hKC KC J) | ((with_reducible refine AWP_condF ?_ ?_); · rfl)
      refine .inl ⟨rfl, [0, 1, 2, 3, 4], by decide, by decide, ?_, ?_⟩
      · simp only [push_cast, mOf, idx, hL]
        exact Lq
      · simp only [hL, pick, List.map_cons, List.map_nil, List.map_append, getS, renSlot, push_cast, mOf, idx, show tRow [] = [] from rfl, show pRow [] = [] from rfl, show sRow [] = [] from rfl]
        exact LSq
    · have hne := hns gg rfl
      obtain ⟨m, hm⟩ : ∃ m, L.length = m := ⟨_, rfl⟩
      have hlC : (pCells L).length = m * 2 := by rw [pCells_length, hm]
      have hcp : chunk 2 m (pCells L) = pRow L := by rw [← hm]; exact chunk_p L
      have hbm : Nat.beq gg gg = true := Nat.beq_refl gg
      simp only [gσ, gE, List.cons_append, List.nil_append, hm]
      repeat' first | (refine AWP_freezeR 12 5 rfl (by (simp (maxSteps := 9999999) only [push_cast, seval, ↓reduceIte]) <;> rfl) ?_; simp (maxSteps := 9999999) only [push_cast, seval, ↓reduceIte, frSt, frSlot, fr3, fr2, fr1, fr0, sameB, arrOf, hlt, Int.lt_irrefl, hlC, hcp, hbm, gσ, gE, List.cons_append, List.nil_append]) | (with_reducible first | refine AWP_seq' ?_ | refine k_normal ?_ | refine k_exit ?_ | refine b_exit ?_ | refine AWP_exit ?_) | ((with_reducible refine AWP_reg fun KC J hJ hKC => ?_); simp (maxSteps := 9999999) only [push_cast, seval, ↓reduceIte, hlt, Int.lt_irrefl, hlC, hcp, hbm, gσ, gE, List.cons_append, List.nil_append]) | ((with_reducible refine hJ _ _ ?_); clear hJ hKC KC J) | ((with_reducible refine AWP_condF ?_ ?_); · rfl)
      refine .inl ⟨rfl, [0, 1, 2, 3, 4], by decide, by decide, ?_, ?_⟩
      · simp only [push_cast, mOf, idx, hL]
        exact Lq
      · simp only [hL, pick, List.map_cons, List.map_nil, List.map_append, getS, renSlot, push_cast, mOf, idx]
        exact LSq
  clear hxB
  repeat' first | (with_reducible refine holdB 4 ?_) | (with_reducible first | refine AWP_seq' ?_ | refine k_normal ?_) | ((with_reducible refine AWP_reg fun KC J hJ hKC => ?_); simp (maxSteps := 9999999) only [push_cast, seval, ↓reduceIte]) | ((with_reducible refine hJ _ _ ?_); clear hJ hKC KC J)
  have hxB := hs.stack
  refine AWP_cutW 5 ⟨[.any, .any, .any, .ptr 0 0 0, .fad [.v (.int .i64 (k : Int)), .v (.int .i64 (j : Int))], .fad [.v (.int .i64 (dW d)), .v (.int .i64 (dB d))], .ptr 3 0 0, .ptr 4 0 0, .any, .any, .any, .any, .any, .any, .any, .any, .any, .any, .any, .any, .any, .any, .any, .any, .any, .any, .any, .any, .any, .any, .any, .any, .any, .any, .any, .any, .any, .any, .any, .any, .any, .any, .any, .any, .any, .any, .any, .any, .any, .any, .any, .any, .any, .any, .any, .any, .any, .any, .any, .any, .any, .any, .any, .any, .any, .any, .any, .any, .any, .any, .any, .any, .any, .any, .any, .any, .any, .any, .any, .any, .any, .any, .any, .any, .any, .any, .any, .any, .any, .any, .any, .any, .any, .any, .any, .any, .any, .any, .any, .any, .any, .any, .any, .any, .any, .any, .any, .any, .any, .any, .any, .any, .any, .any, .any, .any, .any, .any, .any, .any, .any, .any, .any, .any, .any, .any, .any, .any], [.ent ⟨0, none, 39, [.v (.int .i64 s.v), .v (.int .i64 s.l), .sl false 3 (tRow s.code), .sl false 2 (pRow s.mem), .sl false 3 (sRow s.stack), .sl false 2 (pRow s.out)], .cells⟩, .dead, .dead, .ent ⟨0, none, 39, [.v (.int .i64 0), .v (.int .i64 0), .v (.slice none 0 0), .v (.slice none 0 0), .v (.slice none 0 0), .v (.slice none 0 0)], .cells⟩, .ent ⟨0, none, 39, [.v (.int .i64 s.v), .v (.int .i64 s.l), .sl false 3 (tRow (updW 0 k s.code j (instM (doF d)))), .sl false 2 (pRow (updW 1 k s.mem j (doF d))), .sl false 3 (sRow (updW 2 k s.stack j (slotM (doF d)))), .sl false 2 (pRow s.out)], .cells⟩]⟩ ⟨[_, _, _, _, _], 0, rfl, rfl⟩ ?_ ?_
  · skip
    repeat' first | (with_reducible refine AWP_block ?_)
    refine AWP_loopK 5 (γ := {q : Nat × Option Nat // q.1 ≤ s.stack.length ∧ (q.2 = none → updW 2 k (s.stack.take q.1) j (slotM (doF d)) = []) ∧ (∀ g, q.2 = some g → updW 2 k (s.stack.take q.1) j (slotM (doF d)) ≠ [])}) (fun q => ⟨[.any, .any, .any, .ptr 0 0 0, .fad [.v (.int .i64 (k : Int)), .v (.int .i64 (j : Int))], .fad [.v (.int .i64 (dW d)), .v (.int .i64 (dB d))], .ptr 3 0 0, .ptr 4 0 0, .any, .any, .any, .any, .any, .any, .any, .any, .any, .any, .any, .any, .any, .any, .any, .any, .any, .any, .any, .any, .any, .any, .any, .any, .any, .any, .any, .any, .any, .any, .any, .any, .any, .any, .any, .any, .any, .any, .any, .any, .any, .any, .any, .any, .any, .any, .any, .any, .any, .any, .any, .any, .any, .any, .any, .any, .any, .any, .any, .any, .any, .any, .any, .any, .any, .any, .any, .any, .any, .any, .any, .any, .any, .any, .any, .any, .any, .any, .any, .any, .any, .any, .any, .sl false 3 (sRow s.stack), .v (.int .i64 s.stack.length), .v (.int .i64 q.1.1), .any, .any, .any, .any, .any, .any, .any, .any, .any, .any, .any, .any, .any, .any, .any, .any, .any, .any, .any, .any, .any, .any, .any, .any, .any, .any, .any, .any, .any, .any, .any, .any, .any, .any], gσ (fun cq => [.ent ⟨0, none, 39, [.v (.int .i64 s.v), .v (.int .i64 s.l), .sl false 3 (tRow s.code), .sl false 2 (pRow s.mem), .sl false 3 (sRow s.stack), .sl false 2 (pRow s.out)], .cells⟩, .dead, .dead, .ent ⟨0, none, 39, [.v (.int .i64 0), .v (.int .i64 0), .v (.slice none 0 0), .v (.slice none 0 0), .v (.slice none 0 0), .v (.slice none 0 0)], .cells⟩, .ent ⟨0, none, 39, [.v (.int .i64 s.v), .v (.int .i64 s.l), .sl false 3 (tRow (updW 0 k s.code j (instM (doF d)))), .sl false 2 (pRow (updW 1 k s.mem j (doF d))), cq, .sl false 2 (pRow s.out)], .cells⟩]) 5 3 104 (.v (.slice none 0 0)) (updW 2 k (s.stack.take q.1.1) j (slotM (doF d))).length (sCells (updW 2 k (s.stack.take q.1.1) j (slotM (doF d)))) q.1.2⟩) (fun q => s.stack.length - q.1.1) ⟨(0, none), by simp, fun _ => (by simp [updW, upd]), fun g h => by cases h⟩ rfl ⟨?_, ?_⟩ ?_
    · exact Lq
    · exact Fq
    rintro ⟨⟨i, og⟩, hi, hno, hns⟩
    dsimp only at hi hno hns ⊢
    have hLe : (updW 2 k (s.stack.take i) j (slotM (doF d))).length ≤ i := updW_le 2 k s.stack j (slotM (doF d)) i
    by_cases hlt : (i : Int) < (s.stack.length : Int)
    · have hx : s.stack[i]? = some s.stack[i] := List.getElem?_eq_getElem (by omega)
      obtain ⟨x, hxx⟩ : ∃ x, s.stack[i] = x := ⟨_, rfl⟩
      rw [hxx] at hx
      have hge := getE_s hx
      have hxb := hxB x (List.mem_of_getElem? hx)
      obtain ⟨r, v, l⟩ := x
      simp only at hxb
      have hst9 : updW 2 k (s.stack.take (i + 1)) j (slotM (doF d)) = updW 2 k (s.stack.take i) j (slotM (doF d)) ++ [if k = 2 ∧ i = j then (slotM (doF d)) (r, v, l) else (r, v, l)] := updW_take hx
      have hdo := rmDone_fn hd v l hxb.1 hxb.2.1
      obtain ⟨v', hv'⟩ : ∃ v', (doF d (v, l)).1 = v' := ⟨_, rfl⟩
      obtain ⟨l', hl'⟩ : ∃ l', (doF d (v, l)).2 = l' := ⟨_, rfl⟩
      have hdd : doF d (v, l) = (v', l') := by rw [← hv', ← hl']
      rw [hv', hl'] at hdo
      by_cases hkj : k = 2 ∧ i = j
      · have hkb : ((k : Int) == 2) = true := by simp [hkj.1]
        have hjb : ((j : Int) == (i : Int)) = true := by simp [hkj.2]
        rw [if_pos hkj] at hst9
        have hst : updW 2 k (s.stack.take (i + 1)) j (slotM (doF d)) = updW 2 k (s.stack.take i) j (slotM (doF d)) ++ [(r, v', l')] := by rw [hst9, show slotM (doF d) (r, v, l) = (r, doF d (v, l)) from rfl, hdd]
        rcases og with _ | gg
        · have hL0 := hno rfl
          rw [hL0, List.nil_append] at hst
          repeat' first | (with_reducible first | refine AWP_seq' ?_ | refine k_normal ?_ | refine b_normal ?_ | refine AWP_skip ?_ | refine AWP_block ?_) | ((with_reducible refine And.intro ?_ ?_); · exact Sq) | ((first | with_reducible refine AWP_reg fun KC J hJ hKC => ?_ | (refine hKC _ _ _ _ _ (callV0 (hdo) rfl rfl rfl ?_ ?_); (· exact Lq))); simp (maxSteps := 9999999) only [push_cast, seval, ↓reduceIte, hlt, gσ, gE, List.cons_append, List.nil_append, hL0, hge, hkb, hjb, undef, wrapN (i := i) (n := s.stack.length) (by omega) (by omega)]) | ((with_reducible refine hJ _ _ ?_); clear hJ hKC KC J) | ((with_reducible refine AWP_condT ?_ ?_); · rfl)
          refine ⟨⟨(i + 1, some 0), by simp only; omega, (fun h => by cases h), (fun g h => by rw [hst]; simp)⟩, by simp only; omega, [0, 1, 2, 3, 4, 9], by decide, by decide, ?_, ?_⟩
          · simp only [gσ, gE, List.cons_append, List.nil_append, hst, push_cast, mOf, idx]
            exact Lq
          · simp only [gσ, gE, List.cons_append, List.nil_append, hst, pick, List.map_cons, List.map_nil, List.map_append, getS, renSlot, ren_sCells, push_cast, mOf, idx]
            exact LSq
        · obtain ⟨m, hm⟩ : ∃ m, (updW 2 k (s.stack.take i) j (slotM (doF d))).length = m := ⟨_, rfl⟩
          have hlC : (sCells (updW 2 k (s.stack.take i) j (slotM (doF d)))).length = m * 3 := by rw [sCells_length, hm]
          have htC := take_len hlC
          have hbm : Nat.beq gg gg = true := Nat.beq_refl gg
          have hn1 : (updW 2 k (s.stack.take (i + 1)) j (slotM (doF d))).length = m + 1 := by rw [hst, List.length_append, hm]; rfl
          have hcs : sCells (updW 2 k (s.stack.take (i + 1)) j (slotM (doF d))) = sCells (updW 2 k (s.stack.take i) j (slotM (doF d))) ++ sCells [(r, v', l')] := by rw [hst, sCells_app]
          have hst0 := hst
          obtain ⟨L', hL'⟩ : ∃ L', updW 2 k (s.stack.take (i + 1)) j (slotM (doF d)) = L' := ⟨_, rfl⟩
          rw [hL'] at hn1 hcs
          repeat' first | (with_reducible first | refine AWP_seq' ?_ | refine k_normal ?_ | refine b_normal ?_ | refine AWP_skip ?_ | refine AWP_block ?_) | ((with_reducible refine And.intro ?_ ?_); · exact Sq) | ((first | with_reducible refine AWP_reg fun KC J hJ hKC => ?_ | (refine hKC _ _ _ _ _ (callV0 (hdo) rfl rfl rfl ?_ ?_); (· exact Lq))); simp (maxSteps := 9999999) only [push_cast, seval, ↓reduceIte, hlt, gσ, gE, List.cons_append, List.nil_append, hm, hlC, htC, hbm, hge, hkb, hjb, undef, wrapN (i := i) (n := s.stack.length) (by omega) (by omega)]) | ((with_reducible refine hJ _ _ ?_); clear hJ hKC KC J) | ((with_reducible refine AWP_condT ?_ ?_); · rfl)
          refine ⟨⟨(i + 1, some (gg + 1)), by simp only; omega, (fun h => by cases h), (fun g h => by rw [hst0]; simp)⟩, by simp only; omega, [0, 1, 2, 3, 4, 5], by decide, by decide, ?_, ?_⟩
          · simp only [gσ, gE, List.cons_append, List.nil_append, hL', hn1, hcs, push_cast, mOf, idx]
            exact Lq
          · simp only [gσ, gE, List.cons_append, List.nil_append, hL', hn1, hcs, pick, List.map_cons, List.map_nil, List.map_append, getS, renSlot, ren_sCells, push_cast, mOf, idx]
            exact LSq
      · rw [if_neg hkj] at hst9
        have hst := hst9
        obtain ⟨c1, hc1⟩ : ∃ c, ((k : Int) == 2) = c := ⟨_, rfl⟩
        obtain ⟨c2, hc2⟩ : ∃ c, ((j : Int) == (i : Int)) = c := ⟨_, rfl⟩
        have hcc : (c1 && c2) = false := by
          cases h1 : c1
          · rfl
          · cases h2 : c2
            · rfl
            · rw [h1] at hc1; rw [h2] at hc2; simp at hc1 hc2; exact absurd ⟨by omega, by omega⟩ hkj
        cases c1
        all_goals first | (rw [Bool.true_and] at hcc; subst hcc) | skip
        case false =>
          rcases og with _ | gg
          · have hL0 := hno rfl
            rw [hL0, List.nil_append] at hst
            repeat' first | (with_reducible first | refine AWP_seq' ?_ | refine k_normal ?_ | refine b_normal ?_ | refine AWP_skip ?_ | refine AWP_block ?_) | ((with_reducible refine And.intro ?_ ?_); · exact Sq) | ((with_reducible refine AWP_reg fun KC J hJ hKC => ?_); simp (maxSteps := 9999999) only [push_cast, seval, ↓reduceIte, hlt, gσ, gE, List.cons_append, List.nil_append, hL0, hge, hc1, undef, wrapN (i := i) (n := s.stack.length) (by omega) (by omega)]) | ((with_reducible refine hJ _ _ ?_); clear hJ hKC KC J) | ((with_reducible refine AWP_condT ?_ ?_); · rfl) | ((with_reducible refine AWP_condF ?_ ?_); · rfl)
            refine ⟨⟨(i + 1, some 0), by simp only; omega, (fun h => by cases h), (fun g h => by rw [hst]; simp)⟩, by simp only; omega, [0, 1, 2, 3, 4, 7], by decide, by decide, ?_, ?_⟩
            · simp only [gσ, gE, List.cons_append, List.nil_append, hst, push_cast, mOf, idx]
              exact Lq
            · simp only [gσ, gE, List.cons_append, List.nil_append, hst, pick, List.map_cons, List.map_nil, List.map_append, getS, renSlot, ren_sCells, push_cast, mOf, idx]
              exact LSq
          · obtain ⟨m, hm⟩ : ∃ m, (updW 2 k (s.stack.take i) j (slotM (doF d))).length = m := ⟨_, rfl⟩
            have hlC : (sCells (updW 2 k (s.stack.take i) j (slotM (doF d)))).length = m * 3 := by rw [sCells_length, hm]
            have htC := take_len hlC
            have hbm : Nat.beq gg gg = true := Nat.beq_refl gg
            have hn1 : (updW 2 k (s.stack.take (i + 1)) j (slotM (doF d))).length = m + 1 := by rw [hst, List.length_append, hm]; rfl
            have hcs : sCells (updW 2 k (s.stack.take (i + 1)) j (slotM (doF d))) = sCells (updW 2 k (s.stack.take i) j (slotM (doF d))) ++ sCells [(r, v, l)] := by rw [hst, sCells_app]
            have hst0 := hst
            obtain ⟨L', hL'⟩ : ∃ L', updW 2 k (s.stack.take (i + 1)) j (slotM (doF d)) = L' := ⟨_, rfl⟩
            rw [hL'] at hn1 hcs
            repeat' first | (with_reducible first | refine AWP_seq' ?_ | refine k_normal ?_ | refine b_normal ?_ | refine AWP_skip ?_ | refine AWP_block ?_) | ((with_reducible refine And.intro ?_ ?_); · exact Sq) | ((with_reducible refine AWP_reg fun KC J hJ hKC => ?_); simp (maxSteps := 9999999) only [push_cast, seval, ↓reduceIte, hlt, gσ, gE, List.cons_append, List.nil_append, hm, hlC, htC, hbm, hge, hc1, undef, wrapN (i := i) (n := s.stack.length) (by omega) (by omega)]) | ((with_reducible refine hJ _ _ ?_); clear hJ hKC KC J) | ((with_reducible refine AWP_condT ?_ ?_); · rfl) | ((with_reducible refine AWP_condF ?_ ?_); · rfl)
            refine ⟨⟨(i + 1, some (gg + 1)), by simp only; omega, (fun h => by cases h), (fun g h => by rw [hst0]; simp)⟩, by simp only; omega, [0, 1, 2, 3, 4, 5], by decide, by decide, ?_, ?_⟩
            · simp only [gσ, gE, List.cons_append, List.nil_append, hL', hn1, hcs, push_cast, mOf, idx]
              exact Lq
            · simp only [gσ, gE, List.cons_append, List.nil_append, hL', hn1, hcs, pick, List.map_cons, List.map_nil, List.map_append, getS, renSlot, ren_sCells, push_cast, mOf, idx]
              exact LSq
        case true =>
          rcases og with _ | gg
          · have hL0 := hno rfl
            rw [hL0, List.nil_append] at hst
            repeat' first | (with_reducible first | refine AWP_seq' ?_ | refine k_normal ?_ | refine b_normal ?_ | refine AWP_skip ?_ | refine AWP_block ?_) | ((with_reducible refine And.intro ?_ ?_); · exact Sq) | ((with_reducible refine AWP_reg fun KC J hJ hKC => ?_); simp (maxSteps := 9999999) only [push_cast, seval, ↓reduceIte, hlt, gσ, gE, List.cons_append, List.nil_append, hL0, hge, hc1, hc2, undef, wrapN (i := i) (n := s.stack.length) (by omega) (by omega)]) | ((with_reducible refine hJ _ _ ?_); clear hJ hKC KC J) | ((with_reducible refine AWP_condT ?_ ?_); · rfl) | ((with_reducible refine AWP_condF ?_ ?_); · rfl)
            refine ⟨⟨(i + 1, some 0), by simp only; omega, (fun h => by cases h), (fun g h => by rw [hst]; simp)⟩, by simp only; omega, [0, 1, 2, 3, 4, 7], by decide, by decide, ?_, ?_⟩
            · simp only [gσ, gE, List.cons_append, List.nil_append, hst, push_cast, mOf, idx]
              exact Lq
            · simp only [gσ, gE, List.cons_append, List.nil_append, hst, pick, List.map_cons, List.map_nil, List.map_append, getS, renSlot, ren_sCells, push_cast, mOf, idx]
              exact LSq
          · obtain ⟨m, hm⟩ : ∃ m, (updW 2 k (s.stack.take i) j (slotM (doF d))).length = m := ⟨_, rfl⟩
            have hlC : (sCells (updW 2 k (s.stack.take i) j (slotM (doF d)))).length = m * 3 := by rw [sCells_length, hm]
            have htC := take_len hlC
            have hbm : Nat.beq gg gg = true := Nat.beq_refl gg
            have hn1 : (updW 2 k (s.stack.take (i + 1)) j (slotM (doF d))).length = m + 1 := by rw [hst, List.length_append, hm]; rfl
            have hcs : sCells (updW 2 k (s.stack.take (i + 1)) j (slotM (doF d))) = sCells (updW 2 k (s.stack.take i) j (slotM (doF d))) ++ sCells [(r, v, l)] := by rw [hst, sCells_app]
            have hst0 := hst
            obtain ⟨L', hL'⟩ : ∃ L', updW 2 k (s.stack.take (i + 1)) j (slotM (doF d)) = L' := ⟨_, rfl⟩
            rw [hL'] at hn1 hcs
            repeat' first | (with_reducible first | refine AWP_seq' ?_ | refine k_normal ?_ | refine b_normal ?_ | refine AWP_skip ?_ | refine AWP_block ?_) | ((with_reducible refine And.intro ?_ ?_); · exact Sq) | ((with_reducible refine AWP_reg fun KC J hJ hKC => ?_); simp (maxSteps := 9999999) only [push_cast, seval, ↓reduceIte, hlt, gσ, gE, List.cons_append, List.nil_append, hm, hlC, htC, hbm, hge, hc1, hc2, undef, wrapN (i := i) (n := s.stack.length) (by omega) (by omega)]) | ((with_reducible refine hJ _ _ ?_); clear hJ hKC KC J) | ((with_reducible refine AWP_condT ?_ ?_); · rfl) | ((with_reducible refine AWP_condF ?_ ?_); · rfl)
            refine ⟨⟨(i + 1, some (gg + 1)), by simp only; omega, (fun h => by cases h), (fun g h => by rw [hst0]; simp)⟩, by simp only; omega, [0, 1, 2, 3, 4, 5], by decide, by decide, ?_, ?_⟩
            · simp only [gσ, gE, List.cons_append, List.nil_append, hL', hn1, hcs, push_cast, mOf, idx]
              exact Lq
            · simp only [gσ, gE, List.cons_append, List.nil_append, hL', hn1, hcs, pick, List.map_cons, List.map_nil, List.map_append, getS, renSlot, ren_sCells, push_cast, mOf, idx]
              exact LSq
    have hin : i = s.stack.length := by omega
    subst hin
    have hend : updW 2 k (s.stack.take s.stack.length) j (slotM (doF d)) = updW 2 k s.stack j (slotM (doF d)) := by rw [List.take_length]
    rw [hend] at hno hns ⊢
    obtain ⟨L, hL⟩ : ∃ L, updW 2 k s.stack j (slotM (doF d)) = L := ⟨_, rfl⟩
    rw [hL] at hno hns ⊢
    rcases og with _ | gg
    · have hL0 := hno rfl
      subst hL0
      repeat' first | (with_reducible first | refine AWP_seq' ?_ | refine k_normal ?_ | refine k_exit ?_ | refine b_exit ?_ | refine AWP_exit ?_) | ((with_reducible refine AWP_reg fun KC J hJ hKC => ?_); simp (maxSteps := 9999999) only [push_cast, seval, ↓reduceIte, hlt, Int.lt_irrefl, gσ, gE, List.cons_append, List.nil_append]) | ((with_reducible refine hJ _ _ ?_); clear hJ hKC KC J) | ((with_reducible refine AWP_condF ?_ ?_); · rfl)
      refine .inl ⟨rfl, [0, 1, 2, 3, 4], by decide, by decide, ?_, ?_⟩
      · simp only [push_cast, mOf, idx, hL]
        exact Lq
      · simp only [hL, pick, List.map_cons, List.map_nil, List.map_append, getS, renSlot, push_cast, mOf, idx, show tRow [] = [] from rfl, show pRow [] = [] from rfl, show sRow [] = [] from rfl]
        exact LSq
    · have hne := hns gg rfl
      obtain ⟨m, hm⟩ : ∃ m, L.length = m := ⟨_, rfl⟩
      have hlC : (sCells L).length = m * 3 := by rw [sCells_length, hm]
      have hcp : chunk 3 m (sCells L) = sRow L := by rw [← hm]; exact chunk_s L
      have hbm : Nat.beq gg gg = true := Nat.beq_refl gg
      simp only [gσ, gE, List.cons_append, List.nil_append, hm]
      repeat' first | (refine AWP_freezeR 19 5 rfl (by (simp (maxSteps := 9999999) only [push_cast, seval, ↓reduceIte]) <;> rfl) ?_; simp (maxSteps := 9999999) only [push_cast, seval, ↓reduceIte, frSt, frSlot, fr3, fr2, fr1, fr0, sameB, arrOf, hlt, Int.lt_irrefl, hlC, hcp, hbm, gσ, gE, List.cons_append, List.nil_append]) | (with_reducible first | refine AWP_seq' ?_ | refine k_normal ?_ | refine k_exit ?_ | refine b_exit ?_ | refine AWP_exit ?_) | ((with_reducible refine AWP_reg fun KC J hJ hKC => ?_); simp (maxSteps := 9999999) only [push_cast, seval, ↓reduceIte, hlt, Int.lt_irrefl, hlC, hcp, hbm, gσ, gE, List.cons_append, List.nil_append]) | ((with_reducible refine hJ _ _ ?_); clear hJ hKC KC J) | ((with_reducible refine AWP_condF ?_ ?_); · rfl)
      refine .inl ⟨rfl, [0, 1, 2, 3, 4], by decide, by decide, ?_, ?_⟩
      · simp only [push_cast, mOf, idx, hL]
        exact Lq
      · simp only [hL, pick, List.map_cons, List.map_nil, List.map_append, getS, renSlot, push_cast, mOf, idx]
        exact LSq
  clear hxB
  repeat' first | (with_reducible first | refine AWP_seq' ?_ | refine k_normal ?_ | refine AWP_ret ?_) | ((with_reducible refine AWP_reg fun KC J hJ hKC => ?_); simp (maxSteps := 9999999) only [push_cast, seval, ↓reduceIte]) | ((with_reducible refine hJ _ _ ?_); clear hJ hKC KC J)
  refine ret_plain ?_
  simp (maxSteps := 9999999) only [push_cast, seval, ↓reduceIte, show Tryz.f162.results = #[(.cell 6 39)] from rfl]
  exact Lq
end Go.Proofs.YtabliglgeiajlaaGreat.AM

namespace Go.Proofs.YtabliglgeiajlaaGreat.AM
open Go Go.RowKit Go.Proofs
set_option maxRecDepth 100000
set_option maxHeartbeats 4000000
theorem AWP_flag {P : Program} {ro : Option Nat} {st : St} {K : Exit → St → Prop} {c : Code} (k : Nat) {b : Bool} {sz : Nat} {xs : List (List D)} (hk : st.fr[k]? = some (.sl b sz xs)) (h : AWP P ro c ⟨st.fr.set k (.sl false sz xs), st.σ⟩ K) : AWP P ro c st K := fun B a w hr Q hQ => by
  refine h B a w ?_ Q hQ
  obtain ⟨ρ, h1, ⟨h2, h3⟩, h4⟩ := hr
  refine ⟨ρ, h1, ⟨by simpa using h2, fun t d hd => ?_⟩, h4⟩
  simp only [List.getElem?_set] at hd
  by_cases e : k = t
  · subst e
    rw [if_pos rfl] at hd
    obtain ⟨u, g1, g2⟩ := h3 k _ hk
    split at hd
    · cases hd
      exact ⟨u, g1, Rle_sl b sz xs _ _ _ _ _ g2⟩
    · cases hd
  · rw [if_neg e] at hd
    exact h3 t d hd
theorem rmDo_fn {us : List Nat} (k j : Nat) (hk : k ≤ 2) {d : Do} (hd : DoOk us d) (s : Sta) (hs : StaN us.length s) : Fn Tryz.prog 162 [.agg (staF false false false false s), .agg [.v (.int .i64 (k : Int)), .v (.int .i64 (j : Int))], .agg [.v (.int .i64 (dW d)), .v (.int .i64 (dB d))]] [] (.agg (staF false false false false (mvF (.num k j d) s))) [] := rmDoK_fn k j hk hd s hs
theorem like_same (a b : Sta) : likeS a b = sameT b a := by
  rw [Bool.eq_iff_iff, likeS_iff, sameT_iff]; exact eq_comm
theorem allOf_app (s t : Sta) (a b : List (Mv × Mv)) : allOf s t (a ++ b) = allOf s t a ++ allOf s t b := by unfold allOf; rw [List.filter_append, List.map_append]
theorem told_all (R : List (Sta × Sta)) (s t : Sta) (m : Mv × Mv) : toldF R (s, t) (mkT s t m) = R ++ allOf s t [m] := by
  have e : likeT s t m = (sameT s (mvF m.1 s) && sameT t (mvF m.2 t)) := by unfold likeT; rw [like_same, like_same]
  show (if (sameT s (mvF m.1 s) && sameT t (mvF m.2 t)) = true then R else R ++ [mkT s t m]) = R ++ allOf s t [m]
  rw [← e]
  unfold allOf
  cases h : likeT s t m
  · rw [if_neg (by simp)]; simp [h]
  · rw [if_pos rfl]; simp [h]
theorem told_step (R0 : List (Sta × Sta)) (s t : Sta) (P : List (Mv × Mv)) (m : Mv × Mv) : toldF (R0 ++ allOf s t P) (s, t) (mkT s t m) = R0 ++ allOf s t (P ++ [m]) := by
  rw [told_all, List.append_assoc, ← allOf_app]
theorem told_step0 (s t : Sta) (P : List (Mv × Mv)) (m : Mv × Mv) : toldF (allOf s t P) (s, t) (mkT s t m) = allOf s t (P ++ [m]) := by
  rw [told_all, ← allOf_app]
theorem allOf_len (s t : Sta) (L : List (Mv × Mv)) : (allOf s t L).length ≤ L.length := by
  have := allOf_le s t L L.length
  rwa [List.take_length] at this
theorem flat_hs {l : List (Nat × Nat)} {i : Nat} {p : Nat × Nat} (h : l[i]? = some p) : (l.take i).flatMap numM ++ hsM p 2 = (l.take (i + 1)).flatMap numM := by
  rw [List.take_add_one, h, List.flatMap_append]
  rfl
theorem botM_succ {l : List (Nat × Nat)} {b : Int} {i : Nat} {p : Nat × Nat} (h : l[i]? = some p) : (l.take (i + 1)).map (botM b) = (l.take i).map (botM b) ++ [botM b p] := by
  rw [List.take_add_one, h, List.map_append]; rfl
theorem rmNumbers_fn (f g : Bool) (ns : List ByteArray) (us : List Nat) (hu : U32 us) (hc : checkF ns us = 0) (s t : Sta) (hA : staB us.length s = true) (hB : staB us.length t = true) (R0 : List (Sta × Sta)) (hR0 : R0.length ≤ 300) :
    Fn Tryz.prog 72 [.agg [.sl f 1 (strRow ns), .sl g 1 (u32Row us)], .agg (encT s t), .sl false 12 (twoRow R0)] [] (.sl false 12 (twoRow (R0 ++ allOf s t ((placesF s).flatMap numM ++ (placesF s).map (botM (botI us)))))) [] := by
  have hs15 := sta_15 hA
  have ht15 := sta_15 hB
  have hpf := rmPlaces_fn s hs15
  have hbo := rBottom_fn f g ns us hu hc
  have hbt := botI_spec hc
  obtain ⟨bt, hbt0⟩ : ∃ b, botI us = b := ⟨_, rfl⟩
  rw [hbt0] at hbo hbt ⊢
  have hpl := placesF_len s
  have := hs15.code
  have := hs15.mem
  have := hs15.stack
  have hcl : (castL (placesF s)).length = (placesF s).length := castL_length _
  have hpk : ∀ p ∈ placesF s, p.1 ≤ 2 := fun p hp => placesF_le hp
  obtain ⟨ps, hps⟩ : ∃ l, placesF s = l := ⟨_, rfl⟩
  rw [hps] at hpf hpl hcl hpk ⊢
  obtain ⟨q, hq⟩ : ∃ q, ps.length = q := ⟨_, rfl⟩
  rw [hq] at hcl hpl
  have hf6 : ∀ i, ((ps.take i).flatMap numM).length ≤ 270 := fun i => by
    have : (ps.take i).length ≤ ps.length := List.length_take_le' _ _
    rw [flat6]; omega
  simp only [encT, staF, List.cons_append, List.nil_append] at hpf ⊢
  refine Fn.of (fn := Tryz.f72) (by kernel_rfl) rfl (by kernel_rfl) ⟨[.agg [.sl f 1 (strRow ns), .sl g 1 (u32Row us)], .agg [.v (.int .i64 s.v), .v (.int .i64 s.l), .sl false 3 (tRow s.code), .sl false 2 (pRow s.mem), .sl false 3 (sRow s.stack), .sl false 2 (pRow s.out), .v (.int .i64 t.v), .v (.int .i64 t.l), .sl false 3 (tRow t.code), .sl false 2 (pRow t.mem), .sl false 3 (sRow t.stack), .sl false 2 (pRow t.out)], .sl false 12 (twoRow R0), .v undef, .v undef, .v undef, .v undef, .v undef, .v undef, .v undef, .v undef, .v undef, .v undef, .v undef, .v undef, .v undef, .v undef, .v undef, .v undef, .v undef, .v undef, .v undef, .v undef, .v undef, .v undef, .v undef, .v undef, .v undef, .v undef, .v undef, .v undef, .v undef, .v undef, .v undef, .v undef, .v undef, .v undef, .v undef, .v undef, .v undef, .v undef, .v undef, .v undef, .v undef, .v undef, .v undef, .v undef, .v undef, .v undef, .v undef, .v undef, .v undef, .v undef, .v undef, .v undef, .v undef, .v undef, .v undef, .v undef, .v undef, .v undef, .v undef, .v undef, .v undef, .v undef, .v undef, .v undef, .v undef, .v undef, .v undef, .v undef, .v undef, .v undef, .v undef, .v undef, .v undef, .v undef, .v undef, .v undef, .v undef, .v undef, .v undef, .v undef, .v undef, .v undef, .v undef, .v undef], []⟩ rfl ?_
  repeat' first | (refine AWP_freezeR 1 0 rfl (by (simp (maxSteps := 9999999) only [push_cast, seval, ↓reduceIte]) <;> rfl) ?_; simp (maxSteps := 9999999) only [push_cast, seval, ↓reduceIte, frSt, frSlot, fr3, fr2, fr1, fr0, sameB, arrOf, hcl]) | (refine AWP_freezeR 1 1 rfl (by (simp (maxSteps := 9999999) only [push_cast, seval, ↓reduceIte]) <;> rfl) ?_; simp (maxSteps := 9999999) only [push_cast, seval, ↓reduceIte, frSt, frSlot, fr3, fr2, fr1, fr0, sameB, arrOf, hcl]) | (with_reducible first | refine AWP_seq' ?_ | refine k_normal ?_ | refine AWP_block ?_) | ((first | with_reducible refine AWP_reg fun KC J hJ hKC => ?_ | (refine hKC _ _ _ _ _ (callV0 (hpf) rfl rfl rfl ?_ ?_); (· exact Lq))); simp (maxSteps := 9999999) only [push_cast, seval, ↓reduceIte, hcl]) | ((with_reducible refine hJ _ _ ?_); clear hJ hKC KC J)
  refine AWP_loopD 2 (γ := {i : Nat // i ≤ q}) (fun i => ⟨[.any, .any, .sl false 12 (twoRow (R0 ++ allOf s t ((ps.take i.1).flatMap numM))), .fad [.sl f 1 (strRow ns), .sl g 1 (u32Row us)], .fad [.v (.int .i64 s.v), .v (.int .i64 s.l), .sl false 3 (tRow s.code), .sl false 2 (pRow s.mem), .sl false 3 (sRow s.stack), .sl false 2 (pRow s.out), .v (.int .i64 t.v), .v (.int .i64 t.l), .sl false 3 (tRow t.code), .sl false 2 (pRow t.mem), .sl false 3 (sRow t.stack), .sl false 2 (pRow t.out)], .any, .any, .any, .any, .any, .any, .any, .any, .any, .any, .any, .any, .sl false 2 (pRow (castL ps)), .v (.int .i64 q), .v (.int .i64 i.1), .any, .any, .any, .any, .any, .any, .any, .any, .any, .any, .any, .any, .any, .any, .any, .any, .any, .any, .any, .any, .any, .any, .any, .any, .any, .any, .any, .any, .any, .any, .any, .any, .any, .any, .any, .any, .any, .any, .any, .any, .any, .any, .any, .any, .any, .any, .any, .any, .any, .any, .any, .any, .any, .any, .any, .any, .any, .any, .any, .any, .any, .any, .any, .any, .any, .any, .any], [.dead, .dead]⟩) (fun i => q - i.1) ⟨0, by omega⟩ (fun i => rfl) (fun i => rfl) (fun i => rfl) ⟨?_, ?_⟩ ?_
  · simp only [List.take_zero, List.flatMap_nil, allOf, List.filter_nil, List.map_nil, List.append_nil]
    exact Lq
  · exact Fq
  rintro ⟨i, hi⟩
  dsimp only
  by_cases hlt : (i : Int) < (q : Int)
  · have hx : ps[i]? = some ps[i] := List.getElem?_eq_getElem (by omega)
    obtain ⟨p, hp⟩ : ∃ p, ps[i] = p := ⟨_, rfl⟩
    rw [hp] at hx
    have hge := getE_cast hx
    have hkp := hpk p (List.mem_of_getElem? hx)
    have hfs := flat_hs hx
    have hfl := hf6 i
    repeat' first | (refine AWP_freezeR 4 2 rfl (by (simp (maxSteps := 9999999) only [push_cast, seval, ↓reduceIte]) <;> rfl) ?_; simp (maxSteps := 9999999) only [push_cast, seval, ↓reduceIte, frSt, frSlot, fr3, fr2, fr1, fr0, sameB, arrOf, hlt, hcl, hge]) | (with_reducible first | refine AWP_seq' ?_ | refine k_normal ?_ | refine AWP_skip ?_ | refine AWP_block ?_) | ((with_reducible refine And.intro ?_ ?_); · exact Sq) | ((with_reducible refine AWP_reg fun KC J hJ hKC => ?_); simp (maxSteps := 9999999) only [push_cast, seval, ↓reduceIte, hlt, hcl, hge]) | ((with_reducible refine hJ _ _ ?_); clear hJ hKC KC J) | ((with_reducible refine AWP_condT ?_ ?_); · rfl)
    refine AWP_loopD 3 (γ := {b : Nat // b ≤ 2}) (fun b => ⟨[.any, .any, .sl false 12 (twoRow (R0 ++ allOf s t ((ps.take i).flatMap numM ++ hsM p b.1))), .fad [.sl f 1 (strRow ns), .sl g 1 (u32Row us)], .fad [.v (.int .i64 s.v), .v (.int .i64 s.l), .sl false 3 (tRow s.code), .sl false 2 (pRow s.mem), .sl false 3 (sRow s.stack), .sl false 2 (pRow s.out), .v (.int .i64 t.v), .v (.int .i64 t.l), .sl false 3 (tRow t.code), .sl false 2 (pRow t.mem), .sl false 3 (sRow t.stack), .sl false 2 (pRow t.out)], .any, .any, .any, .fad [.v (.int .i64 (p.1 : Int)), .v (.int .i64 (p.2 : Int))], .v (.int .i64 b.1), .any, .any, .any, .any, .any, .any, .any, .sl false 2 (pRow (castL ps)), .v (.int .i64 q), .v (.int .i64 i), .any, .any, .any, .any, .any, .any, .any, .any, .any, .any, .any, .any, .any, .any, .any, .any, .any, .any, .any, .any, .any, .any, .any, .any, .any, .any, .any, .any, .any, .any, .any, .any, .any, .any, .any, .any, .any, .any, .any, .any, .any, .any, .any, .any, .any, .any, .any, .any, .any, .any, .any, .any, .any, .any, .any, .any, .any, .any, .any, .any, .any, .any, .any, .any, .any, .any, .any], [.dead, .dead, .dead]⟩) (fun b => 2 - b.1) ⟨0, by omega⟩ (fun i => rfl) (fun i => rfl) (fun i => rfl) ⟨?_, ?_⟩ ?_
    · simp only [show hsM p 0 = [] from rfl, List.append_nil]
      exact Lq
    · exact Fq
    rintro ⟨b, hb⟩
    dsimp only
    by_cases hlb : (b : Int) < 2
    · have hb2 : b < 2 := by omega
      have hmk : MvOk us (.num p.1 p.2 (.half b)) := ⟨hkp, hb2⟩
      have hd1 := rmDo_fn p.1 p.2 hkp (d := .half b) hb2 s (sta_num hA)
      have hd2 := rmDo_fn p.1 p.2 hkp (d := .half b) hb2 t (sta_num hB)
      have hhl := hsM_le p hb
      have hst : ((ps.take i).flatMap numM ++ hsM p b) ++ [(Mv.num p.1 p.2 (.half b), Mv.num p.1 p.2 (.half b))] ++ [(Mv.num p.1 p.2 (.half b), Mv.still)] ++ [(Mv.still, Mv.num p.1 p.2 (.half b))] = (ps.take i).flatMap numM ++ hsM p (b + 1) := by
        rw [hsM_succ]; simp [halfM]
      obtain ⟨P, hP⟩ : ∃ P, (ps.take i).flatMap numM ++ hsM p b = P := ⟨_, rfl⟩
      have hPl : P.length ≤ 276 := by rw [← hP, List.length_append]; omega
      rw [hP] at hst ⊢
      have hT1b1 := sta_15 (mv_B (m := (Mv.num p.1 p.2 (.half b), Mv.num p.1 p.2 (.half b)).1) hmk hA)
      have hT1b2 := sta_15 (mv_B (m := (Mv.num p.1 p.2 (.half b), Mv.num p.1 p.2 (.half b)).2) hmk hB)
      have hT1 := rmTold_fn (R0 ++ allOf s t (P)) (by have := allOf_len s t (P); rw [List.length_append]; omega) (s, t) (mkT s t (Mv.num p.1 p.2 (.half b), Mv.num p.1 p.2 (.half b))) hs15 ht15 hT1b1 hT1b2
      rw [told_step] at hT1
      have hT2b1 := sta_15 (mv_B (m := (Mv.num p.1 p.2 (.half b), Mv.still).1) hmk hA)
      have hT2b2 := sta_15 (mv_B (m := (Mv.num p.1 p.2 (.half b), Mv.still).2) trivial hB)
      have hT2 := rmTold_fn (R0 ++ allOf s t (P ++ [(Mv.num p.1 p.2 (.half b), Mv.num p.1 p.2 (.half b))])) (by have := allOf_len s t (P ++ [(Mv.num p.1 p.2 (.half b), Mv.num p.1 p.2 (.half b))]); rw [List.length_append]; simp only [List.length_append, List.length_cons, List.length_nil] at this; omega) (s, t) (mkT s t (Mv.num p.1 p.2 (.half b), Mv.still)) hs15 ht15 hT2b1 hT2b2
      rw [told_step] at hT2
      have hT3b1 := sta_15 (mv_B (m := (Mv.still, Mv.num p.1 p.2 (.half b)).1) trivial hA)
      have hT3b2 := sta_15 (mv_B (m := (Mv.still, Mv.num p.1 p.2 (.half b)).2) hmk hB)
      have hT3 := rmTold_fn (R0 ++ allOf s t (P ++ [(Mv.num p.1 p.2 (.half b), Mv.num p.1 p.2 (.half b))] ++ [(Mv.num p.1 p.2 (.half b), Mv.still)])) (by have := allOf_len s t (P ++ [(Mv.num p.1 p.2 (.half b), Mv.num p.1 p.2 (.half b))] ++ [(Mv.num p.1 p.2 (.half b), Mv.still)]); rw [List.length_append]; simp only [List.length_append, List.length_cons, List.length_nil] at this; omega) (s, t) (mkT s t (Mv.still, Mv.num p.1 p.2 (.half b))) hs15 ht15 hT3b1 hT3b2
      rw [told_step] at hT3
      rw [hst] at hT3
      simp only [mkT, show mvF .still s = s from rfl, show mvF .still t = t from rfl] at hT1 hT2 hT3
      obtain ⟨y1, hy1⟩ : ∃ y, mvF (.num p.1 p.2 (.half b)) s = y := ⟨_, rfl⟩
      obtain ⟨y2, hy2⟩ : ∃ y, mvF (.num p.1 p.2 (.half b)) t = y := ⟨_, rfl⟩
      rw [hy1] at hd1 hT1 hT2
      rw [hy2] at hd2 hT1 hT3
      simp only [encT, staF, List.cons_append, List.nil_append] at hd1 hd2 hT1 hT2 hT3
      repeat' first | (with_reducible first | refine AWP_seq' ?_ | refine k_normal ?_ | refine b_normal ?_ | refine AWP_skip ?_ | refine AWP_block ?_) | ((first | with_reducible refine AWP_reg fun KC J hJ hKC => ?_ | (refine hKC _ _ _ _ _ (callV0 (hd1) rfl rfl rfl ?_ ?_); (· exact Lq)) | (refine hKC _ _ _ _ _ (callV0 (hd2) rfl rfl rfl ?_ ?_); (· exact Lq)) | (refine hKC _ _ _ _ _ (callV0 (hT1) rfl rfl rfl ?_ ?_); (· exact Lq)) | (refine hKC _ _ _ _ _ (callV0 (hT2) rfl rfl rfl ?_ ?_); (· exact Lq)) | (refine hKC _ _ _ _ _ (callV0 (hT3) rfl rfl rfl ?_ ?_); (· exact Lq))); simp (maxSteps := 9999999) only [push_cast, seval, ↓reduceIte, hlb, wrapN (i := b) (n := 2) (by omega) (by omega)]) | ((with_reducible refine hJ _ _ ?_); clear hJ hKC KC J) | ((with_reducible refine AWP_condT ?_ ?_); · rfl)
      refine ⟨⟨b + 1, by omega⟩, by simp only; omega, ?_, ⟨_, rfl⟩⟩
      exact Lq
    have hb2 : b = 2 := by omega
    subst hb2
    rw [hfs]
    repeat' first | (with_reducible first | refine AWP_seq' ?_ | refine k_normal ?_ | refine k_exit ?_ | refine b_normal ?_ | refine b_exit ?_ | refine AWP_exit ?_) | ((with_reducible refine AWP_reg fun KC J hJ hKC => ?_); simp (maxSteps := 9999999) only [push_cast, seval, ↓reduceIte, hlb, wrapN (i := i) (n := q) (by omega) (by omega)]) | ((with_reducible refine hJ _ _ ?_); clear hJ hKC KC J) | ((with_reducible refine AWP_condF ?_ ?_); · rfl)
    refine ⟨⟨i + 1, by omega⟩, by simp only; omega, ?_, ⟨_, rfl⟩⟩
    exact Lq
  have hin : i = q := by omega
  subst hin
  have hpsl : ps.take i = ps := by rw [← hq]; exact List.take_length
  rw [hpsl]
  have hfl := hf6 ps.length
  rw [List.take_length] at hfl
  repeat' first | (refine AWP_freezeR 14 3 rfl (by (simp (maxSteps := 9999999) only [push_cast, seval, ↓reduceIte]) <;> rfl) ?_; simp (maxSteps := 9999999) only [push_cast, seval, ↓reduceIte, frSt, frSlot, fr3, fr2, fr1, fr0, sameB, arrOf, hlt, hcl]) | (with_reducible first | refine AWP_seq' ?_ | refine k_normal ?_ | refine k_exit ?_ | refine b_exit ?_ | refine AWP_exit ?_ | refine AWP_block ?_) | ((first | with_reducible refine AWP_reg fun KC J hJ hKC => ?_ | (refine hKC _ _ _ _ _ (callV0 (hbo) rfl rfl rfl ?_ ?_); (· exact Lq)) | (refine hKC _ _ _ _ _ (callV0 (hpf) rfl rfl rfl ?_ ?_); (· exact Lq))); simp (maxSteps := 9999999) only [push_cast, seval, ↓reduceIte, hlt, hcl]) | ((with_reducible refine hJ _ _ ?_); clear hJ hKC KC J) | ((with_reducible refine AWP_condF ?_ ?_); · rfl)
  refine AWP_loopD 4 (γ := {k : Nat // k ≤ i}) (fun k => ⟨[.any, .any, .sl false 12 (twoRow (R0 ++ allOf s t (ps.flatMap numM ++ (ps.take k.1).map (botM bt)))), .any, .fad [.v (.int .i64 s.v), .v (.int .i64 s.l), .sl false 3 (tRow s.code), .sl false 2 (pRow s.mem), .sl false 3 (sRow s.stack), .sl false 2 (pRow s.out), .v (.int .i64 t.v), .v (.int .i64 t.l), .sl false 3 (tRow t.code), .sl false 2 (pRow t.mem), .sl false 3 (sRow t.stack), .sl false 2 (pRow t.out)], .any, .any, .any, .any, .any, .any, .any, .fad [.v (.int .i64 2), .v (.int .i64 bt)], .any, .any, .any, .any, .any, .any, .any, .any, .any, .any, .any, .any, .any, .any, .any, .any, .any, .any, .any, .any, .any, .any, .any, .any, .any, .any, .any, .any, .any, .any, .any, .any, .any, .any, .any, .any, .any, .any, .any, .any, .any, .any, .any, .any, .any, .any, .any, .any, .any, .any, .any, .any, .sl false 2 (pRow (castL ps)), .v (.int .i64 i), .v (.int .i64 k.1), .any, .any, .any, .any, .any, .any, .any, .any, .any, .any, .any, .any, .any, .any, .any, .any, .any, .any, .any], [.dead, .dead, .free, .dead]⟩) (fun k => i - k.1) ⟨0, by omega⟩ (fun i => rfl) (fun i => rfl) (fun i => rfl) ⟨?_, ?_⟩ ?_
  · simp only [List.take_zero, List.map_nil, List.append_nil]
    exact Lq
  · exact Fq
  clear hlt
  rintro ⟨k, hk⟩
  dsimp only
  by_cases hlt : (k : Int) < (i : Int)
  · have hx : ps[k]? = some ps[k] := List.getElem?_eq_getElem (by omega)
    obtain ⟨p, hp⟩ : ∃ p, ps[k] = p := ⟨_, rfl⟩
    rw [hp] at hx
    have hge := getE_cast hx
    have hkp := hpk p (List.mem_of_getElem? hx)
    have hmk : MvOk us (.num p.1 p.2 (.bot bt)) := ⟨hkp, hbt⟩
    have hd1 := rmDo_fn p.1 p.2 hkp (d := .bot bt) hbt s (sta_num hA)
    have hd2 := rmDo_fn p.1 p.2 hkp (d := .bot bt) hbt t (sta_num hB)
    have hst : (ps.flatMap numM ++ (ps.take k).map (botM bt)) ++ [(Mv.num p.1 p.2 (.bot bt), Mv.num p.1 p.2 (.bot bt))] = ps.flatMap numM ++ (ps.take (k + 1)).map (botM bt) := by
      rw [botM_succ hx, List.append_assoc]; rfl
    obtain ⟨P, hP⟩ : ∃ P, ps.flatMap numM ++ (ps.take k).map (botM bt) = P := ⟨_, rfl⟩
    have hPl : P.length ≤ 330 := by
      have : (ps.take k).length ≤ ps.length := List.length_take_le' _ _
      rw [← hP, List.length_append, List.length_map]; omega
    rw [hP] at hst ⊢
    have hT1b1 := sta_15 (mv_B (m := (Mv.num p.1 p.2 (.bot bt), Mv.num p.1 p.2 (.bot bt)).1) hmk hA)
    have hT1b2 := sta_15 (mv_B (m := (Mv.num p.1 p.2 (.bot bt), Mv.num p.1 p.2 (.bot bt)).2) hmk hB)
    have hT1 := rmTold_fn (R0 ++ allOf s t (P)) (by have := allOf_len s t (P); rw [List.length_append]; omega) (s, t) (mkT s t (Mv.num p.1 p.2 (.bot bt), Mv.num p.1 p.2 (.bot bt))) hs15 ht15 hT1b1 hT1b2
    rw [told_step] at hT1
    rw [hst] at hT1
    simp only [mkT] at hT1
    obtain ⟨y1, hy1⟩ : ∃ y, mvF (.num p.1 p.2 (.bot bt)) s = y := ⟨_, rfl⟩
    obtain ⟨y2, hy2⟩ : ∃ y, mvF (.num p.1 p.2 (.bot bt)) t = y := ⟨_, rfl⟩
    rw [hy1] at hd1 hT1
    rw [hy2] at hd2 hT1
    simp only [encT, staF, List.cons_append, List.nil_append] at hd1 hd2 hT1
    repeat' first | (with_reducible first | refine AWP_seq' ?_ | refine k_normal ?_ | refine b_normal ?_ | refine AWP_skip ?_ | refine AWP_block ?_) | ((with_reducible refine And.intro ?_ ?_); · exact Sq) | ((first | with_reducible refine AWP_reg fun KC J hJ hKC => ?_ | with_reducible refine AWP_regD rfl fun KC J hJ hKC => ?_ | (refine hKC _ _ _ _ _ (callV0 (hd1) rfl rfl rfl ?_ ?_); (· exact Lq)) | (refine hKC _ _ _ _ _ (callV0 (hd2) rfl rfl rfl ?_ ?_); (· exact Lq)) | (refine hKC _ _ _ _ _ (callV0 (hT1) rfl rfl rfl ?_ ?_); (· exact Lq))); simp (maxSteps := 9999999) only [push_cast, seval, ↓reduceIte, hlt, hcl, hge, wrapN (i := k) (n := i) (by omega) (by omega)]) | ((first | with_reducible refine hJ _ _ ?_ | (with_reducible refine hJ _ _ ?_ ?_; · kernel_rfl)); clear hJ hKC KC J) | ((with_reducible refine AWP_condT ?_ ?_); · rfl)
    refine ⟨⟨k + 1, by omega⟩, by simp only; omega, ?_, ⟨_, rfl⟩⟩
    exact Lq
  have hkj : k = i := by omega
  subst hkj
  rw [hpsl]
  repeat' first | (with_reducible first | refine AWP_seq' ?_ | refine k_normal ?_ | refine k_exit ?_ | refine b_exit ?_ | refine AWP_ret ?_ | refine AWP_exit ?_) | ((with_reducible refine AWP_reg fun KC J hJ hKC => ?_); simp (maxSteps := 9999999) only [push_cast, seval, ↓reduceIte, hlt]) | ((with_reducible refine hJ _ _ ?_); clear hJ hKC KC J) | ((with_reducible refine AWP_condF ?_ ?_); · rfl)
  refine ret_plain ?_
  simp (maxSteps := 9999999) only [push_cast, seval, ↓reduceIte, show Tryz.f72.results = #[(.tmp 6)] from rfl]
  exact Lq
theorem rmAll_fn (f g : Bool) (ns : List ByteArray) (us : List Nat) (hu : U32 us) (hc : checkF ns us = 0) (s t : Sta) (hA : staB us.length s = true) (hB : staB us.length t = true) :
    Fn Tryz.prog 27 [.agg [.sl f 1 (strRow ns), .sl g 1 (u32Row us)], .agg (encT s t)] [] (.sl false 12 (twoRow (allF (botI us) s t))) [] := by
  have hs15 := sta_15 hA
  have ht15 := sta_15 hB
  have l1 := hs15.code
  have l2 := hs15.mem
  have l3 := hs15.stack
  have k1 := ht15.code
  have k2 := ht15.mem
  have k3 := ht15.stack
  simp only [encT, staF, List.cons_append, List.nil_append]
  refine Fn.of (fn := Tryz.f27) (by kernel_rfl) rfl (by kernel_rfl) ⟨[.agg [.sl f 1 (strRow ns), .sl g 1 (u32Row us)], .agg [.v (.int .i64 s.v), .v (.int .i64 s.l), .sl false 3 (tRow s.code), .sl false 2 (pRow s.mem), .sl false 3 (sRow s.stack), .sl false 2 (pRow s.out), .v (.int .i64 t.v), .v (.int .i64 t.l), .sl false 3 (tRow t.code), .sl false 2 (pRow t.mem), .sl false 3 (sRow t.stack), .sl false 2 (pRow t.out)], .v undef, .v undef, .v undef, .v undef, .v undef, .v undef, .v undef, .v undef, .v undef, .v undef, .v undef, .v undef, .v undef, .v undef, .v undef, .v undef, .v undef, .v undef, .v undef, .v undef, .v undef, .v undef, .v undef, .v undef, .v undef, .v undef, .v undef, .v undef, .v undef, .v undef, .v undef, .v undef, .v undef, .v undef, .v undef, .v undef, .v undef, .v undef, .v undef, .v undef, .v undef, .v undef, .v undef, .v undef, .v undef, .v undef, .v undef, .v undef, .v undef, .v undef, .v undef, .v undef, .v undef, .v undef, .v undef, .v undef, .v undef, .v undef, .v undef, .v undef, .v undef, .v undef, .v undef, .v undef, .v undef, .v undef, .v undef, .v undef, .v undef, .v undef, .v undef, .v undef, .v undef, .v undef, .v undef, .v undef, .v undef, .v undef, .v undef, .v undef, .v undef, .v undef, .v undef, .v undef, .v undef, .v undef, .v undef, .v undef, .v undef, .v undef, .v undef, .v undef, .v undef, .v undef, .v undef, .v undef, .v undef, .v undef, .v undef, .v undef], []⟩ rfl ?_
  repeat' first | (refine AWP_freezeR 2 0 rfl (by (simp (maxSteps := 9999999) only [push_cast, seval, ↓reduceIte]) <;> rfl) ?_; simp (maxSteps := 9999999) only [push_cast, seval, ↓reduceIte, frSt, frSlot, fr3, fr2, fr1, fr0, sameB, arrOf]) | (refine AWP_freezeR 2 1 rfl (by (simp (maxSteps := 9999999) only [push_cast, seval, ↓reduceIte]) <;> rfl) ?_; simp (maxSteps := 9999999) only [push_cast, seval, ↓reduceIte, frSt, frSlot, fr3, fr2, fr1, fr0, sameB, arrOf]) | (with_reducible first | refine AWP_seq' ?_ | refine k_normal ?_ | refine AWP_block ?_) | ((with_reducible refine AWP_reg fun KC J hJ hKC => ?_); simp (maxSteps := 9999999) only [push_cast, seval, ↓reduceIte]) | ((with_reducible refine hJ _ _ ?_); clear hJ hKC KC J)
  refine AWP_flag 5 rfl ?_
  simp only [List.set_cons_zero, List.set_cons_succ]
  refine AWP_loopD 2 (γ := {i : Nat // i ≤ s.code.length}) (fun i => ⟨[.any, .any, .fad [.sl f 1 (strRow ns), .sl g 1 (u32Row us)], .fad [.v (.int .i64 s.v), .v (.int .i64 s.l), .sl false 3 (tRow s.code), .sl false 2 (pRow s.mem), .sl false 3 (sRow s.stack), .sl false 2 (pRow s.out), .v (.int .i64 t.v), .v (.int .i64 t.l), .sl false 3 (tRow t.code), .sl false 2 (pRow t.mem), .sl false 3 (sRow t.stack), .sl false 2 (pRow t.out)], .any, .sl false 12 (twoRow (allOf s t (A1 s i.1))), .any, .any, .any, .any, .any, .any, .any, .v (.int .i64 s.code.length), .v (.int .i64 i.1), .any, .any, .any, .any, .any, .any, .any, .any, .any, .any, .any, .any, .any, .any, .any, .any, .any, .any, .any, .any, .any, .any, .any, .any, .any, .any, .any, .any, .any, .any, .any, .any, .any, .any, .any, .any, .any, .any, .any, .any, .any, .any, .any, .any, .any, .any, .any, .any, .any, .any, .any, .any, .any, .any, .any, .any, .any, .any, .any, .any, .any, .any, .any, .any, .any, .any, .any, .any, .any, .any, .any, .any, .any, .any, .any, .any, .any, .any, .any, .any, .any, .any, .any, .any, .any, .any, .any], [.dead, .dead]⟩) (fun i => s.code.length - i.1) ⟨0, by omega⟩ (fun i => rfl) (fun i => rfl) (fun i => rfl) ⟨?_, ?_⟩ ?_
  · simp only [show A1 s 0 = [] from rfl, show allOf s t [] = [] from rfl, show twoRow [] = [] from rfl]
    exact Lq
  · exact Fq
  rintro ⟨i, hi⟩
  dsimp only
  have hAl := A1_le s i
  by_cases hlt : (i : Int) < (s.code.length : Int)
  · have hst : A1 s i ++ [(.without i, .without i)] = A1 s (i + 1) := (A1_succ s i).symm
    have hd1 := rmWithout_fn i s (sta_num hA)
    have hd2 := rmWithout_fn i t (sta_num hB)
    have hT1b1 := sta_15 (mv_B (m := ((.without i : Mv), (.without i : Mv)).1) trivial hA)
    have hT1b2 := sta_15 (mv_B (m := ((.without i : Mv), (.without i : Mv)).2) trivial hB)
    have hT1 := rmTold_fn (allOf s t (A1 s i)) (by have := allOf_len s t (A1 s i); omega) (s, t) (mkT s t ((.without i : Mv), (.without i : Mv))) hs15 ht15 hT1b1 hT1b2
    rw [told_step0] at hT1
    rw [hst] at hT1
    simp only [mkT] at hT1
    obtain ⟨y1, hy1⟩ : ∃ y, mvF (.without i) s = y := ⟨_, rfl⟩
    obtain ⟨y2, hy2⟩ : ∃ y, mvF (.without i) t = y := ⟨_, rfl⟩
    rw [hy1] at hd1 hT1
    rw [hy2] at hd2 hT1
    simp only [encT, staF, List.cons_append, List.nil_append] at hd1 hd2 hT1
    repeat' first | (with_reducible first | refine AWP_seq' ?_ | refine k_normal ?_ | refine b_normal ?_ | refine AWP_skip ?_ | refine AWP_block ?_) | ((first | with_reducible refine AWP_reg fun KC J hJ hKC => ?_ | with_reducible refine AWP_regD rfl fun KC J hJ hKC => ?_ | (refine hKC _ _ _ _ _ (callV0 (hd1) rfl rfl rfl ?_ ?_); (· exact Lq)) | (refine hKC _ _ _ _ _ (callV0 (hd2) rfl rfl rfl ?_ ?_); (· exact Lq)) | (refine hKC _ _ _ _ _ (callV0 (hT1) rfl rfl rfl ?_ ?_); (· exact Lq))); simp (maxSteps := 9999999) only [push_cast, seval, ↓reduceIte, hlt, wrapN (i := i) (n := s.code.length) (by omega) (by omega)]) | ((first | with_reducible refine hJ _ _ ?_ | (with_reducible refine hJ _ _ ?_ ?_; · kernel_rfl)); clear hJ hKC KC J) | ((with_reducible refine AWP_condT ?_ ?_); · rfl)
    refine ⟨⟨i + 1, by omega⟩, by simp only; omega, ?_, ⟨_, rfl⟩⟩
    exact Lq
  have hin : i = s.code.length := by omega
  subst hin
  repeat' first | (with_reducible first | refine AWP_seq' ?_ | refine k_normal ?_ | refine k_exit ?_ | refine b_exit ?_ | refine AWP_exit ?_ | refine AWP_block ?_) | ((with_reducible refine AWP_reg fun KC J hJ hKC => ?_); simp (maxSteps := 9999999) only [push_cast, seval, ↓reduceIte, hlt]) | ((with_reducible refine hJ _ _ ?_); clear hJ hKC KC J) | ((with_reducible refine AWP_condF ?_ ?_); · rfl)
  clear hAl hlt hi
  refine AWP_loopD 2 (γ := {i : Nat // i ≤ s.code.length}) (fun i => ⟨[.any, .any, .fad [.sl f 1 (strRow ns), .sl g 1 (u32Row us)], .fad [.v (.int .i64 s.v), .v (.int .i64 s.l), .sl false 3 (tRow s.code), .sl false 2 (pRow s.mem), .sl false 3 (sRow s.stack), .sl false 2 (pRow s.out), .v (.int .i64 t.v), .v (.int .i64 t.l), .sl false 3 (tRow t.code), .sl false 2 (pRow t.mem), .sl false 3 (sRow t.stack), .sl false 2 (pRow t.out)], .any, .sl false 12 (twoRow (allOf s t (A2 s i.1))), .any, .any, .any, .any, .any, .any, .any, .any, .any, .any, .any, .any, .any, .any, .any, .any, .any, .any, .any, .any, .any, .any, .any, .any, .any, .any, .any, .v (.int .i64 s.code.length), .v (.int .i64 i.1), .any, .any, .any, .any, .any, .any, .any, .any, .any, .any, .any, .any, .any, .any, .any, .any, .any, .any, .any, .any, .any, .any, .any, .any, .any, .any, .any, .any, .any, .any, .any, .any, .any, .any, .any, .any, .any, .any, .any, .any, .any, .any, .any, .any, .any, .any, .any, .any, .any, .any, .any, .any, .any, .any, .any, .any, .any, .any, .any, .any, .any, .any, .any, .any, .any, .any, .any], [.dead, .dead]⟩) (fun i => s.code.length - i.1) ⟨0, by omega⟩ (fun i => rfl) (fun i => rfl) (fun i => rfl) ⟨?_, ?_⟩ ?_
  · simp only [A2_zero]
    exact Lq
  · exact Fq
  rintro ⟨i, hi⟩
  dsimp only
  have hAl := A2_le s i
  by_cases hlt : (i : Int) < (s.code.length : Int)
  · have hst : A2 s i ++ [(.idle i, .idle i)] = A2 s (i + 1) := (A2_succ s i).symm
    have hd1 := rmIdle_fn i s l1
    have hd2 := rmIdle_fn i t k1
    have hT1b1 := sta_15 (mv_B (m := ((.idle i : Mv), (.idle i : Mv)).1) trivial hA)
    have hT1b2 := sta_15 (mv_B (m := ((.idle i : Mv), (.idle i : Mv)).2) trivial hB)
    have hT1 := rmTold_fn (allOf s t (A2 s i)) (by have := allOf_len s t (A2 s i); omega) (s, t) (mkT s t ((.idle i : Mv), (.idle i : Mv))) hs15 ht15 hT1b1 hT1b2
    rw [told_step0] at hT1
    rw [hst] at hT1
    simp only [mkT] at hT1
    obtain ⟨y1, hy1⟩ : ∃ y, mvF (.idle i) s = y := ⟨_, rfl⟩
    obtain ⟨y2, hy2⟩ : ∃ y, mvF (.idle i) t = y := ⟨_, rfl⟩
    rw [hy1] at hd1 hT1
    rw [hy2] at hd2 hT1
    simp only [encT, staF, List.cons_append, List.nil_append] at hd1 hd2 hT1
    repeat' first | (with_reducible first | refine AWP_seq' ?_ | refine k_normal ?_ | refine b_normal ?_ | refine AWP_skip ?_ | refine AWP_block ?_) | ((first | with_reducible refine AWP_reg fun KC J hJ hKC => ?_ | with_reducible refine AWP_regD rfl fun KC J hJ hKC => ?_ | (refine hKC _ _ _ _ _ (callV0 (hd1) rfl rfl rfl ?_ ?_); (· exact Lq)) | (refine hKC _ _ _ _ _ (callV0 (hd2) rfl rfl rfl ?_ ?_); (· exact Lq)) | (refine hKC _ _ _ _ _ (callV0 (hT1) rfl rfl rfl ?_ ?_); (· exact Lq))); simp (maxSteps := 9999999) only [push_cast, seval, ↓reduceIte, hlt, wrapN (i := i) (n := s.code.length) (by omega) (by omega)]) | ((first | with_reducible refine hJ _ _ ?_ | (with_reducible refine hJ _ _ ?_ ?_; · kernel_rfl)); clear hJ hKC KC J) | ((with_reducible refine AWP_condT ?_ ?_); · rfl)
    refine ⟨⟨i + 1, by omega⟩, by simp only; omega, ?_, ⟨_, rfl⟩⟩
    exact Lq
  have hin : i = s.code.length := by omega
  subst hin
  have hT2d1 := rmLess_fn s (by omega)
  have hT2d2 := rmLess_fn t (by omega)
  have hT2b1 := sta_15 (mv_B (m := ((.less : Mv), (.less : Mv)).1) trivial hA)
  have hT2b2 := sta_15 (mv_B (m := ((.less : Mv), (.less : Mv)).2) trivial hB)
  have hT2 := rmTold_fn (allOf s t (A2 s s.code.length)) (by have := allOf_len s t (A2 s s.code.length); omega) (s, t) (mkT s t ((.less : Mv), (.less : Mv))) hs15 ht15 hT2b1 hT2b2
  rw [told_step0] at hT2
  rw [show A2 s s.code.length ++ [((.less : Mv), (.less : Mv))] = A3 s from rfl] at hT2
  simp only [mkT] at hT2
  obtain ⟨hT2y1, hT2e1⟩ : ∃ y, mvF (.less) s = y := ⟨_, rfl⟩
  obtain ⟨hT2y2, hT2e2⟩ : ∃ y, mvF (.less) t = y := ⟨_, rfl⟩
  rw [hT2e1] at hT2d1 hT2
  rw [hT2e2] at hT2d2 hT2
  have hA3 := A3_le s
  have hT3d1 := rmSilent_fn s
  have hT3d2 := rmSilent_fn t
  have hT3b1 := sta_15 (mv_B (m := ((.silent : Mv), (.silent : Mv)).1) trivial hA)
  have hT3b2 := sta_15 (mv_B (m := ((.silent : Mv), (.silent : Mv)).2) trivial hB)
  have hT3 := rmTold_fn (allOf s t (A3 s)) (by have := allOf_len s t (A3 s); omega) (s, t) (mkT s t ((.silent : Mv), (.silent : Mv))) hs15 ht15 hT3b1 hT3b2
  rw [told_step0] at hT3
  rw [← A4_3 s] at hT3
  simp only [mkT] at hT3
  obtain ⟨hT3y1, hT3e1⟩ : ∃ y, mvF (.silent) s = y := ⟨_, rfl⟩
  obtain ⟨hT3y2, hT3e2⟩ : ∃ y, mvF (.silent) t = y := ⟨_, rfl⟩
  rw [hT3e1] at hT3d1 hT3
  rw [hT3e2] at hT3d2 hT3
  simp only [encT, staF, List.cons_append, List.nil_append] at hT2d1 hT2d2 hT2 hT3d1 hT3d2 hT3
  repeat' first | (with_reducible first | refine AWP_seq' ?_ | refine k_normal ?_ | refine k_exit ?_ | refine b_exit ?_ | refine AWP_exit ?_ | refine AWP_block ?_) | ((first | with_reducible refine AWP_reg fun KC J hJ hKC => ?_ | with_reducible refine AWP_regD rfl fun KC J hJ hKC => ?_ | (refine hKC _ _ _ _ _ (callV0 (hT2d1) rfl rfl rfl ?_ ?_); (· exact Lq)) | (refine hKC _ _ _ _ _ (callV0 (hT2d2) rfl rfl rfl ?_ ?_); (· exact Lq)) | (refine hKC _ _ _ _ _ (callV0 (hT2) rfl rfl rfl ?_ ?_); (· exact Lq)) | (refine hKC _ _ _ _ _ (callV0 (hT3d1) rfl rfl rfl ?_ ?_); (· exact Lq)) | (refine hKC _ _ _ _ _ (callV0 (hT3d2) rfl rfl rfl ?_ ?_); (· exact Lq)) | (refine hKC _ _ _ _ _ (callV0 (hT3) rfl rfl rfl ?_ ?_); (· exact Lq))); simp (maxSteps := 9999999) only [push_cast, seval, ↓reduceIte, hlt]) | ((first | with_reducible refine hJ _ _ ?_ | (with_reducible refine hJ _ _ ?_ ?_; · kernel_rfl)); clear hJ hKC KC J) | ((with_reducible refine AWP_condF ?_ ?_); · rfl)
  clear hAl hlt hi hT2d1 hT2d2 hT2 hT3d1 hT3d2 hT3
  obtain ⟨M, hM⟩ : ∃ M, max s.stack.length t.stack.length = M := ⟨_, rfl⟩
  have hMl : M ≤ 15 := by omega
  refine AWP_loopD 2 (γ := {i : Nat // i ≤ M}) (fun i => ⟨[.any, .any, .fad [.sl f 1 (strRow ns), .sl g 1 (u32Row us)], .fad [.v (.int .i64 s.v), .v (.int .i64 s.l), .sl false 3 (tRow s.code), .sl false 2 (pRow s.mem), .sl false 3 (sRow s.stack), .sl false 2 (pRow s.out), .v (.int .i64 t.v), .v (.int .i64 t.l), .sl false 3 (tRow t.code), .sl false 2 (pRow t.mem), .sl false 3 (sRow t.stack), .sl false 2 (pRow t.out)], .any, .sl false 12 (twoRow (allOf s t (A5 s i.1))), .any, .any, .v (.int .i64 i.1), .any, .any, .any, .any, .any, .any, .any, .any, .any, .any, .any, .any, .any, .any, .any, .any, .any, .any, .any, .any, .any, .any, .any, .any, .any, .any, .any, .any, .any, .any, .any, .any, .any, .any, .any, .any, .any, .any, .any, .any, .any, .any, .any, .any, .any, .any, .any, .any, .any, .any, .any, .any, .any, .any, .any, .any, .any, .any, .any, .any, .any, .any, .any, .any, .any, .any, .any, .any, .any, .any, .any, .any, .any, .any, .any, .any, .any, .any, .any, .any, .any, .any, .any, .any, .any, .any, .any, .any, .any, .any, .any, .any, .any], [.dead, .dead]⟩) (fun i => M - i.1) ⟨0, by omega⟩ (fun i => rfl) (fun i => rfl) (fun i => rfl) ⟨?_, ?_⟩ ?_
  · simp only [A5_zero]
    exact Lq
  · exact Fq
  rintro ⟨i, hi⟩
  dsimp only
  have hAl := A5_le s i
  by_cases hlt : i < M
  · have hst : A5 s i ++ [(.pull i, .pull i)] = A5 s (i + 1) := (A5_succ s i).symm
    have hd1 := rmPull_fn i s l3
    have hd2 := rmPull_fn i t k3
    have hT1b1 := sta_15 (mv_B (m := ((.pull i : Mv), (.pull i : Mv)).1) trivial hA)
    have hT1b2 := sta_15 (mv_B (m := ((.pull i : Mv), (.pull i : Mv)).2) trivial hB)
    have hT1 := rmTold_fn (allOf s t (A5 s i)) (by have := allOf_len s t (A5 s i); omega) (s, t) (mkT s t ((.pull i : Mv), (.pull i : Mv))) hs15 ht15 hT1b1 hT1b2
    rw [told_step0] at hT1
    rw [hst] at hT1
    simp only [mkT] at hT1
    obtain ⟨y1, hy1⟩ : ∃ y, mvF (.pull i) s = y := ⟨_, rfl⟩
    obtain ⟨y2, hy2⟩ : ∃ y, mvF (.pull i) t = y := ⟨_, rfl⟩
    rw [hy1] at hd1 hT1
    rw [hy2] at hd2 hT1
    simp only [encT, staF, List.cons_append, List.nil_append] at hd1 hd2 hT1
    by_cases hq1 : (i : Int) < (s.stack.length : Int)
    · skip
      repeat' first | (with_reducible first | refine AWP_seq' ?_ | refine k_normal ?_ | refine b_normal ?_ | refine AWP_skip ?_ | refine AWP_block ?_) | ((first | with_reducible refine AWP_reg fun KC J hJ hKC => ?_ | with_reducible refine AWP_regD rfl fun KC J hJ hKC => ?_ | (refine hKC _ _ _ _ _ (callV0 (hd1) rfl rfl rfl ?_ ?_); (· exact Lq)) | (refine hKC _ _ _ _ _ (callV0 (hd2) rfl rfl rfl ?_ ?_); (· exact Lq)) | (refine hKC _ _ _ _ _ (callV0 (hT1) rfl rfl rfl ?_ ?_); (· exact Lq))); simp (maxSteps := 9999999) only [push_cast, seval, ↓reduceIte, hq1, undef, wrapN (i := i) (n := M) (by omega) (by omega)]) | ((first | with_reducible refine hJ _ _ ?_ | (with_reducible refine hJ _ _ ?_ ?_; · kernel_rfl)); clear hJ hKC KC J) | ((with_reducible refine AWP_condT ?_ ?_); · rfl)
      refine ⟨⟨i + 1, by omega⟩, by simp only; omega, ?_, ⟨_, rfl⟩⟩
      exact Lq
    · have hq2 : (i : Int) < (t.stack.length : Int) := by omega
      repeat' first | (with_reducible first | refine AWP_seq' ?_ | refine k_normal ?_ | refine b_normal ?_ | refine AWP_skip ?_ | refine AWP_block ?_) | ((first | with_reducible refine AWP_reg fun KC J hJ hKC => ?_ | with_reducible refine AWP_regD rfl fun KC J hJ hKC => ?_ | (refine hKC _ _ _ _ _ (callV0 (hd1) rfl rfl rfl ?_ ?_); (· exact Lq)) | (refine hKC _ _ _ _ _ (callV0 (hd2) rfl rfl rfl ?_ ?_); (· exact Lq)) | (refine hKC _ _ _ _ _ (callV0 (hT1) rfl rfl rfl ?_ ?_); (· exact Lq))); simp (maxSteps := 9999999) only [push_cast, seval, ↓reduceIte, hq1, hq2, undef, wrapN (i := i) (n := M) (by omega) (by omega)]) | ((first | with_reducible refine hJ _ _ ?_ | (with_reducible refine hJ _ _ ?_ ?_; · kernel_rfl)); clear hJ hKC KC J) | ((with_reducible refine AWP_condT ?_ ?_); · rfl)
      refine ⟨⟨i + 1, by omega⟩, by simp only; omega, ?_, ⟨_, rfl⟩⟩
      exact Lq
  have hin : i = M := by omega
  subst hin
  have hq1 : ¬ (i : Int) < (s.stack.length : Int) := by omega
  have hq2 : ¬ (i : Int) < (t.stack.length : Int) := by omega
  have hnu := rmNumbers_fn f g ns us hu hc s t hA hB (allOf s t (A5 s i)) (by have := allOf_len s t (A5 s i); omega)
  rw [← allOf_app, show A5 s i ++ ((placesF s).flatMap numM ++ (placesF s).map (botM (botI us))) = movesL (botI us) s t by
    have h1 := A7_all s t (botI us)
    unfold A7 A6 at h1
    rw [List.take_length, hM] at h1
    rw [← h1, List.append_assoc]] at hnu
  unfold allF
  simp only [encT, staF, List.cons_append, List.nil_append] at hnu
  repeat' first | (with_reducible first | refine AWP_seq' ?_ | refine k_normal ?_ | refine k_exit ?_ | refine b_exit ?_ | refine AWP_ret ?_ | refine AWP_exit ?_) | ((first | with_reducible refine AWP_reg fun KC J hJ hKC => ?_ | (refine hKC _ _ _ _ _ (callV0 (hnu) rfl rfl rfl ?_ ?_); (· exact Lq))); simp (maxSteps := 9999999) only [push_cast, seval, ↓reduceIte, hq1, hq2, undef]) | ((with_reducible refine hJ _ _ ?_); clear hJ hKC KC J) | ((with_reducible refine AWP_condF ?_ ?_); · rfl)
  refine ret_plain ?_
  simp (maxSteps := 9999999) only [push_cast, seval, ↓reduceIte, show Tryz.f27.results = #[(.tmp 4)] from rfl]
  exact Lq
end Go.Proofs.YtabliglgeiajlaaGreat.AM

namespace Go.Proofs.YtabliglgeiajlaaGreat.AM
open Go Go.RowKit Go.Proofs
set_option maxRecDepth 100000
set_option maxHeartbeats 4000000
theorem twoRow_len (R : List (Sta × Sta)) : (twoRow R).length = R.length := by simp [twoRow]
theorem getE_twoR {R : List (Sta × Sta)} {n : Nat} {y : Sta × Sta} (h : R[n]? = some y) : getE (twoRow R) n = encT y.1 y.2 := getE_map _ R n y h
theorem movesAll_fn (ns : List ByteArray) (us : List Nat) (s t : Sta) (hs : ∀ x ∈ ns, x.size ≤ maxLen) (hu : ∀ u ∈ us, u < 2 ^ 32) :
    Fn Tryz.prog 4 [.agg [.sl false 1 (strRow ns), .sl false 1 (u32Row us)], .agg (encT s t)] [] (.v (.bool true)) [] := by
  have hfew := few21_fn false false ns us
  have hcs := cut21_fn false false false false s
  have hct := cut21_fn false false false false t
  have hs10 := szs_few ns
  have hu10 : U32 (us.take 10) := fun u hu' => hu u (List.mem_of_mem_take hu')
  have ha15 := cutSta_15 s
  have hb15 := cutSta_15 t
  obtain ⟨N, hN⟩ : ∃ N, (ns.take 10).map cutS = N := ⟨_, rfl⟩
  obtain ⟨U, hU⟩ : ∃ U, us.take 10 = U := ⟨_, rfl⟩
  obtain ⟨A, hA⟩ : ∃ A, cutSta s = A := ⟨_, rfl⟩
  obtain ⟨B, hB⟩ : ∃ A, cutSta t = A := ⟨_, rfl⟩
  rw [hN] at hfew hs10
  rw [hU] at hfew hu10
  rw [hA] at hcs ha15
  rw [hB] at hct hb15
  have h1 := mvAll_fn false false N U A B hs10 hu10 ha15.sml hb15.sml
  have h5 := rMay21_fn false false N U A B hs10 hu10 ha15.sml hb15.sml
  have h4 := alive21_fn
  by_cases hm : mayT N U A B = 0
  · obtain ⟨hc, hA1, hB1⟩ := mayT_ok hm
    have h6 := rmAll_fn false false N U hu10 hc A B hA1 hB1
    have hall : ∀ y ∈ allF (botI U) A B, Sml15 y.1 ∧ Sml15 y.2 := fun y hy => by
      obtain ⟨y1, y2, _⟩ := allF_less hc (botI_spec hc) hA1 hB1 hy
      exact ⟨sta_15 y1, sta_15 y2⟩
    have hle : (allF (botI U) A B).length ≤ 1000 := by
      have e0 := allOf_len A B (movesL (botI U) A B)
      have e := A7_all A B (botI U)
      have e2 := A7_le A B (botI U) (placesF A).length
      have e3 := placesF_len A
      have := ha15.code
      have := ha15.mem
      have := ha15.stack
      have := hb15.stack
      rw [← e] at e0
      unfold allF
      rw [← e]
      omega
    unfold allM at h1
    rw [if_pos hm, hm] at h1
    rw [hm] at h5
    obtain ⟨R, hR⟩ : ∃ R, allF (botI U) A B = R := ⟨_, rfl⟩
    rw [hR] at h1 h6 hall hle
    have hRl := twoRow_len R
    simp only [encT, staF, List.cons_append, List.nil_append] at hfew hcs hct h1 h5 h6 ⊢
    refine Fn.of (fn := Tryz.f4) (by kernel_rfl) rfl (by kernel_rfl) ⟨[.agg [.sl false 1 (strRow ns), .sl false 1 (u32Row us)], .agg [.v (.int .i64 s.v), .v (.int .i64 s.l), .sl false 3 (tRow s.code), .sl false 2 (pRow s.mem), .sl false 3 (sRow s.stack), .sl false 2 (pRow s.out), .v (.int .i64 t.v), .v (.int .i64 t.l), .sl false 3 (tRow t.code), .sl false 2 (pRow t.mem), .sl false 3 (sRow t.stack), .sl false 2 (pRow t.out)], .v undef, .v undef, .v undef, .v undef, .v undef, .v undef, .v undef, .v undef, .v undef, .v undef, .v undef, .v undef, .v undef, .v undef, .v undef, .v undef, .v undef, .v undef, .v undef, .v undef, .v undef, .v undef, .v undef, .v undef, .v undef, .v undef, .v undef, .v undef, .v undef, .v undef, .v undef, .v undef, .v undef, .v undef, .v undef, .v undef, .v undef, .v undef, .v undef, .v undef, .v undef, .v undef, .v undef, .v undef, .v undef, .v undef, .v undef, .v undef, .v undef, .v undef, .v undef, .v undef, .v undef, .v undef, .v undef, .v undef, .v undef, .v undef, .v undef, .v undef, .v undef, .v undef, .v undef, .v undef, .v undef, .v undef, .v undef, .v undef, .v undef, .v undef, .v undef, .v undef], []⟩ rfl ?_
    repeat' first | (refine AWP_freezeR 9 0 rfl (by (simp (maxSteps := 9999999) only [push_cast, seval, ↓reduceIte]) <;> rfl) ?_; simp (maxSteps := 9999999) only [push_cast, seval, ↓reduceIte, frSt, frSlot, fr3, fr2, fr1, fr0, sameB, arrOf, bne_self_eq_false, beq_self_eq_true, hRl, undef]) | (refine AWP_freezeR 9 1 rfl (by (simp (maxSteps := 9999999) only [push_cast, seval, ↓reduceIte]) <;> rfl) ?_; simp (maxSteps := 9999999) only [push_cast, seval, ↓reduceIte, frSt, frSlot, fr3, fr2, fr1, fr0, sameB, arrOf, bne_self_eq_false, beq_self_eq_true, hRl, undef]) | (with_reducible first | refine AWP_seq' ?_ | refine k_normal ?_ | refine AWP_skip ?_ | refine AWP_block ?_) | ((first | with_reducible refine AWP_reg fun KC J hJ hKC => ?_ | with_reducible refine AWP_regD rfl fun KC J hJ hKC => ?_ | (refine hKC _ _ _ _ _ (callV0 (hfew) rfl rfl rfl ?_ ?_); (· exact Lq)) | (refine hKC _ _ _ _ _ (callV0 (hcs) rfl rfl rfl ?_ ?_); (· exact Lq)) | (refine hKC _ _ _ _ _ (callV0 (hct) rfl rfl rfl ?_ ?_); (· exact Lq)) | (refine hKC _ _ _ _ _ (callV0 (h1) rfl rfl rfl ?_ ?_); (· exact Lq)) | (refine hKC _ _ _ _ _ (callV0 (h4) rfl rfl rfl ?_ ?_); (· exact Lq)) | (refine hKC _ _ _ _ _ (callV0 (h5) rfl rfl rfl ?_ ?_); (· exact Lq)) | (refine hKC _ _ _ _ _ (callV0 (h6) rfl rfl rfl ?_ ?_); (· exact Lq))); simp (maxSteps := 9999999) only [push_cast, seval, ↓reduceIte, bne_self_eq_false, beq_self_eq_true, hRl, undef]) | ((first | with_reducible refine hJ _ _ ?_ | (with_reducible refine hJ _ _ ?_ ?_; · kernel_rfl)); clear hJ hKC KC J) | ((with_reducible refine AWP_condF ?_ ?_); · rfl)
    refine AWP_loopD 9 (γ := {i : Nat // i ≤ R.length}) (fun i => ⟨[.any, .any, .any, .any, .any, .sl false 12 (twoRow R), .any, .any, .sl false 12 (twoRow R), .any, .any, .any, .any, .any, .any, .any, .any, .any, .any, .any, .any, .any, .any, .any, .any, .any, .any, .any, .any, .any, .any, .any, .any, .any, .any, .any, .any, .any, .any, .any, .any, .any, .any, .any, .any, .any, .any, .any, .any, .any, .any, .any, .any, .any, .any, .any, .any, .any, .any, .v (.int .i64 R.length), .v (.int .i64 i.1), .any, .any, .any, .any, .any, .any, .any, .any, .any, .any, .any, .any, .any], [.dead, .dead, .free, .free, .free, .free, .free, .free, .free]⟩) (fun i => R.length - i.1) ⟨0, by omega⟩ (fun i => rfl) (fun i => rfl) (fun i => rfl) ⟨?_, ?_⟩ ?_
    · exact Lq
    · exact Fq
    rintro ⟨i, hi⟩
    dsimp only
    by_cases hlt : (i : Int) < (R.length : Int)
    · have hx : R[i]? = some R[i] := List.getElem?_eq_getElem (by omega)
      obtain ⟨y, hy⟩ : ∃ y, R[i] = y := ⟨_, rfl⟩
      rw [hy] at hx
      obtain ⟨y1, y2⟩ := hall y (List.mem_of_getElem? hx)
      have hge := getE_twoR hx
      have g1 := rmSame_fn y y y1 y2 y1 y2
      rw [show (sameT y.1 y.1 && sameT y.2 y.2) = true by rw [sameT_iff.2 rfl, sameT_iff.2 rfl]; rfl] at g1
      simp only [encT, staF, List.cons_append, List.nil_append] at g1 hge
      repeat' first | (with_reducible first | refine AWP_seq' ?_ | refine k_normal ?_ | refine b_normal ?_ | refine AWP_skip ?_ | refine AWP_block ?_) | ((with_reducible refine And.intro ?_ ?_); · exact Sq) | ((first | with_reducible refine AWP_reg fun KC J hJ hKC => ?_ | with_reducible refine AWP_regD rfl fun KC J hJ hKC => ?_ | (refine hKC _ _ _ _ _ (callV0 (g1) rfl rfl rfl ?_ ?_); (· exact Lq))); simp (maxSteps := 9999999) only [push_cast, seval, ↓reduceIte, hlt, hRl, hge, Bool.not_true, wrapN (i := i) (n := R.length) (by omega) (by omega)]) | ((first | with_reducible refine hJ _ _ ?_ | (with_reducible refine hJ _ _ ?_ ?_; · kernel_rfl)); clear hJ hKC KC J) | ((with_reducible refine AWP_condT ?_ ?_); · rfl) | ((with_reducible refine AWP_condF ?_ ?_); · rfl)
      refine ⟨⟨i + 1, by omega⟩, by simp only; omega, ?_, ⟨_, rfl⟩⟩
      exact Lq
    · skip
      repeat' first | (with_reducible first | refine AWP_seq' ?_ | refine k_normal ?_ | refine k_exit ?_ | refine b_exit ?_ | refine AWP_ret ?_ | refine AWP_exit ?_) | ((with_reducible refine AWP_reg fun KC J hJ hKC => ?_); simp (maxSteps := 9999999) only [push_cast, seval, ↓reduceIte, hlt]) | ((with_reducible refine hJ _ _ ?_); clear hJ hKC KC J) | ((with_reducible refine AWP_condF ?_ ?_); · rfl)
      refine ret_plain ?_
      simp (maxSteps := 9999999) only [push_cast, seval, ↓reduceIte, show Tryz.f4.results = #[(.tmp 4)] from rfl]
      exact Lq
  · unfold allM at h1
    rw [if_neg hm] at h1
    obtain ⟨c, hc⟩ : ∃ c, mayT N U A B = c := ⟨_, rfl⟩
    rw [hc] at h1 h5 hm
    have hc' : (c != 0) = true := by simpa using hm
    simp only [encT, staF, List.cons_append, List.nil_append, show twoRow [] = [] from rfl] at hfew hcs hct h1 h5 ⊢
    refine Fn.of (fn := Tryz.f4) (by kernel_rfl) rfl (by kernel_rfl) ⟨[.agg [.sl false 1 (strRow ns), .sl false 1 (u32Row us)], .agg [.v (.int .i64 s.v), .v (.int .i64 s.l), .sl false 3 (tRow s.code), .sl false 2 (pRow s.mem), .sl false 3 (sRow s.stack), .sl false 2 (pRow s.out), .v (.int .i64 t.v), .v (.int .i64 t.l), .sl false 3 (tRow t.code), .sl false 2 (pRow t.mem), .sl false 3 (sRow t.stack), .sl false 2 (pRow t.out)], .v undef, .v undef, .v undef, .v undef, .v undef, .v undef, .v undef, .v undef, .v undef, .v undef, .v undef, .v undef, .v undef, .v undef, .v undef, .v undef, .v undef, .v undef, .v undef, .v undef, .v undef, .v undef, .v undef, .v undef, .v undef, .v undef, .v undef, .v undef, .v undef, .v undef, .v undef, .v undef, .v undef, .v undef, .v undef, .v undef, .v undef, .v undef, .v undef, .v undef, .v undef, .v undef, .v undef, .v undef, .v undef, .v undef, .v undef, .v undef, .v undef, .v undef, .v undef, .v undef, .v undef, .v undef, .v undef, .v undef, .v undef, .v undef, .v undef, .v undef, .v undef, .v undef, .v undef, .v undef, .v undef, .v undef, .v undef, .v undef, .v undef, .v undef, .v undef, .v undef], []⟩ rfl ?_
    repeat' first | (with_reducible first | refine AWP_seq' ?_ | refine k_normal ?_ | refine k_ret ?_ | refine AWP_ret ?_) | ((first | with_reducible refine AWP_reg fun KC J hJ hKC => ?_ | with_reducible refine AWP_regD rfl fun KC J hJ hKC => ?_ | (refine hKC _ _ _ _ _ (callV0 (hfew) rfl rfl rfl ?_ ?_); (· exact Lq)) | (refine hKC _ _ _ _ _ (callV0 (hcs) rfl rfl rfl ?_ ?_); (· exact Lq)) | (refine hKC _ _ _ _ _ (callV0 (hct) rfl rfl rfl ?_ ?_); (· exact Lq)) | (refine hKC _ _ _ _ _ (callV0 (h1) rfl rfl rfl ?_ ?_); (· exact Lq)) | (refine hKC _ _ _ _ _ (callV0 (h4) rfl rfl rfl ?_ ?_); (· exact Lq)) | (refine hKC _ _ _ _ _ (callV0 (h5) rfl rfl rfl ?_ ?_); (· exact Lq))); simp (maxSteps := 9999999) only [push_cast, seval, ↓reduceIte, hc', undef, beq_self_eq_true]) | ((first | with_reducible refine hJ _ _ ?_ | (with_reducible refine hJ _ _ ?_ ?_; · kernel_rfl)); clear hJ hKC KC J) | ((with_reducible refine AWP_condT ?_ ?_); · rfl)
    refine ret_plain ?_
    simp (maxSteps := 9999999) only [push_cast, seval, ↓reduceIte, show Tryz.f4.results = #[(.tmp 4)] from rfl]
    exact Lq
end Go.Proofs.YtabliglgeiajlaaGreat.AM

namespace Go.Proofs.YtabliglgeiajlaaGreat.AM
open Go Go.RowKit Go.Proofs
set_option maxRecDepth 100000
abbrev kInt : Kk := .int .i64
theorem conf_int : Conf Tryz.prog (.ty 3) kInt := .int Tryz.underlying3
theorem is_int {e : D} (h : Shape kInt [e]) : ∃ n, e = .v (.int .i64 n) := by obtain ⟨n, rfl, _⟩ := shape_int h; exact ⟨n, rfl⟩
end Go.Proofs.YtabliglgeiajlaaGreat.AM

namespace Go.Proofs.YtabliglgeiajlaaGreat.AM
open Go Go.RowKit Go.Proofs
set_option maxRecDepth 100000
abbrev kPair : Kk := .pair kInt (.pair kInt .unit)
theorem is_pair {ds : List D} (h : Shape kPair ds) : ∃ p : Int × Int, ds = [.v (.int .i64 p.1), .v (.int .i64 p.2)] := by
  obtain ⟨a, b, rfl, h1, h2⟩ := shape_pair h
  obtain ⟨c, d, rfl, h3, h4⟩ := shape_pair h2
  cases shape_unit h4
  obtain ⟨e1, rfl, h1⟩ := shape_one h1 rfl
  obtain ⟨e2, rfl, h3⟩ := shape_one h3 rfl
  obtain ⟨n, rfl⟩ := is_int h1
  obtain ⟨m, rfl⟩ := is_int h3
  exact ⟨(n, m), rfl⟩
end Go.Proofs.YtabliglgeiajlaaGreat.AM

namespace Go.Proofs.YtabliglgeiajlaaGreat.AM
open Go Go.RowKit Go.Proofs
set_option maxRecDepth 100000
abbrev kStr : Kk := .str
abbrev kStrs : Kk := .sl kStr
abbrev kU32 : Kk := .int .u32
abbrev kU32s : Kk := .sl kU32
abbrev kLat : Kk := .pair kStrs (.pair kU32s .unit)
theorem conf_str : Conf Tryz.prog (.ty 9) kStr := .str Tryz.underlying9
theorem conf_strs : Conf Tryz.prog (.ty 22) kStrs := .sl Tryz.underlying22 (by kernel_rfl) (by decide) conf_str
theorem conf_u32 : Conf Tryz.prog (.ty 98) kU32 := .int Tryz.underlying98
theorem conf_u32s : Conf Tryz.prog (.ty 23) kU32s := .sl Tryz.underlying23 (by kernel_rfl) (by decide) conf_u32
theorem conf_lat : Conf Tryz.prog (.ty 25) (.st kLat) := .st Tryz.underlying25 (by kernel_rfl) (.pair rfl (by kernel_rfl) conf_strs (.pair rfl (by kernel_rfl) conf_u32s .unit))
theorem is_str {e : D} (h : Shape kStr [e]) : ∃ s : ByteArray, e = .v (.string s) ∧ s.size ≤ maxLen := shape_str h
theorem is_strs {e : D} (h : Shape kStrs [e]) : ∃ l, e = .sl false 1 (strRow l) ∧ (∀ s ∈ l, s.size ≤ maxLen) ∧ l.length ≤ maxLen := by
  obtain ⟨xs, rfl, h1, h2⟩ := shape_sl h
  obtain ⟨l, rfl⟩ := shape_rows (fun s : { s : ByteArray // s.size ≤ maxLen } => [D.v (.string s.1)]) (fun x hx => by
    obtain ⟨e, rfl, he⟩ := shape_one hx rfl
    obtain ⟨n, rfl, hn⟩ := is_str he
    exact ⟨⟨n, hn⟩, rfl⟩) h1
  refine ⟨l.map (·.1), by simp [strRow, List.map_map]; rfl, fun s hs => ?_, by simpa using h2⟩
  obtain ⟨x, _, rfl⟩ := List.mem_map.1 hs
  exact x.2
theorem is_u32 {e : D} (h : Shape kU32 [e]) : ∃ u : Nat, e = .v (.int .u32 (uv u)) ∧ u < 2 ^ 32 := by
  obtain ⟨n, rfl, hw⟩ := shape_int h
  have h2 : 0 ≤ n ∧ n < 4294967296 := by
    simp only [Lit.wf, Bool.and_eq_true, decide_eq_true_eq] at hw
    have e1 : IntKind.u32.min = 0 := rfl
    have e2 : IntKind.u32.max = 4294967295 := by decide
    omega
  refine ⟨n.toNat, ?_, by omega⟩
  rw [uv, Int.toNat_of_nonneg h2.1]
theorem is_u32s {e : D} (h : Shape kU32s [e]) : ∃ l, e = .sl false 1 (u32Row l) ∧ U32 l ∧ l.length ≤ maxLen := by
  obtain ⟨xs, rfl, h1, h2⟩ := shape_sl h
  obtain ⟨l, rfl⟩ := shape_rows (fun u : { u : Nat // u < 2 ^ 32 } => [D.v (.int .u32 (uv u.1))]) (fun x hx => by
    obtain ⟨e, rfl, he⟩ := shape_one hx rfl
    obtain ⟨n, rfl, hn⟩ := is_u32 he
    exact ⟨⟨n, hn⟩, rfl⟩) h1
  refine ⟨l.map (·.1), by simp [u32Row, List.map_map]; rfl, fun s hs => ?_, by simpa using h2⟩
  obtain ⟨x, _, rfl⟩ := List.mem_map.1 hs
  exact x.2
structure NsOk (ns : List ByteArray) : Prop where
  szs : Szs ns
  len : ns.length ≤ maxLen
structure UsOk (us : List Nat) : Prop where
  u32 : U32 us
  len : us.length ≤ maxLen
theorem is_lat {ds : List D} (h : Shape kLat ds) : ∃ ns us, D.agg ds = .agg [.sl false 1 (strRow ns), .sl false 1 (u32Row us)] ∧ NsOk ns ∧ UsOk us := by
  obtain ⟨a, b, rfl, h1, h2⟩ := shape_pair h
  obtain ⟨c, d, rfl, h3, h4⟩ := shape_pair h2
  cases shape_unit h4
  obtain ⟨e1, rfl, h1⟩ := shape_one h1 rfl
  obtain ⟨e2, rfl, h3⟩ := shape_one h3 rfl
  obtain ⟨ns, rfl, h5, h6⟩ := is_strs h1
  obtain ⟨us, rfl, h7, h8⟩ := is_u32s h3
  exact ⟨ns, us, rfl, ⟨fun s hs => Nat.le_trans (h5 s hs) (by decide), h6⟩, ⟨h7, h8⟩⟩
end Go.Proofs.YtabliglgeiajlaaGreat.AM

namespace Go.Proofs.YtabliglgeiajlaaGreat.AM
open Go Go.RowKit Go.Proofs
set_option maxRecDepth 100000
abbrev kTrip : Kk := .pair kInt (.pair kInt (.pair kInt .unit))
abbrev kSlot : Kk := .pair .bool (.pair kInt (.pair kInt .unit))
abbrev kSta : Kk := .pair (.st kPair) (.pair (.sl (.st kTrip)) (.pair (.sl (.st kPair)) (.pair (.sl (.st kSlot)) (.pair (.sl (.st kPair)) .unit))))
theorem conf_atom : Conf Tryz.prog (.ty 34) (.st kPair) := .st Tryz.underlying34 (by kernel_rfl) (.pair rfl (by kernel_rfl) conf_int (.pair rfl (by kernel_rfl) conf_int .unit))
theorem conf_instr : Conf Tryz.prog (.ty 100) (.st kTrip) := .st Tryz.underlying100 (by kernel_rfl) (.pair rfl (by kernel_rfl) conf_int (.pair rfl (by kernel_rfl) conf_int (.pair rfl (by kernel_rfl) conf_int .unit)))
theorem conf_slot : Conf Tryz.prog (.ty 104) (.st kSlot) := .st Tryz.underlying104 (by kernel_rfl) (.pair rfl (by kernel_rfl) (.bool Tryz.underlying4) (.pair rfl (by kernel_rfl) conf_int (.pair rfl (by kernel_rfl) conf_int .unit)))
theorem conf_atoms : Conf Tryz.prog (.ty 36) (.sl (.st kPair)) := .sl Tryz.underlying36 (by kernel_rfl) (by decide) conf_atom
theorem conf_instrs : Conf Tryz.prog (.ty 35) (.sl (.st kTrip)) := .sl Tryz.underlying35 (by kernel_rfl) (by decide) conf_instr
theorem conf_slots : Conf Tryz.prog (.ty 37) (.sl (.st kSlot)) := .sl Tryz.underlying37 (by kernel_rfl) (by decide) conf_slot
theorem conf_state : Conf Tryz.prog (.ty 39) (.st kSta) := .st Tryz.underlying39 (by kernel_rfl) (.pair rfl (by kernel_rfl) conf_atom (.pair rfl (by kernel_rfl) conf_instrs (.pair rfl (by kernel_rfl) conf_atoms (.pair rfl (by kernel_rfl) conf_slots (.pair rfl (by kernel_rfl) conf_atoms .unit)))))
theorem is_trip {ds : List D} (h : Shape kTrip ds) : ∃ p : Int × Int × Int, ds = [.v (.int .i64 p.1), .v (.int .i64 p.2.1), .v (.int .i64 p.2.2)] := by
  obtain ⟨a, b, rfl, h1, h2⟩ := shape_pair h
  obtain ⟨c, d, rfl, h3, h4⟩ := shape_pair h2
  obtain ⟨e, g, rfl, h5, h6⟩ := shape_pair h4
  cases shape_unit h6
  obtain ⟨e1, rfl, h1⟩ := shape_one h1 rfl
  obtain ⟨e2, rfl, h3⟩ := shape_one h3 rfl
  obtain ⟨e3, rfl, h5⟩ := shape_one h5 rfl
  obtain ⟨n, rfl⟩ := is_int h1
  obtain ⟨m, rfl⟩ := is_int h3
  obtain ⟨k, rfl⟩ := is_int h5
  exact ⟨(n, m, k), rfl⟩
theorem isK_slot {ds : List D} (h : Shape kSlot ds) : ∃ p : Bool × Int × Int, ds = [.v (.bool p.1), .v (.int .i64 p.2.1), .v (.int .i64 p.2.2)] := by
  obtain ⟨a, b, rfl, h1, h2⟩ := shape_pair h
  obtain ⟨c, d, rfl, h3, h4⟩ := shape_pair h2
  obtain ⟨e, g, rfl, h5, h6⟩ := shape_pair h4
  cases shape_unit h6
  obtain ⟨e1, rfl, h1⟩ := shape_one h1 rfl
  obtain ⟨e2, rfl, h3⟩ := shape_one h3 rfl
  obtain ⟨e3, rfl, h5⟩ := shape_one h5 rfl
  obtain ⟨n, rfl⟩ := shape_bool h1
  obtain ⟨m, rfl⟩ := is_int h3
  obtain ⟨k, rfl⟩ := is_int h5
  exact ⟨(n, m, k), rfl⟩
theorem is_atoms {e : D} (h : Shape (.sl (.st kPair)) [e]) : ∃ l, e = .sl false 2 (pRow l) := by
  obtain ⟨xs, rfl, h1, h2⟩ := shape_sl h
  obtain ⟨l, rfl⟩ := shape_rows (fun p : Int × Int => [D.v (.int .i64 p.1), .v (.int .i64 p.2)]) (fun x hx => is_pair (shape_st hx)) h1
  exact ⟨l, rfl⟩
theorem is_instrs {e : D} (h : Shape (.sl (.st kTrip)) [e]) : ∃ l, e = .sl false 3 (tRow l) := by
  obtain ⟨xs, rfl, h1, h2⟩ := shape_sl h
  obtain ⟨l, rfl⟩ := shape_rows (fun p : Int × Int × Int => [D.v (.int .i64 p.1), .v (.int .i64 p.2.1), .v (.int .i64 p.2.2)]) (fun x hx => is_trip (shape_st hx)) h1
  exact ⟨l, rfl⟩
theorem is_slots {e : D} (h : Shape (.sl (.st kSlot)) [e]) : ∃ l, e = .sl false 3 (sRow l) := by
  obtain ⟨xs, rfl, h1, h2⟩ := shape_sl h
  obtain ⟨l, rfl⟩ := shape_rows (fun p : Bool × Int × Int => [D.v (.bool p.1), .v (.int .i64 p.2.1), .v (.int .i64 p.2.2)]) (fun x hx => isK_slot (shape_st hx)) h1
  exact ⟨l, rfl⟩
theorem is_state {ds : List D} (h : Shape kSta ds) : ∃ s : Sta, D.agg ds = .agg (staF false false false false s) := by
  obtain ⟨a, b, rfl, h1, h2⟩ := shape_pair h
  obtain ⟨c, d, rfl, h3, h4⟩ := shape_pair h2
  obtain ⟨e, g, rfl, h5, h6⟩ := shape_pair h4
  obtain ⟨i, j, rfl, h7, h8⟩ := shape_pair h6
  obtain ⟨k, l, rfl, h9, h10⟩ := shape_pair h8
  cases shape_unit h10
  obtain ⟨p, rfl⟩ := is_pair (shape_st h1)
  obtain ⟨e1, rfl, h3⟩ := shape_one h3 rfl
  obtain ⟨e2, rfl, h5⟩ := shape_one h5 rfl
  obtain ⟨e3, rfl, h7⟩ := shape_one h7 rfl
  obtain ⟨e4, rfl, h9⟩ := shape_one h9 rfl
  obtain ⟨l1, rfl⟩ := is_instrs h3
  obtain ⟨l2, rfl⟩ := is_atoms h5
  obtain ⟨l3, rfl⟩ := is_slots h7
  obtain ⟨l4, rfl⟩ := is_atoms h9
  exact ⟨⟨p.1, p.2, l1, l2, l3, l4⟩, rfl⟩
end Go.Proofs.YtabliglgeiajlaaGreat.AM

namespace Go.Proofs.YtabliglgeiajlaaGreat.AM
open Go Go.RowKit Go.Proofs
set_option maxRecDepth 100000
abbrev kTwo : Kk := .pair (.st kSta) (.pair (.st kSta) .unit)
theorem conf_two : Conf Tryz.prog (.ty 56) (.st kTwo) := .st Tryz.underlying56 (by kernel_rfl) (.pair rfl (by kernel_rfl) conf_state (.pair rfl (by kernel_rfl) conf_state .unit))
theorem is_two {ds : List D} (h : Shape kTwo ds) : ∃ s t : Sta, D.agg ds = .agg (encT s t) := by
  obtain ⟨a, b, rfl, h1, h2⟩ := shape_pair h
  obtain ⟨c, d, rfl, h3, h4⟩ := shape_pair h2
  cases shape_unit h4
  obtain ⟨s, hs⟩ := is_state (shape_st h1)
  obtain ⟨t, ht⟩ := is_state (shape_st h3)
  cases hs
  cases ht
  exact ⟨s, t, by rw [List.append_nil]⟩
end Go.Proofs.YtabliglgeiajlaaGreat.AM
