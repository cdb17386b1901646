/- What edges make: the reference. -/
import Derived.Test.YtabliglgeiajlaaX3
import Derived.Test.YtabliglgeiajlaaF1
import Derived.Test.YtabliglgeiajlaaF2
set_option linter.unusedSimpArgs false
set_option linter.unusedVariables false
namespace Go.Proofs.Ytabliglgeiajlaa.AM
open Go Go.RowKit Go.Proofs
set_option maxRecDepth 100000
set_option maxHeartbeats 1000000

def bRow (l : List Bool) : List (List D) := l.map fun b => [.v (.bool b)]
def cellB (l : List Bool) : List D := l.map fun b => .v (.bool b)
@[push_cast] theorem bRow_length (l : List Bool) : (bRow l).length = l.length := by simp [bRow]
theorem cellB_length (l : List Bool) : (cellB l).length = l.length := by simp [cellB]
theorem bRow_flat (l : List Bool) : (bRow l).flatten = cellB l := by induction l with | nil => rfl | cons a l ih => simpa [bRow, cellB] using ih
theorem ren_cellB (m : Nat → Option Nat) (l : List Bool) : (cellB l).map (ren m) = cellB l := by simp [cellB, ren, ren2, ren1, ren0]
@[push_cast] theorem frz_cellB (l : List Bool) : frzAll (cellB l) = true := by induction l with | nil => rfl | cons a l ih => simpa [cellB, frzAll, frz, frz0] using ih
@[push_cast] theorem fr_cellB (k g sz : Nat) (c : List D) (l : List Bool) : (cellB l).map (fr1 k g sz c) = cellB l := by simp [cellB, fr1, fr0]
theorem chunk_b (l : List Bool) : chunk 1 l.length (cellB l) = bRow l := chunk_one (fun b : Bool => (.v (.bool b) : D)) l
theorem getF_cellB {l : List Bool} {a : Nat} (h : a < l.length) : getF (cellB l) a = .v (.bool (l.getD a false)) := getF_map _ l a _ (getD_of false h)
theorem getE_b {l : List Bool} {n : Nat} {x : Bool} (h : l[n]? = some x) : getE (bRow l) n = [.v (.bool x)] := by unfold bRow; exact getE_map _ _ _ _ h
theorem cellB_set (l : List Bool) {a : Nat} (v : Bool) (h : a < l.length) : cellB (l.set a v) = (cellB l).take a ++ [.v (.bool v)] ++ (cellB l).drop (a + 1) := by
  rw [List.set_eq_take_append_cons_drop, if_pos h]
  simp [cellB, List.map_take, List.map_drop]
theorem natE_take (l : List (Int × Int)) (j : Nat) : natE (l.take j) = (natE l).take j := by simp [natE, List.map_take]
theorem passL_app (o : List Bool) (l m : List (Nat × Nat)) : passL o (l ++ m) = passL (passL o l) m := by simp [passL]
theorem reach_fn (f g : Bool) (l : List (Int × Int)) (o : List Bool) (ho : l.any (oddB o.length) = false) (h1 : 1 ≤ o.length) (h8 : o.length ≤ 8) (hl : l.length ≤ 1000) :
    Fn Try.prog 119 [.sl g 2 (pRow l), .sl f 1 (bRow o)] [] (.sl false 1 (bRow (passN (natE l) o o.length))) [] := by
  have hnil : isNilL (bRow o) = false := by cases o with | nil => simp at h1 | cons _ _ => rfl
  have hbm : ∀ j : Nat, Nat.beq j j = true := fun j => Nat.beq_refl j
  refine Fn.of (fn := Try.f119) (by kernel_rfl) rfl (by kernel_rfl) ⟨[.sl g 2 (pRow l), .sl f 1 (bRow o), .v undef, .v undef, .v undef, .v undef, .v undef, .v undef, .v undef, .v undef, .v undef, .v undef, .v undef, .v undef, .v undef, .v undef, .v undef, .v undef, .v undef, .v undef, .v undef, .v undef, .v undef, .v undef, .v undef, .v undef, .v undef, .v undef, .v undef, .v undef, .v undef, .v undef, .v undef, .v undef], []⟩ rfl ?_
  repeat' first
    | with_reducible first | refine AWP_seq' ?_ | refine k_normal ?_ | refine k_ret ?_ | refine k_exit ?_ | refine b_normal ?_ | refine b_ret ?_ | refine b_exit ?_ | refine b_pass rfl ?_ | refine AWP_ret ?_ | refine AWP_skip ?_ | refine AWP_exit ?_ | refine AWP_block ?_
    | ((with_reducible first | refine AWP_reg fun KC J hJ hKC => ?_ | refine AWP_regD rfl fun KC J hJ hKC => ?_); simp (maxSteps := 10000000) only [push_cast, seval, ↓reduceIte, hnil, bRow_flat, Nat.zero_add])
    | ((with_reducible refine And.intro ?_ ?_); · first | trivial | omega | assumption | (simp; done) | (simp; omega))
    | ((first | with_reducible refine hJ _ _ ?_ | (with_reducible refine hJ _ _ ?_ ?_; · kernel_rfl)); clear hJ hKC KC J)
    | ((with_reducible refine AWP_condT ?_ ?_); · rfl)
    | ((with_reducible refine AWP_condF ?_ ?_); · rfl)
    | ((with_reducible refine ite_intro (fun hs => ?_) (fun hs => ?_)) <;> (try simp only [Bool.not_eq_true, Bool.not_eq_false, Bool.not_eq_true', Bool.not_eq_false', Decidable.not_not, decide_eq_true_eq, decide_eq_false_iff_not] at hs) <;> (try simp (maxSteps := 10000000) only [push_cast, seval, ↓reduceIte, hs, hnil, bRow_flat, Nat.zero_add]))
    | (refine AWP_cond rfl (fun h => ?_) (fun h => ?_) <;> try simp only [decide_eq_true_eq, decide_eq_false_iff_not, Bool.not_eq_true', Bool.not_eq_false', beq_iff_eq, bne_iff_ne, ne_eq, Bool.not_eq_true, Bool.or_eq_true, Bool.and_eq_true, Bool.or_eq_false_iff, Bool.and_eq_false_imp, beq_eq_false_iff_ne, bne_eq_false_iff_eq] at h)
  refine AWP_loopD 2 (γ := {k : Nat // k ≤ o.length}) (fun k => ⟨[.sl g 2 (pRow l), .any, .any, .any, .any, .ref 1 0 o.length, .any, .any, .any, .any, .any, .any, .any, .v (.int .i64 o.length), .v (.int .i64 k.1), .any, .any, .any, .any, .any, .any, .any, .any, .any, .any, .any, .any, .any, .any, .any, .any, .any, .any, .any], [.free, .ent ⟨0, some 1, 4, cellB (passN (natE l) o k.1), .cells⟩]⟩) (fun k => o.length - k.1) ⟨0, by omega⟩ (fun k => rfl) (fun k => ?_) (fun k => rfl) ⟨?_, ?_⟩ ?_
  · refine clsd_all ?_
    simp only [List.map_cons, List.map_nil, renSlot, ren_cellB]
  · repeat' first | exact leF_nil | refine leD_tup ?_ | refine leF1_cons ?_ ?_ | exact leF1_nil | exact leD1_refl _ | refine leD1_agg ?_ | refine leF_cons ?_ ?_ | exact leD_refl _ | exact leD_nil | exact leD_any | exact .inl leD0_nil | exact leF_caps (by assumption) | exact leD_fn (by assumption) | refine leD_agg ?_ | refine leF0_cons ?_ ?_ | exact leF0_nil | exact leD0_refl _ | exact leD0_nil | exact leD0_any
  · exact (by first | exact ⟨0, (List.append_nil _).symm⟩ | exact ⟨1, rfl⟩ | exact ⟨2, rfl⟩ | exact ⟨3, rfl⟩ | exact ⟨4, rfl⟩ | exact ⟨5, rfl⟩ | exact ⟨6, rfl⟩ | exact ⟨7, rfl⟩ | exact ⟨8, rfl⟩)
  rintro ⟨k, hk⟩
  obtain ⟨q, hq⟩ : ∃ q, passN (natE l) o k = q := ⟨_, rfl⟩
  have hql : q.length = o.length := by rw [← hq, passN_length]
  simp only [hq]
  have hlC : ∀ q : List Bool, q.length = o.length → (cellB q).length = o.length := fun q h => by rw [cellB_length, h]
  by_cases hlt : (k : Int) < (o.length : Int)
  · skip
    repeat' first
      | with_reducible first | refine AWP_seq' ?_ | refine k_normal ?_ | refine k_ret ?_ | refine k_exit ?_ | refine b_normal ?_ | refine b_ret ?_ | refine b_exit ?_ | refine b_pass rfl ?_ | refine AWP_ret ?_ | refine AWP_skip ?_ | refine AWP_exit ?_ | refine AWP_block ?_
      | ((with_reducible first | refine AWP_reg fun KC J hJ hKC => ?_ | refine AWP_regD rfl fun KC J hJ hKC => ?_); simp (maxSteps := 10000000) only [push_cast, seval, ↓reduceIte, hlt, hlC q hql])
      | ((with_reducible refine And.intro ?_ ?_); · first | trivial | omega | assumption | (simp; done) | (simp; omega))
      | ((first | with_reducible refine hJ _ _ ?_ | (with_reducible refine hJ _ _ ?_ ?_; · kernel_rfl)); clear hJ hKC KC J)
      | ((with_reducible refine AWP_condT ?_ ?_); · rfl)
      | ((with_reducible refine AWP_condF ?_ ?_); · rfl)
      | ((with_reducible refine ite_intro (fun hs => ?_) (fun hs => ?_)) <;> (try simp only [Bool.not_eq_true, Bool.not_eq_false, Bool.not_eq_true', Bool.not_eq_false', Decidable.not_not, decide_eq_true_eq, decide_eq_false_iff_not] at hs) <;> (try simp (maxSteps := 10000000) only [push_cast, seval, ↓reduceIte, hs, hlt, hlC q hql]))
      | (refine AWP_cond rfl (fun h => ?_) (fun h => ?_) <;> try simp only [decide_eq_true_eq, decide_eq_false_iff_not, Bool.not_eq_true', Bool.not_eq_false', beq_iff_eq, bne_iff_ne, ne_eq, Bool.not_eq_true, Bool.or_eq_true, Bool.and_eq_true, Bool.or_eq_false_iff, Bool.and_eq_false_imp, beq_eq_false_iff_ne, bne_eq_false_iff_eq] at h)
    refine AWP_loopD 2 (γ := {j : Nat // j ≤ l.length}) (fun j => ⟨[.sl g 2 (pRow l), .any, .any, .any, .any, .ref 1 0 o.length, .any, .any, .any, .any, .any, .any, .any, .v (.int .i64 o.length), .v (.int .i64 k), .any, .sl g 2 (pRow l), .v (.int .i64 l.length), .v (.int .i64 j.1), .any, .any, .any, .any, .any, .any, .any, .any, .any, .any, .any, .any, .any, .any, .any], [.free, .ent ⟨0, some 1, 4, cellB (passL q (natE (l.take j.1))), .cells⟩]⟩) (fun j => l.length - j.1) ⟨0, by omega⟩ (fun k => rfl) (fun k => ?_) (fun k => rfl) ⟨?_, ?_⟩ ?_
    · refine clsd_all ?_
      simp only [List.map_cons, List.map_nil, renSlot, ren_cellB]
    · repeat' first | exact leF_nil | refine leD_tup ?_ | refine leF1_cons ?_ ?_ | exact leF1_nil | exact leD1_refl _ | refine leD1_agg ?_ | refine leF_cons ?_ ?_ | exact leD_refl _ | exact leD_nil | exact leD_any | exact .inl leD0_nil | exact leF_caps (by assumption) | exact leD_fn (by assumption) | refine leD_agg ?_ | refine leF0_cons ?_ ?_ | exact leF0_nil | exact leD0_refl _ | exact leD0_nil | exact leD0_any
    · simp only [List.take_zero, natE, List.map_nil, passL, List.foldl_nil]
      exact (by first | exact ⟨0, (List.append_nil _).symm⟩ | exact ⟨1, rfl⟩ | exact ⟨2, rfl⟩ | exact ⟨3, rfl⟩ | exact ⟨4, rfl⟩ | exact ⟨5, rfl⟩ | exact ⟨6, rfl⟩ | exact ⟨7, rfl⟩ | exact ⟨8, rfl⟩)
    rintro ⟨j, hj⟩
    by_cases hlj : (j : Int) < (l.length : Int)
    · have hx : l[j]? = some l[j] := List.getElem?_eq_getElem (by omega)
      have hxm : l[j] ∈ l := List.getElem_mem (by omega)
      obtain ⟨a, b, hab, han, hbn⟩ := oddB_no (n := o.length) (e := l[j]) (by rw [List.any_eq_false] at ho; simpa using ho _ hxm)
      rw [hab] at hx
      have ht : natE (l.take (j + 1)) = natE (l.take j) ++ [(a, b)] := by
        rw [List.take_succ_eq_append_getElem (by omega), hab]; simp [natE]
      have hps : passL q (natE (l.take (j + 1))) = pass1 (passL q (natE (l.take j))) (a, b) := by rw [ht, passL_app]; rfl
      obtain ⟨r, hr⟩ : ∃ r, passL q (natE (l.take j)) = r := ⟨_, rfl⟩
      have hrl : r.length = o.length := by rw [← hr, passL_length, hql]
      rw [hr] at hps
      simp only [hr]
      have hga := getF_cellB (l := r) (a := a) (by omega)
      obtain ⟨v, hv⟩ : ∃ v, r.getD a false = v := ⟨_, rfl⟩
      rw [hv] at hga
      cases v with
      | true =>
        have hset := cellB_set r true (a := b) (by omega)
        have hps2 : passL q (natE (l.take (j + 1))) = r.set b true := by rw [hps, pass1, if_pos hv]
        repeat' first
          | with_reducible first | refine AWP_seq' ?_ | refine k_normal ?_ | refine k_ret ?_ | refine k_exit ?_ | refine b_normal ?_ | refine b_ret ?_ | refine b_exit ?_ | refine b_pass rfl ?_ | refine AWP_ret ?_ | refine AWP_skip ?_ | refine AWP_exit ?_ | refine AWP_block ?_
          | ((with_reducible first | refine AWP_reg fun KC J hJ hKC => ?_ | refine AWP_regD rfl fun KC J hJ hKC => ?_); simp (maxSteps := 10000000) only [push_cast, seval, ↓reduceIte, hlj, getE_p hx, hlC r hrl, hga, Nat.mul_one, wrapN (i := j) (n := l.length) (by omega) (by omega)])
          | ((with_reducible refine And.intro ?_ ?_); · first | trivial | omega | assumption | (simp; done) | (simp; omega))
          | ((first | with_reducible refine hJ _ _ ?_ | (with_reducible refine hJ _ _ ?_ ?_; · kernel_rfl)); clear hJ hKC KC J)
          | ((with_reducible refine AWP_condT ?_ ?_); · rfl)
          | ((with_reducible refine AWP_condF ?_ ?_); · rfl)
          | ((with_reducible refine ite_intro (fun hs => ?_) (fun hs => ?_)) <;> (try simp only [Bool.not_eq_true, Bool.not_eq_false, Bool.not_eq_true', Bool.not_eq_false', Decidable.not_not, decide_eq_true_eq, decide_eq_false_iff_not] at hs) <;> (try simp (maxSteps := 10000000) only [push_cast, seval, ↓reduceIte, hs, hlj, getE_p hx, hlC r hrl, hga, Nat.mul_one, wrapN (i := j) (n := l.length) (by omega) (by omega)]))
          | (refine AWP_cond rfl (fun h => ?_) (fun h => ?_) <;> try simp only [decide_eq_true_eq, decide_eq_false_iff_not, Bool.not_eq_true', Bool.not_eq_false', beq_iff_eq, bne_iff_ne, ne_eq, Bool.not_eq_true, Bool.or_eq_true, Bool.and_eq_true, Bool.or_eq_false_iff, Bool.and_eq_false_imp, beq_eq_false_iff_ne, bne_eq_false_iff_eq] at h)
        refine ⟨⟨j + 1, by omega⟩, by simp only; omega, ?_, ?_⟩
        · repeat' first | exact leF_nil | refine leD_tup ?_ | refine leF1_cons ?_ ?_ | exact leF1_nil | exact leD1_refl _ | refine leD1_agg ?_ | refine leF_cons ?_ ?_ | exact leD_refl _ | exact leD_nil | exact leD_any | exact .inl leD0_nil | exact leF_caps (by assumption) | exact leD_fn (by assumption) | refine leD_agg ?_ | refine leF0_cons ?_ ?_ | exact leF0_nil | exact leD0_refl _ | exact leD0_nil | exact leD0_any
        · simp only [hps2, hset]
          exact ⟨_, rfl⟩
      | false =>
        have hps2 : passL q (natE (l.take (j + 1))) = r := by rw [hps, pass1, if_neg (by rw [hv]; simp)]
        repeat' first
          | with_reducible first | refine AWP_seq' ?_ | refine k_normal ?_ | refine k_ret ?_ | refine k_exit ?_ | refine b_normal ?_ | refine b_ret ?_ | refine b_exit ?_ | refine b_pass rfl ?_ | refine AWP_ret ?_ | refine AWP_skip ?_ | refine AWP_exit ?_ | refine AWP_block ?_
          | ((with_reducible first | refine AWP_reg fun KC J hJ hKC => ?_ | refine AWP_regD rfl fun KC J hJ hKC => ?_); simp (maxSteps := 10000000) only [push_cast, seval, ↓reduceIte, hlj, getE_p hx, hlC r hrl, hga, Nat.mul_one, wrapN (i := j) (n := l.length) (by omega) (by omega)])
          | ((with_reducible refine And.intro ?_ ?_); · first | trivial | omega | assumption | (simp; done) | (simp; omega))
          | ((first | with_reducible refine hJ _ _ ?_ | (with_reducible refine hJ _ _ ?_ ?_; · kernel_rfl)); clear hJ hKC KC J)
          | ((with_reducible refine AWP_condT ?_ ?_); · rfl)
          | ((with_reducible refine AWP_condF ?_ ?_); · rfl)
          | ((with_reducible refine ite_intro (fun hs => ?_) (fun hs => ?_)) <;> (try simp only [Bool.not_eq_true, Bool.not_eq_false, Bool.not_eq_true', Bool.not_eq_false', Decidable.not_not, decide_eq_true_eq, decide_eq_false_iff_not] at hs) <;> (try simp (maxSteps := 10000000) only [push_cast, seval, ↓reduceIte, hs, hlj, getE_p hx, hlC r hrl, hga, Nat.mul_one, wrapN (i := j) (n := l.length) (by omega) (by omega)]))
          | (refine AWP_cond rfl (fun h => ?_) (fun h => ?_) <;> try simp only [decide_eq_true_eq, decide_eq_false_iff_not, Bool.not_eq_true', Bool.not_eq_false', beq_iff_eq, bne_iff_ne, ne_eq, Bool.not_eq_true, Bool.or_eq_true, Bool.and_eq_true, Bool.or_eq_false_iff, Bool.and_eq_false_imp, beq_eq_false_iff_ne, bne_eq_false_iff_eq] at h)
        refine ⟨⟨j + 1, by omega⟩, by simp only; omega, ?_, ?_⟩
        · repeat' first | exact leF_nil | refine leD_tup ?_ | refine leF1_cons ?_ ?_ | exact leF1_nil | exact leD1_refl _ | refine leD1_agg ?_ | refine leF_cons ?_ ?_ | exact leD_refl _ | exact leD_nil | exact leD_any | exact .inl leD0_nil | exact leF_caps (by assumption) | exact leD_fn (by assumption) | refine leD_agg ?_ | refine leF0_cons ?_ ?_ | exact leF0_nil | exact leD0_refl _ | exact leD0_nil | exact leD0_any
        · simp only [hps2]
          exact ⟨_, rfl⟩
    · have hjl : j = l.length := by omega
      subst hjl
      have hps : passN (natE l) o (k + 1) = passL q (natE (l.take l.length)) := by rw [List.take_length, passN, hq]
      repeat' first
        | with_reducible first | refine AWP_seq' ?_ | refine k_normal ?_ | refine k_ret ?_ | refine k_exit ?_ | refine b_normal ?_ | refine b_ret ?_ | refine b_exit ?_ | refine b_pass rfl ?_ | refine AWP_ret ?_ | refine AWP_skip ?_ | refine AWP_exit ?_ | refine AWP_block ?_
        | ((with_reducible first | refine AWP_reg fun KC J hJ hKC => ?_ | refine AWP_regD rfl fun KC J hJ hKC => ?_); simp (maxSteps := 10000000) only [push_cast, seval, ↓reduceIte, hlj, wrapN (i := k) (n := o.length) (by omega) (by omega)])
        | ((with_reducible refine And.intro ?_ ?_); · first | trivial | omega | assumption | (simp; done) | (simp; omega))
        | ((first | with_reducible refine hJ _ _ ?_ | (with_reducible refine hJ _ _ ?_ ?_; · kernel_rfl)); clear hJ hKC KC J)
        | ((with_reducible refine AWP_condT ?_ ?_); · rfl)
        | ((with_reducible refine AWP_condF ?_ ?_); · rfl)
        | ((with_reducible refine ite_intro (fun hs => ?_) (fun hs => ?_)) <;> (try simp only [Bool.not_eq_true, Bool.not_eq_false, Bool.not_eq_true', Bool.not_eq_false', Decidable.not_not, decide_eq_true_eq, decide_eq_false_iff_not] at hs) <;> (try simp (maxSteps := 10000000) only [push_cast, seval, ↓reduceIte, hs, hlj, wrapN (i := k) (n := o.length) (by omega) (by omega)]))
        | (refine AWP_cond rfl (fun h => ?_) (fun h => ?_) <;> try simp only [decide_eq_true_eq, decide_eq_false_iff_not, Bool.not_eq_true', Bool.not_eq_false', beq_iff_eq, bne_iff_ne, ne_eq, Bool.not_eq_true, Bool.or_eq_true, Bool.and_eq_true, Bool.or_eq_false_iff, Bool.and_eq_false_imp, beq_eq_false_iff_ne, bne_eq_false_iff_eq] at h)
      refine ⟨⟨k + 1, by omega⟩, by simp only; omega, ?_, ?_⟩
      · repeat' first | exact leF_nil | refine leD_tup ?_ | refine leF1_cons ?_ ?_ | exact leF1_nil | exact leD1_refl _ | refine leD1_agg ?_ | refine leF_cons ?_ ?_ | exact leD_refl _ | exact leD_nil | exact leD_any | exact .inl leD0_nil | exact leF_caps (by assumption) | exact leD_fn (by assumption) | refine leD_agg ?_ | refine leF0_cons ?_ ?_ | exact leF0_nil | exact leD0_refl _ | exact leD0_nil | exact leD0_any
      · simp only [hps]
        exact ⟨_, rfl⟩
  · have hko : k = o.length := by omega
    subst hko
    have hcB : chunk 1 o.length (cellB q) = bRow q := by rw [← hql]; exact chunk_b q
    repeat' first
      | with_reducible first | refine AWP_seq' ?_ | refine k_normal ?_ | refine k_ret ?_ | refine k_exit ?_ | refine b_normal ?_ | refine b_ret ?_ | refine b_exit ?_ | refine b_pass rfl ?_ | refine AWP_skip ?_ | refine AWP_exit ?_ | refine AWP_block ?_
      | ((with_reducible first | refine AWP_reg fun KC J hJ hKC => ?_ | refine AWP_regD rfl fun KC J hJ hKC => ?_); simp (maxSteps := 10000000) only [push_cast, seval, ↓reduceIte, hlt])
      | ((with_reducible refine And.intro ?_ ?_); · first | trivial | omega | assumption | (simp; done) | (simp; omega))
      | ((first | with_reducible refine hJ _ _ ?_ | (with_reducible refine hJ _ _ ?_ ?_; · kernel_rfl)); clear hJ hKC KC J)
      | ((with_reducible refine AWP_condT ?_ ?_); · rfl)
      | ((with_reducible refine AWP_condF ?_ ?_); · rfl)
      | ((with_reducible refine ite_intro (fun hs => ?_) (fun hs => ?_)) <;> (try simp only [Bool.not_eq_true, Bool.not_eq_false, Bool.not_eq_true', Bool.not_eq_false', Decidable.not_not, decide_eq_true_eq, decide_eq_false_iff_not] at hs) <;> (try simp (maxSteps := 10000000) only [push_cast, seval, ↓reduceIte, hs, hlt]))
      | (refine AWP_cond rfl (fun h => ?_) (fun h => ?_) <;> try simp only [decide_eq_true_eq, decide_eq_false_iff_not, Bool.not_eq_true', Bool.not_eq_false', beq_iff_eq, bne_iff_ne, ne_eq, Bool.not_eq_true, Bool.or_eq_true, Bool.and_eq_true, Bool.or_eq_false_iff, Bool.and_eq_false_imp, beq_eq_false_iff_ne, bne_eq_false_iff_eq] at h)
    refine AWP_freeze 1 rfl (by simp (maxSteps := 10000000) only [push_cast, seval, ↓reduceIte]) ?_
    simp (maxSteps := 10000000) only [push_cast, seval, ↓reduceIte, frSt, frSlot, fr3, fr2, fr1, fr0, sameB, arrOf, hbm 0, hlC q hql, hcB]
    refine AWP_ret ?_
    refine ret_plain ?_
    simp (maxSteps := 10000000) only [push_cast, seval, ↓reduceIte, show Try.f119.results = #[(.tmp 4)] from rfl, hq]
    repeat' first | exact leF_nil | refine leD_tup ?_ | refine leF1_cons ?_ ?_ | exact leF1_nil | exact leD1_refl _ | refine leD1_agg ?_ | refine leF_cons ?_ ?_ | exact leD_refl _ | exact leD_nil | exact leD_any | exact .inl leD0_nil | exact leF_caps (by assumption) | exact leD_fn (by assumption) | refine leD_agg ?_ | refine leF0_cons ?_ ?_ | exact leF0_nil | exact leD0_refl _ | exact leD0_nil | exact leD0_any
/-! ### The rows, one after the other -/
def uD (L : List Nat) : D := if L.length = 0 then .sl true 1 [] else .ref 1 (L.length - 1) L.length
def uS (L : List Nat) : Slot := if L.length = 0 then .dead else .ent ⟨L.length - 1, some 1, 143, cellU L, .cells⟩
theorem uCase (L : List Nat) : (L = [] ∧ uD L = .sl true 1 [] ∧ uS L = .dead) ∨ (∃ j, L.length = j + 1 ∧ uD L = .ref 1 j (j + 1) ∧ uS L = .ent ⟨j, some 1, 143, cellU L, .cells⟩) := by
  cases L with
  | nil => exact .inl ⟨rfl, rfl, rfl⟩
  | cons x L => exact .inr ⟨L.length, rfl, rfl, rfl⟩
theorem uD_app (L : List Nat) (x : Nat) : uD (L ++ [x]) = .ref 1 L.length (L.length + 1) ∧ uS (L ++ [x]) = .ent ⟨L.length, some 1, 143, cellU L ++ [.v (.int .u32 (uv x))], .cells⟩ := by
  have hl : (L ++ [x]).length = L.length + 1 := by simp
  have hc : cellU (L ++ [x]) = cellU L ++ [.v (.int .u32 (uv x))] := by simp [cellU]
  unfold uD uS
  rw [hl, hc]
  exact ⟨rfl, rfl⟩
theorem uD_fr (L : List Nat) (g sz : Nat) (c : List D) : fr3 3 g sz c (uD L) = uD L := by
  rcases uCase L with ⟨_, h, _⟩ | ⟨j, _, h, _⟩ <;> rw [h] <;> rfl
theorem uS_fr (L : List Nat) (g sz : Nat) (c : List D) : frSlot 3 g sz c (uS L) = uS L := by
  rcases uCase L with ⟨_, _, h⟩ | ⟨j, _, _, h⟩ <;> rw [h]
  · rfl
  · simp only [frSlot, fr_cellU]
def fD (q : List Bool) : D := if q.length = 0 then .sl true 1 [] else .ref 3 (q.length - 1) q.length
def fT (q : List Bool) : List Slot := if q.length = 0 then [] else [.free, .ent ⟨q.length - 1, some 1, 4, cellB q, .cells⟩]
theorem fCase (q : List Bool) : (q = [] ∧ fD q = .sl true 1 [] ∧ fT q = []) ∨ (∃ j, q.length = j + 1 ∧ fD q = .ref 3 j (j + 1) ∧ fT q = [.free, .ent ⟨j, some 1, 4, cellB q, .cells⟩]) := by
  cases q with
  | nil => exact .inl ⟨rfl, rfl, rfl⟩
  | cons x L => exact .inr ⟨L.length, rfl, rfl, rfl⟩
theorem fD_app (q : List Bool) (x : Bool) : fD (q ++ [x]) = .ref 3 q.length (q.length + 1) ∧ fT (q ++ [x]) = [.free, .ent ⟨q.length, some 1, 4, cellB q ++ [.v (.bool x)], .cells⟩] := by
  have hl : (q ++ [x]).length = q.length + 1 := by simp
  have hc : cellB (q ++ [x]) = cellB q ++ [.v (.bool x)] := by simp [cellB]
  unfold fD fT
  rw [hl, hc]
  exact ⟨rfl, rfl⟩
theorem fromL_succ (b a : Nat) : fromL (b + 1) a = fromL b a ++ [decide (a = b)] := by simp [fromL, List.range_succ]
set_option maxHeartbeats 4000000 in
theorem rOf_fn (g : Bool) (ns : List ByteArray) (l : List (Int × Int)) (hs : Szs ns) (hl : l.length ≤ 1000) :
    Fn Try.prog 47 [.sl false 1 (strRow ns), .sl g 2 (pRow l)] [] (.agg [.sl false 1 (strRow (ofF ns l).1), .sl false 1 (u32Row (ofF ns l).2.1), .v (.int .i64 (ofF ns l).2.2)]) [] := by
  refine Fn.of (fn := Try.f47) (by kernel_rfl) rfl (by kernel_rfl) ⟨[.sl false 1 (strRow ns), .sl g 2 (pRow l), .v undef, .v undef, .v undef, .v undef, .v undef, .v undef, .v undef, .v undef, .v undef, .v undef, .v undef, .v undef, .v undef, .v undef, .v undef, .v undef, .v undef, .v undef, .v undef, .v undef, .v undef, .v undef, .v undef, .v undef, .v undef, .v undef, .v undef, .v undef, .v undef, .v undef, .v undef, .v undef, .v undef, .v undef, .v undef, .v undef, .v undef, .v undef, .v undef, .v undef, .v undef, .v undef, .v undef, .v undef, .v undef, .v undef, .v undef, .v undef, .v undef, .v undef, .v undef, .v undef, .v undef, .v undef, .v undef, .v undef, .v undef, .v undef, .v undef, .v undef, .v undef, .v undef, .v undef, .v undef, .v undef, .v undef, .v undef, .v undef, .v undef, .v undef, .v undef, .v undef, .v undef, .v undef, .v undef, .v undef, .v undef, .v undef, .v undef, .v undef, .v undef, .v undef, .v undef, .v undef, .v undef, .v undef, .v undef, .v undef, .v undef, .v undef, .v undef, .v undef, .v undef, .v undef, .v undef, .v undef, .v undef, .v undef, .v undef, .v undef, .v undef, .v undef, .v undef, .v undef, .v undef, .v undef], []⟩ rfl ?_
  by_cases hn : 1 ≤ ns.length ∧ ns.length ≤ 8
  case neg =>
    rw [show ofF ns l = ([], [], 1) by rw [ofF, if_pos hn]]
    by_cases h1 : (ns.length : Int) < 1
    · have h1' : decide ((ns.length : Int) < 1) = true := decide_eq_true h1
      repeat' first
        | with_reducible first | refine AWP_seq' ?_ | refine k_normal ?_ | refine k_ret ?_ | refine k_exit ?_ | refine b_normal ?_ | refine b_ret ?_ | refine b_exit ?_ | refine b_pass rfl ?_ | refine AWP_ret ?_ | refine AWP_skip ?_ | refine AWP_exit ?_ | refine AWP_block ?_
        | ((with_reducible first | refine AWP_reg fun KC J hJ hKC => ?_ | refine AWP_regD rfl fun KC J hJ hKC => ?_); simp (maxSteps := 10000000) only [push_cast, seval, ↓reduceIte, h1', h1, undef])
        | ((with_reducible refine And.intro ?_ ?_); · first | trivial | omega | assumption | (simp; done) | (simp; omega))
        | first | (refine' hKC _ _ _ _ _ (callV0 (reach_fn _ _ _ _ ?_ ?_ ?_ ?_) rfl rfl rfl ?_ ?_); (rotate_left 8); (· (repeat' first | exact leF_nil | refine leD_tup ?_ | refine leF1_cons ?_ ?_ | exact leF1_nil | exact leD1_refl _ | refine leD1_agg ?_ | refine leF_cons ?_ ?_ | exact leD_refl _ | exact leD_nil | exact leD_any | exact .inl leD0_nil | exact leF_caps (by assumption) | exact leD_fn (by assumption) | refine leD_agg ?_ | refine leF0_cons ?_ ?_ | exact leF0_nil | exact leD0_refl _ | exact leD0_nil | exact leD0_any)); (rotate_left 1); (iterate 4 (· first | assumption | omega | trivial | (simp; done) | (simp; omega))); simp (maxSteps := 10000000) only [push_cast, seval, ↓reduceIte, h1', h1, undef]) | (refine' hKC _ _ _ _ _ (callV0 (rCheck_fn _ _ _ _ ?_ ?_) rfl rfl rfl ?_ ?_); (rotate_left 6); (· (repeat' first | exact leF_nil | refine leD_tup ?_ | refine leF1_cons ?_ ?_ | exact leF1_nil | exact leD1_refl _ | refine leD1_agg ?_ | refine leF_cons ?_ ?_ | exact leD_refl _ | exact leD_nil | exact leD_any | exact .inl leD0_nil | exact leF_caps (by assumption) | exact leD_fn (by assumption) | refine leD_agg ?_ | refine leF0_cons ?_ ?_ | exact leF0_nil | exact leD0_refl _ | exact leD0_nil | exact leD0_any)); (rotate_left 1); (iterate 2 (· first | assumption | omega | trivial | (simp; done) | (simp; omega))); simp (maxSteps := 10000000) only [push_cast, seval, ↓reduceIte, h1', h1, undef])
        | ((first | with_reducible refine hJ _ _ ?_ | (with_reducible refine hJ _ _ ?_ ?_; · kernel_rfl)); clear hJ hKC KC J)
        | ((with_reducible refine AWP_condT ?_ ?_); · rfl)
        | ((with_reducible refine AWP_condF ?_ ?_); · rfl)
        | ((with_reducible refine ite_intro (fun hs => ?_) (fun hs => ?_)) <;> (try simp only [Bool.not_eq_true, Bool.not_eq_false, Bool.not_eq_true', Bool.not_eq_false', Decidable.not_not, decide_eq_true_eq, decide_eq_false_iff_not] at hs) <;> (try simp (maxSteps := 10000000) only [push_cast, seval, ↓reduceIte, hs, h1', h1, undef]))
        | (refine AWP_cond rfl (fun h => ?_) (fun h => ?_) <;> try simp only [decide_eq_true_eq, decide_eq_false_iff_not, Bool.not_eq_true', Bool.not_eq_false', beq_iff_eq, bne_iff_ne, ne_eq, Bool.not_eq_true, Bool.or_eq_true, Bool.and_eq_true, Bool.or_eq_false_iff, Bool.and_eq_false_imp, beq_eq_false_iff_ne, bne_eq_false_iff_eq] at h)
      refine ret_plain ?_
      simp (maxSteps := 10000000) only [push_cast, seval, ↓reduceIte, show Try.f47.results = #[(.cell 4 31)] from rfl]
      repeat' first | exact leF_nil | refine leD_tup ?_ | refine leF1_cons ?_ ?_ | exact leF1_nil | exact leD1_refl _ | refine leD1_agg ?_ | refine leF_cons ?_ ?_ | exact leD_refl _ | exact leD_nil | exact leD_any | exact .inl leD0_nil | exact leF_caps (by assumption) | exact leD_fn (by assumption) | refine leD_agg ?_ | refine leF0_cons ?_ ?_ | exact leF0_nil | exact leD0_refl _ | exact leD0_nil | exact leD0_any
    · have h1' : decide ((ns.length : Int) < 1) = false := decide_eq_false h1
      have h2 : (8 : Int) < ns.length := by omega
      repeat' first
        | with_reducible first | refine AWP_seq' ?_ | refine k_normal ?_ | refine k_ret ?_ | refine k_exit ?_ | refine b_normal ?_ | refine b_ret ?_ | refine b_exit ?_ | refine b_pass rfl ?_ | refine AWP_ret ?_ | refine AWP_skip ?_ | refine AWP_exit ?_ | refine AWP_block ?_
        | ((with_reducible first | refine AWP_reg fun KC J hJ hKC => ?_ | refine AWP_regD rfl fun KC J hJ hKC => ?_); simp (maxSteps := 10000000) only [push_cast, seval, ↓reduceIte, h1', h1, h2, undef])
        | ((with_reducible refine And.intro ?_ ?_); · first | trivial | omega | assumption | (simp; done) | (simp; omega))
        | first | (refine' hKC _ _ _ _ _ (callV0 (reach_fn _ _ _ _ ?_ ?_ ?_ ?_) rfl rfl rfl ?_ ?_); (rotate_left 8); (· (repeat' first | exact leF_nil | refine leD_tup ?_ | refine leF1_cons ?_ ?_ | exact leF1_nil | exact leD1_refl _ | refine leD1_agg ?_ | refine leF_cons ?_ ?_ | exact leD_refl _ | exact leD_nil | exact leD_any | exact .inl leD0_nil | exact leF_caps (by assumption) | exact leD_fn (by assumption) | refine leD_agg ?_ | refine leF0_cons ?_ ?_ | exact leF0_nil | exact leD0_refl _ | exact leD0_nil | exact leD0_any)); (rotate_left 1); (iterate 4 (· first | assumption | omega | trivial | (simp; done) | (simp; omega))); simp (maxSteps := 10000000) only [push_cast, seval, ↓reduceIte, h1', h1, h2, undef]) | (refine' hKC _ _ _ _ _ (callV0 (rCheck_fn _ _ _ _ ?_ ?_) rfl rfl rfl ?_ ?_); (rotate_left 6); (· (repeat' first | exact leF_nil | refine leD_tup ?_ | refine leF1_cons ?_ ?_ | exact leF1_nil | exact leD1_refl _ | refine leD1_agg ?_ | refine leF_cons ?_ ?_ | exact leD_refl _ | exact leD_nil | exact leD_any | exact .inl leD0_nil | exact leF_caps (by assumption) | exact leD_fn (by assumption) | refine leD_agg ?_ | refine leF0_cons ?_ ?_ | exact leF0_nil | exact leD0_refl _ | exact leD0_nil | exact leD0_any)); (rotate_left 1); (iterate 2 (· first | assumption | omega | trivial | (simp; done) | (simp; omega))); simp (maxSteps := 10000000) only [push_cast, seval, ↓reduceIte, h1', h1, h2, undef])
        | ((first | with_reducible refine hJ _ _ ?_ | (with_reducible refine hJ _ _ ?_ ?_; · kernel_rfl)); clear hJ hKC KC J)
        | ((with_reducible refine AWP_condT ?_ ?_); · rfl)
        | ((with_reducible refine AWP_condF ?_ ?_); · rfl)
        | ((with_reducible refine ite_intro (fun hs => ?_) (fun hs => ?_)) <;> (try simp only [Bool.not_eq_true, Bool.not_eq_false, Bool.not_eq_true', Bool.not_eq_false', Decidable.not_not, decide_eq_true_eq, decide_eq_false_iff_not] at hs) <;> (try simp (maxSteps := 10000000) only [push_cast, seval, ↓reduceIte, hs, h1', h1, h2, undef]))
        | (refine AWP_cond rfl (fun h => ?_) (fun h => ?_) <;> try simp only [decide_eq_true_eq, decide_eq_false_iff_not, Bool.not_eq_true', Bool.not_eq_false', beq_iff_eq, bne_iff_ne, ne_eq, Bool.not_eq_true, Bool.or_eq_true, Bool.and_eq_true, Bool.or_eq_false_iff, Bool.and_eq_false_imp, beq_eq_false_iff_ne, bne_eq_false_iff_eq] at h)
      refine ret_plain ?_
      simp (maxSteps := 10000000) only [push_cast, seval, ↓reduceIte, show Try.f47.results = #[(.cell 4 31)] from rfl]
      repeat' first | exact leF_nil | refine leD_tup ?_ | refine leF1_cons ?_ ?_ | exact leF1_nil | exact leD1_refl _ | refine leD1_agg ?_ | refine leF_cons ?_ ?_ | exact leD_refl _ | exact leD_nil | exact leD_any | exact .inl leD0_nil | exact leF_caps (by assumption) | exact leD_fn (by assumption) | refine leD_agg ?_ | refine leF0_cons ?_ ?_ | exact leF0_nil | exact leD0_refl _ | exact leD0_nil | exact leD0_any
  have h1 : ¬ (ns.length : Int) < 1 := by omega
  have h1' : decide ((ns.length : Int) < 1) = false := decide_eq_false h1
  have h2 : ¬ (8 : Int) < ns.length := by omega
  have hbm : ∀ j : Nat, Nat.beq j j = true := fun j => Nat.beq_refl j
  by_cases hm : (64 : Int) < l.length
  · rw [show ofF ns l = ([], [], 8) by rw [ofF, if_neg (by simpa using hn), if_pos (by omega)]]
    repeat' first
      | with_reducible first | refine AWP_seq' ?_ | refine k_normal ?_ | refine k_ret ?_ | refine k_exit ?_ | refine b_normal ?_ | refine b_ret ?_ | refine b_exit ?_ | refine b_pass rfl ?_ | refine AWP_ret ?_ | refine AWP_skip ?_ | refine AWP_exit ?_ | refine AWP_block ?_
      | ((with_reducible first | refine AWP_reg fun KC J hJ hKC => ?_ | refine AWP_regD rfl fun KC J hJ hKC => ?_); simp (maxSteps := 10000000) only [push_cast, seval, ↓reduceIte, h1', h1, h2, hm, undef])
      | ((with_reducible refine And.intro ?_ ?_); · first | trivial | omega | assumption | (simp; done) | (simp; omega))
      | first | (refine' hKC _ _ _ _ _ (callV0 (reach_fn _ _ _ _ ?_ ?_ ?_ ?_) rfl rfl rfl ?_ ?_); (rotate_left 8); (· (repeat' first | exact leF_nil | refine leD_tup ?_ | refine leF1_cons ?_ ?_ | exact leF1_nil | exact leD1_refl _ | refine leD1_agg ?_ | refine leF_cons ?_ ?_ | exact leD_refl _ | exact leD_nil | exact leD_any | exact .inl leD0_nil | exact leF_caps (by assumption) | exact leD_fn (by assumption) | refine leD_agg ?_ | refine leF0_cons ?_ ?_ | exact leF0_nil | exact leD0_refl _ | exact leD0_nil | exact leD0_any)); (rotate_left 1); (iterate 4 (· first | assumption | omega | trivial | (simp; done) | (simp; omega))); simp (maxSteps := 10000000) only [push_cast, seval, ↓reduceIte, h1', h1, h2, hm, undef]) | (refine' hKC _ _ _ _ _ (callV0 (rCheck_fn _ _ _ _ ?_ ?_) rfl rfl rfl ?_ ?_); (rotate_left 6); (· (repeat' first | exact leF_nil | refine leD_tup ?_ | refine leF1_cons ?_ ?_ | exact leF1_nil | exact leD1_refl _ | refine leD1_agg ?_ | refine leF_cons ?_ ?_ | exact leD_refl _ | exact leD_nil | exact leD_any | exact .inl leD0_nil | exact leF_caps (by assumption) | exact leD_fn (by assumption) | refine leD_agg ?_ | refine leF0_cons ?_ ?_ | exact leF0_nil | exact leD0_refl _ | exact leD0_nil | exact leD0_any)); (rotate_left 1); (iterate 2 (· first | assumption | omega | trivial | (simp; done) | (simp; omega))); simp (maxSteps := 10000000) only [push_cast, seval, ↓reduceIte, h1', h1, h2, hm, undef])
      | ((first | with_reducible refine hJ _ _ ?_ | (with_reducible refine hJ _ _ ?_ ?_; · kernel_rfl)); clear hJ hKC KC J)
      | ((with_reducible refine AWP_condT ?_ ?_); · rfl)
      | ((with_reducible refine AWP_condF ?_ ?_); · rfl)
      | ((with_reducible refine ite_intro (fun hs => ?_) (fun hs => ?_)) <;> (try simp only [Bool.not_eq_true, Bool.not_eq_false, Bool.not_eq_true', Bool.not_eq_false', Decidable.not_not, decide_eq_true_eq, decide_eq_false_iff_not] at hs) <;> (try simp (maxSteps := 10000000) only [push_cast, seval, ↓reduceIte, hs, h1', h1, h2, hm, undef]))
      | (refine AWP_cond rfl (fun h => ?_) (fun h => ?_) <;> try simp only [decide_eq_true_eq, decide_eq_false_iff_not, Bool.not_eq_true', Bool.not_eq_false', beq_iff_eq, bne_iff_ne, ne_eq, Bool.not_eq_true, Bool.or_eq_true, Bool.and_eq_true, Bool.or_eq_false_iff, Bool.and_eq_false_imp, beq_eq_false_iff_ne, bne_eq_false_iff_eq] at h)
    refine ret_plain ?_
    simp (maxSteps := 10000000) only [push_cast, seval, ↓reduceIte, show Try.f47.results = #[(.cell 4 31)] from rfl]
    repeat' first | exact leF_nil | refine leD_tup ?_ | refine leF1_cons ?_ ?_ | exact leF1_nil | exact leD1_refl _ | refine leD1_agg ?_ | refine leF_cons ?_ ?_ | exact leD_refl _ | exact leD_nil | exact leD_any | exact .inl leD0_nil | exact leF_caps (by assumption) | exact leD_fn (by assumption) | refine leD_agg ?_ | refine leF0_cons ?_ ?_ | exact leF0_nil | exact leD0_refl _ | exact leD0_nil | exact leD0_any
  repeat' first
    | with_reducible first | refine AWP_seq' ?_ | refine k_normal ?_ | refine k_ret ?_ | refine k_exit ?_ | refine b_normal ?_ | refine b_ret ?_ | refine b_exit ?_ | refine b_pass rfl ?_ | refine AWP_ret ?_ | refine AWP_skip ?_ | refine AWP_exit ?_ | refine AWP_block ?_
    | ((with_reducible first | refine AWP_reg fun KC J hJ hKC => ?_ | refine AWP_regD rfl fun KC J hJ hKC => ?_); simp (maxSteps := 10000000) only [push_cast, seval, ↓reduceIte, h1', h1, h2, hm, undef])
    | ((with_reducible refine And.intro ?_ ?_); · first | trivial | omega | assumption | (simp; done) | (simp; omega))
    | first | (refine' hKC _ _ _ _ _ (callV0 (reach_fn _ _ _ _ ?_ ?_ ?_ ?_) rfl rfl rfl ?_ ?_); (rotate_left 8); (· (repeat' first | exact leF_nil | refine leD_tup ?_ | refine leF1_cons ?_ ?_ | exact leF1_nil | exact leD1_refl _ | refine leD1_agg ?_ | refine leF_cons ?_ ?_ | exact leD_refl _ | exact leD_nil | exact leD_any | exact .inl leD0_nil | exact leF_caps (by assumption) | exact leD_fn (by assumption) | refine leD_agg ?_ | refine leF0_cons ?_ ?_ | exact leF0_nil | exact leD0_refl _ | exact leD0_nil | exact leD0_any)); (rotate_left 1); (iterate 4 (· first | assumption | omega | trivial | (simp; done) | (simp; omega))); simp (maxSteps := 10000000) only [push_cast, seval, ↓reduceIte, h1', h1, h2, hm, undef]) | (refine' hKC _ _ _ _ _ (callV0 (rCheck_fn _ _ _ _ ?_ ?_) rfl rfl rfl ?_ ?_); (rotate_left 6); (· (repeat' first | exact leF_nil | refine leD_tup ?_ | refine leF1_cons ?_ ?_ | exact leF1_nil | exact leD1_refl _ | refine leD1_agg ?_ | refine leF_cons ?_ ?_ | exact leD_refl _ | exact leD_nil | exact leD_any | exact .inl leD0_nil | exact leF_caps (by assumption) | exact leD_fn (by assumption) | refine leD_agg ?_ | refine leF0_cons ?_ ?_ | exact leF0_nil | exact leD0_refl _ | exact leD0_nil | exact leD0_any)); (rotate_left 1); (iterate 2 (· first | assumption | omega | trivial | (simp; done) | (simp; omega))); simp (maxSteps := 10000000) only [push_cast, seval, ↓reduceIte, h1', h1, h2, hm, undef])
    | ((first | with_reducible refine hJ _ _ ?_ | (with_reducible refine hJ _ _ ?_ ?_; · kernel_rfl)); clear hJ hKC KC J)
    | ((with_reducible refine AWP_condT ?_ ?_); · rfl)
    | ((with_reducible refine AWP_condF ?_ ?_); · rfl)
    | ((with_reducible refine ite_intro (fun hs => ?_) (fun hs => ?_)) <;> (try simp only [Bool.not_eq_true, Bool.not_eq_false, Bool.not_eq_true', Bool.not_eq_false', Decidable.not_not, decide_eq_true_eq, decide_eq_false_iff_not] at hs) <;> (try simp (maxSteps := 10000000) only [push_cast, seval, ↓reduceIte, hs, h1', h1, h2, hm, undef]))
    | (refine AWP_cond rfl (fun h => ?_) (fun h => ?_) <;> try simp only [decide_eq_true_eq, decide_eq_false_iff_not, Bool.not_eq_true', Bool.not_eq_false', beq_iff_eq, bne_iff_ne, ne_eq, Bool.not_eq_true, Bool.or_eq_true, Bool.and_eq_true, Bool.or_eq_false_iff, Bool.and_eq_false_imp, beq_eq_false_iff_ne, bne_eq_false_iff_eq] at h)
  refine AWP_loopD 1 (γ := {j : Nat // j ≤ l.length ∧ ∀ (i : Nat) (hi : i < l.length), i < j → oddB ns.length l[i] = false}) (fun j => ⟨[.sl false 1 (strRow ns), .sl g 2 (pRow l), .any, .any, .ptr 0 0 0, .v (.int .i64 ns.length), .any, .any, .any, .any, .any, .any, .any, .any, .any, .any, .any, .any, .any, .any, .any, .any, .any, .any, .any, .any, .any, .any, .any, .any, .sl g 2 (pRow l), .v (.int .i64 l.length), .v (.int .i64 j.1), .any, .any, .any, .any, .any, .any, .any, .any, .any, .any, .any, .any, .any, .any, .any, .any, .any, .any, .any, .any, .any, .any, .any, .any, .any, .any, .any, .any, .any, .any, .any, .any, .any, .any, .any, .any, .any, .any, .any, .any, .any, .any, .any, .any, .any, .any, .any, .any, .any, .any, .any, .any, .any, .any, .any, .any, .any, .any, .any, .any, .any, .any, .any, .any, .any, .any, .any, .any, .any, .any, .any, .any, .any, .any, .any], [.ent ⟨0, none, 31, [.v (.slice none 0 0), .v (.slice none 0 0), .v (.int .i64 0)], .cells⟩]⟩) (fun j => l.length - j.1) ⟨0, by omega, fun i hi h => by omega⟩ (fun k => rfl) (fun k => rfl) (fun k => rfl) ⟨?_, ?_⟩ ?_
  · repeat' first | exact leF_nil | refine leD_tup ?_ | refine leF1_cons ?_ ?_ | exact leF1_nil | exact leD1_refl _ | refine leD1_agg ?_ | refine leF_cons ?_ ?_ | exact leD_refl _ | exact leD_nil | exact leD_any | exact .inl leD0_nil | exact leF_caps (by assumption) | exact leD_fn (by assumption) | refine leD_agg ?_ | refine leF0_cons ?_ ?_ | exact leF0_nil | exact leD0_refl _ | exact leD0_nil | exact leD0_any
  · exact (by first | exact ⟨0, (List.append_nil _).symm⟩ | exact ⟨1, rfl⟩ | exact ⟨2, rfl⟩ | exact ⟨3, rfl⟩ | exact ⟨4, rfl⟩ | exact ⟨5, rfl⟩ | exact ⟨6, rfl⟩ | exact ⟨7, rfl⟩ | exact ⟨8, rfl⟩)
  rintro ⟨j, hj, hno⟩
  by_cases hlj : (j : Int) < (l.length : Int)
  · have hjn : j < l.length := by omega
    have hx : l[j]? = some l[j] := List.getElem?_eq_getElem hjn
    have hxm : l[j] ∈ l := List.getElem_mem hjn
    obtain ⟨e, he⟩ : ∃ e, l[j] = e := ⟨_, rfl⟩
    rw [he] at hx hxm
    obtain ⟨x, hx1⟩ : ∃ x, decide (e.1 < 0) = x := ⟨_, rfl⟩
    obtain ⟨y, hy1⟩ : ∃ x, decide ((ns.length : Int) ≤ e.1) = x := ⟨_, rfl⟩
    obtain ⟨z, hz1⟩ : ∃ x, decide (e.2 < 0) = x := ⟨_, rfl⟩
    obtain ⟨w, hw1⟩ : ∃ x, decide ((ns.length : Int) ≤ e.2) = x := ⟨_, rfl⟩
    have hodd : oddB ns.length e = (x || (y || (z || w))) := by rw [oddB, hx1, hy1, hz1, hw1]
    rcases x with _ | _
    rcases y with _ | _
    rcases z with _ | _
    rcases w with _ | _
    · skip
      repeat' first
        | with_reducible first | refine AWP_seq' ?_ | refine k_normal ?_ | refine k_ret ?_ | refine k_exit ?_ | refine b_normal ?_ | refine b_ret ?_ | refine b_exit ?_ | refine b_pass rfl ?_ | refine AWP_ret ?_ | refine AWP_skip ?_ | refine AWP_exit ?_ | refine AWP_block ?_
        | ((with_reducible first | refine AWP_reg fun KC J hJ hKC => ?_ | refine AWP_regD rfl fun KC J hJ hKC => ?_); simp (maxSteps := 10000000) only [push_cast, seval, ↓reduceIte, hlj, getE_p hx, hx1, hy1, hz1, hw1, undef, wrapN (i := j) (n := l.length) (by omega) (by omega)])
        | ((with_reducible refine And.intro ?_ ?_); · first | trivial | omega | assumption | (simp; done) | (simp; omega))
        | first | (refine' hKC _ _ _ _ _ (callV0 (reach_fn _ _ _ _ ?_ ?_ ?_ ?_) rfl rfl rfl ?_ ?_); (rotate_left 8); (· (repeat' first | exact leF_nil | refine leD_tup ?_ | refine leF1_cons ?_ ?_ | exact leF1_nil | exact leD1_refl _ | refine leD1_agg ?_ | refine leF_cons ?_ ?_ | exact leD_refl _ | exact leD_nil | exact leD_any | exact .inl leD0_nil | exact leF_caps (by assumption) | exact leD_fn (by assumption) | refine leD_agg ?_ | refine leF0_cons ?_ ?_ | exact leF0_nil | exact leD0_refl _ | exact leD0_nil | exact leD0_any)); (rotate_left 1); (iterate 4 (· first | assumption | omega | trivial | (simp; done) | (simp; omega))); simp (maxSteps := 10000000) only [push_cast, seval, ↓reduceIte, hlj, getE_p hx, hx1, hy1, hz1, hw1, undef, wrapN (i := j) (n := l.length) (by omega) (by omega)]) | (refine' hKC _ _ _ _ _ (callV0 (rCheck_fn _ _ _ _ ?_ ?_) rfl rfl rfl ?_ ?_); (rotate_left 6); (· (repeat' first | exact leF_nil | refine leD_tup ?_ | refine leF1_cons ?_ ?_ | exact leF1_nil | exact leD1_refl _ | refine leD1_agg ?_ | refine leF_cons ?_ ?_ | exact leD_refl _ | exact leD_nil | exact leD_any | exact .inl leD0_nil | exact leF_caps (by assumption) | exact leD_fn (by assumption) | refine leD_agg ?_ | refine leF0_cons ?_ ?_ | exact leF0_nil | exact leD0_refl _ | exact leD0_nil | exact leD0_any)); (rotate_left 1); (iterate 2 (· first | assumption | omega | trivial | (simp; done) | (simp; omega))); simp (maxSteps := 10000000) only [push_cast, seval, ↓reduceIte, hlj, getE_p hx, hx1, hy1, hz1, hw1, undef, wrapN (i := j) (n := l.length) (by omega) (by omega)])
        | ((first | with_reducible refine hJ _ _ ?_ | (with_reducible refine hJ _ _ ?_ ?_; · kernel_rfl)); clear hJ hKC KC J)
        | ((with_reducible refine AWP_condT ?_ ?_); · rfl)
        | ((with_reducible refine AWP_condF ?_ ?_); · rfl)
        | ((with_reducible refine ite_intro (fun hs => ?_) (fun hs => ?_)) <;> (try simp only [Bool.not_eq_true, Bool.not_eq_false, Bool.not_eq_true', Bool.not_eq_false', Decidable.not_not, decide_eq_true_eq, decide_eq_false_iff_not] at hs) <;> (try simp (maxSteps := 10000000) only [push_cast, seval, ↓reduceIte, hs, hlj, getE_p hx, hx1, hy1, hz1, hw1, undef, wrapN (i := j) (n := l.length) (by omega) (by omega)]))
        | (refine AWP_cond rfl (fun h => ?_) (fun h => ?_) <;> try simp only [decide_eq_true_eq, decide_eq_false_iff_not, Bool.not_eq_true', Bool.not_eq_false', beq_iff_eq, bne_iff_ne, ne_eq, Bool.not_eq_true, Bool.or_eq_true, Bool.and_eq_true, Bool.or_eq_false_iff, Bool.and_eq_false_imp, beq_eq_false_iff_ne, bne_eq_false_iff_eq] at h)
      refine ⟨⟨j + 1, by omega, fun i hi hij => ?_⟩, by simp only; omega, ?_, ⟨_, rfl⟩⟩
      · by_cases hji : i = j
        · subst hji; rw [he, hodd]; rfl
        · exact hno i hi (by omega)
      · repeat' first | exact leF_nil | refine leD_tup ?_ | refine leF1_cons ?_ ?_ | exact leF1_nil | exact leD1_refl _ | refine leD1_agg ?_ | refine leF_cons ?_ ?_ | exact leD_refl _ | exact leD_nil | exact leD_any | exact .inl leD0_nil | exact leF_caps (by assumption) | exact leD_fn (by assumption) | refine leD_agg ?_ | refine leF0_cons ?_ ?_ | exact leF0_nil | exact leD0_refl _ | exact leD0_nil | exact leD0_any
    all_goals
      have hany : l.any (oddB ns.length) = true := List.any_eq_true.2 ⟨e, hxm, by rw [hodd]; rfl⟩
      rw [show ofF ns l = ([], [], 9) by rw [ofF, if_neg (by simpa using hn), if_neg (by omega), if_pos hany]]
      repeat' first
        | with_reducible first | refine AWP_seq' ?_ | refine k_normal ?_ | refine k_ret ?_ | refine k_exit ?_ | refine b_normal ?_ | refine b_ret ?_ | refine b_exit ?_ | refine b_pass rfl ?_ | refine AWP_ret ?_ | refine AWP_skip ?_ | refine AWP_exit ?_ | refine AWP_block ?_
        | ((with_reducible first | refine AWP_reg fun KC J hJ hKC => ?_ | refine AWP_regD rfl fun KC J hJ hKC => ?_); simp (maxSteps := 10000000) only [push_cast, seval, ↓reduceIte, hlj, getE_p hx, hx1, hy1, hz1, hw1, undef])
        | ((with_reducible refine And.intro ?_ ?_); · first | trivial | omega | assumption | (simp; done) | (simp; omega))
        | first | (refine' hKC _ _ _ _ _ (callV0 (reach_fn _ _ _ _ ?_ ?_ ?_ ?_) rfl rfl rfl ?_ ?_); (rotate_left 8); (· (repeat' first | exact leF_nil | refine leD_tup ?_ | refine leF1_cons ?_ ?_ | exact leF1_nil | exact leD1_refl _ | refine leD1_agg ?_ | refine leF_cons ?_ ?_ | exact leD_refl _ | exact leD_nil | exact leD_any | exact .inl leD0_nil | exact leF_caps (by assumption) | exact leD_fn (by assumption) | refine leD_agg ?_ | refine leF0_cons ?_ ?_ | exact leF0_nil | exact leD0_refl _ | exact leD0_nil | exact leD0_any)); (rotate_left 1); (iterate 4 (· first | assumption | omega | trivial | (simp; done) | (simp; omega))); simp (maxSteps := 10000000) only [push_cast, seval, ↓reduceIte, hlj, getE_p hx, hx1, hy1, hz1, hw1, undef]) | (refine' hKC _ _ _ _ _ (callV0 (rCheck_fn _ _ _ _ ?_ ?_) rfl rfl rfl ?_ ?_); (rotate_left 6); (· (repeat' first | exact leF_nil | refine leD_tup ?_ | refine leF1_cons ?_ ?_ | exact leF1_nil | exact leD1_refl _ | refine leD1_agg ?_ | refine leF_cons ?_ ?_ | exact leD_refl _ | exact leD_nil | exact leD_any | exact .inl leD0_nil | exact leF_caps (by assumption) | exact leD_fn (by assumption) | refine leD_agg ?_ | refine leF0_cons ?_ ?_ | exact leF0_nil | exact leD0_refl _ | exact leD0_nil | exact leD0_any)); (rotate_left 1); (iterate 2 (· first | assumption | omega | trivial | (simp; done) | (simp; omega))); simp (maxSteps := 10000000) only [push_cast, seval, ↓reduceIte, hlj, getE_p hx, hx1, hy1, hz1, hw1, undef])
        | ((first | with_reducible refine hJ _ _ ?_ | (with_reducible refine hJ _ _ ?_ ?_; · kernel_rfl)); clear hJ hKC KC J)
        | ((with_reducible refine AWP_condT ?_ ?_); · rfl)
        | ((with_reducible refine AWP_condF ?_ ?_); · rfl)
        | ((with_reducible refine ite_intro (fun hs => ?_) (fun hs => ?_)) <;> (try simp only [Bool.not_eq_true, Bool.not_eq_false, Bool.not_eq_true', Bool.not_eq_false', Decidable.not_not, decide_eq_true_eq, decide_eq_false_iff_not] at hs) <;> (try simp (maxSteps := 10000000) only [push_cast, seval, ↓reduceIte, hs, hlj, getE_p hx, hx1, hy1, hz1, hw1, undef]))
        | (refine AWP_cond rfl (fun h => ?_) (fun h => ?_) <;> try simp only [decide_eq_true_eq, decide_eq_false_iff_not, Bool.not_eq_true', Bool.not_eq_false', beq_iff_eq, bne_iff_ne, ne_eq, Bool.not_eq_true, Bool.or_eq_true, Bool.and_eq_true, Bool.or_eq_false_iff, Bool.and_eq_false_imp, beq_eq_false_iff_ne, bne_eq_false_iff_eq] at h)
      refine ret_plain ?_
      simp (maxSteps := 10000000) only [push_cast, seval, ↓reduceIte, show Try.f47.results = #[(.cell 4 31)] from rfl]
      repeat' first | exact leF_nil | refine leD_tup ?_ | refine leF1_cons ?_ ?_ | exact leF1_nil | exact leD1_refl _ | refine leD1_agg ?_ | refine leF_cons ?_ ?_ | exact leD_refl _ | exact leD_nil | exact leD_any | exact .inl leD0_nil | exact leF_caps (by assumption) | exact leD_fn (by assumption) | refine leD_agg ?_ | refine leF0_cons ?_ ?_ | exact leF0_nil | exact leD0_refl _ | exact leD0_nil | exact leD0_any
  have ho' : l.any (oddB ns.length) = false := by
    rw [List.any_eq_false]
    intro x hx
    obtain ⟨i, hi, rfl⟩ := List.mem_iff_getElem.1 hx
    rw [hno i hi (by omega)]; simp
  have hof : ofF ns l = if checkF ns (closU ns.length (natE l)) = 0 then (ns, closU ns.length (natE l), 0) else ([], [], checkF ns (closU ns.length (natE l))) := by rw [ofF, if_neg (by simpa using hn), if_neg (by omega), if_neg (by rw [ho']; simp)]
  rw [hof]
  have hes := natE_in ho'
  obtain ⟨m, hm1⟩ : ∃ m, ns.length = m + 1 := ⟨ns.length - 1, by omega⟩
  have hn8 := hn.2
  repeat' first
    | with_reducible first | refine AWP_seq' ?_ | refine k_normal ?_ | refine k_ret ?_ | refine k_exit ?_ | refine b_normal ?_ | refine b_ret ?_ | refine b_exit ?_ | refine b_pass rfl ?_ | refine AWP_ret ?_ | refine AWP_skip ?_ | refine AWP_exit ?_ | refine AWP_block ?_
    | ((with_reducible first | refine AWP_reg fun KC J hJ hKC => ?_ | refine AWP_regD rfl fun KC J hJ hKC => ?_); simp (maxSteps := 10000000) only [push_cast, seval, ↓reduceIte, hlj])
    | ((with_reducible refine And.intro ?_ ?_); · first | trivial | omega | assumption | (simp; done) | (simp; omega))
    | first | (refine' hKC _ _ _ _ _ (callV0 (reach_fn _ _ _ _ ?_ ?_ ?_ ?_) rfl rfl rfl ?_ ?_); (rotate_left 8); (· (repeat' first | exact leF_nil | refine leD_tup ?_ | refine leF1_cons ?_ ?_ | exact leF1_nil | exact leD1_refl _ | refine leD1_agg ?_ | refine leF_cons ?_ ?_ | exact leD_refl _ | exact leD_nil | exact leD_any | exact .inl leD0_nil | exact leF_caps (by assumption) | exact leD_fn (by assumption) | refine leD_agg ?_ | refine leF0_cons ?_ ?_ | exact leF0_nil | exact leD0_refl _ | exact leD0_nil | exact leD0_any)); (rotate_left 1); (iterate 4 (· first | assumption | omega | trivial | (simp; done) | (simp; omega))); simp (maxSteps := 10000000) only [push_cast, seval, ↓reduceIte, hlj]) | (refine' hKC _ _ _ _ _ (callV0 (rCheck_fn _ _ _ _ ?_ ?_) rfl rfl rfl ?_ ?_); (rotate_left 6); (· (repeat' first | exact leF_nil | refine leD_tup ?_ | refine leF1_cons ?_ ?_ | exact leF1_nil | exact leD1_refl _ | refine leD1_agg ?_ | refine leF_cons ?_ ?_ | exact leD_refl _ | exact leD_nil | exact leD_any | exact .inl leD0_nil | exact leF_caps (by assumption) | exact leD_fn (by assumption) | refine leD_agg ?_ | refine leF0_cons ?_ ?_ | exact leF0_nil | exact leD0_refl _ | exact leD0_nil | exact leD0_any)); (rotate_left 1); (iterate 2 (· first | assumption | omega | trivial | (simp; done) | (simp; omega))); simp (maxSteps := 10000000) only [push_cast, seval, ↓reduceIte, hlj])
    | ((first | with_reducible refine hJ _ _ ?_ | (with_reducible refine hJ _ _ ?_ ?_; · kernel_rfl)); clear hJ hKC KC J)
    | ((with_reducible refine AWP_condT ?_ ?_); · rfl)
    | ((with_reducible refine AWP_condF ?_ ?_); · rfl)
    | ((with_reducible refine ite_intro (fun hs => ?_) (fun hs => ?_)) <;> (try simp only [Bool.not_eq_true, Bool.not_eq_false, Bool.not_eq_true', Bool.not_eq_false', Decidable.not_not, decide_eq_true_eq, decide_eq_false_iff_not] at hs) <;> (try simp (maxSteps := 10000000) only [push_cast, seval, ↓reduceIte, hs, hlj]))
    | (refine AWP_cond rfl (fun h => ?_) (fun h => ?_) <;> try simp only [decide_eq_true_eq, decide_eq_false_iff_not, Bool.not_eq_true', Bool.not_eq_false', beq_iff_eq, bne_iff_ne, ne_eq, Bool.not_eq_true, Bool.or_eq_true, Bool.and_eq_true, Bool.or_eq_false_iff, Bool.and_eq_false_imp, beq_eq_false_iff_ne, bne_eq_false_iff_eq] at h)
  refine AWP_to ⟨[.sl false 1 (strRow ns), .sl g 2 (pRow l), .any, .any, .ptr 0 0 0, .v (.int .i64 ns.length), .any, .any, .sl true 1 [], .v (.int .i64 0), .any, .any, .any, .any, .any, .any, .any, .any, .any, .any, .any, .any, .any, .any, .any, .any, .any, .any, .any, .any, .any, .any, .any, .any, .any, .any, .any, .any, .any, .any, .any, .any, .any, .any, .any, .any, .any, .any, .any, .any, .any, .any, .any, .any, .any, .any, .any, .any, .any, .any, .any, .any, .any, .any, .any, .any, .any, .any, .any, .any, .any, .any, .any, .any, .any, .any, .any, .any, .any, .any, .any, .any, .any, .any, .any, .any, .any, .any, .any, .any, .any, .any, .any, .any, .any, .any, .any, .any, .any, .any, .any, .any, .any, .any, .any, .any, .any, .any], [.ent ⟨0, none, 31, [.v (.slice none 0 0), .v (.slice none 0 0), .v (.int .i64 0)], .cells⟩]⟩ (by repeat' first | exact leF_nil | refine leD_tup ?_ | refine leF1_cons ?_ ?_ | exact leF1_nil | exact leD1_refl _ | refine leD1_agg ?_ | refine leF_cons ?_ ?_ | exact leD_refl _ | exact leD_nil | exact leD_any | exact .inl leD0_nil | exact leF_caps (by assumption) | exact leD_fn (by assumption) | refine leD_agg ?_ | refine leF0_cons ?_ ?_ | exact leF0_nil | exact leD0_refl _ | exact leD0_nil | exact leD0_any) (by first | exact ⟨0, (List.append_nil _).symm⟩ | exact ⟨1, rfl⟩ | exact ⟨2, rfl⟩ | exact ⟨3, rfl⟩ | exact ⟨4, rfl⟩ | exact ⟨5, rfl⟩ | exact ⟨6, rfl⟩ | exact ⟨7, rfl⟩ | exact ⟨8, rfl⟩) ?_
  refine AWP_loopW (γ := {a : Nat // a ≤ ns.length}) (fun a => ⟨[.sl false 1 (strRow ns), .sl g 2 (pRow l), .any, .any, .ptr 0 0 0, .v (.int .i64 ns.length), .any, .any, uD (upsN (reachB (natE l)) ns.length a.1), .v (.int .i64 a.1), .any, .any, .any, .any, .any, .any, .any, .any, .any, .any, .any, .any, .any, .any, .any, .any, .any, .any, .any, .any, .any, .any, .any, .any, .any, .any, .any, .any, .any, .any, .any, .any, .any, .any, .any, .any, .any, .any, .any, .any, .any, .any, .any, .any, .any, .any, .any, .any, .any, .any, .any, .any, .any, .any, .any, .any, .any, .any, .any, .any, .any, .any, .any, .any, .any, .any, .any, .any, .any, .any, .any, .any, .any, .any, .any, .any, .any, .any, .any, .any, .any, .any, .any, .any, .any, .any, .any, .any, .any, .any, .any, .any, .any, .any, .any, .any, .any, .any], [.ent ⟨0, none, 31, [.v (.slice none 0 0), .v (.slice none 0 0), .v (.int .i64 0)], .cells⟩, uS (upsN (reachB (natE l)) ns.length a.1)]⟩) (fun a => ns.length - a.1) ⟨0, by omega⟩ ⟨[0, 1], by decide, fun k hk => ?_, ?_, ?_⟩ ?_
  · simp at hk; subst hk; rfl
  · simp (maxSteps := 10000000) only [push_cast, seval, ↓reduceIte, upsN]
    repeat' first | exact leF_nil | refine leD_tup ?_ | refine leF1_cons ?_ ?_ | exact leF1_nil | exact leD1_refl _ | refine leD1_agg ?_ | refine leF_cons ?_ ?_ | exact leD_refl _ | exact leD_nil | exact leD_any | exact .inl leD0_nil | exact leF_caps (by assumption) | exact leD_fn (by assumption) | refine leD_agg ?_ | refine leF0_cons ?_ ?_ | exact leF0_nil | exact leD0_refl _ | exact leD0_nil | exact leD0_any
  · simp (maxSteps := 10000000) only [push_cast, seval, ↓reduceIte, upsN, uS, pick, renSlot]
    exact leS_refl _
  rintro ⟨a, ha⟩
  obtain ⟨L, hL⟩ : ∃ L, upsN (reachB (natE l)) ns.length a = L := ⟨_, rfl⟩
  have hLa : L.length = a := by rw [← hL, upsN_length]
  simp only [hL]
  by_cases hlt : (a : Int) < (ns.length : Int)
  · have han : a < ns.length := by omega
    repeat' first
      | with_reducible first | refine AWP_seq' ?_ | refine k_normal ?_ | refine k_ret ?_ | refine k_exit ?_ | refine b_normal ?_ | refine b_ret ?_ | refine b_exit ?_ | refine b_pass rfl ?_ | refine AWP_ret ?_ | refine AWP_skip ?_ | refine AWP_exit ?_ | refine AWP_block ?_
      | ((with_reducible first | refine AWP_reg fun KC J hJ hKC => ?_ | refine AWP_regD rfl fun KC J hJ hKC => ?_); simp (maxSteps := 10000000) only [push_cast, seval, ↓reduceIte, hlt])
      | ((with_reducible refine And.intro ?_ ?_); · first | trivial | omega | assumption | (simp; done) | (simp; omega))
      | first | (refine' hKC _ _ _ _ _ (callV0 (reach_fn _ _ _ _ ?_ ?_ ?_ ?_) rfl rfl rfl ?_ ?_); (rotate_left 8); (· (repeat' first | exact leF_nil | refine leD_tup ?_ | refine leF1_cons ?_ ?_ | exact leF1_nil | exact leD1_refl _ | refine leD1_agg ?_ | refine leF_cons ?_ ?_ | exact leD_refl _ | exact leD_nil | exact leD_any | exact .inl leD0_nil | exact leF_caps (by assumption) | exact leD_fn (by assumption) | refine leD_agg ?_ | refine leF0_cons ?_ ?_ | exact leF0_nil | exact leD0_refl _ | exact leD0_nil | exact leD0_any)); (rotate_left 1); (iterate 4 (· first | assumption | omega | trivial | (simp; done) | (simp; omega))); simp (maxSteps := 10000000) only [push_cast, seval, ↓reduceIte, hlt]) | (refine' hKC _ _ _ _ _ (callV0 (rCheck_fn _ _ _ _ ?_ ?_) rfl rfl rfl ?_ ?_); (rotate_left 6); (· (repeat' first | exact leF_nil | refine leD_tup ?_ | refine leF1_cons ?_ ?_ | exact leF1_nil | exact leD1_refl _ | refine leD1_agg ?_ | refine leF_cons ?_ ?_ | exact leD_refl _ | exact leD_nil | exact leD_any | exact .inl leD0_nil | exact leF_caps (by assumption) | exact leD_fn (by assumption) | refine leD_agg ?_ | refine leF0_cons ?_ ?_ | exact leF0_nil | exact leD0_refl _ | exact leD0_nil | exact leD0_any)); (rotate_left 1); (iterate 2 (· first | assumption | omega | trivial | (simp; done) | (simp; omega))); simp (maxSteps := 10000000) only [push_cast, seval, ↓reduceIte, hlt])
      | ((first | with_reducible refine hJ _ _ ?_ | (with_reducible refine hJ _ _ ?_ ?_; · kernel_rfl)); clear hJ hKC KC J)
      | ((with_reducible refine AWP_condT ?_ ?_); · rfl)
      | ((with_reducible refine AWP_condF ?_ ?_); · rfl)
      | ((with_reducible refine ite_intro (fun hs => ?_) (fun hs => ?_)) <;> (try simp only [Bool.not_eq_true, Bool.not_eq_false, Bool.not_eq_true', Bool.not_eq_false', Decidable.not_not, decide_eq_true_eq, decide_eq_false_iff_not] at hs) <;> (try simp (maxSteps := 10000000) only [push_cast, seval, ↓reduceIte, hs, hlt]))
      | (refine AWP_cond rfl (fun h => ?_) (fun h => ?_) <;> try simp only [decide_eq_true_eq, decide_eq_false_iff_not, Bool.not_eq_true', Bool.not_eq_false', beq_iff_eq, bne_iff_ne, ne_eq, Bool.not_eq_true, Bool.or_eq_true, Bool.and_eq_true, Bool.or_eq_false_iff, Bool.and_eq_false_imp, beq_eq_false_iff_ne, bne_eq_false_iff_eq] at h)
    refine AWP_loopF (γ := {b : Nat // b ≤ ns.length}) (fun b => ⟨[.sl false 1 (strRow ns), .sl g 2 (pRow l), .any, .any, .ptr 0 0 0, .v (.int .i64 ns.length), .any, .any, uD L, .v (.int .i64 a), fD (fromL b.1 a), .v (.int .i64 b.1), .any, .any, .any, .any, .any, .any, .any, .any, .any, .any, .any, .any, .any, .any, .any, .any, .any, .any, .any, .any, .any, .any, .any, .any, .any, .any, .any, .any, .any, .any, .any, .any, .any, .any, .any, .any, .any, .any, .any, .any, .any, .any, .any, .any, .any, .any, .any, .any, .any, .any, .any, .any, .any, .any, .any, .any, .any, .any, .any, .any, .any, .any, .any, .any, .any, .any, .any, .any, .any, .any, .any, .any, .any, .any, .any, .any, .any, .any, .any, .any, .any, .any, .any, .any, .any, .any, .any, .any, .any, .any, .any, .any, .any, .any, .any, .any], .ent ⟨0, none, 31, [.v (.slice none 0 0), .v (.slice none 0 0), .v (.int .i64 0)], .cells⟩ :: uS L :: fT (fromL b.1 a)⟩) (fun b => ns.length - b.1) ⟨0, by omega⟩ ⟨?_, ?_⟩ ?_
    · simp only [show fD (fromL 0 a) = .sl true 1 [] from rfl]
      repeat' first | exact leF_nil | refine leD_tup ?_ | refine leF1_cons ?_ ?_ | exact leF1_nil | exact leD1_refl _ | refine leD1_agg ?_ | refine leF_cons ?_ ?_ | exact leD_refl _ | exact leD_nil | exact leD_any | exact .inl leD0_nil | exact leF_caps (by assumption) | exact leD_fn (by assumption) | refine leD_agg ?_ | refine leF0_cons ?_ ?_ | exact leF0_nil | exact leD0_refl _ | exact leD0_nil | exact leD0_any
    · simp only [show fT (fromL 0 a) = [] from rfl]
      exact (by first | exact ⟨0, (List.append_nil _).symm⟩ | exact ⟨1, rfl⟩ | exact ⟨2, rfl⟩ | exact ⟨3, rfl⟩ | exact ⟨4, rfl⟩ | exact ⟨5, rfl⟩ | exact ⟨6, rfl⟩ | exact ⟨7, rfl⟩ | exact ⟨8, rfl⟩)
    · rintro ⟨b, hb⟩
      by_cases hlb : (b : Int) < (ns.length : Int)
      · have hab : ((a : Int) == (b : Int)) = decide (a = b) := by rw [Bool.eq_iff_iff]; simp; omega
        obtain ⟨q, hq⟩ : ∃ q, fromL b a = q := ⟨_, rfl⟩
        obtain ⟨x, hx⟩ : ∃ x, decide (a = b) = x := ⟨_, rfl⟩
        have hqs := fromL_succ b a
        have hql : q.length = b := by rw [← hq, fromL_length]
        rw [hq, hx] at hqs
        rw [hx] at hab
        obtain ⟨hD1, hT1⟩ := fD_app q x
        simp only [hq]
        rcases fCase q with ⟨hq0, hD, hT⟩ | ⟨j, hq0, hD, hT⟩
        · subst hq0
          have hb0 : b = 0 := by simpa using hql.symm
          subst hb0
          have hlb0 : (0 : Int) < ns.length := hlb
          have hab0 : ((a : Int) == 0) = x := hab
          repeat' first
            | with_reducible first | refine AWP_seq' ?_ | refine k_normal ?_ | refine k_ret ?_ | refine k_exit ?_ | refine b_normal ?_ | refine b_ret ?_ | refine b_exit ?_ | refine b_pass rfl ?_ | refine AWP_ret ?_ | refine AWP_skip ?_ | refine AWP_exit ?_ | refine AWP_block ?_
            | ((with_reducible first | refine AWP_reg fun KC J hJ hKC => ?_ | refine AWP_regD rfl fun KC J hJ hKC => ?_); simp (maxSteps := 10000000) only [push_cast, seval, ↓reduceIte, hlb0, hD, hT, hab0])
            | ((with_reducible refine And.intro ?_ ?_); · first | trivial | omega | assumption | (simp; done) | (simp; omega))
            | first | (refine' hKC _ _ _ _ _ (callV0 (reach_fn _ _ _ _ ?_ ?_ ?_ ?_) rfl rfl rfl ?_ ?_); (rotate_left 8); (· (repeat' first | exact leF_nil | refine leD_tup ?_ | refine leF1_cons ?_ ?_ | exact leF1_nil | exact leD1_refl _ | refine leD1_agg ?_ | refine leF_cons ?_ ?_ | exact leD_refl _ | exact leD_nil | exact leD_any | exact .inl leD0_nil | exact leF_caps (by assumption) | exact leD_fn (by assumption) | refine leD_agg ?_ | refine leF0_cons ?_ ?_ | exact leF0_nil | exact leD0_refl _ | exact leD0_nil | exact leD0_any)); (rotate_left 1); (iterate 4 (· first | assumption | omega | trivial | (simp; done) | (simp; omega))); simp (maxSteps := 10000000) only [push_cast, seval, ↓reduceIte, hlb0, hD, hT, hab0]) | (refine' hKC _ _ _ _ _ (callV0 (rCheck_fn _ _ _ _ ?_ ?_) rfl rfl rfl ?_ ?_); (rotate_left 6); (· (repeat' first | exact leF_nil | refine leD_tup ?_ | refine leF1_cons ?_ ?_ | exact leF1_nil | exact leD1_refl _ | refine leD1_agg ?_ | refine leF_cons ?_ ?_ | exact leD_refl _ | exact leD_nil | exact leD_any | exact .inl leD0_nil | exact leF_caps (by assumption) | exact leD_fn (by assumption) | refine leD_agg ?_ | refine leF0_cons ?_ ?_ | exact leF0_nil | exact leD0_refl _ | exact leD0_nil | exact leD0_any)); (rotate_left 1); (iterate 2 (· first | assumption | omega | trivial | (simp; done) | (simp; omega))); simp (maxSteps := 10000000) only [push_cast, seval, ↓reduceIte, hlb0, hD, hT, hab0])
            | ((first | with_reducible refine hJ _ _ ?_ | (with_reducible refine hJ _ _ ?_ ?_; · kernel_rfl)); clear hJ hKC KC J)
            | ((with_reducible refine AWP_condT ?_ ?_); · rfl)
            | ((with_reducible refine AWP_condF ?_ ?_); · rfl)
            | ((with_reducible refine ite_intro (fun hs => ?_) (fun hs => ?_)) <;> (try simp only [Bool.not_eq_true, Bool.not_eq_false, Bool.not_eq_true', Bool.not_eq_false', Decidable.not_not, decide_eq_true_eq, decide_eq_false_iff_not] at hs) <;> (try simp (maxSteps := 10000000) only [push_cast, seval, ↓reduceIte, hs, hlb0, hD, hT, hab0]))
            | (refine AWP_cond rfl (fun h => ?_) (fun h => ?_) <;> try simp only [decide_eq_true_eq, decide_eq_false_iff_not, Bool.not_eq_true', Bool.not_eq_false', beq_iff_eq, bne_iff_ne, ne_eq, Bool.not_eq_true, Bool.or_eq_true, Bool.and_eq_true, Bool.or_eq_false_iff, Bool.and_eq_false_imp, beq_eq_false_iff_ne, bne_eq_false_iff_eq] at h)
          refine ⟨⟨0 + 1, by omega⟩, by simp only; omega, ?_, ?_⟩
          · simp only [hqs, hD1]
            repeat' first | exact leF_nil | refine leD_tup ?_ | refine leF1_cons ?_ ?_ | exact leF1_nil | exact leD1_refl _ | refine leD1_agg ?_ | refine leF_cons ?_ ?_ | exact leD_refl _ | exact leD_nil | exact leD_any | exact .inl leD0_nil | exact leF_caps (by assumption) | exact leD_fn (by assumption) | refine leD_agg ?_ | refine leF0_cons ?_ ?_ | exact leF0_nil | exact leD0_refl _ | exact leD0_nil | exact leD0_any
          · simp only [hqs, hT1]
            exact (by first | exact ⟨0, (List.append_nil _).symm⟩ | exact ⟨1, rfl⟩ | exact ⟨2, rfl⟩ | exact ⟨3, rfl⟩ | exact ⟨4, rfl⟩ | exact ⟨5, rfl⟩ | exact ⟨6, rfl⟩ | exact ⟨7, rfl⟩ | exact ⟨8, rfl⟩)
        · have hlC : (cellB q).length = j + 1 := by rw [cellB_length, hq0]
          have htC := take_of hlC
          have htC' : (cellB q).take (j + 1) = cellB q := List.take_of_length_le (by omega)
          rw [hq0] at hD1 hT1
          repeat' first
            | with_reducible first | refine AWP_seq' ?_ | refine k_normal ?_ | refine k_ret ?_ | refine k_exit ?_ | refine b_normal ?_ | refine b_ret ?_ | refine b_exit ?_ | refine b_pass rfl ?_ | refine AWP_ret ?_ | refine AWP_skip ?_ | refine AWP_exit ?_ | refine AWP_block ?_
            | ((with_reducible first | refine AWP_reg fun KC J hJ hKC => ?_ | refine AWP_regD rfl fun KC J hJ hKC => ?_); simp (maxSteps := 10000000) only [push_cast, seval, ↓reduceIte, hlb, hD, hT, hab, hbm j, hlC, htC, htC', wrapN (i := b) (n := ns.length) (by omega) (by omega)])
            | ((with_reducible refine And.intro ?_ ?_); · first | trivial | omega | assumption | (simp; done) | (simp; omega))
            | first | (refine' hKC _ _ _ _ _ (callV0 (reach_fn _ _ _ _ ?_ ?_ ?_ ?_) rfl rfl rfl ?_ ?_); (rotate_left 8); (· (repeat' first | exact leF_nil | refine leD_tup ?_ | refine leF1_cons ?_ ?_ | exact leF1_nil | exact leD1_refl _ | refine leD1_agg ?_ | refine leF_cons ?_ ?_ | exact leD_refl _ | exact leD_nil | exact leD_any | exact .inl leD0_nil | exact leF_caps (by assumption) | exact leD_fn (by assumption) | refine leD_agg ?_ | refine leF0_cons ?_ ?_ | exact leF0_nil | exact leD0_refl _ | exact leD0_nil | exact leD0_any)); (rotate_left 1); (iterate 4 (· first | assumption | omega | trivial | (simp; done) | (simp; omega))); simp (maxSteps := 10000000) only [push_cast, seval, ↓reduceIte, hlb, hD, hT, hab, hbm j, hlC, htC, htC', wrapN (i := b) (n := ns.length) (by omega) (by omega)]) | (refine' hKC _ _ _ _ _ (callV0 (rCheck_fn _ _ _ _ ?_ ?_) rfl rfl rfl ?_ ?_); (rotate_left 6); (· (repeat' first | exact leF_nil | refine leD_tup ?_ | refine leF1_cons ?_ ?_ | exact leF1_nil | exact leD1_refl _ | refine leD1_agg ?_ | refine leF_cons ?_ ?_ | exact leD_refl _ | exact leD_nil | exact leD_any | exact .inl leD0_nil | exact leF_caps (by assumption) | exact leD_fn (by assumption) | refine leD_agg ?_ | refine leF0_cons ?_ ?_ | exact leF0_nil | exact leD0_refl _ | exact leD0_nil | exact leD0_any)); (rotate_left 1); (iterate 2 (· first | assumption | omega | trivial | (simp; done) | (simp; omega))); simp (maxSteps := 10000000) only [push_cast, seval, ↓reduceIte, hlb, hD, hT, hab, hbm j, hlC, htC, htC', wrapN (i := b) (n := ns.length) (by omega) (by omega)])
            | ((first | with_reducible refine hJ _ _ ?_ | (with_reducible refine hJ _ _ ?_ ?_; · kernel_rfl)); clear hJ hKC KC J)
            | ((with_reducible refine AWP_condT ?_ ?_); · rfl)
            | ((with_reducible refine AWP_condF ?_ ?_); · rfl)
            | ((with_reducible refine ite_intro (fun hs => ?_) (fun hs => ?_)) <;> (try simp only [Bool.not_eq_true, Bool.not_eq_false, Bool.not_eq_true', Bool.not_eq_false', Decidable.not_not, decide_eq_true_eq, decide_eq_false_iff_not] at hs) <;> (try simp (maxSteps := 10000000) only [push_cast, seval, ↓reduceIte, hs, hlb, hD, hT, hab, hbm j, hlC, htC, htC', wrapN (i := b) (n := ns.length) (by omega) (by omega)]))
            | (refine AWP_cond rfl (fun h => ?_) (fun h => ?_) <;> try simp only [decide_eq_true_eq, decide_eq_false_iff_not, Bool.not_eq_true', Bool.not_eq_false', beq_iff_eq, bne_iff_ne, ne_eq, Bool.not_eq_true, Bool.or_eq_true, Bool.and_eq_true, Bool.or_eq_false_iff, Bool.and_eq_false_imp, beq_eq_false_iff_ne, bne_eq_false_iff_eq] at h)
          refine ⟨⟨b + 1, by omega⟩, by simp only; omega, ?_, ?_⟩
          · simp only [hqs, hD1]
            repeat' first | exact leF_nil | refine leD_tup ?_ | refine leF1_cons ?_ ?_ | exact leF1_nil | exact leD1_refl _ | refine leD1_agg ?_ | refine leF_cons ?_ ?_ | exact leD_refl _ | exact leD_nil | exact leD_any | exact .inl leD0_nil | exact leF_caps (by assumption) | exact leD_fn (by assumption) | refine leD_agg ?_ | refine leF0_cons ?_ ?_ | exact leF0_nil | exact leD0_refl _ | exact leD0_nil | exact leD0_any
          · simp only [hqs, hT1]
            exact (by first | exact ⟨0, (List.append_nil _).symm⟩ | exact ⟨1, rfl⟩ | exact ⟨2, rfl⟩ | exact ⟨3, rfl⟩ | exact ⟨4, rfl⟩ | exact ⟨5, rfl⟩ | exact ⟨6, rfl⟩ | exact ⟨7, rfl⟩ | exact ⟨8, rfl⟩)
      have hbn : b = ns.length := by omega
      subst hbn
      clear hlb
      obtain ⟨q, hq⟩ : ∃ q, fromL ns.length a = q := ⟨_, rfl⟩
      have hql : q.length = ns.length := by rw [← hq, fromL_length]
      have hrp : ∀ b, b < ns.length → (passN (natE l) q ns.length).getD b false = reachB (natE l) a b := fun b hb => by rw [← hq]; exact reach_passN hes han hb
      have hrc := reach_fn false g l q (by rw [hql]; exact ho') (by omega) (by omega) hl
      rw [hql] at hrc
      have hrl : (passN (natE l) q ns.length).length = ns.length := by rw [passN_length, hql]
      obtain ⟨r, hr⟩ : ∃ r, passN (natE l) q ns.length = r := ⟨_, rfl⟩
      rw [hr] at hrc hrl hrp
      have hcB : chunk 1 ns.length (cellB q) = bRow q := by rw [← hql]; exact chunk_b q
      obtain ⟨p, hp⟩ : ∃ p, reachB (natE l) a = p := ⟨_, rfl⟩
      rw [hp] at hrp
      simp only [hq]
      rcases fCase q with ⟨hq0, hD, hT⟩ | ⟨j, hq0, hD, hT⟩
      · rw [hq0] at hql; simp at hql; omega
      have hjn : j + 1 = ns.length := by omega
      rw [hjn] at hD
      have hlC : (cellB q).length = ns.length := by rw [cellB_length, hql]
      repeat' first
        | (with_reducible refine hold 21 ?_) | (with_reducible refine hold1 21 ?_)
        | with_reducible first | refine AWP_seq' ?_ | refine k_normal ?_ | refine k_ret ?_ | refine k_exit ?_ | refine b_normal ?_ | refine b_ret ?_ | refine b_exit ?_ | refine b_pass rfl ?_ | refine AWP_ret ?_ | refine AWP_skip ?_ | refine AWP_exit ?_ | refine AWP_block ?_
        | ((with_reducible first | refine AWP_reg fun KC J hJ hKC => ?_ | refine AWP_regD rfl fun KC J hJ hKC => ?_); simp (maxSteps := 10000000) only [push_cast, seval, ↓reduceIte, (show ¬ (ns.length : Int) < (ns.length : Int) by omega), hD, hT])
        | ((with_reducible refine And.intro ?_ ?_); · first | trivial | omega | assumption | (simp; done) | (simp; omega))
        | first | (refine' hKC _ _ _ _ _ (callV0 (reach_fn _ _ _ _ ?_ ?_ ?_ ?_) rfl rfl rfl ?_ ?_); (rotate_left 8); (· (repeat' first | exact leF_nil | refine leD_tup ?_ | refine leF1_cons ?_ ?_ | exact leF1_nil | exact leD1_refl _ | refine leD1_agg ?_ | refine leF_cons ?_ ?_ | exact leD_refl _ | exact leD_nil | exact leD_any | exact .inl leD0_nil | exact leF_caps (by assumption) | exact leD_fn (by assumption) | refine leD_agg ?_ | refine leF0_cons ?_ ?_ | exact leF0_nil | exact leD0_refl _ | exact leD0_nil | exact leD0_any)); (rotate_left 1); (iterate 4 (· first | assumption | omega | trivial | (simp; done) | (simp; omega))); simp (maxSteps := 10000000) only [push_cast, seval, ↓reduceIte, (show ¬ (ns.length : Int) < (ns.length : Int) by omega), hD, hT]) | (refine' hKC _ _ _ _ _ (callV0 (rCheck_fn _ _ _ _ ?_ ?_) rfl rfl rfl ?_ ?_); (rotate_left 6); (· (repeat' first | exact leF_nil | refine leD_tup ?_ | refine leF1_cons ?_ ?_ | exact leF1_nil | exact leD1_refl _ | refine leD1_agg ?_ | refine leF_cons ?_ ?_ | exact leD_refl _ | exact leD_nil | exact leD_any | exact .inl leD0_nil | exact leF_caps (by assumption) | exact leD_fn (by assumption) | refine leD_agg ?_ | refine leF0_cons ?_ ?_ | exact leF0_nil | exact leD0_refl _ | exact leD0_nil | exact leD0_any)); (rotate_left 1); (iterate 2 (· first | assumption | omega | trivial | (simp; done) | (simp; omega))); simp (maxSteps := 10000000) only [push_cast, seval, ↓reduceIte, (show ¬ (ns.length : Int) < (ns.length : Int) by omega), hD, hT])
        | ((first | with_reducible refine hJ _ _ ?_ | (with_reducible refine hJ _ _ ?_ ?_; · kernel_rfl)); clear hJ hKC KC J)
        | ((with_reducible refine AWP_condT ?_ ?_); · rfl)
        | ((with_reducible refine AWP_condF ?_ ?_); · rfl)
        | ((with_reducible refine ite_intro (fun hs => ?_) (fun hs => ?_)) <;> (try simp only [Bool.not_eq_true, Bool.not_eq_false, Bool.not_eq_true', Bool.not_eq_false', Decidable.not_not, decide_eq_true_eq, decide_eq_false_iff_not] at hs) <;> (try simp (maxSteps := 10000000) only [push_cast, seval, ↓reduceIte, hs, (show ¬ (ns.length : Int) < (ns.length : Int) by omega), hD, hT]))
        | (refine AWP_cond rfl (fun h => ?_) (fun h => ?_) <;> try simp only [decide_eq_true_eq, decide_eq_false_iff_not, Bool.not_eq_true', Bool.not_eq_false', beq_iff_eq, bne_iff_ne, ne_eq, Bool.not_eq_true, Bool.or_eq_true, Bool.and_eq_true, Bool.or_eq_false_iff, Bool.and_eq_false_imp, beq_eq_false_iff_ne, bne_eq_false_iff_eq] at h)
      refine AWP_cut ⟨[.sl false 1 (strRow ns), .sl g 2 (pRow l), .any, .any, .ptr 0 0 0, .v (.int .i64 ns.length), .any, .any, uD L, .v (.int .i64 a), .ref 3 j ns.length, .any, .v (.int .i64 0), .any, .any, .any, .any, .any, .any, .any, .any, .any, .any, .any, .any, .any, .any, .any, .any, .any, .any, .any, .any, .any, .any, .any, .any, .any, .any, .any, .any, .any, .any, .any, .any, .any, .any, .any, .any, .any, .any, .any, .any, .any, .any, .any, .any, .any, .any, .any, .any, .any, .any, .any, .any, .any, .any, .any, .any, .any, .any, .any, .any, .any, .any, .any, .any, .any, .any, .any, .any, .any, .any, .any, .any, .any, .any, .any, .any, .any, .any, .any, .any, .any, .any, .any, .any, .any, .any, .any, .any, .any, .any, .any, .any, .any, .any, .any], [.ent ⟨0, none, 31, [.v (.slice none 0 0), .v (.slice none 0 0), .v (.int .i64 0)], .cells⟩, uS L, .free, .ent ⟨j, some 1, 4, cellB q, .cells⟩]⟩ ?_ ?_
      · skip
        repeat' first
          | with_reducible first | refine AWP_seq' ?_ | refine k_normal ?_ | refine k_ret ?_ | refine k_exit ?_ | refine b_normal ?_ | refine b_ret ?_ | refine b_exit ?_ | refine b_pass rfl ?_ | refine AWP_ret ?_ | refine AWP_skip ?_ | refine AWP_exit ?_ | refine AWP_block ?_
          | ((with_reducible first | refine AWP_reg fun KC J hJ hKC => ?_ | refine AWP_regD rfl fun KC J hJ hKC => ?_); simp (maxSteps := 10000000) only [push_cast, seval, ↓reduceIte])
          | ((with_reducible refine And.intro ?_ ?_); · first | trivial | omega | assumption | (simp; done) | (simp; omega))
          | first | (refine' hKC _ _ _ _ _ (callV0 (reach_fn _ _ _ _ ?_ ?_ ?_ ?_) rfl rfl rfl ?_ ?_); (rotate_left 8); (· (repeat' first | exact leF_nil | refine leD_tup ?_ | refine leF1_cons ?_ ?_ | exact leF1_nil | exact leD1_refl _ | refine leD1_agg ?_ | refine leF_cons ?_ ?_ | exact leD_refl _ | exact leD_nil | exact leD_any | exact .inl leD0_nil | exact leF_caps (by assumption) | exact leD_fn (by assumption) | refine leD_agg ?_ | refine leF0_cons ?_ ?_ | exact leF0_nil | exact leD0_refl _ | exact leD0_nil | exact leD0_any)); (rotate_left 1); (iterate 4 (· first | assumption | omega | trivial | (simp; done) | (simp; omega))); simp (maxSteps := 10000000) only [push_cast, seval, ↓reduceIte]) | (refine' hKC _ _ _ _ _ (callV0 (rCheck_fn _ _ _ _ ?_ ?_) rfl rfl rfl ?_ ?_); (rotate_left 6); (· (repeat' first | exact leF_nil | refine leD_tup ?_ | refine leF1_cons ?_ ?_ | exact leF1_nil | exact leD1_refl _ | refine leD1_agg ?_ | refine leF_cons ?_ ?_ | exact leD_refl _ | exact leD_nil | exact leD_any | exact .inl leD0_nil | exact leF_caps (by assumption) | exact leD_fn (by assumption) | refine leD_agg ?_ | refine leF0_cons ?_ ?_ | exact leF0_nil | exact leD0_refl _ | exact leD0_nil | exact leD0_any)); (rotate_left 1); (iterate 2 (· first | assumption | omega | trivial | (simp; done) | (simp; omega))); simp (maxSteps := 10000000) only [push_cast, seval, ↓reduceIte])
          | ((first | with_reducible refine hJ _ _ ?_ | (with_reducible refine hJ _ _ ?_ ?_; · kernel_rfl)); clear hJ hKC KC J)
          | ((with_reducible refine AWP_condT ?_ ?_); · rfl)
          | ((with_reducible refine AWP_condF ?_ ?_); · rfl)
          | ((with_reducible refine ite_intro (fun hs => ?_) (fun hs => ?_)) <;> (try simp only [Bool.not_eq_true, Bool.not_eq_false, Bool.not_eq_true', Bool.not_eq_false', Decidable.not_not, decide_eq_true_eq, decide_eq_false_iff_not] at hs) <;> (try simp (maxSteps := 10000000) only [push_cast, seval, ↓reduceIte, hs]))
          | (refine AWP_cond rfl (fun h => ?_) (fun h => ?_) <;> try simp only [decide_eq_true_eq, decide_eq_false_iff_not, Bool.not_eq_true', Bool.not_eq_false', beq_iff_eq, bne_iff_ne, ne_eq, Bool.not_eq_true, Bool.or_eq_true, Bool.and_eq_true, Bool.or_eq_false_iff, Bool.and_eq_false_imp, beq_eq_false_iff_ne, bne_eq_false_iff_eq] at h)
        (refine to_of ?_ (by first | exact ⟨0, (List.append_nil _).symm⟩ | exact ⟨1, rfl⟩ | exact ⟨2, rfl⟩ | exact ⟨3, rfl⟩ | exact ⟨4, rfl⟩ | exact ⟨5, rfl⟩ | exact ⟨6, rfl⟩ | exact ⟨7, rfl⟩ | exact ⟨8, rfl⟩); (· (repeat' first | exact leF_nil | refine leD_tup ?_ | refine leF1_cons ?_ ?_ | exact leF1_nil | exact leD1_refl _ | refine leD1_agg ?_ | refine leF_cons ?_ ?_ | exact leD_refl _ | exact leD_nil | exact leD_any | exact .inl leD0_nil | exact leF_caps (by assumption) | exact leD_fn (by assumption) | refine leD_agg ?_ | refine leF0_cons ?_ ?_ | exact leF0_nil | exact leD0_refl _ | exact leD0_nil | exact leD0_any)))
      refine AWP_seq' ?_
      refine hold1 22 ?_
      refine AWP_cut ⟨[.sl false 1 (strRow ns), .sl g 2 (pRow l), .any, .any, .ptr 0 0 0, .v (.int .i64 ns.length), .any, .any, uD L, .v (.int .i64 a), .any, .any, .v (.int .i64 0), .any, .any, .any, .any, .any, .any, .any, .any, .any, .any, .any, .any, .any, .any, .any, .any, .any, .any, .any, .any, .any, .any, .any, .any, .any, .any, .any, .any, .any, .any, .any, .any, .any, .any, .any, .any, .any, .any, .any, .any, .any, .any, .any, .any, .any, .any, .any, .any, .any, .any, .any, .any, .any, .any, .any, .any, .any, .any, .any, .any, .any, .any, .any, .any, .any, .sl false 1 (bRow r), .v (.int .i64 ns.length), .v (.int .i64 0), .any, .any, .any, .any, .any, .any, .any, .any, .any, .any, .any, .any, .any, .any, .any, .any, .any, .any, .any, .any, .any, .any, .any, .any, .any, .any, .any], [.ent ⟨0, none, 31, [.v (.slice none 0 0), .v (.slice none 0 0), .v (.int .i64 0)], .cells⟩, uS L, .free, .dead]⟩ ?_ ?_
      · rcases uCase L with ⟨hL0, hDu, hSu⟩ | ⟨j, hL0, hDu, hSu⟩
        all_goals
          repeat' first
            | (refine AWP_freezeR 22 3 rfl (by simp (maxSteps := 10000000) only [push_cast, seval, ↓reduceIte]) ?_; simp (maxSteps := 10000000) only [push_cast, seval, ↓reduceIte, frSt, frSlot, fr3, fr2, fr1, fr0, sameB, arrOf, hDu, hSu, hbm, hlC, hcB, hrl])
            | with_reducible first | refine AWP_seq' ?_ | refine k_normal ?_ | refine k_ret ?_ | refine k_exit ?_ | refine b_normal ?_ | refine b_ret ?_ | refine b_exit ?_ | refine b_pass rfl ?_ | refine AWP_ret ?_ | refine AWP_skip ?_ | refine AWP_exit ?_ | refine AWP_block ?_
            | ((with_reducible first | refine AWP_reg fun KC J hJ hKC => ?_ | refine AWP_regD rfl fun KC J hJ hKC => ?_); simp (maxSteps := 10000000) only [push_cast, seval, ↓reduceIte, hDu, hSu, hbm, hlC, hcB, hrl])
            | ((with_reducible refine And.intro ?_ ?_); · first | trivial | omega | assumption | (simp; done) | (simp; omega))
            | first | (refine' hKC _ _ _ _ _ (callV0 (reach_fn _ _ _ _ ?_ ?_ ?_ ?_) rfl rfl rfl ?_ ?_); (rotate_left 8); (· (repeat' first | exact leF_nil | refine leD_tup ?_ | refine leF1_cons ?_ ?_ | exact leF1_nil | exact leD1_refl _ | refine leD1_agg ?_ | refine leF_cons ?_ ?_ | exact leD_refl _ | exact leD_nil | exact leD_any | exact .inl leD0_nil | exact leF_caps (by assumption) | exact leD_fn (by assumption) | refine leD_agg ?_ | refine leF0_cons ?_ ?_ | exact leF0_nil | exact leD0_refl _ | exact leD0_nil | exact leD0_any)); (rotate_left 1); (iterate 4 (· first | assumption | omega | trivial | (simp; done) | (simp; omega))); simp (maxSteps := 10000000) only [push_cast, seval, ↓reduceIte, hDu, hSu, hbm, hlC, hcB, hrl]) | (refine' hKC _ _ _ _ _ (callV0 (rCheck_fn _ _ _ _ ?_ ?_) rfl rfl rfl ?_ ?_); (rotate_left 6); (· (repeat' first | exact leF_nil | refine leD_tup ?_ | refine leF1_cons ?_ ?_ | exact leF1_nil | exact leD1_refl _ | refine leD1_agg ?_ | refine leF_cons ?_ ?_ | exact leD_refl _ | exact leD_nil | exact leD_any | exact .inl leD0_nil | exact leF_caps (by assumption) | exact leD_fn (by assumption) | refine leD_agg ?_ | refine leF0_cons ?_ ?_ | exact leF0_nil | exact leD0_refl _ | exact leD0_nil | exact leD0_any)); (rotate_left 1); (iterate 2 (· first | assumption | omega | trivial | (simp; done) | (simp; omega))); simp (maxSteps := 10000000) only [push_cast, seval, ↓reduceIte, hDu, hSu, hbm, hlC, hcB, hrl]) | (refine hKC _ _ _ _ _ (callV0 (hrc) rfl rfl rfl ?_ ?_); (· (repeat' first | exact leF_nil | refine leD_tup ?_ | refine leF1_cons ?_ ?_ | exact leF1_nil | exact leD1_refl _ | refine leD1_agg ?_ | refine leF_cons ?_ ?_ | exact leD_refl _ | exact leD_nil | exact leD_any | exact .inl leD0_nil | exact leF_caps (by assumption) | exact leD_fn (by assumption) | refine leD_agg ?_ | refine leF0_cons ?_ ?_ | exact leF0_nil | exact leD0_refl _ | exact leD0_nil | exact leD0_any)); simp (maxSteps := 10000000) only [push_cast, seval, ↓reduceIte, hDu, hSu, hbm, hlC, hcB, hrl])
            | ((first | with_reducible refine hJ _ _ ?_ | (with_reducible refine hJ _ _ ?_ ?_; · kernel_rfl)); clear hJ hKC KC J)
            | ((with_reducible refine AWP_condT ?_ ?_); · rfl)
            | ((with_reducible refine AWP_condF ?_ ?_); · rfl)
            | ((with_reducible refine ite_intro (fun hs => ?_) (fun hs => ?_)) <;> (try simp only [Bool.not_eq_true, Bool.not_eq_false, Bool.not_eq_true', Bool.not_eq_false', Decidable.not_not, decide_eq_true_eq, decide_eq_false_iff_not] at hs) <;> (try simp (maxSteps := 10000000) only [push_cast, seval, ↓reduceIte, hs, hDu, hSu, hbm, hlC, hcB, hrl]))
            | (refine AWP_cond rfl (fun h => ?_) (fun h => ?_) <;> try simp only [decide_eq_true_eq, decide_eq_false_iff_not, Bool.not_eq_true', Bool.not_eq_false', beq_iff_eq, bne_iff_ne, ne_eq, Bool.not_eq_true, Bool.or_eq_true, Bool.and_eq_true, Bool.or_eq_false_iff, Bool.and_eq_false_imp, beq_eq_false_iff_ne, bne_eq_false_iff_eq] at h)
          try simp only [hDu, hSu]
          (refine to_of ?_ (by first | exact ⟨0, (List.append_nil _).symm⟩ | exact ⟨1, rfl⟩ | exact ⟨2, rfl⟩ | exact ⟨3, rfl⟩ | exact ⟨4, rfl⟩ | exact ⟨5, rfl⟩ | exact ⟨6, rfl⟩ | exact ⟨7, rfl⟩ | exact ⟨8, rfl⟩); (· (repeat' first | exact leF_nil | refine leD_tup ?_ | refine leF1_cons ?_ ?_ | exact leF1_nil | exact leD1_refl _ | refine leD1_agg ?_ | refine leF_cons ?_ ?_ | exact leD_refl _ | exact leD_nil | exact leD_any | exact .inl leD0_nil | exact leF_caps (by assumption) | exact leD_fn (by assumption) | refine leD_agg ?_ | refine leF0_cons ?_ ?_ | exact leF0_nil | exact leD0_refl _ | exact leD0_nil | exact leD0_any)))
      refine AWP_block ?_
      refine AWP_loopF (γ := {b : Nat // b ≤ ns.length}) (fun b => ⟨[.sl false 1 (strRow ns), .sl g 2 (pRow l), .any, .any, .ptr 0 0 0, .v (.int .i64 ns.length), .any, .any, uD L, .v (.int .i64 a), .any, .any, .v (.int .i64 (rowN p b.1 : Nat)), .any, .any, .any, .any, .any, .any, .any, .any, .any, .any, .any, .any, .any, .any, .any, .any, .any, .any, .any, .any, .any, .any, .any, .any, .any, .any, .any, .any, .any, .any, .any, .any, .any, .any, .any, .any, .any, .any, .any, .any, .any, .any, .any, .any, .any, .any, .any, .any, .any, .any, .any, .any, .any, .any, .any, .any, .any, .any, .any, .any, .any, .any, .any, .any, .any, .sl false 1 (bRow r), .v (.int .i64 ns.length), .v (.int .i64 b.1), .any, .any, .any, .any, .any, .any, .any, .any, .any, .any, .any, .any, .any, .any, .any, .any, .any, .any, .any, .any, .any, .any, .any, .any, .any, .any, .any], [.ent ⟨0, none, 31, [.v (.slice none 0 0), .v (.slice none 0 0), .v (.int .i64 0)], .cells⟩, uS L, .free, .dead]⟩) (fun b => ns.length - b.1) ⟨0, by omega⟩ ⟨?_, ?_⟩ ?_
      · simp only [rowN]
        repeat' first | exact leF_nil | refine leD_tup ?_ | refine leF1_cons ?_ ?_ | exact leF1_nil | exact leD1_refl _ | refine leD1_agg ?_ | refine leF_cons ?_ ?_ | exact leD_refl _ | exact leD_nil | exact leD_any | exact .inl leD0_nil | exact leF_caps (by assumption) | exact leD_fn (by assumption) | refine leD_agg ?_ | refine leF0_cons ?_ ?_ | exact leF0_nil | exact leD0_refl _ | exact leD0_nil | exact leD0_any
      · exact (by first | exact ⟨0, (List.append_nil _).symm⟩ | exact ⟨1, rfl⟩ | exact ⟨2, rfl⟩ | exact ⟨3, rfl⟩ | exact ⟨4, rfl⟩ | exact ⟨5, rfl⟩ | exact ⟨6, rfl⟩ | exact ⟨7, rfl⟩ | exact ⟨8, rfl⟩)
      rintro ⟨b, hb⟩
      have hp2 : 2 ^ ns.length ≤ 2 ^ 8 := Nat.pow_le_pow_right (by decide) hn8
      by_cases hlb : (b : Int) < (ns.length : Int)
      · have hbn : b < ns.length := by omega
        have hx : r[b]? = some (p b) := by rw [← hrp b hbn]; exact getD_of false (by omega)
        have hst := rowN_step p b
        have hrw := rowN_lt p b
        have hp8 := pow8 b (by omega)
        have hpf := power_fn b (by omega)
        obtain ⟨pw, hpw⟩ : ∃ pw, 2 ^ b = pw := ⟨_, rfl⟩
        rw [hpw] at hst hrw hp8 hpf
        obtain ⟨c, hc⟩ : ∃ c, rowN p b = c := ⟨_, rfl⟩
        rw [hc] at hst hrw
        obtain ⟨x, hpb⟩ : ∃ x, p b = x := ⟨_, rfl⟩
        rw [hpb] at hx hst
        simp only [hc]
        cases x with
        | true =>
          rw [if_pos rfl] at hst
          have hws : IntKind.i64.wrap ((c : Int) + (pw : Int)) = ((c + pw : Nat) : Int) := by rw [wrapI (by omega) (by omega)]; omega
          obtain ⟨sm, hsm⟩ : ∃ sm, c + pw = sm := ⟨_, rfl⟩
          rw [hsm] at hws hst
          repeat' first
            | with_reducible first | refine AWP_seq' ?_ | refine k_normal ?_ | refine k_ret ?_ | refine k_exit ?_ | refine b_normal ?_ | refine b_ret ?_ | refine b_exit ?_ | refine b_pass rfl ?_ | refine AWP_ret ?_ | refine AWP_skip ?_ | refine AWP_exit ?_ | refine AWP_block ?_
            | ((with_reducible first | refine AWP_reg fun KC J hJ hKC => ?_ | refine AWP_regD rfl fun KC J hJ hKC => ?_); simp (maxSteps := 10000000) only [push_cast, seval, ↓reduceIte, hlb, getE_b hx, hws, wrapN (i := b) (n := ns.length) (by omega) (by omega)])
            | ((with_reducible refine And.intro ?_ ?_); · first | trivial | omega | assumption | (simp; done) | (simp; omega))
            | first | (refine' hKC _ _ _ _ _ (callV0 (reach_fn _ _ _ _ ?_ ?_ ?_ ?_) rfl rfl rfl ?_ ?_); (rotate_left 8); (· (repeat' first | exact leF_nil | refine leD_tup ?_ | refine leF1_cons ?_ ?_ | exact leF1_nil | exact leD1_refl _ | refine leD1_agg ?_ | refine leF_cons ?_ ?_ | exact leD_refl _ | exact leD_nil | exact leD_any | exact .inl leD0_nil | exact leF_caps (by assumption) | exact leD_fn (by assumption) | refine leD_agg ?_ | refine leF0_cons ?_ ?_ | exact leF0_nil | exact leD0_refl _ | exact leD0_nil | exact leD0_any)); (rotate_left 1); (iterate 4 (· first | assumption | omega | trivial | (simp; done) | (simp; omega))); simp (maxSteps := 10000000) only [push_cast, seval, ↓reduceIte, hlb, getE_b hx, hws, wrapN (i := b) (n := ns.length) (by omega) (by omega)]) | (refine' hKC _ _ _ _ _ (callV0 (rCheck_fn _ _ _ _ ?_ ?_) rfl rfl rfl ?_ ?_); (rotate_left 6); (· (repeat' first | exact leF_nil | refine leD_tup ?_ | refine leF1_cons ?_ ?_ | exact leF1_nil | exact leD1_refl _ | refine leD1_agg ?_ | refine leF_cons ?_ ?_ | exact leD_refl _ | exact leD_nil | exact leD_any | exact .inl leD0_nil | exact leF_caps (by assumption) | exact leD_fn (by assumption) | refine leD_agg ?_ | refine leF0_cons ?_ ?_ | exact leF0_nil | exact leD0_refl _ | exact leD0_nil | exact leD0_any)); (rotate_left 1); (iterate 2 (· first | assumption | omega | trivial | (simp; done) | (simp; omega))); simp (maxSteps := 10000000) only [push_cast, seval, ↓reduceIte, hlb, getE_b hx, hws, wrapN (i := b) (n := ns.length) (by omega) (by omega)]) | (refine hKC _ _ _ _ _ (callV0 (hpf) rfl rfl rfl ?_ ?_); (· (repeat' first | exact leF_nil | refine leD_tup ?_ | refine leF1_cons ?_ ?_ | exact leF1_nil | exact leD1_refl _ | refine leD1_agg ?_ | refine leF_cons ?_ ?_ | exact leD_refl _ | exact leD_nil | exact leD_any | exact .inl leD0_nil | exact leF_caps (by assumption) | exact leD_fn (by assumption) | refine leD_agg ?_ | refine leF0_cons ?_ ?_ | exact leF0_nil | exact leD0_refl _ | exact leD0_nil | exact leD0_any)); simp (maxSteps := 10000000) only [push_cast, seval, ↓reduceIte, hlb, getE_b hx, hws, wrapN (i := b) (n := ns.length) (by omega) (by omega)])
            | ((first | with_reducible refine hJ _ _ ?_ | (with_reducible refine hJ _ _ ?_ ?_; · kernel_rfl)); clear hJ hKC KC J)
            | ((with_reducible refine AWP_condT ?_ ?_); · rfl)
            | ((with_reducible refine AWP_condF ?_ ?_); · rfl)
            | ((with_reducible refine ite_intro (fun hs => ?_) (fun hs => ?_)) <;> (try simp only [Bool.not_eq_true, Bool.not_eq_false, Bool.not_eq_true', Bool.not_eq_false', Decidable.not_not, decide_eq_true_eq, decide_eq_false_iff_not] at hs) <;> (try simp (maxSteps := 10000000) only [push_cast, seval, ↓reduceIte, hs, hlb, getE_b hx, hws, wrapN (i := b) (n := ns.length) (by omega) (by omega)]))
            | (refine AWP_cond rfl (fun h => ?_) (fun h => ?_) <;> try simp only [decide_eq_true_eq, decide_eq_false_iff_not, Bool.not_eq_true', Bool.not_eq_false', beq_iff_eq, bne_iff_ne, ne_eq, Bool.not_eq_true, Bool.or_eq_true, Bool.and_eq_true, Bool.or_eq_false_iff, Bool.and_eq_false_imp, beq_eq_false_iff_ne, bne_eq_false_iff_eq] at h)
          refine ⟨⟨b + 1, by omega⟩, by simp only; omega, ?_, ?_⟩
          · simp only [hst]
            repeat' first | exact leF_nil | refine leD_tup ?_ | refine leF1_cons ?_ ?_ | exact leF1_nil | exact leD1_refl _ | refine leD1_agg ?_ | refine leF_cons ?_ ?_ | exact leD_refl _ | exact leD_nil | exact leD_any | exact .inl leD0_nil | exact leF_caps (by assumption) | exact leD_fn (by assumption) | refine leD_agg ?_ | refine leF0_cons ?_ ?_ | exact leF0_nil | exact leD0_refl _ | exact leD0_nil | exact leD0_any
          · exact (by first | exact ⟨0, (List.append_nil _).symm⟩ | exact ⟨1, rfl⟩ | exact ⟨2, rfl⟩ | exact ⟨3, rfl⟩ | exact ⟨4, rfl⟩ | exact ⟨5, rfl⟩ | exact ⟨6, rfl⟩ | exact ⟨7, rfl⟩ | exact ⟨8, rfl⟩)
        | false =>
          rw [if_neg (by simp), Nat.add_zero] at hst
          repeat' first
            | with_reducible first | refine AWP_seq' ?_ | refine k_normal ?_ | refine k_ret ?_ | refine k_exit ?_ | refine b_normal ?_ | refine b_ret ?_ | refine b_exit ?_ | refine b_pass rfl ?_ | refine AWP_ret ?_ | refine AWP_skip ?_ | refine AWP_exit ?_ | refine AWP_block ?_
            | ((with_reducible first | refine AWP_reg fun KC J hJ hKC => ?_ | refine AWP_regD rfl fun KC J hJ hKC => ?_); simp (maxSteps := 10000000) only [push_cast, seval, ↓reduceIte, hlb, getE_b hx, wrapN (i := b) (n := ns.length) (by omega) (by omega)])
            | ((with_reducible refine And.intro ?_ ?_); · first | trivial | omega | assumption | (simp; done) | (simp; omega))
            | first | (refine' hKC _ _ _ _ _ (callV0 (reach_fn _ _ _ _ ?_ ?_ ?_ ?_) rfl rfl rfl ?_ ?_); (rotate_left 8); (· (repeat' first | exact leF_nil | refine leD_tup ?_ | refine leF1_cons ?_ ?_ | exact leF1_nil | exact leD1_refl _ | refine leD1_agg ?_ | refine leF_cons ?_ ?_ | exact leD_refl _ | exact leD_nil | exact leD_any | exact .inl leD0_nil | exact leF_caps (by assumption) | exact leD_fn (by assumption) | refine leD_agg ?_ | refine leF0_cons ?_ ?_ | exact leF0_nil | exact leD0_refl _ | exact leD0_nil | exact leD0_any)); (rotate_left 1); (iterate 4 (· first | assumption | omega | trivial | (simp; done) | (simp; omega))); simp (maxSteps := 10000000) only [push_cast, seval, ↓reduceIte, hlb, getE_b hx, wrapN (i := b) (n := ns.length) (by omega) (by omega)]) | (refine' hKC _ _ _ _ _ (callV0 (rCheck_fn _ _ _ _ ?_ ?_) rfl rfl rfl ?_ ?_); (rotate_left 6); (· (repeat' first | exact leF_nil | refine leD_tup ?_ | refine leF1_cons ?_ ?_ | exact leF1_nil | exact leD1_refl _ | refine leD1_agg ?_ | refine leF_cons ?_ ?_ | exact leD_refl _ | exact leD_nil | exact leD_any | exact .inl leD0_nil | exact leF_caps (by assumption) | exact leD_fn (by assumption) | refine leD_agg ?_ | refine leF0_cons ?_ ?_ | exact leF0_nil | exact leD0_refl _ | exact leD0_nil | exact leD0_any)); (rotate_left 1); (iterate 2 (· first | assumption | omega | trivial | (simp; done) | (simp; omega))); simp (maxSteps := 10000000) only [push_cast, seval, ↓reduceIte, hlb, getE_b hx, wrapN (i := b) (n := ns.length) (by omega) (by omega)])
            | ((first | with_reducible refine hJ _ _ ?_ | (with_reducible refine hJ _ _ ?_ ?_; · kernel_rfl)); clear hJ hKC KC J)
            | ((with_reducible refine AWP_condT ?_ ?_); · rfl)
            | ((with_reducible refine AWP_condF ?_ ?_); · rfl)
            | ((with_reducible refine ite_intro (fun hs => ?_) (fun hs => ?_)) <;> (try simp only [Bool.not_eq_true, Bool.not_eq_false, Bool.not_eq_true', Bool.not_eq_false', Decidable.not_not, decide_eq_true_eq, decide_eq_false_iff_not] at hs) <;> (try simp (maxSteps := 10000000) only [push_cast, seval, ↓reduceIte, hs, hlb, getE_b hx, wrapN (i := b) (n := ns.length) (by omega) (by omega)]))
            | (refine AWP_cond rfl (fun h => ?_) (fun h => ?_) <;> try simp only [decide_eq_true_eq, decide_eq_false_iff_not, Bool.not_eq_true', Bool.not_eq_false', beq_iff_eq, bne_iff_ne, ne_eq, Bool.not_eq_true, Bool.or_eq_true, Bool.and_eq_true, Bool.or_eq_false_iff, Bool.and_eq_false_imp, beq_eq_false_iff_ne, bne_eq_false_iff_eq] at h)
          refine ⟨⟨b + 1, by omega⟩, by simp only; omega, ?_, ?_⟩
          · simp only [hst]
            repeat' first | exact leF_nil | refine leD_tup ?_ | refine leF1_cons ?_ ?_ | exact leF1_nil | exact leD1_refl _ | refine leD1_agg ?_ | refine leF_cons ?_ ?_ | exact leD_refl _ | exact leD_nil | exact leD_any | exact .inl leD0_nil | exact leF_caps (by assumption) | exact leD_fn (by assumption) | refine leD_agg ?_ | refine leF0_cons ?_ ?_ | exact leF0_nil | exact leD0_refl _ | exact leD0_nil | exact leD0_any
          · exact (by first | exact ⟨0, (List.append_nil _).symm⟩ | exact ⟨1, rfl⟩ | exact ⟨2, rfl⟩ | exact ⟨3, rfl⟩ | exact ⟨4, rfl⟩ | exact ⟨5, rfl⟩ | exact ⟨6, rfl⟩ | exact ⟨7, rfl⟩ | exact ⟨8, rfl⟩)
      have hbn : b = ns.length := by omega
      subst hbn
      have hrw := rowN_lt p ns.length
      have hcv : IntKind.u32.wrap ((rowN p ns.length : Nat) : Int) = uv (rowN p ns.length) := wrap_u32 (by omega) (by omega)
      obtain ⟨c, hc⟩ : ∃ c, rowN p ns.length = c := ⟨_, rfl⟩
      simp only [hc] at hcv ⊢
      have hL1 : upsN (reachB (natE l)) ns.length (a + 1) = L ++ [c] := by rw [upsN, hL, hp, hc]
      obtain ⟨hD1, hS1⟩ := uD_app L c
      rcases uCase L with ⟨hL0, hD, hS⟩ | ⟨j, hL0, hD, hS⟩
      · subst hL0
        have ha0 : a = 0 := by simpa using hLa.symm
        subst ha0
        repeat' first
          | with_reducible first | refine AWP_seq' ?_ | refine k_normal ?_ | refine k_ret ?_ | refine k_exit ?_ | refine b_normal ?_ | refine b_ret ?_ | refine b_exit ?_ | refine b_pass rfl ?_ | refine AWP_ret ?_ | refine AWP_skip ?_ | refine AWP_exit ?_ | refine AWP_block ?_
          | ((with_reducible first | refine AWP_reg fun KC J hJ hKC => ?_ | refine AWP_regD rfl fun KC J hJ hKC => ?_); simp (maxSteps := 10000000) only [push_cast, seval, ↓reduceIte, hlb, hD, hS, hcv])
          | ((with_reducible refine And.intro ?_ ?_); · first | trivial | omega | assumption | (simp; done) | (simp; omega))
          | first | (refine' hKC _ _ _ _ _ (callV0 (reach_fn _ _ _ _ ?_ ?_ ?_ ?_) rfl rfl rfl ?_ ?_); (rotate_left 8); (· (repeat' first | exact leF_nil | refine leD_tup ?_ | refine leF1_cons ?_ ?_ | exact leF1_nil | exact leD1_refl _ | refine leD1_agg ?_ | refine leF_cons ?_ ?_ | exact leD_refl _ | exact leD_nil | exact leD_any | exact .inl leD0_nil | exact leF_caps (by assumption) | exact leD_fn (by assumption) | refine leD_agg ?_ | refine leF0_cons ?_ ?_ | exact leF0_nil | exact leD0_refl _ | exact leD0_nil | exact leD0_any)); (rotate_left 1); (iterate 4 (· first | assumption | omega | trivial | (simp; done) | (simp; omega))); simp (maxSteps := 10000000) only [push_cast, seval, ↓reduceIte, hlb, hD, hS, hcv]) | (refine' hKC _ _ _ _ _ (callV0 (rCheck_fn _ _ _ _ ?_ ?_) rfl rfl rfl ?_ ?_); (rotate_left 6); (· (repeat' first | exact leF_nil | refine leD_tup ?_ | refine leF1_cons ?_ ?_ | exact leF1_nil | exact leD1_refl _ | refine leD1_agg ?_ | refine leF_cons ?_ ?_ | exact leD_refl _ | exact leD_nil | exact leD_any | exact .inl leD0_nil | exact leF_caps (by assumption) | exact leD_fn (by assumption) | refine leD_agg ?_ | refine leF0_cons ?_ ?_ | exact leF0_nil | exact leD0_refl _ | exact leD0_nil | exact leD0_any)); (rotate_left 1); (iterate 2 (· first | assumption | omega | trivial | (simp; done) | (simp; omega))); simp (maxSteps := 10000000) only [push_cast, seval, ↓reduceIte, hlb, hD, hS, hcv])
          | ((first | with_reducible refine hJ _ _ ?_ | (with_reducible refine hJ _ _ ?_ ?_; · kernel_rfl)); clear hJ hKC KC J)
          | ((with_reducible refine AWP_condT ?_ ?_); · rfl)
          | ((with_reducible refine AWP_condF ?_ ?_); · rfl)
          | ((with_reducible refine ite_intro (fun hs => ?_) (fun hs => ?_)) <;> (try simp only [Bool.not_eq_true, Bool.not_eq_false, Bool.not_eq_true', Bool.not_eq_false', Decidable.not_not, decide_eq_true_eq, decide_eq_false_iff_not] at hs) <;> (try simp (maxSteps := 10000000) only [push_cast, seval, ↓reduceIte, hs, hlb, hD, hS, hcv]))
          | (refine AWP_cond rfl (fun h => ?_) (fun h => ?_) <;> try simp only [decide_eq_true_eq, decide_eq_false_iff_not, Bool.not_eq_true', Bool.not_eq_false', beq_iff_eq, bne_iff_ne, ne_eq, Bool.not_eq_true, Bool.or_eq_true, Bool.and_eq_true, Bool.or_eq_false_iff, Bool.and_eq_false_imp, beq_eq_false_iff_ne, bne_eq_false_iff_eq] at h)
        refine ⟨⟨0 + 1, by omega⟩, by simp only; omega, [0, 5], by decide, fun k hk => ?_, ?_, ?_⟩
        · simp at hk; subst hk; rfl
        · simp (maxSteps := 10000000) only [push_cast, seval, ↓reduceIte, hL1, hD1]
          repeat' first | exact leF_nil | refine leD_tup ?_ | refine leF1_cons ?_ ?_ | exact leF1_nil | exact leD1_refl _ | refine leD1_agg ?_ | refine leF_cons ?_ ?_ | exact leD_refl _ | exact leD_nil | exact leD_any | exact .inl leD0_nil | exact leF_caps (by assumption) | exact leD_fn (by assumption) | refine leD_agg ?_ | refine leF0_cons ?_ ?_ | exact leF0_nil | exact leD0_refl _ | exact leD0_nil | exact leD0_any
        · simp (maxSteps := 10000000) only [push_cast, seval, ↓reduceIte, hL1, hS1, pick, renSlot]
          exact leS_refl _
      · have hlU : (cellU L).length = j + 1 := by rw [cellU_length, hL0]
        have htU := take_of hlU
        have htU' : (cellU L).take (j + 1) = cellU L := List.take_of_length_le (by omega)
        rw [hL0] at hD1 hS1
        repeat' first
          | with_reducible first | refine AWP_seq' ?_ | refine k_normal ?_ | refine k_ret ?_ | refine k_exit ?_ | refine b_normal ?_ | refine b_ret ?_ | refine b_exit ?_ | refine b_pass rfl ?_ | refine AWP_ret ?_ | refine AWP_skip ?_ | refine AWP_exit ?_ | refine AWP_block ?_
          | ((with_reducible first | refine AWP_reg fun KC J hJ hKC => ?_ | refine AWP_regD rfl fun KC J hJ hKC => ?_); simp (maxSteps := 10000000) only [push_cast, seval, ↓reduceIte, hlb, hD, hS, hcv, hbm j, hlU, htU, htU', wrapN (i := a) (n := ns.length) (by omega) (by omega)])
          | ((with_reducible refine And.intro ?_ ?_); · first | trivial | omega | assumption | (simp; done) | (simp; omega))
          | first | (refine' hKC _ _ _ _ _ (callV0 (reach_fn _ _ _ _ ?_ ?_ ?_ ?_) rfl rfl rfl ?_ ?_); (rotate_left 8); (· (repeat' first | exact leF_nil | refine leD_tup ?_ | refine leF1_cons ?_ ?_ | exact leF1_nil | exact leD1_refl _ | refine leD1_agg ?_ | refine leF_cons ?_ ?_ | exact leD_refl _ | exact leD_nil | exact leD_any | exact .inl leD0_nil | exact leF_caps (by assumption) | exact leD_fn (by assumption) | refine leD_agg ?_ | refine leF0_cons ?_ ?_ | exact leF0_nil | exact leD0_refl _ | exact leD0_nil | exact leD0_any)); (rotate_left 1); (iterate 4 (· first | assumption | omega | trivial | (simp; done) | (simp; omega))); simp (maxSteps := 10000000) only [push_cast, seval, ↓reduceIte, hlb, hD, hS, hcv, hbm j, hlU, htU, htU', wrapN (i := a) (n := ns.length) (by omega) (by omega)]) | (refine' hKC _ _ _ _ _ (callV0 (rCheck_fn _ _ _ _ ?_ ?_) rfl rfl rfl ?_ ?_); (rotate_left 6); (· (repeat' first | exact leF_nil | refine leD_tup ?_ | refine leF1_cons ?_ ?_ | exact leF1_nil | exact leD1_refl _ | refine leD1_agg ?_ | refine leF_cons ?_ ?_ | exact leD_refl _ | exact leD_nil | exact leD_any | exact .inl leD0_nil | exact leF_caps (by assumption) | exact leD_fn (by assumption) | refine leD_agg ?_ | refine leF0_cons ?_ ?_ | exact leF0_nil | exact leD0_refl _ | exact leD0_nil | exact leD0_any)); (rotate_left 1); (iterate 2 (· first | assumption | omega | trivial | (simp; done) | (simp; omega))); simp (maxSteps := 10000000) only [push_cast, seval, ↓reduceIte, hlb, hD, hS, hcv, hbm j, hlU, htU, htU', wrapN (i := a) (n := ns.length) (by omega) (by omega)])
          | ((first | with_reducible refine hJ _ _ ?_ | (with_reducible refine hJ _ _ ?_ ?_; · kernel_rfl)); clear hJ hKC KC J)
          | ((with_reducible refine AWP_condT ?_ ?_); · rfl)
          | ((with_reducible refine AWP_condF ?_ ?_); · rfl)
          | ((with_reducible refine ite_intro (fun hs => ?_) (fun hs => ?_)) <;> (try simp only [Bool.not_eq_true, Bool.not_eq_false, Bool.not_eq_true', Bool.not_eq_false', Decidable.not_not, decide_eq_true_eq, decide_eq_false_iff_not] at hs) <;> (try simp (maxSteps := 10000000) only [push_cast, seval, ↓reduceIte, hs, hlb, hD, hS, hcv, hbm j, hlU, htU, htU', wrapN (i := a) (n := ns.length) (by omega) (by omega)]))
          | (refine AWP_cond rfl (fun h => ?_) (fun h => ?_) <;> try simp only [decide_eq_true_eq, decide_eq_false_iff_not, Bool.not_eq_true', Bool.not_eq_false', beq_iff_eq, bne_iff_ne, ne_eq, Bool.not_eq_true, Bool.or_eq_true, Bool.and_eq_true, Bool.or_eq_false_iff, Bool.and_eq_false_imp, beq_eq_false_iff_ne, bne_eq_false_iff_eq] at h)
        refine ⟨⟨a + 1, by omega⟩, by simp only; omega, [0, 1], by decide, fun k hk => ?_, ?_, ?_⟩
        · simp at hk; subst hk; rfl
        · simp (maxSteps := 10000000) only [push_cast, seval, ↓reduceIte, hL1, hD1]
          repeat' first | exact leF_nil | refine leD_tup ?_ | refine leF1_cons ?_ ?_ | exact leF1_nil | exact leD1_refl _ | refine leD1_agg ?_ | refine leF_cons ?_ ?_ | exact leD_refl _ | exact leD_nil | exact leD_any | exact .inl leD0_nil | exact leF_caps (by assumption) | exact leD_fn (by assumption) | refine leD_agg ?_ | refine leF0_cons ?_ ?_ | exact leF0_nil | exact leD0_refl _ | exact leD0_nil | exact leD0_any
        · simp (maxSteps := 10000000) only [push_cast, seval, ↓reduceIte, hL1, hS1, pick, renSlot, List.map_append, ren_cellU]
          exact leS_refl _
  have han : a = ns.length := by omega
  subst han
  have hLc : L = closU ns.length (natE l) := by rw [← hL]; rfl
  rw [← hLc]
  have hu : U32 L := by rw [← hL]; exact upsN_u32 _ hn8 _
  rcases uCase L with ⟨hL0, hD, hS⟩ | ⟨j, hL0, hD, hS⟩
  · rw [hL0] at hLa; simp at hLa; omega
  have hlU : (cellU L).length = j + 1 := by rw [cellU_length, hL0]
  have hcU : chunk 1 (j + 1) (cellU L) = u32Row L := by rw [← hL0]; exact chunk_u L
  by_cases hc : checkF ns L = 0
  · skip
    repeat' first
      | (refine AWP_freezeR 29 1 rfl (by simp (maxSteps := 10000000) only [push_cast, seval, ↓reduceIte]) ?_; simp (maxSteps := 10000000) only [push_cast, seval, ↓reduceIte, frSt, frSlot, fr3, fr2, fr1, fr0, sameB, arrOf, hlt, hD, hS, hbm j, hlU, hcU, hc])
      | with_reducible first | refine AWP_seq' ?_ | refine k_normal ?_ | refine k_ret ?_ | refine k_exit ?_ | refine b_normal ?_ | refine b_ret ?_ | refine b_exit ?_ | refine b_pass rfl ?_ | refine AWP_ret ?_ | refine AWP_skip ?_ | refine AWP_exit ?_ | refine AWP_block ?_
      | ((with_reducible first | refine AWP_reg fun KC J hJ hKC => ?_ | refine AWP_regD rfl fun KC J hJ hKC => ?_); simp (maxSteps := 10000000) only [push_cast, seval, ↓reduceIte, hlt, hD, hS, hbm j, hlU, hcU, hc])
      | ((with_reducible refine And.intro ?_ ?_); · first | trivial | omega | assumption | (simp; done) | (simp; omega))
      | first | (refine' hKC _ _ _ _ _ (callV0 (reach_fn _ _ _ _ ?_ ?_ ?_ ?_) rfl rfl rfl ?_ ?_); (rotate_left 8); (· (repeat' first | exact leF_nil | refine leD_tup ?_ | refine leF1_cons ?_ ?_ | exact leF1_nil | exact leD1_refl _ | refine leD1_agg ?_ | refine leF_cons ?_ ?_ | exact leD_refl _ | exact leD_nil | exact leD_any | exact .inl leD0_nil | exact leF_caps (by assumption) | exact leD_fn (by assumption) | refine leD_agg ?_ | refine leF0_cons ?_ ?_ | exact leF0_nil | exact leD0_refl _ | exact leD0_nil | exact leD0_any)); (rotate_left 1); (iterate 4 (· first | assumption | omega | trivial | (simp; done) | (simp; omega))); simp (maxSteps := 10000000) only [push_cast, seval, ↓reduceIte, hlt, hD, hS, hbm j, hlU, hcU, hc]) | (refine' hKC _ _ _ _ _ (callV0 (rCheck_fn _ _ _ _ ?_ ?_) rfl rfl rfl ?_ ?_); (rotate_left 6); (· (repeat' first | exact leF_nil | refine leD_tup ?_ | refine leF1_cons ?_ ?_ | exact leF1_nil | exact leD1_refl _ | refine leD1_agg ?_ | refine leF_cons ?_ ?_ | exact leD_refl _ | exact leD_nil | exact leD_any | exact .inl leD0_nil | exact leF_caps (by assumption) | exact leD_fn (by assumption) | refine leD_agg ?_ | refine leF0_cons ?_ ?_ | exact leF0_nil | exact leD0_refl _ | exact leD0_nil | exact leD0_any)); (rotate_left 1); (iterate 2 (· first | assumption | omega | trivial | (simp; done) | (simp; omega))); simp (maxSteps := 10000000) only [push_cast, seval, ↓reduceIte, hlt, hD, hS, hbm j, hlU, hcU, hc])
      | ((first | with_reducible refine hJ _ _ ?_ | (with_reducible refine hJ _ _ ?_ ?_; · kernel_rfl)); clear hJ hKC KC J)
      | ((with_reducible refine AWP_condT ?_ ?_); · rfl)
      | ((with_reducible refine AWP_condF ?_ ?_); · rfl)
      | ((with_reducible refine ite_intro (fun hs => ?_) (fun hs => ?_)) <;> (try simp only [Bool.not_eq_true, Bool.not_eq_false, Bool.not_eq_true', Bool.not_eq_false', Decidable.not_not, decide_eq_true_eq, decide_eq_false_iff_not] at hs) <;> (try simp (maxSteps := 10000000) only [push_cast, seval, ↓reduceIte, hs, hlt, hD, hS, hbm j, hlU, hcU, hc]))
      | (refine AWP_cond rfl (fun h => ?_) (fun h => ?_) <;> try simp only [decide_eq_true_eq, decide_eq_false_iff_not, Bool.not_eq_true', Bool.not_eq_false', beq_iff_eq, bne_iff_ne, ne_eq, Bool.not_eq_true, Bool.or_eq_true, Bool.and_eq_true, Bool.or_eq_false_iff, Bool.and_eq_false_imp, beq_eq_false_iff_ne, bne_eq_false_iff_eq] at h)
    refine ret_plain ?_
    simp (maxSteps := 10000000) only [push_cast, seval, ↓reduceIte, show Try.f47.results = #[(.cell 4 31)] from rfl]
    repeat' first | exact leF_nil | refine leD_tup ?_ | refine leF1_cons ?_ ?_ | exact leF1_nil | exact leD1_refl _ | refine leD1_agg ?_ | refine leF_cons ?_ ?_ | exact leD_refl _ | exact leD_nil | exact leD_any | exact .inl leD0_nil | exact leF_caps (by assumption) | exact leD_fn (by assumption) | refine leD_agg ?_ | refine leF0_cons ?_ ?_ | exact leF0_nil | exact leD0_refl _ | exact leD0_nil | exact leD0_any
  · have hc' : (checkF ns L != 0) = true := by simpa using hc
    repeat' first
      | (refine AWP_freezeR 29 1 rfl (by simp (maxSteps := 10000000) only [push_cast, seval, ↓reduceIte]) ?_; simp (maxSteps := 10000000) only [push_cast, seval, ↓reduceIte, frSt, frSlot, fr3, fr2, fr1, fr0, sameB, arrOf, hlt, hD, hS, hbm j, hlU, hcU, hc'])
      | with_reducible first | refine AWP_seq' ?_ | refine k_normal ?_ | refine k_ret ?_ | refine k_exit ?_ | refine b_normal ?_ | refine b_ret ?_ | refine b_exit ?_ | refine b_pass rfl ?_ | refine AWP_ret ?_ | refine AWP_skip ?_ | refine AWP_exit ?_ | refine AWP_block ?_
      | ((with_reducible first | refine AWP_reg fun KC J hJ hKC => ?_ | refine AWP_regD rfl fun KC J hJ hKC => ?_); simp (maxSteps := 10000000) only [push_cast, seval, ↓reduceIte, hlt, hD, hS, hbm j, hlU, hcU, hc'])
      | ((with_reducible refine And.intro ?_ ?_); · first | trivial | omega | assumption | (simp; done) | (simp; omega))
      | first | (refine' hKC _ _ _ _ _ (callV0 (reach_fn _ _ _ _ ?_ ?_ ?_ ?_) rfl rfl rfl ?_ ?_); (rotate_left 8); (· (repeat' first | exact leF_nil | refine leD_tup ?_ | refine leF1_cons ?_ ?_ | exact leF1_nil | exact leD1_refl _ | refine leD1_agg ?_ | refine leF_cons ?_ ?_ | exact leD_refl _ | exact leD_nil | exact leD_any | exact .inl leD0_nil | exact leF_caps (by assumption) | exact leD_fn (by assumption) | refine leD_agg ?_ | refine leF0_cons ?_ ?_ | exact leF0_nil | exact leD0_refl _ | exact leD0_nil | exact leD0_any)); (rotate_left 1); (iterate 4 (· first | assumption | omega | trivial | (simp; done) | (simp; omega))); simp (maxSteps := 10000000) only [push_cast, seval, ↓reduceIte, hlt, hD, hS, hbm j, hlU, hcU, hc']) | (refine' hKC _ _ _ _ _ (callV0 (rCheck_fn _ _ _ _ ?_ ?_) rfl rfl rfl ?_ ?_); (rotate_left 6); (· (repeat' first | exact leF_nil | refine leD_tup ?_ | refine leF1_cons ?_ ?_ | exact leF1_nil | exact leD1_refl _ | refine leD1_agg ?_ | refine leF_cons ?_ ?_ | exact leD_refl _ | exact leD_nil | exact leD_any | exact .inl leD0_nil | exact leF_caps (by assumption) | exact leD_fn (by assumption) | refine leD_agg ?_ | refine leF0_cons ?_ ?_ | exact leF0_nil | exact leD0_refl _ | exact leD0_nil | exact leD0_any)); (rotate_left 1); (iterate 2 (· first | assumption | omega | trivial | (simp; done) | (simp; omega))); simp (maxSteps := 10000000) only [push_cast, seval, ↓reduceIte, hlt, hD, hS, hbm j, hlU, hcU, hc'])
      | ((first | with_reducible refine hJ _ _ ?_ | (with_reducible refine hJ _ _ ?_ ?_; · kernel_rfl)); clear hJ hKC KC J)
      | ((with_reducible refine AWP_condT ?_ ?_); · rfl)
      | ((with_reducible refine AWP_condF ?_ ?_); · rfl)
      | ((with_reducible refine ite_intro (fun hs => ?_) (fun hs => ?_)) <;> (try simp only [Bool.not_eq_true, Bool.not_eq_false, Bool.not_eq_true', Bool.not_eq_false', Decidable.not_not, decide_eq_true_eq, decide_eq_false_iff_not] at hs) <;> (try simp (maxSteps := 10000000) only [push_cast, seval, ↓reduceIte, hs, hlt, hD, hS, hbm j, hlU, hcU, hc']))
      | (refine AWP_cond rfl (fun h => ?_) (fun h => ?_) <;> try simp only [decide_eq_true_eq, decide_eq_false_iff_not, Bool.not_eq_true', Bool.not_eq_false', beq_iff_eq, bne_iff_ne, ne_eq, Bool.not_eq_true, Bool.or_eq_true, Bool.and_eq_true, Bool.or_eq_false_iff, Bool.and_eq_false_imp, beq_eq_false_iff_ne, bne_eq_false_iff_eq] at h)
    refine ret_plain ?_
    simp (maxSteps := 10000000) only [push_cast, seval, ↓reduceIte, show Try.f47.results = #[(.cell 4 31)] from rfl, hc]
    repeat' first | exact leF_nil | refine leD_tup ?_ | refine leF1_cons ?_ ?_ | exact leF1_nil | exact leD1_refl _ | refine leD1_agg ?_ | refine leF_cons ?_ ?_ | exact leD_refl _ | exact leD_nil | exact leD_any | exact .inl leD0_nil | exact leF_caps (by assumption) | exact leD_fn (by assumption) | refine leD_agg ?_ | refine leF0_cons ?_ ?_ | exact leF0_nil | exact leD0_refl _ | exact leD0_nil | exact leD0_any
end Go.Proofs.Ytabliglgeiajlaa.AM
