/- Orders made: the code's way. -/
import Derived.Test.YtabliglgeiajlaaW1
set_option linter.unusedSimpArgs false
set_option linter.unusedVariables false
namespace Go.Proofs.Ytabliglgeiajlaa.AM
open Go Go.RowKit Go.Proofs
set_option maxRecDepth 100000
set_option maxHeartbeats 1000000

theorem ba_beq2 (a b : ByteArray) : (a == b) = decide (a = b) := by
  cases a with
  | mk x =>
    cases b with
    | mk y =>
      have : (({ data := x } : ByteArray) == { data := y }) = (x == y) := rfl
      rw [this, Bool.eq_iff_iff]
      simp
theorem uv_shl1 {b : Nat} (hb : b < 32) : ishl .u32 1 (b : Int) = uv (1 <<< b) := uv_shl (a := 1) (by decide) hb
def kindOf (s : ByteArray) : Option Kind := if s = sChain then some kChain else if s = sPower then some kPower else if s = sDiamond then some kDiamond else none
def nmB (i : Nat) : ByteArray := { data := #[UInt8.ofNat (97 + i)] }
def rowN (p : Nat → Bool) : Nat → Nat
  | 0 => 0
  | j + 1 => if p j = true then rowN p j ||| (1 <<< j) else rowN p j
theorem rowN_lt (p : Nat → Bool) (m : Nat) : rowN p m < 2 ^ m := by
  induction m with
  | zero => simp [rowN]
  | succ m ih =>
    have h2 : 2 ^ m < 2 ^ (m + 1) := Nat.pow_lt_pow_right (by decide) (by omega)
    simp only [rowN]
    split
    · exact Nat.or_lt_two_pow (by omega) (by rw [Nat.one_shiftLeft]; exact h2)
    · omega
def namesN : Nat → List ByteArray
  | 0 => []
  | i + 1 => namesN i ++ [nmB i]
def upsN (p : Nat → Nat → Bool) (m : Nat) : Nat → List Nat
  | 0 => []
  | i + 1 => upsN p m i ++ [rowN (p i) m]
theorem namesN_length (m : Nat) : (namesN m).length = m := by induction m with | zero => rfl | succ m ih => simp [namesN, ih]
theorem upsN_length (p : Nat → Nat → Bool) (m i : Nat) : (upsN p m i).length = i := by induction i with | zero => rfl | succ m ih => simp [upsN, ih]
def makeF (s : ByteArray) (n : Int) : List ByteArray × List Nat × Int :=
  match kindOf s with
  | none => ([], [], 6)
  | some k => if n < k.lo ∨ (k.hi : Int) < n then ([], [], 1) else (namesN (k.m n.toNat), upsN (k.p n.toNat) (k.m n.toNat) (k.m n.toNat), 0)
theorem enc_nm : ∀ i : Nat, i < 8 → Utf8.encode (IntKind.i32.wrap (97 + (i : Int))) = nmB i := by decide
def cellS (l : List ByteArray) : List D := l.map fun s => .v (.string s)
def cellU (l : List Nat) : List D := l.map fun n => .v (.int .u32 (uv n))
@[push_cast] theorem frz_cellS (l : List ByteArray) : frzAll (cellS l) = true := by induction l with | nil => rfl | cons a l ih => simpa [cellS, frzAll, frz, frz0] using ih
@[push_cast] theorem frz_cellU (l : List Nat) : frzAll (cellU l) = true := by induction l with | nil => rfl | cons a l ih => simpa [cellU, frzAll, frz, frz0] using ih
@[push_cast] theorem fr_cellU (k g sz : Nat) (c : List D) (l : List Nat) : (cellU l).map (fr1 k g sz c) = cellU l := by simp [cellU, fr1, fr0]
@[push_cast] theorem fr_cellS (k g sz : Nat) (c : List D) (l : List ByteArray) : (cellS l).map (fr1 k g sz c) = cellS l := by simp [cellS, fr1, fr0]
theorem take_of {l : List D} {n : Nat} (h : l.length = n) : l.take (n * 1) = l := by rw [Nat.mul_one]; exact List.take_of_length_le (by omega)
/-- The store of order.Make's loop, ahead of round i. -/
def mkσ (e1 e2 : Ent) (p : Nat → Nat → Bool) (m : Nat) : Nat → List Slot
  | 0 => [.ent ⟨0, none, 25, [.v (.slice none 0 0), .v (.slice none 0 0)], .cells⟩, .ent e1, .ent e2, .ent ⟨0, none, 25, [.v (.slice none 0 0), .v (.slice none 0 0)], .cells⟩]
  | i + 1 => [.ent ⟨0, none, 25, [.v (.slice none 0 0), .v (.slice none 0 0)], .cells⟩, .ent e1, .ent e2, .ent ⟨0, none, 25, [.ref 5 i (i + 1), .ref 7 i (i + 1)], .cells⟩, .free,
      .ent ⟨i, some 1, 9, cellS (namesN (i + 1)), .cells⟩, .free, .ent ⟨i, some 1, 143, cellU (upsN p m (i + 1)), .cells⟩]
section
variable (e1 e2 : Ent) (p : Nat → Nat → Bool) (m : Nat)
theorem mkσ_zero : mkσ e1 e2 p m 0 = [.ent ⟨0, none, 25, [.v (.slice none 0 0), .v (.slice none 0 0)], .cells⟩, .ent e1, .ent e2, .ent ⟨0, none, 25, [.v (.slice none 0 0), .v (.slice none 0 0)], .cells⟩] := rfl
theorem mkσ_pos {i j : Nat} (h : i = j + 1) : mkσ e1 e2 p m i = [.ent ⟨0, none, 25, [.v (.slice none 0 0), .v (.slice none 0 0)], .cells⟩, .ent e1, .ent e2, .ent ⟨0, none, 25, [.ref 5 j i, .ref 7 j i], .cells⟩, .free,
      .ent ⟨j, some 1, 9, cellS (namesN i), .cells⟩, .free, .ent ⟨j, some 1, 143, cellU (upsN p m i), .cells⟩] := by subst h; rfl
theorem mkσ_succ {i : Nat} (h : i = 0) : mkσ e1 e2 p m (i + 1) = [.ent ⟨0, none, 25, [.v (.slice none 0 0), .v (.slice none 0 0)], .cells⟩, .ent e1, .ent e2, .ent ⟨0, none, 25, [.ref 5 0 1, .ref 7 0 1], .cells⟩, .free,
      .ent ⟨0, some 1, 9, [.v (.string (nmB 0))], .cells⟩, .free, .ent ⟨0, some 1, 143, [.v (.int .u32 (uv (rowN (p 0) m)))], .cells⟩] := by subst h; rfl
theorem mkσ_succ' {i j : Nat} (h : i = j + 1) : mkσ e1 e2 p m (i + 1) = [.ent ⟨0, none, 25, [.v (.slice none 0 0), .v (.slice none 0 0)], .cells⟩, .ent e1, .ent e2, .ent ⟨0, none, 25, [.ref 5 (j + 1) (i + 1), .ref 7 (j + 1) (i + 1)], .cells⟩, .free,
      .ent ⟨j + 1, some 1, 9, cellS (namesN i) ++ [.v (.string (nmB i))], .cells⟩, .free, .ent ⟨j + 1, some 1, 143, cellU (upsN p m i) ++ [.v (.int .u32 (uv (rowN (p i) m)))], .cells⟩] := by
  subst h
  simp [mkσ, cellS, cellU, namesN, upsN]
end
theorem make_fn (s : ByteArray) (n : Int) : Fn Try.prog 20 [.v (.string s), .v (.int .i64 n)] [] (.tup [.agg [.sl false 1 (strRow (makeF s n).1), .sl false 1 (u32Row (makeF s n).2.1)], .v (.int .i64 (makeF s n).2.2)]) [] := by
  refine Fn.of (fn := Try.f20) (by kernel_rfl) rfl (by kernel_rfl) ⟨[.v (.string s), .v (.int .i64 n), .v undef, .v undef, .v undef, .v undef, .v undef, .v undef, .v undef, .v undef, .v undef, .v undef, .v undef, .v undef, .v undef, .v undef, .v undef, .v undef, .v undef, .v undef, .v undef, .v undef, .v undef, .v undef, .v undef, .v undef, .v undef, .v undef, .v undef, .v undef, .v undef, .v undef, .v undef, .v undef, .v undef, .v undef, .v undef, .v undef, .v undef, .v undef, .v undef, .v undef, .v undef, .v undef, .v undef, .v undef, .v undef, .v undef, .v undef, .v undef, .v undef, .v undef, .v undef, .v undef, .v undef, .v undef, .v undef, .v undef, .v undef, .v undef, .v undef, .v undef, .v undef, .v undef, .v undef, .v undef, .v undef, .v undef, .v undef, .v undef, .v undef, .v undef, .v undef, .v undef, .v undef], []⟩ rfl ?_
  by_cases hun : ¬ s = sChain ∧ ¬ s = sPower ∧ ¬ s = sDiamond
  · have h1 : (s == sChain) = false := by rw [ba_beq2]; exact decide_eq_false hun.1
    have h2 : (s == sPower) = false := by rw [ba_beq2]; exact decide_eq_false hun.2.1
    have h3 : (s == sDiamond) = false := by rw [ba_beq2]; exact decide_eq_false hun.2.2
    have e : makeF s n = ([], [], 6) := by simp [makeF, kindOf, hun]
    rw [e]
    repeat' first
      | with_reducible first | refine AWP_seq' ?_ | refine k_normal ?_ | refine k_ret ?_ | refine k_exit ?_ | refine b_normal ?_ | refine b_ret ?_ | refine b_exit ?_ | refine b_pass rfl ?_ | refine AWP_ret ?_ | refine AWP_skip ?_ | refine AWP_exit ?_ | refine AWP_block ?_
      | ((with_reducible first | refine AWP_reg fun KC J hJ hKC => ?_ | refine AWP_regD rfl fun KC J hJ hKC => ?_); simp (maxSteps := 10000000) only [push_cast, seval, ↓reduceIte, backOf, callSets, kindsE, renSlot, h1, h2, h3])
      | ((with_reducible refine And.intro ?_ ?_); · first | trivial | omega | assumption | (simp; done) | (simp; omega))
      | first | (refine' hKC _ _ _ _ _ (callV0 (kinds_fn) rfl rfl rfl ?_ ?_); (· (repeat' first | exact leF_nil | refine leD_tup ?_ | refine leF1_cons ?_ ?_ | exact leF1_nil | exact leD1_refl _ | refine leD1_agg ?_ | refine leF_cons ?_ ?_ | exact leD_refl _ | exact leD_nil | exact leD_any | exact .inl leD0_nil | exact leF_caps (by assumption) | exact leD_fn (by assumption) | refine leD_agg ?_ | refine leF0_cons ?_ ?_ | exact leF0_nil | exact leD0_refl _ | exact leD0_nil | exact leD0_any)); simp (maxSteps := 10000000) only [push_cast, seval, ↓reduceIte, backOf, callSets, kindsE, renSlot, h1, h2, h3]) | (refine hKC _ _ _ _ _ (callN [] kinds_fn rfl rfl rfl (by simp) (fun _ h => by cases h) rfl rfl rfl leF_nil ?_); simp (maxSteps := 10000000) only [push_cast, seval, ↓reduceIte, backOf, callSets, kindsE, renSlot, h1, h2, h3])
      | ((first | with_reducible refine hJ _ _ ?_ | (with_reducible refine hJ _ _ ?_ ?_; · kernel_rfl)); clear hJ hKC KC J)
      | ((with_reducible refine AWP_condT ?_ ?_); · rfl)
      | ((with_reducible refine AWP_condF ?_ ?_); · rfl)
      | ((with_reducible refine ite_intro (fun hs => ?_) (fun hs => ?_)) <;> (try simp only [Bool.not_eq_true, Bool.not_eq_false, Bool.not_eq_true', Bool.not_eq_false', Decidable.not_not, decide_eq_true_eq, decide_eq_false_iff_not] at hs) <;> (try simp (maxSteps := 10000000) only [push_cast, seval, ↓reduceIte, hs, backOf, callSets, kindsE, renSlot, h1, h2, h3]))
      | (refine AWP_cond rfl (fun h => ?_) (fun h => ?_) <;> try simp only [decide_eq_true_eq, decide_eq_false_iff_not, Bool.not_eq_true', Bool.not_eq_false', beq_iff_eq, bne_iff_ne, ne_eq, Bool.not_eq_true, Bool.or_eq_true, Bool.and_eq_true, Bool.or_eq_false_iff, Bool.and_eq_false_imp, beq_eq_false_iff_ne, bne_eq_false_iff_eq] at h)
    refine ret_plain ?_
    simp (maxSteps := 10000000) only [push_cast, seval, ↓reduceIte, show Try.f20.results = #[(.cell 4 25), (.tmp 5)] from rfl]
    repeat' first | exact leF_nil | refine leD_tup ?_ | refine leF1_cons ?_ ?_ | exact leF1_nil | exact leD1_refl _ | refine leD1_agg ?_ | refine leF_cons ?_ ?_ | exact leD_refl _ | exact leD_nil | exact leD_any | exact .inl leD0_nil | exact leF_caps (by assumption) | exact leD_fn (by assumption) | refine leD_agg ?_ | refine leF0_cons ?_ ?_ | exact leF0_nil | exact leD0_refl _ | exact leD0_nil | exact leD0_any
  obtain ⟨k, hk, hok, hfd⟩ : ∃ k, kindOf s = some k ∧ KindOk k ∧ ((s = sChain ∧ k = kChain) ∨ (s = sPower ∧ k = kPower) ∨ (s = sDiamond ∧ k = kDiamond)) := by
    by_cases h1 : s = sChain
    · exact ⟨kChain, by simp [kindOf, h1], kChain_ok, .inl ⟨h1, rfl⟩⟩
    by_cases h2 : s = sPower
    · exact ⟨kPower, by rw [kindOf, if_neg h1, if_pos h2], kPower_ok, .inr (.inl ⟨h2, rfl⟩)⟩
    by_cases h3 : s = sDiamond
    · exact ⟨kDiamond, by rw [kindOf, if_neg h1, if_neg h2, if_pos h3], kDiamond_ok, .inr (.inr ⟨h3, rfl⟩)⟩
    · exact absurd ⟨h1, h2, h3⟩ hun
  have hK : findD .string (.string s) [.string sChain, .string sPower, .string sDiamond] kindsE.cells = some (some (.agg [.v (.int .i64 (k.lo : Int)), .v (.int .i64 (k.hi : Int)), .fn k.fs [], .fn k.ff []])) := by
    rcases hfd with ⟨rfl, rfl⟩ | ⟨rfl, rfl⟩ | ⟨rfl, rfl⟩ <;> rfl
  have hE : makeF s n = if n < k.lo ∨ (k.hi : Int) < n then ([], [], 1) else (namesN (k.m n.toNat), upsN (k.p n.toNat) (k.m n.toNat) (k.m n.toNat), 0) := by rw [makeF, hk]
  rw [hE]
  have q1 : renSlot (backOf [1]) (.ent kindsE) = .ent kindsE := rfl
  have q2 : kindsE.kd = .map [.string sChain, .string sPower, .string sDiamond] := rfl
  have q3 : kindsE.gen = 0 := rfl
  by_cases hr : n < k.lo ∨ (k.hi : Int) < n
  · rw [if_pos hr]
    by_cases hr1 : n < k.lo
    · skip
      repeat' first
        | with_reducible first | refine AWP_seq' ?_ | refine k_normal ?_ | refine k_ret ?_ | refine k_exit ?_ | refine b_normal ?_ | refine b_ret ?_ | refine b_exit ?_ | refine b_pass rfl ?_ | refine AWP_ret ?_ | refine AWP_skip ?_ | refine AWP_exit ?_ | refine AWP_block ?_
        | ((with_reducible first | refine AWP_reg fun KC J hJ hKC => ?_ | refine AWP_regD rfl fun KC J hJ hKC => ?_); simp (maxSteps := 10000000) only [push_cast, seval, ↓reduceIte, backOf, callSets, q1, q2, q3, hK, hr1, undef])
        | ((with_reducible refine And.intro ?_ ?_); · first | trivial | omega | assumption | (simp; done) | (simp; omega))
        | first | (refine' hKC _ _ _ _ _ (callV0 (kinds_fn) rfl rfl rfl ?_ ?_); (· (repeat' first | exact leF_nil | refine leD_tup ?_ | refine leF1_cons ?_ ?_ | exact leF1_nil | exact leD1_refl _ | refine leD1_agg ?_ | refine leF_cons ?_ ?_ | exact leD_refl _ | exact leD_nil | exact leD_any | exact .inl leD0_nil | exact leF_caps (by assumption) | exact leD_fn (by assumption) | refine leD_agg ?_ | refine leF0_cons ?_ ?_ | exact leF0_nil | exact leD0_refl _ | exact leD0_nil | exact leD0_any)); simp (maxSteps := 10000000) only [push_cast, seval, ↓reduceIte, backOf, callSets, q1, q2, q3, hK, hr1, undef]) | (refine hKC _ _ _ _ _ (callN [] kinds_fn rfl rfl rfl (by simp) (fun _ h => by cases h) rfl rfl rfl leF_nil ?_); simp (maxSteps := 10000000) only [push_cast, seval, ↓reduceIte, backOf, callSets, q1, q2, q3, hK, hr1, undef])
        | ((first | with_reducible refine hJ _ _ ?_ | (with_reducible refine hJ _ _ ?_ ?_; · kernel_rfl)); clear hJ hKC KC J)
        | ((with_reducible refine AWP_condT ?_ ?_); · rfl)
        | ((with_reducible refine AWP_condF ?_ ?_); · rfl)
        | ((with_reducible refine ite_intro (fun hs => ?_) (fun hs => ?_)) <;> (try simp only [Bool.not_eq_true, Bool.not_eq_false, Bool.not_eq_true', Bool.not_eq_false', Decidable.not_not, decide_eq_true_eq, decide_eq_false_iff_not] at hs) <;> (try simp (maxSteps := 10000000) only [push_cast, seval, ↓reduceIte, hs, backOf, callSets, q1, q2, q3, hK, hr1, undef]))
        | (refine AWP_cond rfl (fun h => ?_) (fun h => ?_) <;> try simp only [decide_eq_true_eq, decide_eq_false_iff_not, Bool.not_eq_true', Bool.not_eq_false', beq_iff_eq, bne_iff_ne, ne_eq, Bool.not_eq_true, Bool.or_eq_true, Bool.and_eq_true, Bool.or_eq_false_iff, Bool.and_eq_false_imp, beq_eq_false_iff_ne, bne_eq_false_iff_eq] at h)
      refine ret_plain ?_
      simp (maxSteps := 10000000) only [push_cast, seval, ↓reduceIte, show Try.f20.results = #[(.cell 4 25), (.tmp 5)] from rfl]
      repeat' first | exact leF_nil | refine leD_tup ?_ | refine leF1_cons ?_ ?_ | exact leF1_nil | exact leD1_refl _ | refine leD1_agg ?_ | refine leF_cons ?_ ?_ | exact leD_refl _ | exact leD_nil | exact leD_any | exact .inl leD0_nil | exact leF_caps (by assumption) | exact leD_fn (by assumption) | refine leD_agg ?_ | refine leF0_cons ?_ ?_ | exact leF0_nil | exact leD0_refl _ | exact leD0_nil | exact leD0_any
    · have hr2 : (k.hi : Int) < n := by omega
      repeat' first
        | with_reducible first | refine AWP_seq' ?_ | refine k_normal ?_ | refine k_ret ?_ | refine k_exit ?_ | refine b_normal ?_ | refine b_ret ?_ | refine b_exit ?_ | refine b_pass rfl ?_ | refine AWP_ret ?_ | refine AWP_skip ?_ | refine AWP_exit ?_ | refine AWP_block ?_
        | ((with_reducible first | refine AWP_reg fun KC J hJ hKC => ?_ | refine AWP_regD rfl fun KC J hJ hKC => ?_); simp (maxSteps := 10000000) only [push_cast, seval, ↓reduceIte, backOf, callSets, q1, q2, q3, hK, hr1, hr2])
        | ((with_reducible refine And.intro ?_ ?_); · first | trivial | omega | assumption | (simp; done) | (simp; omega))
        | first | (refine' hKC _ _ _ _ _ (callV0 (kinds_fn) rfl rfl rfl ?_ ?_); (· (repeat' first | exact leF_nil | refine leD_tup ?_ | refine leF1_cons ?_ ?_ | exact leF1_nil | exact leD1_refl _ | refine leD1_agg ?_ | refine leF_cons ?_ ?_ | exact leD_refl _ | exact leD_nil | exact leD_any | exact .inl leD0_nil | exact leF_caps (by assumption) | exact leD_fn (by assumption) | refine leD_agg ?_ | refine leF0_cons ?_ ?_ | exact leF0_nil | exact leD0_refl _ | exact leD0_nil | exact leD0_any)); simp (maxSteps := 10000000) only [push_cast, seval, ↓reduceIte, backOf, callSets, q1, q2, q3, hK, hr1, hr2]) | (refine hKC _ _ _ _ _ (callN [] kinds_fn rfl rfl rfl (by simp) (fun _ h => by cases h) rfl rfl rfl leF_nil ?_); simp (maxSteps := 10000000) only [push_cast, seval, ↓reduceIte, backOf, callSets, q1, q2, q3, hK, hr1, hr2])
        | ((first | with_reducible refine hJ _ _ ?_ | (with_reducible refine hJ _ _ ?_ ?_; · kernel_rfl)); clear hJ hKC KC J)
        | ((with_reducible refine AWP_condT ?_ ?_); · rfl)
        | ((with_reducible refine AWP_condF ?_ ?_); · rfl)
        | ((with_reducible refine ite_intro (fun hs => ?_) (fun hs => ?_)) <;> (try simp only [Bool.not_eq_true, Bool.not_eq_false, Bool.not_eq_true', Bool.not_eq_false', Decidable.not_not, decide_eq_true_eq, decide_eq_false_iff_not] at hs) <;> (try simp (maxSteps := 10000000) only [push_cast, seval, ↓reduceIte, hs, backOf, callSets, q1, q2, q3, hK, hr1, hr2]))
        | (refine AWP_cond rfl (fun h => ?_) (fun h => ?_) <;> try simp only [decide_eq_true_eq, decide_eq_false_iff_not, Bool.not_eq_true', Bool.not_eq_false', beq_iff_eq, bne_iff_ne, ne_eq, Bool.not_eq_true, Bool.or_eq_true, Bool.and_eq_true, Bool.or_eq_false_iff, Bool.and_eq_false_imp, beq_eq_false_iff_ne, bne_eq_false_iff_eq] at h)
      refine ret_plain ?_
      simp (maxSteps := 10000000) only [push_cast, seval, ↓reduceIte, show Try.f20.results = #[(.cell 4 25), (.tmp 5)] from rfl]
      repeat' first | exact leF_nil | refine leD_tup ?_ | refine leF1_cons ?_ ?_ | exact leF1_nil | exact leD1_refl _ | refine leD1_agg ?_ | refine leF_cons ?_ ?_ | exact leD_refl _ | exact leD_nil | exact leD_any | exact .inl leD0_nil | exact leF_caps (by assumption) | exact leD_fn (by assumption) | refine leD_agg ?_ | refine leF0_cons ?_ ?_ | exact leF0_nil | exact leD0_refl _ | exact leD0_nil | exact leD0_any
  have hr1 : ¬ n < k.lo := fun h => hr (.inl h)
  have hr2 : ¬ (k.hi : Int) < n := fun h => hr (.inr h)
  obtain ⟨w, rfl⟩ : ∃ w : Nat, n = w := ⟨n.toNat, by omega⟩
  have hw1 : k.lo ≤ w := by omega
  have hw2 : w ≤ k.hi := by omega
  rw [if_neg hr, Int.toNat_natCast]
  have hfs := hok.fs w hw1 hw2
  have hff := hok.ff w
  obtain ⟨hm1, hm8⟩ := hok.le w hw1 hw2
  obtain ⟨p, hp⟩ : ∃ p, k.p w = p := ⟨_, rfl⟩
  obtain ⟨m, hm⟩ : ∃ m, k.m w = m := ⟨_, rfl⟩
  rw [hm] at hfs hm1 hm8
  rw [hm, hp]
  repeat' first
    | with_reducible first | refine AWP_seq' ?_ | refine k_normal ?_ | refine k_ret ?_ | refine k_exit ?_ | refine b_normal ?_ | refine b_ret ?_ | refine b_exit ?_ | refine b_pass rfl ?_ | refine AWP_ret ?_ | refine AWP_skip ?_ | refine AWP_exit ?_ | refine AWP_block ?_
    | ((with_reducible first | refine AWP_reg fun KC J hJ hKC => ?_ | refine AWP_regD rfl fun KC J hJ hKC => ?_); simp (maxSteps := 10000000) only [push_cast, seval, ↓reduceIte, backOf, callSets, q1, q2, q3, hK, hr1, hr2])
    | ((with_reducible refine And.intro ?_ ?_); · first | trivial | omega | assumption | (simp; done) | (simp; omega))
    | first | (refine' hKC _ _ _ _ _ (callV0 (kinds_fn) rfl rfl rfl ?_ ?_); (· (repeat' first | exact leF_nil | refine leD_tup ?_ | refine leF1_cons ?_ ?_ | exact leF1_nil | exact leD1_refl _ | refine leD1_agg ?_ | refine leF_cons ?_ ?_ | exact leD_refl _ | exact leD_nil | exact leD_any | exact .inl leD0_nil | exact leF_caps (by assumption) | exact leD_fn (by assumption) | refine leD_agg ?_ | refine leF0_cons ?_ ?_ | exact leF0_nil | exact leD0_refl _ | exact leD0_nil | exact leD0_any)); simp (maxSteps := 10000000) only [push_cast, seval, ↓reduceIte, backOf, callSets, q1, q2, q3, hK, hr1, hr2]) | (refine hKC _ _ _ _ _ (callN [] kinds_fn rfl rfl rfl (by simp) (fun _ h => by cases h) rfl rfl rfl leF_nil ?_); simp (maxSteps := 10000000) only [push_cast, seval, ↓reduceIte, backOf, callSets, q1, q2, q3, hK, hr1, hr2]) | (refine hKC _ _ _ _ _ (callV0 (hfs) rfl rfl rfl ?_ ?_); (· (repeat' first | exact leF_nil | refine leD_tup ?_ | refine leF1_cons ?_ ?_ | exact leF1_nil | exact leD1_refl _ | refine leD1_agg ?_ | refine leF_cons ?_ ?_ | exact leD_refl _ | exact leD_nil | exact leD_any | exact .inl leD0_nil | exact leF_caps (by assumption) | exact leD_fn (by assumption) | refine leD_agg ?_ | refine leF0_cons ?_ ?_ | exact leF0_nil | exact leD0_refl _ | exact leD0_nil | exact leD0_any)); simp (maxSteps := 10000000) only [push_cast, seval, ↓reduceIte, backOf, callSets, q1, q2, q3, hK, hr1, hr2])
    | ((first | with_reducible refine hJ _ _ ?_ | (with_reducible refine hJ _ _ ?_ ?_; · kernel_rfl)); clear hJ hKC KC J)
    | ((with_reducible refine AWP_condT ?_ ?_); · rfl)
    | ((with_reducible refine AWP_condF ?_ ?_); · rfl)
    | ((with_reducible refine ite_intro (fun hs => ?_) (fun hs => ?_)) <;> (try simp only [Bool.not_eq_true, Bool.not_eq_false, Bool.not_eq_true', Bool.not_eq_false', Decidable.not_not, decide_eq_true_eq, decide_eq_false_iff_not] at hs) <;> (try simp (maxSteps := 10000000) only [push_cast, seval, ↓reduceIte, hs, backOf, callSets, q1, q2, q3, hK, hr1, hr2]))
    | (refine AWP_cond rfl (fun h => ?_) (fun h => ?_) <;> try simp only [decide_eq_true_eq, decide_eq_false_iff_not, Bool.not_eq_true', Bool.not_eq_false', beq_iff_eq, bne_iff_ne, ne_eq, Bool.not_eq_true, Bool.or_eq_true, Bool.and_eq_true, Bool.or_eq_false_iff, Bool.and_eq_false_imp, beq_eq_false_iff_ne, bne_eq_false_iff_eq] at h)
  refine AWP_loopF (γ := {i : Nat // i ≤ m}) (fun i => ⟨[.any, .v (.int .i64 (w : Int)), .any, .any, .ptr 0 0 0, .any, .ptr 2 0 0, .any, .ptr 3 0 0, .v (.int .i64 m), .any, .any, .any, .any, .any, .any, .any, .any, .any, .any, .any, .any, .any, .any, .any, .any, .any, .any, .any, .any, .any, .any, .any, .any, .any, .any, .any, .any, .any, .v (.int .i64 m), .v (.int .i64 i.1), .any, .any, .any, .any, .any, .any, .any, .any, .any, .any, .any, .any, .any, .any, .any, .any, .any, .any, .any, .any, .any, .any, .any, .any, .any, .any, .any, .any, .any, .any, .any, .any, .any, .any], mkσ kindsE ⟨0, none, 139, [.v (.int .i64 (k.lo : Int)), .v (.int .i64 (k.hi : Int)), .fn k.fs [], .fn k.ff []], .cells⟩ p m i.1⟩) (fun i => m - i.1) ⟨0, by simp⟩ ⟨?_, ?_⟩ ?_
  · repeat' first | exact leF_nil | refine leD_tup ?_ | refine leF1_cons ?_ ?_ | exact leF1_nil | exact leD1_refl _ | refine leD1_agg ?_ | refine leF_cons ?_ ?_ | exact leD_refl _ | exact leD_nil | exact leD_any | exact .inl leD0_nil | exact leF_caps (by assumption) | exact leD_fn (by assumption) | refine leD_agg ?_ | refine leF0_cons ?_ ?_ | exact leF0_nil | exact leD0_refl _ | exact leD0_nil | exact leD0_any
  · simp only [mkσ]
    exact (by first | exact ⟨0, (List.append_nil _).symm⟩ | exact ⟨1, rfl⟩ | exact ⟨2, rfl⟩ | exact ⟨3, rfl⟩ | exact ⟨4, rfl⟩ | exact ⟨5, rfl⟩ | exact ⟨6, rfl⟩ | exact ⟨7, rfl⟩ | exact ⟨8, rfl⟩)
  rintro ⟨i, hi⟩
  by_cases hlt : (i : Int) < (m : Int)
  · rcases Nat.eq_zero_or_pos i with rfl | hpos
    · have hσ := mkσ_zero kindsE ⟨0, none, 139, [.v (.int .i64 (k.lo : Int)), .v (.int .i64 (k.hi : Int)), .fn k.fs [], .fn k.ff []], .cells⟩ p m
      have hσ1 := mkσ_succ kindsE ⟨0, none, 139, [.v (.int .i64 (k.lo : Int)), .v (.int .i64 (k.hi : Int)), .fn k.fs [], .fn k.ff []], .cells⟩ p m (i := 0) rfl
      have hlt0 : (0 : Int) < m := hlt
      repeat' first
        | with_reducible first | refine AWP_seq' ?_ | refine k_normal ?_ | refine k_ret ?_ | refine k_exit ?_ | refine b_normal ?_ | refine b_ret ?_ | refine b_exit ?_ | refine b_pass rfl ?_ | refine AWP_ret ?_ | refine AWP_skip ?_ | refine AWP_exit ?_ | refine AWP_block ?_
        | ((with_reducible first | refine AWP_reg fun KC J hJ hKC => ?_ | refine AWP_regD rfl fun KC J hJ hKC => ?_); simp (maxSteps := 10000000) only [push_cast, seval, ↓reduceIte, hlt0, hσ])
        | ((with_reducible refine And.intro ?_ ?_); · first | trivial | omega | assumption | (simp; done) | (simp; omega))
        | first | (refine' hKC _ _ _ _ _ (callV0 (kinds_fn) rfl rfl rfl ?_ ?_); (· (repeat' first | exact leF_nil | refine leD_tup ?_ | refine leF1_cons ?_ ?_ | exact leF1_nil | exact leD1_refl _ | refine leD1_agg ?_ | refine leF_cons ?_ ?_ | exact leD_refl _ | exact leD_nil | exact leD_any | exact .inl leD0_nil | exact leF_caps (by assumption) | exact leD_fn (by assumption) | refine leD_agg ?_ | refine leF0_cons ?_ ?_ | exact leF0_nil | exact leD0_refl _ | exact leD0_nil | exact leD0_any)); simp (maxSteps := 10000000) only [push_cast, seval, ↓reduceIte, hlt0, hσ])
        | ((first | with_reducible refine hJ _ _ ?_ | (with_reducible refine hJ _ _ ?_ ?_; · kernel_rfl)); clear hJ hKC KC J)
        | ((with_reducible refine AWP_condT ?_ ?_); · rfl)
        | ((with_reducible refine AWP_condF ?_ ?_); · rfl)
        | ((with_reducible refine ite_intro (fun hs => ?_) (fun hs => ?_)) <;> (try simp only [Bool.not_eq_true, Bool.not_eq_false, Bool.not_eq_true', Bool.not_eq_false', Decidable.not_not, decide_eq_true_eq, decide_eq_false_iff_not] at hs) <;> (try simp (maxSteps := 10000000) only [push_cast, seval, ↓reduceIte, hs, hlt0, hσ]))
        | (refine AWP_cond rfl (fun h => ?_) (fun h => ?_) <;> try simp only [decide_eq_true_eq, decide_eq_false_iff_not, Bool.not_eq_true', Bool.not_eq_false', beq_iff_eq, bne_iff_ne, ne_eq, Bool.not_eq_true, Bool.or_eq_true, Bool.and_eq_true, Bool.or_eq_false_iff, Bool.and_eq_false_imp, beq_eq_false_iff_ne, bne_eq_false_iff_eq] at h)
      refine AWP_loopF (γ := {j : Nat // j ≤ m}) (fun j => ⟨[.any, .v (.int .i64 (w : Int)), .any, .any, .ptr 0 0 0, .any, .ptr 2 0 0, .any, .ptr 3 0 0, .v (.int .i64 m), .v (.int .i64 0), .v (.int .u32 (uv (rowN (p 0) j.1))), .any, .any, .any, .any, .any, .any, .any, .any, .any, .any, .any, .any, .any, .any, .any, .any, .any, .any, .any, .any, .any, .any, .any, .any, .any, .any, .any, .v (.int .i64 m), .v (.int .i64 0), .any, .any, .v (.int .i64 m), .v (.int .i64 j.1), .any, .any, .any, .any, .any, .any, .any, .any, .any, .any, .any, .any, .any, .any, .any, .any, .any, .any, .any, .any, .any, .any, .any, .any, .any, .any, .any, .any, .any, .any], mkσ kindsE ⟨0, none, 139, [.v (.int .i64 (k.lo : Int)), .v (.int .i64 (k.hi : Int)), .fn k.fs [], .fn k.ff []], .cells⟩ p m 0⟩) (fun j => m - j.1) ⟨0, by simp⟩ ⟨?_, ?_⟩ ?_
      · repeat' first | exact leF_nil | refine leD_tup ?_ | refine leF1_cons ?_ ?_ | exact leF1_nil | exact leD1_refl _ | refine leD1_agg ?_ | refine leF_cons ?_ ?_ | exact leD_refl _ | exact leD_nil | exact leD_any | exact .inl leD0_nil | exact leF_caps (by assumption) | exact leD_fn (by assumption) | refine leD_agg ?_ | refine leF0_cons ?_ ?_ | exact leF0_nil | exact leD0_refl _ | exact leD0_nil | exact leD0_any
      · simp only [hσ]
        exact (by first | exact ⟨0, (List.append_nil _).symm⟩ | exact ⟨1, rfl⟩ | exact ⟨2, rfl⟩ | exact ⟨3, rfl⟩ | exact ⟨4, rfl⟩ | exact ⟨5, rfl⟩ | exact ⟨6, rfl⟩ | exact ⟨7, rfl⟩ | exact ⟨8, rfl⟩)
      · rintro ⟨j, hj⟩
        by_cases hlj : (j : Int) < (m : Int)
        · have hj' : j < m := by omega
          have hrl : rowN (p 0) j < 2 ^ 32 := Nat.lt_of_lt_of_le (rowN_lt _ _) (Nat.pow_le_pow_right (by decide) (by omega))
          have hsl : 1 <<< j < 2 ^ 32 := by rw [Nat.one_shiftLeft]; exact Nat.pow_lt_pow_right (by decide) (by omega)
          have hffj : Fn Try.prog k.ff [.v (.int .i64 (w : Int)), .v (.int .i64 0), .v (.int .i64 (j : Int))] [] (.v (.bool (p 0 j))) [] := by
            have := hff 0 j hw1 hw2 (by rw [hm]; omega) (by rw [hm]; omega)
            rw [hp] at this
            exact this
          cases hpj : p 0 j with
          | true =>
            have hR : rowN (p 0) (j + 1) = rowN (p 0) j ||| (1 <<< j) := by rw [rowN, if_pos hpj]
            rw [hpj] at hffj
            repeat' first
              | with_reducible first | refine AWP_seq' ?_ | refine k_normal ?_ | refine k_ret ?_ | refine k_exit ?_ | refine b_normal ?_ | refine b_ret ?_ | refine b_exit ?_ | refine b_pass rfl ?_ | refine AWP_ret ?_ | refine AWP_skip ?_ | refine AWP_exit ?_ | refine AWP_block ?_
              | ((with_reducible first | refine AWP_reg fun KC J hJ hKC => ?_ | refine AWP_regD rfl fun KC J hJ hKC => ?_); simp (maxSteps := 10000000) only [push_cast, seval, ↓reduceIte, hlj, hσ, uv_shl1 (show j < 32 by omega), uv_or hrl hsl, wrapN (i := j) (n := m) (by omega) (by omega)])
              | ((with_reducible refine And.intro ?_ ?_); · first | trivial | omega | assumption | (simp; done) | (simp; omega))
              | first | (refine' hKC _ _ _ _ _ (callV0 (kinds_fn) rfl rfl rfl ?_ ?_); (· (repeat' first | exact leF_nil | refine leD_tup ?_ | refine leF1_cons ?_ ?_ | exact leF1_nil | exact leD1_refl _ | refine leD1_agg ?_ | refine leF_cons ?_ ?_ | exact leD_refl _ | exact leD_nil | exact leD_any | exact .inl leD0_nil | exact leF_caps (by assumption) | exact leD_fn (by assumption) | refine leD_agg ?_ | refine leF0_cons ?_ ?_ | exact leF0_nil | exact leD0_refl _ | exact leD0_nil | exact leD0_any)); simp (maxSteps := 10000000) only [push_cast, seval, ↓reduceIte, hlj, hσ, uv_shl1 (show j < 32 by omega), uv_or hrl hsl, wrapN (i := j) (n := m) (by omega) (by omega)]) | (refine hKC _ _ _ _ _ (callV0 (hffj) rfl rfl rfl ?_ ?_); (· (repeat' first | exact leF_nil | refine leD_tup ?_ | refine leF1_cons ?_ ?_ | exact leF1_nil | exact leD1_refl _ | refine leD1_agg ?_ | refine leF_cons ?_ ?_ | exact leD_refl _ | exact leD_nil | exact leD_any | exact .inl leD0_nil | exact leF_caps (by assumption) | exact leD_fn (by assumption) | refine leD_agg ?_ | refine leF0_cons ?_ ?_ | exact leF0_nil | exact leD0_refl _ | exact leD0_nil | exact leD0_any)); simp (maxSteps := 10000000) only [push_cast, seval, ↓reduceIte, hlj, hσ, uv_shl1 (show j < 32 by omega), uv_or hrl hsl, wrapN (i := j) (n := m) (by omega) (by omega)])
              | ((first | with_reducible refine hJ _ _ ?_ | (with_reducible refine hJ _ _ ?_ ?_; · kernel_rfl)); clear hJ hKC KC J)
              | ((with_reducible refine AWP_condT ?_ ?_); · rfl)
              | ((with_reducible refine AWP_condF ?_ ?_); · rfl)
              | ((with_reducible refine ite_intro (fun hs => ?_) (fun hs => ?_)) <;> (try simp only [Bool.not_eq_true, Bool.not_eq_false, Bool.not_eq_true', Bool.not_eq_false', Decidable.not_not, decide_eq_true_eq, decide_eq_false_iff_not] at hs) <;> (try simp (maxSteps := 10000000) only [push_cast, seval, ↓reduceIte, hs, hlj, hσ, uv_shl1 (show j < 32 by omega), uv_or hrl hsl, wrapN (i := j) (n := m) (by omega) (by omega)]))
              | (refine AWP_cond rfl (fun h => ?_) (fun h => ?_) <;> try simp only [decide_eq_true_eq, decide_eq_false_iff_not, Bool.not_eq_true', Bool.not_eq_false', beq_iff_eq, bne_iff_ne, ne_eq, Bool.not_eq_true, Bool.or_eq_true, Bool.and_eq_true, Bool.or_eq_false_iff, Bool.and_eq_false_imp, beq_eq_false_iff_ne, bne_eq_false_iff_eq] at h)
            refine ⟨⟨j + 1, by omega⟩, by simp only; omega, ?_, ?_⟩
            · simp only [hR]
              repeat' first | exact leF_nil | refine leD_tup ?_ | refine leF1_cons ?_ ?_ | exact leF1_nil | exact leD1_refl _ | refine leD1_agg ?_ | refine leF_cons ?_ ?_ | exact leD_refl _ | exact leD_nil | exact leD_any | exact .inl leD0_nil | exact leF_caps (by assumption) | exact leD_fn (by assumption) | refine leD_agg ?_ | refine leF0_cons ?_ ?_ | exact leF0_nil | exact leD0_refl _ | exact leD0_nil | exact leD0_any
            · simp only [hσ]
              exact (by first | exact ⟨0, (List.append_nil _).symm⟩ | exact ⟨1, rfl⟩ | exact ⟨2, rfl⟩ | exact ⟨3, rfl⟩ | exact ⟨4, rfl⟩ | exact ⟨5, rfl⟩ | exact ⟨6, rfl⟩ | exact ⟨7, rfl⟩ | exact ⟨8, rfl⟩)
          | false =>
            have hR : rowN (p 0) (j + 1) = rowN (p 0) j := by rw [rowN, if_neg (by simp [hpj])]
            rw [hpj] at hffj
            repeat' first
              | with_reducible first | refine AWP_seq' ?_ | refine k_normal ?_ | refine k_ret ?_ | refine k_exit ?_ | refine b_normal ?_ | refine b_ret ?_ | refine b_exit ?_ | refine b_pass rfl ?_ | refine AWP_ret ?_ | refine AWP_skip ?_ | refine AWP_exit ?_ | refine AWP_block ?_
              | ((with_reducible first | refine AWP_reg fun KC J hJ hKC => ?_ | refine AWP_regD rfl fun KC J hJ hKC => ?_); simp (maxSteps := 10000000) only [push_cast, seval, ↓reduceIte, hlj, hσ, wrapN (i := j) (n := m) (by omega) (by omega)])
              | ((with_reducible refine And.intro ?_ ?_); · first | trivial | omega | assumption | (simp; done) | (simp; omega))
              | first | (refine' hKC _ _ _ _ _ (callV0 (kinds_fn) rfl rfl rfl ?_ ?_); (· (repeat' first | exact leF_nil | refine leD_tup ?_ | refine leF1_cons ?_ ?_ | exact leF1_nil | exact leD1_refl _ | refine leD1_agg ?_ | refine leF_cons ?_ ?_ | exact leD_refl _ | exact leD_nil | exact leD_any | exact .inl leD0_nil | exact leF_caps (by assumption) | exact leD_fn (by assumption) | refine leD_agg ?_ | refine leF0_cons ?_ ?_ | exact leF0_nil | exact leD0_refl _ | exact leD0_nil | exact leD0_any)); simp (maxSteps := 10000000) only [push_cast, seval, ↓reduceIte, hlj, hσ, wrapN (i := j) (n := m) (by omega) (by omega)]) | (refine hKC _ _ _ _ _ (callV0 (hffj) rfl rfl rfl ?_ ?_); (· (repeat' first | exact leF_nil | refine leD_tup ?_ | refine leF1_cons ?_ ?_ | exact leF1_nil | exact leD1_refl _ | refine leD1_agg ?_ | refine leF_cons ?_ ?_ | exact leD_refl _ | exact leD_nil | exact leD_any | exact .inl leD0_nil | exact leF_caps (by assumption) | exact leD_fn (by assumption) | refine leD_agg ?_ | refine leF0_cons ?_ ?_ | exact leF0_nil | exact leD0_refl _ | exact leD0_nil | exact leD0_any)); simp (maxSteps := 10000000) only [push_cast, seval, ↓reduceIte, hlj, hσ, wrapN (i := j) (n := m) (by omega) (by omega)])
              | ((first | with_reducible refine hJ _ _ ?_ | (with_reducible refine hJ _ _ ?_ ?_; · kernel_rfl)); clear hJ hKC KC J)
              | ((with_reducible refine AWP_condT ?_ ?_); · rfl)
              | ((with_reducible refine AWP_condF ?_ ?_); · rfl)
              | ((with_reducible refine ite_intro (fun hs => ?_) (fun hs => ?_)) <;> (try simp only [Bool.not_eq_true, Bool.not_eq_false, Bool.not_eq_true', Bool.not_eq_false', Decidable.not_not, decide_eq_true_eq, decide_eq_false_iff_not] at hs) <;> (try simp (maxSteps := 10000000) only [push_cast, seval, ↓reduceIte, hs, hlj, hσ, wrapN (i := j) (n := m) (by omega) (by omega)]))
              | (refine AWP_cond rfl (fun h => ?_) (fun h => ?_) <;> try simp only [decide_eq_true_eq, decide_eq_false_iff_not, Bool.not_eq_true', Bool.not_eq_false', beq_iff_eq, bne_iff_ne, ne_eq, Bool.not_eq_true, Bool.or_eq_true, Bool.and_eq_true, Bool.or_eq_false_iff, Bool.and_eq_false_imp, beq_eq_false_iff_ne, bne_eq_false_iff_eq] at h)
            refine ⟨⟨j + 1, by omega⟩, by simp only; omega, ?_, ?_⟩
            · simp only [hR]
              repeat' first | exact leF_nil | refine leD_tup ?_ | refine leF1_cons ?_ ?_ | exact leF1_nil | exact leD1_refl _ | refine leD1_agg ?_ | refine leF_cons ?_ ?_ | exact leD_refl _ | exact leD_nil | exact leD_any | exact .inl leD0_nil | exact leF_caps (by assumption) | exact leD_fn (by assumption) | refine leD_agg ?_ | refine leF0_cons ?_ ?_ | exact leF0_nil | exact leD0_refl _ | exact leD0_nil | exact leD0_any
            · simp only [hσ]
              exact (by first | exact ⟨0, (List.append_nil _).symm⟩ | exact ⟨1, rfl⟩ | exact ⟨2, rfl⟩ | exact ⟨3, rfl⟩ | exact ⟨4, rfl⟩ | exact ⟨5, rfl⟩ | exact ⟨6, rfl⟩ | exact ⟨7, rfl⟩ | exact ⟨8, rfl⟩)
        · have hjm : m = j := by omega
          subst hjm
          have henc := enc_nm 0 (by omega)
          have henc0 : Utf8.encode (IntKind.i32.wrap 97) = nmB 0 := henc
          have hwi : IntKind.i64.wrap 97 = 97 := wrapI (by omega) (by omega)
          repeat' first
            | with_reducible first | refine AWP_seq' ?_ | refine k_normal ?_ | refine k_ret ?_ | refine k_exit ?_ | refine b_normal ?_ | refine b_ret ?_ | refine b_exit ?_ | refine b_pass rfl ?_ | refine AWP_ret ?_ | refine AWP_skip ?_ | refine AWP_exit ?_ | refine AWP_block ?_
            | ((with_reducible first | refine AWP_reg fun KC J hJ hKC => ?_ | refine AWP_regD rfl fun KC J hJ hKC => ?_); simp (maxSteps := 10000000) only [push_cast, seval, ↓reduceIte, hlj, hσ, hwi, henc0, Int.zero_add])
            | ((with_reducible refine And.intro ?_ ?_); · first | trivial | omega | assumption | (simp; done) | (simp; omega))
            | first | (refine' hKC _ _ _ _ _ (callV0 (kinds_fn) rfl rfl rfl ?_ ?_); (· (repeat' first | exact leF_nil | refine leD_tup ?_ | refine leF1_cons ?_ ?_ | exact leF1_nil | exact leD1_refl _ | refine leD1_agg ?_ | refine leF_cons ?_ ?_ | exact leD_refl _ | exact leD_nil | exact leD_any | exact .inl leD0_nil | exact leF_caps (by assumption) | exact leD_fn (by assumption) | refine leD_agg ?_ | refine leF0_cons ?_ ?_ | exact leF0_nil | exact leD0_refl _ | exact leD0_nil | exact leD0_any)); simp (maxSteps := 10000000) only [push_cast, seval, ↓reduceIte, hlj, hσ, hwi, henc0, Int.zero_add])
            | ((first | with_reducible refine hJ _ _ ?_ | (with_reducible refine hJ _ _ ?_ ?_; · kernel_rfl)); clear hJ hKC KC J)
            | ((with_reducible refine AWP_condT ?_ ?_); · rfl)
            | ((with_reducible refine AWP_condF ?_ ?_); · rfl)
            | ((with_reducible refine ite_intro (fun hs => ?_) (fun hs => ?_)) <;> (try simp only [Bool.not_eq_true, Bool.not_eq_false, Bool.not_eq_true', Bool.not_eq_false', Decidable.not_not, decide_eq_true_eq, decide_eq_false_iff_not] at hs) <;> (try simp (maxSteps := 10000000) only [push_cast, seval, ↓reduceIte, hs, hlj, hσ, hwi, henc0, Int.zero_add]))
            | (refine AWP_cond rfl (fun h => ?_) (fun h => ?_) <;> try simp only [decide_eq_true_eq, decide_eq_false_iff_not, Bool.not_eq_true', Bool.not_eq_false', beq_iff_eq, bne_iff_ne, ne_eq, Bool.not_eq_true, Bool.or_eq_true, Bool.and_eq_true, Bool.or_eq_false_iff, Bool.and_eq_false_imp, beq_eq_false_iff_ne, bne_eq_false_iff_eq] at h)
          refine ⟨⟨0 + 1, by omega⟩, by simp only; omega, ?_, ?_⟩
          · repeat' first | exact leF_nil | refine leD_tup ?_ | refine leF1_cons ?_ ?_ | exact leF1_nil | exact leD1_refl _ | refine leD1_agg ?_ | refine leF_cons ?_ ?_ | exact leD_refl _ | exact leD_nil | exact leD_any | exact .inl leD0_nil | exact leF_caps (by assumption) | exact leD_fn (by assumption) | refine leD_agg ?_ | refine leF0_cons ?_ ?_ | exact leF0_nil | exact leD0_refl _ | exact leD0_nil | exact leD0_any
          · simp only [hσ1]
            exact (by first | exact ⟨0, (List.append_nil _).symm⟩ | exact ⟨1, rfl⟩ | exact ⟨2, rfl⟩ | exact ⟨3, rfl⟩ | exact ⟨4, rfl⟩ | exact ⟨5, rfl⟩ | exact ⟨6, rfl⟩ | exact ⟨7, rfl⟩ | exact ⟨8, rfl⟩)
    · obtain ⟨i', hi'⟩ : ∃ i', i = i' + 1 := ⟨i - 1, by omega⟩
      have hσ := mkσ_pos kindsE ⟨0, none, 139, [.v (.int .i64 (k.lo : Int)), .v (.int .i64 (k.hi : Int)), .fn k.fs [], .fn k.ff []], .cells⟩ p m hi'
      have hσ1 := mkσ_succ' kindsE ⟨0, none, 139, [.v (.int .i64 (k.lo : Int)), .v (.int .i64 (k.hi : Int)), .fn k.fs [], .fn k.ff []], .cells⟩ p m hi'
      have hlS : (cellS (namesN i)).length = i := by simp [cellS, namesN_length]
      have hlU : (cellU (upsN p m i)).length = i := by simp [cellU, upsN_length]
      have htS := take_of hlS
      have htU := take_of hlU
      have htS' : (cellS (namesN i)).take i = cellS (namesN i) := List.take_of_length_le (by omega)
      have htU' : (cellU (upsN p m i)).take i = cellU (upsN p m i) := List.take_of_length_le (by omega)
      have hbq : Nat.beq i' i' = true := Nat.beq_refl i'
      repeat' first
        | with_reducible first | refine AWP_seq' ?_ | refine k_normal ?_ | refine k_ret ?_ | refine k_exit ?_ | refine b_normal ?_ | refine b_ret ?_ | refine b_exit ?_ | refine b_pass rfl ?_ | refine AWP_ret ?_ | refine AWP_skip ?_ | refine AWP_exit ?_ | refine AWP_block ?_
        | ((with_reducible first | refine AWP_reg fun KC J hJ hKC => ?_ | refine AWP_regD rfl fun KC J hJ hKC => ?_); simp (maxSteps := 10000000) only [push_cast, seval, ↓reduceIte, hlt, hσ])
        | ((with_reducible refine And.intro ?_ ?_); · first | trivial | omega | assumption | (simp; done) | (simp; omega))
        | first | (refine' hKC _ _ _ _ _ (callV0 (kinds_fn) rfl rfl rfl ?_ ?_); (· (repeat' first | exact leF_nil | refine leD_tup ?_ | refine leF1_cons ?_ ?_ | exact leF1_nil | exact leD1_refl _ | refine leD1_agg ?_ | refine leF_cons ?_ ?_ | exact leD_refl _ | exact leD_nil | exact leD_any | exact .inl leD0_nil | exact leF_caps (by assumption) | exact leD_fn (by assumption) | refine leD_agg ?_ | refine leF0_cons ?_ ?_ | exact leF0_nil | exact leD0_refl _ | exact leD0_nil | exact leD0_any)); simp (maxSteps := 10000000) only [push_cast, seval, ↓reduceIte, hlt, hσ])
        | ((first | with_reducible refine hJ _ _ ?_ | (with_reducible refine hJ _ _ ?_ ?_; · kernel_rfl)); clear hJ hKC KC J)
        | ((with_reducible refine AWP_condT ?_ ?_); · rfl)
        | ((with_reducible refine AWP_condF ?_ ?_); · rfl)
        | ((with_reducible refine ite_intro (fun hs => ?_) (fun hs => ?_)) <;> (try simp only [Bool.not_eq_true, Bool.not_eq_false, Bool.not_eq_true', Bool.not_eq_false', Decidable.not_not, decide_eq_true_eq, decide_eq_false_iff_not] at hs) <;> (try simp (maxSteps := 10000000) only [push_cast, seval, ↓reduceIte, hs, hlt, hσ]))
        | (refine AWP_cond rfl (fun h => ?_) (fun h => ?_) <;> try simp only [decide_eq_true_eq, decide_eq_false_iff_not, Bool.not_eq_true', Bool.not_eq_false', beq_iff_eq, bne_iff_ne, ne_eq, Bool.not_eq_true, Bool.or_eq_true, Bool.and_eq_true, Bool.or_eq_false_iff, Bool.and_eq_false_imp, beq_eq_false_iff_ne, bne_eq_false_iff_eq] at h)
      refine AWP_loopF (γ := {j : Nat // j ≤ m}) (fun j => ⟨[.any, .v (.int .i64 (w : Int)), .any, .any, .ptr 0 0 0, .any, .ptr 2 0 0, .any, .ptr 3 0 0, .v (.int .i64 m), .v (.int .i64 (i : Int)), .v (.int .u32 (uv (rowN (p i) j.1))), .any, .any, .any, .any, .any, .any, .any, .any, .any, .any, .any, .any, .any, .any, .any, .any, .any, .any, .any, .any, .any, .any, .any, .any, .any, .any, .any, .v (.int .i64 m), .v (.int .i64 (i : Int)), .any, .any, .v (.int .i64 m), .v (.int .i64 j.1), .any, .any, .any, .any, .any, .any, .any, .any, .any, .any, .any, .any, .any, .any, .any, .any, .any, .any, .any, .any, .any, .any, .any, .any, .any, .any, .any, .any, .any, .any], mkσ kindsE ⟨0, none, 139, [.v (.int .i64 (k.lo : Int)), .v (.int .i64 (k.hi : Int)), .fn k.fs [], .fn k.ff []], .cells⟩ p m i⟩) (fun j => m - j.1) ⟨0, by simp⟩ ⟨?_, ?_⟩ ?_
      · repeat' first | exact leF_nil | refine leD_tup ?_ | refine leF1_cons ?_ ?_ | exact leF1_nil | exact leD1_refl _ | refine leD1_agg ?_ | refine leF_cons ?_ ?_ | exact leD_refl _ | exact leD_nil | exact leD_any | exact .inl leD0_nil | exact leF_caps (by assumption) | exact leD_fn (by assumption) | refine leD_agg ?_ | refine leF0_cons ?_ ?_ | exact leF0_nil | exact leD0_refl _ | exact leD0_nil | exact leD0_any
      · simp only [hσ]
        exact (by first | exact ⟨0, (List.append_nil _).symm⟩ | exact ⟨1, rfl⟩ | exact ⟨2, rfl⟩ | exact ⟨3, rfl⟩ | exact ⟨4, rfl⟩ | exact ⟨5, rfl⟩ | exact ⟨6, rfl⟩ | exact ⟨7, rfl⟩ | exact ⟨8, rfl⟩)
      · rintro ⟨j, hj⟩
        by_cases hlj : (j : Int) < (m : Int)
        · have hj' : j < m := by omega
          have hrl : rowN (p i) j < 2 ^ 32 := Nat.lt_of_lt_of_le (rowN_lt _ _) (Nat.pow_le_pow_right (by decide) (by omega))
          have hsl : 1 <<< j < 2 ^ 32 := by rw [Nat.one_shiftLeft]; exact Nat.pow_lt_pow_right (by decide) (by omega)
          have hffj : Fn Try.prog k.ff [.v (.int .i64 (w : Int)), .v (.int .i64 (i : Int)), .v (.int .i64 (j : Int))] [] (.v (.bool (p i j))) [] := by
            have := hff i j hw1 hw2 (by rw [hm]; omega) (by rw [hm]; omega)
            rw [hp] at this
            exact this
          cases hpj : p i j with
          | true =>
            have hR : rowN (p i) (j + 1) = rowN (p i) j ||| (1 <<< j) := by rw [rowN, if_pos hpj]
            rw [hpj] at hffj
            repeat' first
              | with_reducible first | refine AWP_seq' ?_ | refine k_normal ?_ | refine k_ret ?_ | refine k_exit ?_ | refine b_normal ?_ | refine b_ret ?_ | refine b_exit ?_ | refine b_pass rfl ?_ | refine AWP_ret ?_ | refine AWP_skip ?_ | refine AWP_exit ?_ | refine AWP_block ?_
              | ((with_reducible first | refine AWP_reg fun KC J hJ hKC => ?_ | refine AWP_regD rfl fun KC J hJ hKC => ?_); simp (maxSteps := 10000000) only [push_cast, seval, ↓reduceIte, hlj, hσ, uv_shl1 (show j < 32 by omega), uv_or hrl hsl, wrapN (i := j) (n := m) (by omega) (by omega)])
              | ((with_reducible refine And.intro ?_ ?_); · first | trivial | omega | assumption | (simp; done) | (simp; omega))
              | first | (refine' hKC _ _ _ _ _ (callV0 (kinds_fn) rfl rfl rfl ?_ ?_); (· (repeat' first | exact leF_nil | refine leD_tup ?_ | refine leF1_cons ?_ ?_ | exact leF1_nil | exact leD1_refl _ | refine leD1_agg ?_ | refine leF_cons ?_ ?_ | exact leD_refl _ | exact leD_nil | exact leD_any | exact .inl leD0_nil | exact leF_caps (by assumption) | exact leD_fn (by assumption) | refine leD_agg ?_ | refine leF0_cons ?_ ?_ | exact leF0_nil | exact leD0_refl _ | exact leD0_nil | exact leD0_any)); simp (maxSteps := 10000000) only [push_cast, seval, ↓reduceIte, hlj, hσ, uv_shl1 (show j < 32 by omega), uv_or hrl hsl, wrapN (i := j) (n := m) (by omega) (by omega)]) | (refine hKC _ _ _ _ _ (callV0 (hffj) rfl rfl rfl ?_ ?_); (· (repeat' first | exact leF_nil | refine leD_tup ?_ | refine leF1_cons ?_ ?_ | exact leF1_nil | exact leD1_refl _ | refine leD1_agg ?_ | refine leF_cons ?_ ?_ | exact leD_refl _ | exact leD_nil | exact leD_any | exact .inl leD0_nil | exact leF_caps (by assumption) | exact leD_fn (by assumption) | refine leD_agg ?_ | refine leF0_cons ?_ ?_ | exact leF0_nil | exact leD0_refl _ | exact leD0_nil | exact leD0_any)); simp (maxSteps := 10000000) only [push_cast, seval, ↓reduceIte, hlj, hσ, uv_shl1 (show j < 32 by omega), uv_or hrl hsl, wrapN (i := j) (n := m) (by omega) (by omega)])
              | ((first | with_reducible refine hJ _ _ ?_ | (with_reducible refine hJ _ _ ?_ ?_; · kernel_rfl)); clear hJ hKC KC J)
              | ((with_reducible refine AWP_condT ?_ ?_); · rfl)
              | ((with_reducible refine AWP_condF ?_ ?_); · rfl)
              | ((with_reducible refine ite_intro (fun hs => ?_) (fun hs => ?_)) <;> (try simp only [Bool.not_eq_true, Bool.not_eq_false, Bool.not_eq_true', Bool.not_eq_false', Decidable.not_not, decide_eq_true_eq, decide_eq_false_iff_not] at hs) <;> (try simp (maxSteps := 10000000) only [push_cast, seval, ↓reduceIte, hs, hlj, hσ, uv_shl1 (show j < 32 by omega), uv_or hrl hsl, wrapN (i := j) (n := m) (by omega) (by omega)]))
              | (refine AWP_cond rfl (fun h => ?_) (fun h => ?_) <;> try simp only [decide_eq_true_eq, decide_eq_false_iff_not, Bool.not_eq_true', Bool.not_eq_false', beq_iff_eq, bne_iff_ne, ne_eq, Bool.not_eq_true, Bool.or_eq_true, Bool.and_eq_true, Bool.or_eq_false_iff, Bool.and_eq_false_imp, beq_eq_false_iff_ne, bne_eq_false_iff_eq] at h)
            refine ⟨⟨j + 1, by omega⟩, by simp only; omega, ?_, ?_⟩
            · simp only [hR]
              repeat' first | exact leF_nil | refine leD_tup ?_ | refine leF1_cons ?_ ?_ | exact leF1_nil | exact leD1_refl _ | refine leD1_agg ?_ | refine leF_cons ?_ ?_ | exact leD_refl _ | exact leD_nil | exact leD_any | exact .inl leD0_nil | exact leF_caps (by assumption) | exact leD_fn (by assumption) | refine leD_agg ?_ | refine leF0_cons ?_ ?_ | exact leF0_nil | exact leD0_refl _ | exact leD0_nil | exact leD0_any
            · simp only [hσ]
              exact (by first | exact ⟨0, (List.append_nil _).symm⟩ | exact ⟨1, rfl⟩ | exact ⟨2, rfl⟩ | exact ⟨3, rfl⟩ | exact ⟨4, rfl⟩ | exact ⟨5, rfl⟩ | exact ⟨6, rfl⟩ | exact ⟨7, rfl⟩ | exact ⟨8, rfl⟩)
          | false =>
            have hR : rowN (p i) (j + 1) = rowN (p i) j := by rw [rowN, if_neg (by simp [hpj])]
            rw [hpj] at hffj
            repeat' first
              | with_reducible first | refine AWP_seq' ?_ | refine k_normal ?_ | refine k_ret ?_ | refine k_exit ?_ | refine b_normal ?_ | refine b_ret ?_ | refine b_exit ?_ | refine b_pass rfl ?_ | refine AWP_ret ?_ | refine AWP_skip ?_ | refine AWP_exit ?_ | refine AWP_block ?_
              | ((with_reducible first | refine AWP_reg fun KC J hJ hKC => ?_ | refine AWP_regD rfl fun KC J hJ hKC => ?_); simp (maxSteps := 10000000) only [push_cast, seval, ↓reduceIte, hlj, hσ, wrapN (i := j) (n := m) (by omega) (by omega)])
              | ((with_reducible refine And.intro ?_ ?_); · first | trivial | omega | assumption | (simp; done) | (simp; omega))
              | first | (refine' hKC _ _ _ _ _ (callV0 (kinds_fn) rfl rfl rfl ?_ ?_); (· (repeat' first | exact leF_nil | refine leD_tup ?_ | refine leF1_cons ?_ ?_ | exact leF1_nil | exact leD1_refl _ | refine leD1_agg ?_ | refine leF_cons ?_ ?_ | exact leD_refl _ | exact leD_nil | exact leD_any | exact .inl leD0_nil | exact leF_caps (by assumption) | exact leD_fn (by assumption) | refine leD_agg ?_ | refine leF0_cons ?_ ?_ | exact leF0_nil | exact leD0_refl _ | exact leD0_nil | exact leD0_any)); simp (maxSteps := 10000000) only [push_cast, seval, ↓reduceIte, hlj, hσ, wrapN (i := j) (n := m) (by omega) (by omega)]) | (refine hKC _ _ _ _ _ (callV0 (hffj) rfl rfl rfl ?_ ?_); (· (repeat' first | exact leF_nil | refine leD_tup ?_ | refine leF1_cons ?_ ?_ | exact leF1_nil | exact leD1_refl _ | refine leD1_agg ?_ | refine leF_cons ?_ ?_ | exact leD_refl _ | exact leD_nil | exact leD_any | exact .inl leD0_nil | exact leF_caps (by assumption) | exact leD_fn (by assumption) | refine leD_agg ?_ | refine leF0_cons ?_ ?_ | exact leF0_nil | exact leD0_refl _ | exact leD0_nil | exact leD0_any)); simp (maxSteps := 10000000) only [push_cast, seval, ↓reduceIte, hlj, hσ, wrapN (i := j) (n := m) (by omega) (by omega)])
              | ((first | with_reducible refine hJ _ _ ?_ | (with_reducible refine hJ _ _ ?_ ?_; · kernel_rfl)); clear hJ hKC KC J)
              | ((with_reducible refine AWP_condT ?_ ?_); · rfl)
              | ((with_reducible refine AWP_condF ?_ ?_); · rfl)
              | ((with_reducible refine ite_intro (fun hs => ?_) (fun hs => ?_)) <;> (try simp only [Bool.not_eq_true, Bool.not_eq_false, Bool.not_eq_true', Bool.not_eq_false', Decidable.not_not, decide_eq_true_eq, decide_eq_false_iff_not] at hs) <;> (try simp (maxSteps := 10000000) only [push_cast, seval, ↓reduceIte, hs, hlj, hσ, wrapN (i := j) (n := m) (by omega) (by omega)]))
              | (refine AWP_cond rfl (fun h => ?_) (fun h => ?_) <;> try simp only [decide_eq_true_eq, decide_eq_false_iff_not, Bool.not_eq_true', Bool.not_eq_false', beq_iff_eq, bne_iff_ne, ne_eq, Bool.not_eq_true, Bool.or_eq_true, Bool.and_eq_true, Bool.or_eq_false_iff, Bool.and_eq_false_imp, beq_eq_false_iff_ne, bne_eq_false_iff_eq] at h)
            refine ⟨⟨j + 1, by omega⟩, by simp only; omega, ?_, ?_⟩
            · simp only [hR]
              repeat' first | exact leF_nil | refine leD_tup ?_ | refine leF1_cons ?_ ?_ | exact leF1_nil | exact leD1_refl _ | refine leD1_agg ?_ | refine leF_cons ?_ ?_ | exact leD_refl _ | exact leD_nil | exact leD_any | exact .inl leD0_nil | exact leF_caps (by assumption) | exact leD_fn (by assumption) | refine leD_agg ?_ | refine leF0_cons ?_ ?_ | exact leF0_nil | exact leD0_refl _ | exact leD0_nil | exact leD0_any
            · simp only [hσ]
              exact (by first | exact ⟨0, (List.append_nil _).symm⟩ | exact ⟨1, rfl⟩ | exact ⟨2, rfl⟩ | exact ⟨3, rfl⟩ | exact ⟨4, rfl⟩ | exact ⟨5, rfl⟩ | exact ⟨6, rfl⟩ | exact ⟨7, rfl⟩ | exact ⟨8, rfl⟩)
        · have hjm : m = j := by omega
          subst hjm
          have henc := enc_nm i (by omega)
          have hwi : IntKind.i64.wrap (97 + (i : Int)) = 97 + (i : Int) := wrapI (by omega) (by omega)
          repeat' first
            | with_reducible first | refine AWP_seq' ?_ | refine k_normal ?_ | refine k_ret ?_ | refine k_exit ?_ | refine b_normal ?_ | refine b_ret ?_ | refine b_exit ?_ | refine b_pass rfl ?_ | refine AWP_ret ?_ | refine AWP_skip ?_ | refine AWP_exit ?_ | refine AWP_block ?_
            | ((with_reducible first | refine AWP_reg fun KC J hJ hKC => ?_ | refine AWP_regD rfl fun KC J hJ hKC => ?_); simp (maxSteps := 10000000) only [push_cast, seval, ↓reduceIte, hlj, hσ, hwi, henc, hbq, hlS, hlU, htS, htU, htS', htU', wrapN (i := i) (n := m) (by omega) (by omega)])
            | ((with_reducible refine And.intro ?_ ?_); · first | trivial | omega | assumption | (simp; done) | (simp; omega))
            | first | (refine' hKC _ _ _ _ _ (callV0 (kinds_fn) rfl rfl rfl ?_ ?_); (· (repeat' first | exact leF_nil | refine leD_tup ?_ | refine leF1_cons ?_ ?_ | exact leF1_nil | exact leD1_refl _ | refine leD1_agg ?_ | refine leF_cons ?_ ?_ | exact leD_refl _ | exact leD_nil | exact leD_any | exact .inl leD0_nil | exact leF_caps (by assumption) | exact leD_fn (by assumption) | refine leD_agg ?_ | refine leF0_cons ?_ ?_ | exact leF0_nil | exact leD0_refl _ | exact leD0_nil | exact leD0_any)); simp (maxSteps := 10000000) only [push_cast, seval, ↓reduceIte, hlj, hσ, hwi, henc, hbq, hlS, hlU, htS, htU, htS', htU', wrapN (i := i) (n := m) (by omega) (by omega)])
            | ((first | with_reducible refine hJ _ _ ?_ | (with_reducible refine hJ _ _ ?_ ?_; · kernel_rfl)); clear hJ hKC KC J)
            | ((with_reducible refine AWP_condT ?_ ?_); · rfl)
            | ((with_reducible refine AWP_condF ?_ ?_); · rfl)
            | ((with_reducible refine ite_intro (fun hs => ?_) (fun hs => ?_)) <;> (try simp only [Bool.not_eq_true, Bool.not_eq_false, Bool.not_eq_true', Bool.not_eq_false', Decidable.not_not, decide_eq_true_eq, decide_eq_false_iff_not] at hs) <;> (try simp (maxSteps := 10000000) only [push_cast, seval, ↓reduceIte, hs, hlj, hσ, hwi, henc, hbq, hlS, hlU, htS, htU, htS', htU', wrapN (i := i) (n := m) (by omega) (by omega)]))
            | (refine AWP_cond rfl (fun h => ?_) (fun h => ?_) <;> try simp only [decide_eq_true_eq, decide_eq_false_iff_not, Bool.not_eq_true', Bool.not_eq_false', beq_iff_eq, bne_iff_ne, ne_eq, Bool.not_eq_true, Bool.or_eq_true, Bool.and_eq_true, Bool.or_eq_false_iff, Bool.and_eq_false_imp, beq_eq_false_iff_ne, bne_eq_false_iff_eq] at h)
          refine ⟨⟨i + 1, by omega⟩, by simp only; omega, ?_, ?_⟩
          · repeat' first | exact leF_nil | refine leD_tup ?_ | refine leF1_cons ?_ ?_ | exact leF1_nil | exact leD1_refl _ | refine leD1_agg ?_ | refine leF_cons ?_ ?_ | exact leD_refl _ | exact leD_nil | exact leD_any | exact .inl leD0_nil | exact leF_caps (by assumption) | exact leD_fn (by assumption) | refine leD_agg ?_ | refine leF0_cons ?_ ?_ | exact leF0_nil | exact leD0_refl _ | exact leD0_nil | exact leD0_any
          · simp only [hσ1]
            exact (by first | exact ⟨0, (List.append_nil _).symm⟩ | exact ⟨1, rfl⟩ | exact ⟨2, rfl⟩ | exact ⟨3, rfl⟩ | exact ⟨4, rfl⟩ | exact ⟨5, rfl⟩ | exact ⟨6, rfl⟩ | exact ⟨7, rfl⟩ | exact ⟨8, rfl⟩)
  · have him : i = m := by omega
    obtain ⟨i', hi'⟩ : ∃ i', i = i' + 1 := ⟨i - 1, by omega⟩
    have hσ := mkσ_pos kindsE ⟨0, none, 139, [.v (.int .i64 (k.lo : Int)), .v (.int .i64 (k.hi : Int)), .fn k.fs [], .fn k.ff []], .cells⟩ p m hi'
    have hbq : Nat.beq i' i' = true := Nat.beq_refl i'
    have hlS : (cellS (namesN i)).length = i := by simp [cellS, namesN_length]
    have hlU : (cellU (upsN p m i)).length = i := by simp [cellU, upsN_length]
    have hcS : chunk 1 i (cellS (namesN i)) = strRow (namesN i) := by
      have := chunk_one (fun s : ByteArray => (.v (.string s) : D)) (namesN i)
      rw [namesN_length] at this; exact this
    have hcU : chunk 1 i (cellU (upsN p m i)) = u32Row (upsN p m i) := by
      have := chunk_one (fun n : Nat => (.v (.int .u32 (uv n)) : D)) (upsN p m i)
      rw [upsN_length] at this; exact this
    have hble : Nat.ble i i = true := Nat.ble_self_eq_true i
    repeat' first
      | with_reducible first | refine AWP_seq' ?_ | refine k_normal ?_ | refine k_ret ?_ | refine k_exit ?_ | refine b_normal ?_ | refine b_ret ?_ | refine b_exit ?_ | refine b_pass rfl ?_ | refine AWP_skip ?_ | refine AWP_exit ?_ | refine AWP_block ?_
      | ((with_reducible first | refine AWP_reg fun KC J hJ hKC => ?_ | refine AWP_regD rfl fun KC J hJ hKC => ?_); simp (maxSteps := 10000000) only [push_cast, seval, ↓reduceIte, hlt, hσ])
      | ((with_reducible refine And.intro ?_ ?_); · first | trivial | omega | assumption | (simp; done) | (simp; omega))
      | first | (refine' hKC _ _ _ _ _ (callV0 (kinds_fn) rfl rfl rfl ?_ ?_); (· (repeat' first | exact leF_nil | refine leD_tup ?_ | refine leF1_cons ?_ ?_ | exact leF1_nil | exact leD1_refl _ | refine leD1_agg ?_ | refine leF_cons ?_ ?_ | exact leD_refl _ | exact leD_nil | exact leD_any | exact .inl leD0_nil | exact leF_caps (by assumption) | exact leD_fn (by assumption) | refine leD_agg ?_ | refine leF0_cons ?_ ?_ | exact leF0_nil | exact leD0_refl _ | exact leD0_nil | exact leD0_any)); simp (maxSteps := 10000000) only [push_cast, seval, ↓reduceIte, hlt, hσ])
      | ((first | with_reducible refine hJ _ _ ?_ | (with_reducible refine hJ _ _ ?_ ?_; · kernel_rfl)); clear hJ hKC KC J)
      | ((with_reducible refine AWP_condT ?_ ?_); · rfl)
      | ((with_reducible refine AWP_condF ?_ ?_); · rfl)
      | ((with_reducible refine ite_intro (fun hs => ?_) (fun hs => ?_)) <;> (try simp only [Bool.not_eq_true, Bool.not_eq_false, Bool.not_eq_true', Bool.not_eq_false', Decidable.not_not, decide_eq_true_eq, decide_eq_false_iff_not] at hs) <;> (try simp (maxSteps := 10000000) only [push_cast, seval, ↓reduceIte, hs, hlt, hσ]))
      | (refine AWP_cond rfl (fun h => ?_) (fun h => ?_) <;> try simp only [decide_eq_true_eq, decide_eq_false_iff_not, Bool.not_eq_true', Bool.not_eq_false', beq_iff_eq, bne_iff_ne, ne_eq, Bool.not_eq_true, Bool.or_eq_true, Bool.and_eq_true, Bool.or_eq_false_iff, Bool.and_eq_false_imp, beq_eq_false_iff_ne, bne_eq_false_iff_eq] at h)
    refine AWP_freeze 5 rfl (by simp (maxSteps := 10000000) only [push_cast, seval, ↓reduceIte]) ?_
    simp (maxSteps := 10000000) only [push_cast, seval, ↓reduceIte, frSt, frSlot, fr3, fr2, fr1, fr0, sameB, arrOf, hbq, hlS, hcS, hble, Nat.mul_one]
    refine AWP_freeze 7 rfl (by simp (maxSteps := 10000000) only [push_cast, seval, ↓reduceIte]) ?_
    simp (maxSteps := 10000000) only [push_cast, seval, ↓reduceIte, frSt, frSlot, fr3, fr2, fr1, fr0, sameB, arrOf, hbq, hlU, hcU, hble, Nat.mul_one]
    refine AWP_ret ?_
    refine ret_plain ?_
    simp (maxSteps := 10000000) only [push_cast, seval, ↓reduceIte, show Try.f20.results = #[(.cell 4 25), (.tmp 5)] from rfl]
    subst him
    repeat' first | exact leF_nil | refine leD_tup ?_ | refine leF1_cons ?_ ?_ | exact leF1_nil | exact leD1_refl _ | refine leD1_agg ?_ | refine leF_cons ?_ ?_ | exact leD_refl _ | exact leD_nil | exact leD_any | exact .inl leD0_nil | exact leF_caps (by assumption) | exact leD_fn (by assumption) | refine leD_agg ?_ | refine leF0_cons ?_ ?_ | exact leF0_nil | exact leD0_refl _ | exact leD0_nil | exact leD0_any
end Go.Proofs.Ytabliglgeiajlaa.AM
