/- Walks and plain laws, put together: part 0. -/
import Derived.Test.YtabliglgeiajlaaGreatMc
set_option linter.unusedSimpArgs false
set_option linter.unusedVariables false
namespace Go.Proofs.YtabliglgeiajlaaGreat.AM
open Go Go.RowKit Go.Proofs
set_option maxRecDepth 100000
set_option maxHeartbeats 400000
def intRow (xs : List Int) : List (List D) := xs.map fun x => [.v (.int .i64 x)]
@[push_cast] theorem intRow_length (l : List Int) : (intRow l).length = l.length := by simp [intRow]
@[push_cast] theorem sub_intRow (l : List Int) (a b : Nat) : sub (intRow l) a b = intRow ((l.take b).drop a) := by simp [intRow, sub_map]
theorem getE_intRow {l : List Int} {n : Nat} {x : Int} (h : l[n]? = some x) : getE (intRow l) n = [.v (.int .i64 x)] := by unfold intRow; exact getE_map _ _ _ _ h
theorem intRow_flatten (l : List Int) : (intRow l).flatten = l.map fun x => .v (.int .i64 x) := by
  induction l with
  | nil => rfl
  | cons a l ih => simp only [intRow, List.map_cons, List.flatten_cons] at ih ⊢; rw [ih]; rfl
@[push_cast] theorem intRow_flatten_length (l : List Int) : (intRow l).flatten.length = l.length := by rw [intRow_flatten]; simp
@[push_cast] theorem chunk_snoc (l : List Int) (x : Int) : chunk 1 (l.length + 1) ((intRow l).flatten ++ [.v (.int .i64 x)]) = intRow (l ++ [x]) := by
  rw [intRow_flatten, show ([.v (.int .i64 x)] : List D) = [x].map (fun x => .v (.int .i64 x)) from rfl, ← List.map_append, show l.length + 1 = (l ++ [x]).length by simp]
  exact chunk_one _ _
@[push_cast] theorem frzAll_append (a b : List D) : frzAll (a ++ b) = (frzAll a && frzAll b) := by
  induction a with
  | nil => simp [frzAll]
  | cons x a ih => simp only [List.cons_append, frzAll, ih, Bool.and_assoc]
@[push_cast] theorem frzAll_ints (l : List Int) : frzAll (l.map fun x => .v (.int .i64 x)) = true := by
  induction l with
  | nil => rfl
  | cons x l ih => simp only [List.map_cons, frzAll, ih]; rfl
@[push_cast] theorem frzAll_intRow (l : List Int) : frzAll (intRow l).flatten = true := by rw [intRow_flatten]; exact frzAll_ints l
@[push_cast] theorem isNil_intRow (x : Int) (l : List Int) : isNilL (intRow (x :: l)) = false := rfl
@[push_cast] theorem isNil_intRow0 : isNilL (intRow []) = true := rfl
theorem ble_self (n : Nat) : Nat.ble n n = true := Nat.ble_self_eq_true n
attribute [push_cast] Nat.zero_add ble_self Nat.mul_one List.length_append
def rightB (l lg : List Int) (a : Int) : Bool := decide (l.length ≤ 500) && decide (lg.length ≤ 2000) && decide (0 ≤ a)
def choiceI (l : List Int) (a b : Int) : Int := if a < l.length then l.getD a.toNat 0 % b else 0
end Go.Proofs.YtabliglgeiajlaaGreat.AM

namespace Go.Proofs.YtabliglgeiajlaaGreat.AM
open Go Go.RowKit Go.Proofs
def idxF {α : Type} (p : α → Bool) (xs : List α) : Int := match xs.findIdx? p with | some i => i | none => -1
theorem idxF_at {α : Type} {p : α → Bool} {xs : List α} {i : Nat} (h : i < xs.length) (hp : p xs[i] = true) (hn : ∀ (j : Nat) (hj : j < xs.length), j < i → p xs[j] = false) : idxF p xs = i := by
  have : xs.findIdx? p = some i := by
    rw [List.findIdx?_eq_some_iff_getElem]
    exact ⟨h, hp, fun j hj => by rw [hn j (by omega) hj]; simp⟩
  simp [idxF, this]
theorem idxF_none {α : Type} {p : α → Bool} {xs : List α} (hn : ∀ (j : Nat) (hj : j < xs.length), p xs[j] = false) : idxF p xs = -1 := by
  have : xs.findIdx? p = none := by
    rw [List.findIdx?_eq_none_iff]
    intro x hx
    obtain ⟨j, hj, rfl⟩ := List.mem_iff_getElem.1 hx
    exact hn j hj
  simp [idxF, this]
theorem idxF_any {α : Type} {p : α → Bool} {xs : List α} : decide (0 ≤ idxF p xs) = xs.any p := by
  unfold idxF
  cases h : xs.findIdx? p with
  | none =>
    rw [List.findIdx?_eq_none_iff] at h
    have : xs.any p = false := by rw [List.any_eq_false]; intro x hx; rw [h x hx]; simp
    simp [this]
  | some i =>
    rw [List.findIdx?_eq_some_iff_getElem] at h
    obtain ⟨h1, h2, _⟩ := h
    have : xs.any p = true := List.any_eq_true.2 ⟨_, List.getElem_mem h1, h2⟩
    simp [this]
end Go.Proofs.YtabliglgeiajlaaGreat.AM

namespace Go.Proofs.YtabliglgeiajlaaGreat.AM
open Go Go.RowKit Go.Proofs
set_option maxRecDepth 100000
set_option maxHeartbeats 400000
theorem ba_loop (b : ByteArray) (i : Nat) (r : List UInt8) : ByteArray.toList.loop b i r = r.reverse ++ b.data.toList.drop i := by
  fun_induction ByteArray.toList.loop b i r with
  | case1 i r h ih =>
    rw [ih]
    have hi : i < b.data.toList.length := by simpa using h
    rw [List.drop_eq_getElem_cons hi]
    have : b.get! i = b.data.toList[i] := by
      simp [ByteArray.get!]
      rw [getElem!_pos]
    simp [this]
  | case2 i r h =>
    have : b.data.toList.length ≤ i := by simpa using h
    rw [List.drop_eq_nil_of_le this]; simp
theorem ba_toList (b : ByteArray) : b.toList = b.data.toList := by
  unfold ByteArray.toList
  rw [ba_loop]; simp
@[push_cast] theorem ba_beq {a b : ByteArray} : (a.toList == b.toList) = decide (a = b) := by
  rw [ba_toList, ba_toList, Bool.eq_iff_iff]
  simp
  constructor
  · intro h; cases a; cases b; simp_all
  · intro h; rw [h]
theorem wrap_u32 {n : Int} (h0 : 0 ≤ n) (h : n < 4294967296) : IntKind.u32.wrap n = n := by
  simp [IntKind.wrap, IntKind.signed, IntKind.bits, BitVec.toNat_ofInt]
  omega
theorem ishr_u32 {a b : Nat} (h : a < 2 ^ 32) : ishr .u32 (a : Int) (b : Int) = ((a >>> b : Nat) : Int) := by
  show (a : Int).fdiv (2 ^ min (b : Int).toNat 32) = _
  rw [Int.toNat_natCast, Int.fdiv_eq_ediv_of_nonneg _ (Int.pow_nonneg (by decide)), Nat.shiftRight_eq_div_pow]
  rcases Nat.le_total b 32 with hb | hb
  · rw [Nat.min_eq_left hb]; simp
  · rw [Nat.min_eq_right hb]
    have h1 : a / 2 ^ b = 0 := Nat.div_eq_of_lt (Nat.lt_of_lt_of_le h (Nat.pow_le_pow_right (by decide) hb))
    have h2 : (a : Int) / 2 ^ 32 = ((a / 2 ^ 32 : Nat) : Int) := by simp
    rw [h1, h2, Nat.div_eq_of_lt h]
theorem bv_u32 {a : Nat} (h : a < 2 ^ 32) : (BitVec.ofInt 32 (a : Int)).toNat = a := by
  rw [BitVec.toNat_ofInt]
  have : ((a : Int) % ((2 ^ 32 : Nat) : Int)).toNat = a % 2 ^ 32 := by omega
  rw [this, Nat.mod_eq_of_lt h]
theorem and_u32 {a b : Nat} (ha : a < 2 ^ 32) (hb : b < 2 ^ 32) : ibits .and .u32 (a : Int) (b : Int) = ((a &&& b : Nat) : Int) := by
  show IntKind.u32.wrap ((BitVec.ofInt 32 (a : Int) &&& BitVec.ofInt 32 (b : Int)).toNat : Int) = _
  rw [BitVec.toNat_and, bv_u32 ha, bv_u32 hb]
  have : a &&& b ≤ a := Nat.and_le_left
  exact wrap_u32 (by omega) (by omega)
theorem or_u32 {a b : Nat} (ha : a < 2 ^ 32) (hb : b < 2 ^ 32) : ibits .or .u32 (a : Int) (b : Int) = ((a ||| b : Nat) : Int) := by
  show IntKind.u32.wrap ((BitVec.ofInt 32 (a : Int) ||| BitVec.ofInt 32 (b : Int)).toNat : Int) = _
  rw [BitVec.toNat_or, bv_u32 ha, bv_u32 hb]
  have : a ||| b < 2 ^ 32 := Nat.or_lt_two_pow ha hb
  exact wrap_u32 (by omega) (by omega)
def anB (a b : Nat) : Nat := a &&& (4294967295 - b)
theorem anB_lt {a b : Nat} (ha : a < 2 ^ 32) : anB a b < 2 ^ 32 := Nat.lt_of_le_of_lt Nat.and_le_left ha
theorem an_u32 {a b : Nat} (ha : a < 2 ^ 32) (hb : b < 2 ^ 32) : ibits .andNot .u32 (a : Int) (b : Int) = ((anB a b : Nat) : Int) := by
  show IntKind.u32.wrap ((BitVec.ofInt 32 (a : Int) &&& ~~~ BitVec.ofInt 32 (b : Int)).toNat : Int) = _
  rw [BitVec.toNat_and, BitVec.toNat_not, bv_u32 ha, bv_u32 hb]
  have := anB_lt (a := a) (b := b) ha
  rw [show a &&& 2 ^ 32 - 1 - b = anB a b from rfl]
  exact wrap_u32 (by omega) (by omega)
theorem anB_bit {a b : Nat} (ha : a < 2 ^ 32) (hb : b < 2 ^ 32) (i : Nat) : (anB a b).testBit i = (a.testBit i && !b.testBit i) := by
  unfold anB
  rw [Nat.testBit_and]
  have h1 : 4294967295 - b = 2 ^ 32 - (b + 1) := by omega
  rw [h1, Nat.testBit_two_pow_sub_succ hb]
  by_cases hi : i < 32
  · simp [hi]
  · have : a.testBit i = false := Nat.testBit_lt_two_pow (Nat.lt_of_lt_of_le ha (Nat.pow_le_pow_right (by decide) (by omega)))
    simp [this]
theorem anB_zero {a b : Nat} (ha : a < 2 ^ 32) (hb : b < 2 ^ 32) : anB a b = 0 ↔ ∀ i, a.testBit i = true → b.testBit i = true := by
  constructor
  · intro h i hi
    have := anB_bit ha hb i
    rw [h, hi] at this
    simpa using this
  · intro h
    refine Nat.eq_of_testBit_eq fun i => ?_
    rw [anB_bit ha hb, Nat.zero_testBit]
    cases hi : a.testBit i with
    | false => rfl
    | true => rw [h i hi]; rfl
theorem shl_u32 {a b : Nat} (ha : a ≤ 1) (hb : b < 32) : ishl .u32 (a : Int) (b : Int) = ((a <<< b : Nat) : Int) := by
  show IntKind.u32.wrap ((a : Int) * 2 ^ min (b : Int).toNat 32) = _
  rw [Int.toNat_natCast, Nat.min_eq_left (by omega), Nat.shiftLeft_eq]
  have h2 : 2 ^ b ≤ 2 ^ 31 := Nat.pow_le_pow_right (by decide) (by omega)
  have h3 : a * 2 ^ b ≤ 2 ^ 31 := Nat.le_trans (Nat.mul_le_mul_right _ ha) (by omega)
  have h4 : (a : Int) * 2 ^ b = ((a * 2 ^ b : Nat) : Int) := by simp
  rw [h4]
  exact wrap_u32 (by omega) (by omega)
theorem one_and (a b : Nat) : (a >>> b) &&& 1 = if a.testBit b then 1 else 0 := by
  rw [Nat.and_one_is_mod, Nat.testBit_eq_decide_div_mod_eq, Nat.shiftRight_eq_div_pow]
  have := Nat.mod_two_eq_zero_or_one (a / 2 ^ b)
  rcases this with h | h <;> simp [h]
def uv (n : Nat) : Int := n
theorem uv_shr {a b : Nat} (h : a < 2 ^ 32) : ishr .u32 (uv a) (b : Int) = uv (a >>> b) := ishr_u32 h
theorem uv_and {a b : Nat} (ha : a < 2 ^ 32) (hb : b < 2 ^ 32) : ibits .and .u32 (uv a) (uv b) = uv (a &&& b) := and_u32 ha hb
theorem uv_and1 {a : Nat} (ha : a < 2 ^ 32) : ibits .and .u32 (uv a) 1 = uv (a &&& 1) := and_u32 (b := 1) ha (by decide)
theorem uv_or {a b : Nat} (ha : a < 2 ^ 32) (hb : b < 2 ^ 32) : ibits .or .u32 (uv a) (uv b) = uv (a ||| b) := or_u32 ha hb
theorem uv_an {a b : Nat} (ha : a < 2 ^ 32) (hb : b < 2 ^ 32) : ibits .andNot .u32 (uv a) (uv b) = uv (anB a b) := an_u32 ha hb
theorem uv_shl {a b : Nat} (ha : a ≤ 1) (hb : b < 32) : ishl .u32 (uv a) (b : Int) = uv (a <<< b) := shl_u32 ha hb
theorem uv_half {a : Nat} (h : a < 2 ^ 32) : IntKind.u32.wrap (Int.tdiv (uv a) 2) = uv (a / 2) := by
  show IntKind.u32.wrap (Int.tdiv (a : Int) 2) = _
  rw [Int.tdiv_eq_ediv_of_nonneg (by omega), wrap_u32 (by omega) (by omega)]
  show _ = ((a / 2 : Nat) : Int)
  omega
theorem uv_mod {a : Nat} : Int.tmod (uv a) 2 = uv (a % 2) := by
  show Int.tmod (a : Int) 2 = ((a % 2 : Nat) : Int)
  rw [Int.tmod_eq_emod_of_nonneg (by omega)]
  omega
@[push_cast] theorem uv_beq {a b : Nat} : (uv a == uv b) = decide (a = b) := by rw [Bool.eq_iff_iff]; simp [uv]; omega
@[push_cast] theorem uv_bne {a b : Nat} : (uv a != uv b) = !decide (a = b) := by rw [bne, uv_beq]
@[push_cast] theorem uv_beq1 {a : Nat} : (uv a == 1) = decide (a = 1) := uv_beq (b := 1)
@[push_cast] theorem uv_beq0 {a : Nat} : (uv a == 0) = decide (a = 0) := uv_beq (b := 0)
@[push_cast] theorem uv_bne0 {a : Nat} : (uv a != 0) = !decide (a = 0) := uv_bne (b := 0)
@[push_cast] theorem uv_gt0 {a : Nat} : (0 < uv a) ↔ (0 < a) := by show 0 < (a : Int) ↔ _; omega
def u32Row (l : List Nat) : List (List D) := l.map fun (n : Nat) => [.v (.int .u32 (uv n))]
def strRow (l : List ByteArray) : List (List D) := l.map fun s => [.v (.string s)]
@[push_cast] theorem u32Row_length (l : List Nat) : (u32Row l).length = l.length := by simp [u32Row]
@[push_cast] theorem strRow_length (l : List ByteArray) : (strRow l).length = l.length := by simp [strRow]
@[push_cast] theorem sub_u32Row (l : List Nat) (a b : Nat) : sub (u32Row l) a b = u32Row ((l.take b).drop a) := by simp [u32Row, sub_map]
@[push_cast] theorem sub_strRow (l : List ByteArray) (a b : Nat) : sub (strRow l) a b = strRow ((l.take b).drop a) := by simp [strRow, sub_map]
theorem getE_u32 {l : List Nat} {n : Nat} {x : Nat} (h : l[n]? = some x) : getE (u32Row l) n = [.v (.int .u32 (uv x))] := by unfold u32Row; exact getE_map _ _ _ _ h
theorem getE_str {l : List ByteArray} {n : Nat} {x : ByteArray} (h : l[n]? = some x) : getE (strRow l) n = [.v (.string x)] := by unfold strRow; exact getE_map _ _ _ _ h
theorem getD_of {α : Type} {l : List α} {n : Nat} (d : α) (h : n < l.length) : l[n]? = some (l.getD n d) := by rw [List.getD_eq_getElem?_getD, List.getElem?_eq_getElem h]; rfl
def nameB (s : ByteArray) : Bool := decide (1 ≤ s.size ∧ s.size ≤ 12 ∧ ∀ i, i < s.size → 97 ≤ byteAt s i ∧ byteAt s i ≤ 122)
theorem nameB_bad {s : ByteArray} {i : Nat} (h : i < s.size) (hb : byteAt s i < 97 ∨ 122 < byteAt s i) : nameB s = false := by
  cases hc : nameB s with
  | false => rfl
  | true => simp only [nameB, decide_eq_true_eq] at hc; have := hc.2.2 i h; omega
theorem ba_empty {s : ByteArray} : s.size = 0 ↔ s = { data := #[] } := by
  cases s with
  | mk d => simp [ByteArray.size]
theorem name_fn (s : ByteArray) (hb : s.size ≤ 9223372036854775807) : Fn Tryz.prog 281 [.v (.string s)] [] (.v (.bool (nameB s))) [] := by
  refine Fn.of (fn := Tryz.f281) (by kernel_rfl) rfl (by kernel_rfl) ⟨[.v (.string s), .v undef, .v undef, .v undef, .v undef, .v undef, .v undef, .v undef, .v undef, .v undef, .v undef, .v undef, .v undef, .v undef, .v undef, .v undef, .v undef, .v undef, .v undef, .v undef, .v undef, .v undef, .v undef, .v undef, .v undef, .v undef, .v undef], []⟩ rfl ?_
  repeat' first | (with_reducible first | refine AWP_seq' ?_ | refine k_normal ?_ | refine AWP_block ?_) | ((with_reducible refine AWP_reg fun KC J hJ hKC => ?_); simp (maxSteps := 9999999) only [push_cast, seval, ↓reduceIte]) | ((with_reducible refine hJ _ _ ?_); clear hJ hKC KC J)
  refine AWP_loopF (γ := {i : Nat // i ≤ s.size ∧ ∀ j, j < i → 97 ≤ byteAt s j ∧ byteAt s j ≤ 122}) (fun i => ⟨[.v (.string s), .any, .any, .any, .any, .v (.int .i64 s.size), .v (.int .i64 i.1), .any, .any, .any, .any, .any, .any, .any, .any, .any, .any, .any, .any, .any, .any, .any, .any, .any, .any, .any, .any], []⟩) (fun i => s.size - i.1) ⟨0, by simp⟩ ⟨?_, Fq⟩ ?_
  · exact Lq
  · rintro ⟨i, hi, hn⟩
    by_cases hlt : (i : Int) < (s.size : Int)
    · by_cases h1 : byteAt s i < 97
      · skip
        repeat' first | (with_reducible first | refine AWP_seq' ?_ | refine k_normal ?_ | refine k_ret ?_ | refine b_ret ?_ | refine AWP_ret ?_ | refine AWP_skip ?_ | refine AWP_block ?_) | ((with_reducible refine And.intro ?_ ?_); · exact Sq) | ((with_reducible refine AWP_reg fun KC J hJ hKC => ?_); simp (maxSteps := 9999999) only [push_cast, seval, ↓reduceIte, hlt, h1]) | ((with_reducible refine hJ _ _ ?_); clear hJ hKC KC J) | ((with_reducible refine AWP_condT ?_ ?_); · rfl)
        refine ret_plain ?_
        simp (maxSteps := 9999999) only [push_cast, seval, ↓reduceIte, show Tryz.f281.results = #[(.tmp 2)] from rfl]
        rw [nameB_bad (by omega) (.inl h1)]
        exact leD_refl _
      by_cases h2 : 122 < byteAt s i
      · skip
        repeat' first | (with_reducible first | refine AWP_seq' ?_ | refine k_normal ?_ | refine k_ret ?_ | refine b_ret ?_ | refine AWP_ret ?_ | refine AWP_skip ?_ | refine AWP_block ?_) | ((with_reducible refine And.intro ?_ ?_); · exact Sq) | ((with_reducible refine AWP_reg fun KC J hJ hKC => ?_); simp (maxSteps := 9999999) only [push_cast, seval, ↓reduceIte, hlt, h1, h2]) | ((with_reducible refine hJ _ _ ?_); clear hJ hKC KC J) | ((with_reducible refine AWP_condT ?_ ?_); · rfl)
        refine ret_plain ?_
        simp (maxSteps := 9999999) only [push_cast, seval, ↓reduceIte, show Tryz.f281.results = #[(.tmp 2)] from rfl]
        rw [nameB_bad (by omega) (.inr h2)]
        exact leD_refl _
      repeat' first | (with_reducible first | refine AWP_seq' ?_ | refine k_normal ?_ | refine b_normal ?_ | refine AWP_skip ?_ | refine AWP_block ?_) | ((with_reducible refine And.intro ?_ ?_); · exact Sq) | ((with_reducible refine AWP_reg fun KC J hJ hKC => ?_); simp (maxSteps := 9999999) only [push_cast, seval, ↓reduceIte, hlt, h1, h2, wrapN (i := i) (n := s.size) (by omega) hb]) | ((with_reducible refine hJ _ _ ?_); clear hJ hKC KC J) | ((with_reducible refine AWP_condT ?_ ?_); · rfl) | ((with_reducible refine AWP_condF ?_ ?_); · rfl)
      refine ⟨⟨i + 1, by omega, fun j hj => ?_⟩, by simp only; omega, ?_, Fq⟩
      · by_cases he : j = i
        · subst he; omega
        · exact hn j (by omega)
      · exact Lq
    · have hall : ∀ j, j < s.size → 97 ≤ byteAt s j ∧ byteAt s j ≤ 122 := fun j hj => hn j (by omega)
      have he := @ba_empty s
      by_cases h0 : s = { data := #[] }
      · have h0' := he.2 h0
        have hd : decide (s = { data := #[] }) = true := by simp [h0]
        repeat' first | (with_reducible first | refine AWP_seq' ?_ | refine k_normal ?_ | refine k_exit ?_ | refine b_exit ?_ | refine AWP_ret ?_ | refine AWP_exit ?_) | ((with_reducible refine AWP_reg fun KC J hJ hKC => ?_); simp (maxSteps := 9999999) only [push_cast, seval, ↓reduceIte, hlt, hd]) | ((with_reducible refine hJ _ _ ?_); clear hJ hKC KC J) | ((with_reducible refine AWP_condF ?_ ?_); · rfl)
        refine ret_plain ?_
        simp (maxSteps := 9999999) only [push_cast, seval, ↓reduceIte, show Tryz.f281.results = #[(.tmp 2)] from rfl]
        refine leD_v (congrArg Value.bool (Bool.eq_iff_iff.2 ?_))
        simp only [nameB, decide_eq_true_eq, Bool.false_eq_true, false_iff]
        omega
      · have h1 : 1 ≤ s.size := Nat.one_le_iff_ne_zero.2 fun h => h0 (he.1 h)
        have hd : decide (s = { data := #[] }) = false := by simp [h0]
        repeat' first | (with_reducible first | refine AWP_seq' ?_ | refine k_normal ?_ | refine k_exit ?_ | refine b_exit ?_ | refine AWP_ret ?_ | refine AWP_exit ?_) | ((with_reducible refine AWP_reg fun KC J hJ hKC => ?_); simp (maxSteps := 9999999) only [push_cast, seval, ↓reduceIte, hlt, hd]) | ((with_reducible refine hJ _ _ ?_); clear hJ hKC KC J) | ((with_reducible refine AWP_condF ?_ ?_); · rfl)
        refine ret_plain ?_
        simp (maxSteps := 9999999) only [push_cast, seval, ↓reduceIte, show Tryz.f281.results = #[(.tmp 2)] from rfl]
        refine leD_v (congrArg Value.bool (Bool.eq_iff_iff.2 ?_))
        simp only [nameB, decide_eq_true_eq]
        exact ⟨fun h => ⟨h1, by omega, hall⟩, fun h => by omega⟩
theorem rName_fn (s : ByteArray) (hb : s.size ≤ 9223372036854775807) : Fn Tryz.prog 229 [.v (.string s)] [] (.v (.bool (nameB s))) [] := by
  refine Fn.of (fn := Tryz.f229) (by kernel_rfl) rfl (by kernel_rfl) ⟨[.v (.string s), .v undef, .v undef, .v undef, .v undef, .v undef, .v undef, .v undef, .v undef, .v undef, .v undef, .v undef, .v undef, .v undef, .v undef, .v undef, .v undef, .v undef, .v undef, .v undef, .v undef, .v undef, .v undef, .v undef, .v undef, .v undef, .v undef, .v undef], []⟩ rfl ?_
  repeat' first | (with_reducible first | refine AWP_seq' ?_ | refine k_normal ?_ | refine AWP_block ?_) | ((with_reducible refine AWP_reg fun KC J hJ hKC => ?_); simp (maxSteps := 9999999) only [push_cast, seval, ↓reduceIte]) | ((with_reducible refine hJ _ _ ?_); clear hJ hKC KC J)
  refine AWP_loopF (γ := {i : Nat // i ≤ s.size ∧ ∀ j, j < i → 97 ≤ byteAt s j ∧ byteAt s j ≤ 122}) (fun i => ⟨[.v (.string s), .any, .any, .v (.int .i64 i.1), .any, .any, .any, .any, .any, .any, .any, .any, .any, .any, .any, .any, .any, .any, .any, .any, .any, .any, .any, .any, .any, .any, .any, .any], []⟩) (fun i => s.size - i.1) ⟨0, by simp⟩ ⟨?_, Fq⟩ ?_
  · exact Lq
  · rintro ⟨i, hi, hn⟩
    by_cases hlt : (i : Int) < (s.size : Int)
    · by_cases h1 : byteAt s i < 97
      · skip
        repeat' first | (with_reducible first | refine AWP_seq' ?_ | refine k_normal ?_ | refine k_ret ?_ | refine b_ret ?_ | refine AWP_ret ?_ | refine AWP_skip ?_ | refine AWP_block ?_) | ((with_reducible refine And.intro ?_ ?_); · exact Sq) | ((with_reducible refine AWP_reg fun KC J hJ hKC => ?_); simp (maxSteps := 9999999) only [push_cast, seval, ↓reduceIte, hlt, h1]) | ((with_reducible refine hJ _ _ ?_); clear hJ hKC KC J) | ((with_reducible refine AWP_condT ?_ ?_); · rfl)
        refine ret_plain ?_
        simp (maxSteps := 9999999) only [push_cast, seval, ↓reduceIte, show Tryz.f229.results = #[(.tmp 2)] from rfl]
        rw [nameB_bad (by omega) (.inl h1)]
        exact leD_refl _
      by_cases h2 : 122 < byteAt s i
      · skip
        repeat' first | (with_reducible first | refine AWP_seq' ?_ | refine k_normal ?_ | refine k_ret ?_ | refine b_ret ?_ | refine AWP_ret ?_ | refine AWP_skip ?_ | refine AWP_block ?_) | ((with_reducible refine And.intro ?_ ?_); · exact Sq) | ((with_reducible refine AWP_reg fun KC J hJ hKC => ?_); simp (maxSteps := 9999999) only [push_cast, seval, ↓reduceIte, hlt, h1, h2]) | ((with_reducible refine hJ _ _ ?_); clear hJ hKC KC J) | ((with_reducible refine AWP_condT ?_ ?_); · rfl)
        refine ret_plain ?_
        simp (maxSteps := 9999999) only [push_cast, seval, ↓reduceIte, show Tryz.f229.results = #[(.tmp 2)] from rfl]
        rw [nameB_bad (by omega) (.inr h2)]
        exact leD_refl _
      repeat' first | (with_reducible first | refine AWP_seq' ?_ | refine k_normal ?_ | refine b_normal ?_ | refine AWP_skip ?_ | refine AWP_block ?_) | ((with_reducible refine And.intro ?_ ?_); · exact Sq) | ((with_reducible refine AWP_reg fun KC J hJ hKC => ?_); simp (maxSteps := 9999999) only [push_cast, seval, ↓reduceIte, hlt, h1, h2, wrapN (i := i) (n := s.size) (by omega) hb]) | ((with_reducible refine hJ _ _ ?_); clear hJ hKC KC J) | ((with_reducible refine AWP_condT ?_ ?_); · rfl) | ((with_reducible refine AWP_condF ?_ ?_); · rfl)
      refine ⟨⟨i + 1, by omega, fun j hj => ?_⟩, by simp only; omega, ?_, Fq⟩
      · by_cases he : j = i
        · subst he; omega
        · exact hn j (by omega)
      · exact Lq
    · have hall : ∀ j, j < s.size → 97 ≤ byteAt s j ∧ byteAt s j ≤ 122 := fun j hj => hn j (by omega)
      by_cases h0 : (0 : Int) < s.size
      · skip
        repeat' first | (with_reducible first | refine AWP_seq' ?_ | refine k_normal ?_ | refine k_exit ?_ | refine b_exit ?_ | refine AWP_ret ?_ | refine AWP_exit ?_) | ((with_reducible refine AWP_reg fun KC J hJ hKC => ?_); simp (maxSteps := 9999999) only [push_cast, seval, ↓reduceIte, hlt, h0]) | ((with_reducible refine hJ _ _ ?_); clear hJ hKC KC J) | ((with_reducible refine AWP_condF ?_ ?_); · rfl)
        refine ret_plain ?_
        simp (maxSteps := 9999999) only [push_cast, seval, ↓reduceIte, show Tryz.f229.results = #[(.tmp 2)] from rfl]
        refine leD_v (congrArg Value.bool (Bool.eq_iff_iff.2 ?_))
        simp only [nameB, decide_eq_true_eq]
        exact ⟨fun h => ⟨by omega, by omega, hall⟩, fun h => by omega⟩
      · skip
        repeat' first | (with_reducible first | refine AWP_seq' ?_ | refine k_normal ?_ | refine k_exit ?_ | refine b_exit ?_ | refine AWP_ret ?_ | refine AWP_exit ?_) | ((with_reducible refine AWP_reg fun KC J hJ hKC => ?_); simp (maxSteps := 9999999) only [push_cast, seval, ↓reduceIte, hlt, h0]) | ((with_reducible refine hJ _ _ ?_); clear hJ hKC KC J) | ((with_reducible refine AWP_condF ?_ ?_); · rfl)
        refine ret_plain ?_
        simp (maxSteps := 9999999) only [push_cast, seval, ↓reduceIte, show Tryz.f229.results = #[(.tmp 2)] from rfl]
        refine leD_v (congrArg Value.bool (Bool.eq_iff_iff.2 ?_))
        simp only [nameB, decide_eq_true_eq, Bool.false_eq_true, false_iff]
        omega
theorem indexStr_fn (f : Bool) (xs : List ByteArray) (s : ByteArray) (hb : xs.length ≤ 9223372036854775807) : Fn Tryz.prog 294 [.sl f 1 (strRow xs), .v (.string s)] [] (.v (.int .i64 (idxF (fun x => decide (s = x)) xs))) [] := by
  refine Fn.of (fn := Tryz.f294) (by kernel_rfl) rfl (by kernel_rfl) ⟨[.sl f 1 (strRow xs), .v (.string s), .v undef, .v undef, .v undef, .v undef, .v undef, .v undef, .v undef, .v undef, .v undef, .v undef, .v undef, .v undef, .v undef, .v undef, .v undef, .v undef, .v undef], []⟩ rfl ?_
  repeat' first | (with_reducible first | refine AWP_seq' ?_ | refine k_normal ?_ | refine AWP_block ?_) | ((with_reducible refine AWP_reg fun KC J hJ hKC => ?_); simp (maxSteps := 9999999) only [push_cast, seval, ↓reduceIte]) | ((with_reducible refine hJ _ _ ?_); clear hJ hKC KC J)
  refine AWP_loopF (γ := {i : Nat // i ≤ xs.length ∧ ∀ (j : Nat) (hj : j < xs.length), j < i → decide (s = xs[j]) = false}) (fun i => ⟨[.sl f 1 (strRow xs), .v (.string s), .any, .any, .any, .any, .any, .v (.int .i64 xs.length), .v (.int .i64 i.1), .any, .any, .any, .any, .any, .any, .any, .any, .any, .any], []⟩) (fun i => xs.length - i.1) ⟨0, by simp⟩ ⟨?_, Fq⟩ ?_
  · exact Lq
  · rintro ⟨i, hi, hn⟩
    by_cases hlt : (i : Int) < (xs.length : Int)
    · have hx : xs[i]? = some xs[i] := List.getElem?_eq_getElem (by omega)
      repeat' first | (with_reducible first | refine AWP_seq' ?_ | refine k_normal ?_ | refine k_ret ?_ | refine b_normal ?_ | refine b_ret ?_ | refine AWP_ret ?_ | refine AWP_skip ?_ | refine AWP_block ?_) | ((with_reducible refine And.intro ?_ ?_); · exact Sq) | ((with_reducible refine AWP_reg fun KC J hJ hKC => ?_); simp (maxSteps := 9999999) only [push_cast, seval, ↓reduceIte, hlt, getE_str hx, wrapN (i := i) (n := xs.length) (by omega) hb]) | ((with_reducible refine hJ _ _ ?_); clear hJ hKC KC J) | ((with_reducible refine AWP_condT ?_ ?_); · rfl) | (refine AWP_cond rfl (fun h => ?_) (fun h => ?_) <;> try simp only [decide_eq_true_eq, decide_eq_false_iff_not, Bool.not_eq_true', Bool.not_eq_false', beq_iff_eq, bne_iff_ne, ne_eq, Bool.not_eq_true, Bool.or_eq_true, Bool.and_eq_true, Bool.or_eq_false_iff, Bool.and_eq_false_imp, beq_eq_false_iff_ne, bne_eq_false_iff_eq] at h)
      · refine ret_plain ?_
        simp (maxSteps := 9999999) only [push_cast, seval, ↓reduceIte, show Tryz.f294.results = #[(.tmp 4)] from rfl]
        exact leD_v (by rw [idxF_at (by omega) (by simpa using h) hn])
      · refine ⟨⟨i + 1, by omega, fun j hj hji => ?_⟩, by simp only; omega, ?_, Fq⟩
        · by_cases he : j = i
          · subst he; simpa using h
          · exact hn j hj (by omega)
        · exact Lq
    · skip
      repeat' first | (with_reducible first | refine AWP_seq' ?_ | refine k_normal ?_ | refine k_exit ?_ | refine b_exit ?_ | refine AWP_ret ?_ | refine AWP_exit ?_) | ((with_reducible refine AWP_reg fun KC J hJ hKC => ?_); simp (maxSteps := 9999999) only [push_cast, seval, ↓reduceIte, hlt]) | ((with_reducible refine hJ _ _ ?_); clear hJ hKC KC J) | ((with_reducible refine AWP_condF ?_ ?_); · rfl)
      refine ret_plain ?_
      simp (maxSteps := 9999999) only [push_cast, seval, ↓reduceIte, show Tryz.f294.results = #[(.tmp 4)] from rfl]
      exact leD_v (by rw [idxF_none (fun j hj => hn j hj (by omega))])
def memB (s : ByteArray) (xs : List ByteArray) : Bool := xs.any (fun x => decide (s = x))
theorem containsStr_fn (f : Bool) (xs : List ByteArray) (s : ByteArray) (hb : xs.length ≤ 9223372036854775807) : Fn Tryz.prog 282 [.sl f 1 (strRow xs), .v (.string s)] [] (.v (.bool (memB s xs))) [] := by
  refine Fn.of (fn := Tryz.f282) (by kernel_rfl) rfl (by kernel_rfl) ⟨[.sl f 1 (strRow xs), .v (.string s), .v undef, .v undef, .v undef, .v undef, .v undef, .v undef, .v undef], []⟩ rfl ?_
  repeat' first | (with_reducible first | refine AWP_seq' ?_ | refine k_normal ?_ | refine AWP_ret ?_) | ((first | with_reducible refine AWP_reg fun KC J hJ hKC => ?_ | (refine' hKC _ _ _ _ _ (callV0 (indexStr_fn _ _ _ ?_) rfl rfl rfl ?_ ?_); (rotate_left 4); (· exact Lq); (rotate_left 1); (iterate 1 (· exact Hq)))); simp (maxSteps := 9999999) only [push_cast, seval, ↓reduceIte]) | ((with_reducible refine hJ _ _ ?_); clear hJ hKC KC J)
  refine ret_plain ?_
  simp (maxSteps := 9999999) only [push_cast, seval, ↓reduceIte, show Tryz.f282.results = #[(.tmp 4)] from rfl]
  exact leD_v (congrArg Value.bool idxF_any)
def fl (us : List Nat) (a b : Nat) : Bool := (us.getD a 0).testBit b
def U32 (us : List Nat) : Prop := ∀ u ∈ us, u < 2 ^ 32
theorem U32.get {us : List Nat} (h : U32 us) {i : Nat} (hi : i < us.length) : us.getD i 0 < 2 ^ 32 := by
  rw [List.getD_eq_getElem?_getD, List.getElem?_eq_getElem hi]; exact h _ (List.getElem_mem _)
theorem flows_fn (f g : Bool) (ns : List ByteArray) (us : List Nat) (a b : Nat) (hu : U32 us) (ha : a < us.length) :
    Fn Tryz.prog 272 [.agg [.sl f 1 (strRow ns), .sl g 1 (u32Row us)], .v (.int .i64 (a : Int)), .v (.int .i64 (b : Int))] [] (.v (.bool (fl us a b))) [] := by
  have hx := getD_of 0 ha
  have h1 : us.getD a 0 >>> b < 2 ^ 32 := Nat.lt_of_le_of_lt (Nat.shiftRight_le _ _) (hu.get ha)
  refine Fn.of (fn := Tryz.f272) (by kernel_rfl) rfl (by kernel_rfl) ⟨[.agg [.sl f 1 (strRow ns), .sl g 1 (u32Row us)], .v (.int .i64 (a : Int)), .v (.int .i64 (b : Int)), .v undef, .v undef, .v undef, .v undef, .v undef, .v undef, .v undef, .v undef, .v undef, .v undef, .v undef, .v undef, .v undef], []⟩ rfl ?_
  repeat' first | (with_reducible first | refine AWP_seq' ?_ | refine k_normal ?_ | refine AWP_ret ?_) | ((with_reducible refine And.intro ?_ ?_); · exact Sq) | ((with_reducible refine AWP_reg fun KC J hJ hKC => ?_); simp (maxSteps := 9999999) only [push_cast, seval, ↓reduceIte, getE_u32 hx, uv_shr (hu.get ha) (b := b), uv_and1 h1]) | ((with_reducible refine hJ _ _ ?_); clear hJ hKC KC J)
  refine ret_plain ?_
  simp (maxSteps := 9999999) only [push_cast, seval, ↓reduceIte, show Tryz.f272.results = #[(.tmp 6)] from rfl]
  refine leD_v (congrArg Value.bool ?_)
  rw [one_and, fl]
  cases (us.getD a 0).testBit b <;> rfl
theorem rFlows_fn (f g : Bool) (ns : List ByteArray) (us : List Nat) (a b : Nat) (hu : U32 us) (ha : a < us.length) (hb : b ≤ 1000) :
    Fn Tryz.prog 186 [.agg [.sl f 1 (strRow ns), .sl g 1 (u32Row us)], .v (.int .i64 (a : Int)), .v (.int .i64 (b : Int))] [] (.v (.bool (fl us a b))) [] := by
  have hx := getD_of 0 ha
  refine Fn.of (fn := Tryz.f186) (by kernel_rfl) rfl (by kernel_rfl) ⟨[.agg [.sl f 1 (strRow ns), .sl g 1 (u32Row us)], .v (.int .i64 (a : Int)), .v (.int .i64 (b : Int)), .v undef, .v undef, .v undef, .v undef, .v undef, .v undef, .v undef, .v undef, .v undef, .v undef, .v undef, .v undef, .v undef, .v undef, .v undef, .v undef, .v undef, .v undef, .v undef, .v undef, .v undef], []⟩ rfl ?_
  repeat' first | (with_reducible first | refine AWP_seq' ?_ | refine k_normal ?_ | refine AWP_block ?_) | ((with_reducible refine And.intro ?_ ?_); · exact Sq) | ((with_reducible refine AWP_reg fun KC J hJ hKC => ?_); simp (maxSteps := 9999999) only [push_cast, seval, ↓reduceIte, getE_u32 hx]) | ((with_reducible refine hJ _ _ ?_); clear hJ hKC KC J)
  refine AWP_loopF (γ := {i : Nat // i ≤ b}) (fun i => ⟨[.any, .any, .v (.int .i64 (b : Int)), .any, .any, .any, .any, .v (.int .u32 (uv (us.getD a 0 >>> i.1))), .v (.int .i64 i.1), .any, .any, .any, .any, .any, .any, .any, .any, .any, .any, .any, .any, .any, .any, .any], [.ent ⟨0, none, 25, [.sl f 1 (strRow ns), .sl g 1 (u32Row us)], .cells⟩]⟩) (fun i => b - i.1) ⟨0, by simp⟩ ⟨?_, Fq⟩ ?_
  · exact Lq
  · rintro ⟨i, hi⟩
    have h1 : us.getD a 0 >>> i < 2 ^ 32 := Nat.lt_of_le_of_lt (Nat.shiftRight_le _ _) (hu.get ha)
    by_cases hlt : (i : Int) < (b : Int)
    · have hs : us.getD a 0 >>> (i + 1) = us.getD a 0 >>> i / 2 := Nat.shiftRight_succ _ _
      repeat' first | (with_reducible first | refine AWP_seq' ?_ | refine k_normal ?_ | refine b_normal ?_ | refine AWP_skip ?_ | refine AWP_block ?_) | ((with_reducible refine AWP_reg fun KC J hJ hKC => ?_); simp (maxSteps := 9999999) only [push_cast, seval, ↓reduceIte, hlt, uv_half h1, ← hs, wrapN (i := i) (n := b) (by omega) (by omega)]) | ((with_reducible refine hJ _ _ ?_); clear hJ hKC KC J) | ((with_reducible refine AWP_condT ?_ ?_); · rfl)
      refine ⟨⟨i + 1, by omega⟩, by simp only; omega, ?_, Fq⟩
      exact Lq
    · obtain rfl : i = b := by omega
      repeat' first | (with_reducible first | refine AWP_seq' ?_ | refine k_normal ?_ | refine k_exit ?_ | refine b_exit ?_ | refine AWP_ret ?_ | refine AWP_exit ?_) | ((with_reducible refine AWP_reg fun KC J hJ hKC => ?_); simp (maxSteps := 9999999) only [push_cast, seval, ↓reduceIte, hlt, uv_mod]) | ((with_reducible refine hJ _ _ ?_); clear hJ hKC KC J) | ((with_reducible refine AWP_condF ?_ ?_); · rfl)
      refine ret_plain ?_
      simp (maxSteps := 9999999) only [push_cast, seval, ↓reduceIte, show Tryz.f186.results = #[(.tmp 6)] from rfl]
      refine leD_v (congrArg Value.bool ?_)
      rw [fl, Nat.testBit_eq_decide_div_mod_eq, Nat.shiftRight_eq_div_pow]
theorem high_fn (u n : Nat) (hu : u < 2 ^ 32) (hn : n ≤ 1000) : Fn Tryz.prog 230 [.v (.int .u32 (uv u)), .v (.int .i64 (n : Int))] [] (.v (.bool (decide (0 < u >>> n)))) [] := by
  refine Fn.of (fn := Tryz.f230) (by kernel_rfl) rfl (by kernel_rfl) ⟨[.v (.int .u32 (uv u)), .v (.int .i64 (n : Int)), .v undef, .v undef, .v undef, .v undef, .v undef, .v undef, .v undef, .v undef, .v undef, .v undef, .v undef, .v undef, .v undef], []⟩ rfl ?_
  repeat' first | (with_reducible first | refine AWP_seq' ?_ | refine k_normal ?_ | refine AWP_block ?_) | ((with_reducible refine AWP_reg fun KC J hJ hKC => ?_); simp (maxSteps := 9999999) only [push_cast, seval, ↓reduceIte]) | ((with_reducible refine hJ _ _ ?_); clear hJ hKC KC J)
  refine AWP_loopF (γ := {i : Nat // i ≤ n}) (fun i => ⟨[.v (.int .u32 (uv (u >>> i.1))), .v (.int .i64 (n : Int)), .any, .any, .any, .v (.int .i64 i.1), .any, .any, .any, .any, .any, .any, .any, .any, .any], []⟩) (fun i => n - i.1) ⟨0, by simp⟩ ⟨?_, Fq⟩ ?_
  · exact Lq
  · rintro ⟨i, hi⟩
    have h1 : u >>> i < 2 ^ 32 := Nat.lt_of_le_of_lt (Nat.shiftRight_le _ _) hu
    by_cases hlt : (i : Int) < (n : Int)
    · have hs : u >>> (i + 1) = u >>> i / 2 := Nat.shiftRight_succ _ _
      repeat' first | (with_reducible first | refine AWP_seq' ?_ | refine k_normal ?_ | refine b_normal ?_ | refine AWP_skip ?_ | refine AWP_block ?_) | ((with_reducible refine AWP_reg fun KC J hJ hKC => ?_); simp (maxSteps := 9999999) only [push_cast, seval, ↓reduceIte, hlt, uv_half h1, ← hs, wrapN (i := i) (n := n) (by omega) (by omega)]) | ((with_reducible refine hJ _ _ ?_); clear hJ hKC KC J) | ((with_reducible refine AWP_condT ?_ ?_); · rfl)
      refine ⟨⟨i + 1, by omega⟩, by simp only; omega, ?_, Fq⟩
      exact Lq
    · obtain rfl : i = n := by omega
      repeat' first | (with_reducible first | refine AWP_seq' ?_ | refine k_normal ?_ | refine k_exit ?_ | refine b_exit ?_ | refine AWP_ret ?_ | refine AWP_exit ?_) | ((with_reducible refine AWP_reg fun KC J hJ hKC => ?_); simp (maxSteps := 9999999) only [push_cast, seval, ↓reduceIte, hlt]) | ((with_reducible refine hJ _ _ ?_); clear hJ hKC KC J) | ((with_reducible refine AWP_condF ?_ ?_); · rfl)
      refine ret_plain ?_
      simp (maxSteps := 9999999) only [push_cast, seval, ↓reduceIte, show Tryz.f230.results = #[(.tmp 4)] from rfl]
      exact Lq
end Go.Proofs.YtabliglgeiajlaaGreat.AM

namespace Go.Proofs.YtabliglgeiajlaaGreat.AM
open Go Go.RowKit Go.Proofs
set_option maxRecDepth 100000
set_option maxHeartbeats 400000
def mayAt (ns : List ByteArray) (us : List Nat) (i : Nat) : Bool := nameB (ns.getD i { data := #[] }) && !memB (ns.getD i { data := #[] }) (ns.take i) && decide (us.getD i 0 >>> us.length = 0)
def mayB (ns : List ByteArray) (us : List Nat) : Bool := decide (1 ≤ us.length ∧ us.length ≤ 8 ∧ ns.length = us.length) && (List.range us.length).all (mayAt ns us)
theorem mayB_no {ns : List ByteArray} {us : List Nat} (h : ¬ (1 ≤ us.length ∧ us.length ≤ 8 ∧ ns.length = us.length)) : mayB ns us = false := by simp [mayB, h]
theorem mayB_at {ns : List ByteArray} {us : List Nat} {i : Nat} (hi : i < us.length) (h : mayAt ns us i = false) : mayB ns us = false := by
  have : (List.range us.length).all (mayAt ns us) = false := by
    rw [List.all_eq_false]
    exact ⟨i, by simpa using hi, by simp [h]⟩
  simp [mayB, this]
theorem mayB_yes {ns : List ByteArray} {us : List Nat} (h : 1 ≤ us.length ∧ us.length ≤ 8 ∧ ns.length = us.length) (ha : ∀ i, i < us.length → mayAt ns us i = true) : mayB ns us = true := by
  simp only [mayB, Bool.and_eq_true, decide_eq_true_eq, List.all_eq_true]
  exact ⟨h, fun i hi => ha i (by simpa using hi)⟩
theorem mayB_get {ns : List ByteArray} {us : List Nat} (h : mayB ns us = true) : (1 ≤ us.length ∧ us.length ≤ 8 ∧ ns.length = us.length) ∧ ∀ i, i < us.length → mayAt ns us i = true := by
  simp only [mayB, Bool.and_eq_true, decide_eq_true_eq, List.all_eq_true] at h
  exact ⟨h.1, fun i hi => h.2 i (by simpa using hi)⟩
def Szs (ns : List ByteArray) : Prop := ∀ s ∈ ns, s.size ≤ 9223372036854775807
theorem Szs.get {ns : List ByteArray} (h : Szs ns) {i : Nat} (hi : i < ns.length) : (ns.getD i { data := #[] }).size ≤ 9223372036854775807 := by
  rw [List.getD_eq_getElem?_getD, List.getElem?_eq_getElem hi]; exact h _ (List.getElem_mem _)
theorem latMay_fn (f g : Bool) (ns : List ByteArray) (us : List Nat) (hs : Szs ns) (hu : U32 us) :
    Fn Tryz.prog 235 [.agg [.sl f 1 (strRow ns), .sl g 1 (u32Row us)]] [] (.v (.bool (mayB ns us))) [] := by
  refine Fn.of (fn := Tryz.f235) (by kernel_rfl) rfl (by kernel_rfl) ⟨[.agg [.sl f 1 (strRow ns), .sl g 1 (u32Row us)], .v undef, .v undef, .v undef, .v undef, .v undef, .v undef, .v undef, .v undef, .v undef, .v undef, .v undef, .v undef, .v undef, .v undef, .v undef, .v undef, .v undef, .v undef, .v undef, .v undef, .v undef, .v undef, .v undef, .v undef, .v undef, .v undef, .v undef, .v undef, .v undef, .v undef, .v undef, .v undef, .v undef, .v undef, .v undef, .v undef, .v undef, .v undef, .v undef, .v undef, .v undef, .v undef, .v undef, .v undef, .v undef, .v undef, .v undef, .v undef, .v undef, .v undef, .v undef], []⟩ rfl ?_
  by_cases h1 : (us.length : Int) < 1
  · skip
    repeat' first | (with_reducible first | refine AWP_seq' ?_ | refine k_normal ?_ | refine k_ret ?_ | refine AWP_ret ?_) | ((with_reducible refine AWP_reg fun KC J hJ hKC => ?_); simp (maxSteps := 9999999) only [push_cast, seval, ↓reduceIte, h1]) | ((with_reducible refine hJ _ _ ?_); clear hJ hKC KC J) | ((with_reducible refine AWP_condT ?_ ?_); · rfl)
    refine ret_plain ?_
    simp (maxSteps := 9999999) only [push_cast, seval, ↓reduceIte, show Tryz.f235.results = #[(.tmp 2)] from rfl]
    rw [mayB_no (by omega)]
    exact leD_refl _
  by_cases h2 : (8 : Int) < us.length
  · skip
    repeat' first | (with_reducible first | refine AWP_seq' ?_ | refine k_normal ?_ | refine k_ret ?_ | refine AWP_ret ?_) | ((with_reducible refine AWP_reg fun KC J hJ hKC => ?_); simp (maxSteps := 9999999) only [push_cast, seval, ↓reduceIte, h1, h2]) | ((with_reducible refine hJ _ _ ?_); clear hJ hKC KC J) | ((with_reducible refine AWP_condT ?_ ?_); · rfl)
    refine ret_plain ?_
    simp (maxSteps := 9999999) only [push_cast, seval, ↓reduceIte, show Tryz.f235.results = #[(.tmp 2)] from rfl]
    rw [mayB_no (by omega)]
    exact leD_refl _
  by_cases h3 : ns.length = us.length
  · have h3' : ((ns.length : Int) != (us.length : Int)) = false := by simp [h3]
    repeat' first | (with_reducible first | refine AWP_seq' ?_ | refine k_normal ?_ | refine AWP_skip ?_ | refine AWP_block ?_) | ((with_reducible refine AWP_reg fun KC J hJ hKC => ?_); simp (maxSteps := 9999999) only [push_cast, seval, ↓reduceIte, h1, h2, h3']) | ((with_reducible refine hJ _ _ ?_); clear hJ hKC KC J) | ((with_reducible refine AWP_condF ?_ ?_); · rfl)
    refine AWP_loopF (γ := {i : Nat // i ≤ us.length ∧ ∀ j, j < i → mayAt ns us j = true}) (fun i => ⟨[.any, .ptr 0 0 0, .any, .v (.int .i64 us.length), .any, .any, .any, .any, .any, .any, .any, .any, .any, .any, .any, .any, .any, .any, .any, .any, .any, .any, .any, .sl f 1 (strRow ns), .v (.int .i64 ns.length), .v (.int .i64 i.1), .any, .any, .any, .any, .any, .any, .any, .any, .any, .any, .any, .any, .any, .any, .any, .any, .any, .any, .any, .any, .any, .any, .any, .any, .any, .any], [.ent ⟨0, none, 25, [.sl f 1 (strRow ns), .sl g 1 (u32Row us)], .cells⟩]⟩) (fun i => us.length - i.1) ⟨0, by simp⟩ ⟨?_, Fq⟩ ?_
    · exact Lq
    · rintro ⟨i, hi, hn⟩
      by_cases hlt : (i : Int) < (ns.length : Int)
      · have hlu : i < us.length := by omega
        have hx := getD_of ({ data := #[] } : ByteArray) (show i < ns.length by omega)
        have hy := getD_of 0 hlu
        have hsz := hs.get (show i < ns.length by omega)
        have hul := hu.get hlu
        by_cases c1 : nameB (ns.getD i { data := #[] }) = true
        · by_cases c2 : memB (ns.getD i { data := #[] }) (ns.take i) = true
          · skip
            repeat' first | (with_reducible first | refine AWP_seq' ?_ | refine k_normal ?_ | refine k_ret ?_ | refine b_ret ?_ | refine AWP_ret ?_ | refine AWP_skip ?_ | refine AWP_block ?_) | ((with_reducible refine And.intro ?_ ?_); · exact Sq) | ((first | with_reducible refine AWP_reg fun KC J hJ hKC => ?_ | (refine' hKC _ _ _ _ _ (callV0 (name_fn _ ?_) rfl rfl rfl ?_ ?_); (rotate_left 2); (· exact Lq); (rotate_left 1); (iterate 1 (· exact Hq))) | (refine' hKC _ _ _ _ _ (callV0 (containsStr_fn _ _ _ ?_) rfl rfl rfl ?_ ?_); (rotate_left 4); (· exact Lq); (rotate_left 1); (iterate 1 (· exact Hq)))); simp (maxSteps := 9999999) only [push_cast, seval, ↓reduceIte, hlt, getE_str hx, getE_u32 hy, c1, c2]) | ((with_reducible refine hJ _ _ ?_); clear hJ hKC KC J) | ((with_reducible refine AWP_condT ?_ ?_); · rfl)
            refine ret_plain ?_
            simp (maxSteps := 9999999) only [push_cast, seval, ↓reduceIte, show Tryz.f235.results = #[(.tmp 2)] from rfl]
            rw [mayB_at hlu (by simp only [mayAt, c1, c2]; rfl)]
            exact leD_refl _
          have c2' : memB (ns.getD i { data := #[] }) (ns.take i) = false := by simpa using c2
          by_cases c3 : us.getD i 0 >>> us.length = 0
          · skip
            repeat' first | (with_reducible first | refine AWP_seq' ?_ | refine k_normal ?_ | refine b_normal ?_ | refine AWP_skip ?_ | refine AWP_block ?_) | ((with_reducible refine And.intro ?_ ?_); · exact Sq) | ((first | with_reducible refine AWP_reg fun KC J hJ hKC => ?_ | (refine' hKC _ _ _ _ _ (callV0 (name_fn _ ?_) rfl rfl rfl ?_ ?_); (rotate_left 2); (· exact Lq); (rotate_left 1); (iterate 1 (· exact Hq))) | (refine' hKC _ _ _ _ _ (callV0 (containsStr_fn _ _ _ ?_) rfl rfl rfl ?_ ?_); (rotate_left 4); (· exact Lq); (rotate_left 1); (iterate 1 (· exact Hq)))); simp (maxSteps := 9999999) only [push_cast, seval, ↓reduceIte, hlt, getE_str hx, getE_u32 hy, c1, c2', uv_shr hul (b := us.length), c3, wrapN (i := i) (n := us.length) (by omega) (by omega)]) | ((with_reducible refine hJ _ _ ?_); clear hJ hKC KC J) | ((with_reducible refine AWP_condT ?_ ?_); · rfl) | ((with_reducible refine AWP_condF ?_ ?_); · rfl)
            refine ⟨⟨i + 1, by omega, fun j hj => ?_⟩, by simp only; omega, ?_, Fq⟩
            · by_cases he : j = i
              · subst he; simp only [mayAt, c1, c2', c3]; rfl
              · exact hn j (by omega)
            · exact Lq
          · have c3' : decide (us.getD i 0 >>> us.length = 0) = false := by simpa using c3
            repeat' first | (with_reducible first | refine AWP_seq' ?_ | refine k_normal ?_ | refine k_ret ?_ | refine b_ret ?_ | refine AWP_ret ?_ | refine AWP_skip ?_ | refine AWP_block ?_) | ((with_reducible refine And.intro ?_ ?_); · exact Sq) | ((first | with_reducible refine AWP_reg fun KC J hJ hKC => ?_ | (refine' hKC _ _ _ _ _ (callV0 (name_fn _ ?_) rfl rfl rfl ?_ ?_); (rotate_left 2); (· exact Lq); (rotate_left 1); (iterate 1 (· exact Hq))) | (refine' hKC _ _ _ _ _ (callV0 (containsStr_fn _ _ _ ?_) rfl rfl rfl ?_ ?_); (rotate_left 4); (· exact Lq); (rotate_left 1); (iterate 1 (· exact Hq)))); simp (maxSteps := 9999999) only [push_cast, seval, ↓reduceIte, hlt, getE_str hx, getE_u32 hy, c1, c2', uv_shr hul (b := us.length), c3']) | ((with_reducible refine hJ _ _ ?_); clear hJ hKC KC J) | ((with_reducible refine AWP_condT ?_ ?_); · rfl)
            refine ret_plain ?_
            simp (maxSteps := 9999999) only [push_cast, seval, ↓reduceIte, show Tryz.f235.results = #[(.tmp 2)] from rfl]
            rw [mayB_at hlu (by simp only [mayAt, c1, c2', c3']; rfl)]
            exact leD_refl _
        · have c1' : nameB (ns.getD i { data := #[] }) = false := by simpa using c1
          repeat' first | (with_reducible first | refine AWP_seq' ?_ | refine k_normal ?_ | refine k_ret ?_ | refine b_ret ?_ | refine AWP_ret ?_ | refine AWP_skip ?_ | refine AWP_block ?_) | ((with_reducible refine And.intro ?_ ?_); · exact Sq) | ((first | with_reducible refine AWP_reg fun KC J hJ hKC => ?_ | (refine' hKC _ _ _ _ _ (callV0 (name_fn _ ?_) rfl rfl rfl ?_ ?_); (rotate_left 2); (· exact Lq); (rotate_left 1); (iterate 1 (· exact Hq)))); simp (maxSteps := 9999999) only [push_cast, seval, ↓reduceIte, hlt, getE_str hx, getE_u32 hy, c1']) | ((with_reducible refine hJ _ _ ?_); clear hJ hKC KC J) | ((with_reducible refine AWP_condT ?_ ?_); · rfl)
          refine ret_plain ?_
          simp (maxSteps := 9999999) only [push_cast, seval, ↓reduceIte, show Tryz.f235.results = #[(.tmp 2)] from rfl]
          rw [mayB_at hlu (by simp only [mayAt, c1']; rfl)]
          exact leD_refl _
      · skip
        repeat' first | (with_reducible first | refine AWP_seq' ?_ | refine k_normal ?_ | refine k_exit ?_ | refine b_exit ?_ | refine AWP_ret ?_ | refine AWP_exit ?_) | ((with_reducible refine AWP_reg fun KC J hJ hKC => ?_); simp (maxSteps := 9999999) only [push_cast, seval, ↓reduceIte, hlt]) | ((with_reducible refine hJ _ _ ?_); clear hJ hKC KC J) | ((with_reducible refine AWP_condF ?_ ?_); · rfl)
        refine ret_plain ?_
        simp (maxSteps := 9999999) only [push_cast, seval, ↓reduceIte, show Tryz.f235.results = #[(.tmp 2)] from rfl]
        rw [mayB_yes ⟨by omega, by omega, h3⟩ (fun j hj => hn j (by omega))]
        exact leD_refl _
  · have h3' : ((ns.length : Int) != (us.length : Int)) = true := by simp; omega
    repeat' first | (with_reducible first | refine AWP_seq' ?_ | refine k_normal ?_ | refine k_ret ?_ | refine AWP_ret ?_) | ((with_reducible refine AWP_reg fun KC J hJ hKC => ?_); simp (maxSteps := 9999999) only [push_cast, seval, ↓reduceIte, h1, h2, h3']) | ((with_reducible refine hJ _ _ ?_); clear hJ hKC KC J) | ((with_reducible refine AWP_condT ?_ ?_); · rfl)
    refine ret_plain ?_
    simp (maxSteps := 9999999) only [push_cast, seval, ↓reduceIte, show Tryz.f235.results = #[(.tmp 2)] from rfl]
    rw [mayB_no (by omega)]
    exact leD_refl _
theorem rMay_fn (f g : Bool) (ns : List ByteArray) (us : List Nat) (hs : Szs ns) (hu : U32 us) :
    Fn Tryz.prog 129 [.agg [.sl f 1 (strRow ns), .sl g 1 (u32Row us)]] [] (.v (.bool (mayB ns us))) [] := by
  refine Fn.of (fn := Tryz.f129) (by kernel_rfl) rfl (by kernel_rfl) ⟨[.agg [.sl f 1 (strRow ns), .sl g 1 (u32Row us)], .v undef, .v undef, .v undef, .v undef, .v undef, .v undef, .v undef, .v undef, .v undef, .v undef, .v undef, .v undef, .v undef, .v undef, .v undef, .v undef, .v undef, .v undef, .v undef, .v undef, .v undef, .v undef, .v undef, .v undef, .v undef, .v undef, .v undef, .v undef, .v undef, .v undef, .v undef, .v undef, .v undef, .v undef, .v undef, .v undef, .v undef, .v undef, .v undef, .v undef, .v undef, .v undef, .v undef, .v undef, .v undef, .v undef, .v undef, .v undef, .v undef, .v undef, .v undef, .v undef, .v undef, .v undef, .v undef, .v undef, .v undef, .v undef, .v undef, .v undef, .v undef], []⟩ rfl ?_
  by_cases h1 : (us.length : Int) < 1
  · skip
    repeat' first | (with_reducible first | refine AWP_seq' ?_ | refine k_normal ?_ | refine k_ret ?_ | refine AWP_ret ?_) | ((with_reducible refine AWP_reg fun KC J hJ hKC => ?_); simp (maxSteps := 9999999) only [push_cast, seval, ↓reduceIte, h1]) | ((with_reducible refine hJ _ _ ?_); clear hJ hKC KC J) | ((with_reducible refine AWP_condT ?_ ?_); · rfl)
    refine ret_plain ?_
    simp (maxSteps := 9999999) only [push_cast, seval, ↓reduceIte, show Tryz.f129.results = #[(.tmp 2)] from rfl]
    rw [mayB_no (by omega)]
    exact leD_refl _
  by_cases h2 : (8 : Int) < us.length
  · skip
    repeat' first | (with_reducible first | refine AWP_seq' ?_ | refine k_normal ?_ | refine k_ret ?_ | refine AWP_ret ?_) | ((with_reducible refine AWP_reg fun KC J hJ hKC => ?_); simp (maxSteps := 9999999) only [push_cast, seval, ↓reduceIte, h1, h2]) | ((with_reducible refine hJ _ _ ?_); clear hJ hKC KC J) | ((with_reducible refine AWP_condT ?_ ?_); · rfl)
    refine ret_plain ?_
    simp (maxSteps := 9999999) only [push_cast, seval, ↓reduceIte, show Tryz.f129.results = #[(.tmp 2)] from rfl]
    rw [mayB_no (by omega)]
    exact leD_refl _
  by_cases h3 : ns.length = us.length
  · have h3' : ((ns.length : Int) != (us.length : Int)) = false := by simp [h3]
    repeat' first | (with_reducible first | refine AWP_seq' ?_ | refine k_normal ?_ | refine AWP_skip ?_ | refine AWP_block ?_) | ((with_reducible refine AWP_reg fun KC J hJ hKC => ?_); simp (maxSteps := 9999999) only [push_cast, seval, ↓reduceIte, h1, h2, h3']) | ((with_reducible refine hJ _ _ ?_); clear hJ hKC KC J) | ((with_reducible refine AWP_condF ?_ ?_); · rfl)
    refine AWP_loopF (γ := {i : Nat // i ≤ us.length ∧ ∀ j, j < i → mayAt ns us j = true}) (fun i => ⟨[.any, .ptr 0 0 0, .any, .any, .any, .any, .any, .any, .any, .any, .any, .any, .any, .any, .any, .any, .any, .any, .any, .any, .any, .any, .any, .any, .any, .any, .any, .sl f 1 (strRow ns), .v (.int .i64 ns.length), .v (.int .i64 i.1), .any, .any, .any, .any, .any, .any, .any, .any, .any, .any, .any, .any, .any, .any, .any, .any, .any, .any, .any, .any, .any, .any, .any, .any, .any, .any, .any, .any, .any, .any, .any, .any], [.ent ⟨0, none, 25, [.sl f 1 (strRow ns), .sl g 1 (u32Row us)], .cells⟩]⟩) (fun i => us.length - i.1) ⟨0, by simp⟩ ⟨?_, Fq⟩ ?_
    · exact Lq
    · rintro ⟨i, hi, hn⟩
      by_cases hlt : (i : Int) < (ns.length : Int)
      · have hlu : i < us.length := by omega
        have hx := getD_of ({ data := #[] } : ByteArray) (show i < ns.length by omega)
        have hy := getD_of 0 hlu
        have hsz := hs.get (show i < ns.length by omega)
        have hul := hu.get hlu
        by_cases c1 : nameB (ns.getD i { data := #[] }) = true
        · by_cases c3 : us.getD i 0 >>> us.length = 0
          · have c3' : decide (0 < us.getD i 0 >>> us.length) = false := decide_eq_false (by rw [c3]; exact Nat.lt_irrefl 0)
            repeat' first | (with_reducible first | refine AWP_seq' ?_ | refine k_normal ?_ | refine AWP_skip ?_ | refine AWP_block ?_) | ((with_reducible refine And.intro ?_ ?_); · exact Sq) | ((first | with_reducible refine AWP_reg fun KC J hJ hKC => ?_ | with_reducible refine AWP_regD rfl fun KC J hJ hKC => ?_ | (refine' hKC _ _ _ _ _ (callV0 (rName_fn _ ?_) rfl rfl rfl ?_ ?_); (rotate_left 2); (· exact Lq); (rotate_left 1); (iterate 1 (· exact Hq))) | (refine' hKC _ _ _ _ _ (callV0 (high_fn _ _ ?_ ?_) rfl rfl rfl ?_ ?_); (rotate_left 4); (· exact Lq); (rotate_left 1); (iterate 2 (· exact Hq)))); simp (maxSteps := 9999999) only [push_cast, seval, ↓reduceIte, hlt, getE_str hx, getE_u32 hy, c1, c3']) | ((first | with_reducible refine hJ _ _ ?_ | (with_reducible refine hJ _ _ ?_ ?_; · kernel_rfl)); clear hJ hKC KC J) | ((with_reducible refine AWP_condT ?_ ?_); · rfl) | ((with_reducible refine AWP_condF ?_ ?_); · rfl)
            have htl : (ns.take i).length = i := by simp; omega
            refine AWP_loopF (γ := {k : Nat // k ≤ i ∧ ∀ (j : Nat) (hj : j < (ns.take i).length), j < k → decide (ns.getD i { data := #[] } = (ns.take i)[j]) = false}) (fun k => ⟨[.any, .ptr 0 0 0, .any, .any, .v (.string (ns.getD i { data := #[] })), .any, .any, .any, .any, .any, .any, .any, .any, .any, .any, .any, .any, .any, .any, .any, .any, .any, .any, .any, .any, .any, .any, .sl f 1 (strRow ns), .v (.int .i64 ns.length), .v (.int .i64 i), .any, .any, .any, .any, .any, .any, .any, .any, .any, .any, .any, .any, .any, .any, .any, .any, .any, .any, .any, .any, .any, .sl false 1 (strRow (ns.take i)), .v (.int .i64 (ns.take i).length), .v (.int .i64 k.1), .any, .any, .any, .any, .any, .any, .any, .any], [.ent ⟨0, none, 25, [.sl f 1 (strRow ns), .sl g 1 (u32Row us)], .cells⟩]⟩) (fun k => i - k.1) ⟨0, by simp⟩ ⟨?_, Fq⟩ ?_
            · exact Lq
            · rintro ⟨k, hk, hkn⟩
              by_cases hlk : (k : Int) < ((ns.take i).length : Int)
              · have hz : (ns.take i)[k]? = some (ns.take i)[k] := List.getElem?_eq_getElem (by omega)
                by_cases c4 : (ns.take i)[k] = ns.getD i { data := #[] }
                · skip
                  repeat' first | (with_reducible first | refine AWP_seq' ?_ | refine k_normal ?_ | refine k_ret ?_ | refine b_ret ?_ | refine AWP_ret ?_ | refine AWP_skip ?_ | refine AWP_block ?_) | ((with_reducible refine And.intro ?_ ?_); · exact Sq) | ((with_reducible refine AWP_reg fun KC J hJ hKC => ?_); simp (maxSteps := 9999999) only [push_cast, seval, ↓reduceIte, hlk, getE_str hz, c4]) | ((with_reducible refine hJ _ _ ?_); clear hJ hKC KC J) | ((with_reducible refine AWP_condT ?_ ?_); · rfl)
                  refine ret_plain ?_
                  simp (maxSteps := 9999999) only [push_cast, seval, ↓reduceIte, show Tryz.f129.results = #[(.tmp 2)] from rfl]
                  have : memB (ns.getD i { data := #[] }) (ns.take i) = true := List.any_eq_true.2 ⟨_, List.getElem_mem (show k < (ns.take i).length by omega), by simp [c4]⟩
                  rw [mayB_at hlu (by simp only [mayAt, c1, this]; rfl)]
                  exact leD_refl _
                · have c4' : decide ((ns.take i)[k] = ns.getD i { data := #[] }) = false := by simpa using c4
                  repeat' first | (with_reducible first | refine AWP_seq' ?_ | refine k_normal ?_ | refine b_normal ?_ | refine AWP_skip ?_ | refine AWP_block ?_) | ((with_reducible refine And.intro ?_ ?_); · exact Sq) | ((with_reducible refine AWP_reg fun KC J hJ hKC => ?_); simp (maxSteps := 9999999) only [push_cast, seval, ↓reduceIte, hlk, getE_str hz, c4', wrapN (i := k) (n := i) (by omega) (by omega)]) | ((with_reducible refine hJ _ _ ?_); clear hJ hKC KC J) | ((with_reducible refine AWP_condT ?_ ?_); · rfl) | ((with_reducible refine AWP_condF ?_ ?_); · rfl)
                  refine ⟨⟨k + 1, by omega, fun j hj hjk => ?_⟩, by simp only; omega, ?_, Fq⟩
                  · by_cases he : j = k
                    · subst he; exact decide_eq_false fun h => c4 h.symm
                    · exact hkn j hj (by omega)
                  · exact Lq
              · have c2' : memB (ns.getD i { data := #[] }) (ns.take i) = false := by
                  rw [memB, List.any_eq_false]
                  intro x hx'
                  obtain ⟨j, hj, rfl⟩ := List.mem_iff_getElem.1 hx'
                  have := hkn j hj (by omega)
                  simpa using this
                repeat' first | (with_reducible first | refine AWP_seq' ?_ | refine k_normal ?_ | refine k_exit ?_ | refine b_normal ?_ | refine b_exit ?_ | refine AWP_exit ?_) | ((with_reducible refine AWP_reg fun KC J hJ hKC => ?_); simp (maxSteps := 9999999) only [push_cast, seval, ↓reduceIte, hlk, wrapN (i := i) (n := us.length) (by omega) (by omega)]) | ((with_reducible refine hJ _ _ ?_); clear hJ hKC KC J) | ((with_reducible refine AWP_condF ?_ ?_); · rfl)
                refine ⟨⟨i + 1, by omega, fun j hj => ?_⟩, by simp only; omega, ?_, Fq⟩
                · by_cases he : j = i
                  · subst he; simp only [mayAt, c1, c2', c3]; rfl
                  · exact hn j (by omega)
                · exact Lq
          · have c3' : decide (0 < us.getD i 0 >>> us.length) = true := decide_eq_true (Nat.pos_of_ne_zero c3)
            repeat' first | (with_reducible first | refine AWP_seq' ?_ | refine k_normal ?_ | refine k_ret ?_ | refine b_ret ?_ | refine AWP_ret ?_ | refine AWP_skip ?_ | refine AWP_block ?_) | ((with_reducible refine And.intro ?_ ?_); · exact Sq) | ((first | with_reducible refine AWP_reg fun KC J hJ hKC => ?_ | with_reducible refine AWP_regD rfl fun KC J hJ hKC => ?_ | (refine' hKC _ _ _ _ _ (callV0 (rName_fn _ ?_) rfl rfl rfl ?_ ?_); (rotate_left 2); (· exact Lq); (rotate_left 1); (iterate 1 (· exact Hq))) | (refine' hKC _ _ _ _ _ (callV0 (high_fn _ _ ?_ ?_) rfl rfl rfl ?_ ?_); (rotate_left 4); (· exact Lq); (rotate_left 1); (iterate 2 (· exact Hq)))); simp (maxSteps := 9999999) only [push_cast, seval, ↓reduceIte, hlt, getE_str hx, getE_u32 hy, c1, c3']) | ((first | with_reducible refine hJ _ _ ?_ | (with_reducible refine hJ _ _ ?_ ?_; · kernel_rfl)); clear hJ hKC KC J) | ((with_reducible refine AWP_condT ?_ ?_); · rfl)
            refine ret_plain ?_
            simp (maxSteps := 9999999) only [push_cast, seval, ↓reduceIte, show Tryz.f129.results = #[(.tmp 2)] from rfl]
            rw [mayB_at hlu (by simp only [mayAt, c1, decide_eq_false c3]; simp)]
            exact leD_refl _
        · have c1' : nameB (ns.getD i { data := #[] }) = false := by simpa using c1
          repeat' first | (with_reducible first | refine AWP_seq' ?_ | refine k_normal ?_ | refine k_ret ?_ | refine b_ret ?_ | refine AWP_ret ?_ | refine AWP_skip ?_ | refine AWP_block ?_) | ((with_reducible refine And.intro ?_ ?_); · exact Sq) | ((first | with_reducible refine AWP_reg fun KC J hJ hKC => ?_ | with_reducible refine AWP_regD rfl fun KC J hJ hKC => ?_ | (refine' hKC _ _ _ _ _ (callV0 (rName_fn _ ?_) rfl rfl rfl ?_ ?_); (rotate_left 2); (· exact Lq); (rotate_left 1); (iterate 1 (· exact Hq)))); simp (maxSteps := 9999999) only [push_cast, seval, ↓reduceIte, hlt, getE_str hx, getE_u32 hy, c1']) | ((first | with_reducible refine hJ _ _ ?_ | (with_reducible refine hJ _ _ ?_ ?_; · kernel_rfl)); clear hJ hKC KC J) | ((with_reducible refine AWP_condT ?_ ?_); · rfl)
          refine ret_plain ?_
          simp (maxSteps := 9999999) only [push_cast, seval, ↓reduceIte, show Tryz.f129.results = #[(.tmp 2)] from rfl]
          rw [mayB_at hlu (by simp only [mayAt, c1']; rfl)]
          exact leD_refl _
      · skip
        repeat' first | (with_reducible first | refine AWP_seq' ?_ | refine k_normal ?_ | refine k_exit ?_ | refine b_exit ?_ | refine AWP_ret ?_ | refine AWP_exit ?_) | ((with_reducible refine AWP_reg fun KC J hJ hKC => ?_); simp (maxSteps := 9999999) only [push_cast, seval, ↓reduceIte, hlt]) | ((with_reducible refine hJ _ _ ?_); clear hJ hKC KC J) | ((with_reducible refine AWP_condF ?_ ?_); · rfl)
        refine ret_plain ?_
        simp (maxSteps := 9999999) only [push_cast, seval, ↓reduceIte, show Tryz.f129.results = #[(.tmp 2)] from rfl]
        rw [mayB_yes ⟨by omega, by omega, h3⟩ (fun j hj => hn j (by omega))]
        exact leD_refl _
  · have h3' : ((ns.length : Int) != (us.length : Int)) = true := by simp; omega
    repeat' first | (with_reducible first | refine AWP_seq' ?_ | refine k_normal ?_ | refine k_ret ?_ | refine AWP_ret ?_) | ((with_reducible refine AWP_reg fun KC J hJ hKC => ?_); simp (maxSteps := 9999999) only [push_cast, seval, ↓reduceIte, h1, h2, h3']) | ((with_reducible refine hJ _ _ ?_); clear hJ hKC KC J) | ((with_reducible refine AWP_condT ?_ ?_); · rfl)
    refine ret_plain ?_
    simp (maxSteps := 9999999) only [push_cast, seval, ↓reduceIte, show Tryz.f129.results = #[(.tmp 2)] from rfl]
    rw [mayB_no (by omega)]
    exact leD_refl _
end Go.Proofs.YtabliglgeiajlaaGreat.AM

namespace Go.Proofs.YtabliglgeiajlaaGreat.AM
open Go Go.RowKit Go.Proofs
def Low (us : List Nat) : Prop := ∀ a, a < us.length → us.getD a 0 < 2 ^ us.length
theorem low_of_may {ns : List ByteArray} {us : List Nat} (h : mayB ns us = true) : Low us := fun a ha => by
  have := (mayB_get h).2 a ha
  simp only [mayAt, Bool.and_eq_true, decide_eq_true_eq] at this
  have h2 := this.2
  rw [Nat.shiftRight_eq_div_pow] at h2
  exact (Nat.div_eq_zero_iff_lt (Nat.two_pow_pos _)).1 h2
theorem Low.bit {us : List Nat} (h : Low us) {a : Nat} (ha : a < us.length) {i : Nat} (hi : fl us a i = true) : i < us.length := by
  rcases Nat.lt_or_ge i us.length with h1 | h1
  · exact h1
  · exfalso
    have : (us.getD a 0).testBit i = false := Nat.testBit_lt_two_pow (Nat.lt_of_lt_of_le (h a ha) (Nat.pow_le_pow_right (by decide) h1))
    rw [fl, this] at hi; cases hi
def Ord (us : List Nat) : Prop := (∀ a, a < us.length → fl us a a = true) ∧ (∀ a, a < us.length → ∀ b, b < us.length → ¬ a = b → ¬ (fl us a b = true ∧ fl us b a = true)) ∧
  (∀ a, a < us.length → ∀ b, b < us.length → ∀ c, c < us.length → fl us a b = true → fl us b c = true → fl us a c = true)
instance (us : List Nat) : Decidable (Ord us) := by unfold Ord; infer_instance
def okAB (us : List Nat) (a b : Nat) : Bool := (if a = b then fl us a a else !(fl us a b && fl us b a)) && (!fl us a b || decide (anB (us.getD b 0) (us.getD a 0) = 0))
theorem okAB_ord {us : List Nat} (hu : U32 us) (hl : Low us) : (∀ a, a < us.length → ∀ b, b < us.length → okAB us a b = true) ↔ Ord us := by
  constructor
  · intro h
    refine ⟨fun a ha => ?_, fun a ha b hb hab ⟨h1, h2⟩ => ?_, fun a ha b hb c hc h1 h2 => ?_⟩
    · have := h a ha a ha
      simp only [okAB, if_true, Bool.and_eq_true] at this
      exact this.1
    · have := h a ha b hb
      simp only [okAB, if_neg hab, h1, h2] at this
      simp at this
    · have := h a ha b hb
      simp only [okAB, h1, Bool.not_true, Bool.false_or, Bool.and_eq_true, decide_eq_true_eq] at this
      exact (anB_zero (hu.get hb) (hu.get ha)).1 this.2 c h2
  · rintro ⟨h1, h2, h3⟩ a ha b hb
    simp only [okAB, Bool.and_eq_true, Bool.or_eq_true, Bool.not_eq_true', decide_eq_true_eq]
    constructor
    · split
      · exact h1 a ha
      · rename_i hab
        have := h2 a ha b hb hab
        cases hx : fl us a b with
        | false => rfl
        | true =>
          cases hy : fl us b a with
          | false => rfl
          | true => exact absurd ⟨hx, hy⟩ this
    · cases hx : fl us a b with
      | false => exact .inl rfl
      | true => exact .inr ((anB_zero (hu.get hb) (hu.get ha)).2 fun i hi => h3 a ha b hb i (hl.bit hb hi) hx hi)
def downN (us : List Nat) (a : Nat) : Nat → Nat
  | 0 => 0
  | i + 1 => downN us a i ||| (((us.getD i 0 >>> a) &&& 1) <<< i)
theorem downN_bit (us : List Nat) (a : Nat) : ∀ (n j : Nat), (downN us a n).testBit j = (decide (j < n) && fl us j a)
  | 0, j => by simp [downN]
  | n + 1, j => by
    rw [downN, Nat.testBit_or, downN_bit us a n j, one_and, Nat.testBit_shiftLeft]
    by_cases h : j = n
    · subst h
      have e : decide (j < j) = false := by simp
      have e2 : decide (j < j + 1) = true := by simp
      rw [e, e2]
      simp only [Bool.false_and, Bool.false_or, Bool.true_and, fl, ge_iff_le, Nat.le_refl, decide_true, Nat.sub_self]
      cases (us.getD j 0).testBit a <;> simp
    · by_cases h2 : j < n
      · have e : decide (j < n) = true := by simp [h2]
        have e2 : decide (j < n + 1) = true := by simp; omega
        have e3 : decide (j ≥ n) = false := by simp; omega
        rw [e, e2, e3]; simp
      · have e : decide (j < n) = false := by simp; omega
        have e2 : decide (j < n + 1) = false := by simp; omega
        rw [e, e2]
        simp only [Bool.false_and, Bool.false_or]
        have hj : j - n ≠ 0 := by omega
        split
        · obtain ⟨m, hm⟩ := Nat.exists_eq_succ_of_ne_zero hj
          rw [hm, Nat.succ_eq_add_one, Nat.testBit_succ]
          simp
        · simp
theorem downN_lt (us : List Nat) (a n : Nat) : downN us a n < 2 ^ n := by
  refine Nat.lt_pow_two_of_testBit _ fun i hi => ?_
  rw [downN_bit]
  have : decide (i < n) = false := by simp; omega
  simp [this]
def joinI (us : List Nat) (a b : Nat) : Int := idxF (fun u => decide (u = us.getD a 0 &&& us.getD b 0)) us
def meetI (us : List Nat) (a b : Nat) : Int := idxF (fun i => decide (downN us i us.length = (downN us a us.length &&& downN us b us.length))) (List.range us.length)
def isJ (us : List Nat) (a b c : Nat) : Prop := (fl us a c = true ∧ fl us b c = true) ∧ ∀ d, d < us.length → fl us a d = true → fl us b d = true → fl us c d = true
def isM (us : List Nat) (a b c : Nat) : Prop := (fl us c a = true ∧ fl us c b = true) ∧ ∀ d, d < us.length → fl us d a = true → fl us d b = true → fl us d c = true
theorem isJ_iff {us : List Nat} (hl : Low us) (ho : Ord us) {a b c : Nat} (ha : a < us.length) (hb : b < us.length) (hc : c < us.length) : isJ us a b c ↔ us.getD c 0 = us.getD a 0 &&& us.getD b 0 := by
  obtain ⟨h1, _, h3⟩ := ho
  constructor
  · rintro ⟨⟨h4, h5⟩, h6⟩
    refine Nat.eq_of_testBit_eq fun i => ?_
    rw [Nat.testBit_and]
    show fl us c i = (fl us a i && fl us b i)
    cases hx : fl us c i with
    | true =>
      have hi := hl.bit hc hx
      rw [h3 a ha c hc i hi h4 hx, h3 b hb c hc i hi h5 hx]; rfl
    | false =>
      cases hy : fl us a i with
      | false => rfl
      | true =>
        cases hz : fl us b i with
        | false => rfl
        | true => have := h6 i (hl.bit ha hy) hy hz; rw [hx] at this; cases this
  · intro h
    have hbit : ∀ i, fl us c i = (fl us a i && fl us b i) := fun i => by
      show (us.getD c 0).testBit i = _
      rw [h, Nat.testBit_and]; rfl
    refine ⟨?_, fun d _ h4 h5 => by rw [hbit, h4, h5]; rfl⟩
    have := hbit c
    rw [h1 c hc] at this
    simpa using this.symm
theorem isM_iff {us : List Nat} (ho : Ord us) {a b c : Nat} (ha : a < us.length) (hb : b < us.length) (hc : c < us.length) : isM us a b c ↔ downN us c us.length = (downN us a us.length &&& downN us b us.length) := by
  obtain ⟨h1, _, h3⟩ := ho
  have hbit : (downN us c us.length = (downN us a us.length &&& downN us b us.length)) ↔ ∀ i, i < us.length → fl us i c = (fl us i a && fl us i b) := by
    constructor
    · intro h i hi
      have := congrArg (fun x => Nat.testBit x i) h
      simp only [downN_bit, Nat.testBit_and] at this
      have e : decide (i < us.length) = true := by simp [hi]
      rw [e] at this
      simpa using this
    · intro h
      refine Nat.eq_of_testBit_eq fun i => ?_
      simp only [downN_bit, Nat.testBit_and]
      by_cases hi : i < us.length
      · rw [h i hi]; simp [hi]
      · simp [hi]
  rw [hbit]
  constructor
  · rintro ⟨⟨h4, h5⟩, h6⟩ i hi
    cases hx : fl us i c with
    | true => rw [h3 i hi c hc a ha hx h4, h3 i hi c hc b hb hx h5]; rfl
    | false =>
      cases hy : fl us i a with
      | false => rfl
      | true =>
        cases hz : fl us i b with
        | false => rfl
        | true => have := h6 i hi hy hz; rw [hx] at this; cases this
  · intro h
    refine ⟨?_, fun d hd h4 h5 => by rw [h d hd, h4, h5]; rfl⟩
    have := h c hc
    rw [h1 c hc] at this
    simpa using this.symm
def Lat (us : List Nat) : Prop := ∀ a, a < us.length → ∀ b, b < us.length → 0 ≤ joinI us a b ∧ 0 ≤ meetI us a b
instance (us : List Nat) : Decidable (Lat us) := by unfold Lat; infer_instance
def checkF (ns : List ByteArray) (us : List Nat) : Int := if mayB ns us = true then if Ord us then if Lat us then 0 else 3 else 2 else 1
end Go.Proofs.YtabliglgeiajlaaGreat.AM

namespace Go.Proofs.YtabliglgeiajlaaGreat.AM
open Go Go.RowKit Go.Proofs
set_option maxRecDepth 100000
set_option maxHeartbeats 400000
def pA (n k : Nat) : Nat := k / n
def pB (n k : Nat) : Nat := k % n
theorem pA_of {n i j : Nat} (h : j < n) : pA n (i * n + j) = i := by
  unfold pA
  rw [Nat.mul_comm, Nat.mul_add_div (by omega), Nat.div_eq_of_lt h]; rfl
theorem pB_of {n i j : Nat} (h : j < n) : pB n (i * n + j) = j := by
  unfold pB
  rw [Nat.mul_comm, Nat.mul_add_mod, Nat.mod_eq_of_lt h]
theorem pA_lt {n k : Nat} (h : k < n * n) : pA n k < n := Nat.div_lt_of_lt_mul h
theorem pB_lt {n k : Nat} (h : k < n * n) : pB n k < n := Nat.mod_lt _ (Nat.pos_of_ne_zero fun h0 => by subst h0; simp at h)
theorem pairs_all {n : Nat} {p : Nat → Nat → Prop} : (∀ k, k < n * n → p (pA n k) (pB n k)) ↔ ∀ a, a < n → ∀ b, b < n → p a b := by
  constructor
  · intro h a ha b hb
    have h1 : a * n + b < n * n := Nat.lt_of_lt_of_le (Nat.add_lt_add_left hb _) (by rw [← Nat.succ_mul]; exact Nat.mul_le_mul_right _ ha)
    have := h _ h1
    rw [pA_of hb, pB_of hb] at this
    exact this
  · exact fun h k hk => h _ (pA_lt hk) _ (pB_lt hk)
theorem pairs_fn (n : Nat) : Fn Tryz.prog 237 [.v (.int .i64 (n : Int))] [] (.fn 283 [.fad [.v (.int .i64 (n : Int))]]) [] := by
  refine Fn.of (fn := Tryz.f237) (by kernel_rfl) rfl (by kernel_rfl) ⟨[.v (.int .i64 (n : Int)), .v undef, .v undef, .v undef], []⟩ rfl ?_
  repeat' first | (with_reducible first | refine AWP_seq' ?_ | refine k_normal ?_) | ((with_reducible refine AWP_reg fun KC J hJ hKC => ?_); simp (maxSteps := 9999999) only [push_cast, seval, ↓reduceIte]) | ((with_reducible refine hJ _ _ ?_); clear hJ hKC KC J)
  refine AWP_freeze 0 rfl (by simp (maxSteps := 9999999) only [push_cast, seval, ↓reduceIte]) ?_
  simp (maxSteps := 9999999) only [push_cast, seval, ↓reduceIte, frSt, frSlot, fr3, fr2, fr1, fr0, sameB, arrOf]
  refine AWP_ret ?_
  refine ret_plain ?_
  simp (maxSteps := 9999999) only [push_cast, seval, ↓reduceIte, show Tryz.f237.results = #[(.tmp 2)] from rfl]
  exact Lq
theorem pairs_it (n : Nat) (hl : n ≤ 1000) :
    ItFn Tryz.prog 283 [.fad [.v (.int .i64 (n : Int))]] (n * n) (fun k => [.v (.int .i64 ((pA n k : Nat) : Int)), .v (.int .i64 ((pB n k : Nat) : Int))]) := by
  intro m inv ok frr rr hrec hcl hlen hy t ht
  refine Fn.of (fn := Tryz.f283) (by kernel_rfl) rfl (by kernel_rfl) ⟨[.kref false m 0, .fad [.v (.int .i64 (n : Int))], .v undef, .v undef, .v undef, .v undef, .v undef, .v undef, .v undef, .v undef, .v undef, .v undef, .v undef, .v undef, .v undef, .v undef, .v undef, .v undef, .v undef, .v undef], inv 0⟩ rfl ?_
  repeat' first | (with_reducible first | refine AWP_seq' ?_ | refine k_normal ?_ | refine AWP_block ?_) | ((with_reducible refine AWP_reg fun KC J hJ hKC => ?_); simp (maxSteps := 9999999) only [push_cast, seval, ↓reduceIte]) | ((with_reducible refine hJ _ _ ?_); clear hJ hKC KC J)
  refine AWP_loopF (γ := {i : Nat // i ≤ n ∧ ∀ k, k < i * n → ok k = true}) (fun i => ⟨[.kref false m 0, .fad [.v (.int .i64 (n : Int))], .any, .any, .any, .v (.int .i64 (n : Int)), .v (.int .i64 i.1), .any, .any, .any, .any, .any, .any, .any, .any, .any, .any, .any, .any, .any], inv (i.1 * n)⟩) (fun i => n - i.1) ⟨0, by simp⟩ ⟨?_, ?_⟩ ?_
  · exact Lq
  · simp only [Nat.zero_mul]; exact Fq
  · rintro ⟨i, hi, hok⟩
    by_cases hlt : (i : Int) < (n : Int)
    · skip
      repeat' first | (with_reducible first | refine AWP_seq' ?_ | refine k_normal ?_ | refine AWP_skip ?_ | refine AWP_block ?_) | ((with_reducible refine AWP_reg fun KC J hJ hKC => ?_); simp (maxSteps := 9999999) only [push_cast, seval, ↓reduceIte, hlt]) | ((with_reducible refine hJ _ _ ?_); clear hJ hKC KC J) | ((with_reducible refine AWP_condT ?_ ?_); · rfl)
      refine AWP_loopF (γ := {j : Nat // j ≤ n ∧ ∀ k, k < i * n + j → ok k = true}) (fun j => ⟨[.kref false m 0, .fad [.v (.int .i64 (n : Int))], .any, .v (.int .i64 i), .any, .v (.int .i64 (n : Int)), .v (.int .i64 i), .any, .any, .v (.int .i64 (n : Int)), .v (.int .i64 j.1), .any, .any, .any, .any, .any, .any, .any, .any, .any], inv (i * n + j.1)⟩) (fun j => n - j.1) ⟨0, by simpa using hok⟩ ⟨?_, ?_⟩ ?_
      · exact Lq
      · exact Fq
      · rintro ⟨j, hj, hokj⟩
        by_cases hlj : (j : Int) < (n : Int)
        · have hjn : j < n := by omega
          have hin : i < n := by omega
          have hk : i * n + j < n * n := Nat.lt_of_lt_of_le (Nat.add_lt_add_left hjn _) (by rw [← Nat.succ_mul]; exact Nat.mul_le_mul_right _ hin)
          have hyi := hy (i * n + j) hk hokj
          simp only [pA_of hjn, pB_of hjn] at hyi
          have hL : (inv (i * n + j + 1)).length = (inv (i * n + j)).length := by rw [hlen, hlen]
          have hset := setsF_pre (rest := [Slot.free]) hL
          obtain ⟨k, hkk⟩ : ∃ k, i * n + j = k := ⟨_, rfl⟩
          have hkk1 : i * n + (j + 1) = k + 1 := by omega
          rw [hkk] at hyi hL hset hk hokj
          cases hoki : ok k with
          | true =>
            rw [hoki] at hyi
            repeat' first | (with_reducible first | refine AWP_seq' ?_ | refine k_normal ?_ | refine b_normal ?_ | refine AWP_skip ?_ | refine AWP_block ?_) | ((first | with_reducible refine AWP_reg fun KC J hJ hKC => ?_ | (refine hKC _ _ _ _ _ (callY hyi (hrec k) (hcl k) (hcl (k + 1)) hL rfl (Nat.le_refl _) rfl rfl rfl rfl ?_))); simp (maxSteps := 9999999) only [push_cast, seval, ↓reduceIte, hlj, hkk, hset, wrapN (i := j) (n := n) (by omega) (by omega)]) | ((with_reducible refine hJ _ _ ?_); clear hJ hKC KC J) | ((with_reducible refine AWP_condT ?_ ?_); · rfl) | ((with_reducible refine AWP_condF ?_ ?_); · rfl)
            refine ⟨⟨j + 1, by omega, fun q hq => ?_⟩, by simp only; omega, ?_, ?_⟩
            · by_cases he : q = k
              · rw [he]; exact hoki
              · exact hokj q (by omega)
            · exact Lq
            · simp only [hkk1]; exact Fq
          | false =>
            rw [hoki] at hyi
            repeat' first | (with_reducible first | refine AWP_seq' ?_ | refine k_normal ?_ | refine k_ret ?_ | refine b_ret ?_ | refine AWP_ret ?_ | refine AWP_skip ?_ | refine AWP_block ?_) | ((first | with_reducible refine AWP_reg fun KC J hJ hKC => ?_ | (refine hKC _ _ _ _ _ (callY hyi (hrec k) (hcl k) (hcl (k + 1)) hL rfl (Nat.le_refl _) rfl rfl rfl rfl ?_))); simp (maxSteps := 9999999) only [push_cast, seval, ↓reduceIte, hlj, hkk, hset, wrapN (i := j) (n := n) (by omega) (by omega)]) | ((with_reducible refine hJ _ _ ?_); clear hJ hKC KC J) | ((with_reducible refine AWP_condT ?_ ?_); · rfl)
            have hni : t = k + 1 := by
              rcases ht with ⟨h1, h2⟩ | ⟨q, h1, h2, h3, h4⟩
              · have := h2 k (by omega); rw [hoki] at this; cases this
              · rcases Nat.lt_trichotomy q k with h | h | h
                · have := hokj q h; rw [h3] at this; cases this
                · omega
                · have := h4 k h; rw [hoki] at this; cases this
            rw [hni]
            exact ret_it 1 (.inr rfl) rfl rfl (hcl _) (by rw [hlen, hlen])
        · have hjn : j = n := by omega
          have hkk : i * n + j = (i + 1) * n := by rw [hjn, Nat.succ_mul]
          repeat' first | (with_reducible first | refine AWP_seq' ?_ | refine k_normal ?_ | refine k_exit ?_ | refine b_normal ?_ | refine b_exit ?_ | refine AWP_exit ?_) | ((with_reducible refine AWP_reg fun KC J hJ hKC => ?_); simp (maxSteps := 9999999) only [push_cast, seval, ↓reduceIte, hlj, hkk, wrapN (i := i) (n := n) (by omega) (by omega)]) | ((with_reducible refine hJ _ _ ?_); clear hJ hKC KC J) | ((with_reducible refine AWP_condF ?_ ?_); · rfl)
          refine ⟨⟨i + 1, by omega, fun q hq => hokj q (by omega)⟩, by simp only; omega, ?_, ?_⟩
          · exact Lq
          · simp only [hkk]; exact Fq
    · have hin : i = n := by omega
      subst hin
      have hni : t = i * i := by
        rcases ht with ⟨h1, h2⟩ | ⟨q, h1, h2, h3, h4⟩
        · exact h1
        · have := hok q h1; rw [h3] at this; cases this
      repeat' first | (with_reducible first | refine AWP_seq' ?_ | refine k_normal ?_ | refine k_exit ?_ | refine b_exit ?_ | refine AWP_exit ?_) | ((with_reducible refine AWP_reg fun KC J hJ hKC => ?_); simp (maxSteps := 9999999) only [push_cast, seval, ↓reduceIte, hlt]) | ((with_reducible refine hJ _ _ ?_); clear hJ hKC KC J) | ((with_reducible refine AWP_condF ?_ ?_); · rfl)
      rw [hni]
      exact ret_it 0 (.inl rfl) rfl (by simp) (hcl _) (by rw [hlen, hlen])
set_option maxHeartbeats 1000000 in
theorem order_fn (f g : Bool) (ns : List ByteArray) (us : List Nat) (hu : U32 us) (hlw : Low us) (hl : us.length ≤ 8) :
    Fn Tryz.prog 236 [.agg [.sl f 1 (strRow ns), .sl g 1 (u32Row us)]] [] (.v (.bool (decide (Ord us)))) [] := by
  refine Fn.of (fn := Tryz.f236) (by kernel_rfl) rfl (by kernel_rfl) ⟨[.agg [.sl f 1 (strRow ns), .sl g 1 (u32Row us)], .v undef, .v undef, .v undef, .v undef, .v undef, .v undef, .v undef, .v undef, .v undef, .v undef, .v undef, .v undef, .v undef, .v undef, .v undef, .v undef, .v undef, .v undef, .v undef, .v undef, .v undef, .v undef, .v undef, .v undef, .v undef, .v undef, .v undef, .v undef, .v undef, .v undef, .v undef, .v undef, .v undef, .v undef, .v undef, .v undef, .v undef, .v undef, .v undef, .v undef, .v undef, .v undef, .v undef, .v undef, .v undef, .v undef, .v undef, .v undef, .v undef, .v undef, .v undef, .v undef, .v undef, .v undef, .v undef], []⟩ rfl ?_
  repeat' first | (with_reducible first | refine AWP_seq' ?_ | refine k_normal ?_ | refine AWP_block ?_) | ((first | with_reducible refine AWP_reg fun KC J hJ hKC => ?_ | (refine' hKC _ _ _ _ _ (callV0 (pairs_fn _) rfl rfl rfl ?_ ?_); (rotate_left 1); (· exact Lq))); simp (maxSteps := 9999999) only [push_cast, seval, ↓reduceIte]) | ((with_reducible refine hJ _ _ ?_); clear hJ hKC KC J)
  refine AWP_le ([.any, .ptr 0 0 0, .ptr 1 0 0, .any, .any, .any, .any, .any, .fn 283 [.fad [.v (.int .i64 (us.length : Int))]], .any, .any, .any, .any, .any, .any, .any, .any, .any, .any, .any, .any, .any, .any, .any, .any, .any, .any, .any, .any, .any, .any, .any, .any, .any, .any, .any, .any, .any, .any, .any, .any, .any, .any, .any, .any, .any, .any, .any, .any, .any, .any, .any, .any, .any, .any, .any]) (by exact Lq) ?_
  refine AWP_range2 (f := 283) rfl rfl (pairs_it us.length (by omega)) (fun i hi => rfl) 3 rfl rfl
    (fun i => [.ent ⟨0, none, 25, [.sl f 1 (strRow ns), .sl g 1 (u32Row us)], .cells⟩, .ent ⟨0, none, 4, [.v (.bool false)], .cells⟩, .free])
    (fun i => [.ent ⟨0, none, 25, [.sl f 1 (strRow ns), .sl g 1 (u32Row us)], .cells⟩, .ent ⟨0, none, 4, [.v (.bool false)], .cells⟩, .free])
    rfl (fun i => ⟨rfl, rfl⟩) (fun i => ⟨rfl, rfl⟩) (fun i => ⟨rfl, rfl⟩) (fun k => okAB us (pA us.length k) (pB us.length k)) .ret .ret rfl
    (fun i => [.any, .ptr 0 0 0, .ptr 1 0 0, .v (.int .i64 (pA us.length i : Nat)), .v (.int .i64 (pB us.length i : Nat)), .any, .any, .any, .fn 283 [.fad [.v (.int .i64 (us.length : Int))]], .v (.int .i64 (pA us.length i : Nat)), .v (.int .i64 (pB us.length i : Nat)), .any, .any, .any, .any, .any, .any, .any, .any, .any, .any, .any, .any, .any, .any, .any, .any, .any, .any, .any, .any, .any, .any, .any, .any, .any, .any, .any, .any, .any, .any, .any, .any, .any, .any, .any, .any, .any, .any, .any, .any, .any, .any, .any, .any, .any])
    (fun l' i r σ hi => ?_) (fun i => rfl) (fun l' i hi hb' => ?_) (fun hall => ?_) (fun k hk hkf hkb => ?_)
  · skip
    repeat' first | (with_reducible first | refine AWP_seq' ?_ | refine k_normal ?_) | ((with_reducible refine And.intro ?_ ?_); · exact Sq) | ((with_reducible refine AWP_reg fun KC J hJ hKC => ?_); simp (maxSteps := 9999999) only [push_cast, seval, ↓reduceIte]) | ((with_reducible refine hJ _ _ ?_); clear hJ hKC KC J)
    exact rfl
  · have hpa := pA_lt hi
    have hpb := pB_lt hi
    obtain ⟨a, ha⟩ : ∃ a, pA us.length i = a := ⟨_, rfl⟩
    obtain ⟨b, hb⟩ : ∃ b, pB us.length i = b := ⟨_, rfl⟩
    simp only [ha, hb] at hpa hpb ⊢
    have hgA := getE_u32 (getD_of 0 hpa)
    have hgB := getE_u32 (getD_of 0 hpb)
    have han := uv_an (hu.get hpb) (hu.get hpa)
    by_cases hab : a = b
    · subst hab
      by_cases hf : fl us a a = true
      · by_cases hz : anB (us.getD a 0) (us.getD a 0) = 0
        · have hok : okAB us a a = true := by rw [okAB, if_pos rfl, hf, decide_eq_true hz]; rfl
          repeat' first | (with_reducible first | refine AWP_seq' ?_ | refine k_normal ?_ | refine b_normal ?_ | refine AWP_skip ?_ | refine AWP_block ?_) | ((with_reducible refine And.intro ?_ ?_); · exact Sq) | ((first | with_reducible refine AWP_reg fun KC J hJ hKC => ?_ | with_reducible refine AWP_regD rfl fun KC J hJ hKC => ?_ | (refine' hKC _ _ _ _ _ (callV0 (flows_fn _ _ _ _ _ _ ?_ ?_) rfl rfl rfl ?_ ?_); (rotate_left 8); (· exact Lq); (rotate_left 1); (iterate 2 (· exact Hq)))); simp (maxSteps := 9999999) only [push_cast, seval, ↓reduceIte, hf, hz, hgA, han]) | ((first | with_reducible refine hJ _ _ ?_ | (with_reducible refine hJ _ _ ?_ ?_; · kernel_rfl)); clear hJ hKC KC J) | ((with_reducible refine AWP_condF ?_ ?_); · rfl)
          exact .inl ⟨hok, rfl, (by first | exact weakS_free (k := 0) rfl rfl rfl | exact weakS_free (k := 1) rfl rfl rfl | exact weakS_free (k := 2) rfl rfl rfl | exact weakS_free (k := 3) rfl rfl rfl | exact weakS_free (k := 4) rfl rfl rfl | exact weakS_free (k := 5) rfl rfl rfl | exact weakS_free (k := 6) rfl rfl rfl | exact weakS_free (k := 7) rfl rfl rfl | exact weakS_free (k := 8) rfl rfl rfl)⟩
        · have hok : okAB us a a = false := by rw [okAB, if_pos rfl, hf, decide_eq_false hz]; rfl
          repeat' first | (with_reducible first | refine AWP_seq' ?_ | refine k_normal ?_ | refine b_ret ?_ | refine AWP_ret ?_ | refine AWP_skip ?_ | refine AWP_block ?_) | ((with_reducible refine And.intro ?_ ?_); · exact Sq) | ((first | with_reducible refine AWP_reg fun KC J hJ hKC => ?_ | with_reducible refine AWP_regD rfl fun KC J hJ hKC => ?_ | (refine' hKC _ _ _ _ _ (callV0 (flows_fn _ _ _ _ _ _ ?_ ?_) rfl rfl rfl ?_ ?_); (rotate_left 8); (· exact Lq); (rotate_left 1); (iterate 2 (· exact Hq)))); simp (maxSteps := 9999999) only [push_cast, seval, ↓reduceIte, hf, hz, hgA, han]) | ((first | with_reducible refine hJ _ _ ?_ | (with_reducible refine hJ _ _ ?_ ?_; · kernel_rfl)); clear hJ hKC KC J) | ((with_reducible refine AWP_condT ?_ ?_); · rfl) | ((with_reducible refine AWP_condF ?_ ?_); · rfl)
          exact .inr ⟨hok, rfl, (by first | exact weakS_free (k := 0) rfl rfl rfl | exact weakS_free (k := 1) rfl rfl rfl | exact weakS_free (k := 2) rfl rfl rfl | exact weakS_free (k := 3) rfl rfl rfl | exact weakS_free (k := 4) rfl rfl rfl | exact weakS_free (k := 5) rfl rfl rfl | exact weakS_free (k := 6) rfl rfl rfl | exact weakS_free (k := 7) rfl rfl rfl | exact weakS_free (k := 8) rfl rfl rfl)⟩
      · have hok : okAB us a a = false := by rw [okAB, if_pos rfl, show fl us a a = false by simpa using hf]; rfl
        repeat' first | (with_reducible first | refine AWP_seq' ?_ | refine k_normal ?_ | refine k_ret ?_ | refine b_ret ?_ | refine AWP_ret ?_ | refine AWP_block ?_) | ((first | with_reducible refine AWP_reg fun KC J hJ hKC => ?_ | (refine' hKC _ _ _ _ _ (callV0 (flows_fn _ _ _ _ _ _ ?_ ?_) rfl rfl rfl ?_ ?_); (rotate_left 8); (· exact Lq); (rotate_left 1); (iterate 2 (· exact Hq)))); simp (maxSteps := 9999999) only [push_cast, seval, ↓reduceIte, hf, undef]) | ((with_reducible refine hJ _ _ ?_); clear hJ hKC KC J) | ((with_reducible refine AWP_condT ?_ ?_); · rfl)
        exact .inr ⟨hok, rfl, (by first | exact weakS_free (k := 0) rfl rfl rfl | exact weakS_free (k := 1) rfl rfl rfl | exact weakS_free (k := 2) rfl rfl rfl | exact weakS_free (k := 3) rfl rfl rfl | exact weakS_free (k := 4) rfl rfl rfl | exact weakS_free (k := 5) rfl rfl rfl | exact weakS_free (k := 6) rfl rfl rfl | exact weakS_free (k := 7) rfl rfl rfl | exact weakS_free (k := 8) rfl rfl rfl)⟩
    · have hab' : ¬ (a : Int) = (b : Int) := by omega
      have hab'' : ((a : Int) != (b : Int)) = true := by simpa using hab'
      have hab3 : ((a : Int) == (b : Int)) = false := by simpa using hab'
      by_cases hf : fl us a b = true
      · by_cases hf' : fl us b a = true
        · have hok : okAB us a b = false := by rw [okAB, if_neg hab, hf, hf']; rfl
          repeat' first | (with_reducible first | refine AWP_seq' ?_ | refine k_normal ?_ | refine k_ret ?_ | refine b_ret ?_ | refine AWP_ret ?_ | refine AWP_block ?_) | ((first | with_reducible refine AWP_reg fun KC J hJ hKC => ?_ | (refine' hKC _ _ _ _ _ (callV0 (flows_fn _ _ _ _ _ _ ?_ ?_) rfl rfl rfl ?_ ?_); (rotate_left 8); (· exact Lq); (rotate_left 1); (iterate 2 (· exact Hq)))); simp (maxSteps := 9999999) only [push_cast, seval, ↓reduceIte, hf, hf', hab, hab', hab'', hab3, undef]) | ((with_reducible refine hJ _ _ ?_); clear hJ hKC KC J) | ((with_reducible refine AWP_condT ?_ ?_); · rfl)
          exact .inr ⟨hok, rfl, (by first | exact weakS_free (k := 0) rfl rfl rfl | exact weakS_free (k := 1) rfl rfl rfl | exact weakS_free (k := 2) rfl rfl rfl | exact weakS_free (k := 3) rfl rfl rfl | exact weakS_free (k := 4) rfl rfl rfl | exact weakS_free (k := 5) rfl rfl rfl | exact weakS_free (k := 6) rfl rfl rfl | exact weakS_free (k := 7) rfl rfl rfl | exact weakS_free (k := 8) rfl rfl rfl)⟩
        · have hfF : fl us b a = false := by simpa using hf'
          by_cases hz : anB (us.getD b 0) (us.getD a 0) = 0
          · have hok : okAB us a b = true := by rw [okAB, if_neg hab, hf, hfF, decide_eq_true hz]; rfl
            repeat' first | (with_reducible first | refine AWP_seq' ?_ | refine k_normal ?_ | refine b_normal ?_ | refine AWP_skip ?_ | refine AWP_block ?_) | ((with_reducible refine And.intro ?_ ?_); · exact Sq) | ((first | with_reducible refine AWP_reg fun KC J hJ hKC => ?_ | with_reducible refine AWP_regD rfl fun KC J hJ hKC => ?_ | (refine' hKC _ _ _ _ _ (callV0 (flows_fn _ _ _ _ _ _ ?_ ?_) rfl rfl rfl ?_ ?_); (rotate_left 8); (· exact Lq); (rotate_left 1); (iterate 2 (· exact Hq)))); simp (maxSteps := 9999999) only [push_cast, seval, ↓reduceIte, hf, hfF, hz, hgA, hgB, han, hab, hab', hab'', hab3, undef]) | ((first | with_reducible refine hJ _ _ ?_ | (with_reducible refine hJ _ _ ?_ ?_; · kernel_rfl)); clear hJ hKC KC J) | ((with_reducible refine AWP_condF ?_ ?_); · rfl)
            exact .inl ⟨hok, rfl, (by first | exact weakS_free (k := 0) rfl rfl rfl | exact weakS_free (k := 1) rfl rfl rfl | exact weakS_free (k := 2) rfl rfl rfl | exact weakS_free (k := 3) rfl rfl rfl | exact weakS_free (k := 4) rfl rfl rfl | exact weakS_free (k := 5) rfl rfl rfl | exact weakS_free (k := 6) rfl rfl rfl | exact weakS_free (k := 7) rfl rfl rfl | exact weakS_free (k := 8) rfl rfl rfl)⟩
          · have hok : okAB us a b = false := by rw [okAB, if_neg hab, hf, hfF, decide_eq_false hz]; rfl
            repeat' first | (with_reducible first | refine AWP_seq' ?_ | refine k_normal ?_ | refine b_ret ?_ | refine AWP_ret ?_ | refine AWP_skip ?_ | refine AWP_block ?_) | ((with_reducible refine And.intro ?_ ?_); · exact Sq) | ((first | with_reducible refine AWP_reg fun KC J hJ hKC => ?_ | with_reducible refine AWP_regD rfl fun KC J hJ hKC => ?_ | (refine' hKC _ _ _ _ _ (callV0 (flows_fn _ _ _ _ _ _ ?_ ?_) rfl rfl rfl ?_ ?_); (rotate_left 8); (· exact Lq); (rotate_left 1); (iterate 2 (· exact Hq)))); simp (maxSteps := 9999999) only [push_cast, seval, ↓reduceIte, hf, hfF, hz, hgA, hgB, han, hab, hab', hab'', hab3, undef]) | ((first | with_reducible refine hJ _ _ ?_ | (with_reducible refine hJ _ _ ?_ ?_; · kernel_rfl)); clear hJ hKC KC J) | ((with_reducible refine AWP_condT ?_ ?_); · rfl) | ((with_reducible refine AWP_condF ?_ ?_); · rfl)
            exact .inr ⟨hok, rfl, (by first | exact weakS_free (k := 0) rfl rfl rfl | exact weakS_free (k := 1) rfl rfl rfl | exact weakS_free (k := 2) rfl rfl rfl | exact weakS_free (k := 3) rfl rfl rfl | exact weakS_free (k := 4) rfl rfl rfl | exact weakS_free (k := 5) rfl rfl rfl | exact weakS_free (k := 6) rfl rfl rfl | exact weakS_free (k := 7) rfl rfl rfl | exact weakS_free (k := 8) rfl rfl rfl)⟩
      · have hfF : fl us a b = false := by simpa using hf
        have hok : okAB us a b = true := by rw [okAB, if_neg hab, hfF]; rfl
        repeat' first | (with_reducible first | refine AWP_seq' ?_ | refine k_normal ?_ | refine b_normal ?_ | refine AWP_skip ?_ | refine AWP_block ?_) | ((first | with_reducible refine AWP_reg fun KC J hJ hKC => ?_ | with_reducible refine AWP_regD rfl fun KC J hJ hKC => ?_ | (refine' hKC _ _ _ _ _ (callV0 (flows_fn _ _ _ _ _ _ ?_ ?_) rfl rfl rfl ?_ ?_); (rotate_left 8); (· exact Lq); (rotate_left 1); (iterate 2 (· exact Hq)))); simp (maxSteps := 9999999) only [push_cast, seval, ↓reduceIte, hfF, hab, hab', hab'', hab3, undef]) | ((first | with_reducible refine hJ _ _ ?_ | (with_reducible refine hJ _ _ ?_ ?_; · kernel_rfl)); clear hJ hKC KC J) | ((with_reducible refine AWP_condF ?_ ?_); · rfl)
        exact .inl ⟨hok, rfl, (by first | exact weakS_free (k := 0) rfl rfl rfl | exact weakS_free (k := 1) rfl rfl rfl | exact weakS_free (k := 2) rfl rfl rfl | exact weakS_free (k := 3) rfl rfl rfl | exact weakS_free (k := 4) rfl rfl rfl | exact weakS_free (k := 5) rfl rfl rfl | exact weakS_free (k := 6) rfl rfl rfl | exact weakS_free (k := 7) rfl rfl rfl | exact weakS_free (k := 8) rfl rfl rfl)⟩
  · rw [decide_eq_true ((okAB_ord hu hlw).1 (pairs_all.1 hall))]
    repeat' first | (with_reducible first | refine AWP_seq' ?_ | refine k_normal ?_ | refine b_normal ?_ | refine AWP_ret ?_) | ((with_reducible refine AWP_reg fun KC J hJ hKC => ?_); simp (maxSteps := 9999999) only [push_cast, seval, ↓reduceIte]) | ((with_reducible refine hJ _ _ ?_); clear hJ hKC KC J)
    refine ret_plain ?_
    simp (maxSteps := 9999999) only [push_cast, seval, ↓reduceIte, show Tryz.f236.results = #[(.cell 2 4)] from rfl]
    exact Lq
  · rw [decide_eq_false (fun h => by have := (pairs_all (p := fun a b => okAB us a b = true)).2 ((okAB_ord hu hlw).2 h) k hk; rw [hkf] at this; cases this)]
    refine ret_plain ?_
    simp (maxSteps := 9999999) only [push_cast, seval, ↓reduceIte, show Tryz.f236.results = #[(.cell 2 4)] from rfl]
    exact Lq
theorem down_fn (f g : Bool) (ns : List ByteArray) (us : List Nat) (a : Nat) (hu : U32 us) (hl : us.length ≤ 8) :
    Fn Tryz.prog 285 [.agg [.sl f 1 (strRow ns), .sl g 1 (u32Row us)], .v (.int .i64 (a : Int))] [] (.v (.int .u32 (uv (downN us a us.length)))) [] := by
  refine Fn.of (fn := Tryz.f285) (by kernel_rfl) rfl (by kernel_rfl) ⟨[.agg [.sl f 1 (strRow ns), .sl g 1 (u32Row us)], .v (.int .i64 (a : Int)), .v undef, .v undef, .v undef, .v undef, .v undef, .v undef, .v undef, .v undef, .v undef, .v undef, .v undef, .v undef, .v undef, .v undef, .v undef, .v undef, .v undef, .v undef, .v undef, .v undef, .v undef, .v undef, .v undef, .v undef, .v undef], []⟩ rfl ?_
  repeat' first | (with_reducible first | refine AWP_seq' ?_ | refine k_normal ?_ | refine AWP_block ?_) | ((with_reducible refine AWP_reg fun KC J hJ hKC => ?_); simp (maxSteps := 9999999) only [push_cast, seval, ↓reduceIte]) | ((with_reducible refine hJ _ _ ?_); clear hJ hKC KC J)
  refine AWP_loopF (γ := {i : Nat // i ≤ us.length}) (fun i => ⟨[.any, .v (.int .i64 (a : Int)), .ptr 0 0 0, .any, .any, .v (.int .u32 (uv (downN us a i.1))), .any, .any, .any, .v (.int .i64 us.length), .v (.int .i64 i.1), .any, .any, .any, .any, .any, .any, .any, .any, .any, .any, .any, .any, .any, .any, .any, .any], [.ent ⟨0, none, 25, [.sl f 1 (strRow ns), .sl g 1 (u32Row us)], .cells⟩]⟩) (fun i => us.length - i.1) ⟨0, by simp⟩ ⟨?_, Fq⟩ ?_
  · exact Lq
  · rintro ⟨i, hi⟩
    by_cases hlt : (i : Int) < (us.length : Int)
    · have hil : i < us.length := by omega
      have hx := getD_of 0 hil
      have h1 : us.getD i 0 >>> a < 2 ^ 32 := Nat.lt_of_le_of_lt (Nat.shiftRight_le _ _) (hu.get hil)
      have h2 : (us.getD i 0 >>> a) &&& 1 ≤ 1 := Nat.and_le_right
      have h3 : downN us a i < 2 ^ 32 := Nat.lt_of_lt_of_le (downN_lt us a i) (Nat.pow_le_pow_right (by decide) (by omega))
      have h4 : ((us.getD i 0 >>> a) &&& 1) <<< i < 2 ^ 32 := by
        have e := downN_lt us a (i + 1)
        have : ((us.getD i 0 >>> a) &&& 1) <<< i ≤ downN us a (i + 1) := Nat.right_le_or
        have : 2 ^ (i + 1) ≤ 2 ^ 32 := Nat.pow_le_pow_right (by decide) (by omega)
        omega
      repeat' first | (with_reducible first | refine AWP_seq' ?_ | refine k_normal ?_ | refine b_normal ?_ | refine AWP_skip ?_ | refine AWP_block ?_) | ((with_reducible refine And.intro ?_ ?_); · exact Sq) | ((with_reducible refine AWP_reg fun KC J hJ hKC => ?_); simp (maxSteps := 9999999) only [push_cast, seval, ↓reduceIte, hlt, getE_u32 hx, uv_shr (hu.get hil) (b := a), uv_and1 h1, uv_shl h2 (by omega : i < 32), uv_or h3 h4, wrapN (i := i) (n := us.length) (by omega) (by omega)]) | ((with_reducible refine hJ _ _ ?_); clear hJ hKC KC J) | ((with_reducible refine AWP_condT ?_ ?_); · rfl)
      refine ⟨⟨i + 1, by omega⟩, by simp only; omega, ?_, Fq⟩
      exact Lq
    · have e : i = us.length := by omega
      subst e
      repeat' first | (with_reducible first | refine AWP_seq' ?_ | refine k_normal ?_ | refine k_exit ?_ | refine b_exit ?_ | refine AWP_ret ?_ | refine AWP_exit ?_) | ((with_reducible refine AWP_reg fun KC J hJ hKC => ?_); simp (maxSteps := 9999999) only [push_cast, seval, ↓reduceIte, hlt]) | ((with_reducible refine hJ _ _ ?_); clear hJ hKC KC J) | ((with_reducible refine AWP_condF ?_ ?_); · rfl)
      refine ret_plain ?_
      simp (maxSteps := 9999999) only [push_cast, seval, ↓reduceIte, show Tryz.f285.results = #[(.tmp 4)] from rfl]
      exact leD_refl _
theorem indexFuncU32_fn (f : Bool) (xs : List Nat) (cf : Nat) (caps : List D) (p : Nat → Bool) (hb : xs.length ≤ 9223372036854775807) (hc : frz0All caps = true)
    (hp : ∀ x ∈ xs, Fn Tryz.prog cf (.v (.int .u32 (uv x)) :: caps) [] (.v (.bool (p x))) []) : Fn Tryz.prog 116 [.sl f 1 (u32Row xs), .fn cf caps] [] (.v (.int .i64 (idxF p xs))) [] := by
  refine Fn.of (fn := Tryz.f116) (by kernel_rfl) rfl (by kernel_rfl) ⟨[.sl f 1 (u32Row xs), .fn cf caps, .v undef, .v undef, .v undef, .v undef, .v undef, .v undef, .v undef, .v undef, .v undef, .v undef, .v undef, .v undef, .v undef, .v undef, .v undef, .v undef, .v undef], []⟩ rfl ?_
  repeat' first | (with_reducible first | refine AWP_seq' ?_ | refine k_normal ?_ | refine AWP_block ?_) | ((with_reducible refine AWP_reg fun KC J hJ hKC => ?_); simp (maxSteps := 9999999) only [push_cast, seval, ↓reduceIte]) | ((with_reducible refine hJ _ _ ?_); clear hJ hKC KC J)
  refine AWP_loopF (γ := {i : Nat // i ≤ xs.length ∧ ∀ (j : Nat) (hj : j < xs.length), j < i → p xs[j] = false}) (fun i => ⟨[.sl f 1 (u32Row xs), .fn cf caps, .any, .any, .any, .any, .any, .v (.int .i64 xs.length), .v (.int .i64 i.1), .any, .any, .any, .any, .any, .any, .any, .any, .any, .any], []⟩) (fun i => xs.length - i.1) ⟨0, by simp⟩ ⟨?_, Fq⟩ ?_
  · exact Lq
  · rintro ⟨i, hi, hn⟩
    by_cases hlt : (i : Int) < (xs.length : Int)
    · have hx : xs[i]? = some xs[i] := List.getElem?_eq_getElem (by omega)
      have hfn := hp xs[i] (List.getElem_mem (by omega))
      repeat' first | (with_reducible first | refine AWP_seq' ?_ | refine k_normal ?_ | refine k_ret ?_ | refine b_normal ?_ | refine b_ret ?_ | refine AWP_ret ?_ | refine AWP_skip ?_ | refine AWP_block ?_) | ((with_reducible refine And.intro ?_ ?_); · exact Sq) | ((first | with_reducible refine AWP_reg fun KC J hJ hKC => ?_ | (refine hKC _ _ _ _ _ (callV0 (hfn) rfl rfl rfl ?_ ?_); (· exact Lq))); simp (maxSteps := 9999999) only [push_cast, seval, ↓reduceIte, hlt, getE_u32 hx, wrapN (i := i) (n := xs.length) (by omega) hb]) | ((with_reducible refine hJ _ _ ?_); clear hJ hKC KC J) | ((with_reducible refine AWP_condT ?_ ?_); · rfl) | (refine AWP_cond rfl (fun h => ?_) (fun h => ?_) <;> try simp only [decide_eq_true_eq, decide_eq_false_iff_not, Bool.not_eq_true', Bool.not_eq_false', beq_iff_eq, bne_iff_ne, ne_eq, Bool.not_eq_true, Bool.or_eq_true, Bool.and_eq_true, Bool.or_eq_false_iff, Bool.and_eq_false_imp, beq_eq_false_iff_ne, bne_eq_false_iff_eq] at h)
      · refine ret_plain ?_
        simp (maxSteps := 9999999) only [push_cast, seval, ↓reduceIte, show Tryz.f116.results = #[(.tmp 4)] from rfl]
        exact leD_v (by rw [idxF_at (by omega) h hn])
      · refine ⟨⟨i + 1, by omega, fun j hj hji => ?_⟩, by simp only; omega, ?_, Fq⟩
        · by_cases he : j = i
          · subst he; exact h
          · exact hn j hj (by omega)
        · exact Lq
    · skip
      repeat' first | (with_reducible first | refine AWP_seq' ?_ | refine k_normal ?_ | refine k_exit ?_ | refine b_exit ?_ | refine AWP_ret ?_ | refine AWP_exit ?_) | ((with_reducible refine AWP_reg fun KC J hJ hKC => ?_); simp (maxSteps := 9999999) only [push_cast, seval, ↓reduceIte, hlt]) | ((with_reducible refine hJ _ _ ?_); clear hJ hKC KC J) | ((with_reducible refine AWP_condF ?_ ?_); · rfl)
      refine ret_plain ?_
      simp (maxSteps := 9999999) only [push_cast, seval, ↓reduceIte, show Tryz.f116.results = #[(.tmp 4)] from rfl]
      exact leD_v (by rw [idxF_none (fun j hj => hn j hj (by omega))])
theorem join1_fn (x c : Nat) : Fn Tryz.prog 284 [.v (.int .u32 (uv x)), .fad [.v (.int .u32 (uv c))]] [] (.v (.bool (decide (x = c)))) [] := by
  refine Fn.of (fn := Tryz.f284) (by kernel_rfl) rfl (by kernel_rfl) ⟨[.v (.int .u32 (uv x)), .fad [.v (.int .u32 (uv c))], .v undef, .v undef, .v undef, .v undef, .v undef], []⟩ rfl ?_
  repeat' first | (with_reducible first | refine AWP_seq' ?_ | refine k_normal ?_ | refine AWP_ret ?_) | ((with_reducible refine AWP_reg fun KC J hJ hKC => ?_); simp (maxSteps := 9999999) only [push_cast, seval, ↓reduceIte]) | ((with_reducible refine hJ _ _ ?_); clear hJ hKC KC J)
  refine ret_plain ?_
  simp (maxSteps := 9999999) only [push_cast, seval, ↓reduceIte, show Tryz.f284.results = #[(.tmp 3)] from rfl]
  exact leD_refl _
theorem join_fn (f g : Bool) (ns : List ByteArray) (us : List Nat) (a b : Nat) (hu : U32 us) (hl : us.length ≤ 8) (ha : a < us.length) (hb : b < us.length) :
    Fn Tryz.prog 238 [.agg [.sl f 1 (strRow ns), .sl g 1 (u32Row us)], .v (.int .i64 (a : Int)), .v (.int .i64 (b : Int))] [] (.v (.int .i64 (joinI us a b))) [] := by
  have hcf := indexFuncU32_fn g us 284 [.fad [.v (.int .u32 (uv (us.getD a 0 &&& us.getD b 0)))]] (fun x => decide (x = us.getD a 0 &&& us.getD b 0)) (by omega) rfl (fun x _ => join1_fn x _)
  have hgA := getE_u32 (getD_of 0 ha)
  have hgB := getE_u32 (getD_of 0 hb)
  have han := uv_and (hu.get ha) (hu.get hb)
  refine Fn.of (fn := Tryz.f238) (by kernel_rfl) rfl (by kernel_rfl) ⟨[.agg [.sl f 1 (strRow ns), .sl g 1 (u32Row us)], .v (.int .i64 (a : Int)), .v (.int .i64 (b : Int)), .v undef, .v undef, .v undef, .v undef, .v undef, .v undef, .v undef, .v undef, .v undef, .v undef, .v undef, .v undef, .v undef, .v undef, .v undef, .v undef, .v undef, .v undef, .v undef, .v undef], []⟩ rfl ?_
  repeat' first | (refine AWP_freezeR 2 1 rfl (by (simp (maxSteps := 9999999) only [push_cast, seval, ↓reduceIte]) <;> rfl) ?_; simp (maxSteps := 9999999) only [push_cast, seval, ↓reduceIte, frSt, frSlot, fr3, fr2, fr1, fr0, sameB, arrOf, hgA, hgB, han]) | (with_reducible first | refine AWP_seq' ?_ | refine k_normal ?_ | refine AWP_ret ?_) | ((with_reducible refine And.intro ?_ ?_); · exact Sq) | ((first | with_reducible refine AWP_reg fun KC J hJ hKC => ?_ | with_reducible refine AWP_regD rfl fun KC J hJ hKC => ?_ | (refine hKC _ _ _ _ _ (callV0 (hcf) rfl rfl rfl ?_ ?_); (· exact Lq))); simp (maxSteps := 9999999) only [push_cast, seval, ↓reduceIte, hgA, hgB, han]) | ((first | with_reducible refine hJ _ _ ?_ | (with_reducible refine hJ _ _ ?_ ?_; · kernel_rfl)); clear hJ hKC KC J)
  refine ret_plain ?_
  simp (maxSteps := 9999999) only [push_cast, seval, ↓reduceIte, show Tryz.f238.results = #[(.tmp 6)] from rfl]
  exact leD_refl _
theorem meet_fn (f g : Bool) (ns : List ByteArray) (us : List Nat) (a b : Nat) (hu : U32 us) (hl : us.length ≤ 8) (ha : a < us.length) (hb : b < us.length) :
    Fn Tryz.prog 239 [.agg [.sl f 1 (strRow ns), .sl g 1 (u32Row us)], .v (.int .i64 (a : Int)), .v (.int .i64 (b : Int))] [] (.v (.int .i64 (meetI us a b))) [] := by
  have hd : ∀ x, downN us x us.length < 2 ^ 32 := fun x => Nat.lt_of_lt_of_le (downN_lt us x _) (Nat.pow_le_pow_right (by decide) (by omega))
  have han := uv_and (hd a) (hd b)
  refine Fn.of (fn := Tryz.f239) (by kernel_rfl) rfl (by kernel_rfl) ⟨[.agg [.sl f 1 (strRow ns), .sl g 1 (u32Row us)], .v (.int .i64 (a : Int)), .v (.int .i64 (b : Int)), .v undef, .v undef, .v undef, .v undef, .v undef, .v undef, .v undef, .v undef, .v undef, .v undef, .v undef, .v undef, .v undef, .v undef, .v undef, .v undef, .v undef, .v undef, .v undef, .v undef, .v undef, .v undef, .v undef, .v undef, .v undef, .v undef], []⟩ rfl ?_
  repeat' first | (with_reducible first | refine AWP_seq' ?_ | refine k_normal ?_ | refine AWP_block ?_) | ((first | with_reducible refine AWP_reg fun KC J hJ hKC => ?_ | with_reducible refine AWP_regD rfl fun KC J hJ hKC => ?_ | (refine' hKC _ _ _ _ _ (callV0 (down_fn _ _ _ _ _ ?_ ?_) rfl rfl rfl ?_ ?_); (rotate_left 7); (· exact Lq); (rotate_left 1); (iterate 2 (· exact Hq)))); simp (maxSteps := 9999999) only [push_cast, seval, ↓reduceIte, han]) | ((first | with_reducible refine hJ _ _ ?_ | (with_reducible refine hJ _ _ ?_ ?_; · kernel_rfl)); clear hJ hKC KC J)
  refine AWP_loopF (γ := {i : Nat // i ≤ us.length ∧ ∀ j, j < i → ¬ downN us j us.length = (downN us a us.length &&& downN us b us.length)}) (fun i => ⟨[.any, .any, .any, .ptr 0 0 0, .any, .any, .any, .v (.int .u32 (uv (downN us a us.length &&& downN us b us.length))), .any, .any, .any, .any, .any, .any, .any, .any, .any, .any, .v (.int .i64 us.length), .v (.int .i64 i.1), .any, .any, .any, .any, .any, .any, .any, .any, .any], [.ent ⟨0, none, 25, [.sl f 1 (strRow ns), .sl g 1 (u32Row us)], .cells⟩]⟩) (fun i => us.length - i.1) ⟨0, by simp⟩ ⟨?_, Fq⟩ ?_
  · exact Lq
  · rintro ⟨i, hi, hn⟩
    by_cases hlt : (i : Int) < (us.length : Int)
    · by_cases hz : downN us i us.length = (downN us a us.length &&& downN us b us.length)
      · skip
        repeat' first | (with_reducible first | refine AWP_seq' ?_ | refine k_normal ?_ | refine k_ret ?_ | refine b_ret ?_ | refine AWP_ret ?_ | refine AWP_skip ?_ | refine AWP_block ?_) | ((first | with_reducible refine AWP_reg fun KC J hJ hKC => ?_ | (refine' hKC _ _ _ _ _ (callV0 (down_fn _ _ _ _ _ ?_ ?_) rfl rfl rfl ?_ ?_); (rotate_left 7); (· exact Lq); (rotate_left 1); (iterate 2 (· exact Hq)))); simp (maxSteps := 9999999) only [push_cast, seval, ↓reduceIte, hlt, hz]) | ((with_reducible refine hJ _ _ ?_); clear hJ hKC KC J) | ((with_reducible refine AWP_condT ?_ ?_); · rfl)
        refine ret_plain ?_
        simp (maxSteps := 9999999) only [push_cast, seval, ↓reduceIte, show Tryz.f239.results = #[(.tmp 6)] from rfl]
        refine leD_v (congrArg (Value.int .i64) ?_)
        exact (idxF_at (xs := List.range us.length) (i := i) (by simp; omega) (by simpa using hz) (fun j hj hji => by simpa using hn j hji)).symm
      · have hz' : decide (downN us i us.length = (downN us a us.length &&& downN us b us.length)) = false := decide_eq_false hz
        repeat' first | (with_reducible first | refine AWP_seq' ?_ | refine k_normal ?_ | refine b_normal ?_ | refine AWP_skip ?_ | refine AWP_block ?_) | ((first | with_reducible refine AWP_reg fun KC J hJ hKC => ?_ | (refine' hKC _ _ _ _ _ (callV0 (down_fn _ _ _ _ _ ?_ ?_) rfl rfl rfl ?_ ?_); (rotate_left 7); (· exact Lq); (rotate_left 1); (iterate 2 (· exact Hq)))); simp (maxSteps := 9999999) only [push_cast, seval, ↓reduceIte, hlt, hz', wrapN (i := i) (n := us.length) (by omega) (by omega)]) | ((with_reducible refine hJ _ _ ?_); clear hJ hKC KC J) | ((with_reducible refine AWP_condT ?_ ?_); · rfl) | ((with_reducible refine AWP_condF ?_ ?_); · rfl)
        refine ⟨⟨i + 1, by omega, fun j hj => ?_⟩, by simp only; omega, ?_, Fq⟩
        · by_cases he : j = i
          · subst he; exact hz
          · exact hn j (by omega)
        · exact Lq
    · skip
      repeat' first | (with_reducible first | refine AWP_seq' ?_ | refine k_normal ?_ | refine k_exit ?_ | refine b_exit ?_ | refine AWP_ret ?_ | refine AWP_exit ?_) | ((with_reducible refine AWP_reg fun KC J hJ hKC => ?_); simp (maxSteps := 9999999) only [push_cast, seval, ↓reduceIte, hlt]) | ((with_reducible refine hJ _ _ ?_); clear hJ hKC KC J) | ((with_reducible refine AWP_condF ?_ ?_); · rfl)
      refine ret_plain ?_
      simp (maxSteps := 9999999) only [push_cast, seval, ↓reduceIte, show Tryz.f239.results = #[(.tmp 6)] from rfl]
      refine leD_v (congrArg (Value.int .i64) ?_)
      exact (idxF_none (xs := List.range us.length) (fun j hj => by simpa using hn j (by simp at hj; omega))).symm
end Go.Proofs.YtabliglgeiajlaaGreat.AM

namespace Go.Proofs.YtabliglgeiajlaaGreat.AM
open Go Go.RowKit Go.Proofs
set_option maxRecDepth 100000
set_option maxHeartbeats 1000000
theorem get_getD {us : List Nat} {c : Nat} (h : c < us.length) : us[c] = us.getD c 0 := by rw [List.getD_eq_getElem?_getD, List.getElem?_eq_getElem h]; rfl
def r3 (us : List Nat) (i j k : Nat) : Prop := fl us i j = true → fl us j k = true → fl us i k = true
def r2 (us : List Nat) (i j : Nat) : Prop := ¬ i = j → ¬ (fl us i j = true ∧ fl us j i = true)
def r0 (us : List Nat) (i : Nat) : Prop := fl us i i = true ∧ ∀ j, j < us.length → r2 us i j ∧ ∀ k, k < us.length → r3 us i j k
theorem ord_r0 {us : List Nat} : Ord us ↔ ∀ i, i < us.length → r0 us i := by
  constructor
  · rintro ⟨h1, h2, h3⟩ i hi
    exact ⟨h1 i hi, fun j hj => ⟨h2 i hi j hj, fun k hk => h3 i hi j hj k hk⟩⟩
  · intro h
    exact ⟨fun a ha => (h a ha).1, fun a ha b hb => ((h a ha).2 b hb).1, fun a ha b hb c hc => ((h a ha).2 b hb).2 c hc⟩
theorem rOrder_fn (f g : Bool) (ns : List ByteArray) (us : List Nat) (hu : U32 us) (hl : us.length ≤ 8) :
    Fn Tryz.prog 130 [.agg [.sl f 1 (strRow ns), .sl g 1 (u32Row us)]] [] (.v (.bool (decide (Ord us)))) [] := by
  refine Fn.of (fn := Tryz.f130) (by kernel_rfl) rfl (by kernel_rfl) ⟨[.agg [.sl f 1 (strRow ns), .sl g 1 (u32Row us)], .v undef, .v undef, .v undef, .v undef, .v undef, .v undef, .v undef, .v undef, .v undef, .v undef, .v undef, .v undef, .v undef, .v undef, .v undef, .v undef, .v undef, .v undef, .v undef, .v undef, .v undef, .v undef, .v undef, .v undef, .v undef, .v undef, .v undef, .v undef, .v undef, .v undef, .v undef, .v undef, .v undef, .v undef, .v undef, .v undef, .v undef, .v undef, .v undef, .v undef, .v undef, .v undef, .v undef, .v undef, .v undef, .v undef, .v undef, .v undef, .v undef, .v undef, .v undef, .v undef, .v undef, .v undef, .v undef, .v undef, .v undef, .v undef, .v undef, .v undef, .v undef, .v undef, .v undef], []⟩ rfl ?_
  repeat' first | (with_reducible first | refine AWP_seq' ?_ | refine k_normal ?_ | refine AWP_block ?_) | ((with_reducible refine AWP_reg fun KC J hJ hKC => ?_); simp (maxSteps := 9999999) only [push_cast, seval, ↓reduceIte]) | ((with_reducible refine hJ _ _ ?_); clear hJ hKC KC J)
  refine AWP_loopF (γ := {i : Nat // i ≤ us.length ∧ ∀ x, x < i → r0 us x}) (fun i => ⟨[.any, .ptr 0 0 0, .any, .any, .any, .any, .any, .any, .v (.int .i64 us.length), .v (.int .i64 i.1), .any, .any, .any, .any, .any, .any, .any, .any, .any, .any, .any, .any, .any, .any, .any, .any, .any, .any, .any, .any, .any, .any, .any, .any, .any, .any, .any, .any, .any, .any, .any, .any, .any, .any, .any, .any, .any, .any, .any, .any, .any, .any, .any, .any, .any, .any, .any, .any, .any, .any, .any, .any, .any, .any], [.ent ⟨0, none, 25, [.sl f 1 (strRow ns), .sl g 1 (u32Row us)], .cells⟩]⟩) (fun i => us.length - i.1) ⟨0, by simp⟩ ⟨?_, Fq⟩ ?_
  · exact Lq
  · rintro ⟨i, hi, hin⟩
    by_cases hlt : (i : Int) < (us.length : Int)
    · have hi' : i < us.length := by omega
      by_cases h1 : fl us i i = true
      · skip
        repeat' first | (with_reducible first | refine AWP_seq' ?_ | refine k_normal ?_ | refine AWP_skip ?_ | refine AWP_block ?_) | ((first | with_reducible refine AWP_reg fun KC J hJ hKC => ?_ | (refine' hKC _ _ _ _ _ (callV0 (rFlows_fn _ _ _ _ _ _ ?_ ?_ ?_) rfl rfl rfl ?_ ?_); (rotate_left 9); (· exact Lq); (rotate_left 1); (iterate 3 (· exact Hq)))); simp (maxSteps := 9999999) only [push_cast, seval, ↓reduceIte, hlt, h1]) | ((with_reducible refine hJ _ _ ?_); clear hJ hKC KC J) | ((with_reducible refine AWP_condT ?_ ?_); · rfl) | ((with_reducible refine AWP_condF ?_ ?_); · rfl)
        refine AWP_loopF (γ := {j : Nat // j ≤ us.length ∧ ∀ y, y < j → r2 us i y ∧ ∀ k, k < us.length → r3 us i y k}) (fun j => ⟨[.any, .ptr 0 0 0, .any, .v (.int .i64 i), .any, .any, .any, .any, .v (.int .i64 us.length), .v (.int .i64 i), .any, .any, .any, .any, .any, .any, .any, .any, .any, .v (.int .i64 us.length), .v (.int .i64 j.1), .any, .any, .any, .any, .any, .any, .any, .any, .any, .any, .any, .any, .any, .any, .any, .any, .any, .any, .any, .any, .any, .any, .any, .any, .any, .any, .any, .any, .any, .any, .any, .any, .any, .any, .any, .any, .any, .any, .any, .any, .any, .any, .any], [.ent ⟨0, none, 25, [.sl f 1 (strRow ns), .sl g 1 (u32Row us)], .cells⟩]⟩) (fun j => us.length - j.1) ⟨0, by simp⟩ ⟨?_, Fq⟩ ?_
        · exact Lq
        · rintro ⟨j, hj, hjn⟩
          by_cases hlj : (j : Int) < (us.length : Int)
          · have hj' : j < us.length := by omega
            by_cases hq : r2 us i j
            · skip
              repeat' first | (with_reducible refine hold 9 ?_) | (with_reducible first | refine AWP_seq' ?_ | refine k_normal ?_ | refine AWP_skip ?_ | refine AWP_block ?_) | ((with_reducible refine AWP_reg fun KC J hJ hKC => ?_); simp (maxSteps := 9999999) only [push_cast, seval, ↓reduceIte, hlj]) | ((with_reducible refine hJ _ _ ?_); clear hJ hKC KC J) | ((with_reducible refine AWP_condT ?_ ?_); · rfl)
              refine AWP_cut ⟨[.any, .ptr 0 0 0, .any, .v (.int .i64 i), .v (.int .i64 j), .any, .any, .any, .v (.int .i64 us.length), .v (.int .i64 i), .any, .any, .any, .any, .any, .any, .any, .any, .any, .v (.int .i64 us.length), .v (.int .i64 j), .any, .any, .any, .any, .any, .any, .any, .any, .any, .any, .any, .any, .any, .any, .any, .any, .any, .any, .any, .any, .any, .any, .any, .any, .any, .any, .any, .any, .any, .any, .any, .any, .any, .any, .any, .any, .any, .any, .any, .any, .any, .any, .any], [.ent ⟨0, none, 25, [.sl f 1 (strRow ns), .sl g 1 (u32Row us)], .cells⟩]⟩ ?_ ?_
              · have hne : ((i : Int) != (j : Int)) = decide (¬ i = j) := by rw [Bool.eq_iff_iff]; simp; omega
                by_cases hij : i = j
                · subst hij
                  repeat' first | (with_reducible first | refine AWP_seq' ?_ | refine k_normal ?_ | refine AWP_skip ?_) | ((with_reducible refine AWP_reg fun KC J hJ hKC => ?_); simp (maxSteps := 9999999) only [push_cast, seval, ↓reduceIte, undef]) | ((with_reducible refine hJ _ _ ?_); clear hJ hKC KC J) | ((with_reducible refine AWP_condF ?_ ?_); · rfl)
                  (refine to_of ?_ Fq; (· exact Lq))
                · cases hx : fl us i j
                  · skip
                    repeat' first | (with_reducible first | refine AWP_seq' ?_ | refine k_normal ?_ | refine AWP_skip ?_) | ((first | with_reducible refine AWP_reg fun KC J hJ hKC => ?_ | (refine' hKC _ _ _ _ _ (callV0 (rFlows_fn _ _ _ _ _ _ ?_ ?_ ?_) rfl rfl rfl ?_ ?_); (rotate_left 9); (· exact Lq); (rotate_left 1); (iterate 3 (· exact Hq)))); simp (maxSteps := 9999999) only [push_cast, seval, ↓reduceIte, hne, hij, hx, undef]) | ((with_reducible refine hJ _ _ ?_); clear hJ hKC KC J) | ((with_reducible refine AWP_condF ?_ ?_); · rfl)
                    (refine to_of ?_ Fq; (· exact Lq))
                  · have hy : fl us j i = false := by
                      cases hy : fl us j i with
                      | false => rfl
                      | true => exact absurd ⟨hx, hy⟩ (hq hij)
                    repeat' first | (with_reducible first | refine AWP_seq' ?_ | refine k_normal ?_ | refine AWP_skip ?_) | ((first | with_reducible refine AWP_reg fun KC J hJ hKC => ?_ | (refine' hKC _ _ _ _ _ (callV0 (rFlows_fn _ _ _ _ _ _ ?_ ?_ ?_) rfl rfl rfl ?_ ?_); (rotate_left 9); (· exact Lq); (rotate_left 1); (iterate 3 (· exact Hq)))); simp (maxSteps := 9999999) only [push_cast, seval, ↓reduceIte, hne, hij, hx, hy, undef]) | ((with_reducible refine hJ _ _ ?_); clear hJ hKC KC J) | ((with_reducible refine AWP_condF ?_ ?_); · rfl)
                    (refine to_of ?_ Fq; (· exact Lq))
              · skip
                repeat' first | (with_reducible first | refine AWP_seq' ?_ | refine k_normal ?_ | refine AWP_block ?_) | ((with_reducible refine AWP_reg fun KC J hJ hKC => ?_); simp (maxSteps := 9999999) only [push_cast, seval, ↓reduceIte]) | ((with_reducible refine hJ _ _ ?_); clear hJ hKC KC J)
                refine AWP_loopF (γ := {k : Nat // k ≤ us.length ∧ r2 us i j ∧ ∀ y, y < k → r3 us i j y}) (fun k => ⟨[.any, .ptr 0 0 0, .any, .v (.int .i64 i), .v (.int .i64 j), .any, .any, .any, .v (.int .i64 us.length), .v (.int .i64 i), .any, .any, .any, .any, .any, .any, .any, .any, .any, .v (.int .i64 us.length), .v (.int .i64 j), .any, .any, .any, .any, .any, .any, .any, .any, .any, .any, .any, .any, .any, .any, .any, .any, .any, .any, .any, .v (.int .i64 us.length), .v (.int .i64 k.1), .any, .any, .any, .any, .any, .any, .any, .any, .any, .any, .any, .any, .any, .any, .any, .any, .any, .any, .any, .any, .any, .any], [.ent ⟨0, none, 25, [.sl f 1 (strRow ns), .sl g 1 (u32Row us)], .cells⟩]⟩) (fun k => us.length - k.1) ⟨0, by omega, hq, by intro y hy; omega⟩ ⟨?_, Fq⟩ ?_
                · exact Lq
                · rintro ⟨k, hk, hq, hkn⟩
                  by_cases hlk : (k : Int) < (us.length : Int)
                  · have hk' : k < us.length := by omega
                    cases hx : fl us i j with
                    | false =>
                      repeat' first | (with_reducible first | refine AWP_seq' ?_ | refine k_normal ?_ | refine b_normal ?_ | refine AWP_skip ?_ | refine AWP_block ?_) | ((first | with_reducible refine AWP_reg fun KC J hJ hKC => ?_ | (refine' hKC _ _ _ _ _ (callV0 (rFlows_fn _ _ _ _ _ _ ?_ ?_ ?_) rfl rfl rfl ?_ ?_); (rotate_left 9); (· exact Lq); (rotate_left 1); (iterate 3 (· exact Hq)))); simp (maxSteps := 9999999) only [push_cast, seval, ↓reduceIte, hlk, hx, undef, wrapN (i := k) (n := us.length) (by omega) (by omega)]) | ((with_reducible refine hJ _ _ ?_); clear hJ hKC KC J) | ((with_reducible refine AWP_condT ?_ ?_); · rfl) | ((with_reducible refine AWP_condF ?_ ?_); · rfl)
                      refine ⟨⟨k + 1, by omega, hq, fun y hy => ?_⟩, by simp only; omega, ?_, Fq⟩
                      · intro h; rw [hx] at h; cases h
                      · exact Lq
                    | true =>
                      cases hy : fl us j k with
                      | false =>
                        repeat' first | (with_reducible first | refine AWP_seq' ?_ | refine k_normal ?_ | refine b_normal ?_ | refine AWP_skip ?_ | refine AWP_block ?_) | ((first | with_reducible refine AWP_reg fun KC J hJ hKC => ?_ | (refine' hKC _ _ _ _ _ (callV0 (rFlows_fn _ _ _ _ _ _ ?_ ?_ ?_) rfl rfl rfl ?_ ?_); (rotate_left 9); (· exact Lq); (rotate_left 1); (iterate 3 (· exact Hq)))); simp (maxSteps := 9999999) only [push_cast, seval, ↓reduceIte, hlk, hx, hy, undef, wrapN (i := k) (n := us.length) (by omega) (by omega)]) | ((with_reducible refine hJ _ _ ?_); clear hJ hKC KC J) | ((with_reducible refine AWP_condT ?_ ?_); · rfl) | ((with_reducible refine AWP_condF ?_ ?_); · rfl)
                        refine ⟨⟨k + 1, by omega, hq, fun y hyk => ?_⟩, by simp only; omega, ?_, Fq⟩
                        · by_cases he : y = k
                          · intro _ h; rw [he, hy] at h; cases h
                          · exact hkn y (by omega)
                        · exact Lq
                      | true =>
                        cases hz : fl us i k with
                        | true =>
                          repeat' first | (with_reducible first | refine AWP_seq' ?_ | refine k_normal ?_ | refine b_normal ?_ | refine AWP_skip ?_ | refine AWP_block ?_) | ((first | with_reducible refine AWP_reg fun KC J hJ hKC => ?_ | (refine' hKC _ _ _ _ _ (callV0 (rFlows_fn _ _ _ _ _ _ ?_ ?_ ?_) rfl rfl rfl ?_ ?_); (rotate_left 9); (· exact Lq); (rotate_left 1); (iterate 3 (· exact Hq)))); simp (maxSteps := 9999999) only [push_cast, seval, ↓reduceIte, hlk, hx, hy, hz, undef, wrapN (i := k) (n := us.length) (by omega) (by omega)]) | ((with_reducible refine hJ _ _ ?_); clear hJ hKC KC J) | ((with_reducible refine AWP_condT ?_ ?_); · rfl) | ((with_reducible refine AWP_condF ?_ ?_); · rfl)
                          refine ⟨⟨k + 1, by omega, hq, fun y hyk => ?_⟩, by simp only; omega, ?_, Fq⟩
                          · by_cases he : y = k
                            · intro _ _; rw [he, hz]
                            · exact hkn y (by omega)
                          · exact Lq
                        | false =>
                          repeat' first | (with_reducible first | refine AWP_seq' ?_ | refine k_normal ?_ | refine k_ret ?_ | refine b_ret ?_ | refine AWP_ret ?_ | refine AWP_skip ?_ | refine AWP_block ?_) | ((first | with_reducible refine AWP_reg fun KC J hJ hKC => ?_ | (refine' hKC _ _ _ _ _ (callV0 (rFlows_fn _ _ _ _ _ _ ?_ ?_ ?_) rfl rfl rfl ?_ ?_); (rotate_left 9); (· exact Lq); (rotate_left 1); (iterate 3 (· exact Hq)))); simp (maxSteps := 9999999) only [push_cast, seval, ↓reduceIte, hlk, hx, hy, hz, undef]) | ((with_reducible refine hJ _ _ ?_); clear hJ hKC KC J) | ((with_reducible refine AWP_condT ?_ ?_); · rfl)
                          refine ret_plain ?_
                          simp (maxSteps := 9999999) only [push_cast, seval, ↓reduceIte, show Tryz.f130.results = #[(.tmp 2)] from rfl]
                          rw [decide_eq_false (fun h => by have := ((ord_r0.1 h i hi').2 j hj').2 k hk' hx hy; rw [hz] at this; cases this)]
                          exact leD_refl _
                  · skip
                    repeat' first | (with_reducible first | refine AWP_seq' ?_ | refine k_normal ?_ | refine k_exit ?_ | refine b_normal ?_ | refine b_exit ?_ | refine AWP_exit ?_) | ((with_reducible refine AWP_reg fun KC J hJ hKC => ?_); simp (maxSteps := 9999999) only [push_cast, seval, ↓reduceIte, hlk, wrapN (i := j) (n := us.length) (by omega) (by omega)]) | ((with_reducible refine hJ _ _ ?_); clear hJ hKC KC J) | ((with_reducible refine AWP_condF ?_ ?_); · rfl)
                    refine ⟨⟨j + 1, by omega, fun y hy => ?_⟩, by simp only; omega, ?_, Fq⟩
                    · by_cases he : y = j
                      · subst he; exact ⟨hq, fun z hz => hkn z (by omega)⟩
                      · exact hjn y (by omega)
                    · exact Lq
            · have hij : ¬ i = j := fun h => hq fun h' => absurd h h'
              have hxy : fl us i j = true ∧ fl us j i = true := by
                refine Decidable.byContradiction fun h => hq fun _ => h
              have hne : ((i : Int) != (j : Int)) = true := by simp; omega
              repeat' first | (with_reducible first | refine AWP_seq' ?_ | refine k_normal ?_ | refine k_ret ?_ | refine b_ret ?_ | refine AWP_ret ?_ | refine AWP_skip ?_ | refine AWP_block ?_) | ((first | with_reducible refine AWP_reg fun KC J hJ hKC => ?_ | (refine' hKC _ _ _ _ _ (callV0 (rFlows_fn _ _ _ _ _ _ ?_ ?_ ?_) rfl rfl rfl ?_ ?_); (rotate_left 9); (· exact Lq); (rotate_left 1); (iterate 3 (· exact Hq)))); simp (maxSteps := 9999999) only [push_cast, seval, ↓reduceIte, hlj, hne, hxy.1, hxy.2]) | ((with_reducible refine hJ _ _ ?_); clear hJ hKC KC J) | ((with_reducible refine AWP_condT ?_ ?_); · rfl)
              refine ret_plain ?_
              simp (maxSteps := 9999999) only [push_cast, seval, ↓reduceIte, show Tryz.f130.results = #[(.tmp 2)] from rfl]
              rw [decide_eq_false (fun h => hq ((ord_r0.1 h i hi').2 j hj').1)]
              exact leD_refl _
          · skip
            repeat' first | (with_reducible first | refine AWP_seq' ?_ | refine k_normal ?_ | refine k_exit ?_ | refine b_normal ?_ | refine b_exit ?_ | refine AWP_exit ?_) | ((with_reducible refine AWP_reg fun KC J hJ hKC => ?_); simp (maxSteps := 9999999) only [push_cast, seval, ↓reduceIte, hlj, wrapN (i := i) (n := us.length) (by omega) (by omega)]) | ((with_reducible refine hJ _ _ ?_); clear hJ hKC KC J) | ((with_reducible refine AWP_condF ?_ ?_); · rfl)
            refine ⟨⟨i + 1, by omega, fun x hx => ?_⟩, by simp only; omega, ?_, Fq⟩
            · by_cases he : x = i
              · subst he; exact ⟨h1, fun y hy => hjn y (by omega)⟩
              · exact hin x (by omega)
            · exact Lq
      · skip
        repeat' first | (with_reducible first | refine AWP_seq' ?_ | refine k_normal ?_ | refine k_ret ?_ | refine b_ret ?_ | refine AWP_ret ?_ | refine AWP_skip ?_ | refine AWP_block ?_) | ((first | with_reducible refine AWP_reg fun KC J hJ hKC => ?_ | (refine' hKC _ _ _ _ _ (callV0 (rFlows_fn _ _ _ _ _ _ ?_ ?_ ?_) rfl rfl rfl ?_ ?_); (rotate_left 9); (· exact Lq); (rotate_left 1); (iterate 3 (· exact Hq)))); simp (maxSteps := 9999999) only [push_cast, seval, ↓reduceIte, hlt, h1, undef]) | ((with_reducible refine hJ _ _ ?_); clear hJ hKC KC J) | ((with_reducible refine AWP_condT ?_ ?_); · rfl)
        refine ret_plain ?_
        simp (maxSteps := 9999999) only [push_cast, seval, ↓reduceIte, show Tryz.f130.results = #[(.tmp 2)] from rfl]
        rw [decide_eq_false (fun h => h1 (ord_r0.1 h i hi').1)]
        exact leD_refl _
    · skip
      repeat' first | (with_reducible first | refine AWP_seq' ?_ | refine k_normal ?_ | refine k_exit ?_ | refine b_exit ?_ | refine AWP_ret ?_ | refine AWP_exit ?_) | ((with_reducible refine AWP_reg fun KC J hJ hKC => ?_); simp (maxSteps := 9999999) only [push_cast, seval, ↓reduceIte, hlt]) | ((with_reducible refine hJ _ _ ?_); clear hJ hKC KC J) | ((with_reducible refine AWP_condF ?_ ?_); · rfl)
      refine ret_plain ?_
      simp (maxSteps := 9999999) only [push_cast, seval, ↓reduceIte, show Tryz.f130.results = #[(.tmp 2)] from rfl]
      rw [decide_eq_true (ord_r0.2 fun x hx => hin x (by omega))]
      exact leD_refl _
def isJn (us : List Nat) (a b c n : Nat) : Prop := (fl us a c = true ∧ fl us b c = true) ∧ ∀ d, d < n → fl us a d = true → fl us b d = true → fl us c d = true
instance (us : List Nat) (a b c n : Nat) : Decidable (isJn us a b c n) := by unfold isJn; infer_instance
theorem rJoin_fn (f g : Bool) (ns : List ByteArray) (us : List Nat) (a b : Nat) (hu : U32 us) (hlw : Low us) (ho : Ord us) (hl : us.length ≤ 8) (ha : a < us.length) (hb : b < us.length) :
    Fn Tryz.prog 131 [.agg [.sl f 1 (strRow ns), .sl g 1 (u32Row us)], .v (.int .i64 (a : Int)), .v (.int .i64 (b : Int))] [] (.v (.int .i64 (joinI us a b))) [] := by
  refine Fn.of (fn := Tryz.f131) (by kernel_rfl) rfl (by kernel_rfl) ⟨[.agg [.sl f 1 (strRow ns), .sl g 1 (u32Row us)], .v (.int .i64 (a : Int)), .v (.int .i64 (b : Int)), .v undef, .v undef, .v undef, .v undef, .v undef, .v undef, .v undef, .v undef, .v undef, .v undef, .v undef, .v undef, .v undef, .v undef, .v undef, .v undef, .v undef, .v undef, .v undef, .v undef, .v undef, .v undef, .v undef, .v undef, .v undef, .v undef, .v undef, .v undef, .v undef, .v undef, .v undef, .v undef, .v undef, .v undef, .v undef, .v undef, .v undef, .v undef, .v undef, .v undef, .v undef, .v undef, .v undef, .v undef, .v undef, .v undef, .v undef, .v undef, .v undef, .v undef], []⟩ rfl ?_
  repeat' first | (with_reducible first | refine AWP_seq' ?_ | refine k_normal ?_ | refine AWP_block ?_) | ((with_reducible refine AWP_reg fun KC J hJ hKC => ?_); simp (maxSteps := 9999999) only [push_cast, seval, ↓reduceIte]) | ((with_reducible refine hJ _ _ ?_); clear hJ hKC KC J)
  refine AWP_loopF (γ := {c : Nat // c ≤ us.length ∧ ∀ x, x < c → ¬ isJ us a b x}) (fun c => ⟨[.any, .v (.int .i64 a), .v (.int .i64 b), .ptr 0 0 0, .any, .any, .any, .any, .any, .any, .any, .any, .v (.int .i64 us.length), .v (.int .i64 c.1), .any, .any, .any, .any, .any, .any, .any, .any, .any, .any, .any, .any, .any, .any, .any, .any, .any, .any, .any, .any, .any, .any, .any, .any, .any, .any, .any, .any, .any, .any, .any, .any, .any, .any, .any, .any, .any, .any, .any], [.ent ⟨0, none, 25, [.sl f 1 (strRow ns), .sl g 1 (u32Row us)], .cells⟩]⟩) (fun c => us.length - c.1) ⟨0, by simp⟩ ⟨?_, Fq⟩ ?_
  · exact Lq
  · rintro ⟨c, hc, hcn⟩
    by_cases hlt : (c : Int) < (us.length : Int)
    · have hc' : c < us.length := by omega
      repeat' first | (with_reducible refine hold1 4 ?_) | (with_reducible first | refine AWP_seq' ?_ | refine k_normal ?_ | refine AWP_skip ?_ | refine AWP_block ?_) | ((with_reducible refine AWP_reg fun KC J hJ hKC => ?_); simp (maxSteps := 9999999) only [push_cast, seval, ↓reduceIte, hlt]) | ((with_reducible refine hJ _ _ ?_); clear hJ hKC KC J) | ((with_reducible refine AWP_condT ?_ ?_); · rfl)
      refine AWP_cut ⟨[.any, .v (.int .i64 a), .v (.int .i64 b), .ptr 0 0 0, .any, .any, .any, .v (.int .i64 c), .v (.bool (decide (isJn us a b c 0))), .any, .any, .any, .v (.int .i64 us.length), .v (.int .i64 c), .any, .any, .any, .any, .any, .any, .any, .any, .any, .any, .any, .any, .any, .any, .any, .any, .any, .any, .any, .any, .any, .any, .any, .any, .any, .any, .any, .any, .any, .any, .any, .any, .any, .any, .any, .any, .any, .any, .any], [.ent ⟨0, none, 25, [.sl f 1 (strRow ns), .sl g 1 (u32Row us)], .cells⟩]⟩ ?_ ?_
      · cases hx : fl us a c
        · have e : decide (isJn us a b c 0) = false := decide_eq_false fun h => by have := h.1.1; rw [hx] at this; cases this
          rw [e]
          repeat' first | ((first | with_reducible refine AWP_reg fun KC J hJ hKC => ?_ | (refine' hKC _ _ _ _ _ (callV0 (rFlows_fn _ _ _ _ _ _ ?_ ?_ ?_) rfl rfl rfl ?_ ?_); (rotate_left 9); (· exact Lq); (rotate_left 1); (iterate 3 (· exact Hq)))); simp (maxSteps := 9999999) only [push_cast, seval, ↓reduceIte, hx, undef]) | ((with_reducible refine hJ _ _ ?_); clear hJ hKC KC J)
          (refine to_of ?_ Fq; (· exact Lq))
        · cases hy : fl us b c
          · have e : decide (isJn us a b c 0) = false := decide_eq_false fun h => by have := h.1.2; rw [hy] at this; cases this
            rw [e]
            repeat' first | ((first | with_reducible refine AWP_reg fun KC J hJ hKC => ?_ | (refine' hKC _ _ _ _ _ (callV0 (rFlows_fn _ _ _ _ _ _ ?_ ?_ ?_) rfl rfl rfl ?_ ?_); (rotate_left 9); (· exact Lq); (rotate_left 1); (iterate 3 (· exact Hq)))); simp (maxSteps := 9999999) only [push_cast, seval, ↓reduceIte, hx, hy, undef]) | ((with_reducible refine hJ _ _ ?_); clear hJ hKC KC J)
            (refine to_of ?_ Fq; (· exact Lq))
          · have e : decide (isJn us a b c 0) = true := decide_eq_true ⟨⟨hx, hy⟩, fun d hd => by omega⟩
            rw [e]
            repeat' first | ((first | with_reducible refine AWP_reg fun KC J hJ hKC => ?_ | (refine' hKC _ _ _ _ _ (callV0 (rFlows_fn _ _ _ _ _ _ ?_ ?_ ?_) rfl rfl rfl ?_ ?_); (rotate_left 9); (· exact Lq); (rotate_left 1); (iterate 3 (· exact Hq)))); simp (maxSteps := 9999999) only [push_cast, seval, ↓reduceIte, hx, hy, undef]) | ((with_reducible refine hJ _ _ ?_); clear hJ hKC KC J)
            (refine to_of ?_ Fq; (· exact Lq))
      · skip
        repeat' first | (with_reducible first | refine AWP_seq' ?_ | refine k_normal ?_ | refine AWP_block ?_) | ((with_reducible refine AWP_reg fun KC J hJ hKC => ?_); simp (maxSteps := 9999999) only [push_cast, seval, ↓reduceIte]) | ((with_reducible refine hJ _ _ ?_); clear hJ hKC KC J)
        refine AWP_loopF (γ := {d : Nat // d ≤ us.length}) (fun d => ⟨[.any, .v (.int .i64 a), .v (.int .i64 b), .ptr 0 0 0, .any, .any, .any, .v (.int .i64 c), .v (.bool (decide (isJn us a b c d.1))), .any, .any, .any, .v (.int .i64 us.length), .v (.int .i64 c), .any, .any, .any, .any, .any, .any, .any, .any, .any, .any, .any, .any, .any, .any, .v (.int .i64 us.length), .v (.int .i64 d.1), .any, .any, .any, .any, .any, .any, .any, .any, .any, .any, .any, .any, .any, .any, .any, .any, .any, .any, .any, .any, .any, .any, .any], [.ent ⟨0, none, 25, [.sl f 1 (strRow ns), .sl g 1 (u32Row us)], .cells⟩]⟩) (fun d => us.length - d.1) ⟨0, by simp⟩ ⟨?_, Fq⟩ ?_
        · exact Lq
        · rintro ⟨d, hd⟩
          by_cases hld : (d : Int) < (us.length : Int)
          · have hd' : d < us.length := by omega
            have hst : (fl us a d = true → fl us b d = true → fl us c d = true) → decide (isJn us a b c (d + 1)) = decide (isJn us a b c d) := fun h => decide_eq_decide.2 ⟨fun h2 => ⟨h2.1, fun e he => h2.2 e (by omega)⟩, fun h2 => ⟨h2.1, fun e he => by
              by_cases hed : e = d
              · subst hed; exact h
              · exact h2.2 e (by omega)⟩⟩
            by_cases hbad : fl us a d = true ∧ fl us b d = true ∧ fl us c d = false
            · have e : decide (isJn us a b c (d + 1)) = false := decide_eq_false fun h => by have := h.2 d (by omega) hbad.1 hbad.2.1; rw [hbad.2.2] at this; cases this
              repeat' first | (with_reducible first | refine AWP_seq' ?_ | refine k_normal ?_ | refine b_normal ?_ | refine AWP_skip ?_ | refine AWP_block ?_) | ((first | with_reducible refine AWP_reg fun KC J hJ hKC => ?_ | (refine' hKC _ _ _ _ _ (callV0 (rFlows_fn _ _ _ _ _ _ ?_ ?_ ?_) rfl rfl rfl ?_ ?_); (rotate_left 9); (· exact Lq); (rotate_left 1); (iterate 3 (· exact Hq)))); simp (maxSteps := 9999999) only [push_cast, seval, ↓reduceIte, hld, hbad.1, hbad.2.1, hbad.2.2, undef, wrapN (i := d) (n := us.length) (by omega) (by omega)]) | ((with_reducible refine hJ _ _ ?_); clear hJ hKC KC J) | ((with_reducible refine AWP_condT ?_ ?_); · rfl)
              refine ⟨⟨d + 1, by omega⟩, by simp only; omega, ?_, Fq⟩
              simp only [e]
              exact Lq
            · have e := hst fun h1 h2 => by
                cases h3 : fl us c d with
                | true => rfl
                | false => exact absurd ⟨h1, h2, h3⟩ hbad
              obtain ⟨v, hv⟩ : ∃ v, decide (isJn us a b c d) = v := ⟨_, rfl⟩
              rw [hv] at e ⊢
              cases hx : fl us a d
              · skip
                repeat' first | (with_reducible first | refine AWP_seq' ?_ | refine k_normal ?_ | refine b_normal ?_ | refine AWP_skip ?_ | refine AWP_block ?_) | ((first | with_reducible refine AWP_reg fun KC J hJ hKC => ?_ | (refine' hKC _ _ _ _ _ (callV0 (rFlows_fn _ _ _ _ _ _ ?_ ?_ ?_) rfl rfl rfl ?_ ?_); (rotate_left 9); (· exact Lq); (rotate_left 1); (iterate 3 (· exact Hq)))); simp (maxSteps := 9999999) only [push_cast, seval, ↓reduceIte, hld, hx, undef, wrapN (i := d) (n := us.length) (by omega) (by omega)]) | ((with_reducible refine hJ _ _ ?_); clear hJ hKC KC J) | ((with_reducible refine AWP_condT ?_ ?_); · rfl) | ((with_reducible refine AWP_condF ?_ ?_); · rfl)
                refine ⟨⟨d + 1, by omega⟩, by simp only; omega, ?_, Fq⟩
                simp only [e]
                exact Lq
              · cases hy : fl us b d
                · skip
                  repeat' first | (with_reducible first | refine AWP_seq' ?_ | refine k_normal ?_ | refine b_normal ?_ | refine AWP_skip ?_ | refine AWP_block ?_) | ((first | with_reducible refine AWP_reg fun KC J hJ hKC => ?_ | (refine' hKC _ _ _ _ _ (callV0 (rFlows_fn _ _ _ _ _ _ ?_ ?_ ?_) rfl rfl rfl ?_ ?_); (rotate_left 9); (· exact Lq); (rotate_left 1); (iterate 3 (· exact Hq)))); simp (maxSteps := 9999999) only [push_cast, seval, ↓reduceIte, hld, hx, hy, undef, wrapN (i := d) (n := us.length) (by omega) (by omega)]) | ((with_reducible refine hJ _ _ ?_); clear hJ hKC KC J) | ((with_reducible refine AWP_condT ?_ ?_); · rfl) | ((with_reducible refine AWP_condF ?_ ?_); · rfl)
                  refine ⟨⟨d + 1, by omega⟩, by simp only; omega, ?_, Fq⟩
                  simp only [e]
                  exact Lq
                · have hz : fl us c d = true := by
                    cases h3 : fl us c d with
                    | true => rfl
                    | false => exact absurd ⟨hx, hy, h3⟩ hbad
                  repeat' first | (with_reducible first | refine AWP_seq' ?_ | refine k_normal ?_ | refine b_normal ?_ | refine AWP_skip ?_ | refine AWP_block ?_) | ((first | with_reducible refine AWP_reg fun KC J hJ hKC => ?_ | (refine' hKC _ _ _ _ _ (callV0 (rFlows_fn _ _ _ _ _ _ ?_ ?_ ?_) rfl rfl rfl ?_ ?_); (rotate_left 9); (· exact Lq); (rotate_left 1); (iterate 3 (· exact Hq)))); simp (maxSteps := 9999999) only [push_cast, seval, ↓reduceIte, hld, hx, hy, hz, undef, wrapN (i := d) (n := us.length) (by omega) (by omega)]) | ((with_reducible refine hJ _ _ ?_); clear hJ hKC KC J) | ((with_reducible refine AWP_condT ?_ ?_); · rfl) | ((with_reducible refine AWP_condF ?_ ?_); · rfl)
                  refine ⟨⟨d + 1, by omega⟩, by simp only; omega, ?_, Fq⟩
                  simp only [e]
                  exact Lq
          · have hdn : d = us.length := by omega
            subst hdn
            by_cases hj : isJn us a b c us.length
            · have e : decide (isJn us a b c us.length) = true := decide_eq_true hj
              rw [e]
              repeat' first | (with_reducible first | refine AWP_seq' ?_ | refine k_normal ?_ | refine k_ret ?_ | refine k_exit ?_ | refine b_ret ?_ | refine b_exit ?_ | refine AWP_ret ?_ | refine AWP_exit ?_) | ((with_reducible refine AWP_reg fun KC J hJ hKC => ?_); simp (maxSteps := 9999999) only [push_cast, seval, ↓reduceIte, hld]) | ((with_reducible refine hJ _ _ ?_); clear hJ hKC KC J) | ((with_reducible refine AWP_condT ?_ ?_); · rfl) | ((with_reducible refine AWP_condF ?_ ?_); · rfl)
              refine ret_plain ?_
              simp (maxSteps := 9999999) only [push_cast, seval, ↓reduceIte, show Tryz.f131.results = #[(.tmp 6)] from rfl]
              refine leD_v (congrArg (Value.int .i64) ?_)
              exact (idxF_at (xs := us) (i := c) (by omega) (by rw [get_getD hc']; exact decide_eq_true ((isJ_iff hlw ho ha hb hc').1 hj)) (fun j hj' hjc => by rw [get_getD hj']; exact decide_eq_false fun h => hcn j hjc ((isJ_iff hlw ho ha hb hj').2 h))).symm
            · have e : decide (isJn us a b c us.length) = false := decide_eq_false hj
              rw [e]
              repeat' first | (with_reducible first | refine AWP_seq' ?_ | refine k_normal ?_ | refine k_exit ?_ | refine b_normal ?_ | refine b_exit ?_ | refine AWP_skip ?_ | refine AWP_exit ?_) | ((with_reducible refine AWP_reg fun KC J hJ hKC => ?_); simp (maxSteps := 9999999) only [push_cast, seval, ↓reduceIte, hld, wrapN (i := c) (n := us.length) (by omega) (by omega)]) | ((with_reducible refine hJ _ _ ?_); clear hJ hKC KC J) | ((with_reducible refine AWP_condF ?_ ?_); · rfl)
              refine ⟨⟨c + 1, by omega, fun x hx => ?_⟩, by simp only; omega, ?_, Fq⟩
              · by_cases he : x = c
                · subst he; exact hj
                · exact hcn x (by omega)
              · exact Lq
    · skip
      repeat' first | (with_reducible first | refine AWP_seq' ?_ | refine k_normal ?_ | refine k_exit ?_ | refine b_exit ?_ | refine AWP_ret ?_ | refine AWP_exit ?_) | ((with_reducible refine AWP_reg fun KC J hJ hKC => ?_); simp (maxSteps := 9999999) only [push_cast, seval, ↓reduceIte, hlt]) | ((with_reducible refine hJ _ _ ?_); clear hJ hKC KC J) | ((with_reducible refine AWP_condF ?_ ?_); · rfl)
      refine ret_plain ?_
      simp (maxSteps := 9999999) only [push_cast, seval, ↓reduceIte, show Tryz.f131.results = #[(.tmp 6)] from rfl]
      refine leD_v (congrArg (Value.int .i64) ?_)
      exact (idxF_none (xs := us) (fun j hj' => by rw [get_getD hj']; exact decide_eq_false fun h => hcn j (by omega) ((isJ_iff hlw ho ha hb hj').2 h))).symm
def isMn (us : List Nat) (a b c n : Nat) : Prop := (fl us c a = true ∧ fl us c b = true) ∧ ∀ d, d < n → fl us d a = true → fl us d b = true → fl us d c = true
instance (us : List Nat) (a b c n : Nat) : Decidable (isMn us a b c n) := by unfold isMn; infer_instance
theorem rMeet_fn (f g : Bool) (ns : List ByteArray) (us : List Nat) (a b : Nat) (hu : U32 us) (hlw : Low us) (ho : Ord us) (hl : us.length ≤ 8) (ha : a < us.length) (hb : b < us.length) :
    Fn Tryz.prog 132 [.agg [.sl f 1 (strRow ns), .sl g 1 (u32Row us)], .v (.int .i64 (a : Int)), .v (.int .i64 (b : Int))] [] (.v (.int .i64 (meetI us a b))) [] := by
  refine Fn.of (fn := Tryz.f132) (by kernel_rfl) rfl (by kernel_rfl) ⟨[.agg [.sl f 1 (strRow ns), .sl g 1 (u32Row us)], .v (.int .i64 (a : Int)), .v (.int .i64 (b : Int)), .v undef, .v undef, .v undef, .v undef, .v undef, .v undef, .v undef, .v undef, .v undef, .v undef, .v undef, .v undef, .v undef, .v undef, .v undef, .v undef, .v undef, .v undef, .v undef, .v undef, .v undef, .v undef, .v undef, .v undef, .v undef, .v undef, .v undef, .v undef, .v undef, .v undef, .v undef, .v undef, .v undef, .v undef, .v undef, .v undef, .v undef, .v undef, .v undef, .v undef, .v undef, .v undef, .v undef, .v undef, .v undef, .v undef, .v undef, .v undef, .v undef, .v undef], []⟩ rfl ?_
  repeat' first | (with_reducible first | refine AWP_seq' ?_ | refine k_normal ?_ | refine AWP_block ?_) | ((with_reducible refine AWP_reg fun KC J hJ hKC => ?_); simp (maxSteps := 9999999) only [push_cast, seval, ↓reduceIte]) | ((with_reducible refine hJ _ _ ?_); clear hJ hKC KC J)
  refine AWP_loopF (γ := {c : Nat // c ≤ us.length ∧ ∀ x, x < c → ¬ isM us a b x}) (fun c => ⟨[.any, .v (.int .i64 a), .v (.int .i64 b), .ptr 0 0 0, .any, .any, .any, .any, .any, .any, .any, .any, .v (.int .i64 us.length), .v (.int .i64 c.1), .any, .any, .any, .any, .any, .any, .any, .any, .any, .any, .any, .any, .any, .any, .any, .any, .any, .any, .any, .any, .any, .any, .any, .any, .any, .any, .any, .any, .any, .any, .any, .any, .any, .any, .any, .any, .any, .any, .any], [.ent ⟨0, none, 25, [.sl f 1 (strRow ns), .sl g 1 (u32Row us)], .cells⟩]⟩) (fun c => us.length - c.1) ⟨0, by simp⟩ ⟨?_, Fq⟩ ?_
  · exact Lq
  · rintro ⟨c, hc, hcn⟩
    by_cases hlt : (c : Int) < (us.length : Int)
    · have hc' : c < us.length := by omega
      repeat' first | (with_reducible refine hold1 4 ?_) | (with_reducible first | refine AWP_seq' ?_ | refine k_normal ?_ | refine AWP_skip ?_ | refine AWP_block ?_) | ((with_reducible refine AWP_reg fun KC J hJ hKC => ?_); simp (maxSteps := 9999999) only [push_cast, seval, ↓reduceIte, hlt]) | ((with_reducible refine hJ _ _ ?_); clear hJ hKC KC J) | ((with_reducible refine AWP_condT ?_ ?_); · rfl)
      refine AWP_cut ⟨[.any, .v (.int .i64 a), .v (.int .i64 b), .ptr 0 0 0, .any, .any, .any, .v (.int .i64 c), .v (.bool (decide (isMn us a b c 0))), .any, .any, .any, .v (.int .i64 us.length), .v (.int .i64 c), .any, .any, .any, .any, .any, .any, .any, .any, .any, .any, .any, .any, .any, .any, .any, .any, .any, .any, .any, .any, .any, .any, .any, .any, .any, .any, .any, .any, .any, .any, .any, .any, .any, .any, .any, .any, .any, .any, .any], [.ent ⟨0, none, 25, [.sl f 1 (strRow ns), .sl g 1 (u32Row us)], .cells⟩]⟩ ?_ ?_
      · cases hx : fl us c a
        · have e : decide (isMn us a b c 0) = false := decide_eq_false fun h => by have := h.1.1; rw [hx] at this; cases this
          rw [e]
          repeat' first | ((first | with_reducible refine AWP_reg fun KC J hJ hKC => ?_ | (refine' hKC _ _ _ _ _ (callV0 (rFlows_fn _ _ _ _ _ _ ?_ ?_ ?_) rfl rfl rfl ?_ ?_); (rotate_left 9); (· exact Lq); (rotate_left 1); (iterate 3 (· exact Hq)))); simp (maxSteps := 9999999) only [push_cast, seval, ↓reduceIte, hx, undef]) | ((with_reducible refine hJ _ _ ?_); clear hJ hKC KC J)
          (refine to_of ?_ Fq; (· exact Lq))
        · cases hy : fl us c b
          · have e : decide (isMn us a b c 0) = false := decide_eq_false fun h => by have := h.1.2; rw [hy] at this; cases this
            rw [e]
            repeat' first | ((first | with_reducible refine AWP_reg fun KC J hJ hKC => ?_ | (refine' hKC _ _ _ _ _ (callV0 (rFlows_fn _ _ _ _ _ _ ?_ ?_ ?_) rfl rfl rfl ?_ ?_); (rotate_left 9); (· exact Lq); (rotate_left 1); (iterate 3 (· exact Hq)))); simp (maxSteps := 9999999) only [push_cast, seval, ↓reduceIte, hx, hy, undef]) | ((with_reducible refine hJ _ _ ?_); clear hJ hKC KC J)
            (refine to_of ?_ Fq; (· exact Lq))
          · have e : decide (isMn us a b c 0) = true := decide_eq_true ⟨⟨hx, hy⟩, fun d hd => by omega⟩
            rw [e]
            repeat' first | ((first | with_reducible refine AWP_reg fun KC J hJ hKC => ?_ | (refine' hKC _ _ _ _ _ (callV0 (rFlows_fn _ _ _ _ _ _ ?_ ?_ ?_) rfl rfl rfl ?_ ?_); (rotate_left 9); (· exact Lq); (rotate_left 1); (iterate 3 (· exact Hq)))); simp (maxSteps := 9999999) only [push_cast, seval, ↓reduceIte, hx, hy, undef]) | ((with_reducible refine hJ _ _ ?_); clear hJ hKC KC J)
            (refine to_of ?_ Fq; (· exact Lq))
      · skip
        repeat' first | (with_reducible first | refine AWP_seq' ?_ | refine k_normal ?_ | refine AWP_block ?_) | ((with_reducible refine AWP_reg fun KC J hJ hKC => ?_); simp (maxSteps := 9999999) only [push_cast, seval, ↓reduceIte]) | ((with_reducible refine hJ _ _ ?_); clear hJ hKC KC J)
        refine AWP_loopF (γ := {d : Nat // d ≤ us.length}) (fun d => ⟨[.any, .v (.int .i64 a), .v (.int .i64 b), .ptr 0 0 0, .any, .any, .any, .v (.int .i64 c), .v (.bool (decide (isMn us a b c d.1))), .any, .any, .any, .v (.int .i64 us.length), .v (.int .i64 c), .any, .any, .any, .any, .any, .any, .any, .any, .any, .any, .any, .any, .any, .any, .v (.int .i64 us.length), .v (.int .i64 d.1), .any, .any, .any, .any, .any, .any, .any, .any, .any, .any, .any, .any, .any, .any, .any, .any, .any, .any, .any, .any, .any, .any, .any], [.ent ⟨0, none, 25, [.sl f 1 (strRow ns), .sl g 1 (u32Row us)], .cells⟩]⟩) (fun d => us.length - d.1) ⟨0, by simp⟩ ⟨?_, Fq⟩ ?_
        · exact Lq
        · rintro ⟨d, hd⟩
          by_cases hld : (d : Int) < (us.length : Int)
          · have hd' : d < us.length := by omega
            have hst : (fl us d a = true → fl us d b = true → fl us d c = true) → decide (isMn us a b c (d + 1)) = decide (isMn us a b c d) := fun h => decide_eq_decide.2 ⟨fun h2 => ⟨h2.1, fun e he => h2.2 e (by omega)⟩, fun h2 => ⟨h2.1, fun e he => by
              by_cases hed : e = d
              · subst hed; exact h
              · exact h2.2 e (by omega)⟩⟩
            by_cases hbad : fl us d a = true ∧ fl us d b = true ∧ fl us d c = false
            · have e : decide (isMn us a b c (d + 1)) = false := decide_eq_false fun h => by have := h.2 d (by omega) hbad.1 hbad.2.1; rw [hbad.2.2] at this; cases this
              repeat' first | (with_reducible first | refine AWP_seq' ?_ | refine k_normal ?_ | refine b_normal ?_ | refine AWP_skip ?_ | refine AWP_block ?_) | ((first | with_reducible refine AWP_reg fun KC J hJ hKC => ?_ | (refine' hKC _ _ _ _ _ (callV0 (rFlows_fn _ _ _ _ _ _ ?_ ?_ ?_) rfl rfl rfl ?_ ?_); (rotate_left 9); (· exact Lq); (rotate_left 1); (iterate 3 (· exact Hq)))); simp (maxSteps := 9999999) only [push_cast, seval, ↓reduceIte, hld, hbad.1, hbad.2.1, hbad.2.2, undef, wrapN (i := d) (n := us.length) (by omega) (by omega)]) | ((with_reducible refine hJ _ _ ?_); clear hJ hKC KC J) | ((with_reducible refine AWP_condT ?_ ?_); · rfl)
              refine ⟨⟨d + 1, by omega⟩, by simp only; omega, ?_, Fq⟩
              simp only [e]
              exact Lq
            · have e := hst fun h1 h2 => by
                cases h3 : fl us d c with
                | true => rfl
                | false => exact absurd ⟨h1, h2, h3⟩ hbad
              obtain ⟨v, hv⟩ : ∃ v, decide (isMn us a b c d) = v := ⟨_, rfl⟩
              rw [hv] at e ⊢
              cases hx : fl us d a
              · skip
                repeat' first | (with_reducible first | refine AWP_seq' ?_ | refine k_normal ?_ | refine b_normal ?_ | refine AWP_skip ?_ | refine AWP_block ?_) | ((first | with_reducible refine AWP_reg fun KC J hJ hKC => ?_ | (refine' hKC _ _ _ _ _ (callV0 (rFlows_fn _ _ _ _ _ _ ?_ ?_ ?_) rfl rfl rfl ?_ ?_); (rotate_left 9); (· exact Lq); (rotate_left 1); (iterate 3 (· exact Hq)))); simp (maxSteps := 9999999) only [push_cast, seval, ↓reduceIte, hld, hx, undef, wrapN (i := d) (n := us.length) (by omega) (by omega)]) | ((with_reducible refine hJ _ _ ?_); clear hJ hKC KC J) | ((with_reducible refine AWP_condT ?_ ?_); · rfl) | ((with_reducible refine AWP_condF ?_ ?_); · rfl)
                refine ⟨⟨d + 1, by omega⟩, by simp only; omega, ?_, Fq⟩
                simp only [e]
                exact Lq
              · cases hy : fl us d b
                · skip
                  repeat' first | (with_reducible first | refine AWP_seq' ?_ | refine k_normal ?_ | refine b_normal ?_ | refine AWP_skip ?_ | refine AWP_block ?_) | ((first | with_reducible refine AWP_reg fun KC J hJ hKC => ?_ | (refine' hKC _ _ _ _ _ (callV0 (rFlows_fn _ _ _ _ _ _ ?_ ?_ ?_) rfl rfl rfl ?_ ?_); (rotate_left 9); (· exact Lq); (rotate_left 1); (iterate 3 (· exact Hq)))); simp (maxSteps := 9999999) only [push_cast, seval, ↓reduceIte, hld, hx, hy, undef, wrapN (i := d) (n := us.length) (by omega) (by omega)]) | ((with_reducible refine hJ _ _ ?_); clear hJ hKC KC J) | ((with_reducible refine AWP_condT ?_ ?_); · rfl) | ((with_reducible refine AWP_condF ?_ ?_); · rfl)
                  refine ⟨⟨d + 1, by omega⟩, by simp only; omega, ?_, Fq⟩
                  simp only [e]
                  exact Lq
                · have hz : fl us d c = true := by
                    cases h3 : fl us d c with
                    | true => rfl
                    | false => exact absurd ⟨hx, hy, h3⟩ hbad
                  repeat' first | (with_reducible first | refine AWP_seq' ?_ | refine k_normal ?_ | refine b_normal ?_ | refine AWP_skip ?_ | refine AWP_block ?_) | ((first | with_reducible refine AWP_reg fun KC J hJ hKC => ?_ | (refine' hKC _ _ _ _ _ (callV0 (rFlows_fn _ _ _ _ _ _ ?_ ?_ ?_) rfl rfl rfl ?_ ?_); (rotate_left 9); (· exact Lq); (rotate_left 1); (iterate 3 (· exact Hq)))); simp (maxSteps := 9999999) only [push_cast, seval, ↓reduceIte, hld, hx, hy, hz, undef, wrapN (i := d) (n := us.length) (by omega) (by omega)]) | ((with_reducible refine hJ _ _ ?_); clear hJ hKC KC J) | ((with_reducible refine AWP_condT ?_ ?_); · rfl) | ((with_reducible refine AWP_condF ?_ ?_); · rfl)
                  refine ⟨⟨d + 1, by omega⟩, by simp only; omega, ?_, Fq⟩
                  simp only [e]
                  exact Lq
          · have hdn : d = us.length := by omega
            subst hdn
            by_cases hj : isMn us a b c us.length
            · have e : decide (isMn us a b c us.length) = true := decide_eq_true hj
              rw [e]
              repeat' first | (with_reducible first | refine AWP_seq' ?_ | refine k_normal ?_ | refine k_ret ?_ | refine k_exit ?_ | refine b_ret ?_ | refine b_exit ?_ | refine AWP_ret ?_ | refine AWP_exit ?_) | ((with_reducible refine AWP_reg fun KC J hJ hKC => ?_); simp (maxSteps := 9999999) only [push_cast, seval, ↓reduceIte, hld]) | ((with_reducible refine hJ _ _ ?_); clear hJ hKC KC J) | ((with_reducible refine AWP_condT ?_ ?_); · rfl) | ((with_reducible refine AWP_condF ?_ ?_); · rfl)
              refine ret_plain ?_
              simp (maxSteps := 9999999) only [push_cast, seval, ↓reduceIte, show Tryz.f132.results = #[(.tmp 6)] from rfl]
              refine leD_v (congrArg (Value.int .i64) ?_)
              exact (idxF_at (xs := List.range us.length) (i := c) (by simp; omega) (by simpa using (isM_iff ho ha hb hc').1 hj) (fun j hj' hjc => by simpa using fun h => hcn j hjc ((isM_iff ho ha hb (by omega)).2 h))).symm
            · have e : decide (isMn us a b c us.length) = false := decide_eq_false hj
              rw [e]
              repeat' first | (with_reducible first | refine AWP_seq' ?_ | refine k_normal ?_ | refine k_exit ?_ | refine b_normal ?_ | refine b_exit ?_ | refine AWP_skip ?_ | refine AWP_exit ?_) | ((with_reducible refine AWP_reg fun KC J hJ hKC => ?_); simp (maxSteps := 9999999) only [push_cast, seval, ↓reduceIte, hld, wrapN (i := c) (n := us.length) (by omega) (by omega)]) | ((with_reducible refine hJ _ _ ?_); clear hJ hKC KC J) | ((with_reducible refine AWP_condF ?_ ?_); · rfl)
              refine ⟨⟨c + 1, by omega, fun x hx => ?_⟩, by simp only; omega, ?_, Fq⟩
              · by_cases he : x = c
                · subst he; exact hj
                · exact hcn x (by omega)
              · exact Lq
    · skip
      repeat' first | (with_reducible first | refine AWP_seq' ?_ | refine k_normal ?_ | refine k_exit ?_ | refine b_exit ?_ | refine AWP_ret ?_ | refine AWP_exit ?_) | ((with_reducible refine AWP_reg fun KC J hJ hKC => ?_); simp (maxSteps := 9999999) only [push_cast, seval, ↓reduceIte, hlt]) | ((with_reducible refine hJ _ _ ?_); clear hJ hKC KC J) | ((with_reducible refine AWP_condF ?_ ?_); · rfl)
      refine ret_plain ?_
      simp (maxSteps := 9999999) only [push_cast, seval, ↓reduceIte, show Tryz.f132.results = #[(.tmp 6)] from rfl]
      refine leD_v (congrArg (Value.int .i64) ?_)
      exact (idxF_none (xs := List.range us.length) (fun j hj' => by have hj2 : j < us.length := (by simpa using hj'); simpa using fun h => hcn j (by omega) ((isM_iff ho ha hb hj2).2 h))).symm
end Go.Proofs.YtabliglgeiajlaaGreat.AM

namespace Go.Proofs.YtabliglgeiajlaaGreat.AM
open Go Go.RowKit Go.Proofs
set_option maxRecDepth 100000
set_option maxHeartbeats 1000000
def jmB (us : List Nat) (a b : Nat) : Bool := decide (0 ≤ joinI us a b ∧ 0 ≤ meetI us a b)
theorem latCheck_fn (f g : Bool) (ns : List ByteArray) (us : List Nat) (hs : Szs ns) (hu : U32 us) :
    Fn Tryz.prog 139 [.agg [.sl f 1 (strRow ns), .sl g 1 (u32Row us)]] [] (.v (.int .i64 (checkF ns us))) [] := by
  refine Fn.of (fn := Tryz.f139) (by kernel_rfl) rfl (by kernel_rfl) ⟨[.agg [.sl f 1 (strRow ns), .sl g 1 (u32Row us)], .v undef, .v undef, .v undef, .v undef, .v undef, .v undef, .v undef, .v undef, .v undef, .v undef, .v undef, .v undef, .v undef, .v undef, .v undef, .v undef, .v undef, .v undef, .v undef, .v undef, .v undef, .v undef, .v undef, .v undef, .v undef, .v undef, .v undef, .v undef, .v undef, .v undef], []⟩ rfl ?_
  by_cases hm : mayB ns us = true
  · have hl8 : us.length ≤ 8 := (mayB_get hm).1.2.1
    have hlw := low_of_may hm
    by_cases ho : Ord us
    · have ho' : decide (Ord us) = true := decide_eq_true ho
      have hc : checkF ns us = if Lat us then 0 else 3 := by rw [checkF, if_pos hm, if_pos ho]
      rw [hc]
      repeat' first | (with_reducible first | refine AWP_seq' ?_ | refine k_normal ?_ | refine b_normal ?_ | refine AWP_skip ?_ | refine AWP_block ?_) | ((first | with_reducible refine AWP_reg fun KC J hJ hKC => ?_ | (refine' hKC _ _ _ _ _ (callV0 (latMay_fn _ _ _ _ ?_ ?_) rfl rfl rfl ?_ ?_); (rotate_left 6); (· exact Lq); (rotate_left 1); (iterate 2 (· exact Hq))) | (refine' hKC _ _ _ _ _ (callV0 (order_fn _ _ _ _ ?_ ?_ ?_) rfl rfl rfl ?_ ?_); (rotate_left 7); (· exact Lq); (rotate_left 1); (iterate 3 (· exact Hq))) | (refine' hKC _ _ _ _ _ (callV0 (pairs_fn _) rfl rfl rfl ?_ ?_); (rotate_left 1); (· exact Lq))); simp (maxSteps := 9999999) only [push_cast, seval, ↓reduceIte, hm, ho']) | ((with_reducible refine hJ _ _ ?_); clear hJ hKC KC J) | ((with_reducible refine AWP_condF ?_ ?_); · rfl)
      refine AWP_to ⟨[.any, .ptr 0 0 0, .ptr 1 0 0, .any, .any, .any, .any, .any, .any, .any, .any, .any, .any, .any, .any, .any, .fn 283 [.fad [.v (.int .i64 (us.length : Int))]], .any, .any, .any, .any, .any, .any, .any, .any, .any, .any, .any, .any, .any, .any], [.ent ⟨0, none, 25, [.sl f 1 (strRow ns), .sl g 1 (u32Row us)], .cells⟩, .ent ⟨0, none, 40, [.v (.int .i64 0)], .cells⟩]⟩ (by exact Lq) Fq ?_
      refine AWP_range2 (f := 283) rfl rfl (pairs_it us.length (by omega)) (fun i hi => rfl) 2 rfl rfl
        (fun i => [.ent ⟨0, none, 25, [.sl f 1 (strRow ns), .sl g 1 (u32Row us)], .cells⟩, .ent ⟨0, none, 40, [.v (.int .i64 0)], .cells⟩])
        (fun i => [.ent ⟨0, none, 25, [.sl f 1 (strRow ns), .sl g 1 (u32Row us)], .cells⟩, .ent ⟨0, none, 40, [.v (.int .i64 3)], .cells⟩])
        rfl (fun i => ⟨rfl, rfl⟩) (fun i => ⟨rfl, rfl⟩) (fun i => ⟨rfl, rfl⟩) (fun k => jmB us (pA us.length k) (pB us.length k)) .ret .ret rfl
        (fun i => [.any, .ptr 0 0 0, .ptr 1 0 0, .v (.int .i64 (pA us.length i : Nat)), .v (.int .i64 (pB us.length i : Nat)), .any, .any, .any, .any, .any, .any, .any, .any, .any, .any, .any, .fn 283 [.fad [.v (.int .i64 (us.length : Int))]], .v (.int .i64 (pA us.length i : Nat)), .v (.int .i64 (pB us.length i : Nat)), .any, .any, .any, .any, .any, .any, .any, .any, .any, .any, .any, .any])
        (fun l' i r σ hi => ?_) (fun i => rfl) (fun l' i hi hb' => ?_) (fun hall => ?_) (fun k hk hkf hkb => ?_)
      · skip
        repeat' first | (with_reducible first | refine AWP_seq' ?_ | refine k_normal ?_) | ((with_reducible refine And.intro ?_ ?_); · exact Sq) | ((with_reducible refine AWP_reg fun KC J hJ hKC => ?_); simp (maxSteps := 9999999) only [push_cast, seval, ↓reduceIte]) | ((with_reducible refine hJ _ _ ?_); clear hJ hKC KC J)
        exact rfl
      · have hpa := pA_lt hi
        have hpb := pB_lt hi
        obtain ⟨a, ha⟩ : ∃ a, pA us.length i = a := ⟨_, rfl⟩
        obtain ⟨b, hb⟩ : ∃ b, pB us.length i = b := ⟨_, rfl⟩
        simp only [ha, hb] at hpa hpb ⊢
        by_cases h1 : joinI us a b < 0
        · skip
          repeat' first | (with_reducible first | refine AWP_seq' ?_ | refine k_normal ?_ | refine b_ret ?_ | refine AWP_ret ?_ | refine AWP_block ?_) | ((first | with_reducible refine AWP_reg fun KC J hJ hKC => ?_ | (refine' hKC _ _ _ _ _ (callV0 (join_fn _ _ _ _ _ _ ?_ ?_ ?_ ?_) rfl rfl rfl ?_ ?_); (rotate_left 10); (· exact Lq); (rotate_left 1); (iterate 4 (· exact Hq)))); simp (maxSteps := 9999999) only [push_cast, seval, ↓reduceIte, h1, undef]) | ((with_reducible refine hJ _ _ ?_); clear hJ hKC KC J) | ((with_reducible refine AWP_condT ?_ ?_); · rfl)
          exact .inr ⟨decide_eq_false fun h => by omega, rfl, (by first | exact weakS_free (k := 0) rfl rfl rfl | exact weakS_free (k := 1) rfl rfl rfl | exact weakS_free (k := 2) rfl rfl rfl | exact weakS_free (k := 3) rfl rfl rfl | exact weakS_free (k := 4) rfl rfl rfl | exact weakS_free (k := 5) rfl rfl rfl | exact weakS_free (k := 6) rfl rfl rfl | exact weakS_free (k := 7) rfl rfl rfl | exact weakS_free (k := 8) rfl rfl rfl)⟩
        · by_cases h2 : meetI us a b < 0
          · skip
            repeat' first | (with_reducible first | refine AWP_seq' ?_ | refine k_normal ?_ | refine b_ret ?_ | refine AWP_ret ?_ | refine AWP_block ?_) | ((first | with_reducible refine AWP_reg fun KC J hJ hKC => ?_ | (refine' hKC _ _ _ _ _ (callV0 (join_fn _ _ _ _ _ _ ?_ ?_ ?_ ?_) rfl rfl rfl ?_ ?_); (rotate_left 10); (· exact Lq); (rotate_left 1); (iterate 4 (· exact Hq))) | (refine' hKC _ _ _ _ _ (callV0 (meet_fn _ _ _ _ _ _ ?_ ?_ ?_ ?_) rfl rfl rfl ?_ ?_); (rotate_left 10); (· exact Lq); (rotate_left 1); (iterate 4 (· exact Hq)))); simp (maxSteps := 9999999) only [push_cast, seval, ↓reduceIte, h1, h2]) | ((with_reducible refine hJ _ _ ?_); clear hJ hKC KC J) | ((with_reducible refine AWP_condT ?_ ?_); · rfl)
            exact .inr ⟨decide_eq_false fun h => by omega, rfl, (by first | exact weakS_free (k := 0) rfl rfl rfl | exact weakS_free (k := 1) rfl rfl rfl | exact weakS_free (k := 2) rfl rfl rfl | exact weakS_free (k := 3) rfl rfl rfl | exact weakS_free (k := 4) rfl rfl rfl | exact weakS_free (k := 5) rfl rfl rfl | exact weakS_free (k := 6) rfl rfl rfl | exact weakS_free (k := 7) rfl rfl rfl | exact weakS_free (k := 8) rfl rfl rfl)⟩
          · skip
            repeat' first | (with_reducible first | refine AWP_seq' ?_ | refine k_normal ?_ | refine b_normal ?_ | refine AWP_skip ?_ | refine AWP_block ?_) | ((first | with_reducible refine AWP_reg fun KC J hJ hKC => ?_ | (refine' hKC _ _ _ _ _ (callV0 (join_fn _ _ _ _ _ _ ?_ ?_ ?_ ?_) rfl rfl rfl ?_ ?_); (rotate_left 10); (· exact Lq); (rotate_left 1); (iterate 4 (· exact Hq))) | (refine' hKC _ _ _ _ _ (callV0 (meet_fn _ _ _ _ _ _ ?_ ?_ ?_ ?_) rfl rfl rfl ?_ ?_); (rotate_left 10); (· exact Lq); (rotate_left 1); (iterate 4 (· exact Hq)))); simp (maxSteps := 9999999) only [push_cast, seval, ↓reduceIte, h1, h2]) | ((with_reducible refine hJ _ _ ?_); clear hJ hKC KC J) | ((with_reducible refine AWP_condF ?_ ?_); · rfl)
            exact .inl ⟨decide_eq_true ⟨by omega, by omega⟩, rfl, (by first | exact weakS_free (k := 0) rfl rfl rfl | exact weakS_free (k := 1) rfl rfl rfl | exact weakS_free (k := 2) rfl rfl rfl | exact weakS_free (k := 3) rfl rfl rfl | exact weakS_free (k := 4) rfl rfl rfl | exact weakS_free (k := 5) rfl rfl rfl | exact weakS_free (k := 6) rfl rfl rfl | exact weakS_free (k := 7) rfl rfl rfl | exact weakS_free (k := 8) rfl rfl rfl)⟩
      · rw [if_pos (show Lat us from fun a ha b hb => of_decide_eq_true ((pairs_all (p := fun a b => jmB us a b = true)).1 hall a ha b hb))]
        repeat' first | (with_reducible first | refine AWP_seq' ?_ | refine k_normal ?_ | refine b_normal ?_ | refine AWP_ret ?_) | ((with_reducible refine AWP_reg fun KC J hJ hKC => ?_); simp (maxSteps := 9999999) only [push_cast, seval, ↓reduceIte]) | ((with_reducible refine hJ _ _ ?_); clear hJ hKC KC J)
        refine ret_plain ?_
        simp (maxSteps := 9999999) only [push_cast, seval, ↓reduceIte, show Tryz.f139.results = #[(.cell 2 40)] from rfl]
        exact Lq
      · rw [if_neg (fun h : Lat us => by have := (pairs_all (p := fun a b => jmB us a b = true)).2 (fun a ha b hb => decide_eq_true (h a ha b hb)) k hk; rw [hkf] at this; cases this)]
        refine ret_plain ?_
        simp (maxSteps := 9999999) only [push_cast, seval, ↓reduceIte, show Tryz.f139.results = #[(.cell 2 40)] from rfl]
        exact Lq
    · have ho' : decide (Ord us) = false := decide_eq_false ho
      rw [show checkF ns us = 2 by rw [checkF, if_pos hm, if_neg ho]]
      repeat' first | (with_reducible first | refine AWP_seq' ?_ | refine k_normal ?_ | refine k_ret ?_ | refine b_ret ?_ | refine AWP_ret ?_ | refine AWP_block ?_) | ((first | with_reducible refine AWP_reg fun KC J hJ hKC => ?_ | (refine' hKC _ _ _ _ _ (callV0 (latMay_fn _ _ _ _ ?_ ?_) rfl rfl rfl ?_ ?_); (rotate_left 6); (· exact Lq); (rotate_left 1); (iterate 2 (· exact Hq))) | (refine' hKC _ _ _ _ _ (callV0 (order_fn _ _ _ _ ?_ ?_ ?_) rfl rfl rfl ?_ ?_); (rotate_left 7); (· exact Lq); (rotate_left 1); (iterate 3 (· exact Hq)))); simp (maxSteps := 9999999) only [push_cast, seval, ↓reduceIte, hm, ho']) | ((with_reducible refine hJ _ _ ?_); clear hJ hKC KC J) | ((with_reducible refine AWP_condT ?_ ?_); · rfl) | ((with_reducible refine AWP_condF ?_ ?_); · rfl)
      refine ret_plain ?_
      simp (maxSteps := 9999999) only [push_cast, seval, ↓reduceIte, show Tryz.f139.results = #[(.cell 2 40)] from rfl]
      exact leD_refl _
  · rw [show checkF ns us = 1 from if_neg hm]
    repeat' first | (with_reducible first | refine AWP_seq' ?_ | refine k_normal ?_ | refine k_ret ?_ | refine b_ret ?_ | refine AWP_ret ?_ | refine AWP_block ?_) | ((first | with_reducible refine AWP_reg fun KC J hJ hKC => ?_ | (refine' hKC _ _ _ _ _ (callV0 (latMay_fn _ _ _ _ ?_ ?_) rfl rfl rfl ?_ ?_); (rotate_left 6); (· exact Lq); (rotate_left 1); (iterate 2 (· exact Hq)))); simp (maxSteps := 9999999) only [push_cast, seval, ↓reduceIte, hm]) | ((with_reducible refine hJ _ _ ?_); clear hJ hKC KC J) | ((with_reducible refine AWP_condT ?_ ?_); · rfl)
    refine ret_plain ?_
    simp (maxSteps := 9999999) only [push_cast, seval, ↓reduceIte, show Tryz.f139.results = #[(.cell 2 40)] from rfl]
    exact leD_refl _
theorem rCheck_fn (f g : Bool) (ns : List ByteArray) (us : List Nat) (hs : Szs ns) (hu : U32 us) :
    Fn Tryz.prog 56 [.agg [.sl f 1 (strRow ns), .sl g 1 (u32Row us)]] [] (.v (.int .i64 (checkF ns us))) [] := by
  refine Fn.of (fn := Tryz.f56) (by kernel_rfl) rfl (by kernel_rfl) ⟨[.agg [.sl f 1 (strRow ns), .sl g 1 (u32Row us)], .v undef, .v undef, .v undef, .v undef, .v undef, .v undef, .v undef, .v undef, .v undef, .v undef, .v undef, .v undef, .v undef, .v undef, .v undef, .v undef, .v undef, .v undef, .v undef, .v undef, .v undef, .v undef, .v undef, .v undef, .v undef, .v undef, .v undef, .v undef, .v undef, .v undef, .v undef, .v undef, .v undef, .v undef, .v undef, .v undef], []⟩ rfl ?_
  by_cases hm : mayB ns us = true
  · have hl8 : us.length ≤ 8 := (mayB_get hm).1.2.1
    have hlw := low_of_may hm
    by_cases ho : Ord us
    · have ho' : decide (Ord us) = true := decide_eq_true ho
      have hc : checkF ns us = if Lat us then 0 else 3 := by rw [checkF, if_pos hm, if_pos ho]
      rw [hc]
      repeat' first | (with_reducible first | refine AWP_seq' ?_ | refine k_normal ?_ | refine AWP_skip ?_ | refine AWP_block ?_) | ((first | with_reducible refine AWP_reg fun KC J hJ hKC => ?_ | (refine' hKC _ _ _ _ _ (callV0 (rMay_fn _ _ _ _ ?_ ?_) rfl rfl rfl ?_ ?_); (rotate_left 6); (· exact Lq); (rotate_left 1); (iterate 2 (· exact Hq))) | (refine' hKC _ _ _ _ _ (callV0 (rOrder_fn _ _ _ _ ?_ ?_) rfl rfl rfl ?_ ?_); (rotate_left 6); (· exact Lq); (rotate_left 1); (iterate 2 (· exact Hq)))); simp (maxSteps := 9999999) only [push_cast, seval, ↓reduceIte, hm, ho']) | ((with_reducible refine hJ _ _ ?_); clear hJ hKC KC J) | ((with_reducible refine AWP_condF ?_ ?_); · rfl)
      refine AWP_loopF (γ := {a : Nat // a ≤ us.length ∧ ∀ x, x < a → ∀ y, y < us.length → 0 ≤ joinI us x y ∧ 0 ≤ meetI us x y}) (fun a => ⟨[.any, .ptr 0 0 0, .any, .any, .any, .any, .any, .any, .any, .any, .any, .any, .any, .v (.int .i64 us.length), .v (.int .i64 a.1), .any, .any, .any, .any, .any, .any, .any, .any, .any, .any, .any, .any, .any, .any, .any, .any, .any, .any, .any, .any, .any, .any], [.ent ⟨0, none, 25, [.sl f 1 (strRow ns), .sl g 1 (u32Row us)], .cells⟩]⟩) (fun a => us.length - a.1) ⟨0, by simp⟩ ⟨?_, Fq⟩ ?_
      · exact Lq
      · rintro ⟨a, ha, han⟩
        by_cases hlt : (a : Int) < (us.length : Int)
        · skip
          repeat' first | (with_reducible first | refine AWP_seq' ?_ | refine k_normal ?_ | refine AWP_skip ?_ | refine AWP_block ?_) | ((with_reducible refine AWP_reg fun KC J hJ hKC => ?_); simp (maxSteps := 9999999) only [push_cast, seval, ↓reduceIte, hlt]) | ((with_reducible refine hJ _ _ ?_); clear hJ hKC KC J) | ((with_reducible refine AWP_condT ?_ ?_); · rfl)
          refine AWP_loopF (γ := {b : Nat // b ≤ us.length ∧ ∀ y, y < b → 0 ≤ joinI us a y ∧ 0 ≤ meetI us a y}) (fun b => ⟨[.any, .ptr 0 0 0, .any, .v (.int .i64 a), .any, .any, .any, .any, .any, .any, .any, .any, .any, .v (.int .i64 us.length), .v (.int .i64 a), .any, .any, .any, .any, .v (.int .i64 us.length), .v (.int .i64 b.1), .any, .any, .any, .any, .any, .any, .any, .any, .any, .any, .any, .any, .any, .any, .any, .any], [.ent ⟨0, none, 25, [.sl f 1 (strRow ns), .sl g 1 (u32Row us)], .cells⟩]⟩) (fun b => us.length - b.1) ⟨0, by simp⟩ ⟨?_, Fq⟩ ?_
          · exact Lq
          · rintro ⟨b, hb, hbn⟩
            by_cases hlb : (b : Int) < (us.length : Int)
            · by_cases h1 : joinI us a b < 0
              · skip
                repeat' first | (with_reducible first | refine AWP_seq' ?_ | refine k_normal ?_ | refine k_ret ?_ | refine b_ret ?_ | refine AWP_ret ?_ | refine AWP_skip ?_ | refine AWP_block ?_) | ((first | with_reducible refine AWP_reg fun KC J hJ hKC => ?_ | (refine' hKC _ _ _ _ _ (callV0 (rJoin_fn _ _ _ _ _ _ ?_ ?_ ?_ ?_ ?_ ?_) rfl rfl rfl ?_ ?_); (rotate_left 12); (· exact Lq); (rotate_left 1); (iterate 6 (· exact Hq)))); simp (maxSteps := 9999999) only [push_cast, seval, ↓reduceIte, hlb, h1, undef]) | ((with_reducible refine hJ _ _ ?_); clear hJ hKC KC J) | ((with_reducible refine AWP_condT ?_ ?_); · rfl)
                refine ret_plain ?_
                simp (maxSteps := 9999999) only [push_cast, seval, ↓reduceIte, show Tryz.f56.results = #[(.tmp 2)] from rfl]
                rw [if_neg (fun h : Lat us => by have := h a (by omega) b (by omega); omega)]
                exact leD_refl _
              · by_cases h2 : meetI us a b < 0
                · skip
                  repeat' first | (with_reducible first | refine AWP_seq' ?_ | refine k_normal ?_ | refine k_ret ?_ | refine b_ret ?_ | refine AWP_ret ?_ | refine AWP_skip ?_ | refine AWP_block ?_) | ((first | with_reducible refine AWP_reg fun KC J hJ hKC => ?_ | (refine' hKC _ _ _ _ _ (callV0 (rJoin_fn _ _ _ _ _ _ ?_ ?_ ?_ ?_ ?_ ?_) rfl rfl rfl ?_ ?_); (rotate_left 12); (· exact Lq); (rotate_left 1); (iterate 6 (· exact Hq))) | (refine' hKC _ _ _ _ _ (callV0 (rMeet_fn _ _ _ _ _ _ ?_ ?_ ?_ ?_ ?_ ?_) rfl rfl rfl ?_ ?_); (rotate_left 12); (· exact Lq); (rotate_left 1); (iterate 6 (· exact Hq)))); simp (maxSteps := 9999999) only [push_cast, seval, ↓reduceIte, hlb, h1, h2]) | ((with_reducible refine hJ _ _ ?_); clear hJ hKC KC J) | ((with_reducible refine AWP_condT ?_ ?_); · rfl)
                  refine ret_plain ?_
                  simp (maxSteps := 9999999) only [push_cast, seval, ↓reduceIte, show Tryz.f56.results = #[(.tmp 2)] from rfl]
                  rw [if_neg (fun h : Lat us => by have := h a (by omega) b (by omega); omega)]
                  exact leD_refl _
                · skip
                  repeat' first | (with_reducible first | refine AWP_seq' ?_ | refine k_normal ?_ | refine b_normal ?_ | refine AWP_skip ?_ | refine AWP_block ?_) | ((first | with_reducible refine AWP_reg fun KC J hJ hKC => ?_ | (refine' hKC _ _ _ _ _ (callV0 (rJoin_fn _ _ _ _ _ _ ?_ ?_ ?_ ?_ ?_ ?_) rfl rfl rfl ?_ ?_); (rotate_left 12); (· exact Lq); (rotate_left 1); (iterate 6 (· exact Hq))) | (refine' hKC _ _ _ _ _ (callV0 (rMeet_fn _ _ _ _ _ _ ?_ ?_ ?_ ?_ ?_ ?_) rfl rfl rfl ?_ ?_); (rotate_left 12); (· exact Lq); (rotate_left 1); (iterate 6 (· exact Hq)))); simp (maxSteps := 9999999) only [push_cast, seval, ↓reduceIte, hlb, h1, h2, wrapN (i := b) (n := us.length) (by omega) (by omega)]) | ((with_reducible refine hJ _ _ ?_); clear hJ hKC KC J) | ((with_reducible refine AWP_condT ?_ ?_); · rfl) | ((with_reducible refine AWP_condF ?_ ?_); · rfl)
                  refine ⟨⟨b + 1, by omega, fun y hy => ?_⟩, by simp only; omega, ?_, Fq⟩
                  · by_cases he : y = b
                    · subst he; exact ⟨by omega, by omega⟩
                    · exact hbn y (by omega)
                  · exact Lq
            · skip
              repeat' first | (with_reducible first | refine AWP_seq' ?_ | refine k_normal ?_ | refine k_exit ?_ | refine b_normal ?_ | refine b_exit ?_ | refine AWP_exit ?_) | ((with_reducible refine AWP_reg fun KC J hJ hKC => ?_); simp (maxSteps := 9999999) only [push_cast, seval, ↓reduceIte, hlb, wrapN (i := a) (n := us.length) (by omega) (by omega)]) | ((with_reducible refine hJ _ _ ?_); clear hJ hKC KC J) | ((with_reducible refine AWP_condF ?_ ?_); · rfl)
              refine ⟨⟨a + 1, by omega, fun x hx y hy => ?_⟩, by simp only; omega, ?_, Fq⟩
              · by_cases he : x = a
                · subst he; exact hbn y (by omega)
                · exact han x (by omega) y hy
              · exact Lq
        · skip
          repeat' first | (with_reducible first | refine AWP_seq' ?_ | refine k_normal ?_ | refine k_exit ?_ | refine b_exit ?_ | refine AWP_ret ?_ | refine AWP_exit ?_) | ((with_reducible refine AWP_reg fun KC J hJ hKC => ?_); simp (maxSteps := 9999999) only [push_cast, seval, ↓reduceIte, hlt]) | ((with_reducible refine hJ _ _ ?_); clear hJ hKC KC J) | ((with_reducible refine AWP_condF ?_ ?_); · rfl)
          refine ret_plain ?_
          simp (maxSteps := 9999999) only [push_cast, seval, ↓reduceIte, show Tryz.f56.results = #[(.tmp 2)] from rfl]
          rw [if_pos (show Lat us from fun x hx y hy => han x (by omega) y hy)]
          exact leD_refl _
    · have ho' : decide (Ord us) = false := decide_eq_false ho
      rw [show checkF ns us = 2 by rw [checkF, if_pos hm, if_neg ho]]
      repeat' first | (with_reducible first | refine AWP_seq' ?_ | refine k_normal ?_ | refine k_ret ?_ | refine AWP_ret ?_ | refine AWP_skip ?_) | ((first | with_reducible refine AWP_reg fun KC J hJ hKC => ?_ | (refine' hKC _ _ _ _ _ (callV0 (rMay_fn _ _ _ _ ?_ ?_) rfl rfl rfl ?_ ?_); (rotate_left 6); (· exact Lq); (rotate_left 1); (iterate 2 (· exact Hq))) | (refine' hKC _ _ _ _ _ (callV0 (rOrder_fn _ _ _ _ ?_ ?_) rfl rfl rfl ?_ ?_); (rotate_left 6); (· exact Lq); (rotate_left 1); (iterate 2 (· exact Hq)))); simp (maxSteps := 9999999) only [push_cast, seval, ↓reduceIte, hm, ho']) | ((with_reducible refine hJ _ _ ?_); clear hJ hKC KC J) | ((with_reducible refine AWP_condT ?_ ?_); · rfl) | ((with_reducible refine AWP_condF ?_ ?_); · rfl)
      refine ret_plain ?_
      simp (maxSteps := 9999999) only [push_cast, seval, ↓reduceIte, show Tryz.f56.results = #[(.tmp 2)] from rfl]
      exact leD_refl _
  · rw [show checkF ns us = 1 from if_neg hm]
    repeat' first | (with_reducible first | refine AWP_seq' ?_ | refine k_normal ?_ | refine k_ret ?_ | refine AWP_ret ?_) | ((first | with_reducible refine AWP_reg fun KC J hJ hKC => ?_ | (refine' hKC _ _ _ _ _ (callV0 (rMay_fn _ _ _ _ ?_ ?_) rfl rfl rfl ?_ ?_); (rotate_left 6); (· exact Lq); (rotate_left 1); (iterate 2 (· exact Hq)))); simp (maxSteps := 9999999) only [push_cast, seval, ↓reduceIte, hm]) | ((with_reducible refine hJ _ _ ?_); clear hJ hKC KC J) | ((with_reducible refine AWP_condT ?_ ?_); · rfl)
    refine ret_plain ?_
    simp (maxSteps := 9999999) only [push_cast, seval, ↓reduceIte, show Tryz.f56.results = #[(.tmp 2)] from rfl]
    exact leD_refl _
end Go.Proofs.YtabliglgeiajlaaGreat.AM

namespace Go.Proofs.YtabliglgeiajlaaGreat.AM
open Go Go.RowKit Go.Proofs
set_option maxRecDepth 100000
set_option maxHeartbeats 1000000
def cellS (l : List ByteArray) : List D := l.map fun s => .v (.string s)
def cellU (l : List Nat) : List D := l.map fun n => .v (.int .u32 (uv n))
@[push_cast] theorem frz_cellS (l : List ByteArray) : frzAll (cellS l) = true := by induction l with | nil => rfl | cons a l ih => simpa [cellS, frzAll, frz, frz0] using ih
@[push_cast] theorem frz_cellU (l : List Nat) : frzAll (cellU l) = true := by induction l with | nil => rfl | cons a l ih => simpa [cellU, frzAll, frz, frz0] using ih
@[push_cast] theorem fr_cellU (k g sz : Nat) (c : List D) (l : List Nat) : (cellU l).map (fr1 k g sz c) = cellU l := by simp [cellU, fr1, fr0]
@[push_cast] theorem fr_cellS (k g sz : Nat) (c : List D) (l : List ByteArray) : (cellS l).map (fr1 k g sz c) = cellS l := by simp [cellS, fr1, fr0]
theorem take_of {l : List D} {n : Nat} (h : l.length = n) : l.take (n * 1) = l := by rw [Nat.mul_one]; exact List.take_of_length_le (by omega)
theorem list_eq_of {α : Type} {xs ys : List α} (hl : xs.length = ys.length) (h : ∀ j, j < xs.length → xs[j]? = ys[j]?) : xs = ys :=
  List.ext_getElem? fun j => by
    by_cases hj : j < xs.length
    · exact h j hj
    · rw [List.getElem?_eq_none (by omega), List.getElem?_eq_none (by omega)]
end Go.Proofs.YtabliglgeiajlaaGreat.AM

namespace Go.Proofs.YtabliglgeiajlaaGreat.AM
open Go Go.RowKit Go.Proofs
set_option maxRecDepth 100000
set_option maxHeartbeats 1000000
def pRow (l : List (Int × Int)) : List (List D) := l.map fun e => [.v (.int .i64 e.1), .v (.int .i64 e.2)]
def pCells (l : List (Int × Int)) : List D := (pRow l).flatten
@[push_cast] theorem pRow_length (l : List (Int × Int)) : (pRow l).length = l.length := by simp [pRow]
@[push_cast] theorem sub_pRow (l : List (Int × Int)) (a b : Nat) : sub (pRow l) a b = pRow ((l.take b).drop a) := by simp [pRow, sub_map]
theorem getE_p {l : List (Int × Int)} {n : Nat} {x : Int × Int} (h : l[n]? = some x) : getE (pRow l) n = [.v (.int .i64 x.1), .v (.int .i64 x.2)] := by unfold pRow; exact getE_map _ _ _ _ h
theorem pCells_length (l : List (Int × Int)) : (pCells l).length = l.length * 2 := by
  induction l with
  | nil => rfl
  | cons a l ih => simp [pCells, pRow] at *; omega
theorem pCells_app (l m : List (Int × Int)) : pCells (l ++ m) = pCells l ++ pCells m := by simp [pCells, pRow]
@[push_cast] theorem frz_pCells (l : List (Int × Int)) : frzAll (pCells l) = true := by
  induction l with
  | nil => rfl
  | cons a l ih => simpa [pCells, pRow, frzAll, frz, frz0] using ih
@[push_cast] theorem fr_pCells (k g sz : Nat) (c : List D) (l : List (Int × Int)) : (pCells l).map (fr1 k g sz c) = pCells l := by
  induction l with
  | nil => rfl
  | cons a l ih => simpa [pCells, pRow, fr1, fr0] using ih
theorem chunk_p (l : List (Int × Int)) : chunk 2 l.length (pCells l) = pRow l := by
  induction l with
  | nil => rfl
  | cons a l ih => simpa [pCells, pRow, chunk] using ih
theorem pair_eq {x y : Int × Int} : (x.1 == y.1 && x.2 == y.2) = decide (x = y) := by
  rw [Bool.eq_iff_iff]
  simp [Prod.ext_iff]
theorem ren_pCells (m : Nat → Option Nat) (l : List (Int × Int)) : (pCells l).map (ren m) = pCells l := by
  induction l with
  | nil => rfl
  | cons a l ih => simpa [pCells, pRow, ren, ren2, ren1, ren0] using ih
theorem isNilL_pRow {l : List (Int × Int)} (h : 0 < l.length) : isNilL (pRow l) = false := by cases l with | nil => simp at h | cons _ _ => rfl
theorem pCells_take (l : List (Int × Int)) (n : Nat) : (pCells l).take (n * 2) = pCells (l.take n) := by
  induction l generalizing n with
  | nil => simp [pCells, pRow]
  | cons a l ih => cases n with
    | zero => simp [pCells, pRow]
    | succ n =>
      have : (n + 1) * 2 = n * 2 + 1 + 1 := by omega
      rw [this]
      have h2 := ih n
      simp [pCells, pRow] at *
      exact h2
theorem pCells_drop (l : List (Int × Int)) (n : Nat) : (pCells l).drop (n * 2) = pCells (l.drop n) := by
  induction l generalizing n with
  | nil => simp [pCells, pRow]
  | cons a l ih => cases n with
    | zero => simp [pCells, pRow]
    | succ n =>
      have : (n + 1) * 2 = n * 2 + 1 + 1 := by omega
      rw [this]
      have h2 := ih n
      simp [pCells, pRow] at *
      exact h2
end Go.Proofs.YtabliglgeiajlaaGreat.AM

namespace Go.Proofs.YtabliglgeiajlaaGreat.AM
open Go Go.RowKit Go.Proofs
set_option maxRecDepth 100000
set_option maxHeartbeats 1000000
def tRow (l : List (Int × Int × Int)) : List (List D) := l.map fun e => [.v (.int .i64 e.1), .v (.int .i64 e.2.1), .v (.int .i64 e.2.2)]
def tCells (l : List (Int × Int × Int)) : List D := (tRow l).flatten
@[push_cast] theorem tRow_length (l : List (Int × Int × Int)) : (tRow l).length = l.length := by simp [tRow]
@[push_cast] theorem sub_tRow (l : List (Int × Int × Int)) (a b : Nat) : sub (tRow l) a b = tRow ((l.take b).drop a) := by simp [tRow, sub_map]
theorem getE_t {l : List (Int × Int × Int)} {n : Nat} {x : Int × Int × Int} (h : l[n]? = some x) : getE (tRow l) n = [.v (.int .i64 x.1), .v (.int .i64 x.2.1), .v (.int .i64 x.2.2)] := by unfold tRow; exact getE_map _ _ _ _ h
def sRow (l : List (Bool × Int × Int)) : List (List D) := l.map fun e => [.v (.bool e.1), .v (.int .i64 e.2.1), .v (.int .i64 e.2.2)]
def sCells (l : List (Bool × Int × Int)) : List D := (sRow l).flatten
@[push_cast] theorem sRow_length (l : List (Bool × Int × Int)) : (sRow l).length = l.length := by simp [sRow]
@[push_cast] theorem sub_sRow (l : List (Bool × Int × Int)) (a b : Nat) : sub (sRow l) a b = sRow ((l.take b).drop a) := by simp [sRow, sub_map]
theorem getE_s {l : List (Bool × Int × Int)} {n : Nat} {x : Bool × Int × Int} (h : l[n]? = some x) : getE (sRow l) n = [.v (.bool x.1), .v (.int .i64 x.2.1), .v (.int .i64 x.2.2)] := by unfold sRow; exact getE_map _ _ _ _ h
structure Sta where
  v : Int
  l : Int
  code : List (Int × Int × Int)
  mem : List (Int × Int)
  stack : List (Bool × Int × Int)
  out : List (Int × Int)
end Go.Proofs.YtabliglgeiajlaaGreat.AM

namespace Go.Proofs.YtabliglgeiajlaaGreat.AM
open Go Go.RowKit Go.Proofs
set_option maxRecDepth 100000
set_option maxHeartbeats 1000000
theorem indexFuncI_fn (f : Bool) (xs : List Int) (cf : Nat) (caps : List D) (p : Int → Bool) (hb : xs.length ≤ 9223372036854775807) (hc : frz0All caps = true)
    (hp : ∀ x ∈ xs, Fn Tryz.prog cf (.v (.int .i64 x) :: caps) [] (.v (.bool (p x))) []) : Fn Tryz.prog 271 [.sl f 1 (intRow xs), .fn cf caps] [] (.v (.int .i64 (idxF p xs))) [] := by
  refine Fn.of (fn := Tryz.f271) (by kernel_rfl) rfl (by kernel_rfl) ⟨[.sl f 1 (intRow xs), .fn cf caps, .v undef, .v undef, .v undef, .v undef, .v undef, .v undef, .v undef, .v undef, .v undef, .v undef, .v undef, .v undef, .v undef, .v undef, .v undef, .v undef, .v undef], []⟩ rfl ?_
  repeat' first | (with_reducible first | refine AWP_seq' ?_ | refine k_normal ?_ | refine AWP_block ?_) | ((with_reducible refine AWP_reg fun KC J hJ hKC => ?_); simp (maxSteps := 9999999) only [push_cast, seval, ↓reduceIte]) | ((with_reducible refine hJ _ _ ?_); clear hJ hKC KC J)
  refine AWP_loopF (γ := {i : Nat // i ≤ xs.length ∧ ∀ (j : Nat) (hj : j < xs.length), j < i → p xs[j] = false}) (fun i => ⟨[.sl f 1 (intRow xs), .fn cf caps, .any, .any, .any, .any, .any, .v (.int .i64 xs.length), .v (.int .i64 i.1), .any, .any, .any, .any, .any, .any, .any, .any, .any, .any], []⟩) (fun i => xs.length - i.1) ⟨0, by simp⟩ ⟨?_, Fq⟩ ?_
  · exact Lq
  · rintro ⟨i, hi, hn⟩
    by_cases hlt : (i : Int) < (xs.length : Int)
    · have hx : xs[i]? = some xs[i] := List.getElem?_eq_getElem (by omega)
      have hfn := hp xs[i] (List.getElem_mem (by omega))
      repeat' first | (with_reducible first | refine AWP_seq' ?_ | refine k_normal ?_ | refine k_ret ?_ | refine b_normal ?_ | refine b_ret ?_ | refine AWP_ret ?_ | refine AWP_skip ?_ | refine AWP_block ?_) | ((with_reducible refine And.intro ?_ ?_); · exact Sq) | ((first | with_reducible refine AWP_reg fun KC J hJ hKC => ?_ | (refine hKC _ _ _ _ _ (callV0 (hfn) rfl rfl rfl ?_ ?_); (· exact Lq))); simp (maxSteps := 9999999) only [push_cast, seval, ↓reduceIte, hlt, getE_intRow hx, wrapN (i := i) (n := xs.length) (by omega) hb]) | ((with_reducible refine hJ _ _ ?_); clear hJ hKC KC J) | ((with_reducible refine AWP_condT ?_ ?_); · rfl) | (refine AWP_cond rfl (fun h => ?_) (fun h => ?_) <;> try simp only [decide_eq_true_eq, decide_eq_false_iff_not, Bool.not_eq_true', Bool.not_eq_false', beq_iff_eq, bne_iff_ne, ne_eq, Bool.not_eq_true, Bool.or_eq_true, Bool.and_eq_true, Bool.or_eq_false_iff, Bool.and_eq_false_imp, beq_eq_false_iff_ne, bne_eq_false_iff_eq] at h)
      · refine ret_plain ?_
        simp (maxSteps := 9999999) only [push_cast, seval, ↓reduceIte, show Tryz.f271.results = #[(.tmp 4)] from rfl]
        exact leD_v (by rw [idxF_at (by omega) h hn])
      · refine ⟨⟨i + 1, by omega, fun j hj hji => ?_⟩, by simp only; omega, ?_, Fq⟩
        · by_cases he : j = i
          · subst he; exact h
          · exact hn j hj (by omega)
        · exact Lq
    · skip
      repeat' first | (with_reducible first | refine AWP_seq' ?_ | refine k_normal ?_ | refine k_exit ?_ | refine b_exit ?_ | refine AWP_ret ?_ | refine AWP_exit ?_) | ((with_reducible refine AWP_reg fun KC J hJ hKC => ?_); simp (maxSteps := 9999999) only [push_cast, seval, ↓reduceIte, hlt]) | ((with_reducible refine hJ _ _ ?_); clear hJ hKC KC J) | ((with_reducible refine AWP_condF ?_ ?_); · rfl)
      refine ret_plain ?_
      simp (maxSteps := 9999999) only [push_cast, seval, ↓reduceIte, show Tryz.f271.results = #[(.tmp 4)] from rfl]
      exact leD_v (by rw [idxF_none (fun j hj => hn j hj (by omega))])
theorem containsFuncI_fn (f : Bool) (xs : List Int) (cf : Nat) (caps : List D) (p : Int → Bool) (hb : xs.length ≤ 9223372036854775807) (hc : frz0All caps = true)
    (hp : ∀ x ∈ xs, Fn Tryz.prog cf (.v (.int .i64 x) :: caps) [] (.v (.bool (p x))) []) : Fn Tryz.prog 208 [.sl f 1 (intRow xs), .fn cf caps] [] (.v (.bool (xs.any p))) [] := by
  have hfn := indexFuncI_fn f xs cf caps p hb hc hp
  refine Fn.of (fn := Tryz.f208) (by kernel_rfl) rfl (by kernel_rfl) ⟨[.sl f 1 (intRow xs), .fn cf caps, .v undef, .v undef, .v undef, .v undef, .v undef, .v undef, .v undef], []⟩ rfl ?_
  repeat' first | (with_reducible first | refine AWP_seq' ?_ | refine k_normal ?_ | refine AWP_ret ?_) | ((first | with_reducible refine AWP_reg fun KC J hJ hKC => ?_ | (refine hKC _ _ _ _ _ (callV0 (hfn) rfl rfl rfl ?_ ?_); (· exact Lq))); simp (maxSteps := 9999999) only [push_cast, seval, ↓reduceIte, idxF_any]) | ((with_reducible refine hJ _ _ ?_); clear hJ hKC KC J)
  refine ret_plain ?_
  simp (maxSteps := 9999999) only [push_cast, seval, ↓reduceIte, show Tryz.f208.results = #[(.tmp 4)] from rfl]
  exact leD_refl _
def oddL (n : Nat) (a : Int) : Bool := decide (a < 0) || decide ((n : Int) ≤ a)
theorem oddL_no {n : Nat} {a : Int} (h : oddL n a = false) : ∃ b : Nat, a = (b : Int) ∧ b < n := by
  simp only [oddL, Bool.or_eq_false_iff, decide_eq_false_iff_not] at h
  exact ⟨a.toNat, by omega, by omega⟩
theorem there1_fn (f g : Bool) (ns : List ByteArray) (us : List Nat) (a : Int) : Fn Tryz.prog 220 [.v (.int .i64 a), .fad [.sl f 1 (strRow ns), .sl g 1 (u32Row us)]] [] (.v (.bool (oddL us.length a))) [] := by
  refine Fn.of (fn := Tryz.f220) (by kernel_rfl) rfl (by kernel_rfl) ⟨[.v (.int .i64 a), .fad [.sl f 1 (strRow ns), .sl g 1 (u32Row us)], .v undef, .v undef, .v undef, .v undef, .v undef, .v undef, .v undef, .v undef, .v undef, .v undef, .v undef], []⟩ rfl ?_
  obtain ⟨x, hx⟩ : ∃ x, decide (a < 0) = x := ⟨_, rfl⟩
  rw [oddL, hx]
  cases x
  all_goals
    repeat' first | (with_reducible first | refine AWP_seq' ?_ | refine k_normal ?_ | refine AWP_ret ?_) | ((with_reducible refine AWP_reg fun KC J hJ hKC => ?_); simp (maxSteps := 9999999) only [push_cast, seval, ↓reduceIte, hx, undef]) | ((with_reducible refine hJ _ _ ?_); clear hJ hKC KC J)
    refine ret_plain ?_
    simp (maxSteps := 9999999) only [push_cast, seval, ↓reduceIte, show Tryz.f220.results = #[(.tmp 3)] from rfl]
    exact leD_refl _
def mayF (ns : List ByteArray) (us : List Nat) (L : List Int) : Int := if checkF ns us = 0 then if L.any (oddL us.length) = true then 9 else 0 else checkF ns us
theorem there_fn (f g h : Bool) (ns : List ByteArray) (us : List Nat) (L : List Int) (hs : Szs ns) (hu : U32 us) (hl : L.length ≤ 1000) :
    Fn Tryz.prog 115 [.agg [.sl f 1 (strRow ns), .sl g 1 (u32Row us)], .sl h 1 (intRow L)] [] (.v (.int .i64 (mayF ns us L))) [] := by
  have hcf := containsFuncI_fn h L 220 [.fad [.sl f 1 (strRow ns), .sl g 1 (u32Row us)]] (oddL us.length) (by omega) rfl (fun x _ => there1_fn f g ns us x)
  refine Fn.of (fn := Tryz.f115) (by kernel_rfl) rfl (by kernel_rfl) ⟨[.agg [.sl f 1 (strRow ns), .sl g 1 (u32Row us)], .sl h 1 (intRow L), .v undef, .v undef, .v undef, .v undef, .v undef, .v undef, .v undef, .v undef, .v undef, .v undef, .v undef, .v undef], []⟩ rfl ?_
  by_cases hc : checkF ns us = 0
  · obtain ⟨x, hx⟩ : ∃ x, L.any (oddL us.length) = x := ⟨_, rfl⟩
    rw [mayF, if_pos hc, hx]
    cases x
    all_goals
      repeat' first | (refine AWP_freezeR 4 0 rfl (by (simp (maxSteps := 9999999) only [push_cast, seval, ↓reduceIte]) <;> rfl) ?_; simp (maxSteps := 9999999) only [push_cast, seval, ↓reduceIte, frSt, frSlot, fr3, fr2, fr1, fr0, sameB, arrOf, hc, hx]) | (with_reducible first | refine AWP_seq' ?_ | refine k_normal ?_ | refine k_ret ?_ | refine AWP_ret ?_ | refine AWP_skip ?_) | ((first | with_reducible refine AWP_reg fun KC J hJ hKC => ?_ | (refine' hKC _ _ _ _ _ (callV0 (latCheck_fn _ _ _ _ ?_ ?_) rfl rfl rfl ?_ ?_); (rotate_left 6); (· exact Lq); (rotate_left 1); (iterate 2 (· exact Hq))) | (refine hKC _ _ _ _ _ (callV0 (hcf) rfl rfl rfl ?_ ?_); (· exact Lq))); simp (maxSteps := 9999999) only [push_cast, seval, ↓reduceIte, hc, hx]) | ((with_reducible refine hJ _ _ ?_); clear hJ hKC KC J) | ((with_reducible refine AWP_condT ?_ ?_); · rfl) | ((with_reducible refine AWP_condF ?_ ?_); · rfl)
      refine ret_plain ?_
      simp (maxSteps := 9999999) only [push_cast, seval, ↓reduceIte, show Tryz.f115.results = #[(.tmp 4)] from rfl]
      exact Lq
  · have hc' : (checkF ns us != 0) = true := by simpa using hc
    rw [mayF, if_neg hc]
    repeat' first | (with_reducible first | refine AWP_seq' ?_ | refine k_normal ?_ | refine k_ret ?_ | refine AWP_ret ?_) | ((first | with_reducible refine AWP_reg fun KC J hJ hKC => ?_ | (refine' hKC _ _ _ _ _ (callV0 (latCheck_fn _ _ _ _ ?_ ?_) rfl rfl rfl ?_ ?_); (rotate_left 6); (· exact Lq); (rotate_left 1); (iterate 2 (· exact Hq)))); simp (maxSteps := 9999999) only [push_cast, seval, ↓reduceIte, hc']) | ((with_reducible refine hJ _ _ ?_); clear hJ hKC KC J) | ((with_reducible refine AWP_condT ?_ ?_); · rfl)
    refine ret_plain ?_
    simp (maxSteps := 9999999) only [push_cast, seval, ↓reduceIte, show Tryz.f115.results = #[(.tmp 4)] from rfl]
    exact Lq
def cellI (l : List Int) : List D := l.map fun x => .v (.int .i64 x)
@[push_cast] theorem frz_cellI (l : List Int) : frzAll (cellI l) = true := by induction l with | nil => rfl | cons a l ih => simpa [cellI, frzAll, frz, frz0] using ih
@[push_cast] theorem fr_cellI (k g sz : Nat) (c : List D) (l : List Int) : (cellI l).map (fr1 k g sz c) = cellI l := by simp [cellI, fr1, fr0]
end Go.Proofs.YtabliglgeiajlaaGreat.AM

namespace Go.Proofs.YtabliglgeiajlaaGreat.AM
open Go Go.RowKit Go.Proofs
set_option maxRecDepth 100000
set_option maxHeartbeats 400000
structure Dr where
  l : List Int
  a : Int
  g : List Int
  deriving DecidableEq
def Dr.z : Dr := ⟨[], 0, []⟩
def Dr.ok (d : Dr) : Bool := rightB d.l d.g d.a
def encDr (f g : Bool) (d : Dr) : D := .agg [.sl f 1 (intRow d.l), .v (.int .i64 d.a), .sl g 1 (intRow d.g)]
def takeF (d : Dr) (b : Int) : Dr × Int × Int :=
  if rightB d.l d.g d.a = false ∨ b < 1 then (Dr.z, 0, 1)
  else if d.g.length = 2000 then (Dr.z, 0, 8)
  else (⟨d.l, (if d.a < d.l.length then d.a + 1 else d.a), d.g ++ [choiceI d.l d.a b]⟩, choiceI d.l d.a b, 0)
def encT13 (f g : Bool) (t : Dr × Int × Int) : D := .agg [.sl f 1 (intRow t.1.l), .v (.int .i64 t.1.a), .sl g 1 (intRow t.1.g), .v (.int .i64 t.2.1), .v (.slice none 0 0), .v (.int .i64 t.2.2)]
end Go.Proofs.YtabliglgeiajlaaGreat.AM

namespace Go.Proofs.YtabliglgeiajlaaGreat.AM
open Go Go.RowKit Go.Proofs
set_option maxRecDepth 100000
set_option maxHeartbeats 400000
attribute [push_cast] encDr encT13
end Go.Proofs.YtabliglgeiajlaaGreat.AM

namespace Go.Proofs.YtabliglgeiajlaaGreat.AM
open Go Go.RowKit Go.Proofs
set_option maxRecDepth 100000
set_option maxHeartbeats 400000
def weightsB (ws : List Int) : Bool := decide (1 ≤ ws.length ∧ ws.length ≤ 20 ∧ (∀ w ∈ ws, 0 ≤ w ∧ w ≤ 100) ∧ 0 < ws.sum)
end Go.Proofs.YtabliglgeiajlaaGreat.AM

namespace Go.Proofs.YtabliglgeiajlaaGreat.AM
open Go Go.RowKit Go.Proofs
set_option maxRecDepth 100000
set_option maxHeartbeats 400000
end Go.Proofs.YtabliglgeiajlaaGreat.AM

namespace Go.Proofs.YtabliglgeiajlaaGreat.AM
open Go Go.RowKit Go.Proofs
inductive Cp (α : Type) where
  | ret (x : α)
  | bad (e : Int)
  | take (b : Int) (k : Int → Cp α)
namespace Cp
variable {α β γ : Type}
def bind : Cp α → (α → Cp β) → Cp β
  | .ret x, f => f x
  | .bad e, _ => .bad e
  | .take b k, f => .take b fun n => (k n).bind f
def run : Cp α → Dr → Except Int (Dr × α)
  | .ret x, d => .ok (d, x)
  | .bad e, _ => .error e
  | .take b k, d => if (takeF d b).2.2 = 0 then (k (takeF d b).2.1).run (takeF d b).1 else .error (takeF d b).2.2
theorem run_bind (c : Cp α) (f : α → Cp β) (d : Dr) : (c.bind f).run d = match c.run d with | .ok (d', x) => (f x).run d' | .error e => .error e := by
  induction c generalizing d with
  | ret x => rfl
  | bad e => rfl
  | take b k ih =>
    simp only [bind, run]
    by_cases h : (takeF d b).2.2 = 0
    · rw [if_pos h, if_pos h, ih]
    · rw [if_neg h, if_neg h]
def times (c : Cp α) : Nat → Cp (List α)
  | 0 => .ret []
  | n + 1 => (times c n).bind fun l => c.bind fun x => .ret (l ++ [x])
def rows (c : Cp α) (most : Int) : Cp (List α) := .take (most + 1) fun n => c.times n.toNat
end Cp
abbrev M3 := Dr × Int × Int
def Is {α : Type} (f : M3 → M3 × α) (c : Cp α) : Prop :=
  (∀ d n, match c.run d with | .ok (d', x) => ∃ n', f (d, n, 0) = ((d', n', 0), x) | .error e => e ≠ 0 ∧ (f (d, n, 0)).1.2.2 = e) ∧ ∀ d n e, e ≠ 0 → (f (d, n, e)).1.2.2 = e
section
variable {α β : Type}
theorem Is.bind {f : M3 → M3 × α} {c : Cp α} {g : α → M3 → M3 × β} {k : α → Cp β} (h : Is f c) (hg : ∀ x, Is (g x) (k x)) : Is (fun m => g (f m).2 (f m).1) (c.bind k) := by
  refine ⟨fun d n => ?_, fun d n e he => ?_⟩
  · have h1 := h.1 d n
    rw [Cp.run_bind]
    cases hr : c.run d with
    | error e =>
      rw [hr] at h1
      obtain ⟨he, h2⟩ := h1
      obtain ⟨⟨⟨d1, n1, e1⟩, x⟩, hf⟩ : ∃ r, f (d, n, 0) = r := ⟨_, rfl⟩
      rw [hf] at h2
      simp only at h2
      subst h2
      exact ⟨he, by simp only [hf]; exact (hg x).2 d1 n1 e1 he⟩
    | ok r =>
      obtain ⟨d', x⟩ := r
      rw [hr] at h1
      obtain ⟨n', hf⟩ := h1
      have h3 := (hg x).1 d' n'
      simp only [hf]
      exact h3
  · have h1 := h.2 d n e he
    obtain ⟨⟨⟨d1, n1, e1⟩, x⟩, hf⟩ : ∃ r, f (d, n, e) = r := ⟨_, rfl⟩
    rw [hf] at h1
    simp only at h1
    subst h1
    simp only [hf]
    exact (hg x).2 d1 n1 e1 he
theorem Is.ret (x : α) : Is (fun m => (m, x)) (.ret x) := ⟨fun d n => ⟨n, rfl⟩, fun _ _ _ _ => rfl⟩
theorem Is.ext {f g : M3 → M3 × α} {c : Cp α} (h : Is f c) (he : ∀ m, f m = g m) : Is g c := by
  rw [show g = f from (funext he).symm]; exact h
def timesF (one : M3 → M3 × α) : Nat → M3 → M3 × List α
  | 0, m => (m, [])
  | n + 1, m => let r := timesF one n m; let x := one r.1; (x.1, r.2 ++ [x.2])
theorem Is.times {f : M3 → M3 × α} {c : Cp α} (h : Is f c) : ∀ n, Is (timesF f n) (c.times n)
  | 0 => .ret []
  | n + 1 => (Is.bind (Is.times h n) (g := fun l m => ((f m).1, l ++ [(f m).2])) (k := fun l => c.bind fun x => .ret (l ++ [x])) fun l => (Is.bind h (g := fun x m => (m, l ++ [x])) (k := fun x => .ret (l ++ [x])) fun x => .ret (l ++ [x]))).ext fun m => rfl
end
def oneC (b : Int) : Cp Int := .take b .ret
end Go.Proofs.YtabliglgeiajlaaGreat.AM

namespace Go.Proofs.YtabliglgeiajlaaGreat.AM
open Go Go.RowKit Go.Proofs
structure Sp where
  code : Int
  mem : Int
  stack : Int
  val : Int
  ws : List Int
section
variable {α β : Type}
end
theorem Is.rows {α : Type} {b : M3 → M3 × Int} {f : M3 → M3 × α} {c : Cp α} {most : Int} (hb : Is b (oneC (most + 1))) (h : Is f c) : Is (fun m => timesF f (b m).2.toNat (b m).1) (c.rows most) :=
  Is.bind hb (g := fun n => timesF f n.toNat) (k := fun n => c.times n.toNat) fun n => h.times _
def Sta.z : Sta := ⟨0, 0, [], [], [], []⟩
end Go.Proofs.YtabliglgeiajlaaGreat.AM

namespace Go.Proofs.YtabliglgeiajlaaGreat.AM
open Go Go.RowKit Go.Proofs
set_option maxRecDepth 100000
set_option maxHeartbeats 400000
end Go.Proofs.YtabliglgeiajlaaGreat.AM

namespace Go.Proofs.YtabliglgeiajlaaGreat.AM
open Go Go.RowKit Go.Proofs
def inB (a b n : Int) : Bool := decide (a ≤ n) && decide (n ≤ b)
def instrB (n : Nat) (x : Int × Int × Int) : Bool :=
  if x.1 = 1 then inB (-20) 20 x.2.1 && !oddL n x.2.2
  else inB 0 12 x.1 && (decide (x.2.2 = 0) && (if x.1 = 8 then inB 0 12 x.2.1 else if x.1 = 9 then inB 0 3 x.2.1 else if x.1 = 10 then inB 0 1 x.2.1 else decide (x.2.1 = 0)))
def atomB (n : Nat) (x : Int × Int) : Bool := inB (-20) 20 x.1 && !oddL n x.2
def slotB (n : Nat) (x : Bool × Int × Int) : Bool := !oddL n x.2.2 && (if x.1 = true then inB 0 12 x.2.1 else inB (-20) 20 x.2.1)
def codeB (n : Nat) (c : List (Int × Int × Int)) : Bool := c.all (instrB n) && decide (c.length ≤ 12)
def staB (n : Nat) (s : Sta) : Bool :=
  codeB n s.code && (inB 0 12 s.v && (!oddL n s.l && (s.mem.all (atomB n) && (decide (s.mem.length ≤ 6) && (s.stack.all (slotB n) && (decide (s.stack.length ≤ 12) && (s.out.all (atomB n) && decide (s.out.length ≤ 8))))))))
theorem inB_iff {a b n : Int} : inB a b n = true ↔ a ≤ n ∧ n ≤ b := by simp [inB]
theorem oddL_iff {n : Nat} {a : Int} : oddL n a = false ↔ 0 ≤ a ∧ a < n := by simp [oddL]
structure SpOk (sp : Sp) : Prop where
  c0 : 0 ≤ sp.code
  c1 : sp.code ≤ 12
  m0 : 0 ≤ sp.mem
  m1 : sp.mem ≤ 6
  s0 : 0 ≤ sp.stack
  s1 : sp.stack ≤ 12
  v0 : 0 ≤ sp.val
  v1 : sp.val ≤ 20
  wl : sp.ws.length = 13
  ww : weightsB sp.ws = true
end Go.Proofs.YtabliglgeiajlaaGreat.AM

namespace Go.Proofs.YtabliglgeiajlaaGreat.AM
open Go Go.RowKit Go.Proofs
set_option maxRecDepth 100000
set_option maxHeartbeats 1000000
def staF (fc fm fs fo : Bool) (s : Sta) : List D := [.v (.int .i64 s.v), .v (.int .i64 s.l), .sl fc 3 (tRow s.code), .sl fm 2 (pRow s.mem), .sl fs 3 (sRow s.stack), .sl fo 2 (pRow s.out)]
structure Sml (s : Sta) : Prop where
  code : s.code.length ≤ 1000
  mem : s.mem.length ≤ 1000
  stack : s.stack.length ≤ 1000
  out : s.out.length ≤ 1000
structure Sml15 (s : Sta) : Prop where
  code : s.code.length ≤ 15
  mem : s.mem.length ≤ 15
  stack : s.stack.length ≤ 15
  out : s.out.length ≤ 15
theorem Sml15.sml {s : Sta} (h : Sml15 s) : Sml s := ⟨by have := h.code; omega, by have := h.mem; omega, by have := h.stack; omega, by have := h.out; omega⟩
def cutSta (s : Sta) : Sta := ⟨s.v, s.l, s.code.take 15, s.mem.take 15, s.stack.take 15, s.out.take 15⟩
theorem cutSta_sml (s : Sta) : (cutSta s).code.length ≤ 15 ∧ (cutSta s).mem.length ≤ 15 ∧ (cutSta s).stack.length ≤ 15 ∧ (cutSta s).out.length ≤ 15 := by
  simp [cutSta]; omega
theorem cutSta_15 (s : Sta) : Sml15 (cutSta s) := let ⟨h1, h2, h3, h4⟩ := cutSta_sml s; ⟨h1, h2, h3, h4⟩
theorem rAtomsSame_fn (f g : Bool) (xs ys : List (Int × Int)) (hb : xs.length ≤ 9223372036854775807) : Fn Tryz.prog 59 [.sl f 2 (pRow xs), .sl g 2 (pRow ys)] [] (.v (.bool (decide (xs = ys)))) [] := by
  refine Fn.of (fn := Tryz.f59) (by kernel_rfl) rfl (by kernel_rfl) ⟨[.sl f 2 (pRow xs), .sl g 2 (pRow ys), .v undef, .v undef, .v undef, .v undef, .v undef, .v undef, .v undef, .v undef, .v undef, .v undef, .v undef, .v undef, .v undef, .v undef, .v undef, .v undef, .v undef, .v undef, .v undef, .v undef, .v undef, .v undef, .v undef, .v undef], []⟩ rfl ?_
  by_cases hl : xs.length = ys.length
  · have hl' : ((xs.length : Int) != (ys.length : Int)) = false := by simp [hl]
    repeat' first | (with_reducible first | refine AWP_seq' ?_ | refine k_normal ?_ | refine AWP_skip ?_ | refine AWP_block ?_) | ((with_reducible refine AWP_reg fun KC J hJ hKC => ?_); simp (maxSteps := 9999999) only [push_cast, seval, ↓reduceIte, hl']) | ((with_reducible refine hJ _ _ ?_); clear hJ hKC KC J) | ((with_reducible refine AWP_condF ?_ ?_); · rfl)
    refine AWP_loopF (γ := {i : Nat // i ≤ xs.length ∧ ∀ j, j < i → xs[j]? = ys[j]?}) (fun i => ⟨[.sl f 2 (pRow xs), .sl g 2 (pRow ys), .any, .any, .any, .any, .any, .any, .any, .any, .any, .any, .v (.int .i64 xs.length), .v (.int .i64 i.1), .any, .any, .any, .any, .any, .any, .any, .any, .any, .any, .any, .any], []⟩) (fun i => xs.length - i.1) ⟨0, by simp⟩ ⟨?_, Fq⟩ ?_
    · exact Lq
    · rintro ⟨i, hi, hn⟩
      by_cases hlt : (i : Int) < (xs.length : Int)
      · have hx : xs[i]? = some xs[i] := List.getElem?_eq_getElem (by omega)
        have hy : ys[i]? = some ys[i] := List.getElem?_eq_getElem (by omega)
        obtain ⟨a, ha⟩ : ∃ a, xs[i] = a := ⟨_, rfl⟩
        obtain ⟨b, hb2⟩ : ∃ b, ys[i] = b := ⟨_, rfl⟩
        rw [ha] at hx
        rw [hb2] at hy
        by_cases he : a = b
        · have he' : decide (a = b) = true := decide_eq_true he
          repeat' first | (with_reducible first | refine AWP_seq' ?_ | refine k_normal ?_ | refine b_normal ?_ | refine AWP_skip ?_ | refine AWP_block ?_) | ((with_reducible refine And.intro ?_ ?_); · exact Sq) | ((first | with_reducible refine AWP_reg fun KC J hJ hKC => ?_ | with_reducible refine AWP_regD rfl fun KC J hJ hKC => ?_); simp (maxSteps := 9999999) only [push_cast, seval, ↓reduceIte, hlt, getE_p hx, getE_p hy, pair_eq, he', wrapN (i := i) (n := xs.length) (by omega) hb]) | ((first | with_reducible refine hJ _ _ ?_ | (with_reducible refine hJ _ _ ?_ ?_; · kernel_rfl)); clear hJ hKC KC J) | ((with_reducible refine AWP_condT ?_ ?_); · rfl) | ((with_reducible refine AWP_condF ?_ ?_); · rfl)
          refine ⟨⟨i + 1, by omega, fun j hj => ?_⟩, by simp only; omega, ?_, Fq⟩
          · by_cases hji : j = i
            · rw [hji, hx, hy, he]
            · exact hn j (by omega)
          · exact Lq
        · have he' : decide (a = b) = false := decide_eq_false he
          repeat' first | (with_reducible first | refine AWP_seq' ?_ | refine k_normal ?_ | refine k_ret ?_ | refine b_ret ?_ | refine AWP_ret ?_ | refine AWP_skip ?_ | refine AWP_block ?_) | ((with_reducible refine And.intro ?_ ?_); · exact Sq) | ((first | with_reducible refine AWP_reg fun KC J hJ hKC => ?_ | with_reducible refine AWP_regD rfl fun KC J hJ hKC => ?_); simp (maxSteps := 9999999) only [push_cast, seval, ↓reduceIte, hlt, getE_p hx, getE_p hy, pair_eq, he']) | ((first | with_reducible refine hJ _ _ ?_ | (with_reducible refine hJ _ _ ?_ ?_; · kernel_rfl)); clear hJ hKC KC J) | ((with_reducible refine AWP_condT ?_ ?_); · rfl)
          refine ret_plain ?_
          simp (maxSteps := 9999999) only [push_cast, seval, ↓reduceIte, show Tryz.f59.results = #[(.tmp 4)] from rfl]
          rw [decide_eq_false (fun h => he (by rw [h, hy] at hx; exact (Option.some.inj hx).symm))]
          exact leD_refl _
      · skip
        repeat' first | (with_reducible first | refine AWP_seq' ?_ | refine k_normal ?_ | refine k_exit ?_ | refine b_exit ?_ | refine AWP_ret ?_ | refine AWP_exit ?_) | ((with_reducible refine AWP_reg fun KC J hJ hKC => ?_); simp (maxSteps := 9999999) only [push_cast, seval, ↓reduceIte, hlt]) | ((with_reducible refine hJ _ _ ?_); clear hJ hKC KC J) | ((with_reducible refine AWP_condF ?_ ?_); · rfl)
        refine ret_plain ?_
        simp (maxSteps := 9999999) only [push_cast, seval, ↓reduceIte, show Tryz.f59.results = #[(.tmp 4)] from rfl]
        rw [decide_eq_true (list_eq_of hl fun j hj => hn j (by omega))]
        exact leD_refl _
  · have hl' : ((xs.length : Int) != (ys.length : Int)) = true := by simp; omega
    repeat' first | (with_reducible first | refine AWP_seq' ?_ | refine k_normal ?_ | refine k_ret ?_ | refine AWP_ret ?_) | ((with_reducible refine AWP_reg fun KC J hJ hKC => ?_); simp (maxSteps := 9999999) only [push_cast, seval, ↓reduceIte, hl']) | ((with_reducible refine hJ _ _ ?_); clear hJ hKC KC J) | ((with_reducible refine AWP_condT ?_ ?_); · rfl)
    refine ret_plain ?_
    simp (maxSteps := 9999999) only [push_cast, seval, ↓reduceIte, show Tryz.f59.results = #[(.tmp 4)] from rfl]
    rw [decide_eq_false (fun h => hl (by rw [h]))]
    exact leD_refl _
def sameT (a b : Sta) : Bool := !(!(a.v == b.v && a.l == b.l) || (!decide (a.code = b.code) || (!decide (a.mem = b.mem) || !decide (a.out = b.out)))) && decide (a.stack = b.stack)
theorem sameT_iff {a b : Sta} : sameT a b = true ↔ a = b := by
  obtain ⟨v, l, c, m, s, o⟩ := a
  obtain ⟨v', l', c', m', s', o'⟩ := b
  simp [sameT]
  constructor
  · rintro ⟨⟨⟨h1, h2⟩, h3, h4, h5⟩, h6⟩; exact ⟨h1, h2, h3, h4, h6, h5⟩
  · rintro ⟨h1, h2, h3, h4, h5, h6⟩; exact ⟨⟨⟨h1, h2⟩, h3, h4, h6⟩, h5⟩
theorem rCodesSame_fn (f g : Bool) (xs ys : List (Int × Int × Int)) (hb : xs.length ≤ 1000) : Fn Tryz.prog 58 [.sl f 3 (tRow xs), .sl g 3 (tRow ys)] [] (.v (.bool (decide (xs = ys)))) [] := by
  refine Fn.of (fn := Tryz.f58) (by kernel_rfl) rfl (by kernel_rfl) ⟨[.sl f 3 (tRow xs), .sl g 3 (tRow ys), .v undef, .v undef, .v undef, .v undef, .v undef, .v undef, .v undef, .v undef, .v undef, .v undef, .v undef, .v undef, .v undef, .v undef, .v undef, .v undef, .v undef, .v undef, .v undef, .v undef, .v undef, .v undef, .v undef, .v undef], []⟩ rfl ?_
  by_cases hl : xs.length = ys.length
  · have hl' : ((xs.length : Int) != (ys.length : Int)) = false := by simp [hl]
    repeat' first | (with_reducible first | refine AWP_seq' ?_ | refine k_normal ?_ | refine AWP_skip ?_ | refine AWP_block ?_) | ((with_reducible refine AWP_reg fun KC J hJ hKC => ?_); simp (maxSteps := 9999999) only [push_cast, seval, ↓reduceIte, hl']) | ((with_reducible refine hJ _ _ ?_); clear hJ hKC KC J) | ((with_reducible refine AWP_condF ?_ ?_); · rfl)
    refine AWP_loopF (γ := {i : Nat // i ≤ xs.length ∧ ∀ j, j < i → xs[j]? = ys[j]?}) (fun i => ⟨[.sl f 3 (tRow xs), .sl g 3 (tRow ys), .any, .any, .any, .any, .any, .any, .any, .any, .any, .any, .v (.int .i64 xs.length), .v (.int .i64 i.1), .any, .any, .any, .any, .any, .any, .any, .any, .any, .any, .any, .any], []⟩) (fun i => xs.length - i.1) ⟨0, by simp⟩ ⟨?_, Fq⟩ ?_
    · exact Lq
    · rintro ⟨i, hi, hn⟩
      by_cases hlt : (i : Int) < (xs.length : Int)
      · have hx : xs[i]? = some xs[i] := List.getElem?_eq_getElem (by omega)
        have hy : ys[i]? = some ys[i] := List.getElem?_eq_getElem (by omega)
        obtain ⟨⟨a1, a2, a3⟩, ha⟩ : ∃ a, xs[i] = a := ⟨_, rfl⟩
        obtain ⟨⟨b1, b2, b3⟩, hb2⟩ : ∃ b, ys[i] = b := ⟨_, rfl⟩
        rw [ha] at hx
        rw [hb2] at hy
        by_cases he : (a1, a2, a3) = (b1, b2, b3)
        · cases he
          repeat' first | (with_reducible first | refine AWP_seq' ?_ | refine k_normal ?_ | refine b_normal ?_ | refine AWP_skip ?_ | refine AWP_block ?_) | ((with_reducible refine And.intro ?_ ?_); · exact Sq) | ((first | with_reducible refine AWP_reg fun KC J hJ hKC => ?_ | with_reducible refine AWP_regD rfl fun KC J hJ hKC => ?_); simp (maxSteps := 9999999) only [push_cast, seval, ↓reduceIte, hlt, getE_t hx, getE_t hy, beq_self_eq_true, Bool.and_self, Bool.not_true, bne_self_eq_false, wrapN (i := i) (n := xs.length) (by omega) (by omega)]) | ((first | with_reducible refine hJ _ _ ?_ | (with_reducible refine hJ _ _ ?_ ?_; · kernel_rfl)); clear hJ hKC KC J) | ((with_reducible refine AWP_condT ?_ ?_); · rfl) | ((with_reducible refine AWP_condF ?_ ?_); · rfl)
          refine ⟨⟨i + 1, by omega, fun j hj => ?_⟩, by simp only; omega, ?_, Fq⟩
          · by_cases hji : j = i
            · rw [hji, hx, hy]
            · exact hn j (by omega)
          · exact Lq
        · have he' : (a1 == b1 && (a2 == b2 && a3 == b3)) = false := by
            cases h : (a1 == b1 && (a2 == b2 && a3 == b3)) with
            | false => rfl
            | true =>
              simp only [Bool.and_eq_true, beq_iff_eq] at h
              exact absurd (by rw [h.1, h.2.1, h.2.2]) he
          repeat' first | (with_reducible first | refine AWP_seq' ?_ | refine k_normal ?_ | refine k_ret ?_ | refine b_ret ?_ | refine AWP_ret ?_ | refine AWP_skip ?_ | refine AWP_block ?_) | ((with_reducible refine And.intro ?_ ?_); · exact Sq) | ((first | with_reducible refine AWP_reg fun KC J hJ hKC => ?_ | with_reducible refine AWP_regD rfl fun KC J hJ hKC => ?_); simp (maxSteps := 9999999) only [push_cast, seval, ↓reduceIte, hlt, getE_t hx, getE_t hy, he']) | ((first | with_reducible refine hJ _ _ ?_ | (with_reducible refine hJ _ _ ?_ ?_; · kernel_rfl)); clear hJ hKC KC J) | ((with_reducible refine AWP_condT ?_ ?_); · rfl)
          refine ret_plain ?_
          simp (maxSteps := 9999999) only [push_cast, seval, ↓reduceIte, show Tryz.f58.results = #[(.tmp 4)] from rfl]
          rw [decide_eq_false (fun h => he (by rw [h, hy] at hx; exact (Option.some.inj hx).symm))]
          exact leD_refl _
      · skip
        repeat' first | (with_reducible first | refine AWP_seq' ?_ | refine k_normal ?_ | refine k_exit ?_ | refine b_exit ?_ | refine AWP_ret ?_ | refine AWP_exit ?_) | ((with_reducible refine AWP_reg fun KC J hJ hKC => ?_); simp (maxSteps := 9999999) only [push_cast, seval, ↓reduceIte, hlt]) | ((with_reducible refine hJ _ _ ?_); clear hJ hKC KC J) | ((with_reducible refine AWP_condF ?_ ?_); · rfl)
        refine ret_plain ?_
        simp (maxSteps := 9999999) only [push_cast, seval, ↓reduceIte, show Tryz.f58.results = #[(.tmp 4)] from rfl]
        rw [decide_eq_true (list_eq_of hl fun j hj => hn j (by omega))]
        exact leD_refl _
  · have hl' : ((xs.length : Int) != (ys.length : Int)) = true := by simp; omega
    repeat' first | (with_reducible first | refine AWP_seq' ?_ | refine k_normal ?_ | refine k_ret ?_ | refine AWP_ret ?_) | ((with_reducible refine AWP_reg fun KC J hJ hKC => ?_); simp (maxSteps := 9999999) only [push_cast, seval, ↓reduceIte, hl']) | ((with_reducible refine hJ _ _ ?_); clear hJ hKC KC J) | ((with_reducible refine AWP_condT ?_ ?_); · rfl)
    refine ret_plain ?_
    simp (maxSteps := 9999999) only [push_cast, seval, ↓reduceIte, show Tryz.f58.results = #[(.tmp 4)] from rfl]
    rw [decide_eq_false (fun h => hl (by rw [h]))]
    exact leD_refl _
set_option maxHeartbeats 4000000 in
theorem rSame9_fn (a b : Sta) (ha : Sml15 a) (hb : Sml15 b) : Fn Tryz.prog 20 [.agg (staF false false false false a), .agg (staF false false false false b)] [] (.v (.bool (sameT a b))) [] := by
  obtain ⟨ha1, ha2, ha3, ha4⟩ := ha
  obtain ⟨hb1, hb2, hb3, hb4⟩ := hb
  obtain ⟨v, l, c, m, s, o⟩ := a
  obtain ⟨v', l', c', m', s', o'⟩ := b
  simp only at *
  have f1 := rCodesSame_fn false false c c' (by omega)
  have f2 := rAtomsSame_fn false false m m' (by omega)
  have f3 := rAtomsSame_fn false false o o' (by omega)
  simp only [sameT]
  obtain ⟨c1, hc1⟩ : ∃ x, (v == v' && l == l') = x := ⟨_, rfl⟩
  obtain ⟨c2, hc2⟩ : ∃ x, decide (c = c') = x := ⟨_, rfl⟩
  obtain ⟨c3, hc3⟩ : ∃ x, decide (m = m') = x := ⟨_, rfl⟩
  obtain ⟨c4, hc4⟩ : ∃ x, decide (o = o') = x := ⟨_, rfl⟩
  rw [hc1, hc2, hc3, hc4]
  rw [hc2] at f1
  rw [hc3] at f2
  rw [hc4] at f3
  refine Fn.of (fn := Tryz.f20) (by kernel_rfl) rfl (by kernel_rfl) ⟨[.agg (staF false false false false ⟨v, l, c, m, s, o⟩), .agg (staF false false false false ⟨v', l', c', m', s', o'⟩), .v undef, .v undef, .v undef, .v undef, .v undef, .v undef, .v undef, .v undef, .v undef, .v undef, .v undef, .v undef, .v undef, .v undef, .v undef, .v undef, .v undef, .v undef, .v undef, .v undef, .v undef, .v undef, .v undef, .v undef, .v undef, .v undef, .v undef, .v undef, .v undef, .v undef, .v undef, .v undef, .v undef, .v undef, .v undef, .v undef, .v undef, .v undef, .v undef, .v undef, .v undef, .v undef, .v undef, .v undef, .v undef, .v undef, .v undef, .v undef, .v undef, .v undef, .v undef, .v undef, .v undef, .v undef, .v undef, .v undef, .v undef, .v undef, .v undef, .v undef], []⟩ rfl ?_
  simp only [staF]
  cases c1
  case false =>
    repeat' first | (with_reducible first | refine AWP_seq' ?_ | refine k_normal ?_ | refine k_ret ?_ | refine AWP_ret ?_) | ((with_reducible refine AWP_reg fun KC J hJ hKC => ?_); simp (maxSteps := 9999999) only [push_cast, seval, ↓reduceIte, hc1, undef]) | ((with_reducible refine hJ _ _ ?_); clear hJ hKC KC J) | ((with_reducible refine AWP_condT ?_ ?_); · rfl)
    refine ret_plain ?_
    simp (maxSteps := 9999999) only [push_cast, seval, ↓reduceIte, show Tryz.f20.results = #[(.tmp 4)] from rfl]
    exact Lq
  cases c2
  case false =>
    repeat' first | (with_reducible first | refine AWP_seq' ?_ | refine k_normal ?_ | refine k_ret ?_ | refine AWP_ret ?_) | ((first | with_reducible refine AWP_reg fun KC J hJ hKC => ?_ | (refine' hKC _ _ _ _ _ (callV0 (rCodesSame_fn _ _ _ _ ?_) rfl rfl rfl ?_ ?_); (rotate_left 5); (· exact Lq); (rotate_left 1); (iterate 1 (· exact Hq)))); simp (maxSteps := 9999999) only [push_cast, seval, ↓reduceIte, hc1, hc2, undef]) | ((with_reducible refine hJ _ _ ?_); clear hJ hKC KC J) | ((with_reducible refine AWP_condT ?_ ?_); · rfl)
    refine ret_plain ?_
    simp (maxSteps := 9999999) only [push_cast, seval, ↓reduceIte, show Tryz.f20.results = #[(.tmp 4)] from rfl]
    exact Lq
  cases c3
  case false =>
    repeat' first | (with_reducible first | refine AWP_seq' ?_ | refine k_normal ?_ | refine k_ret ?_ | refine AWP_ret ?_) | ((first | with_reducible refine AWP_reg fun KC J hJ hKC => ?_ | (refine' hKC _ _ _ _ _ (callV0 (rCodesSame_fn _ _ _ _ ?_) rfl rfl rfl ?_ ?_); (rotate_left 5); (· exact Lq); (rotate_left 1); (iterate 1 (· exact Hq))) | (refine' hKC _ _ _ _ _ (callV0 (rAtomsSame_fn _ _ _ _ ?_) rfl rfl rfl ?_ ?_); (rotate_left 5); (· exact Lq); (rotate_left 1); (iterate 1 (· exact Hq)))); simp (maxSteps := 9999999) only [push_cast, seval, ↓reduceIte, hc1, hc2, hc3, undef]) | ((with_reducible refine hJ _ _ ?_); clear hJ hKC KC J) | ((with_reducible refine AWP_condT ?_ ?_); · rfl)
    refine ret_plain ?_
    simp (maxSteps := 9999999) only [push_cast, seval, ↓reduceIte, show Tryz.f20.results = #[(.tmp 4)] from rfl]
    exact Lq
  cases c4
  case false =>
    repeat' first | (with_reducible first | refine AWP_seq' ?_ | refine k_normal ?_ | refine k_ret ?_ | refine AWP_ret ?_) | ((first | with_reducible refine AWP_reg fun KC J hJ hKC => ?_ | (refine' hKC _ _ _ _ _ (callV0 (rCodesSame_fn _ _ _ _ ?_) rfl rfl rfl ?_ ?_); (rotate_left 5); (· exact Lq); (rotate_left 1); (iterate 1 (· exact Hq))) | (refine' hKC _ _ _ _ _ (callV0 (rAtomsSame_fn _ _ _ _ ?_) rfl rfl rfl ?_ ?_); (rotate_left 5); (· exact Lq); (rotate_left 1); (iterate 1 (· exact Hq)))); simp (maxSteps := 9999999) only [push_cast, seval, ↓reduceIte, hc1, hc2, hc3, hc4, undef]) | ((with_reducible refine hJ _ _ ?_); clear hJ hKC KC J) | ((with_reducible refine AWP_condT ?_ ?_); · rfl)
    refine ret_plain ?_
    simp (maxSteps := 9999999) only [push_cast, seval, ↓reduceIte, show Tryz.f20.results = #[(.tmp 4)] from rfl]
    exact Lq
  by_cases hl : s.length = s'.length
  · have hl' : ((s.length : Int) != (s'.length : Int)) = false := by simp [hl]
    repeat' first | (with_reducible first | refine AWP_seq' ?_ | refine k_normal ?_ | refine AWP_skip ?_ | refine AWP_block ?_) | ((first | with_reducible refine AWP_reg fun KC J hJ hKC => ?_ | (refine' hKC _ _ _ _ _ (callV0 (rCodesSame_fn _ _ _ _ ?_) rfl rfl rfl ?_ ?_); (rotate_left 5); (· exact Lq); (rotate_left 1); (iterate 1 (· exact Hq))) | (refine' hKC _ _ _ _ _ (callV0 (rAtomsSame_fn _ _ _ _ ?_) rfl rfl rfl ?_ ?_); (rotate_left 5); (· exact Lq); (rotate_left 1); (iterate 1 (· exact Hq)))); simp (maxSteps := 9999999) only [push_cast, seval, ↓reduceIte, hc1, hc2, hc3, hc4, hl', undef]) | ((with_reducible refine hJ _ _ ?_); clear hJ hKC KC J) | ((with_reducible refine AWP_condF ?_ ?_); · rfl)
    refine AWP_loopD 2 (γ := {i : Nat // i ≤ s.length ∧ ∀ j, j < i → s[j]? = s'[j]?}) (fun i => ⟨[.any, .any, .ptr 0 0 0, .ptr 1 0 0, .any, .any, .any, .any, .any, .any, .any, .any, .any, .any, .any, .any, .any, .any, .any, .any, .any, .any, .any, .any, .any, .any, .any, .any, .any, .any, .any, .any, .any, .any, .any, .any, .any, .any, .any, .any, .any, .any, .any, .any, .any, .any, .v (.int .i64 s.length), .v (.int .i64 i.1), .any, .any, .any, .any, .any, .any, .any, .any, .any, .any, .any, .any, .any, .any], [.ent ⟨0, none, 39, staF false false false false ⟨v, l, c, m, s, o⟩, .cells⟩, .ent ⟨0, none, 39, staF false false false false ⟨v', l', c', m', s', o'⟩, .cells⟩]⟩) (fun i => s.length - i.1) ⟨0, by simp⟩ (fun i => rfl) (fun i => clsd_all rfl) (fun i => rfl) ⟨?_, Fq⟩ ?_
    · exact Lq
    · rintro ⟨i, hi, hn⟩
      simp only [staF]
      by_cases hlt : (i : Int) < (s.length : Int)
      · have hx : s[i]? = some s[i] := List.getElem?_eq_getElem (by omega)
        have hy : s'[i]? = some s'[i] := List.getElem?_eq_getElem (by omega)
        obtain ⟨⟨a1, a2, a3⟩, ha⟩ : ∃ a, s[i] = a := ⟨_, rfl⟩
        obtain ⟨⟨b1, b2, b3⟩, hb2⟩ : ∃ b, s'[i] = b := ⟨_, rfl⟩
        rw [ha] at hx
        rw [hb2] at hy
        by_cases he : (a1, a2, a3) = (b1, b2, b3)
        · cases he
          repeat' first | (with_reducible first | refine AWP_seq' ?_ | refine k_normal ?_ | refine b_normal ?_ | refine AWP_skip ?_ | refine AWP_block ?_) | ((with_reducible refine And.intro ?_ ?_); · exact Sq) | ((first | with_reducible refine AWP_reg fun KC J hJ hKC => ?_ | with_reducible refine AWP_regD rfl fun KC J hJ hKC => ?_); simp (maxSteps := 9999999) only [push_cast, seval, ↓reduceIte, hlt, getE_s hx, getE_s hy, beq_self_eq_true, Bool.and_self, Bool.not_true, bne_self_eq_false, wrapN (i := i) (n := s.length) (by omega) (by omega)]) | ((first | with_reducible refine hJ _ _ ?_ | (with_reducible refine hJ _ _ ?_ ?_; · kernel_rfl)); clear hJ hKC KC J) | ((with_reducible refine AWP_condT ?_ ?_); · rfl) | ((with_reducible refine AWP_condF ?_ ?_); · rfl)
          refine ⟨⟨i + 1, by omega, fun j hj => ?_⟩, by simp only; omega, ?_, ⟨_, rfl⟩⟩
          · by_cases hji : j = i
            · rw [hji, hx, hy]
            · exact hn j (by omega)
          · exact Lq
        · have he' : (a1 == b1 && (a2 == b2 && a3 == b3)) = false := by
            cases h : (a1 == b1 && (a2 == b2 && a3 == b3)) with
            | false => rfl
            | true =>
              simp only [Bool.and_eq_true, beq_iff_eq] at h
              exact absurd (by rw [h.1, h.2.1, h.2.2]) he
          repeat' first | (with_reducible first | refine AWP_seq' ?_ | refine k_normal ?_ | refine k_ret ?_ | refine b_ret ?_ | refine AWP_ret ?_ | refine AWP_skip ?_ | refine AWP_block ?_) | ((with_reducible refine And.intro ?_ ?_); · exact Sq) | ((first | with_reducible refine AWP_reg fun KC J hJ hKC => ?_ | with_reducible refine AWP_regD rfl fun KC J hJ hKC => ?_); simp (maxSteps := 9999999) only [push_cast, seval, ↓reduceIte, hlt, getE_s hx, getE_s hy, he']) | ((first | with_reducible refine hJ _ _ ?_ | (with_reducible refine hJ _ _ ?_ ?_; · kernel_rfl)); clear hJ hKC KC J) | ((with_reducible refine AWP_condT ?_ ?_); · rfl)
          refine ret_plain ?_
          simp (maxSteps := 9999999) only [push_cast, seval, ↓reduceIte, show Tryz.f20.results = #[(.tmp 4)] from rfl]
          rw [decide_eq_false (fun h => he (by rw [h, hy] at hx; exact (Option.some.inj hx).symm))]
          exact leD_refl _
      · skip
        repeat' first | (with_reducible first | refine AWP_seq' ?_ | refine k_normal ?_ | refine k_exit ?_ | refine b_exit ?_ | refine AWP_ret ?_ | refine AWP_exit ?_) | ((with_reducible refine AWP_reg fun KC J hJ hKC => ?_); simp (maxSteps := 9999999) only [push_cast, seval, ↓reduceIte, hlt]) | ((with_reducible refine hJ _ _ ?_); clear hJ hKC KC J) | ((with_reducible refine AWP_condF ?_ ?_); · rfl)
        refine ret_plain ?_
        simp (maxSteps := 9999999) only [push_cast, seval, ↓reduceIte, show Tryz.f20.results = #[(.tmp 4)] from rfl]
        rw [decide_eq_true (list_eq_of hl fun j hj => hn j (by omega))]
        exact leD_refl _
  · have hl' : ((s.length : Int) != (s'.length : Int)) = true := by simp; omega
    repeat' first | (with_reducible first | refine AWP_seq' ?_ | refine k_normal ?_ | refine k_ret ?_ | refine AWP_ret ?_) | ((first | with_reducible refine AWP_reg fun KC J hJ hKC => ?_ | (refine' hKC _ _ _ _ _ (callV0 (rCodesSame_fn _ _ _ _ ?_) rfl rfl rfl ?_ ?_); (rotate_left 5); (· exact Lq); (rotate_left 1); (iterate 1 (· exact Hq))) | (refine' hKC _ _ _ _ _ (callV0 (rAtomsSame_fn _ _ _ _ ?_) rfl rfl rfl ?_ ?_); (rotate_left 5); (· exact Lq); (rotate_left 1); (iterate 1 (· exact Hq)))); simp (maxSteps := 9999999) only [push_cast, seval, ↓reduceIte, hc1, hc2, hc3, hc4, hl', undef]) | ((with_reducible refine hJ _ _ ?_); clear hJ hKC KC J) | ((with_reducible refine AWP_condT ?_ ?_); · rfl)
    refine ret_plain ?_
    simp (maxSteps := 9999999) only [push_cast, seval, ↓reduceIte, show Tryz.f20.results = #[(.tmp 4)] from rfl]
    rw [decide_eq_false (fun h => hl (by rw [h]))]
    exact leD_refl _
end Go.Proofs.YtabliglgeiajlaaGreat.AM
