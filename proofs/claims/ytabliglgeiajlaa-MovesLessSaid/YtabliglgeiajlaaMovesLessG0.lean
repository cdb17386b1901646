/- Walks and plain laws, put together: part 0. -/
import Derived.Test.YtabliglgeiajlaaMc
set_option linter.unusedSimpArgs false
set_option linter.unusedVariables false
/- Rows of numbers compared; draws. -/
namespace Go.Proofs.Ytabliglgeiajlaa.AM
open Go Go.RowKit Go.Proofs
set_option maxRecDepth 100000
set_option maxHeartbeats 400000

/-! ### Rows of numbers -/
def intRow (xs : List Int) : List (List D) := xs.map fun x => [.v (.int .i64 x)]
@[push_cast] theorem intRow_length (l : List Int) : (intRow l).length = l.length := by simp [intRow]
@[push_cast] theorem sub_intRow (l : List Int) (a b : Nat) : sub (intRow l) a b = intRow ((l.take b).drop a) := by simp [intRow, sub_map]
theorem getE_intRow {l : List Int} {n : Nat} {x : Int} (h : l[n]? = some x) : getE (intRow l) n = [.v (.int .i64 x)] := by unfold intRow; exact getE_map _ _ _ _ h
theorem intRow_flatten (l : List Int) : (intRow l).flatten = l.map fun x => .v (.int .i64 x) := by
  induction l with
  | nil => rfl
  | cons a l ih => simp only [intRow, List.map_cons, List.flatten_cons] at ih ⊢; rw [ih]; rfl
@[push_cast] theorem intRow_flatten_length (l : List Int) : (intRow l).flatten.length = l.length := by rw [intRow_flatten]; simp
@[push_cast] theorem chunk_snoc (l : List Int) (x : Int) : chunk 1 (l.length + 1) ((intRow l).flatten ++ [.v (.int .i64 x)]) = intRow (l ++ [x]) := by
  rw [intRow_flatten, show ([.v (.int .i64 x)] : List D) = [x].map (fun x => .v (.int .i64 x)) from rfl, ← List.map_append, show l.length + 1 = (l ++ [x]).length by simp]
  exact chunk_one _ _
@[push_cast] theorem frzAll_append (a b : List D) : frzAll (a ++ b) = (frzAll a && frzAll b) := by
  induction a with
  | nil => simp [frzAll]
  | cons x a ih => simp only [List.cons_append, frzAll, ih, Bool.and_assoc]
@[push_cast] theorem frzAll_ints (l : List Int) : frzAll (l.map fun x => .v (.int .i64 x)) = true := by
  induction l with
  | nil => rfl
  | cons x l ih => simp only [List.map_cons, frzAll, ih]; rfl
@[push_cast] theorem frzAll_intRow (l : List Int) : frzAll (intRow l).flatten = true := by rw [intRow_flatten]; exact frzAll_ints l
@[push_cast] theorem isNil_intRow (x : Int) (l : List Int) : isNilL (intRow (x :: l)) = false := rfl
@[push_cast] theorem isNil_intRow0 : isNilL (intRow []) = true := rfl
theorem ble_self (n : Nat) : Nat.ble n n = true := Nat.ble_self_eq_true n
attribute [push_cast] Nat.zero_add ble_self Nat.mul_one List.length_append
def cmpI (x y : Int) : Int := if x < y then -1 else if y < x then 1 else 0
theorem isNaN_fn (x : Int) : Fn Try.prog 276 [.v (.int .i64 x)] [] (.v (.bool false)) [] := by
  refine Fn.of (fn := Try.f276) (by kernel_rfl) rfl (by kernel_rfl) ⟨[.v (.int .i64 x), .v undef, .v undef, .v undef, .v undef, .v undef], []⟩ rfl ?_
  repeat' first | (with_reducible first | refine AWP_seq' ?_ | refine k_normal ?_ | refine AWP_ret ?_) | ((with_reducible refine AWP_reg fun KC J hJ hKC => ?_); simp (maxSteps := 10000000) only [push_cast, seval, ↓reduceIte]) | ((with_reducible refine hJ _ _ ?_); clear hJ hKC KC J)
  refine ret_plain ?_
  simp (maxSteps := 10000000) only [push_cast, seval, ↓reduceIte, show Try.f276.results = #[(.tmp 2)] from rfl]
  exact leD_v (by simp)
theorem compare_fn (x y : Int) : Fn Try.prog 191 [.v (.int .i64 x), .v (.int .i64 y)] [] (.v (.int .i64 (cmpI x y))) [] := by
  refine Fn.of (fn := Try.f191) (by kernel_rfl) rfl (by kernel_rfl) ⟨[.v (.int .i64 x), .v (.int .i64 y), .v undef, .v undef, .v undef, .v undef, .v undef, .v undef, .v undef, .v undef, .v undef, .v undef, .v undef, .v undef, .v undef, .v undef, .v undef, .v undef, .v undef, .v undef], []⟩ rfl ?_
  repeat' first | (with_reducible first | refine AWP_seq' ?_ | refine k_normal ?_ | refine k_ret ?_ | refine AWP_ret ?_ | refine AWP_skip ?_) | ((with_reducible refine AWP_reg fun KC J hJ hKC => ?_); simp (maxSteps := 10000000) only [push_cast, seval, ↓reduceIte]) | (refine' hKC _ _ _ _ _ (callV0 (isNaN_fn _) rfl rfl rfl ?_ ?_); (rotate_left 1); (· exact Lq); simp (maxSteps := 10000000) only [push_cast, seval, ↓reduceIte]) | ((with_reducible refine hJ _ _ ?_); clear hJ hKC KC J) | ((with_reducible refine AWP_condF ?_ ?_); · rfl) | (refine AWP_cond rfl (fun h => ?_) (fun h => ?_) <;> try simp only [decide_eq_true_eq, decide_eq_false_iff_not, Bool.not_eq_true', Bool.not_eq_false', beq_iff_eq, bne_iff_ne, ne_eq, Bool.not_eq_true, Bool.or_eq_true, Bool.and_eq_true, Bool.or_eq_false_iff, Bool.and_eq_false_imp, beq_eq_false_iff_ne, bne_eq_false_iff_eq] at h)
  all_goals
    refine ret_plain ?_
    simp (maxSteps := 10000000) only [push_cast, seval, ↓reduceIte, show Try.f191.results = #[(.tmp 4)] from rfl]
    exact leD_v (by simp [cmpI, *])

/-! ### Draws -/
def rightB (l lg : List Int) (a : Int) : Bool := decide (l.length ≤ 500) && decide (lg.length ≤ 2000) && decide (0 ≤ a)
/-- The next choice, below a bound. -/
def choiceI (l : List Int) (a b : Int) : Int := if a < l.length then l.getD a.toNat 0 % b else 0
end Go.Proofs.Ytabliglgeiajlaa.AM

/- The first place of a list. -/
namespace Go.Proofs.Ytabliglgeiajlaa.AM
open Go Go.RowKit Go.Proofs

def idxF {α : Type} (p : α → Bool) (xs : List α) : Int := match xs.findIdx? p with | some i => i | none => -1
theorem idxF_at {α : Type} {p : α → Bool} {xs : List α} {i : Nat} (h : i < xs.length) (hp : p xs[i] = true) (hn : ∀ (j : Nat) (hj : j < xs.length), j < i → p xs[j] = false) : idxF p xs = i := by
  have : xs.findIdx? p = some i := by
    rw [List.findIdx?_eq_some_iff_getElem]
    exact ⟨h, hp, fun j hj => by rw [hn j (by omega) hj]; simp⟩
  simp [idxF, this]
theorem idxF_none {α : Type} {p : α → Bool} {xs : List α} (hn : ∀ (j : Nat) (hj : j < xs.length), p xs[j] = false) : idxF p xs = -1 := by
  have : xs.findIdx? p = none := by
    rw [List.findIdx?_eq_none_iff]
    intro x hx
    obtain ⟨j, hj, rfl⟩ := List.mem_iff_getElem.1 hx
    exact hn j hj
  simp [idxF, this]
theorem idxF_any {α : Type} {p : α → Bool} {xs : List α} : decide (0 ≤ idxF p xs) = xs.any p := by
  unfold idxF
  cases h : xs.findIdx? p with
  | none =>
    rw [List.findIdx?_eq_none_iff] at h
    have : xs.any p = false := by rw [List.any_eq_false]; intro x hx; rw [h x hx]; simp
    simp [this]
  | some i =>
    rw [List.findIdx?_eq_some_iff_getElem] at h
    obtain ⟨h1, h2, _⟩ := h
    have : xs.any p = true := List.any_eq_true.2 ⟨_, List.getElem_mem h1, h2⟩
    simp [this]
end Go.Proofs.Ytabliglgeiajlaa.AM

/- Lattices: bits, names, rows. -/
namespace Go.Proofs.Ytabliglgeiajlaa.AM
open Go Go.RowKit Go.Proofs
set_option maxRecDepth 100000
set_option maxHeartbeats 400000

/-! ### Bytes -/
theorem ba_loop (b : ByteArray) (i : Nat) (r : List UInt8) : ByteArray.toList.loop b i r = r.reverse ++ b.data.toList.drop i := by
  fun_induction ByteArray.toList.loop b i r with
  | case1 i r h ih =>
    rw [ih]
    have hi : i < b.data.toList.length := by simpa using h
    rw [List.drop_eq_getElem_cons hi]
    have : b.get! i = b.data.toList[i] := by
      simp [ByteArray.get!]
      rw [getElem!_pos]
    simp [this]
  | case2 i r h =>
    have : b.data.toList.length ≤ i := by simpa using h
    rw [List.drop_eq_nil_of_le this]; simp
theorem ba_toList (b : ByteArray) : b.toList = b.data.toList := by
  unfold ByteArray.toList
  rw [ba_loop]; simp
@[push_cast] theorem ba_beq {a b : ByteArray} : (a.toList == b.toList) = decide (a = b) := by
  rw [ba_toList, ba_toList, Bool.eq_iff_iff]
  simp
  constructor
  · intro h; cases a; cases b; simp_all
  · intro h; rw [h]

/-! ### Bits of 32 -/
theorem wrap_u32 {n : Int} (h0 : 0 ≤ n) (h : n < 4294967296) : IntKind.u32.wrap n = n := by
  simp [IntKind.wrap, IntKind.signed, IntKind.bits, BitVec.toNat_ofInt]
  omega
theorem ishr_u32 {a b : Nat} (h : a < 2 ^ 32) : ishr .u32 (a : Int) (b : Int) = ((a >>> b : Nat) : Int) := by
  show (a : Int).fdiv (2 ^ min (b : Int).toNat 32) = _
  rw [Int.toNat_natCast, Int.fdiv_eq_ediv_of_nonneg _ (Int.pow_nonneg (by decide)), Nat.shiftRight_eq_div_pow]
  rcases Nat.le_total b 32 with hb | hb
  · rw [Nat.min_eq_left hb]; simp
  · rw [Nat.min_eq_right hb]
    have h1 : a / 2 ^ b = 0 := Nat.div_eq_of_lt (Nat.lt_of_lt_of_le h (Nat.pow_le_pow_right (by decide) hb))
    have h2 : (a : Int) / 2 ^ 32 = ((a / 2 ^ 32 : Nat) : Int) := by simp
    rw [h1, h2, Nat.div_eq_of_lt h]
theorem bv_u32 {a : Nat} (h : a < 2 ^ 32) : (BitVec.ofInt 32 (a : Int)).toNat = a := by
  rw [BitVec.toNat_ofInt]
  have : ((a : Int) % ((2 ^ 32 : Nat) : Int)).toNat = a % 2 ^ 32 := by omega
  rw [this, Nat.mod_eq_of_lt h]
theorem and_u32 {a b : Nat} (ha : a < 2 ^ 32) (hb : b < 2 ^ 32) : ibits .and .u32 (a : Int) (b : Int) = ((a &&& b : Nat) : Int) := by
  show IntKind.u32.wrap ((BitVec.ofInt 32 (a : Int) &&& BitVec.ofInt 32 (b : Int)).toNat : Int) = _
  rw [BitVec.toNat_and, bv_u32 ha, bv_u32 hb]
  have : a &&& b ≤ a := Nat.and_le_left
  exact wrap_u32 (by omega) (by omega)
theorem or_u32 {a b : Nat} (ha : a < 2 ^ 32) (hb : b < 2 ^ 32) : ibits .or .u32 (a : Int) (b : Int) = ((a ||| b : Nat) : Int) := by
  show IntKind.u32.wrap ((BitVec.ofInt 32 (a : Int) ||| BitVec.ofInt 32 (b : Int)).toNat : Int) = _
  rw [BitVec.toNat_or, bv_u32 ha, bv_u32 hb]
  have : a ||| b < 2 ^ 32 := Nat.or_lt_two_pow ha hb
  exact wrap_u32 (by omega) (by omega)
/-- The bits of a that b has not. -/
def anB (a b : Nat) : Nat := a &&& (4294967295 - b)
theorem anB_lt {a b : Nat} (ha : a < 2 ^ 32) : anB a b < 2 ^ 32 := Nat.lt_of_le_of_lt Nat.and_le_left ha
theorem an_u32 {a b : Nat} (ha : a < 2 ^ 32) (hb : b < 2 ^ 32) : ibits .andNot .u32 (a : Int) (b : Int) = ((anB a b : Nat) : Int) := by
  show IntKind.u32.wrap ((BitVec.ofInt 32 (a : Int) &&& ~~~ BitVec.ofInt 32 (b : Int)).toNat : Int) = _
  rw [BitVec.toNat_and, BitVec.toNat_not, bv_u32 ha, bv_u32 hb]
  have := anB_lt (a := a) (b := b) ha
  rw [show a &&& 2 ^ 32 - 1 - b = anB a b from rfl]
  exact wrap_u32 (by omega) (by omega)
theorem anB_bit {a b : Nat} (ha : a < 2 ^ 32) (hb : b < 2 ^ 32) (i : Nat) : (anB a b).testBit i = (a.testBit i && !b.testBit i) := by
  unfold anB
  rw [Nat.testBit_and]
  have h1 : 4294967295 - b = 2 ^ 32 - (b + 1) := by omega
  rw [h1, Nat.testBit_two_pow_sub_succ hb]
  by_cases hi : i < 32
  · simp [hi]
  · have : a.testBit i = false := Nat.testBit_lt_two_pow (Nat.lt_of_lt_of_le ha (Nat.pow_le_pow_right (by decide) (by omega)))
    simp [this]
theorem anB_zero {a b : Nat} (ha : a < 2 ^ 32) (hb : b < 2 ^ 32) : anB a b = 0 ↔ ∀ i, a.testBit i = true → b.testBit i = true := by
  constructor
  · intro h i hi
    have := anB_bit ha hb i
    rw [h, hi] at this
    simpa using this
  · intro h
    refine Nat.eq_of_testBit_eq fun i => ?_
    rw [anB_bit ha hb, Nat.zero_testBit]
    cases hi : a.testBit i with
    | false => rfl
    | true => rw [h i hi]; rfl
theorem shl_u32 {a b : Nat} (ha : a ≤ 1) (hb : b < 32) : ishl .u32 (a : Int) (b : Int) = ((a <<< b : Nat) : Int) := by
  show IntKind.u32.wrap ((a : Int) * 2 ^ min (b : Int).toNat 32) = _
  rw [Int.toNat_natCast, Nat.min_eq_left (by omega), Nat.shiftLeft_eq]
  have h2 : 2 ^ b ≤ 2 ^ 31 := Nat.pow_le_pow_right (by decide) (by omega)
  have h3 : a * 2 ^ b ≤ 2 ^ 31 := Nat.le_trans (Nat.mul_le_mul_right _ ha) (by omega)
  have h4 : (a : Int) * 2 ^ b = ((a * 2 ^ b : Nat) : Int) := by simp
  rw [h4]
  exact wrap_u32 (by omega) (by omega)
theorem one_and (a b : Nat) : (a >>> b) &&& 1 = if a.testBit b then 1 else 0 := by
  rw [Nat.and_one_is_mod, Nat.testBit_eq_decide_div_mod_eq, Nat.shiftRight_eq_div_pow]
  have := Nat.mod_two_eq_zero_or_one (a / 2 ^ b)
  rcases this with h | h <;> simp [h]

/-- A number of 32 bits, as it lies in memory. -/
def uv (n : Nat) : Int := n
theorem uv_shr {a b : Nat} (h : a < 2 ^ 32) : ishr .u32 (uv a) (b : Int) = uv (a >>> b) := ishr_u32 h
theorem uv_and {a b : Nat} (ha : a < 2 ^ 32) (hb : b < 2 ^ 32) : ibits .and .u32 (uv a) (uv b) = uv (a &&& b) := and_u32 ha hb
theorem uv_and1 {a : Nat} (ha : a < 2 ^ 32) : ibits .and .u32 (uv a) 1 = uv (a &&& 1) := and_u32 (b := 1) ha (by decide)
theorem uv_or {a b : Nat} (ha : a < 2 ^ 32) (hb : b < 2 ^ 32) : ibits .or .u32 (uv a) (uv b) = uv (a ||| b) := or_u32 ha hb
theorem uv_an {a b : Nat} (ha : a < 2 ^ 32) (hb : b < 2 ^ 32) : ibits .andNot .u32 (uv a) (uv b) = uv (anB a b) := an_u32 ha hb
theorem uv_shl {a b : Nat} (ha : a ≤ 1) (hb : b < 32) : ishl .u32 (uv a) (b : Int) = uv (a <<< b) := shl_u32 ha hb
@[push_cast] theorem uv_beq {a b : Nat} : (uv a == uv b) = decide (a = b) := by rw [Bool.eq_iff_iff]; simp [uv]; omega
@[push_cast] theorem uv_bne {a b : Nat} : (uv a != uv b) = !decide (a = b) := by rw [bne, uv_beq]
@[push_cast] theorem uv_beq1 {a : Nat} : (uv a == 1) = decide (a = 1) := uv_beq (b := 1)
@[push_cast] theorem uv_beq0 {a : Nat} : (uv a == 0) = decide (a = 0) := uv_beq (b := 0)
@[push_cast] theorem uv_bne0 {a : Nat} : (uv a != 0) = !decide (a = 0) := uv_bne (b := 0)
@[push_cast] theorem uv_gt0 {a : Nat} : (0 < uv a) ↔ (0 < a) := by show 0 < (a : Int) ↔ _; omega

/-! ### Rows -/
def u32Row (l : List Nat) : List (List D) := l.map fun (n : Nat) => [.v (.int .u32 (uv n))]
def strRow (l : List ByteArray) : List (List D) := l.map fun s => [.v (.string s)]
@[push_cast] theorem u32Row_length (l : List Nat) : (u32Row l).length = l.length := by simp [u32Row]
@[push_cast] theorem strRow_length (l : List ByteArray) : (strRow l).length = l.length := by simp [strRow]
@[push_cast] theorem sub_u32Row (l : List Nat) (a b : Nat) : sub (u32Row l) a b = u32Row ((l.take b).drop a) := by simp [u32Row, sub_map]
@[push_cast] theorem sub_strRow (l : List ByteArray) (a b : Nat) : sub (strRow l) a b = strRow ((l.take b).drop a) := by simp [strRow, sub_map]
theorem getE_u32 {l : List Nat} {n : Nat} {x : Nat} (h : l[n]? = some x) : getE (u32Row l) n = [.v (.int .u32 (uv x))] := by unfold u32Row; exact getE_map _ _ _ _ h
theorem getE_str {l : List ByteArray} {n : Nat} {x : ByteArray} (h : l[n]? = some x) : getE (strRow l) n = [.v (.string x)] := by unfold strRow; exact getE_map _ _ _ _ h
theorem getD_of {α : Type} {l : List α} {n : Nat} (d : α) (h : n < l.length) : l[n]? = some (l.getD n d) := by rw [List.getD_eq_getElem?_getD, List.getElem?_eq_getElem h]; rfl

/-! ### Names -/
def nameB (s : ByteArray) : Bool := decide (1 ≤ s.size ∧ s.size ≤ 12 ∧ ∀ i, i < s.size → 97 ≤ byteAt s i ∧ byteAt s i ≤ 122)
theorem nameB_bad {s : ByteArray} {i : Nat} (h : i < s.size) (hb : byteAt s i < 97 ∨ 122 < byteAt s i) : nameB s = false := by
  cases hc : nameB s with
  | false => rfl
  | true => simp only [nameB, decide_eq_true_eq] at hc; have := hc.2.2 i h; omega
theorem ba_empty {s : ByteArray} : s.size = 0 ↔ s = { data := #[] } := by
  cases s with
  | mk d => simp [ByteArray.size]
theorem name_fn (s : ByteArray) (hb : s.size ≤ 9223372036854775807) : Fn Try.prog 210 [.v (.string s)] [] (.v (.bool (nameB s))) [] := by
  refine Fn.of (fn := Try.f210) (by kernel_rfl) rfl (by kernel_rfl) ⟨[.v (.string s), .v undef, .v undef, .v undef, .v undef, .v undef, .v undef, .v undef, .v undef, .v undef, .v undef, .v undef, .v undef, .v undef, .v undef, .v undef, .v undef, .v undef, .v undef, .v undef, .v undef, .v undef, .v undef, .v undef, .v undef, .v undef, .v undef], []⟩ rfl ?_
  repeat' first | (with_reducible first | refine AWP_seq' ?_ | refine k_normal ?_ | refine AWP_block ?_) | ((with_reducible refine AWP_reg fun KC J hJ hKC => ?_); simp (maxSteps := 10000000) only [push_cast, seval, ↓reduceIte]) | ((with_reducible refine hJ _ _ ?_); clear hJ hKC KC J)
  refine AWP_loopF (γ := {i : Nat // i ≤ s.size ∧ ∀ j, j < i → 97 ≤ byteAt s j ∧ byteAt s j ≤ 122}) (fun i => ⟨[.v (.string s), .any, .any, .any, .any, .v (.int .i64 s.size), .v (.int .i64 i.1), .any, .any, .any, .any, .any, .any, .any, .any, .any, .any, .any, .any, .any, .any, .any, .any, .any, .any, .any, .any], []⟩) (fun i => s.size - i.1) ⟨0, by simp⟩ ⟨?_, Fq⟩ ?_
  · exact Lq
  · rintro ⟨i, hi, hn⟩
    by_cases hlt : (i : Int) < (s.size : Int)
    · by_cases h1 : byteAt s i < 97
      · skip
        repeat' first | (with_reducible first | refine AWP_seq' ?_ | refine k_normal ?_ | refine k_ret ?_ | refine b_ret ?_ | refine AWP_ret ?_ | refine AWP_skip ?_ | refine AWP_block ?_) | ((with_reducible refine AWP_reg fun KC J hJ hKC => ?_); simp (maxSteps := 10000000) only [push_cast, seval, ↓reduceIte, hlt, h1]) | ((with_reducible refine And.intro ?_ ?_); · exact Sq) | ((with_reducible refine hJ _ _ ?_); clear hJ hKC KC J) | ((with_reducible refine AWP_condT ?_ ?_); · rfl)
        refine ret_plain ?_
        simp (maxSteps := 10000000) only [push_cast, seval, ↓reduceIte, show Try.f210.results = #[(.tmp 2)] from rfl]
        rw [nameB_bad (by omega) (.inl h1)]
        exact leD_refl _
      by_cases h2 : 122 < byteAt s i
      · skip
        repeat' first | (with_reducible first | refine AWP_seq' ?_ | refine k_normal ?_ | refine k_ret ?_ | refine b_ret ?_ | refine AWP_ret ?_ | refine AWP_skip ?_ | refine AWP_block ?_) | ((with_reducible refine AWP_reg fun KC J hJ hKC => ?_); simp (maxSteps := 10000000) only [push_cast, seval, ↓reduceIte, hlt, h1, h2]) | ((with_reducible refine And.intro ?_ ?_); · exact Sq) | ((with_reducible refine hJ _ _ ?_); clear hJ hKC KC J) | ((with_reducible refine AWP_condT ?_ ?_); · rfl)
        refine ret_plain ?_
        simp (maxSteps := 10000000) only [push_cast, seval, ↓reduceIte, show Try.f210.results = #[(.tmp 2)] from rfl]
        rw [nameB_bad (by omega) (.inr h2)]
        exact leD_refl _
      repeat' first | (with_reducible first | refine AWP_seq' ?_ | refine k_normal ?_ | refine b_normal ?_ | refine AWP_skip ?_ | refine AWP_block ?_) | ((with_reducible refine AWP_reg fun KC J hJ hKC => ?_); simp (maxSteps := 10000000) only [push_cast, seval, ↓reduceIte, hlt, h1, h2, wrapN (i := i) (n := s.size) (by omega) hb]) | ((with_reducible refine And.intro ?_ ?_); · exact Sq) | ((with_reducible refine hJ _ _ ?_); clear hJ hKC KC J) | ((with_reducible refine AWP_condT ?_ ?_); · rfl) | ((with_reducible refine AWP_condF ?_ ?_); · rfl)
      refine ⟨⟨i + 1, by omega, fun j hj => ?_⟩, by simp only; omega, ?_, Fq⟩
      · by_cases he : j = i
        · subst he; omega
        · exact hn j (by omega)
      · exact Lq
    · have hall : ∀ j, j < s.size → 97 ≤ byteAt s j ∧ byteAt s j ≤ 122 := fun j hj => hn j (by omega)
      have he := @ba_empty s
      by_cases h0 : s = { data := #[] }
      · have h0' := he.2 h0
        have hd : decide (s = { data := #[] }) = true := by simp [h0]
        repeat' first | (with_reducible first | refine AWP_seq' ?_ | refine k_normal ?_ | refine k_exit ?_ | refine b_exit ?_ | refine AWP_ret ?_ | refine AWP_exit ?_) | ((with_reducible refine AWP_reg fun KC J hJ hKC => ?_); simp (maxSteps := 10000000) only [push_cast, seval, ↓reduceIte, hlt, hd]) | ((with_reducible refine hJ _ _ ?_); clear hJ hKC KC J) | ((with_reducible refine AWP_condF ?_ ?_); · rfl)
        refine ret_plain ?_
        simp (maxSteps := 10000000) only [push_cast, seval, ↓reduceIte, show Try.f210.results = #[(.tmp 2)] from rfl]
        refine leD_v (congrArg Value.bool (Bool.eq_iff_iff.2 ?_))
        simp only [nameB, decide_eq_true_eq, Bool.false_eq_true, false_iff]
        omega
      · have h1 : 1 ≤ s.size := Nat.one_le_iff_ne_zero.2 fun h => h0 (he.1 h)
        have hd : decide (s = { data := #[] }) = false := by simp [h0]
        repeat' first | (with_reducible first | refine AWP_seq' ?_ | refine k_normal ?_ | refine k_exit ?_ | refine b_exit ?_ | refine AWP_ret ?_ | refine AWP_exit ?_) | ((with_reducible refine AWP_reg fun KC J hJ hKC => ?_); simp (maxSteps := 10000000) only [push_cast, seval, ↓reduceIte, hlt, hd]) | ((with_reducible refine hJ _ _ ?_); clear hJ hKC KC J) | ((with_reducible refine AWP_condF ?_ ?_); · rfl)
        refine ret_plain ?_
        simp (maxSteps := 10000000) only [push_cast, seval, ↓reduceIte, show Try.f210.results = #[(.tmp 2)] from rfl]
        refine leD_v (congrArg Value.bool (Bool.eq_iff_iff.2 ?_))
        simp only [nameB, decide_eq_true_eq]
        exact ⟨fun h => ⟨h1, by omega, hall⟩, fun h => by omega⟩
theorem indexStr_fn (f : Bool) (xs : List ByteArray) (s : ByteArray) (hb : xs.length ≤ 9223372036854775807) : Fn Try.prog 111 [.sl f 1 (strRow xs), .v (.string s)] [] (.v (.int .i64 (idxF (fun x => decide (s = x)) xs))) [] := by
  refine Fn.of (fn := Try.f111) (by kernel_rfl) rfl (by kernel_rfl) ⟨[.sl f 1 (strRow xs), .v (.string s), .v undef, .v undef, .v undef, .v undef, .v undef, .v undef, .v undef, .v undef, .v undef, .v undef, .v undef, .v undef, .v undef, .v undef, .v undef, .v undef, .v undef], []⟩ rfl ?_
  repeat' first | (with_reducible first | refine AWP_seq' ?_ | refine k_normal ?_ | refine AWP_block ?_) | ((with_reducible refine AWP_reg fun KC J hJ hKC => ?_); simp (maxSteps := 10000000) only [push_cast, seval, ↓reduceIte]) | ((with_reducible refine hJ _ _ ?_); clear hJ hKC KC J)
  refine AWP_loopF (γ := {i : Nat // i ≤ xs.length ∧ ∀ (j : Nat) (hj : j < xs.length), j < i → decide (s = xs[j]) = false}) (fun i => ⟨[.sl f 1 (strRow xs), .v (.string s), .any, .any, .any, .any, .any, .v (.int .i64 xs.length), .v (.int .i64 i.1), .any, .any, .any, .any, .any, .any, .any, .any, .any, .any], []⟩) (fun i => xs.length - i.1) ⟨0, by simp⟩ ⟨?_, Fq⟩ ?_
  · exact Lq
  · rintro ⟨i, hi, hn⟩
    by_cases hlt : (i : Int) < (xs.length : Int)
    · have hx : xs[i]? = some xs[i] := List.getElem?_eq_getElem (by omega)
      repeat' first | (with_reducible first | refine AWP_seq' ?_ | refine k_normal ?_ | refine k_ret ?_ | refine b_normal ?_ | refine b_ret ?_ | refine AWP_ret ?_ | refine AWP_skip ?_ | refine AWP_block ?_) | ((with_reducible refine AWP_reg fun KC J hJ hKC => ?_); simp (maxSteps := 10000000) only [push_cast, seval, ↓reduceIte, hlt, getE_str hx, wrapN (i := i) (n := xs.length) (by omega) hb]) | ((with_reducible refine And.intro ?_ ?_); · exact Sq) | ((with_reducible refine hJ _ _ ?_); clear hJ hKC KC J) | ((with_reducible refine AWP_condT ?_ ?_); · rfl) | (refine AWP_cond rfl (fun h => ?_) (fun h => ?_) <;> try simp only [decide_eq_true_eq, decide_eq_false_iff_not, Bool.not_eq_true', Bool.not_eq_false', beq_iff_eq, bne_iff_ne, ne_eq, Bool.not_eq_true, Bool.or_eq_true, Bool.and_eq_true, Bool.or_eq_false_iff, Bool.and_eq_false_imp, beq_eq_false_iff_ne, bne_eq_false_iff_eq] at h)
      · refine ret_plain ?_
        simp (maxSteps := 10000000) only [push_cast, seval, ↓reduceIte, show Try.f111.results = #[(.tmp 4)] from rfl]
        exact leD_v (by rw [idxF_at (by omega) (by simpa using h) hn])
      · refine ⟨⟨i + 1, by omega, fun j hj hji => ?_⟩, by simp only; omega, ?_, Fq⟩
        · by_cases he : j = i
          · subst he; simpa using h
          · exact hn j hj (by omega)
        · exact Lq
    · skip
      repeat' first | (with_reducible first | refine AWP_seq' ?_ | refine k_normal ?_ | refine k_exit ?_ | refine b_exit ?_ | refine AWP_ret ?_ | refine AWP_exit ?_) | ((with_reducible refine AWP_reg fun KC J hJ hKC => ?_); simp (maxSteps := 10000000) only [push_cast, seval, ↓reduceIte, hlt]) | ((with_reducible refine hJ _ _ ?_); clear hJ hKC KC J) | ((with_reducible refine AWP_condF ?_ ?_); · rfl)
      refine ret_plain ?_
      simp (maxSteps := 10000000) only [push_cast, seval, ↓reduceIte, show Try.f111.results = #[(.tmp 4)] from rfl]
      exact leD_v (by rw [idxF_none (fun j hj => hn j hj (by omega))])
def memB (s : ByteArray) (xs : List ByteArray) : Bool := xs.any (fun x => decide (s = x))
theorem containsStr_fn (f : Bool) (xs : List ByteArray) (s : ByteArray) (hb : xs.length ≤ 9223372036854775807) : Fn Try.prog 211 [.sl f 1 (strRow xs), .v (.string s)] [] (.v (.bool (memB s xs))) [] := by
  refine Fn.of (fn := Try.f211) (by kernel_rfl) rfl (by kernel_rfl) ⟨[.sl f 1 (strRow xs), .v (.string s), .v undef, .v undef, .v undef, .v undef, .v undef, .v undef, .v undef], []⟩ rfl ?_
  repeat' first | (with_reducible first | refine AWP_seq' ?_ | refine k_normal ?_ | refine AWP_ret ?_) | ((with_reducible refine AWP_reg fun KC J hJ hKC => ?_); simp (maxSteps := 10000000) only [push_cast, seval, ↓reduceIte]) | (refine' hKC _ _ _ _ _ (callV0 (indexStr_fn _ _ _ ?_) rfl rfl rfl ?_ ?_); (rotate_left 4); (· exact Lq); (rotate_left 1); (iterate 1 (· exact Hq)); simp (maxSteps := 10000000) only [push_cast, seval, ↓reduceIte]) | ((with_reducible refine hJ _ _ ?_); clear hJ hKC KC J)
  refine ret_plain ?_
  simp (maxSteps := 10000000) only [push_cast, seval, ↓reduceIte, show Try.f211.results = #[(.tmp 4)] from rfl]
  exact leD_v (congrArg Value.bool idxF_any)
/-! ### Labels -/
def fl (us : List Nat) (a b : Nat) : Bool := (us.getD a 0).testBit b
def U32 (us : List Nat) : Prop := ∀ u ∈ us, u < 2 ^ 32
theorem U32.get {us : List Nat} (h : U32 us) {i : Nat} (hi : i < us.length) : us.getD i 0 < 2 ^ 32 := by
  rw [List.getD_eq_getElem?_getD, List.getElem?_eq_getElem hi]; exact h _ (List.getElem_mem _)
theorem flows_fn (f g : Bool) (ns : List ByteArray) (us : List Nat) (a b : Nat) (hu : U32 us) (ha : a < us.length) :
    Fn Try.prog 212 [.agg [.sl f 1 (strRow ns), .sl g 1 (u32Row us)], .v (.int .i64 (a : Int)), .v (.int .i64 (b : Int))] [] (.v (.bool (fl us a b))) [] := by
  have hx := getD_of 0 ha
  have h1 : us.getD a 0 >>> b < 2 ^ 32 := Nat.lt_of_le_of_lt (Nat.shiftRight_le _ _) (hu.get ha)
  refine Fn.of (fn := Try.f212) (by kernel_rfl) rfl (by kernel_rfl) ⟨[.agg [.sl f 1 (strRow ns), .sl g 1 (u32Row us)], .v (.int .i64 (a : Int)), .v (.int .i64 (b : Int)), .v undef, .v undef, .v undef, .v undef, .v undef, .v undef, .v undef, .v undef, .v undef, .v undef, .v undef, .v undef, .v undef], []⟩ rfl ?_
  repeat' first | (with_reducible first | refine AWP_seq' ?_ | refine k_normal ?_ | refine AWP_ret ?_) | ((with_reducible refine AWP_reg fun KC J hJ hKC => ?_); simp (maxSteps := 10000000) only [push_cast, seval, ↓reduceIte, getE_u32 hx, uv_shr (hu.get ha) (b := b), uv_and1 h1]) | ((with_reducible refine And.intro ?_ ?_); · exact Sq) | ((with_reducible refine hJ _ _ ?_); clear hJ hKC KC J)
  refine ret_plain ?_
  simp (maxSteps := 10000000) only [push_cast, seval, ↓reduceIte, show Try.f212.results = #[(.tmp 6)] from rfl]
  refine leD_v (congrArg Value.bool ?_)
  rw [one_and, fl]
  cases (us.getD a 0).testBit b <;> rfl
end Go.Proofs.Ytabliglgeiajlaa.AM

/- Lattices: which may be. -/
namespace Go.Proofs.Ytabliglgeiajlaa.AM
open Go Go.RowKit Go.Proofs
set_option maxRecDepth 100000
set_option maxHeartbeats 400000

def mayAt (ns : List ByteArray) (us : List Nat) (i : Nat) : Bool := nameB (ns.getD i { data := #[] }) && !memB (ns.getD i { data := #[] }) (ns.take i) && decide (us.getD i 0 >>> us.length = 0)
def mayB (ns : List ByteArray) (us : List Nat) : Bool := decide (1 ≤ us.length ∧ us.length ≤ 8 ∧ ns.length = us.length) && (List.range us.length).all (mayAt ns us)
theorem mayB_no {ns : List ByteArray} {us : List Nat} (h : ¬ (1 ≤ us.length ∧ us.length ≤ 8 ∧ ns.length = us.length)) : mayB ns us = false := by simp [mayB, h]
theorem mayB_at {ns : List ByteArray} {us : List Nat} {i : Nat} (hi : i < us.length) (h : mayAt ns us i = false) : mayB ns us = false := by
  have : (List.range us.length).all (mayAt ns us) = false := by
    rw [List.all_eq_false]
    exact ⟨i, by simpa using hi, by simp [h]⟩
  simp [mayB, this]
theorem mayB_yes {ns : List ByteArray} {us : List Nat} (h : 1 ≤ us.length ∧ us.length ≤ 8 ∧ ns.length = us.length) (ha : ∀ i, i < us.length → mayAt ns us i = true) : mayB ns us = true := by
  simp only [mayB, Bool.and_eq_true, decide_eq_true_eq, List.all_eq_true]
  exact ⟨h, fun i hi => ha i (by simpa using hi)⟩
theorem mayB_get {ns : List ByteArray} {us : List Nat} (h : mayB ns us = true) : (1 ≤ us.length ∧ us.length ≤ 8 ∧ ns.length = us.length) ∧ ∀ i, i < us.length → mayAt ns us i = true := by
  simp only [mayB, Bool.and_eq_true, decide_eq_true_eq, List.all_eq_true] at h
  exact ⟨h.1, fun i hi => h.2 i (by simpa using hi)⟩
def Szs (ns : List ByteArray) : Prop := ∀ s ∈ ns, s.size ≤ 9223372036854775807
theorem Szs.get {ns : List ByteArray} (h : Szs ns) {i : Nat} (hi : i < ns.length) : (ns.getD i { data := #[] }).size ≤ 9223372036854775807 := by
  rw [List.getD_eq_getElem?_getD, List.getElem?_eq_getElem hi]; exact h _ (List.getElem_mem _)

theorem latMay_fn (f g : Bool) (ns : List ByteArray) (us : List Nat) (hs : Szs ns) (hu : U32 us) :
    Fn Try.prog 120 [.agg [.sl f 1 (strRow ns), .sl g 1 (u32Row us)]] [] (.v (.bool (mayB ns us))) [] := by
  refine Fn.of (fn := Try.f120) (by kernel_rfl) rfl (by kernel_rfl) ⟨[.agg [.sl f 1 (strRow ns), .sl g 1 (u32Row us)], .v undef, .v undef, .v undef, .v undef, .v undef, .v undef, .v undef, .v undef, .v undef, .v undef, .v undef, .v undef, .v undef, .v undef, .v undef, .v undef, .v undef, .v undef, .v undef, .v undef, .v undef, .v undef, .v undef, .v undef, .v undef, .v undef, .v undef, .v undef, .v undef, .v undef, .v undef, .v undef, .v undef, .v undef, .v undef, .v undef, .v undef, .v undef, .v undef, .v undef, .v undef, .v undef, .v undef, .v undef, .v undef, .v undef, .v undef, .v undef, .v undef, .v undef, .v undef], []⟩ rfl ?_
  by_cases h1 : (us.length : Int) < 1
  · skip
    repeat' first | (with_reducible first | refine AWP_seq' ?_ | refine k_normal ?_ | refine k_ret ?_ | refine AWP_ret ?_) | ((with_reducible refine AWP_reg fun KC J hJ hKC => ?_); simp (maxSteps := 10000000) only [push_cast, seval, ↓reduceIte, h1]) | ((with_reducible refine hJ _ _ ?_); clear hJ hKC KC J) | ((with_reducible refine AWP_condT ?_ ?_); · rfl)
    refine ret_plain ?_
    simp (maxSteps := 10000000) only [push_cast, seval, ↓reduceIte, show Try.f120.results = #[(.tmp 2)] from rfl]
    rw [mayB_no (by omega)]
    exact leD_refl _
  by_cases h2 : (8 : Int) < us.length
  · skip
    repeat' first | (with_reducible first | refine AWP_seq' ?_ | refine k_normal ?_ | refine k_ret ?_ | refine AWP_ret ?_) | ((with_reducible refine AWP_reg fun KC J hJ hKC => ?_); simp (maxSteps := 10000000) only [push_cast, seval, ↓reduceIte, h1, h2]) | ((with_reducible refine hJ _ _ ?_); clear hJ hKC KC J) | ((with_reducible refine AWP_condT ?_ ?_); · rfl)
    refine ret_plain ?_
    simp (maxSteps := 10000000) only [push_cast, seval, ↓reduceIte, show Try.f120.results = #[(.tmp 2)] from rfl]
    rw [mayB_no (by omega)]
    exact leD_refl _
  by_cases h3 : ns.length = us.length
  · have h3' : ((ns.length : Int) != (us.length : Int)) = false := by simp [h3]
    repeat' first | (with_reducible first | refine AWP_seq' ?_ | refine k_normal ?_ | refine AWP_skip ?_ | refine AWP_block ?_) | ((with_reducible refine AWP_reg fun KC J hJ hKC => ?_); simp (maxSteps := 10000000) only [push_cast, seval, ↓reduceIte, h1, h2, h3']) | ((with_reducible refine hJ _ _ ?_); clear hJ hKC KC J) | ((with_reducible refine AWP_condF ?_ ?_); · rfl)
    refine AWP_loopF (γ := {i : Nat // i ≤ us.length ∧ ∀ j, j < i → mayAt ns us j = true}) (fun i => ⟨[.any, .ptr 0 0 0, .any, .v (.int .i64 us.length), .any, .any, .any, .any, .any, .any, .any, .any, .any, .any, .any, .any, .any, .any, .any, .any, .any, .any, .any, .sl f 1 (strRow ns), .v (.int .i64 ns.length), .v (.int .i64 i.1), .any, .any, .any, .any, .any, .any, .any, .any, .any, .any, .any, .any, .any, .any, .any, .any, .any, .any, .any, .any, .any, .any, .any, .any, .any, .any], [.ent ⟨0, none, 25, [.sl f 1 (strRow ns), .sl g 1 (u32Row us)], .cells⟩]⟩) (fun i => us.length - i.1) ⟨0, by simp⟩ ⟨?_, Fq⟩ ?_
    · exact Lq
    · rintro ⟨i, hi, hn⟩
      by_cases hlt : (i : Int) < (ns.length : Int)
      · have hlu : i < us.length := by omega
        have hx := getD_of ({ data := #[] } : ByteArray) (show i < ns.length by omega)
        have hy := getD_of 0 hlu
        have hsz := hs.get (show i < ns.length by omega)
        have hul := hu.get hlu
        by_cases c1 : nameB (ns.getD i { data := #[] }) = true
        · by_cases c2 : memB (ns.getD i { data := #[] }) (ns.take i) = true
          · skip
            repeat' first | (with_reducible first | refine AWP_seq' ?_ | refine k_normal ?_ | refine k_ret ?_ | refine b_ret ?_ | refine AWP_ret ?_ | refine AWP_skip ?_ | refine AWP_block ?_) | ((with_reducible refine AWP_reg fun KC J hJ hKC => ?_); simp (maxSteps := 10000000) only [push_cast, seval, ↓reduceIte, hlt, getE_str hx, getE_u32 hy, c1, c2]) | ((with_reducible refine And.intro ?_ ?_); · exact Sq) | (refine' hKC _ _ _ _ _ (callV0 (name_fn _ ?_) rfl rfl rfl ?_ ?_); (rotate_left 2); (· exact Lq); (rotate_left 1); (iterate 1 (· exact Hq)); simp (maxSteps := 10000000) only [push_cast, seval, ↓reduceIte, hlt, getE_str hx, getE_u32 hy, c1, c2]) | (refine' hKC _ _ _ _ _ (callV0 (containsStr_fn _ _ _ ?_) rfl rfl rfl ?_ ?_); (rotate_left 4); (· exact Lq); (rotate_left 1); (iterate 1 (· exact Hq)); simp (maxSteps := 10000000) only [push_cast, seval, ↓reduceIte, hlt, getE_str hx, getE_u32 hy, c1, c2]) | ((with_reducible refine hJ _ _ ?_); clear hJ hKC KC J) | ((with_reducible refine AWP_condT ?_ ?_); · rfl)
            refine ret_plain ?_
            simp (maxSteps := 10000000) only [push_cast, seval, ↓reduceIte, show Try.f120.results = #[(.tmp 2)] from rfl]
            rw [mayB_at hlu (by simp only [mayAt, c1, c2]; rfl)]
            exact leD_refl _
          have c2' : memB (ns.getD i { data := #[] }) (ns.take i) = false := by simpa using c2
          by_cases c3 : us.getD i 0 >>> us.length = 0
          · skip
            repeat' first | (with_reducible first | refine AWP_seq' ?_ | refine k_normal ?_ | refine b_normal ?_ | refine AWP_skip ?_ | refine AWP_block ?_) | ((with_reducible refine AWP_reg fun KC J hJ hKC => ?_); simp (maxSteps := 10000000) only [push_cast, seval, ↓reduceIte, hlt, getE_str hx, getE_u32 hy, c1, c2', uv_shr hul (b := us.length), c3, wrapN (i := i) (n := us.length) (by omega) (by omega)]) | ((with_reducible refine And.intro ?_ ?_); · exact Sq) | (refine' hKC _ _ _ _ _ (callV0 (name_fn _ ?_) rfl rfl rfl ?_ ?_); (rotate_left 2); (· exact Lq); (rotate_left 1); (iterate 1 (· exact Hq)); simp (maxSteps := 10000000) only [push_cast, seval, ↓reduceIte, hlt, getE_str hx, getE_u32 hy, c1, c2', uv_shr hul (b := us.length), c3, wrapN (i := i) (n := us.length) (by omega) (by omega)]) | (refine' hKC _ _ _ _ _ (callV0 (containsStr_fn _ _ _ ?_) rfl rfl rfl ?_ ?_); (rotate_left 4); (· exact Lq); (rotate_left 1); (iterate 1 (· exact Hq)); simp (maxSteps := 10000000) only [push_cast, seval, ↓reduceIte, hlt, getE_str hx, getE_u32 hy, c1, c2', uv_shr hul (b := us.length), c3, wrapN (i := i) (n := us.length) (by omega) (by omega)]) | ((with_reducible refine hJ _ _ ?_); clear hJ hKC KC J) | ((with_reducible refine AWP_condT ?_ ?_); · rfl) | ((with_reducible refine AWP_condF ?_ ?_); · rfl)
            refine ⟨⟨i + 1, by omega, fun j hj => ?_⟩, by simp only; omega, ?_, Fq⟩
            · by_cases he : j = i
              · subst he; simp only [mayAt, c1, c2', c3]; rfl
              · exact hn j (by omega)
            · exact Lq
          · have c3' : decide (us.getD i 0 >>> us.length = 0) = false := by simpa using c3
            repeat' first | (with_reducible first | refine AWP_seq' ?_ | refine k_normal ?_ | refine k_ret ?_ | refine b_ret ?_ | refine AWP_ret ?_ | refine AWP_skip ?_ | refine AWP_block ?_) | ((with_reducible refine AWP_reg fun KC J hJ hKC => ?_); simp (maxSteps := 10000000) only [push_cast, seval, ↓reduceIte, hlt, getE_str hx, getE_u32 hy, c1, c2', uv_shr hul (b := us.length), c3']) | ((with_reducible refine And.intro ?_ ?_); · exact Sq) | (refine' hKC _ _ _ _ _ (callV0 (name_fn _ ?_) rfl rfl rfl ?_ ?_); (rotate_left 2); (· exact Lq); (rotate_left 1); (iterate 1 (· exact Hq)); simp (maxSteps := 10000000) only [push_cast, seval, ↓reduceIte, hlt, getE_str hx, getE_u32 hy, c1, c2', uv_shr hul (b := us.length), c3']) | (refine' hKC _ _ _ _ _ (callV0 (containsStr_fn _ _ _ ?_) rfl rfl rfl ?_ ?_); (rotate_left 4); (· exact Lq); (rotate_left 1); (iterate 1 (· exact Hq)); simp (maxSteps := 10000000) only [push_cast, seval, ↓reduceIte, hlt, getE_str hx, getE_u32 hy, c1, c2', uv_shr hul (b := us.length), c3']) | ((with_reducible refine hJ _ _ ?_); clear hJ hKC KC J) | ((with_reducible refine AWP_condT ?_ ?_); · rfl)
            refine ret_plain ?_
            simp (maxSteps := 10000000) only [push_cast, seval, ↓reduceIte, show Try.f120.results = #[(.tmp 2)] from rfl]
            rw [mayB_at hlu (by simp only [mayAt, c1, c2', c3']; rfl)]
            exact leD_refl _
        · have c1' : nameB (ns.getD i { data := #[] }) = false := by simpa using c1
          repeat' first | (with_reducible first | refine AWP_seq' ?_ | refine k_normal ?_ | refine k_ret ?_ | refine b_ret ?_ | refine AWP_ret ?_ | refine AWP_skip ?_ | refine AWP_block ?_) | ((with_reducible refine AWP_reg fun KC J hJ hKC => ?_); simp (maxSteps := 10000000) only [push_cast, seval, ↓reduceIte, hlt, getE_str hx, getE_u32 hy, c1']) | ((with_reducible refine And.intro ?_ ?_); · exact Sq) | (refine' hKC _ _ _ _ _ (callV0 (name_fn _ ?_) rfl rfl rfl ?_ ?_); (rotate_left 2); (· exact Lq); (rotate_left 1); (iterate 1 (· exact Hq)); simp (maxSteps := 10000000) only [push_cast, seval, ↓reduceIte, hlt, getE_str hx, getE_u32 hy, c1']) | ((with_reducible refine hJ _ _ ?_); clear hJ hKC KC J) | ((with_reducible refine AWP_condT ?_ ?_); · rfl)
          refine ret_plain ?_
          simp (maxSteps := 10000000) only [push_cast, seval, ↓reduceIte, show Try.f120.results = #[(.tmp 2)] from rfl]
          rw [mayB_at hlu (by simp only [mayAt, c1']; rfl)]
          exact leD_refl _
      · skip
        repeat' first | (with_reducible first | refine AWP_seq' ?_ | refine k_normal ?_ | refine k_exit ?_ | refine b_exit ?_ | refine AWP_ret ?_ | refine AWP_exit ?_) | ((with_reducible refine AWP_reg fun KC J hJ hKC => ?_); simp (maxSteps := 10000000) only [push_cast, seval, ↓reduceIte, hlt]) | ((with_reducible refine hJ _ _ ?_); clear hJ hKC KC J) | ((with_reducible refine AWP_condF ?_ ?_); · rfl)
        refine ret_plain ?_
        simp (maxSteps := 10000000) only [push_cast, seval, ↓reduceIte, show Try.f120.results = #[(.tmp 2)] from rfl]
        rw [mayB_yes ⟨by omega, by omega, h3⟩ (fun j hj => hn j (by omega))]
        exact leD_refl _
  · have h3' : ((ns.length : Int) != (us.length : Int)) = true := by simp; omega
    repeat' first | (with_reducible first | refine AWP_seq' ?_ | refine k_normal ?_ | refine k_ret ?_ | refine AWP_ret ?_) | ((with_reducible refine AWP_reg fun KC J hJ hKC => ?_); simp (maxSteps := 10000000) only [push_cast, seval, ↓reduceIte, h1, h2, h3']) | ((with_reducible refine hJ _ _ ?_); clear hJ hKC KC J) | ((with_reducible refine AWP_condT ?_ ?_); · rfl)
    refine ret_plain ?_
    simp (maxSteps := 10000000) only [push_cast, seval, ↓reduceIte, show Try.f120.results = #[(.tmp 2)] from rfl]
    rw [mayB_no (by omega)]
    exact leD_refl _
end Go.Proofs.Ytabliglgeiajlaa.AM

/- Orders and lattices, without Go. -/
namespace Go.Proofs.Ytabliglgeiajlaa.AM
open Go Go.RowKit Go.Proofs

/-- No bits but for labels. -/
def Low (us : List Nat) : Prop := ∀ a, a < us.length → us.getD a 0 < 2 ^ us.length
theorem low_of_may {ns : List ByteArray} {us : List Nat} (h : mayB ns us = true) : Low us := fun a ha => by
  have := (mayB_get h).2 a ha
  simp only [mayAt, Bool.and_eq_true, decide_eq_true_eq] at this
  have h2 := this.2
  rw [Nat.shiftRight_eq_div_pow] at h2
  exact (Nat.div_eq_zero_iff_lt (Nat.two_pow_pos _)).1 h2
theorem Low.bit {us : List Nat} (h : Low us) {a : Nat} (ha : a < us.length) {i : Nat} (hi : fl us a i = true) : i < us.length := by
  rcases Nat.lt_or_ge i us.length with h1 | h1
  · exact h1
  · exfalso
    have : (us.getD a 0).testBit i = false := Nat.testBit_lt_two_pow (Nat.lt_of_lt_of_le (h a ha) (Nat.pow_le_pow_right (by decide) h1))
    rw [fl, this] at hi; cases hi
def Ord (us : List Nat) : Prop := (∀ a, a < us.length → fl us a a = true) ∧ (∀ a, a < us.length → ∀ b, b < us.length → ¬ a = b → ¬ (fl us a b = true ∧ fl us b a = true)) ∧
  (∀ a, a < us.length → ∀ b, b < us.length → ∀ c, c < us.length → fl us a b = true → fl us b c = true → fl us a c = true)
instance (us : List Nat) : Decidable (Ord us) := by unfold Ord; infer_instance
def okAB (us : List Nat) (a b : Nat) : Bool := (if a = b then fl us a a else !(fl us a b && fl us b a)) && (!fl us a b || decide (anB (us.getD b 0) (us.getD a 0) = 0))
theorem okAB_ord {us : List Nat} (hu : U32 us) (hl : Low us) : (∀ a, a < us.length → ∀ b, b < us.length → okAB us a b = true) ↔ Ord us := by
  constructor
  · intro h
    refine ⟨fun a ha => ?_, fun a ha b hb hab ⟨h1, h2⟩ => ?_, fun a ha b hb c hc h1 h2 => ?_⟩
    · have := h a ha a ha
      simp only [okAB, if_true, Bool.and_eq_true] at this
      exact this.1
    · have := h a ha b hb
      simp only [okAB, if_neg hab, h1, h2] at this
      simp at this
    · have := h a ha b hb
      simp only [okAB, h1, Bool.not_true, Bool.false_or, Bool.and_eq_true, decide_eq_true_eq] at this
      exact (anB_zero (hu.get hb) (hu.get ha)).1 this.2 c h2
  · rintro ⟨h1, h2, h3⟩ a ha b hb
    simp only [okAB, Bool.and_eq_true, Bool.or_eq_true, Bool.not_eq_true', decide_eq_true_eq]
    constructor
    · split
      · exact h1 a ha
      · rename_i hab
        have := h2 a ha b hb hab
        cases hx : fl us a b with
        | false => rfl
        | true =>
          cases hy : fl us b a with
          | false => rfl
          | true => exact absurd ⟨hx, hy⟩ this
    · cases hx : fl us a b with
      | false => exact .inl rfl
      | true => exact .inr ((anB_zero (hu.get hb) (hu.get ha)).2 fun i hi => h3 a ha b hb i (hl.bit hb hi) hx hi)
/-- The labels that flow to one. -/
def downN (us : List Nat) (a : Nat) : Nat → Nat
  | 0 => 0
  | i + 1 => downN us a i ||| (((us.getD i 0 >>> a) &&& 1) <<< i)
theorem downN_bit (us : List Nat) (a : Nat) : ∀ (n j : Nat), (downN us a n).testBit j = (decide (j < n) && fl us j a)
  | 0, j => by simp [downN]
  | n + 1, j => by
    rw [downN, Nat.testBit_or, downN_bit us a n j, one_and, Nat.testBit_shiftLeft]
    by_cases h : j = n
    · subst h
      have e : decide (j < j) = false := by simp
      have e2 : decide (j < j + 1) = true := by simp
      rw [e, e2]
      simp only [Bool.false_and, Bool.false_or, Bool.true_and, fl, ge_iff_le, Nat.le_refl, decide_true, Nat.sub_self]
      cases (us.getD j 0).testBit a <;> simp
    · by_cases h2 : j < n
      · have e : decide (j < n) = true := by simp [h2]
        have e2 : decide (j < n + 1) = true := by simp; omega
        have e3 : decide (j ≥ n) = false := by simp; omega
        rw [e, e2, e3]; simp
      · have e : decide (j < n) = false := by simp; omega
        have e2 : decide (j < n + 1) = false := by simp; omega
        rw [e, e2]
        simp only [Bool.false_and, Bool.false_or]
        have hj : j - n ≠ 0 := by omega
        split
        · obtain ⟨m, hm⟩ := Nat.exists_eq_succ_of_ne_zero hj
          rw [hm, Nat.succ_eq_add_one, Nat.testBit_succ]
          simp
        · simp
theorem downN_lt (us : List Nat) (a n : Nat) : downN us a n < 2 ^ n := by
  refine Nat.lt_pow_two_of_testBit _ fun i hi => ?_
  rw [downN_bit]
  have : decide (i < n) = false := by simp; omega
  simp [this]
def joinI (us : List Nat) (a b : Nat) : Int := idxF (fun u => decide (u = us.getD a 0 &&& us.getD b 0)) us
def meetI (us : List Nat) (a b : Nat) : Int := idxF (fun i => decide (downN us i us.length = (downN us a us.length &&& downN us b us.length))) (List.range us.length)
def isM (us : List Nat) (a b c : Nat) : Prop := (fl us c a = true ∧ fl us c b = true) ∧ ∀ d, d < us.length → fl us d a = true → fl us d b = true → fl us d c = true
theorem isM_iff {us : List Nat} (ho : Ord us) {a b c : Nat} (ha : a < us.length) (hb : b < us.length) (hc : c < us.length) : isM us a b c ↔ downN us c us.length = (downN us a us.length &&& downN us b us.length) := by
  obtain ⟨h1, _, h3⟩ := ho
  have hbit : (downN us c us.length = (downN us a us.length &&& downN us b us.length)) ↔ ∀ i, i < us.length → fl us i c = (fl us i a && fl us i b) := by
    constructor
    · intro h i hi
      have := congrArg (fun x => Nat.testBit x i) h
      simp only [downN_bit, Nat.testBit_and] at this
      have e : decide (i < us.length) = true := by simp [hi]
      rw [e] at this
      simpa using this
    · intro h
      refine Nat.eq_of_testBit_eq fun i => ?_
      simp only [downN_bit, Nat.testBit_and]
      by_cases hi : i < us.length
      · rw [h i hi]; simp [hi]
      · simp [hi]
  rw [hbit]
  constructor
  · rintro ⟨⟨h4, h5⟩, h6⟩ i hi
    cases hx : fl us i c with
    | true => rw [h3 i hi c hc a ha hx h4, h3 i hi c hc b hb hx h5]; rfl
    | false =>
      cases hy : fl us i a with
      | false => rfl
      | true =>
        cases hz : fl us i b with
        | false => rfl
        | true => have := h6 i hi hy hz; rw [hx] at this; cases this
  · intro h
    refine ⟨?_, fun d hd h4 h5 => by rw [h d hd, h4, h5]; rfl⟩
    have := h c hc
    rw [h1 c hc] at this
    simpa using this.symm
def Lat (us : List Nat) : Prop := ∀ a, a < us.length → ∀ b, b < us.length → 0 ≤ joinI us a b ∧ 0 ≤ meetI us a b
instance (us : List Nat) : Decidable (Lat us) := by unfold Lat; infer_instance
def checkF (ns : List ByteArray) (us : List Nat) : Int := if mayB ns us = true then if Ord us then if Lat us then 0 else 3 else 2 else 1
end Go.Proofs.Ytabliglgeiajlaa.AM

/- Lattices: pairs, order, join, meet. -/
namespace Go.Proofs.Ytabliglgeiajlaa.AM
open Go Go.RowKit Go.Proofs
set_option maxRecDepth 100000
set_option maxHeartbeats 400000

def pA (n k : Nat) : Nat := k / n
def pB (n k : Nat) : Nat := k % n
theorem pA_of {n i j : Nat} (h : j < n) : pA n (i * n + j) = i := by
  unfold pA
  rw [Nat.mul_comm, Nat.mul_add_div (by omega), Nat.div_eq_of_lt h]; rfl
theorem pB_of {n i j : Nat} (h : j < n) : pB n (i * n + j) = j := by
  unfold pB
  rw [Nat.mul_comm, Nat.mul_add_mod, Nat.mod_eq_of_lt h]
theorem pA_lt {n k : Nat} (h : k < n * n) : pA n k < n := Nat.div_lt_of_lt_mul h
theorem pB_lt {n k : Nat} (h : k < n * n) : pB n k < n := Nat.mod_lt _ (Nat.pos_of_ne_zero fun h0 => by subst h0; simp at h)
theorem pairs_all {n : Nat} {p : Nat → Nat → Prop} : (∀ k, k < n * n → p (pA n k) (pB n k)) ↔ ∀ a, a < n → ∀ b, b < n → p a b := by
  constructor
  · intro h a ha b hb
    have h1 : a * n + b < n * n := Nat.lt_of_lt_of_le (Nat.add_lt_add_left hb _) (by rw [← Nat.succ_mul]; exact Nat.mul_le_mul_right _ ha)
    have := h _ h1
    rw [pA_of hb, pB_of hb] at this
    exact this
  · exact fun h k hk => h _ (pA_lt hk) _ (pB_lt hk)
theorem pairs_fn (n : Nat) : Fn Try.prog 122 [.v (.int .i64 (n : Int))] [] (.fn 213 [.fad [.v (.int .i64 (n : Int))]]) [] := by
  refine Fn.of (fn := Try.f122) (by kernel_rfl) rfl (by kernel_rfl) ⟨[.v (.int .i64 (n : Int)), .v undef, .v undef, .v undef], []⟩ rfl ?_
  repeat' first | (with_reducible first | refine AWP_seq' ?_ | refine k_normal ?_) | ((with_reducible refine AWP_reg fun KC J hJ hKC => ?_); simp (maxSteps := 10000000) only [push_cast, seval, ↓reduceIte]) | ((with_reducible refine hJ _ _ ?_); clear hJ hKC KC J)
  refine AWP_freeze 0 rfl (by simp (maxSteps := 10000000) only [push_cast, seval, ↓reduceIte]) ?_
  simp (maxSteps := 10000000) only [push_cast, seval, ↓reduceIte, frSt, frSlot, fr3, fr2, fr1, fr0, sameB, arrOf]
  refine AWP_ret ?_
  refine ret_plain ?_
  simp (maxSteps := 10000000) only [push_cast, seval, ↓reduceIte, show Try.f122.results = #[(.tmp 2)] from rfl]
  exact Lq
theorem pairs_it (n : Nat) (hl : n ≤ 1000) :
    ItFn Try.prog 213 [.fad [.v (.int .i64 (n : Int))]] (n * n) (fun k => [.v (.int .i64 ((pA n k : Nat) : Int)), .v (.int .i64 ((pB n k : Nat) : Int))]) := by
  intro m inv ok frr rr hrec hcl hlen hy t ht
  refine Fn.of (fn := Try.f213) (by kernel_rfl) rfl (by kernel_rfl) ⟨[.kref false m 0, .fad [.v (.int .i64 (n : Int))], .v undef, .v undef, .v undef, .v undef, .v undef, .v undef, .v undef, .v undef, .v undef, .v undef, .v undef, .v undef, .v undef, .v undef, .v undef, .v undef, .v undef, .v undef], inv 0⟩ rfl ?_
  repeat' first | (with_reducible first | refine AWP_seq' ?_ | refine k_normal ?_ | refine AWP_block ?_) | ((with_reducible refine AWP_reg fun KC J hJ hKC => ?_); simp (maxSteps := 10000000) only [push_cast, seval, ↓reduceIte]) | ((with_reducible refine hJ _ _ ?_); clear hJ hKC KC J)
  refine AWP_loopF (γ := {i : Nat // i ≤ n ∧ ∀ k, k < i * n → ok k = true}) (fun i => ⟨[.kref false m 0, .fad [.v (.int .i64 (n : Int))], .any, .any, .any, .v (.int .i64 (n : Int)), .v (.int .i64 i.1), .any, .any, .any, .any, .any, .any, .any, .any, .any, .any, .any, .any, .any], inv (i.1 * n)⟩) (fun i => n - i.1) ⟨0, by simp⟩ ⟨?_, ?_⟩ ?_
  · exact Lq
  · simp only [Nat.zero_mul]; exact Fq
  · rintro ⟨i, hi, hok⟩
    by_cases hlt : (i : Int) < (n : Int)
    · skip
      repeat' first | (with_reducible first | refine AWP_seq' ?_ | refine k_normal ?_ | refine AWP_skip ?_ | refine AWP_block ?_) | ((with_reducible refine AWP_reg fun KC J hJ hKC => ?_); simp (maxSteps := 10000000) only [push_cast, seval, ↓reduceIte, hlt]) | ((with_reducible refine hJ _ _ ?_); clear hJ hKC KC J) | ((with_reducible refine AWP_condT ?_ ?_); · rfl)
      refine AWP_loopF (γ := {j : Nat // j ≤ n ∧ ∀ k, k < i * n + j → ok k = true}) (fun j => ⟨[.kref false m 0, .fad [.v (.int .i64 (n : Int))], .any, .v (.int .i64 i), .any, .v (.int .i64 (n : Int)), .v (.int .i64 i), .any, .any, .v (.int .i64 (n : Int)), .v (.int .i64 j.1), .any, .any, .any, .any, .any, .any, .any, .any, .any], inv (i * n + j.1)⟩) (fun j => n - j.1) ⟨0, by simpa using hok⟩ ⟨?_, ?_⟩ ?_
      · exact Lq
      · exact Fq
      · rintro ⟨j, hj, hokj⟩
        by_cases hlj : (j : Int) < (n : Int)
        · have hjn : j < n := by omega
          have hin : i < n := by omega
          have hk : i * n + j < n * n := Nat.lt_of_lt_of_le (Nat.add_lt_add_left hjn _) (by rw [← Nat.succ_mul]; exact Nat.mul_le_mul_right _ hin)
          have hyi := hy (i * n + j) hk hokj
          simp only [pA_of hjn, pB_of hjn] at hyi
          have hL : (inv (i * n + j + 1)).length = (inv (i * n + j)).length := by rw [hlen, hlen]
          have hset := setsF_pre (rest := [Slot.free]) hL
          obtain ⟨k, hkk⟩ : ∃ k, i * n + j = k := ⟨_, rfl⟩
          have hkk1 : i * n + (j + 1) = k + 1 := by omega
          rw [hkk] at hyi hL hset hk hokj
          cases hoki : ok k with
          | true =>
            rw [hoki] at hyi
            repeat' first | (with_reducible first | refine AWP_seq' ?_ | refine k_normal ?_ | refine b_normal ?_ | refine AWP_skip ?_ | refine AWP_block ?_) | ((with_reducible refine AWP_reg fun KC J hJ hKC => ?_); simp (maxSteps := 10000000) only [push_cast, seval, ↓reduceIte, hlj, hkk, hset, wrapN (i := j) (n := n) (by omega) (by omega)]) | (refine hKC _ _ _ _ _ (callY hyi (hrec k) (hcl k) (hcl (k + 1)) hL rfl (Nat.le_refl _) rfl rfl rfl rfl ?_); simp (maxSteps := 10000000) only [push_cast, seval, ↓reduceIte, hlj, hkk, hset, wrapN (i := j) (n := n) (by omega) (by omega)]) | ((with_reducible refine hJ _ _ ?_); clear hJ hKC KC J) | ((with_reducible refine AWP_condT ?_ ?_); · rfl) | ((with_reducible refine AWP_condF ?_ ?_); · rfl)
            refine ⟨⟨j + 1, by omega, fun q hq => ?_⟩, by simp only; omega, ?_, ?_⟩
            · by_cases he : q = k
              · rw [he]; exact hoki
              · exact hokj q (by omega)
            · exact Lq
            · simp only [hkk1]; exact Fq
          | false =>
            rw [hoki] at hyi
            repeat' first | (with_reducible first | refine AWP_seq' ?_ | refine k_normal ?_ | refine k_ret ?_ | refine b_ret ?_ | refine AWP_ret ?_ | refine AWP_skip ?_ | refine AWP_block ?_) | ((with_reducible refine AWP_reg fun KC J hJ hKC => ?_); simp (maxSteps := 10000000) only [push_cast, seval, ↓reduceIte, hlj, hkk, hset, wrapN (i := j) (n := n) (by omega) (by omega)]) | (refine hKC _ _ _ _ _ (callY hyi (hrec k) (hcl k) (hcl (k + 1)) hL rfl (Nat.le_refl _) rfl rfl rfl rfl ?_); simp (maxSteps := 10000000) only [push_cast, seval, ↓reduceIte, hlj, hkk, hset, wrapN (i := j) (n := n) (by omega) (by omega)]) | ((with_reducible refine hJ _ _ ?_); clear hJ hKC KC J) | ((with_reducible refine AWP_condT ?_ ?_); · rfl)
            have hni : t = k + 1 := by
              rcases ht with ⟨h1, h2⟩ | ⟨q, h1, h2, h3, h4⟩
              · have := h2 k (by omega); rw [hoki] at this; cases this
              · rcases Nat.lt_trichotomy q k with h | h | h
                · have := hokj q h; rw [h3] at this; cases this
                · omega
                · have := h4 k h; rw [hoki] at this; cases this
            rw [hni]
            exact ret_it 1 (.inr rfl) rfl rfl (hcl _) (by rw [hlen, hlen])
        · have hjn : j = n := by omega
          have hkk : i * n + j = (i + 1) * n := by rw [hjn, Nat.succ_mul]
          repeat' first | (with_reducible first | refine AWP_seq' ?_ | refine k_normal ?_ | refine k_exit ?_ | refine b_normal ?_ | refine b_exit ?_ | refine AWP_exit ?_) | ((with_reducible refine AWP_reg fun KC J hJ hKC => ?_); simp (maxSteps := 10000000) only [push_cast, seval, ↓reduceIte, hlj, hkk, wrapN (i := i) (n := n) (by omega) (by omega)]) | ((with_reducible refine hJ _ _ ?_); clear hJ hKC KC J) | ((with_reducible refine AWP_condF ?_ ?_); · rfl)
          refine ⟨⟨i + 1, by omega, fun q hq => hokj q (by omega)⟩, by simp only; omega, ?_, ?_⟩
          · exact Lq
          · simp only [hkk]; exact Fq
    · have hin : i = n := by omega
      subst hin
      have hni : t = i * i := by
        rcases ht with ⟨h1, h2⟩ | ⟨q, h1, h2, h3, h4⟩
        · exact h1
        · have := hok q h1; rw [h3] at this; cases this
      repeat' first | (with_reducible first | refine AWP_seq' ?_ | refine k_normal ?_ | refine k_exit ?_ | refine b_exit ?_ | refine AWP_exit ?_) | ((with_reducible refine AWP_reg fun KC J hJ hKC => ?_); simp (maxSteps := 10000000) only [push_cast, seval, ↓reduceIte, hlt]) | ((with_reducible refine hJ _ _ ?_); clear hJ hKC KC J) | ((with_reducible refine AWP_condF ?_ ?_); · rfl)
      rw [hni]
      exact ret_it 0 (.inl rfl) rfl (by simp) (hcl _) (by rw [hlen, hlen])
set_option maxHeartbeats 1000000 in
theorem order_fn (f g : Bool) (ns : List ByteArray) (us : List Nat) (hu : U32 us) (hlw : Low us) (hl : us.length ≤ 8) :
    Fn Try.prog 121 [.agg [.sl f 1 (strRow ns), .sl g 1 (u32Row us)]] [] (.v (.bool (decide (Ord us)))) [] := by
  refine Fn.of (fn := Try.f121) (by kernel_rfl) rfl (by kernel_rfl) ⟨[.agg [.sl f 1 (strRow ns), .sl g 1 (u32Row us)], .v undef, .v undef, .v undef, .v undef, .v undef, .v undef, .v undef, .v undef, .v undef, .v undef, .v undef, .v undef, .v undef, .v undef, .v undef, .v undef, .v undef, .v undef, .v undef, .v undef, .v undef, .v undef, .v undef, .v undef, .v undef, .v undef, .v undef, .v undef, .v undef, .v undef, .v undef, .v undef, .v undef, .v undef, .v undef, .v undef, .v undef, .v undef, .v undef, .v undef, .v undef, .v undef, .v undef, .v undef, .v undef, .v undef, .v undef, .v undef, .v undef, .v undef, .v undef, .v undef, .v undef, .v undef, .v undef], []⟩ rfl ?_
  repeat' first | (with_reducible first | refine AWP_seq' ?_ | refine k_normal ?_ | refine AWP_block ?_) | ((with_reducible refine AWP_reg fun KC J hJ hKC => ?_); simp (maxSteps := 10000000) only [push_cast, seval, ↓reduceIte]) | (refine' hKC _ _ _ _ _ (callV0 (pairs_fn _) rfl rfl rfl ?_ ?_); (rotate_left 1); (· exact Lq); simp (maxSteps := 10000000) only [push_cast, seval, ↓reduceIte]) | ((with_reducible refine hJ _ _ ?_); clear hJ hKC KC J)
  refine AWP_le ([.any, .ptr 0 0 0, .ptr 1 0 0, .any, .any, .any, .any, .any, .fn 213 [.fad [.v (.int .i64 (us.length : Int))]], .any, .any, .any, .any, .any, .any, .any, .any, .any, .any, .any, .any, .any, .any, .any, .any, .any, .any, .any, .any, .any, .any, .any, .any, .any, .any, .any, .any, .any, .any, .any, .any, .any, .any, .any, .any, .any, .any, .any, .any, .any, .any, .any, .any, .any, .any, .any]) (by exact Lq) ?_
  refine AWP_range2 (f := 213) rfl rfl (pairs_it us.length (by omega)) (fun i hi => rfl) 3 rfl rfl
    (fun i => [.ent ⟨0, none, 25, [.sl f 1 (strRow ns), .sl g 1 (u32Row us)], .cells⟩, .ent ⟨0, none, 4, [.v (.bool false)], .cells⟩, .free])
    (fun i => [.ent ⟨0, none, 25, [.sl f 1 (strRow ns), .sl g 1 (u32Row us)], .cells⟩, .ent ⟨0, none, 4, [.v (.bool false)], .cells⟩, .free])
    rfl (fun i => ⟨rfl, rfl⟩) (fun i => ⟨rfl, rfl⟩) (fun i => ⟨rfl, rfl⟩) (fun k => okAB us (pA us.length k) (pB us.length k)) .ret .ret rfl
    (fun i => [.any, .ptr 0 0 0, .ptr 1 0 0, .v (.int .i64 (pA us.length i : Nat)), .v (.int .i64 (pB us.length i : Nat)), .any, .any, .any, .fn 213 [.fad [.v (.int .i64 (us.length : Int))]], .v (.int .i64 (pA us.length i : Nat)), .v (.int .i64 (pB us.length i : Nat)), .any, .any, .any, .any, .any, .any, .any, .any, .any, .any, .any, .any, .any, .any, .any, .any, .any, .any, .any, .any, .any, .any, .any, .any, .any, .any, .any, .any, .any, .any, .any, .any, .any, .any, .any, .any, .any, .any, .any, .any, .any, .any, .any, .any, .any])
    (fun l' i r σ hi => ?_) (fun i => rfl) (fun l' i hi hb' => ?_) (fun hall => ?_) (fun k hk hkf hkb => ?_)
  · skip
    repeat' first | (with_reducible first | refine AWP_seq' ?_ | refine k_normal ?_) | ((with_reducible refine AWP_reg fun KC J hJ hKC => ?_); simp (maxSteps := 10000000) only [push_cast, seval, ↓reduceIte]) | ((with_reducible refine And.intro ?_ ?_); · exact Sq) | ((with_reducible refine hJ _ _ ?_); clear hJ hKC KC J)
    exact rfl
  · have hpa := pA_lt hi
    have hpb := pB_lt hi
    obtain ⟨a, ha⟩ : ∃ a, pA us.length i = a := ⟨_, rfl⟩
    obtain ⟨b, hb⟩ : ∃ b, pB us.length i = b := ⟨_, rfl⟩
    simp only [ha, hb] at hpa hpb ⊢
    have hgA := getE_u32 (getD_of 0 hpa)
    have hgB := getE_u32 (getD_of 0 hpb)
    have han := uv_an (hu.get hpb) (hu.get hpa)
    by_cases hab : a = b
    · subst hab
      by_cases hf : fl us a a = true
      · by_cases hz : anB (us.getD a 0) (us.getD a 0) = 0
        · have hok : okAB us a a = true := by rw [okAB, if_pos rfl, hf, decide_eq_true hz]; rfl
          repeat' first | (with_reducible first | refine AWP_seq' ?_ | refine k_normal ?_ | refine b_normal ?_ | refine AWP_skip ?_ | refine AWP_block ?_) | ((with_reducible first | refine AWP_reg fun KC J hJ hKC => ?_ | refine AWP_regD rfl fun KC J hJ hKC => ?_); simp (maxSteps := 10000000) only [push_cast, seval, ↓reduceIte, hf, hz, hgA, han]) | ((with_reducible refine And.intro ?_ ?_); · exact Sq) | (refine' hKC _ _ _ _ _ (callV0 (flows_fn _ _ _ _ _ _ ?_ ?_) rfl rfl rfl ?_ ?_); (rotate_left 8); (· exact Lq); (rotate_left 1); (iterate 2 (· exact Hq)); simp (maxSteps := 10000000) only [push_cast, seval, ↓reduceIte, hf, hz, hgA, han]) | ((first | with_reducible refine hJ _ _ ?_ | (with_reducible refine hJ _ _ ?_ ?_; · kernel_rfl)); clear hJ hKC KC J) | ((with_reducible refine AWP_condF ?_ ?_); · rfl)
          exact .inl ⟨hok, rfl, (by first | exact weakS_free (k := 0) rfl rfl rfl | exact weakS_free (k := 1) rfl rfl rfl | exact weakS_free (k := 2) rfl rfl rfl | exact weakS_free (k := 3) rfl rfl rfl | exact weakS_free (k := 4) rfl rfl rfl | exact weakS_free (k := 5) rfl rfl rfl | exact weakS_free (k := 6) rfl rfl rfl | exact weakS_free (k := 7) rfl rfl rfl | exact weakS_free (k := 8) rfl rfl rfl)⟩
        · have hok : okAB us a a = false := by rw [okAB, if_pos rfl, hf, decide_eq_false hz]; rfl
          repeat' first | (with_reducible first | refine AWP_seq' ?_ | refine k_normal ?_ | refine b_ret ?_ | refine AWP_ret ?_ | refine AWP_skip ?_ | refine AWP_block ?_) | ((with_reducible first | refine AWP_reg fun KC J hJ hKC => ?_ | refine AWP_regD rfl fun KC J hJ hKC => ?_); simp (maxSteps := 10000000) only [push_cast, seval, ↓reduceIte, hf, hz, hgA, han]) | ((with_reducible refine And.intro ?_ ?_); · exact Sq) | (refine' hKC _ _ _ _ _ (callV0 (flows_fn _ _ _ _ _ _ ?_ ?_) rfl rfl rfl ?_ ?_); (rotate_left 8); (· exact Lq); (rotate_left 1); (iterate 2 (· exact Hq)); simp (maxSteps := 10000000) only [push_cast, seval, ↓reduceIte, hf, hz, hgA, han]) | ((first | with_reducible refine hJ _ _ ?_ | (with_reducible refine hJ _ _ ?_ ?_; · kernel_rfl)); clear hJ hKC KC J) | ((with_reducible refine AWP_condT ?_ ?_); · rfl) | ((with_reducible refine AWP_condF ?_ ?_); · rfl)
          exact .inr ⟨hok, rfl, (by first | exact weakS_free (k := 0) rfl rfl rfl | exact weakS_free (k := 1) rfl rfl rfl | exact weakS_free (k := 2) rfl rfl rfl | exact weakS_free (k := 3) rfl rfl rfl | exact weakS_free (k := 4) rfl rfl rfl | exact weakS_free (k := 5) rfl rfl rfl | exact weakS_free (k := 6) rfl rfl rfl | exact weakS_free (k := 7) rfl rfl rfl | exact weakS_free (k := 8) rfl rfl rfl)⟩
      · have hok : okAB us a a = false := by rw [okAB, if_pos rfl, show fl us a a = false by simpa using hf]; rfl
        repeat' first | (with_reducible first | refine AWP_seq' ?_ | refine k_normal ?_ | refine k_ret ?_ | refine b_ret ?_ | refine AWP_ret ?_ | refine AWP_block ?_) | ((with_reducible refine AWP_reg fun KC J hJ hKC => ?_); simp (maxSteps := 10000000) only [push_cast, seval, ↓reduceIte, hf, undef]) | (refine' hKC _ _ _ _ _ (callV0 (flows_fn _ _ _ _ _ _ ?_ ?_) rfl rfl rfl ?_ ?_); (rotate_left 8); (· exact Lq); (rotate_left 1); (iterate 2 (· exact Hq)); simp (maxSteps := 10000000) only [push_cast, seval, ↓reduceIte, hf, undef]) | ((with_reducible refine hJ _ _ ?_); clear hJ hKC KC J) | ((with_reducible refine AWP_condT ?_ ?_); · rfl)
        exact .inr ⟨hok, rfl, (by first | exact weakS_free (k := 0) rfl rfl rfl | exact weakS_free (k := 1) rfl rfl rfl | exact weakS_free (k := 2) rfl rfl rfl | exact weakS_free (k := 3) rfl rfl rfl | exact weakS_free (k := 4) rfl rfl rfl | exact weakS_free (k := 5) rfl rfl rfl | exact weakS_free (k := 6) rfl rfl rfl | exact weakS_free (k := 7) rfl rfl rfl | exact weakS_free (k := 8) rfl rfl rfl)⟩
    · have hab' : ¬ (a : Int) = (b : Int) := by omega
      have hab'' : ((a : Int) != (b : Int)) = true := by simpa using hab'
      have hab3 : ((a : Int) == (b : Int)) = false := by simpa using hab'
      by_cases hf : fl us a b = true
      · by_cases hf' : fl us b a = true
        · have hok : okAB us a b = false := by rw [okAB, if_neg hab, hf, hf']; rfl
          repeat' first | (with_reducible first | refine AWP_seq' ?_ | refine k_normal ?_ | refine k_ret ?_ | refine b_ret ?_ | refine AWP_ret ?_ | refine AWP_block ?_) | ((with_reducible refine AWP_reg fun KC J hJ hKC => ?_); simp (maxSteps := 10000000) only [push_cast, seval, ↓reduceIte, hf, hf', hab, hab', hab'', hab3, undef]) | (refine' hKC _ _ _ _ _ (callV0 (flows_fn _ _ _ _ _ _ ?_ ?_) rfl rfl rfl ?_ ?_); (rotate_left 8); (· exact Lq); (rotate_left 1); (iterate 2 (· exact Hq)); simp (maxSteps := 10000000) only [push_cast, seval, ↓reduceIte, hf, hf', hab, hab', hab'', hab3, undef]) | ((with_reducible refine hJ _ _ ?_); clear hJ hKC KC J) | ((with_reducible refine AWP_condT ?_ ?_); · rfl)
          exact .inr ⟨hok, rfl, (by first | exact weakS_free (k := 0) rfl rfl rfl | exact weakS_free (k := 1) rfl rfl rfl | exact weakS_free (k := 2) rfl rfl rfl | exact weakS_free (k := 3) rfl rfl rfl | exact weakS_free (k := 4) rfl rfl rfl | exact weakS_free (k := 5) rfl rfl rfl | exact weakS_free (k := 6) rfl rfl rfl | exact weakS_free (k := 7) rfl rfl rfl | exact weakS_free (k := 8) rfl rfl rfl)⟩
        · have hfF : fl us b a = false := by simpa using hf'
          by_cases hz : anB (us.getD b 0) (us.getD a 0) = 0
          · have hok : okAB us a b = true := by rw [okAB, if_neg hab, hf, hfF, decide_eq_true hz]; rfl
            repeat' first | (with_reducible first | refine AWP_seq' ?_ | refine k_normal ?_ | refine b_normal ?_ | refine AWP_skip ?_ | refine AWP_block ?_) | ((with_reducible first | refine AWP_reg fun KC J hJ hKC => ?_ | refine AWP_regD rfl fun KC J hJ hKC => ?_); simp (maxSteps := 10000000) only [push_cast, seval, ↓reduceIte, hf, hfF, hz, hgA, hgB, han, hab, hab', hab'', hab3, undef]) | ((with_reducible refine And.intro ?_ ?_); · exact Sq) | (refine' hKC _ _ _ _ _ (callV0 (flows_fn _ _ _ _ _ _ ?_ ?_) rfl rfl rfl ?_ ?_); (rotate_left 8); (· exact Lq); (rotate_left 1); (iterate 2 (· exact Hq)); simp (maxSteps := 10000000) only [push_cast, seval, ↓reduceIte, hf, hfF, hz, hgA, hgB, han, hab, hab', hab'', hab3, undef]) | ((first | with_reducible refine hJ _ _ ?_ | (with_reducible refine hJ _ _ ?_ ?_; · kernel_rfl)); clear hJ hKC KC J) | ((with_reducible refine AWP_condF ?_ ?_); · rfl)
            exact .inl ⟨hok, rfl, (by first | exact weakS_free (k := 0) rfl rfl rfl | exact weakS_free (k := 1) rfl rfl rfl | exact weakS_free (k := 2) rfl rfl rfl | exact weakS_free (k := 3) rfl rfl rfl | exact weakS_free (k := 4) rfl rfl rfl | exact weakS_free (k := 5) rfl rfl rfl | exact weakS_free (k := 6) rfl rfl rfl | exact weakS_free (k := 7) rfl rfl rfl | exact weakS_free (k := 8) rfl rfl rfl)⟩
          · have hok : okAB us a b = false := by rw [okAB, if_neg hab, hf, hfF, decide_eq_false hz]; rfl
            repeat' first | (with_reducible first | refine AWP_seq' ?_ | refine k_normal ?_ | refine b_ret ?_ | refine AWP_ret ?_ | refine AWP_skip ?_ | refine AWP_block ?_) | ((with_reducible first | refine AWP_reg fun KC J hJ hKC => ?_ | refine AWP_regD rfl fun KC J hJ hKC => ?_); simp (maxSteps := 10000000) only [push_cast, seval, ↓reduceIte, hf, hfF, hz, hgA, hgB, han, hab, hab', hab'', hab3, undef]) | ((with_reducible refine And.intro ?_ ?_); · exact Sq) | (refine' hKC _ _ _ _ _ (callV0 (flows_fn _ _ _ _ _ _ ?_ ?_) rfl rfl rfl ?_ ?_); (rotate_left 8); (· exact Lq); (rotate_left 1); (iterate 2 (· exact Hq)); simp (maxSteps := 10000000) only [push_cast, seval, ↓reduceIte, hf, hfF, hz, hgA, hgB, han, hab, hab', hab'', hab3, undef]) | ((first | with_reducible refine hJ _ _ ?_ | (with_reducible refine hJ _ _ ?_ ?_; · kernel_rfl)); clear hJ hKC KC J) | ((with_reducible refine AWP_condT ?_ ?_); · rfl) | ((with_reducible refine AWP_condF ?_ ?_); · rfl)
            exact .inr ⟨hok, rfl, (by first | exact weakS_free (k := 0) rfl rfl rfl | exact weakS_free (k := 1) rfl rfl rfl | exact weakS_free (k := 2) rfl rfl rfl | exact weakS_free (k := 3) rfl rfl rfl | exact weakS_free (k := 4) rfl rfl rfl | exact weakS_free (k := 5) rfl rfl rfl | exact weakS_free (k := 6) rfl rfl rfl | exact weakS_free (k := 7) rfl rfl rfl | exact weakS_free (k := 8) rfl rfl rfl)⟩
      · have hfF : fl us a b = false := by simpa using hf
        have hok : okAB us a b = true := by rw [okAB, if_neg hab, hfF]; rfl
        repeat' first | (with_reducible first | refine AWP_seq' ?_ | refine k_normal ?_ | refine b_normal ?_ | refine AWP_skip ?_ | refine AWP_block ?_) | ((with_reducible first | refine AWP_reg fun KC J hJ hKC => ?_ | refine AWP_regD rfl fun KC J hJ hKC => ?_); simp (maxSteps := 10000000) only [push_cast, seval, ↓reduceIte, hfF, hab, hab', hab'', hab3, undef]) | (refine' hKC _ _ _ _ _ (callV0 (flows_fn _ _ _ _ _ _ ?_ ?_) rfl rfl rfl ?_ ?_); (rotate_left 8); (· exact Lq); (rotate_left 1); (iterate 2 (· exact Hq)); simp (maxSteps := 10000000) only [push_cast, seval, ↓reduceIte, hfF, hab, hab', hab'', hab3, undef]) | ((first | with_reducible refine hJ _ _ ?_ | (with_reducible refine hJ _ _ ?_ ?_; · kernel_rfl)); clear hJ hKC KC J) | ((with_reducible refine AWP_condF ?_ ?_); · rfl)
        exact .inl ⟨hok, rfl, (by first | exact weakS_free (k := 0) rfl rfl rfl | exact weakS_free (k := 1) rfl rfl rfl | exact weakS_free (k := 2) rfl rfl rfl | exact weakS_free (k := 3) rfl rfl rfl | exact weakS_free (k := 4) rfl rfl rfl | exact weakS_free (k := 5) rfl rfl rfl | exact weakS_free (k := 6) rfl rfl rfl | exact weakS_free (k := 7) rfl rfl rfl | exact weakS_free (k := 8) rfl rfl rfl)⟩
  · rw [decide_eq_true ((okAB_ord hu hlw).1 (pairs_all.1 hall))]
    repeat' first | (with_reducible first | refine AWP_seq' ?_ | refine k_normal ?_ | refine b_normal ?_ | refine AWP_ret ?_) | ((with_reducible refine AWP_reg fun KC J hJ hKC => ?_); simp (maxSteps := 10000000) only [push_cast, seval, ↓reduceIte]) | ((with_reducible refine hJ _ _ ?_); clear hJ hKC KC J)
    refine ret_plain ?_
    simp (maxSteps := 10000000) only [push_cast, seval, ↓reduceIte, show Try.f121.results = #[(.cell 2 4)] from rfl]
    exact Lq
  · rw [decide_eq_false (fun h => by have := (pairs_all (p := fun a b => okAB us a b = true)).2 ((okAB_ord hu hlw).2 h) k hk; rw [hkf] at this; cases this)]
    refine ret_plain ?_
    simp (maxSteps := 10000000) only [push_cast, seval, ↓reduceIte, show Try.f121.results = #[(.cell 2 4)] from rfl]
    exact Lq
theorem down_fn (f g : Bool) (ns : List ByteArray) (us : List Nat) (a : Nat) (hu : U32 us) (hl : us.length ≤ 8) :
    Fn Try.prog 215 [.agg [.sl f 1 (strRow ns), .sl g 1 (u32Row us)], .v (.int .i64 (a : Int))] [] (.v (.int .u32 (uv (downN us a us.length)))) [] := by
  refine Fn.of (fn := Try.f215) (by kernel_rfl) rfl (by kernel_rfl) ⟨[.agg [.sl f 1 (strRow ns), .sl g 1 (u32Row us)], .v (.int .i64 (a : Int)), .v undef, .v undef, .v undef, .v undef, .v undef, .v undef, .v undef, .v undef, .v undef, .v undef, .v undef, .v undef, .v undef, .v undef, .v undef, .v undef, .v undef, .v undef, .v undef, .v undef, .v undef, .v undef, .v undef, .v undef, .v undef], []⟩ rfl ?_
  repeat' first | (with_reducible first | refine AWP_seq' ?_ | refine k_normal ?_ | refine AWP_block ?_) | ((with_reducible refine AWP_reg fun KC J hJ hKC => ?_); simp (maxSteps := 10000000) only [push_cast, seval, ↓reduceIte]) | ((with_reducible refine hJ _ _ ?_); clear hJ hKC KC J)
  refine AWP_loopF (γ := {i : Nat // i ≤ us.length}) (fun i => ⟨[.any, .v (.int .i64 (a : Int)), .ptr 0 0 0, .any, .any, .v (.int .u32 (uv (downN us a i.1))), .any, .any, .any, .v (.int .i64 us.length), .v (.int .i64 i.1), .any, .any, .any, .any, .any, .any, .any, .any, .any, .any, .any, .any, .any, .any, .any, .any], [.ent ⟨0, none, 25, [.sl f 1 (strRow ns), .sl g 1 (u32Row us)], .cells⟩]⟩) (fun i => us.length - i.1) ⟨0, by simp⟩ ⟨?_, Fq⟩ ?_
  · exact Lq
  · rintro ⟨i, hi⟩
    by_cases hlt : (i : Int) < (us.length : Int)
    · have hil : i < us.length := by omega
      have hx := getD_of 0 hil
      have h1 : us.getD i 0 >>> a < 2 ^ 32 := Nat.lt_of_le_of_lt (Nat.shiftRight_le _ _) (hu.get hil)
      have h2 : (us.getD i 0 >>> a) &&& 1 ≤ 1 := Nat.and_le_right
      have h3 : downN us a i < 2 ^ 32 := Nat.lt_of_lt_of_le (downN_lt us a i) (Nat.pow_le_pow_right (by decide) (by omega))
      have h4 : ((us.getD i 0 >>> a) &&& 1) <<< i < 2 ^ 32 := by
        have e := downN_lt us a (i + 1)
        have : ((us.getD i 0 >>> a) &&& 1) <<< i ≤ downN us a (i + 1) := Nat.right_le_or
        have : 2 ^ (i + 1) ≤ 2 ^ 32 := Nat.pow_le_pow_right (by decide) (by omega)
        omega
      repeat' first | (with_reducible first | refine AWP_seq' ?_ | refine k_normal ?_ | refine b_normal ?_ | refine AWP_skip ?_ | refine AWP_block ?_) | ((with_reducible refine AWP_reg fun KC J hJ hKC => ?_); simp (maxSteps := 10000000) only [push_cast, seval, ↓reduceIte, hlt, getE_u32 hx, uv_shr (hu.get hil) (b := a), uv_and1 h1, uv_shl h2 (by omega : i < 32), uv_or h3 h4, wrapN (i := i) (n := us.length) (by omega) (by omega)]) | ((with_reducible refine And.intro ?_ ?_); · exact Sq) | ((with_reducible refine hJ _ _ ?_); clear hJ hKC KC J) | ((with_reducible refine AWP_condT ?_ ?_); · rfl)
      refine ⟨⟨i + 1, by omega⟩, by simp only; omega, ?_, Fq⟩
      exact Lq
    · have e : i = us.length := by omega
      subst e
      repeat' first | (with_reducible first | refine AWP_seq' ?_ | refine k_normal ?_ | refine k_exit ?_ | refine b_exit ?_ | refine AWP_ret ?_ | refine AWP_exit ?_) | ((with_reducible refine AWP_reg fun KC J hJ hKC => ?_); simp (maxSteps := 10000000) only [push_cast, seval, ↓reduceIte, hlt]) | ((with_reducible refine hJ _ _ ?_); clear hJ hKC KC J) | ((with_reducible refine AWP_condF ?_ ?_); · rfl)
      refine ret_plain ?_
      simp (maxSteps := 10000000) only [push_cast, seval, ↓reduceIte, show Try.f215.results = #[(.tmp 4)] from rfl]
      exact leD_refl _
theorem indexFuncU32_fn (f : Bool) (xs : List Nat) (cf : Nat) (caps : List D) (p : Nat → Bool) (hb : xs.length ≤ 9223372036854775807) (hc : frz0All caps = true)
    (hp : ∀ x ∈ xs, Fn Try.prog cf (.v (.int .u32 (uv x)) :: caps) [] (.v (.bool (p x))) []) : Fn Try.prog 164 [.sl f 1 (u32Row xs), .fn cf caps] [] (.v (.int .i64 (idxF p xs))) [] := by
  refine Fn.of (fn := Try.f164) (by kernel_rfl) rfl (by kernel_rfl) ⟨[.sl f 1 (u32Row xs), .fn cf caps, .v undef, .v undef, .v undef, .v undef, .v undef, .v undef, .v undef, .v undef, .v undef, .v undef, .v undef, .v undef, .v undef, .v undef, .v undef, .v undef, .v undef], []⟩ rfl ?_
  repeat' first | (with_reducible first | refine AWP_seq' ?_ | refine k_normal ?_ | refine AWP_block ?_) | ((with_reducible refine AWP_reg fun KC J hJ hKC => ?_); simp (maxSteps := 10000000) only [push_cast, seval, ↓reduceIte]) | ((with_reducible refine hJ _ _ ?_); clear hJ hKC KC J)
  refine AWP_loopF (γ := {i : Nat // i ≤ xs.length ∧ ∀ (j : Nat) (hj : j < xs.length), j < i → p xs[j] = false}) (fun i => ⟨[.sl f 1 (u32Row xs), .fn cf caps, .any, .any, .any, .any, .any, .v (.int .i64 xs.length), .v (.int .i64 i.1), .any, .any, .any, .any, .any, .any, .any, .any, .any, .any], []⟩) (fun i => xs.length - i.1) ⟨0, by simp⟩ ⟨?_, Fq⟩ ?_
  · exact Lq
  · rintro ⟨i, hi, hn⟩
    by_cases hlt : (i : Int) < (xs.length : Int)
    · have hx : xs[i]? = some xs[i] := List.getElem?_eq_getElem (by omega)
      have hfn := hp xs[i] (List.getElem_mem (by omega))
      repeat' first | (with_reducible first | refine AWP_seq' ?_ | refine k_normal ?_ | refine k_ret ?_ | refine b_normal ?_ | refine b_ret ?_ | refine AWP_ret ?_ | refine AWP_skip ?_ | refine AWP_block ?_) | ((with_reducible refine AWP_reg fun KC J hJ hKC => ?_); simp (maxSteps := 10000000) only [push_cast, seval, ↓reduceIte, hlt, getE_u32 hx, wrapN (i := i) (n := xs.length) (by omega) hb]) | ((with_reducible refine And.intro ?_ ?_); · exact Sq) | (refine hKC _ _ _ _ _ (callV0 (hfn) rfl rfl rfl ?_ ?_); (· exact Lq); simp (maxSteps := 10000000) only [push_cast, seval, ↓reduceIte, hlt, getE_u32 hx, wrapN (i := i) (n := xs.length) (by omega) hb]) | ((with_reducible refine hJ _ _ ?_); clear hJ hKC KC J) | ((with_reducible refine AWP_condT ?_ ?_); · rfl) | (refine AWP_cond rfl (fun h => ?_) (fun h => ?_) <;> try simp only [decide_eq_true_eq, decide_eq_false_iff_not, Bool.not_eq_true', Bool.not_eq_false', beq_iff_eq, bne_iff_ne, ne_eq, Bool.not_eq_true, Bool.or_eq_true, Bool.and_eq_true, Bool.or_eq_false_iff, Bool.and_eq_false_imp, beq_eq_false_iff_ne, bne_eq_false_iff_eq] at h)
      · refine ret_plain ?_
        simp (maxSteps := 10000000) only [push_cast, seval, ↓reduceIte, show Try.f164.results = #[(.tmp 4)] from rfl]
        exact leD_v (by rw [idxF_at (by omega) h hn])
      · refine ⟨⟨i + 1, by omega, fun j hj hji => ?_⟩, by simp only; omega, ?_, Fq⟩
        · by_cases he : j = i
          · subst he; exact h
          · exact hn j hj (by omega)
        · exact Lq
    · skip
      repeat' first | (with_reducible first | refine AWP_seq' ?_ | refine k_normal ?_ | refine k_exit ?_ | refine b_exit ?_ | refine AWP_ret ?_ | refine AWP_exit ?_) | ((with_reducible refine AWP_reg fun KC J hJ hKC => ?_); simp (maxSteps := 10000000) only [push_cast, seval, ↓reduceIte, hlt]) | ((with_reducible refine hJ _ _ ?_); clear hJ hKC KC J) | ((with_reducible refine AWP_condF ?_ ?_); · rfl)
      refine ret_plain ?_
      simp (maxSteps := 10000000) only [push_cast, seval, ↓reduceIte, show Try.f164.results = #[(.tmp 4)] from rfl]
      exact leD_v (by rw [idxF_none (fun j hj => hn j hj (by omega))])
theorem join1_fn (x c : Nat) : Fn Try.prog 214 [.v (.int .u32 (uv x)), .fad [.v (.int .u32 (uv c))]] [] (.v (.bool (decide (x = c)))) [] := by
  refine Fn.of (fn := Try.f214) (by kernel_rfl) rfl (by kernel_rfl) ⟨[.v (.int .u32 (uv x)), .fad [.v (.int .u32 (uv c))], .v undef, .v undef, .v undef, .v undef, .v undef], []⟩ rfl ?_
  repeat' first | (with_reducible first | refine AWP_seq' ?_ | refine k_normal ?_ | refine AWP_ret ?_) | ((with_reducible refine AWP_reg fun KC J hJ hKC => ?_); simp (maxSteps := 10000000) only [push_cast, seval, ↓reduceIte]) | ((with_reducible refine hJ _ _ ?_); clear hJ hKC KC J)
  refine ret_plain ?_
  simp (maxSteps := 10000000) only [push_cast, seval, ↓reduceIte, show Try.f214.results = #[(.tmp 3)] from rfl]
  exact leD_refl _
theorem join_fn (f g : Bool) (ns : List ByteArray) (us : List Nat) (a b : Nat) (hu : U32 us) (hl : us.length ≤ 8) (ha : a < us.length) (hb : b < us.length) :
    Fn Try.prog 123 [.agg [.sl f 1 (strRow ns), .sl g 1 (u32Row us)], .v (.int .i64 (a : Int)), .v (.int .i64 (b : Int))] [] (.v (.int .i64 (joinI us a b))) [] := by
  have hcf := indexFuncU32_fn g us 214 [.fad [.v (.int .u32 (uv (us.getD a 0 &&& us.getD b 0)))]] (fun x => decide (x = us.getD a 0 &&& us.getD b 0)) (by omega) rfl (fun x _ => join1_fn x _)
  have hgA := getE_u32 (getD_of 0 ha)
  have hgB := getE_u32 (getD_of 0 hb)
  have han := uv_and (hu.get ha) (hu.get hb)
  refine Fn.of (fn := Try.f123) (by kernel_rfl) rfl (by kernel_rfl) ⟨[.agg [.sl f 1 (strRow ns), .sl g 1 (u32Row us)], .v (.int .i64 (a : Int)), .v (.int .i64 (b : Int)), .v undef, .v undef, .v undef, .v undef, .v undef, .v undef, .v undef, .v undef, .v undef, .v undef, .v undef, .v undef, .v undef, .v undef, .v undef, .v undef, .v undef, .v undef, .v undef, .v undef], []⟩ rfl ?_
  repeat' first | (refine AWP_freezeR 2 1 rfl (by (simp (maxSteps := 10000000) only [push_cast, seval, ↓reduceIte]) <;> rfl) ?_; simp (maxSteps := 10000000) only [push_cast, seval, ↓reduceIte, frSt, frSlot, fr3, fr2, fr1, fr0, sameB, arrOf, hgA, hgB, han]) | (with_reducible first | refine AWP_seq' ?_ | refine k_normal ?_ | refine AWP_ret ?_) | ((with_reducible first | refine AWP_reg fun KC J hJ hKC => ?_ | refine AWP_regD rfl fun KC J hJ hKC => ?_); simp (maxSteps := 10000000) only [push_cast, seval, ↓reduceIte, hgA, hgB, han]) | ((with_reducible refine And.intro ?_ ?_); · exact Sq) | (refine hKC _ _ _ _ _ (callV0 (hcf) rfl rfl rfl ?_ ?_); (· exact Lq); simp (maxSteps := 10000000) only [push_cast, seval, ↓reduceIte, hgA, hgB, han]) | ((first | with_reducible refine hJ _ _ ?_ | (with_reducible refine hJ _ _ ?_ ?_; · kernel_rfl)); clear hJ hKC KC J)
  refine ret_plain ?_
  simp (maxSteps := 10000000) only [push_cast, seval, ↓reduceIte, show Try.f123.results = #[(.tmp 6)] from rfl]
  exact leD_refl _
theorem meet_fn (f g : Bool) (ns : List ByteArray) (us : List Nat) (a b : Nat) (hu : U32 us) (hl : us.length ≤ 8) (ha : a < us.length) (hb : b < us.length) :
    Fn Try.prog 124 [.agg [.sl f 1 (strRow ns), .sl g 1 (u32Row us)], .v (.int .i64 (a : Int)), .v (.int .i64 (b : Int))] [] (.v (.int .i64 (meetI us a b))) [] := by
  have hd : ∀ x, downN us x us.length < 2 ^ 32 := fun x => Nat.lt_of_lt_of_le (downN_lt us x _) (Nat.pow_le_pow_right (by decide) (by omega))
  have han := uv_and (hd a) (hd b)
  refine Fn.of (fn := Try.f124) (by kernel_rfl) rfl (by kernel_rfl) ⟨[.agg [.sl f 1 (strRow ns), .sl g 1 (u32Row us)], .v (.int .i64 (a : Int)), .v (.int .i64 (b : Int)), .v undef, .v undef, .v undef, .v undef, .v undef, .v undef, .v undef, .v undef, .v undef, .v undef, .v undef, .v undef, .v undef, .v undef, .v undef, .v undef, .v undef, .v undef, .v undef, .v undef, .v undef, .v undef, .v undef, .v undef, .v undef, .v undef], []⟩ rfl ?_
  repeat' first | (with_reducible first | refine AWP_seq' ?_ | refine k_normal ?_ | refine AWP_block ?_) | ((with_reducible first | refine AWP_reg fun KC J hJ hKC => ?_ | refine AWP_regD rfl fun KC J hJ hKC => ?_); simp (maxSteps := 10000000) only [push_cast, seval, ↓reduceIte, han]) | (refine' hKC _ _ _ _ _ (callV0 (down_fn _ _ _ _ _ ?_ ?_) rfl rfl rfl ?_ ?_); (rotate_left 7); (· exact Lq); (rotate_left 1); (iterate 2 (· exact Hq)); simp (maxSteps := 10000000) only [push_cast, seval, ↓reduceIte, han]) | ((first | with_reducible refine hJ _ _ ?_ | (with_reducible refine hJ _ _ ?_ ?_; · kernel_rfl)); clear hJ hKC KC J)
  refine AWP_loopF (γ := {i : Nat // i ≤ us.length ∧ ∀ j, j < i → ¬ downN us j us.length = (downN us a us.length &&& downN us b us.length)}) (fun i => ⟨[.any, .any, .any, .ptr 0 0 0, .any, .any, .any, .v (.int .u32 (uv (downN us a us.length &&& downN us b us.length))), .any, .any, .any, .any, .any, .any, .any, .any, .any, .any, .v (.int .i64 us.length), .v (.int .i64 i.1), .any, .any, .any, .any, .any, .any, .any, .any, .any], [.ent ⟨0, none, 25, [.sl f 1 (strRow ns), .sl g 1 (u32Row us)], .cells⟩]⟩) (fun i => us.length - i.1) ⟨0, by simp⟩ ⟨?_, Fq⟩ ?_
  · exact Lq
  · rintro ⟨i, hi, hn⟩
    by_cases hlt : (i : Int) < (us.length : Int)
    · by_cases hz : downN us i us.length = (downN us a us.length &&& downN us b us.length)
      · skip
        repeat' first | (with_reducible first | refine AWP_seq' ?_ | refine k_normal ?_ | refine k_ret ?_ | refine b_ret ?_ | refine AWP_ret ?_ | refine AWP_skip ?_ | refine AWP_block ?_) | ((with_reducible refine AWP_reg fun KC J hJ hKC => ?_); simp (maxSteps := 10000000) only [push_cast, seval, ↓reduceIte, hlt, hz]) | (refine' hKC _ _ _ _ _ (callV0 (down_fn _ _ _ _ _ ?_ ?_) rfl rfl rfl ?_ ?_); (rotate_left 7); (· exact Lq); (rotate_left 1); (iterate 2 (· exact Hq)); simp (maxSteps := 10000000) only [push_cast, seval, ↓reduceIte, hlt, hz]) | ((with_reducible refine hJ _ _ ?_); clear hJ hKC KC J) | ((with_reducible refine AWP_condT ?_ ?_); · rfl)
        refine ret_plain ?_
        simp (maxSteps := 10000000) only [push_cast, seval, ↓reduceIte, show Try.f124.results = #[(.tmp 6)] from rfl]
        refine leD_v (congrArg (Value.int .i64) ?_)
        exact (idxF_at (xs := List.range us.length) (i := i) (by simp; omega) (by simpa using hz) (fun j hj hji => by simpa using hn j hji)).symm
      · have hz' : decide (downN us i us.length = (downN us a us.length &&& downN us b us.length)) = false := decide_eq_false hz
        repeat' first | (with_reducible first | refine AWP_seq' ?_ | refine k_normal ?_ | refine b_normal ?_ | refine AWP_skip ?_ | refine AWP_block ?_) | ((with_reducible refine AWP_reg fun KC J hJ hKC => ?_); simp (maxSteps := 10000000) only [push_cast, seval, ↓reduceIte, hlt, hz', wrapN (i := i) (n := us.length) (by omega) (by omega)]) | (refine' hKC _ _ _ _ _ (callV0 (down_fn _ _ _ _ _ ?_ ?_) rfl rfl rfl ?_ ?_); (rotate_left 7); (· exact Lq); (rotate_left 1); (iterate 2 (· exact Hq)); simp (maxSteps := 10000000) only [push_cast, seval, ↓reduceIte, hlt, hz', wrapN (i := i) (n := us.length) (by omega) (by omega)]) | ((with_reducible refine hJ _ _ ?_); clear hJ hKC KC J) | ((with_reducible refine AWP_condT ?_ ?_); · rfl) | ((with_reducible refine AWP_condF ?_ ?_); · rfl)
        refine ⟨⟨i + 1, by omega, fun j hj => ?_⟩, by simp only; omega, ?_, Fq⟩
        · by_cases he : j = i
          · subst he; exact hz
          · exact hn j (by omega)
        · exact Lq
    · skip
      repeat' first | (with_reducible first | refine AWP_seq' ?_ | refine k_normal ?_ | refine k_exit ?_ | refine b_exit ?_ | refine AWP_ret ?_ | refine AWP_exit ?_) | ((with_reducible refine AWP_reg fun KC J hJ hKC => ?_); simp (maxSteps := 10000000) only [push_cast, seval, ↓reduceIte, hlt]) | ((with_reducible refine hJ _ _ ?_); clear hJ hKC KC J) | ((with_reducible refine AWP_condF ?_ ?_); · rfl)
      refine ret_plain ?_
      simp (maxSteps := 10000000) only [push_cast, seval, ↓reduceIte, show Try.f124.results = #[(.tmp 6)] from rfl]
      refine leD_v (congrArg (Value.int .i64) ?_)
      exact (idxF_none (xs := List.range us.length) (fun j hj => by simpa using hn j (by simp at hj; omega))).symm
end Go.Proofs.Ytabliglgeiajlaa.AM

/- Lattices: the reference's order, joins, meets; the checks. -/
namespace Go.Proofs.Ytabliglgeiajlaa.AM
open Go Go.RowKit Go.Proofs
set_option maxRecDepth 100000
set_option maxHeartbeats 1000000

def r3 (us : List Nat) (i j k : Nat) : Prop := fl us i j = true → fl us j k = true → fl us i k = true
def r2 (us : List Nat) (i j : Nat) : Prop := ¬ i = j → ¬ (fl us i j = true ∧ fl us j i = true)
def r0 (us : List Nat) (i : Nat) : Prop := fl us i i = true ∧ ∀ j, j < us.length → r2 us i j ∧ ∀ k, k < us.length → r3 us i j k
def isJn (us : List Nat) (a b c n : Nat) : Prop := (fl us a c = true ∧ fl us b c = true) ∧ ∀ d, d < n → fl us a d = true → fl us b d = true → fl us c d = true
instance (us : List Nat) (a b c n : Nat) : Decidable (isJn us a b c n) := by unfold isJn; infer_instance
def isMn (us : List Nat) (a b c n : Nat) : Prop := (fl us c a = true ∧ fl us c b = true) ∧ ∀ d, d < n → fl us d a = true → fl us d b = true → fl us d c = true
instance (us : List Nat) (a b c n : Nat) : Decidable (isMn us a b c n) := by unfold isMn; infer_instance
end Go.Proofs.Ytabliglgeiajlaa.AM

/- Lattices: the checks. -/
namespace Go.Proofs.Ytabliglgeiajlaa.AM
open Go Go.RowKit Go.Proofs
set_option maxRecDepth 100000
set_option maxHeartbeats 1000000

def jmB (us : List Nat) (a b : Nat) : Bool := decide (0 ≤ joinI us a b ∧ 0 ≤ meetI us a b)
theorem latCheck_fn (f g : Bool) (ns : List ByteArray) (us : List Nat) (hs : Szs ns) (hu : U32 us) :
    Fn Try.prog 48 [.agg [.sl f 1 (strRow ns), .sl g 1 (u32Row us)]] [] (.v (.int .i64 (checkF ns us))) [] := by
  refine Fn.of (fn := Try.f48) (by kernel_rfl) rfl (by kernel_rfl) ⟨[.agg [.sl f 1 (strRow ns), .sl g 1 (u32Row us)], .v undef, .v undef, .v undef, .v undef, .v undef, .v undef, .v undef, .v undef, .v undef, .v undef, .v undef, .v undef, .v undef, .v undef, .v undef, .v undef, .v undef, .v undef, .v undef, .v undef, .v undef, .v undef, .v undef, .v undef, .v undef, .v undef, .v undef, .v undef, .v undef, .v undef], []⟩ rfl ?_
  by_cases hm : mayB ns us = true
  · have hl8 : us.length ≤ 8 := (mayB_get hm).1.2.1
    have hlw := low_of_may hm
    by_cases ho : Ord us
    · have ho' : decide (Ord us) = true := decide_eq_true ho
      have hc : checkF ns us = if Lat us then 0 else 3 := by rw [checkF, if_pos hm, if_pos ho]
      rw [hc]
      repeat' first | (with_reducible first | refine AWP_seq' ?_ | refine k_normal ?_ | refine b_normal ?_ | refine AWP_skip ?_ | refine AWP_block ?_) | ((with_reducible refine AWP_reg fun KC J hJ hKC => ?_); simp (maxSteps := 10000000) only [push_cast, seval, ↓reduceIte, hm, ho']) | (refine' hKC _ _ _ _ _ (callV0 (latMay_fn _ _ _ _ ?_ ?_) rfl rfl rfl ?_ ?_); (rotate_left 6); (· exact Lq); (rotate_left 1); (iterate 2 (· exact Hq)); simp (maxSteps := 10000000) only [push_cast, seval, ↓reduceIte, hm, ho']) | (refine' hKC _ _ _ _ _ (callV0 (order_fn _ _ _ _ ?_ ?_ ?_) rfl rfl rfl ?_ ?_); (rotate_left 7); (· exact Lq); (rotate_left 1); (iterate 3 (· exact Hq)); simp (maxSteps := 10000000) only [push_cast, seval, ↓reduceIte, hm, ho']) | (refine' hKC _ _ _ _ _ (callV0 (pairs_fn _) rfl rfl rfl ?_ ?_); (rotate_left 1); (· exact Lq); simp (maxSteps := 10000000) only [push_cast, seval, ↓reduceIte, hm, ho']) | ((with_reducible refine hJ _ _ ?_); clear hJ hKC KC J) | ((with_reducible refine AWP_condF ?_ ?_); · rfl)
      refine AWP_to ⟨[.any, .ptr 0 0 0, .ptr 1 0 0, .any, .any, .any, .any, .any, .any, .any, .any, .any, .any, .any, .any, .any, .fn 213 [.fad [.v (.int .i64 (us.length : Int))]], .any, .any, .any, .any, .any, .any, .any, .any, .any, .any, .any, .any, .any, .any], [.ent ⟨0, none, 25, [.sl f 1 (strRow ns), .sl g 1 (u32Row us)], .cells⟩, .ent ⟨0, none, 27, [.v (.int .i64 0)], .cells⟩]⟩ (by exact Lq) Fq ?_
      refine AWP_range2 (f := 213) rfl rfl (pairs_it us.length (by omega)) (fun i hi => rfl) 2 rfl rfl
        (fun i => [.ent ⟨0, none, 25, [.sl f 1 (strRow ns), .sl g 1 (u32Row us)], .cells⟩, .ent ⟨0, none, 27, [.v (.int .i64 0)], .cells⟩])
        (fun i => [.ent ⟨0, none, 25, [.sl f 1 (strRow ns), .sl g 1 (u32Row us)], .cells⟩, .ent ⟨0, none, 27, [.v (.int .i64 3)], .cells⟩])
        rfl (fun i => ⟨rfl, rfl⟩) (fun i => ⟨rfl, rfl⟩) (fun i => ⟨rfl, rfl⟩) (fun k => jmB us (pA us.length k) (pB us.length k)) .ret .ret rfl
        (fun i => [.any, .ptr 0 0 0, .ptr 1 0 0, .v (.int .i64 (pA us.length i : Nat)), .v (.int .i64 (pB us.length i : Nat)), .any, .any, .any, .any, .any, .any, .any, .any, .any, .any, .any, .fn 213 [.fad [.v (.int .i64 (us.length : Int))]], .v (.int .i64 (pA us.length i : Nat)), .v (.int .i64 (pB us.length i : Nat)), .any, .any, .any, .any, .any, .any, .any, .any, .any, .any, .any, .any])
        (fun l' i r σ hi => ?_) (fun i => rfl) (fun l' i hi hb' => ?_) (fun hall => ?_) (fun k hk hkf hkb => ?_)
      · skip
        repeat' first | (with_reducible first | refine AWP_seq' ?_ | refine k_normal ?_) | ((with_reducible refine AWP_reg fun KC J hJ hKC => ?_); simp (maxSteps := 10000000) only [push_cast, seval, ↓reduceIte]) | ((with_reducible refine And.intro ?_ ?_); · exact Sq) | ((with_reducible refine hJ _ _ ?_); clear hJ hKC KC J)
        exact rfl
      · have hpa := pA_lt hi
        have hpb := pB_lt hi
        obtain ⟨a, ha⟩ : ∃ a, pA us.length i = a := ⟨_, rfl⟩
        obtain ⟨b, hb⟩ : ∃ b, pB us.length i = b := ⟨_, rfl⟩
        simp only [ha, hb] at hpa hpb ⊢
        by_cases h1 : joinI us a b < 0
        · skip
          repeat' first | (with_reducible first | refine AWP_seq' ?_ | refine k_normal ?_ | refine b_ret ?_ | refine AWP_ret ?_ | refine AWP_block ?_) | ((with_reducible refine AWP_reg fun KC J hJ hKC => ?_); simp (maxSteps := 10000000) only [push_cast, seval, ↓reduceIte, h1, undef]) | (refine' hKC _ _ _ _ _ (callV0 (join_fn _ _ _ _ _ _ ?_ ?_ ?_ ?_) rfl rfl rfl ?_ ?_); (rotate_left 10); (· exact Lq); (rotate_left 1); (iterate 4 (· exact Hq)); simp (maxSteps := 10000000) only [push_cast, seval, ↓reduceIte, h1, undef]) | ((with_reducible refine hJ _ _ ?_); clear hJ hKC KC J) | ((with_reducible refine AWP_condT ?_ ?_); · rfl)
          exact .inr ⟨decide_eq_false fun h => by omega, rfl, (by first | exact weakS_free (k := 0) rfl rfl rfl | exact weakS_free (k := 1) rfl rfl rfl | exact weakS_free (k := 2) rfl rfl rfl | exact weakS_free (k := 3) rfl rfl rfl | exact weakS_free (k := 4) rfl rfl rfl | exact weakS_free (k := 5) rfl rfl rfl | exact weakS_free (k := 6) rfl rfl rfl | exact weakS_free (k := 7) rfl rfl rfl | exact weakS_free (k := 8) rfl rfl rfl)⟩
        · by_cases h2 : meetI us a b < 0
          · skip
            repeat' first | (with_reducible first | refine AWP_seq' ?_ | refine k_normal ?_ | refine b_ret ?_ | refine AWP_ret ?_ | refine AWP_block ?_) | ((with_reducible refine AWP_reg fun KC J hJ hKC => ?_); simp (maxSteps := 10000000) only [push_cast, seval, ↓reduceIte, h1, h2]) | (refine' hKC _ _ _ _ _ (callV0 (join_fn _ _ _ _ _ _ ?_ ?_ ?_ ?_) rfl rfl rfl ?_ ?_); (rotate_left 10); (· exact Lq); (rotate_left 1); (iterate 4 (· exact Hq)); simp (maxSteps := 10000000) only [push_cast, seval, ↓reduceIte, h1, h2]) | (refine' hKC _ _ _ _ _ (callV0 (meet_fn _ _ _ _ _ _ ?_ ?_ ?_ ?_) rfl rfl rfl ?_ ?_); (rotate_left 10); (· exact Lq); (rotate_left 1); (iterate 4 (· exact Hq)); simp (maxSteps := 10000000) only [push_cast, seval, ↓reduceIte, h1, h2]) | ((with_reducible refine hJ _ _ ?_); clear hJ hKC KC J) | ((with_reducible refine AWP_condT ?_ ?_); · rfl)
            exact .inr ⟨decide_eq_false fun h => by omega, rfl, (by first | exact weakS_free (k := 0) rfl rfl rfl | exact weakS_free (k := 1) rfl rfl rfl | exact weakS_free (k := 2) rfl rfl rfl | exact weakS_free (k := 3) rfl rfl rfl | exact weakS_free (k := 4) rfl rfl rfl | exact weakS_free (k := 5) rfl rfl rfl | exact weakS_free (k := 6) rfl rfl rfl | exact weakS_free (k := 7) rfl rfl rfl | exact weakS_free (k := 8) rfl rfl rfl)⟩
          · skip
            repeat' first | (with_reducible first | refine AWP_seq' ?_ | refine k_normal ?_ | refine b_normal ?_ | refine AWP_skip ?_ | refine AWP_block ?_) | ((with_reducible refine AWP_reg fun KC J hJ hKC => ?_); simp (maxSteps := 10000000) only [push_cast, seval, ↓reduceIte, h1, h2]) | (refine' hKC _ _ _ _ _ (callV0 (join_fn _ _ _ _ _ _ ?_ ?_ ?_ ?_) rfl rfl rfl ?_ ?_); (rotate_left 10); (· exact Lq); (rotate_left 1); (iterate 4 (· exact Hq)); simp (maxSteps := 10000000) only [push_cast, seval, ↓reduceIte, h1, h2]) | (refine' hKC _ _ _ _ _ (callV0 (meet_fn _ _ _ _ _ _ ?_ ?_ ?_ ?_) rfl rfl rfl ?_ ?_); (rotate_left 10); (· exact Lq); (rotate_left 1); (iterate 4 (· exact Hq)); simp (maxSteps := 10000000) only [push_cast, seval, ↓reduceIte, h1, h2]) | ((with_reducible refine hJ _ _ ?_); clear hJ hKC KC J) | ((with_reducible refine AWP_condF ?_ ?_); · rfl)
            exact .inl ⟨decide_eq_true ⟨by omega, by omega⟩, rfl, (by first | exact weakS_free (k := 0) rfl rfl rfl | exact weakS_free (k := 1) rfl rfl rfl | exact weakS_free (k := 2) rfl rfl rfl | exact weakS_free (k := 3) rfl rfl rfl | exact weakS_free (k := 4) rfl rfl rfl | exact weakS_free (k := 5) rfl rfl rfl | exact weakS_free (k := 6) rfl rfl rfl | exact weakS_free (k := 7) rfl rfl rfl | exact weakS_free (k := 8) rfl rfl rfl)⟩
      · rw [if_pos (show Lat us from fun a ha b hb => of_decide_eq_true ((pairs_all (p := fun a b => jmB us a b = true)).1 hall a ha b hb))]
        repeat' first | (with_reducible first | refine AWP_seq' ?_ | refine k_normal ?_ | refine b_normal ?_ | refine AWP_ret ?_) | ((with_reducible refine AWP_reg fun KC J hJ hKC => ?_); simp (maxSteps := 10000000) only [push_cast, seval, ↓reduceIte]) | ((with_reducible refine hJ _ _ ?_); clear hJ hKC KC J)
        refine ret_plain ?_
        simp (maxSteps := 10000000) only [push_cast, seval, ↓reduceIte, show Try.f48.results = #[(.cell 2 27)] from rfl]
        exact Lq
      · rw [if_neg (fun h : Lat us => by have := (pairs_all (p := fun a b => jmB us a b = true)).2 (fun a ha b hb => decide_eq_true (h a ha b hb)) k hk; rw [hkf] at this; cases this)]
        refine ret_plain ?_
        simp (maxSteps := 10000000) only [push_cast, seval, ↓reduceIte, show Try.f48.results = #[(.cell 2 27)] from rfl]
        exact Lq
    · have ho' : decide (Ord us) = false := decide_eq_false ho
      rw [show checkF ns us = 2 by rw [checkF, if_pos hm, if_neg ho]]
      repeat' first | (with_reducible first | refine AWP_seq' ?_ | refine k_normal ?_ | refine k_ret ?_ | refine b_ret ?_ | refine AWP_ret ?_ | refine AWP_block ?_) | ((with_reducible refine AWP_reg fun KC J hJ hKC => ?_); simp (maxSteps := 10000000) only [push_cast, seval, ↓reduceIte, hm, ho']) | (refine' hKC _ _ _ _ _ (callV0 (latMay_fn _ _ _ _ ?_ ?_) rfl rfl rfl ?_ ?_); (rotate_left 6); (· exact Lq); (rotate_left 1); (iterate 2 (· exact Hq)); simp (maxSteps := 10000000) only [push_cast, seval, ↓reduceIte, hm, ho']) | (refine' hKC _ _ _ _ _ (callV0 (order_fn _ _ _ _ ?_ ?_ ?_) rfl rfl rfl ?_ ?_); (rotate_left 7); (· exact Lq); (rotate_left 1); (iterate 3 (· exact Hq)); simp (maxSteps := 10000000) only [push_cast, seval, ↓reduceIte, hm, ho']) | ((with_reducible refine hJ _ _ ?_); clear hJ hKC KC J) | ((with_reducible refine AWP_condT ?_ ?_); · rfl) | ((with_reducible refine AWP_condF ?_ ?_); · rfl)
      refine ret_plain ?_
      simp (maxSteps := 10000000) only [push_cast, seval, ↓reduceIte, show Try.f48.results = #[(.cell 2 27)] from rfl]
      exact leD_refl _
  · rw [show checkF ns us = 1 from if_neg hm]
    repeat' first | (with_reducible first | refine AWP_seq' ?_ | refine k_normal ?_ | refine k_ret ?_ | refine b_ret ?_ | refine AWP_ret ?_ | refine AWP_block ?_) | ((with_reducible refine AWP_reg fun KC J hJ hKC => ?_); simp (maxSteps := 10000000) only [push_cast, seval, ↓reduceIte, hm]) | (refine' hKC _ _ _ _ _ (callV0 (latMay_fn _ _ _ _ ?_ ?_) rfl rfl rfl ?_ ?_); (rotate_left 6); (· exact Lq); (rotate_left 1); (iterate 2 (· exact Hq)); simp (maxSteps := 10000000) only [push_cast, seval, ↓reduceIte, hm]) | ((with_reducible refine hJ _ _ ?_); clear hJ hKC KC J) | ((with_reducible refine AWP_condT ?_ ?_); · rfl)
    refine ret_plain ?_
    simp (maxSteps := 10000000) only [push_cast, seval, ↓reduceIte, show Try.f48.results = #[(.cell 2 27)] from rfl]
    exact leD_refl _
end Go.Proofs.Ytabliglgeiajlaa.AM

/- Rows of cells. -/
namespace Go.Proofs.Ytabliglgeiajlaa.AM
open Go Go.RowKit Go.Proofs
set_option maxRecDepth 100000
set_option maxHeartbeats 1000000

def cellS (l : List ByteArray) : List D := l.map fun s => .v (.string s)
def cellU (l : List Nat) : List D := l.map fun n => .v (.int .u32 (uv n))
@[push_cast] theorem frz_cellS (l : List ByteArray) : frzAll (cellS l) = true := by induction l with | nil => rfl | cons a l ih => simpa [cellS, frzAll, frz, frz0] using ih
@[push_cast] theorem frz_cellU (l : List Nat) : frzAll (cellU l) = true := by induction l with | nil => rfl | cons a l ih => simpa [cellU, frzAll, frz, frz0] using ih
@[push_cast] theorem fr_cellU (k g sz : Nat) (c : List D) (l : List Nat) : (cellU l).map (fr1 k g sz c) = cellU l := by simp [cellU, fr1, fr0]
@[push_cast] theorem fr_cellS (k g sz : Nat) (c : List D) (l : List ByteArray) : (cellS l).map (fr1 k g sz c) = cellS l := by simp [cellS, fr1, fr0]
theorem take_of {l : List D} {n : Nat} (h : l.length = n) : l.take (n * 1) = l := by rw [Nat.mul_one]; exact List.take_of_length_le (by omega)
theorem list_eq_of {α : Type} {xs ys : List α} (hl : xs.length = ys.length) (h : ∀ j, j < xs.length → xs[j]? = ys[j]?) : xs = ys :=
  List.ext_getElem? fun j => by
    by_cases hj : j < xs.length
    · exact h j hj
    · rw [List.getElem?_eq_none (by omega), List.getElem?_eq_none (by omega)]
end Go.Proofs.Ytabliglgeiajlaa.AM

/- Rows of two numbers. -/
namespace Go.Proofs.Ytabliglgeiajlaa.AM
open Go Go.RowKit Go.Proofs
set_option maxRecDepth 100000
set_option maxHeartbeats 1000000

/-! ### Rows of two numbers -/
def pRow (l : List (Int × Int)) : List (List D) := l.map fun e => [.v (.int .i64 e.1), .v (.int .i64 e.2)]
def pCells (l : List (Int × Int)) : List D := (pRow l).flatten
@[push_cast] theorem pRow_length (l : List (Int × Int)) : (pRow l).length = l.length := by simp [pRow]
@[push_cast] theorem sub_pRow (l : List (Int × Int)) (a b : Nat) : sub (pRow l) a b = pRow ((l.take b).drop a) := by simp [pRow, sub_map]
theorem getE_p {l : List (Int × Int)} {n : Nat} {x : Int × Int} (h : l[n]? = some x) : getE (pRow l) n = [.v (.int .i64 x.1), .v (.int .i64 x.2)] := by unfold pRow; exact getE_map _ _ _ _ h
theorem pCells_length (l : List (Int × Int)) : (pCells l).length = l.length * 2 := by
  induction l with
  | nil => rfl
  | cons a l ih => simp [pCells, pRow] at *; omega
theorem pCells_app (l m : List (Int × Int)) : pCells (l ++ m) = pCells l ++ pCells m := by simp [pCells, pRow]
@[push_cast] theorem frz_pCells (l : List (Int × Int)) : frzAll (pCells l) = true := by
  induction l with
  | nil => rfl
  | cons a l ih => simpa [pCells, pRow, frzAll, frz, frz0] using ih
@[push_cast] theorem fr_pCells (k g sz : Nat) (c : List D) (l : List (Int × Int)) : (pCells l).map (fr1 k g sz c) = pCells l := by
  induction l with
  | nil => rfl
  | cons a l ih => simpa [pCells, pRow, fr1, fr0] using ih
theorem chunk_p (l : List (Int × Int)) : chunk 2 l.length (pCells l) = pRow l := by
  induction l with
  | nil => rfl
  | cons a l ih => simpa [pCells, pRow, chunk] using ih
theorem pair_eq {x y : Int × Int} : (x.1 == y.1 && x.2 == y.2) = decide (x = y) := by
  rw [Bool.eq_iff_iff]
  simp [Prod.ext_iff]
theorem ren_pCells (m : Nat → Option Nat) (l : List (Int × Int)) : (pCells l).map (ren m) = pCells l := by
  induction l with
  | nil => rfl
  | cons a l ih => simpa [pCells, pRow, ren, ren2, ren1, ren0] using ih
theorem isNilL_pRow {l : List (Int × Int)} (h : 0 < l.length) : isNilL (pRow l) = false := by cases l with | nil => simp at h | cons _ _ => rfl
theorem pCells_take (l : List (Int × Int)) (n : Nat) : (pCells l).take (n * 2) = pCells (l.take n) := by
  induction l generalizing n with
  | nil => simp [pCells, pRow]
  | cons a l ih => cases n with
    | zero => simp [pCells, pRow]
    | succ n =>
      have : (n + 1) * 2 = n * 2 + 1 + 1 := by omega
      rw [this]
      have h2 := ih n
      simp [pCells, pRow] at *
      exact h2
theorem pCells_drop (l : List (Int × Int)) (n : Nat) : (pCells l).drop (n * 2) = pCells (l.drop n) := by
  induction l generalizing n with
  | nil => simp [pCells, pRow]
  | cons a l ih => cases n with
    | zero => simp [pCells, pRow]
    | succ n =>
      have : (n + 1) * 2 = n * 2 + 1 + 1 := by omega
      rw [this]
      have h2 := ih n
      simp [pCells, pRow] at *
      exact h2
end Go.Proofs.Ytabliglgeiajlaa.AM

/- Rows of instructions and of slots; states. -/
namespace Go.Proofs.Ytabliglgeiajlaa.AM
open Go Go.RowKit Go.Proofs
set_option maxRecDepth 100000
set_option maxHeartbeats 1000000

def tRow (l : List (Int × Int × Int)) : List (List D) := l.map fun e => [.v (.int .i64 e.1), .v (.int .i64 e.2.1), .v (.int .i64 e.2.2)]
def tCells (l : List (Int × Int × Int)) : List D := (tRow l).flatten
@[push_cast] theorem tRow_length (l : List (Int × Int × Int)) : (tRow l).length = l.length := by simp [tRow]
@[push_cast] theorem sub_tRow (l : List (Int × Int × Int)) (a b : Nat) : sub (tRow l) a b = tRow ((l.take b).drop a) := by simp [tRow, sub_map]
theorem getE_t {l : List (Int × Int × Int)} {n : Nat} {x : Int × Int × Int} (h : l[n]? = some x) : getE (tRow l) n = [.v (.int .i64 x.1), .v (.int .i64 x.2.1), .v (.int .i64 x.2.2)] := by unfold tRow; exact getE_map _ _ _ _ h
def sRow (l : List (Bool × Int × Int)) : List (List D) := l.map fun e => [.v (.bool e.1), .v (.int .i64 e.2.1), .v (.int .i64 e.2.2)]
def sCells (l : List (Bool × Int × Int)) : List D := (sRow l).flatten
@[push_cast] theorem sRow_length (l : List (Bool × Int × Int)) : (sRow l).length = l.length := by simp [sRow]
@[push_cast] theorem sub_sRow (l : List (Bool × Int × Int)) (a b : Nat) : sub (sRow l) a b = sRow ((l.take b).drop a) := by simp [sRow, sub_map]
theorem getE_s {l : List (Bool × Int × Int)} {n : Nat} {x : Bool × Int × Int} (h : l[n]? = some x) : getE (sRow l) n = [.v (.bool x.1), .v (.int .i64 x.2.1), .v (.int .i64 x.2.2)] := by unfold sRow; exact getE_map _ _ _ _ h
/-- A state: its place and label, program, memory, stack, and what was put out. -/
structure Sta where
  v : Int
  l : Int
  code : List (Int × Int × Int)
  mem : List (Int × Int)
  stack : List (Bool × Int × Int)
  out : List (Int × Int)
end Go.Proofs.Ytabliglgeiajlaa.AM

/- Labels that may be looked at. -/
namespace Go.Proofs.Ytabliglgeiajlaa.AM
open Go Go.RowKit Go.Proofs
set_option maxRecDepth 100000
set_option maxHeartbeats 1000000

theorem indexFuncI_fn (f : Bool) (xs : List Int) (cf : Nat) (caps : List D) (p : Int → Bool) (hb : xs.length ≤ 9223372036854775807) (hc : frz0All caps = true)
    (hp : ∀ x ∈ xs, Fn Try.prog cf (.v (.int .i64 x) :: caps) [] (.v (.bool (p x))) []) : Fn Try.prog 277 [.sl f 1 (intRow xs), .fn cf caps] [] (.v (.int .i64 (idxF p xs))) [] := by
  refine Fn.of (fn := Try.f277) (by kernel_rfl) rfl (by kernel_rfl) ⟨[.sl f 1 (intRow xs), .fn cf caps, .v undef, .v undef, .v undef, .v undef, .v undef, .v undef, .v undef, .v undef, .v undef, .v undef, .v undef, .v undef, .v undef, .v undef, .v undef, .v undef, .v undef], []⟩ rfl ?_
  repeat' first | (with_reducible first | refine AWP_seq' ?_ | refine k_normal ?_ | refine AWP_block ?_) | ((with_reducible refine AWP_reg fun KC J hJ hKC => ?_); simp (maxSteps := 10000000) only [push_cast, seval, ↓reduceIte]) | ((with_reducible refine hJ _ _ ?_); clear hJ hKC KC J)
  refine AWP_loopF (γ := {i : Nat // i ≤ xs.length ∧ ∀ (j : Nat) (hj : j < xs.length), j < i → p xs[j] = false}) (fun i => ⟨[.sl f 1 (intRow xs), .fn cf caps, .any, .any, .any, .any, .any, .v (.int .i64 xs.length), .v (.int .i64 i.1), .any, .any, .any, .any, .any, .any, .any, .any, .any, .any], []⟩) (fun i => xs.length - i.1) ⟨0, by simp⟩ ⟨?_, Fq⟩ ?_
  · exact Lq
  · rintro ⟨i, hi, hn⟩
    by_cases hlt : (i : Int) < (xs.length : Int)
    · have hx : xs[i]? = some xs[i] := List.getElem?_eq_getElem (by omega)
      have hfn := hp xs[i] (List.getElem_mem (by omega))
      repeat' first | (with_reducible first | refine AWP_seq' ?_ | refine k_normal ?_ | refine k_ret ?_ | refine b_normal ?_ | refine b_ret ?_ | refine AWP_ret ?_ | refine AWP_skip ?_ | refine AWP_block ?_) | ((with_reducible refine AWP_reg fun KC J hJ hKC => ?_); simp (maxSteps := 10000000) only [push_cast, seval, ↓reduceIte, hlt, getE_intRow hx, wrapN (i := i) (n := xs.length) (by omega) hb]) | ((with_reducible refine And.intro ?_ ?_); · exact Sq) | (refine hKC _ _ _ _ _ (callV0 (hfn) rfl rfl rfl ?_ ?_); (· exact Lq); simp (maxSteps := 10000000) only [push_cast, seval, ↓reduceIte, hlt, getE_intRow hx, wrapN (i := i) (n := xs.length) (by omega) hb]) | ((with_reducible refine hJ _ _ ?_); clear hJ hKC KC J) | ((with_reducible refine AWP_condT ?_ ?_); · rfl) | (refine AWP_cond rfl (fun h => ?_) (fun h => ?_) <;> try simp only [decide_eq_true_eq, decide_eq_false_iff_not, Bool.not_eq_true', Bool.not_eq_false', beq_iff_eq, bne_iff_ne, ne_eq, Bool.not_eq_true, Bool.or_eq_true, Bool.and_eq_true, Bool.or_eq_false_iff, Bool.and_eq_false_imp, beq_eq_false_iff_ne, bne_eq_false_iff_eq] at h)
      · refine ret_plain ?_
        simp (maxSteps := 10000000) only [push_cast, seval, ↓reduceIte, show Try.f277.results = #[(.tmp 4)] from rfl]
        exact leD_v (by rw [idxF_at (by omega) h hn])
      · refine ⟨⟨i + 1, by omega, fun j hj hji => ?_⟩, by simp only; omega, ?_, Fq⟩
        · by_cases he : j = i
          · subst he; exact h
          · exact hn j hj (by omega)
        · exact Lq
    · skip
      repeat' first | (with_reducible first | refine AWP_seq' ?_ | refine k_normal ?_ | refine k_exit ?_ | refine b_exit ?_ | refine AWP_ret ?_ | refine AWP_exit ?_) | ((with_reducible refine AWP_reg fun KC J hJ hKC => ?_); simp (maxSteps := 10000000) only [push_cast, seval, ↓reduceIte, hlt]) | ((with_reducible refine hJ _ _ ?_); clear hJ hKC KC J) | ((with_reducible refine AWP_condF ?_ ?_); · rfl)
      refine ret_plain ?_
      simp (maxSteps := 10000000) only [push_cast, seval, ↓reduceIte, show Try.f277.results = #[(.tmp 4)] from rfl]
      exact leD_v (by rw [idxF_none (fun j hj => hn j hj (by omega))])
theorem containsFuncI_fn (f : Bool) (xs : List Int) (cf : Nat) (caps : List D) (p : Int → Bool) (hb : xs.length ≤ 9223372036854775807) (hc : frz0All caps = true)
    (hp : ∀ x ∈ xs, Fn Try.prog cf (.v (.int .i64 x) :: caps) [] (.v (.bool (p x))) []) : Fn Try.prog 204 [.sl f 1 (intRow xs), .fn cf caps] [] (.v (.bool (xs.any p))) [] := by
  have hfn := indexFuncI_fn f xs cf caps p hb hc hp
  refine Fn.of (fn := Try.f204) (by kernel_rfl) rfl (by kernel_rfl) ⟨[.sl f 1 (intRow xs), .fn cf caps, .v undef, .v undef, .v undef, .v undef, .v undef, .v undef, .v undef], []⟩ rfl ?_
  repeat' first | (with_reducible first | refine AWP_seq' ?_ | refine k_normal ?_ | refine AWP_ret ?_) | ((with_reducible refine AWP_reg fun KC J hJ hKC => ?_); simp (maxSteps := 10000000) only [push_cast, seval, ↓reduceIte, idxF_any]) | (refine hKC _ _ _ _ _ (callV0 (hfn) rfl rfl rfl ?_ ?_); (· exact Lq); simp (maxSteps := 10000000) only [push_cast, seval, ↓reduceIte, idxF_any]) | ((with_reducible refine hJ _ _ ?_); clear hJ hKC KC J)
  refine ret_plain ?_
  simp (maxSteps := 10000000) only [push_cast, seval, ↓reduceIte, show Try.f204.results = #[(.tmp 4)] from rfl]
  exact leD_refl _
def oddL (n : Nat) (a : Int) : Bool := decide (a < 0) || decide ((n : Int) ≤ a)
theorem oddL_no {n : Nat} {a : Int} (h : oddL n a = false) : ∃ b : Nat, a = (b : Int) ∧ b < n := by
  simp only [oddL, Bool.or_eq_false_iff, decide_eq_false_iff_not] at h
  exact ⟨a.toNat, by omega, by omega⟩
theorem there1_fn (f g : Bool) (ns : List ByteArray) (us : List Nat) (a : Int) : Fn Try.prog 245 [.v (.int .i64 a), .fad [.sl f 1 (strRow ns), .sl g 1 (u32Row us)]] [] (.v (.bool (oddL us.length a))) [] := by
  refine Fn.of (fn := Try.f245) (by kernel_rfl) rfl (by kernel_rfl) ⟨[.v (.int .i64 a), .fad [.sl f 1 (strRow ns), .sl g 1 (u32Row us)], .v undef, .v undef, .v undef, .v undef, .v undef, .v undef, .v undef, .v undef, .v undef, .v undef, .v undef], []⟩ rfl ?_
  obtain ⟨x, hx⟩ : ∃ x, decide (a < 0) = x := ⟨_, rfl⟩
  rw [oddL, hx]
  cases x
  all_goals
    repeat' first | (with_reducible first | refine AWP_seq' ?_ | refine k_normal ?_ | refine AWP_ret ?_) | ((with_reducible refine AWP_reg fun KC J hJ hKC => ?_); simp (maxSteps := 10000000) only [push_cast, seval, ↓reduceIte, hx, undef]) | ((with_reducible refine hJ _ _ ?_); clear hJ hKC KC J)
    refine ret_plain ?_
    simp (maxSteps := 10000000) only [push_cast, seval, ↓reduceIte, show Try.f245.results = #[(.tmp 3)] from rfl]
    exact leD_refl _
def mayF (ns : List ByteArray) (us : List Nat) (L : List Int) : Int := if checkF ns us = 0 then if L.any (oddL us.length) = true then 9 else 0 else checkF ns us
theorem there_fn (f g h : Bool) (ns : List ByteArray) (us : List Nat) (L : List Int) (hs : Szs ns) (hu : U32 us) (hl : L.length ≤ 1000) :
    Fn Try.prog 163 [.agg [.sl f 1 (strRow ns), .sl g 1 (u32Row us)], .sl h 1 (intRow L)] [] (.v (.int .i64 (mayF ns us L))) [] := by
  have hcf := containsFuncI_fn h L 245 [.fad [.sl f 1 (strRow ns), .sl g 1 (u32Row us)]] (oddL us.length) (by omega) rfl (fun x _ => there1_fn f g ns us x)
  refine Fn.of (fn := Try.f163) (by kernel_rfl) rfl (by kernel_rfl) ⟨[.agg [.sl f 1 (strRow ns), .sl g 1 (u32Row us)], .sl h 1 (intRow L), .v undef, .v undef, .v undef, .v undef, .v undef, .v undef, .v undef, .v undef, .v undef, .v undef, .v undef, .v undef], []⟩ rfl ?_
  by_cases hc : checkF ns us = 0
  · obtain ⟨x, hx⟩ : ∃ x, L.any (oddL us.length) = x := ⟨_, rfl⟩
    rw [mayF, if_pos hc, hx]
    cases x
    all_goals
      repeat' first | (refine AWP_freezeR 4 0 rfl (by (simp (maxSteps := 10000000) only [push_cast, seval, ↓reduceIte]) <;> rfl) ?_; simp (maxSteps := 10000000) only [push_cast, seval, ↓reduceIte, frSt, frSlot, fr3, fr2, fr1, fr0, sameB, arrOf, hc, hx]) | (with_reducible first | refine AWP_seq' ?_ | refine k_normal ?_ | refine k_ret ?_ | refine AWP_ret ?_ | refine AWP_skip ?_) | ((with_reducible refine AWP_reg fun KC J hJ hKC => ?_); simp (maxSteps := 10000000) only [push_cast, seval, ↓reduceIte, hc, hx]) | (refine' hKC _ _ _ _ _ (callV0 (latCheck_fn _ _ _ _ ?_ ?_) rfl rfl rfl ?_ ?_); (rotate_left 6); (· exact Lq); (rotate_left 1); (iterate 2 (· exact Hq)); simp (maxSteps := 10000000) only [push_cast, seval, ↓reduceIte, hc, hx]) | (refine hKC _ _ _ _ _ (callV0 (hcf) rfl rfl rfl ?_ ?_); (· exact Lq); simp (maxSteps := 10000000) only [push_cast, seval, ↓reduceIte, hc, hx]) | ((with_reducible refine hJ _ _ ?_); clear hJ hKC KC J) | ((with_reducible refine AWP_condT ?_ ?_); · rfl) | ((with_reducible refine AWP_condF ?_ ?_); · rfl)
      refine ret_plain ?_
      simp (maxSteps := 10000000) only [push_cast, seval, ↓reduceIte, show Try.f163.results = #[(.tmp 4)] from rfl]
      exact Lq
  · have hc' : (checkF ns us != 0) = true := by simpa using hc
    rw [mayF, if_neg hc]
    repeat' first | (with_reducible first | refine AWP_seq' ?_ | refine k_normal ?_ | refine k_ret ?_ | refine AWP_ret ?_) | ((with_reducible refine AWP_reg fun KC J hJ hKC => ?_); simp (maxSteps := 10000000) only [push_cast, seval, ↓reduceIte, hc']) | (refine' hKC _ _ _ _ _ (callV0 (latCheck_fn _ _ _ _ ?_ ?_) rfl rfl rfl ?_ ?_); (rotate_left 6); (· exact Lq); (rotate_left 1); (iterate 2 (· exact Hq)); simp (maxSteps := 10000000) only [push_cast, seval, ↓reduceIte, hc']) | ((with_reducible refine hJ _ _ ?_); clear hJ hKC KC J) | ((with_reducible refine AWP_condT ?_ ?_); · rfl)
    refine ret_plain ?_
    simp (maxSteps := 10000000) only [push_cast, seval, ↓reduceIte, show Try.f163.results = #[(.tmp 4)] from rfl]
    exact Lq
/-- A row of numbers of one's own, that grows. -/
def cellI (l : List Int) : List D := l.map fun x => .v (.int .i64 x)
@[push_cast] theorem frz_cellI (l : List Int) : frzAll (cellI l) = true := by induction l with | nil => rfl | cons a l ih => simpa [cellI, frzAll, frz, frz0] using ih
@[push_cast] theorem fr_cellI (k g sz : Nat) (c : List D) (l : List Int) : (cellI l).map (fr1 k g sz c) = cellI l := by simp [cellI, fr1, fr0]
end Go.Proofs.Ytabliglgeiajlaa.AM

/- The next choice. -/
namespace Go.Proofs.Ytabliglgeiajlaa.AM
open Go Go.RowKit Go.Proofs
set_option maxRecDepth 100000
set_option maxHeartbeats 400000

structure Dr where
  l : List Int
  a : Int
  g : List Int
  deriving DecidableEq
def Dr.z : Dr := ⟨[], 0, []⟩
def Dr.ok (d : Dr) : Bool := rightB d.l d.g d.a
def encDr (f g : Bool) (d : Dr) : D := .agg [.sl f 1 (intRow d.l), .v (.int .i64 d.a), .sl g 1 (intRow d.g)]
def takeF (d : Dr) (b : Int) : Dr × Int × Int :=
  if rightB d.l d.g d.a = false ∨ b < 1 then (Dr.z, 0, 1)
  else if d.g.length = 2000 then (Dr.z, 0, 8)
  else (⟨d.l, (if d.a < d.l.length then d.a + 1 else d.a), d.g ++ [choiceI d.l d.a b]⟩, choiceI d.l d.a b, 0)
def encT13 (f g : Bool) (t : Dr × Int × Int) : D := .agg [.sl f 1 (intRow t.1.l), .v (.int .i64 t.1.a), .sl g 1 (intRow t.1.g), .v (.int .i64 t.2.1), .v (.slice none 0 0), .v (.int .i64 t.2.2)]
/-! ### Rows the same -/
end Go.Proofs.Ytabliglgeiajlaa.AM

/- Numbers with a sign. -/
namespace Go.Proofs.Ytabliglgeiajlaa.AM
open Go Go.RowKit Go.Proofs
set_option maxRecDepth 100000
set_option maxHeartbeats 400000
attribute [push_cast] encDr encT13

end Go.Proofs.Ytabliglgeiajlaa.AM

/- Weights. -/
namespace Go.Proofs.Ytabliglgeiajlaa.AM
open Go Go.RowKit Go.Proofs
set_option maxRecDepth 100000
set_option maxHeartbeats 400000

def weightsB (ws : List Int) : Bool := decide (1 ≤ ws.length ∧ ws.length ≤ 20 ∧ (∀ w ∈ ws, 0 ≤ w ∧ w ≤ 100) ∧ 0 < ws.sum)
/-! ### The weights' sums -/
end Go.Proofs.Ytabliglgeiajlaa.AM

/- Choices by weights. -/
namespace Go.Proofs.Ytabliglgeiajlaa.AM
open Go Go.RowKit Go.Proofs
set_option maxRecDepth 100000
set_option maxHeartbeats 400000

end Go.Proofs.Ytabliglgeiajlaa.AM

/- Programs of choices, plainly. -/
namespace Go.Proofs.Ytabliglgeiajlaa.AM
open Go Go.RowKit Go.Proofs

/-- A program of choices: it ends, is refused, or takes a choice below a bound. -/
inductive Cp (α : Type) where
  | ret (x : α)
  | bad (e : Int)
  | take (b : Int) (k : Int → Cp α)
namespace Cp
variable {α β γ : Type}
def bind : Cp α → (α → Cp β) → Cp β
  | .ret x, f => f x
  | .bad e, _ => .bad e
  | .take b k, f => .take b fun n => (k n).bind f
def run : Cp α → Dr → Except Int (Dr × α)
  | .ret x, d => .ok (d, x)
  | .bad e, _ => .error e
  | .take b k, d => if (takeF d b).2.2 = 0 then (k (takeF d b).2.1).run (takeF d b).1 else .error (takeF d b).2.2
theorem run_bind (c : Cp α) (f : α → Cp β) (d : Dr) : (c.bind f).run d = match c.run d with | .ok (d', x) => (f x).run d' | .error e => .error e := by
  induction c generalizing d with
  | ret x => rfl
  | bad e => rfl
  | take b k ih =>
    simp only [bind, run]
    by_cases h : (takeF d b).2.2 = 0
    · rw [if_pos h, if_pos h, ih]
    · rw [if_neg h, if_neg h]
/-- So many of one. -/
def times (c : Cp α) : Nat → Cp (List α)
  | 0 => .ret []
  | n + 1 => (times c n).bind fun l => c.bind fun x => .ret (l ++ [x])
/-- Rows: so many at most. -/
def rows (c : Cp α) (most : Int) : Cp (List α) := .take (most + 1) fun n => c.times n.toNat
end Cp
/-- Draws, a choice, and what is wrong. -/
abbrev M3 := Dr × Int × Int
/-- A function of draws does what a program of choices tells. -/
def Is {α : Type} (f : M3 → M3 × α) (c : Cp α) : Prop :=
  (∀ d n, match c.run d with | .ok (d', x) => ∃ n', f (d, n, 0) = ((d', n', 0), x) | .error e => e ≠ 0 ∧ (f (d, n, 0)).1.2.2 = e) ∧ ∀ d n e, e ≠ 0 → (f (d, n, e)).1.2.2 = e
section
variable {α β : Type}
theorem Is.bind {f : M3 → M3 × α} {c : Cp α} {g : α → M3 → M3 × β} {k : α → Cp β} (h : Is f c) (hg : ∀ x, Is (g x) (k x)) : Is (fun m => g (f m).2 (f m).1) (c.bind k) := by
  refine ⟨fun d n => ?_, fun d n e he => ?_⟩
  · have h1 := h.1 d n
    rw [Cp.run_bind]
    cases hr : c.run d with
    | error e =>
      rw [hr] at h1
      obtain ⟨he, h2⟩ := h1
      obtain ⟨⟨⟨d1, n1, e1⟩, x⟩, hf⟩ : ∃ r, f (d, n, 0) = r := ⟨_, rfl⟩
      rw [hf] at h2
      simp only at h2
      subst h2
      exact ⟨he, by simp only [hf]; exact (hg x).2 d1 n1 e1 he⟩
    | ok r =>
      obtain ⟨d', x⟩ := r
      rw [hr] at h1
      obtain ⟨n', hf⟩ := h1
      have h3 := (hg x).1 d' n'
      simp only [hf]
      exact h3
  · have h1 := h.2 d n e he
    obtain ⟨⟨⟨d1, n1, e1⟩, x⟩, hf⟩ : ∃ r, f (d, n, e) = r := ⟨_, rfl⟩
    rw [hf] at h1
    simp only at h1
    subst h1
    simp only [hf]
    exact (hg x).2 d1 n1 e1 he
theorem Is.ret (x : α) : Is (fun m => (m, x)) (.ret x) := ⟨fun d n => ⟨n, rfl⟩, fun _ _ _ _ => rfl⟩
theorem Is.ext {f g : M3 → M3 × α} {c : Cp α} (h : Is f c) (he : ∀ m, f m = g m) : Is g c := by
  rw [show g = f from (funext he).symm]; exact h
/-- So many of one. -/
def timesF (one : M3 → M3 × α) : Nat → M3 → M3 × List α
  | 0, m => (m, [])
  | n + 1, m => let r := timesF one n m; let x := one r.1; (x.1, r.2 ++ [x.2])
theorem Is.times {f : M3 → M3 × α} {c : Cp α} (h : Is f c) : ∀ n, Is (timesF f n) (c.times n)
  | 0 => .ret []
  | n + 1 => (Is.bind (Is.times h n) (g := fun l m => ((f m).1, l ++ [(f m).2])) (k := fun l => c.bind fun x => .ret (l ++ [x])) fun l => (Is.bind h (g := fun x m => (m, l ++ [x])) (k := fun x => .ret (l ++ [x])) fun x => .ret (l ++ [x]))).ext fun m => rfl
end
/-- One choice below a bound; a number; one by weights. -/
def oneC (b : Int) : Cp Int := .take b .ret
end Go.Proofs.Ytabliglgeiajlaa.AM

/- States that choices make, plainly. -/
namespace Go.Proofs.Ytabliglgeiajlaa.AM
open Go Go.RowKit Go.Proofs

/-- A space. -/
structure Sp where
  code : Int
  mem : Int
  stack : Int
  val : Int
  ws : List Int
section
variable {α β : Type}
end
/-- Rows: so many at most. -/
theorem Is.rows {α : Type} {b : M3 → M3 × Int} {f : M3 → M3 × α} {c : Cp α} {most : Int} (hb : Is b (oneC (most + 1))) (h : Is f c) : Is (fun m => timesF f (b m).2.toNat (b m).1) (c.rows most) :=
  Is.bind hb (g := fun n => timesF f n.toNat) (k := fun n => c.times n.toNat) fun n => h.times _

/-! ### What is made -/
def Sta.z : Sta := ⟨0, 0, [], [], [], []⟩
/-! ### The program's maker -/
/-! ### The reference's -/
end Go.Proofs.Ytabliglgeiajlaa.AM

/- The reference's choices by weights; the least choices. -/
namespace Go.Proofs.Ytabliglgeiajlaa.AM
open Go Go.RowKit Go.Proofs
set_option maxRecDepth 100000
set_option maxHeartbeats 400000

/-! ### The least choice that picks a place -/
end Go.Proofs.Ytabliglgeiajlaa.AM

/- Spaces, plainly: what is in one, and that what is made is. -/
namespace Go.Proofs.Ytabliglgeiajlaa.AM
open Go Go.RowKit Go.Proofs

def inB (a b n : Int) : Bool := decide (a ≤ n) && decide (n ≤ b)
def instrB (n : Nat) (x : Int × Int × Int) : Bool :=
  if x.1 = 1 then inB (-20) 20 x.2.1 && !oddL n x.2.2
  else inB 0 12 x.1 && (decide (x.2.2 = 0) && (if x.1 = 8 then inB 0 12 x.2.1 else if x.1 = 9 then inB 0 3 x.2.1 else if x.1 = 10 then inB 0 1 x.2.1 else decide (x.2.1 = 0)))
def atomB (n : Nat) (x : Int × Int) : Bool := inB (-20) 20 x.1 && !oddL n x.2
def slotB (n : Nat) (x : Bool × Int × Int) : Bool := !oddL n x.2.2 && (if x.1 = true then inB 0 12 x.2.1 else inB (-20) 20 x.2.1)
def codeB (n : Nat) (c : List (Int × Int × Int)) : Bool := c.all (instrB n) && decide (c.length ≤ 12)
def staB (n : Nat) (s : Sta) : Bool :=
  codeB n s.code && (inB 0 12 s.v && (!oddL n s.l && (s.mem.all (atomB n) && (decide (s.mem.length ≤ 6) && (s.stack.all (slotB n) && (decide (s.stack.length ≤ 12) && (s.out.all (atomB n) && decide (s.out.length ≤ 8))))))))
theorem inB_iff {a b n : Int} : inB a b n = true ↔ a ≤ n ∧ n ≤ b := by simp [inB]
theorem oddL_iff {n : Nat} {a : Int} : oddL n a = false ↔ 0 ≤ a ∧ a < n := by simp [oddL]
structure SpOk (sp : Sp) : Prop where
  c0 : 0 ≤ sp.code
  c1 : sp.code ≤ 12
  m0 : 0 ≤ sp.mem
  m1 : sp.mem ≤ 6
  s0 : 0 ≤ sp.stack
  s1 : sp.stack ≤ 12
  v0 : 0 ≤ sp.val
  v1 : sp.val ≤ 20
  wl : sp.ws.length = 13
  ww : weightsB sp.ws = true
/-! ### What each part makes -/
/-! ### How many choices -/
/-! ### What choices of one's own make -/
end Go.Proofs.Ytabliglgeiajlaa.AM

/- States, when two are the same. -/
namespace Go.Proofs.Ytabliglgeiajlaa.AM
open Go Go.RowKit Go.Proofs
set_option maxRecDepth 100000
set_option maxHeartbeats 1000000

/-- A state, as it is handed in. -/
def staF (fc fm fs fo : Bool) (s : Sta) : List D := [.v (.int .i64 s.v), .v (.int .i64 s.l), .sl fc 3 (tRow s.code), .sl fm 2 (pRow s.mem), .sl fs 3 (sRow s.stack), .sl fo 2 (pRow s.out)]
structure Sml (s : Sta) : Prop where
  code : s.code.length ≤ 1000
  mem : s.mem.length ≤ 1000
  stack : s.stack.length ≤ 1000
  out : s.out.length ≤ 1000
structure Sml15 (s : Sta) : Prop where
  code : s.code.length ≤ 15
  mem : s.mem.length ≤ 15
  stack : s.stack.length ≤ 15
  out : s.out.length ≤ 15
theorem Sml15.sml {s : Sta} (h : Sml15 s) : Sml s := ⟨by have := h.code; omega, by have := h.mem; omega, by have := h.stack; omega, by have := h.out; omega⟩
def cutSta (s : Sta) : Sta := ⟨s.v, s.l, s.code.take 15, s.mem.take 15, s.stack.take 15, s.out.take 15⟩
theorem cutSta_sml (s : Sta) : (cutSta s).code.length ≤ 15 ∧ (cutSta s).mem.length ≤ 15 ∧ (cutSta s).stack.length ≤ 15 ∧ (cutSta s).out.length ≤ 15 := by
  simp [cutSta]; omega
theorem cutSta_15 (s : Sta) : Sml15 (cutSta s) := let ⟨h1, h2, h3, h4⟩ := cutSta_sml s; ⟨h1, h2, h3, h4⟩
end Go.Proofs.Ytabliglgeiajlaa.AM

/- How high a label is. -/
namespace Go.Proofs.Ytabliglgeiajlaa.AM
open Go Go.RowKit Go.Proofs
set_option maxRecDepth 100000
set_option maxHeartbeats 4000000

/-- Strictly below. -/
def bel (us : List Nat) (b a : Nat) : Bool := !(b == a) && fl us b a
def hgtS (us : List Nat) (h : Nat → Nat) (a : Nat) : Nat → Nat
  | 0 => 0
  | b + 1 => if bel us b a = true then max (hgtS us h a b) (1 + h b) else hgtS us h a b
def hgtK (us : List Nat) : Nat → Nat → Nat
  | 0, _ => 0
  | k + 1, a => hgtS us (hgtK us k) a us.length
def rnk (us : List Nat) (a : Nat) : Nat := ((List.range us.length).filter fun b => bel us b a).length
theorem rnk_pos {us : List Nat} {a b : Nat} (hb : b < us.length) (h : bel us b a = true) : 0 < rnk us a := by
  unfold rnk
  exact List.length_pos_of_mem (List.mem_filter.2 ⟨List.mem_range.2 hb, h⟩)
theorem bel_trans {us : List Nat} (ho : Ord us) {a b c : Nat} (ha : a < us.length) (hb : b < us.length) (hc : c < us.length) (h1 : bel us c b = true) (h2 : bel us b a = true) : bel us c a = true := by
  simp only [bel, Bool.and_eq_true, Bool.not_eq_true', beq_eq_false_iff_ne] at h1 h2 ⊢
  refine ⟨fun h => ?_, ho.2.2 c hc b hb a ha h1.2 h2.2⟩
  subst h
  exact ho.2.1 c hc b hb (fun h => h1.1 h) ⟨h1.2, h2.2⟩
theorem bel_self (us : List Nat) (a : Nat) : bel us a a = false := by simp [bel]
theorem filter_lt {α : Type} {p q : α → Bool} {x : α} : ∀ {l : List α}, x ∈ l → (∀ y ∈ l, p y = true → q y = true) → p x = false → q x = true → (l.filter p).length < (l.filter q).length
  | [], h, _, _, _ => by simp at h
  | y :: l, h, hpq, hp, hq => by
    have hle : (l.filter p).length ≤ (l.filter q).length := by
      clear h
      induction l with
      | nil => simp
      | cons z l ih =>
        have h1 := ih (fun w hw => hpq w (by simp at hw ⊢; rcases hw with h | h <;> simp [h]))
        have h2 := hpq z (by simp)
        rw [List.filter_cons, List.filter_cons]
        cases hz : p z
        · rw [if_neg (by simp)]
          split
          · rw [List.length_cons]; omega
          · exact h1
        · rw [if_pos rfl, if_pos (h2 hz)]; simpa using h1
    rw [List.filter_cons, List.filter_cons]
    by_cases he : y = x
    · subst he; rw [if_neg (by rw [hp]; simp), if_pos hq]; simp; omega
    · have hx : x ∈ l := by
        rcases List.mem_cons.1 h with h | h
        · exact absurd h.symm he
        · exact h
      have ih := filter_lt hx (fun z hz => hpq z (List.mem_cons_of_mem _ hz)) hp hq
      have h2 := hpq y (by simp)
      cases hy : p y
      · rw [if_neg (by simp)]
        split
        · rw [List.length_cons]; omega
        · exact ih
      · rw [if_pos rfl, if_pos (h2 hy)]; simpa using ih
theorem rnk_lt {us : List Nat} (ho : Ord us) {a b : Nat} (ha : a < us.length) (hb : b < us.length) (h : bel us b a = true) : rnk us b < rnk us a := by
  unfold rnk
  refine filter_lt (x := b) (List.mem_range.2 hb) (fun c hc h1 => bel_trans ho ha hb (List.mem_range.1 hc) h1 h) (bel_self us b) h
theorem rnk_le (us : List Nat) (a : Nat) : rnk us a ≤ us.length := by
  unfold rnk
  have := List.length_filter_le (fun b => bel us b a) (List.range us.length)
  simpa using this
theorem hgtS_le {us : List Nat} {h : Nat → Nat} {k : Nat} (hh : ∀ b, h b ≤ k) (a : Nat) : ∀ n, hgtS us h a n ≤ k + 1
  | 0 => by simp [hgtS]
  | n + 1 => by
    have := hgtS_le (us := us) hh a n
    have := hh n
    unfold hgtS; split <;> omega
theorem hgtK_le (us : List Nat) : ∀ k a, hgtK us k a ≤ k
  | 0, _ => Nat.le_refl _
  | k + 1, a => hgtS_le (hgtK_le us k) a _
theorem hgtS_none {us : List Nat} {h : Nat → Nat} {a : Nat} : ∀ {n}, n ≤ us.length → (∀ b, b < us.length → bel us b a = false) → hgtS us h a n = 0
  | 0, _, _ => rfl
  | n + 1, hn, hb => by unfold hgtS; rw [if_neg (by rw [hb n (by omega)]; simp), hgtS_none (by omega) hb]
theorem height_fn (f g : Bool) (ns : List ByteArray) (us : List Nat) (hu : U32 us) (hl : us.length ≤ 8) (ho : Ord us) : ∀ k a, a < us.length → rnk us a ≤ k → k ≤ 8 →
    Fn Try.prog 294 [.agg [.sl f 1 (strRow ns), .sl g 1 (u32Row us)], .v (.int .i64 (a : Int))] [] (.v (.int .i64 ((hgtS us (hgtK us (k - 1)) a us.length : Nat) : Int))) [] := by
  intro k
  induction k with
  | zero =>
    intro a ha hr _
    have hn : ∀ b, b < us.length → bel us b a = false := fun b hb => by
      cases h : bel us b a
      · rfl
      · have := rnk_pos hb h; omega
    refine Fn.of (fn := Try.f294) (by kernel_rfl) rfl (by kernel_rfl) ⟨[.agg [.sl f 1 (strRow ns), .sl g 1 (u32Row us)], .v (.int .i64 (a : Int)), .v undef, .v undef, .v undef, .v undef, .v undef, .v undef, .v undef, .v undef, .v undef, .v undef, .v undef, .v undef, .v undef, .v undef, .v undef, .v undef, .v undef, .v undef, .v undef, .v undef, .v undef, .v undef, .v undef, .v undef, .v undef, .v undef, .v undef, .v undef], []⟩ rfl ?_
    repeat' first | (with_reducible first | refine AWP_seq' ?_ | refine k_normal ?_ | refine k_ret ?_ | refine k_exit ?_ | refine b_normal ?_ | refine b_ret ?_ | refine b_exit ?_ | refine b_pass rfl ?_ | refine AWP_ret ?_ | refine AWP_skip ?_ | refine AWP_exit ?_ | refine AWP_block ?_) | ((with_reducible first | refine AWP_reg fun KC J hJ hKC => ?_ | refine AWP_regD rfl fun KC J hJ hKC => ?_); simp (maxSteps := 10000000) only [push_cast, seval, ↓reduceIte]) | ((with_reducible refine And.intro ?_ ?_); · exact Sq) | ((first | with_reducible refine hJ _ _ ?_ | (with_reducible refine hJ _ _ ?_ ?_; · kernel_rfl)); clear hJ hKC KC J) | ((with_reducible refine AWP_condT ?_ ?_); · rfl) | ((with_reducible refine AWP_condF ?_ ?_); · rfl) | ((with_reducible refine ite_intro (fun hs => ?_) (fun hs => ?_)) <;> (try simp only [Bool.not_eq_true, Bool.not_eq_false, Bool.not_eq_true', Bool.not_eq_false', Decidable.not_not, decide_eq_true_eq, decide_eq_false_iff_not] at hs) <;> (try simp (maxSteps := 10000000) only [push_cast, seval, ↓reduceIte, hs])) | (refine AWP_cond rfl (fun h => ?_) (fun h => ?_) <;> try simp only [decide_eq_true_eq, decide_eq_false_iff_not, Bool.not_eq_true', Bool.not_eq_false', beq_iff_eq, bne_iff_ne, ne_eq, Bool.not_eq_true, Bool.or_eq_true, Bool.and_eq_true, Bool.or_eq_false_iff, Bool.and_eq_false_imp, beq_eq_false_iff_ne, bne_eq_false_iff_eq] at h)
    refine AWP_loopF (γ := {i : Nat // i ≤ us.length}) (fun i => ⟨[.any, .v (.int .i64 (a : Int)), .ptr 0 0 0, .any, .any, .v (.int .i64 0), .any, .any, .any, .v (.int .i64 us.length), .v (.int .i64 i.1), .any, .any, .any, .any, .any, .any, .any, .any, .any, .any, .any, .any, .any, .any, .any, .any, .any, .any, .any], [.ent ⟨0, none, 25, [.sl f 1 (strRow ns), .sl g 1 (u32Row us)], .cells⟩]⟩) (fun i => us.length - i.1) ⟨0, by simp⟩ ⟨?_, Fq⟩ ?_
    · exact Lq
    rintro ⟨i, hi⟩
    by_cases hlt : (i : Int) < (us.length : Int)
    · have h1 := flows_fn f g ns us i a hu (by omega)
      have hb := hn i (by omega)
      by_cases he : i = a
      · have he' : ((i : Int) != (a : Int)) = false := by simp [he]
        repeat' first | (with_reducible first | refine AWP_seq' ?_ | refine k_normal ?_ | refine k_ret ?_ | refine k_exit ?_ | refine b_normal ?_ | refine b_ret ?_ | refine b_exit ?_ | refine b_pass rfl ?_ | refine AWP_ret ?_ | refine AWP_skip ?_ | refine AWP_exit ?_ | refine AWP_block ?_) | ((with_reducible first | refine AWP_reg fun KC J hJ hKC => ?_ | refine AWP_regD rfl fun KC J hJ hKC => ?_); simp (maxSteps := 10000000) only [push_cast, seval, ↓reduceIte, hlt, he', wrapN (i := i) (n := us.length) (by omega) (by omega)]) | ((with_reducible refine And.intro ?_ ?_); · exact Sq) | ((first | with_reducible refine hJ _ _ ?_ | (with_reducible refine hJ _ _ ?_ ?_; · kernel_rfl)); clear hJ hKC KC J) | ((with_reducible refine AWP_condT ?_ ?_); · rfl) | ((with_reducible refine AWP_condF ?_ ?_); · rfl) | ((with_reducible refine ite_intro (fun hs => ?_) (fun hs => ?_)) <;> (try simp only [Bool.not_eq_true, Bool.not_eq_false, Bool.not_eq_true', Bool.not_eq_false', Decidable.not_not, decide_eq_true_eq, decide_eq_false_iff_not] at hs) <;> (try simp (maxSteps := 10000000) only [push_cast, seval, ↓reduceIte, hs, hlt, he', wrapN (i := i) (n := us.length) (by omega) (by omega)])) | (refine AWP_cond rfl (fun h => ?_) (fun h => ?_) <;> try simp only [decide_eq_true_eq, decide_eq_false_iff_not, Bool.not_eq_true', Bool.not_eq_false', beq_iff_eq, bne_iff_ne, ne_eq, Bool.not_eq_true, Bool.or_eq_true, Bool.and_eq_true, Bool.or_eq_false_iff, Bool.and_eq_false_imp, beq_eq_false_iff_ne, bne_eq_false_iff_eq] at h)
        refine ⟨⟨i + 1, by omega⟩, by simp only; omega, ?_, Fq⟩
        exact Lq
      · have he' : ((i : Int) != (a : Int)) = true := by simp; omega
        have hf : fl us i a = false := by simpa [bel, he] using hb
        rw [hf] at h1
        repeat' first | (with_reducible first | refine AWP_seq' ?_ | refine k_normal ?_ | refine k_ret ?_ | refine k_exit ?_ | refine b_normal ?_ | refine b_ret ?_ | refine b_exit ?_ | refine b_pass rfl ?_ | refine AWP_ret ?_ | refine AWP_skip ?_ | refine AWP_exit ?_ | refine AWP_block ?_) | ((with_reducible first | refine AWP_reg fun KC J hJ hKC => ?_ | refine AWP_regD rfl fun KC J hJ hKC => ?_); simp (maxSteps := 10000000) only [push_cast, seval, ↓reduceIte, hlt, he', wrapN (i := i) (n := us.length) (by omega) (by omega)]) | ((with_reducible refine And.intro ?_ ?_); · exact Sq) | (refine hKC _ _ _ _ _ (callV0 (h1) rfl rfl rfl ?_ ?_); (· exact Lq); simp (maxSteps := 10000000) only [push_cast, seval, ↓reduceIte, hlt, he', wrapN (i := i) (n := us.length) (by omega) (by omega)]) | ((first | with_reducible refine hJ _ _ ?_ | (with_reducible refine hJ _ _ ?_ ?_; · kernel_rfl)); clear hJ hKC KC J) | ((with_reducible refine AWP_condT ?_ ?_); · rfl) | ((with_reducible refine AWP_condF ?_ ?_); · rfl) | ((with_reducible refine ite_intro (fun hs => ?_) (fun hs => ?_)) <;> (try simp only [Bool.not_eq_true, Bool.not_eq_false, Bool.not_eq_true', Bool.not_eq_false', Decidable.not_not, decide_eq_true_eq, decide_eq_false_iff_not] at hs) <;> (try simp (maxSteps := 10000000) only [push_cast, seval, ↓reduceIte, hs, hlt, he', wrapN (i := i) (n := us.length) (by omega) (by omega)])) | (refine AWP_cond rfl (fun h => ?_) (fun h => ?_) <;> try simp only [decide_eq_true_eq, decide_eq_false_iff_not, Bool.not_eq_true', Bool.not_eq_false', beq_iff_eq, bne_iff_ne, ne_eq, Bool.not_eq_true, Bool.or_eq_true, Bool.and_eq_true, Bool.or_eq_false_iff, Bool.and_eq_false_imp, beq_eq_false_iff_ne, bne_eq_false_iff_eq] at h)
        refine ⟨⟨i + 1, by omega⟩, by simp only; omega, ?_, Fq⟩
        exact Lq
    · rw [hgtS_none (Nat.le_refl _) hn]
      repeat' first | (with_reducible first | refine AWP_seq' ?_ | refine k_normal ?_ | refine k_ret ?_ | refine k_exit ?_ | refine b_normal ?_ | refine b_ret ?_ | refine b_exit ?_ | refine b_pass rfl ?_ | refine AWP_ret ?_ | refine AWP_skip ?_ | refine AWP_exit ?_ | refine AWP_block ?_) | ((with_reducible first | refine AWP_reg fun KC J hJ hKC => ?_ | refine AWP_regD rfl fun KC J hJ hKC => ?_); simp (maxSteps := 10000000) only [push_cast, seval, ↓reduceIte, hlt]) | ((with_reducible refine And.intro ?_ ?_); · exact Sq) | ((first | with_reducible refine hJ _ _ ?_ | (with_reducible refine hJ _ _ ?_ ?_; · kernel_rfl)); clear hJ hKC KC J) | ((with_reducible refine AWP_condT ?_ ?_); · rfl) | ((with_reducible refine AWP_condF ?_ ?_); · rfl) | ((with_reducible refine ite_intro (fun hs => ?_) (fun hs => ?_)) <;> (try simp only [Bool.not_eq_true, Bool.not_eq_false, Bool.not_eq_true', Bool.not_eq_false', Decidable.not_not, decide_eq_true_eq, decide_eq_false_iff_not] at hs) <;> (try simp (maxSteps := 10000000) only [push_cast, seval, ↓reduceIte, hs, hlt])) | (refine AWP_cond rfl (fun h => ?_) (fun h => ?_) <;> try simp only [decide_eq_true_eq, decide_eq_false_iff_not, Bool.not_eq_true', Bool.not_eq_false', beq_iff_eq, bne_iff_ne, ne_eq, Bool.not_eq_true, Bool.or_eq_true, Bool.and_eq_true, Bool.or_eq_false_iff, Bool.and_eq_false_imp, beq_eq_false_iff_ne, bne_eq_false_iff_eq] at h)
      refine ret_plain ?_
      simp (maxSteps := 10000000) only [push_cast, seval, ↓reduceIte, show Try.f294.results = #[(.tmp 4)] from rfl]
      exact Lq
  | succ k ih =>
    intro a ha hr hk
    have hle := fun i => hgtS_le (hgtK_le us k) a (us := us) i
    refine Fn.of (fn := Try.f294) (by kernel_rfl) rfl (by kernel_rfl) ⟨[.agg [.sl f 1 (strRow ns), .sl g 1 (u32Row us)], .v (.int .i64 (a : Int)), .v undef, .v undef, .v undef, .v undef, .v undef, .v undef, .v undef, .v undef, .v undef, .v undef, .v undef, .v undef, .v undef, .v undef, .v undef, .v undef, .v undef, .v undef, .v undef, .v undef, .v undef, .v undef, .v undef, .v undef, .v undef, .v undef, .v undef, .v undef], []⟩ rfl ?_
    repeat' first | (with_reducible first | refine AWP_seq' ?_ | refine k_normal ?_ | refine k_ret ?_ | refine k_exit ?_ | refine b_normal ?_ | refine b_ret ?_ | refine b_exit ?_ | refine b_pass rfl ?_ | refine AWP_ret ?_ | refine AWP_skip ?_ | refine AWP_exit ?_ | refine AWP_block ?_) | ((with_reducible first | refine AWP_reg fun KC J hJ hKC => ?_ | refine AWP_regD rfl fun KC J hJ hKC => ?_); simp (maxSteps := 10000000) only [push_cast, seval, ↓reduceIte]) | ((with_reducible refine And.intro ?_ ?_); · exact Sq) | ((first | with_reducible refine hJ _ _ ?_ | (with_reducible refine hJ _ _ ?_ ?_; · kernel_rfl)); clear hJ hKC KC J) | ((with_reducible refine AWP_condT ?_ ?_); · rfl) | ((with_reducible refine AWP_condF ?_ ?_); · rfl) | ((with_reducible refine ite_intro (fun hs => ?_) (fun hs => ?_)) <;> (try simp only [Bool.not_eq_true, Bool.not_eq_false, Bool.not_eq_true', Bool.not_eq_false', Decidable.not_not, decide_eq_true_eq, decide_eq_false_iff_not] at hs) <;> (try simp (maxSteps := 10000000) only [push_cast, seval, ↓reduceIte, hs])) | (refine AWP_cond rfl (fun h => ?_) (fun h => ?_) <;> try simp only [decide_eq_true_eq, decide_eq_false_iff_not, Bool.not_eq_true', Bool.not_eq_false', beq_iff_eq, bne_iff_ne, ne_eq, Bool.not_eq_true, Bool.or_eq_true, Bool.and_eq_true, Bool.or_eq_false_iff, Bool.and_eq_false_imp, beq_eq_false_iff_ne, bne_eq_false_iff_eq] at h)
    refine AWP_loopF (γ := {i : Nat // i ≤ us.length}) (fun i => ⟨[.any, .v (.int .i64 (a : Int)), .ptr 0 0 0, .any, .any, .v (.int .i64 ((hgtS us (hgtK us k) a i.1 : Nat) : Int)), .any, .any, .any, .v (.int .i64 us.length), .v (.int .i64 i.1), .any, .any, .any, .any, .any, .any, .any, .any, .any, .any, .any, .any, .any, .any, .any, .any, .any, .any, .any], [.ent ⟨0, none, 25, [.sl f 1 (strRow ns), .sl g 1 (u32Row us)], .cells⟩]⟩) (fun i => us.length - i.1) ⟨0, by simp⟩ ⟨?_, Fq⟩ ?_
    · exact Lq
    rintro ⟨i, hi⟩
    have hli := hle i
    by_cases hlt : (i : Int) < (us.length : Int)
    · have h1 := flows_fn f g ns us i a hu (by omega)
      by_cases he : i = a
      · have he' : ((i : Int) != (a : Int)) = false := by simp [he]
        have hst : hgtS us (hgtK us k) a (i + 1) = hgtS us (hgtK us k) a i := if_neg (by simp [bel, he])
        repeat' first | (with_reducible first | refine AWP_seq' ?_ | refine k_normal ?_ | refine k_ret ?_ | refine k_exit ?_ | refine b_normal ?_ | refine b_ret ?_ | refine b_exit ?_ | refine b_pass rfl ?_ | refine AWP_ret ?_ | refine AWP_skip ?_ | refine AWP_exit ?_ | refine AWP_block ?_) | ((with_reducible first | refine AWP_reg fun KC J hJ hKC => ?_ | refine AWP_regD rfl fun KC J hJ hKC => ?_); simp (maxSteps := 10000000) only [push_cast, seval, ↓reduceIte, hlt, he', wrapN (i := i) (n := us.length) (by omega) (by omega)]) | ((with_reducible refine And.intro ?_ ?_); · exact Sq) | ((first | with_reducible refine hJ _ _ ?_ | (with_reducible refine hJ _ _ ?_ ?_; · kernel_rfl)); clear hJ hKC KC J) | ((with_reducible refine AWP_condT ?_ ?_); · rfl) | ((with_reducible refine AWP_condF ?_ ?_); · rfl) | ((with_reducible refine ite_intro (fun hs => ?_) (fun hs => ?_)) <;> (try simp only [Bool.not_eq_true, Bool.not_eq_false, Bool.not_eq_true', Bool.not_eq_false', Decidable.not_not, decide_eq_true_eq, decide_eq_false_iff_not] at hs) <;> (try simp (maxSteps := 10000000) only [push_cast, seval, ↓reduceIte, hs, hlt, he', wrapN (i := i) (n := us.length) (by omega) (by omega)])) | (refine AWP_cond rfl (fun h => ?_) (fun h => ?_) <;> try simp only [decide_eq_true_eq, decide_eq_false_iff_not, Bool.not_eq_true', Bool.not_eq_false', beq_iff_eq, bne_iff_ne, ne_eq, Bool.not_eq_true, Bool.or_eq_true, Bool.and_eq_true, Bool.or_eq_false_iff, Bool.and_eq_false_imp, beq_eq_false_iff_ne, bne_eq_false_iff_eq] at h)
        refine ⟨⟨i + 1, by omega⟩, by simp only; omega, ?_, Fq⟩
        simp only [hst]
        exact Lq
      · have he' : ((i : Int) != (a : Int)) = true := by simp; omega
        obtain ⟨q, hq⟩ : ∃ q, fl us i a = q := ⟨_, rfl⟩
        rw [hq] at h1
        cases q
        case false =>
          have hst : hgtS us (hgtK us k) a (i + 1) = hgtS us (hgtK us k) a i := if_neg (by simp [bel, hq])
          repeat' first | (with_reducible first | refine AWP_seq' ?_ | refine k_normal ?_ | refine k_ret ?_ | refine k_exit ?_ | refine b_normal ?_ | refine b_ret ?_ | refine b_exit ?_ | refine b_pass rfl ?_ | refine AWP_ret ?_ | refine AWP_skip ?_ | refine AWP_exit ?_ | refine AWP_block ?_) | ((with_reducible first | refine AWP_reg fun KC J hJ hKC => ?_ | refine AWP_regD rfl fun KC J hJ hKC => ?_); simp (maxSteps := 10000000) only [push_cast, seval, ↓reduceIte, hlt, he', wrapN (i := i) (n := us.length) (by omega) (by omega)]) | ((with_reducible refine And.intro ?_ ?_); · exact Sq) | (refine hKC _ _ _ _ _ (callV0 (h1) rfl rfl rfl ?_ ?_); (· exact Lq); simp (maxSteps := 10000000) only [push_cast, seval, ↓reduceIte, hlt, he', wrapN (i := i) (n := us.length) (by omega) (by omega)]) | ((first | with_reducible refine hJ _ _ ?_ | (with_reducible refine hJ _ _ ?_ ?_; · kernel_rfl)); clear hJ hKC KC J) | ((with_reducible refine AWP_condT ?_ ?_); · rfl) | ((with_reducible refine AWP_condF ?_ ?_); · rfl) | ((with_reducible refine ite_intro (fun hs => ?_) (fun hs => ?_)) <;> (try simp only [Bool.not_eq_true, Bool.not_eq_false, Bool.not_eq_true', Bool.not_eq_false', Decidable.not_not, decide_eq_true_eq, decide_eq_false_iff_not] at hs) <;> (try simp (maxSteps := 10000000) only [push_cast, seval, ↓reduceIte, hs, hlt, he', wrapN (i := i) (n := us.length) (by omega) (by omega)])) | (refine AWP_cond rfl (fun h => ?_) (fun h => ?_) <;> try simp only [decide_eq_true_eq, decide_eq_false_iff_not, Bool.not_eq_true', Bool.not_eq_false', beq_iff_eq, bne_iff_ne, ne_eq, Bool.not_eq_true, Bool.or_eq_true, Bool.and_eq_true, Bool.or_eq_false_iff, Bool.and_eq_false_imp, beq_eq_false_iff_ne, bne_eq_false_iff_eq] at h)
          refine ⟨⟨i + 1, by omega⟩, by simp only; omega, ?_, Fq⟩
          simp only [hst]
          exact Lq
        have hb : bel us i a = true := by simp [bel, hq, he]
        have hst : hgtS us (hgtK us k) a (i + 1) = max (hgtS us (hgtK us k) a i) (1 + hgtK us k i) := if_pos hb
        have hki := hgtK_le us k i
        have h2 : Fn Try.prog 294 [.agg [.sl f 1 (strRow ns), .sl g 1 (u32Row us)], .v (.int .i64 (i : Int))] [] (.v (.int .i64 ((hgtK us k i : Nat) : Int))) [] := by
          have h3 := ih i (by omega) (by have := rnk_lt ho ha (by omega) hb; omega) (by omega)
          cases k with
          | zero =>
            have hr0 := rnk_lt ho ha (by omega) hb
            rw [hgtS_none (Nat.le_refl _) (fun b hb' => by
              cases h : bel us b i
              · rfl
              · have := rnk_pos hb' h; omega)] at h3
            exact h3
          | succ k => exact h3
        have w1 : IntKind.i64.wrap (1 + ((hgtK us k i : Nat) : Int)) = 1 + ((hgtK us k i : Nat) : Int) := wrapI (by omega) (by omega)
        obtain ⟨X, hX⟩ : ∃ X, hgtS us (hgtK us k) a i = X := ⟨_, rfl⟩
        obtain ⟨Y, hY⟩ : ∃ Y, hgtK us k i = Y := ⟨_, rfl⟩
        rw [hX, hY] at hst
        rw [hY] at h2 w1
        simp only [hX]
        have hm : (if (X : Int) < 1 + (Y : Int) then 1 + (Y : Int) else (X : Int)) = ((max X (1 + Y) : Nat) : Int) := by split <;> omega
        repeat' first | (with_reducible first | refine AWP_seq' ?_ | refine k_normal ?_ | refine k_ret ?_ | refine k_exit ?_ | refine b_normal ?_ | refine b_ret ?_ | refine b_exit ?_ | refine b_pass rfl ?_ | refine AWP_ret ?_ | refine AWP_skip ?_ | refine AWP_exit ?_ | refine AWP_block ?_) | ((with_reducible first | refine AWP_reg fun KC J hJ hKC => ?_ | refine AWP_regD rfl fun KC J hJ hKC => ?_); simp (maxSteps := 10000000) only [push_cast, seval, ↓reduceIte, hlt, he', w1, hm, wrapN (i := i) (n := us.length) (by omega) (by omega)]) | ((with_reducible refine And.intro ?_ ?_); · exact Sq) | (refine hKC _ _ _ _ _ (callV0 (h1) rfl rfl rfl ?_ ?_); (· exact Lq); simp (maxSteps := 10000000) only [push_cast, seval, ↓reduceIte, hlt, he', w1, hm, wrapN (i := i) (n := us.length) (by omega) (by omega)]) | (refine hKC _ _ _ _ _ (callV0 (h2) rfl rfl rfl ?_ ?_); (· exact Lq); simp (maxSteps := 10000000) only [push_cast, seval, ↓reduceIte, hlt, he', w1, hm, wrapN (i := i) (n := us.length) (by omega) (by omega)]) | ((first | with_reducible refine hJ _ _ ?_ | (with_reducible refine hJ _ _ ?_ ?_; · kernel_rfl)); clear hJ hKC KC J) | ((with_reducible refine AWP_condT ?_ ?_); · rfl) | ((with_reducible refine AWP_condF ?_ ?_); · rfl) | ((with_reducible refine ite_intro (fun hs => ?_) (fun hs => ?_)) <;> (try simp only [Bool.not_eq_true, Bool.not_eq_false, Bool.not_eq_true', Bool.not_eq_false', Decidable.not_not, decide_eq_true_eq, decide_eq_false_iff_not] at hs) <;> (try simp (maxSteps := 10000000) only [push_cast, seval, ↓reduceIte, hs, hlt, he', w1, hm, wrapN (i := i) (n := us.length) (by omega) (by omega)])) | (refine AWP_cond rfl (fun h => ?_) (fun h => ?_) <;> try simp only [decide_eq_true_eq, decide_eq_false_iff_not, Bool.not_eq_true', Bool.not_eq_false', beq_iff_eq, bne_iff_ne, ne_eq, Bool.not_eq_true, Bool.or_eq_true, Bool.and_eq_true, Bool.or_eq_false_iff, Bool.and_eq_false_imp, beq_eq_false_iff_ne, bne_eq_false_iff_eq] at h)
        refine ⟨⟨i + 1, by omega⟩, by simp only; omega, ?_, Fq⟩
        simp only [hst]
        exact Lq
    · have hin : i = us.length := by omega
      subst hin
      repeat' first | (with_reducible first | refine AWP_seq' ?_ | refine k_normal ?_ | refine k_ret ?_ | refine k_exit ?_ | refine b_normal ?_ | refine b_ret ?_ | refine b_exit ?_ | refine b_pass rfl ?_ | refine AWP_ret ?_ | refine AWP_skip ?_ | refine AWP_exit ?_ | refine AWP_block ?_) | ((with_reducible first | refine AWP_reg fun KC J hJ hKC => ?_ | refine AWP_regD rfl fun KC J hJ hKC => ?_); simp (maxSteps := 10000000) only [push_cast, seval, ↓reduceIte, hlt]) | ((with_reducible refine And.intro ?_ ?_); · exact Sq) | ((first | with_reducible refine hJ _ _ ?_ | (with_reducible refine hJ _ _ ?_ ?_; · kernel_rfl)); clear hJ hKC KC J) | ((with_reducible refine AWP_condT ?_ ?_); · rfl) | ((with_reducible refine AWP_condF ?_ ?_); · rfl) | ((with_reducible refine ite_intro (fun hs => ?_) (fun hs => ?_)) <;> (try simp only [Bool.not_eq_true, Bool.not_eq_false, Bool.not_eq_true', Bool.not_eq_false', Decidable.not_not, decide_eq_true_eq, decide_eq_false_iff_not] at hs) <;> (try simp (maxSteps := 10000000) only [push_cast, seval, ↓reduceIte, hs, hlt])) | (refine AWP_cond rfl (fun h => ?_) (fun h => ?_) <;> try simp only [decide_eq_true_eq, decide_eq_false_iff_not, Bool.not_eq_true', Bool.not_eq_false', beq_iff_eq, bne_iff_ne, ne_eq, Bool.not_eq_true, Bool.or_eq_true, Bool.and_eq_true, Bool.or_eq_false_iff, Bool.and_eq_false_imp, beq_eq_false_iff_ne, bne_eq_false_iff_eq] at h)
      refine ret_plain ?_
      simp (maxSteps := 10000000) only [push_cast, seval, ↓reduceIte, show Try.f294.results = #[(.tmp 4)] from rfl]
      exact Lq
def hgt (us : List Nat) (a : Nat) : Nat := hgtK us 8 a
theorem hgt_le (us : List Nat) (a : Nat) : hgt us a ≤ 8 := hgtK_le us 8 a
theorem ord_check {ns : List ByteArray} {us : List Nat} (h : checkF ns us = 0) : Ord us ∧ us.length ≤ 8 := by
  unfold checkF at h
  split at h
  · rename_i hm
    split at h
    · rename_i ho; exact ⟨ho, (mayB_get hm).1.2.1⟩
    · cases h
  · cases h
theorem heightC_fn (f g : Bool) (ns : List ByteArray) (us : List Nat) (hu : U32 us) (hc : checkF ns us = 0) (a : Nat) (ha : a < us.length) :
    Fn Try.prog 294 [.agg [.sl f 1 (strRow ns), .sl g 1 (u32Row us)], .v (.int .i64 (a : Int))] [] (.v (.int .i64 ((hgt us a : Nat) : Int))) [] :=
  height_fn f g ns us hu (ord_check hc).2 (ord_check hc).1 8 a ha (Nat.le_trans (rnk_le us a) (ord_check hc).2) (Nat.le_refl _)
theorem latHeight_fn (f g : Bool) (ns : List ByteArray) (us : List Nat) (hs : Szs ns) (hu : U32 us) (hc : checkF ns us = 0) (a : Nat) (ha : a < us.length) :
    Fn Try.prog 273 [.agg [.sl f 1 (strRow ns), .sl g 1 (u32Row us)], .v (.int .i64 (a : Int))] [] (.tup [.v (.int .i64 ((hgt us a : Nat) : Int)), .v (.int .i64 0)]) [] := by
  have h1 := there_fn f g true ns us [(a : Int)] hs hu (by simp)
  have h2 := heightC_fn f g ns us hu hc a ha
  have hm : mayF ns us [(a : Int)] = 0 := by
    unfold mayF
    rw [if_pos hc, if_neg]
    simp [oddL]; omega
  rw [hm] at h1
  refine Fn.of (fn := Try.f273) (by kernel_rfl) rfl (by kernel_rfl) ⟨[.agg [.sl f 1 (strRow ns), .sl g 1 (u32Row us)], .v (.int .i64 (a : Int)), .v undef, .v undef, .v undef, .v undef, .v undef, .v undef, .v undef, .v undef, .v undef, .v undef, .v undef, .v undef, .v undef, .v undef, .v undef], []⟩ rfl ?_
  repeat' first | (with_reducible first | refine AWP_seq' ?_ | refine k_normal ?_ | refine k_ret ?_ | refine k_exit ?_ | refine b_normal ?_ | refine b_ret ?_ | refine b_exit ?_ | refine b_pass rfl ?_ | refine AWP_ret ?_ | refine AWP_skip ?_ | refine AWP_exit ?_ | refine AWP_block ?_) | ((with_reducible first | refine AWP_reg fun KC J hJ hKC => ?_ | refine AWP_regD rfl fun KC J hJ hKC => ?_); simp (maxSteps := 10000000) only [push_cast, seval, ↓reduceIte, bne_self_eq_false]) | ((with_reducible refine And.intro ?_ ?_); · exact Sq) | (refine hKC _ _ _ _ _ (callV0 (h1) rfl rfl rfl ?_ ?_); (· exact Lq); simp (maxSteps := 10000000) only [push_cast, seval, ↓reduceIte, bne_self_eq_false]) | (refine hKC _ _ _ _ _ (callV0 (h2) rfl rfl rfl ?_ ?_); (· exact Lq); simp (maxSteps := 10000000) only [push_cast, seval, ↓reduceIte, bne_self_eq_false]) | ((first | with_reducible refine hJ _ _ ?_ | (with_reducible refine hJ _ _ ?_ ?_; · kernel_rfl)); clear hJ hKC KC J) | ((with_reducible refine AWP_condT ?_ ?_); · rfl) | ((with_reducible refine AWP_condF ?_ ?_); · rfl) | ((with_reducible refine ite_intro (fun hs => ?_) (fun hs => ?_)) <;> (try simp only [Bool.not_eq_true, Bool.not_eq_false, Bool.not_eq_true', Bool.not_eq_false', Decidable.not_not, decide_eq_true_eq, decide_eq_false_iff_not] at hs) <;> (try simp (maxSteps := 10000000) only [push_cast, seval, ↓reduceIte, hs, bne_self_eq_false])) | (refine AWP_cond rfl (fun h => ?_) (fun h => ?_) <;> try simp only [decide_eq_true_eq, decide_eq_false_iff_not, Bool.not_eq_true', Bool.not_eq_false', beq_iff_eq, bne_iff_ne, ne_eq, Bool.not_eq_true, Bool.or_eq_true, Bool.and_eq_true, Bool.or_eq_false_iff, Bool.and_eq_false_imp, beq_eq_false_iff_ne, bne_eq_false_iff_eq] at h)
  refine ret_plain ?_
  simp (maxSteps := 10000000) only [push_cast, seval, ↓reduceIte, show Try.f273.results = #[(.tmp 4), (.tmp 5)] from rfl]
  exact Lq
/-! ### Sizes -/
def absI (v : Int) : Int := if v < 0 then -v else v
theorem absI_le {v : Int} (h0 : -20 ≤ v) (h1 : v ≤ 20) : 0 ≤ absI v ∧ absI v ≤ 20 := by unfold absI; split <;> omega
def addZ (us : List Nat) (z : Int × Int × Int) (v l : Int) : Int × Int × Int := (z.1, z.2.1 + absI v, z.2.2 + ((hgt us l.toNat : Nat) : Int))
def Bz (k : Nat) (z : Int × Int × Int) : Prop := 0 ≤ z.1 ∧ z.1 ≤ 100 * (k : Int) ∧ 0 ≤ z.2.1 ∧ z.2.1 ≤ 100 * (k : Int) ∧ 0 ≤ z.2.2 ∧ z.2.2 ≤ 100 * (k : Int)
theorem Bz.add {us : List Nat} {k : Nat} {z : Int × Int × Int} (h : Bz k z) {v l : Int} (h0 : -20 ≤ v) (h1 : v ≤ 20) : Bz (k + 1) (addZ us z v l) := by
  have := absI_le h0 h1
  have := hgt_le us l.toNat
  simp only [Bz, addZ] at h ⊢
  omega
def codeS (us : List Nat) (z : Int × Int × Int) (x : Int × Int × Int) : Int × Int × Int :=
  if x.1 = 1 then addZ us (z.1 + 1, z.2) x.2.1 x.2.2 else (if x.1 = 0 then z.1 else z.1 + 1, z.2.1 + absI x.2.1, z.2.2)
def codeZ (us : List Nat) (z : Int × Int × Int) (L : List (Int × Int × Int)) : Int × Int × Int := L.foldl (codeS us) z
def atomZ (us : List Nat) (z : Int × Int × Int) (L : List (Int × Int)) : Int × Int × Int := L.foldl (fun z a => addZ us z a.1 a.2) z
def slotZ (us : List Nat) (z : Int × Int × Int) (L : List (Bool × Int × Int)) : Int × Int × Int := L.foldl (fun z x => addZ us z x.2.1 x.2.2) z
theorem foldl_succ {α β : Type} (f : β → α → β) (z : β) {l : List α} {i : Nat} {x : α} (h : l[i]? = some x) : (l.take (i + 1)).foldl f z = f ((l.take i).foldl f z) x := by
  rw [List.take_add_one, h]; simp
theorem foldl_B {α : Type} {f : Int × Int × Int → α → Int × Int × Int} {l : List α} (hf : ∀ x ∈ l, ∀ k z, Bz k z → Bz (k + 1) (f z x)) : ∀ {k z}, Bz k z → Bz (k + l.length) (l.foldl f z) := by
  induction l with
  | nil => intro k z h; exact h
  | cons x l ih =>
    intro k z h
    have := ih (fun y hy => hf y (List.mem_cons_of_mem _ hy)) (hf x List.mem_cons_self k z h)
    rw [List.foldl_cons, List.length_cons, show k + (l.length + 1) = k + 1 + l.length by omega]
    exact this
theorem instr_num {n : Nat} {x : Int × Int × Int} (h : instrB n x = true) : -20 ≤ x.2.1 ∧ x.2.1 ≤ 20 ∧ (x.1 = 1 → oddL n x.2.2 = false) := by
  unfold instrB at h
  split at h
  · rename_i h1
    simp only [inB, Bool.and_eq_true, decide_eq_true_eq, Bool.not_eq_true'] at h
    exact ⟨h.1.1, h.1.2, fun _ => h.2⟩
  · rename_i h1
    refine ⟨?_, ?_, fun h2 => absurd h2 h1⟩
    all_goals
      simp only [inB, Bool.and_eq_true, decide_eq_true_eq] at h
      obtain ⟨_, _, h⟩ := h
      repeat' split at h
      all_goals simp only [Bool.and_eq_true, decide_eq_true_eq] at h; omega
theorem atom_num {n : Nat} {x : Int × Int} (h : atomB n x = true) : -20 ≤ x.1 ∧ x.1 ≤ 20 ∧ oddL n x.2 = false := by
  simp only [atomB, inB, Bool.and_eq_true, decide_eq_true_eq, Bool.not_eq_true'] at h
  exact ⟨h.1.1, h.1.2, h.2⟩
theorem slot_num {n : Nat} {x : Bool × Int × Int} (h : slotB n x = true) : -20 ≤ x.2.1 ∧ x.2.1 ≤ 20 ∧ oddL n x.2.2 = false := by
  simp only [slotB, inB, Bool.and_eq_true, Bool.not_eq_true'] at h
  obtain ⟨h1, h2⟩ := h
  split at h2 <;> simp only [Bool.and_eq_true, decide_eq_true_eq] at h2 <;> exact ⟨by omega, by omega, h1⟩
structure StaN (n : Nat) (s : Sta) : Prop where
  code : ∀ x ∈ s.code, -20 ≤ x.2.1 ∧ x.2.1 ≤ 20 ∧ (x.1 = 1 → oddL n x.2.2 = false)
  mem : ∀ x ∈ s.mem, -20 ≤ x.1 ∧ x.1 ≤ 20 ∧ oddL n x.2 = false
  stack : ∀ x ∈ s.stack, -20 ≤ x.2.1 ∧ x.2.1 ≤ 20 ∧ oddL n x.2.2 = false
  out : ∀ x ∈ s.out, -20 ≤ x.1 ∧ x.1 ≤ 20 ∧ oddL n x.2 = false
  codeL : s.code.length ≤ 12
  memL : s.mem.length ≤ 6
  stackL : s.stack.length ≤ 12
  outL : s.out.length ≤ 8
  v0 : -20 ≤ s.v
  v1 : s.v ≤ 20
  l : oddL n s.l = false
theorem sta_num {n : Nat} {s : Sta} (h : staB n s = true) : StaN n s := by
  simp only [staB, codeB, Bool.and_eq_true, decide_eq_true_eq, List.all_eq_true, Bool.not_eq_true'] at h
  obtain ⟨⟨a1, a2⟩, a3, a4, a5, a6, a7, a8, a9, a10⟩ := h
  have hv := inB_iff.1 a3
  exact ⟨fun x hx => instr_num (a1 x hx), fun x hx => atom_num (a5 x hx), fun x hx => slot_num (a7 x hx), fun x hx => atom_num (a9 x hx), a2, a6, a8, a10, by omega, by omega, a4⟩
def cntZ (z : Int × Int × Int) (n : Nat) : Int × Int × Int := (z.1 + (n : Int), z.2)
def sizeZ (us : List Nat) (z : Int × Int × Int) (s : Sta) : Int × Int × Int :=
  slotZ us (atomZ us (atomZ us (codeZ us (cntZ (addZ us z s.v s.l) (s.code.length + s.mem.length + s.stack.length + s.out.length)) s.code) s.mem) s.out) s.stack
end Go.Proofs.Ytabliglgeiajlaa.AM

/- Instructions that may be. -/
namespace Go.Proofs.Ytabliglgeiajlaa.AM
open Go Go.RowKit Go.Proofs
set_option maxRecDepth 100000
set_option maxHeartbeats 2000000

@[push_cast] theorem tyf1 : tyI Try.prog 219 = some ⟨TypeDesc.func #[3] #[4] false, 1, 8, Value.nilFunc⟩ := by kernel_rfl
abbrev inD (a b : Int) : D := .fn 299 [.fad [.v (.int .i64 a)], .fad [.v (.int .i64 b)]]
theorem spanIn_fn (a b n : Int) : Fn Try.prog 299 [.v (.int .i64 n), .fad [.v (.int .i64 a)], .fad [.v (.int .i64 b)]] [] (.v (.bool (inB a b n))) [] := by
  obtain ⟨x, hx⟩ : ∃ x, decide (a ≤ n) = x := ⟨_, rfl⟩
  rw [inB, hx]
  refine Fn.of (fn := Try.f299) (by kernel_rfl) rfl (by kernel_rfl) ⟨[.v (.int .i64 n), .fad [.v (.int .i64 a)], .fad [.v (.int .i64 b)], .v undef, .v undef, .v undef, .v undef, .v undef, .v undef, .v undef, .v undef, .v undef, .v undef], []⟩ rfl ?_
  cases x
  all_goals
    repeat' first | (with_reducible first | refine AWP_seq' ?_ | refine k_normal ?_ | refine AWP_ret ?_) | ((with_reducible refine AWP_reg fun KC J hJ hKC => ?_); simp (maxSteps := 10000000) only [push_cast, seval, ↓reduceIte, hx, undef]) | ((with_reducible refine hJ _ _ ?_); clear hJ hKC KC J)
    refine ret_plain ?_
    simp (maxSteps := 10000000) only [push_cast, seval, ↓reduceIte, show Try.f299.results = #[(.tmp 4)] from rfl]
    exact Lq
theorem span_fn (a b : Int) : Fn Try.prog 298 [.v (.int .i64 a), .v (.int .i64 b)] [] (inD a b) [] := by
  refine Fn.of (fn := Try.f298) (by kernel_rfl) rfl (by kernel_rfl) ⟨[.v (.int .i64 a), .v (.int .i64 b), .v undef, .v undef, .v undef, .v undef], []⟩ rfl ?_
  repeat' first | (with_reducible first | refine AWP_seq' ?_ | refine k_normal ?_) | ((with_reducible refine AWP_reg fun KC J hJ hKC => ?_); simp (maxSteps := 10000000) only [push_cast, seval, ↓reduceIte]) | ((with_reducible refine hJ _ _ ?_); clear hJ hKC KC J)
  refine AWP_freeze 0 rfl (by simp (maxSteps := 10000000) only [push_cast, seval, ↓reduceIte]) ?_
  simp (maxSteps := 10000000) only [push_cast, seval, ↓reduceIte, frSt, frSlot, fr3, fr2, fr1, fr0, sameB, arrOf]
  refine AWP_freeze 1 rfl (by simp (maxSteps := 10000000) only [push_cast, seval, ↓reduceIte]) ?_
  simp (maxSteps := 10000000) only [push_cast, seval, ↓reduceIte, frSt, frSlot, fr3, fr2, fr1, fr0, sameB, arrOf]
  refine AWP_ret ?_
  refine ret_plain ?_
  simp (maxSteps := 10000000) only [push_cast, seval, ↓reduceIte, show Try.f298.results = #[(.tmp 4)] from rfl]
  exact Lq
abbrev spansE : Ent := ⟨0, none, 303, [inD (-20) 20, inD 0 12, inD 0 3, inD 0 1], .map [.int .i64 1, .int .i64 8, .int .i64 9, .int .i64 10]⟩
theorem spans_fn : Fn Try.prog 295 [] [] (.kref true 0 0) [.ent spansE] := by
  have h1 := span_fn (-20) 20
  have h2 := span_fn 0 12
  have h3 := span_fn 0 3
  have h4 := span_fn 0 1
  refine Fn.of (fn := Try.f295) (by kernel_rfl) rfl (by kernel_rfl) ⟨[.v undef, .v undef, .v undef, .v undef, .v undef, .v undef, .v undef, .v undef, .v undef, .v undef, .v undef, .v undef], []⟩ rfl ?_
  repeat' first | (with_reducible first | refine AWP_seq' ?_ | refine k_normal ?_) | ((with_reducible refine AWP_reg fun KC J hJ hKC => ?_); simp (maxSteps := 10000000) only [push_cast, seval, ↓reduceIte]) | (refine hKC _ _ _ _ _ (callV0 (h1) rfl rfl rfl ?_ ?_); (· exact Lq); simp (maxSteps := 10000000) only [push_cast, seval, ↓reduceIte]) | (refine hKC _ _ _ _ _ (callV0 (h2) rfl rfl rfl ?_ ?_); (· exact Lq); simp (maxSteps := 10000000) only [push_cast, seval, ↓reduceIte]) | (refine hKC _ _ _ _ _ (callV0 (h3) rfl rfl rfl ?_ ?_); (· exact Lq); simp (maxSteps := 10000000) only [push_cast, seval, ↓reduceIte]) | (refine hKC _ _ _ _ _ (callV0 (h4) rfl rfl rfl ?_ ?_); (· exact Lq); simp (maxSteps := 10000000) only [push_cast, seval, ↓reduceIte]) | ((with_reducible refine hJ _ _ ?_); clear hJ hKC KC J)
  refine AWP_ret ?_
  refine ret_new [0] ?_ (by simp) ?_
  · simp (maxSteps := 10000000) only [push_cast, seval, ↓reduceIte, show Try.f295.results = #[.tmp 0] from rfl, pick, mOf, idx]
    exact ⟨rfl, leD_refl _⟩
  · intro k hk
    exact absurd hk (by simp)
theorem codeRight_fn (n : Nat) (x : Int × Int × Int) : Fn Try.prog 275 [.v (.int .i64 n), .agg [.v (.int .i64 x.1), .v (.int .i64 x.2.1), .v (.int .i64 x.2.2)]] [] (.v (.bool (instrB n x))) [] := by
  obtain ⟨o, v, l⟩ := x
  have hsp := spans_fn
  simp only [instrB]
  obtain ⟨a1, ha1⟩ : ∃ b, decide (o < 0) = b := ⟨_, rfl⟩
  cases a1
  case true =>
    have ho := of_decide_eq_true ha1
    rw [if_neg (by omega), show inB 0 12 o = false by simp [inB]; omega]
    refine Fn.of (fn := Try.f275) (by kernel_rfl) rfl (by kernel_rfl) ⟨[.v (.int .i64 n), .agg [.v (.int .i64 o), .v (.int .i64 v), .v (.int .i64 l)], .v undef, .v undef, .v undef, .v undef, .v undef, .v undef, .v undef, .v undef, .v undef, .v undef, .v undef, .v undef, .v undef, .v undef, .v undef, .v undef, .v undef, .v undef, .v undef, .v undef, .v undef, .v undef, .v undef, .v undef, .v undef, .v undef, .v undef, .v undef, .v undef, .v undef, .v undef, .v undef, .v undef, .v undef, .v undef, .v undef, .v undef, .v undef, .v undef, .v undef, .v undef, .v undef, .v undef, .v undef, .v undef, .v undef, .v undef, .v undef, .v undef, .v undef, .v undef, .v undef], []⟩ rfl ?_
    repeat' first | (with_reducible first | refine AWP_seq' ?_ | refine k_normal ?_ | refine k_ret ?_ | refine AWP_ret ?_) | ((with_reducible refine AWP_reg fun KC J hJ hKC => ?_); simp (maxSteps := 10000000) only [push_cast, seval, ↓reduceIte, ha1, undef]) | ((with_reducible refine hJ _ _ ?_); clear hJ hKC KC J) | ((with_reducible refine AWP_condT ?_ ?_); · rfl)
    refine ret_plain ?_
    simp (maxSteps := 10000000) only [push_cast, seval, ↓reduceIte, show Try.f275.results = #[(.tmp 4)] from rfl]
    exact Lq
  have ho := of_decide_eq_false ha1
  obtain ⟨a2, ha2⟩ : ∃ b, decide (13 ≤ o) = b := ⟨_, rfl⟩
  cases a2
  case true =>
    have ho2 := of_decide_eq_true ha2
    rw [if_neg (by omega), show inB 0 12 o = false by simp [inB]; omega]
    refine Fn.of (fn := Try.f275) (by kernel_rfl) rfl (by kernel_rfl) ⟨[.v (.int .i64 n), .agg [.v (.int .i64 o), .v (.int .i64 v), .v (.int .i64 l)], .v undef, .v undef, .v undef, .v undef, .v undef, .v undef, .v undef, .v undef, .v undef, .v undef, .v undef, .v undef, .v undef, .v undef, .v undef, .v undef, .v undef, .v undef, .v undef, .v undef, .v undef, .v undef, .v undef, .v undef, .v undef, .v undef, .v undef, .v undef, .v undef, .v undef, .v undef, .v undef, .v undef, .v undef, .v undef, .v undef, .v undef, .v undef, .v undef, .v undef, .v undef, .v undef, .v undef, .v undef, .v undef, .v undef, .v undef, .v undef, .v undef, .v undef, .v undef, .v undef], []⟩ rfl ?_
    repeat' first | (with_reducible first | refine AWP_seq' ?_ | refine k_normal ?_ | refine k_ret ?_ | refine AWP_ret ?_) | ((with_reducible refine AWP_reg fun KC J hJ hKC => ?_); simp (maxSteps := 10000000) only [push_cast, seval, ↓reduceIte, ha1, ha2, undef]) | ((with_reducible refine hJ _ _ ?_); clear hJ hKC KC J) | ((with_reducible refine AWP_condT ?_ ?_); · rfl)
    refine ret_plain ?_
    simp (maxSteps := 10000000) only [push_cast, seval, ↓reduceIte, show Try.f275.results = #[(.tmp 4)] from rfl]
    exact Lq
  have ho2 := of_decide_eq_false ha2
  have hin : inB 0 12 o = true := by simp [inB]; omega
  by_cases e1 : o = 1
  · subst e1
    have h1 := spanIn_fn (-20) 20 v
    rw [if_pos rfl]
    obtain ⟨b1, hb1⟩ : ∃ b, inB (-20) 20 v = b := ⟨_, rfl⟩
    obtain ⟨b2, hb2⟩ : ∃ b, decide (0 ≤ l) = b := ⟨_, rfl⟩
    have hod : (!oddL n l) = (b2 && decide (l < (n : Int))) := by
      rw [← hb2, Bool.eq_iff_iff]; simp [oddL]
    rw [hod, hb1]
    rw [hb1] at h1
    cases b1 <;> cases b2
    all_goals
      refine Fn.of (fn := Try.f275) (by kernel_rfl) rfl (by kernel_rfl) ⟨[.v (.int .i64 n), .agg [.v (.int .i64 1), .v (.int .i64 v), .v (.int .i64 l)], .v undef, .v undef, .v undef, .v undef, .v undef, .v undef, .v undef, .v undef, .v undef, .v undef, .v undef, .v undef, .v undef, .v undef, .v undef, .v undef, .v undef, .v undef, .v undef, .v undef, .v undef, .v undef, .v undef, .v undef, .v undef, .v undef, .v undef, .v undef, .v undef, .v undef, .v undef, .v undef, .v undef, .v undef, .v undef, .v undef, .v undef, .v undef, .v undef, .v undef, .v undef, .v undef, .v undef, .v undef, .v undef, .v undef, .v undef, .v undef, .v undef, .v undef, .v undef, .v undef], []⟩ rfl ?_
      repeat' first | (with_reducible first | refine AWP_seq' ?_ | refine k_normal ?_ | refine k_ret ?_ | refine AWP_ret ?_ | refine AWP_skip ?_) | ((with_reducible first | refine AWP_reg fun KC J hJ hKC => ?_ | refine AWP_regD rfl fun KC J hJ hKC => ?_); simp (maxSteps := 10000000) only [push_cast, seval, ↓reduceIte, hb2, undef, backOf, callSets, renSlot, pick, mOf, idx, ren, ren2, ren1, ren0]) | (refine hKC _ _ _ _ _ (callN [] hsp rfl rfl rfl (by simp) (fun _ h => by cases h) rfl rfl rfl leF_nil ?_); simp (maxSteps := 10000000) only [push_cast, seval, ↓reduceIte, hb2, undef, backOf, callSets, renSlot, pick, mOf, idx, ren, ren2, ren1, ren0]) | (refine hKC _ _ _ _ _ (callV0 (h1) rfl rfl rfl ?_ ?_); (· exact Lq); simp (maxSteps := 10000000) only [push_cast, seval, ↓reduceIte, hb2, undef, backOf, callSets, renSlot, pick, mOf, idx, ren, ren2, ren1, ren0]) | ((first | with_reducible refine hJ _ _ ?_ | (with_reducible refine hJ _ _ ?_ ?_; · kernel_rfl)); clear hJ hKC KC J) | ((with_reducible refine AWP_condT ?_ ?_); · rfl) | ((with_reducible refine AWP_condF ?_ ?_); · rfl)
      refine ret_plain ?_
      simp (maxSteps := 10000000) only [push_cast, seval, ↓reduceIte, show Try.f275.results = #[(.tmp 4)] from rfl]
      exact Lq
  rw [if_neg e1, hin]
  have e1' : (o == 1) = false := by simpa using e1
  have hl0 : decide (l = 0) = (l == 0) := by rw [Bool.eq_iff_iff]; simp
  rw [hl0]
  obtain ⟨c1, hc1⟩ : ∃ b, (l == 0) = b := ⟨_, rfl⟩
  rw [hc1]
  by_cases e8 : o = 8
  · subst e8
    have h1 := spanIn_fn 0 12 v
    rw [if_pos rfl]
    obtain ⟨b1, hb1⟩ : ∃ b, inB 0 12 v = b := ⟨_, rfl⟩
    rw [hb1] at h1 ⊢
    cases b1
    all_goals
      refine Fn.of (fn := Try.f275) (by kernel_rfl) rfl (by kernel_rfl) ⟨[.v (.int .i64 n), .agg [.v (.int .i64 8), .v (.int .i64 v), .v (.int .i64 l)], .v undef, .v undef, .v undef, .v undef, .v undef, .v undef, .v undef, .v undef, .v undef, .v undef, .v undef, .v undef, .v undef, .v undef, .v undef, .v undef, .v undef, .v undef, .v undef, .v undef, .v undef, .v undef, .v undef, .v undef, .v undef, .v undef, .v undef, .v undef, .v undef, .v undef, .v undef, .v undef, .v undef, .v undef, .v undef, .v undef, .v undef, .v undef, .v undef, .v undef, .v undef, .v undef, .v undef, .v undef, .v undef, .v undef, .v undef, .v undef, .v undef, .v undef, .v undef, .v undef], []⟩ rfl ?_
      repeat' first | (with_reducible first | refine AWP_seq' ?_ | refine k_normal ?_ | refine k_ret ?_ | refine AWP_ret ?_ | refine AWP_skip ?_) | ((with_reducible first | refine AWP_reg fun KC J hJ hKC => ?_ | refine AWP_regD rfl fun KC J hJ hKC => ?_); simp (maxSteps := 10000000) only [push_cast, seval, ↓reduceIte, hc1, undef, backOf, callSets, renSlot, pick, mOf, idx, ren, ren2, ren1, ren0]) | (refine hKC _ _ _ _ _ (callN [] hsp rfl rfl rfl (by simp) (fun _ h => by cases h) rfl rfl rfl leF_nil ?_); simp (maxSteps := 10000000) only [push_cast, seval, ↓reduceIte, hc1, undef, backOf, callSets, renSlot, pick, mOf, idx, ren, ren2, ren1, ren0]) | (refine hKC _ _ _ _ _ (callV0 (h1) rfl rfl rfl ?_ ?_); (· exact Lq); simp (maxSteps := 10000000) only [push_cast, seval, ↓reduceIte, hc1, undef, backOf, callSets, renSlot, pick, mOf, idx, ren, ren2, ren1, ren0]) | ((first | with_reducible refine hJ _ _ ?_ | (with_reducible refine hJ _ _ ?_ ?_; · kernel_rfl)); clear hJ hKC KC J) | ((with_reducible refine AWP_condT ?_ ?_); · rfl) | ((with_reducible refine AWP_condF ?_ ?_); · rfl)
      refine ret_plain ?_
      simp (maxSteps := 10000000) only [push_cast, seval, ↓reduceIte, show Try.f275.results = #[(.tmp 4)] from rfl]
      first | exact Lq | (simp only [Bool.true_and, Bool.and_true, Bool.and_false]; exact Lq)
  rw [if_neg e8]
  by_cases e9 : o = 9
  · subst e9
    have h1 := spanIn_fn 0 3 v
    rw [if_pos rfl]
    obtain ⟨b1, hb1⟩ : ∃ b, inB 0 3 v = b := ⟨_, rfl⟩
    rw [hb1] at h1 ⊢
    cases b1
    all_goals
      refine Fn.of (fn := Try.f275) (by kernel_rfl) rfl (by kernel_rfl) ⟨[.v (.int .i64 n), .agg [.v (.int .i64 9), .v (.int .i64 v), .v (.int .i64 l)], .v undef, .v undef, .v undef, .v undef, .v undef, .v undef, .v undef, .v undef, .v undef, .v undef, .v undef, .v undef, .v undef, .v undef, .v undef, .v undef, .v undef, .v undef, .v undef, .v undef, .v undef, .v undef, .v undef, .v undef, .v undef, .v undef, .v undef, .v undef, .v undef, .v undef, .v undef, .v undef, .v undef, .v undef, .v undef, .v undef, .v undef, .v undef, .v undef, .v undef, .v undef, .v undef, .v undef, .v undef, .v undef, .v undef, .v undef, .v undef, .v undef, .v undef, .v undef, .v undef], []⟩ rfl ?_
      repeat' first | (with_reducible first | refine AWP_seq' ?_ | refine k_normal ?_ | refine k_ret ?_ | refine AWP_ret ?_ | refine AWP_skip ?_) | ((with_reducible first | refine AWP_reg fun KC J hJ hKC => ?_ | refine AWP_regD rfl fun KC J hJ hKC => ?_); simp (maxSteps := 10000000) only [push_cast, seval, ↓reduceIte, hc1, undef, backOf, callSets, renSlot, pick, mOf, idx, ren, ren2, ren1, ren0]) | (refine hKC _ _ _ _ _ (callN [] hsp rfl rfl rfl (by simp) (fun _ h => by cases h) rfl rfl rfl leF_nil ?_); simp (maxSteps := 10000000) only [push_cast, seval, ↓reduceIte, hc1, undef, backOf, callSets, renSlot, pick, mOf, idx, ren, ren2, ren1, ren0]) | (refine hKC _ _ _ _ _ (callV0 (h1) rfl rfl rfl ?_ ?_); (· exact Lq); simp (maxSteps := 10000000) only [push_cast, seval, ↓reduceIte, hc1, undef, backOf, callSets, renSlot, pick, mOf, idx, ren, ren2, ren1, ren0]) | ((first | with_reducible refine hJ _ _ ?_ | (with_reducible refine hJ _ _ ?_ ?_; · kernel_rfl)); clear hJ hKC KC J) | ((with_reducible refine AWP_condT ?_ ?_); · rfl) | ((with_reducible refine AWP_condF ?_ ?_); · rfl)
      refine ret_plain ?_
      simp (maxSteps := 10000000) only [push_cast, seval, ↓reduceIte, show Try.f275.results = #[(.tmp 4)] from rfl]
      first | exact Lq | (simp only [Bool.true_and, Bool.and_true, Bool.and_false]; exact Lq)
  rw [if_neg e9]
  by_cases e10 : o = 10
  · subst e10
    have h1 := spanIn_fn 0 1 v
    rw [if_pos rfl]
    obtain ⟨b1, hb1⟩ : ∃ b, inB 0 1 v = b := ⟨_, rfl⟩
    rw [hb1] at h1 ⊢
    cases b1
    all_goals
      refine Fn.of (fn := Try.f275) (by kernel_rfl) rfl (by kernel_rfl) ⟨[.v (.int .i64 n), .agg [.v (.int .i64 10), .v (.int .i64 v), .v (.int .i64 l)], .v undef, .v undef, .v undef, .v undef, .v undef, .v undef, .v undef, .v undef, .v undef, .v undef, .v undef, .v undef, .v undef, .v undef, .v undef, .v undef, .v undef, .v undef, .v undef, .v undef, .v undef, .v undef, .v undef, .v undef, .v undef, .v undef, .v undef, .v undef, .v undef, .v undef, .v undef, .v undef, .v undef, .v undef, .v undef, .v undef, .v undef, .v undef, .v undef, .v undef, .v undef, .v undef, .v undef, .v undef, .v undef, .v undef, .v undef, .v undef, .v undef, .v undef, .v undef, .v undef], []⟩ rfl ?_
      repeat' first | (with_reducible first | refine AWP_seq' ?_ | refine k_normal ?_ | refine k_ret ?_ | refine AWP_ret ?_ | refine AWP_skip ?_) | ((with_reducible first | refine AWP_reg fun KC J hJ hKC => ?_ | refine AWP_regD rfl fun KC J hJ hKC => ?_); simp (maxSteps := 10000000) only [push_cast, seval, ↓reduceIte, hc1, undef, backOf, callSets, renSlot, pick, mOf, idx, ren, ren2, ren1, ren0]) | (refine hKC _ _ _ _ _ (callN [] hsp rfl rfl rfl (by simp) (fun _ h => by cases h) rfl rfl rfl leF_nil ?_); simp (maxSteps := 10000000) only [push_cast, seval, ↓reduceIte, hc1, undef, backOf, callSets, renSlot, pick, mOf, idx, ren, ren2, ren1, ren0]) | (refine hKC _ _ _ _ _ (callV0 (h1) rfl rfl rfl ?_ ?_); (· exact Lq); simp (maxSteps := 10000000) only [push_cast, seval, ↓reduceIte, hc1, undef, backOf, callSets, renSlot, pick, mOf, idx, ren, ren2, ren1, ren0]) | ((first | with_reducible refine hJ _ _ ?_ | (with_reducible refine hJ _ _ ?_ ?_; · kernel_rfl)); clear hJ hKC KC J) | ((with_reducible refine AWP_condT ?_ ?_); · rfl) | ((with_reducible refine AWP_condF ?_ ?_); · rfl)
      refine ret_plain ?_
      simp (maxSteps := 10000000) only [push_cast, seval, ↓reduceIte, show Try.f275.results = #[(.tmp 4)] from rfl]
      first | exact Lq | (simp only [Bool.true_and, Bool.and_true, Bool.and_false]; exact Lq)
  rw [if_neg e10]
  have e8' : (o == 8) = false := by simpa using e8
  have e9' : (o == 9) = false := by simpa using e9
  have e10' : (o == 10) = false := by simpa using e10
  obtain ⟨d1, hd1⟩ : ∃ b, (v != 0) = b := ⟨_, rfl⟩
  have hv0 : decide (v = 0) = !d1 := by rw [← hd1, Bool.eq_iff_iff]; simp
  rw [hv0]
  cases d1
  all_goals
    refine Fn.of (fn := Try.f275) (by kernel_rfl) rfl (by kernel_rfl) ⟨[.v (.int .i64 n), .agg [.v (.int .i64 o), .v (.int .i64 v), .v (.int .i64 l)], .v undef, .v undef, .v undef, .v undef, .v undef, .v undef, .v undef, .v undef, .v undef, .v undef, .v undef, .v undef, .v undef, .v undef, .v undef, .v undef, .v undef, .v undef, .v undef, .v undef, .v undef, .v undef, .v undef, .v undef, .v undef, .v undef, .v undef, .v undef, .v undef, .v undef, .v undef, .v undef, .v undef, .v undef, .v undef, .v undef, .v undef, .v undef, .v undef, .v undef, .v undef, .v undef, .v undef, .v undef, .v undef, .v undef, .v undef, .v undef, .v undef, .v undef, .v undef, .v undef], []⟩ rfl ?_
    repeat' first | (with_reducible first | refine AWP_seq' ?_ | refine k_normal ?_ | refine k_ret ?_ | refine AWP_ret ?_ | refine AWP_skip ?_) | ((with_reducible first | refine AWP_reg fun KC J hJ hKC => ?_ | refine AWP_regD rfl fun KC J hJ hKC => ?_); simp (maxSteps := 10000000) only [push_cast, seval, ↓reduceIte, ha1, ha2, e1', e8', e9', e10', hc1, hd1, undef, backOf, callSets, renSlot, pick, mOf, idx, ren, ren2, ren1, ren0]) | (refine hKC _ _ _ _ _ (callN [] hsp rfl rfl rfl (by simp) (fun _ h => by cases h) rfl rfl rfl leF_nil ?_); simp (maxSteps := 10000000) only [push_cast, seval, ↓reduceIte, ha1, ha2, e1', e8', e9', e10', hc1, hd1, undef, backOf, callSets, renSlot, pick, mOf, idx, ren, ren2, ren1, ren0]) | ((first | with_reducible refine hJ _ _ ?_ | (with_reducible refine hJ _ _ ?_ ?_; · kernel_rfl)); clear hJ hKC KC J) | ((with_reducible refine AWP_condT ?_ ?_); · rfl) | ((with_reducible refine AWP_condF ?_ ?_); · rfl)
    refine ret_plain ?_
    simp (maxSteps := 10000000) only [push_cast, seval, ↓reduceIte, show Try.f275.results = #[(.tmp 4)] from rfl]
    first | exact Lq | (simp only [Bool.true_and, Bool.and_true, Bool.and_false, Bool.not_false, Bool.not_true]; exact Lq)
end Go.Proofs.Ytabliglgeiajlaa.AM

/- The reference: choices. -/
namespace Go.Proofs.Ytabliglgeiajlaa.AM
open Go Go.RowKit Go.Proofs
set_option maxRecDepth 100000
set_option maxHeartbeats 1000000

end Go.Proofs.Ytabliglgeiajlaa.AM

/- Spaces that may be. -/
namespace Go.Proofs.Ytabliglgeiajlaa.AM
open Go Go.RowKit Go.Proofs
set_option maxRecDepth 100000
set_option maxHeartbeats 1000000

end Go.Proofs.Ytabliglgeiajlaa.AM

/- The machine: parts of code, behind which blocks are forgotten. -/
namespace Go.Proofs.Ytabliglgeiajlaa.AM
open Go Go.RowKit Go.Proofs

section
variable {P : Program} {ro : Option Nat} {st : St} {K : Exit → St → Prop} {c c2 : Code}
end
/-! ### What is told of arguments, more or less -/
def Rle (a b : D) : Prop := ∀ w fz tb U u, Rep w fz tb U a u → Rep w fz tb U b u
theorem Rle.refl (a : D) : Rle a a := fun _ _ _ _ _ h => h
theorem Rle.full (sz : Nat) (xs : List (List D)) : Rle (.sl true sz xs) (.sl false sz xs) := fun w fz tb U u h => by
  refine .fro _ _ ?_
  have h1 := h.sl_inv
  generalize hx : D.sl true sz xs = d at h1
  cases h1 with
  | sl0 full sz' A cap h0 => cases hx; exact .sl0 false _ A cap (fun h => by cases h)
  | sl full sz' xs' b o cap n g hn h0 hc hf hb hw hcell hr => cases hx; exact .sl false _ _ b o cap n g hn h0 hc (fun h => by cases h) hb hw hcell hr
  | any x => cases hx
  | v x => cases hx
  | agg ds cs h hr => cases hx
  | tup ds cs h hr => cases hx
  | fn f caps cs h hr => cases hx
  | bnd f caps cs h hr => cases hx
  | fad ds b o g hb hc hr => cases hx
inductive RleF : List D → List D → Prop
  | nil : RleF [] []
  | cons {a b : D} {l m : List D} (h : Rle a b) (hs : RleF l m) : RleF (a :: l) (b :: m)
theorem RleF.get {l m : List D} (h : RleF l m) : l.length = m.length ∧ ∀ (j : Nat) (a b : D), l[j]? = some a → m[j]? = some b → Rle a b := by
  induction h with
  | nil => exact ⟨rfl, fun j a b h => by simp at h⟩
  | cons h hs ih =>
    refine ⟨by simp [ih.1], fun j a b ha hb => ?_⟩
    cases j with
    | zero => simp at ha hb; subst ha; subst hb; exact h
    | succ j => simp at ha hb; exact ih.2 j a b ha hb
theorem RleF.refl : ∀ l, RleF l l
  | [] => .nil
  | a :: l => .cons (.refl a) (RleF.refl l)
theorem Rle.agg {ds es : List D} (h : RleF ds es) : Rle (.agg ds) (.agg es) := fun w fz tb U u hu => by
  obtain ⟨cs, rfl, hl, hr⟩ := hu.agg_inv
  obtain ⟨h1, h2⟩ := h.get
  refine .agg es cs (by omega) (fun j d v hd hv => ?_)
  have hj : j < ds.length := by rw [h1]; exact (List.getElem?_eq_some_iff.1 hd).1
  exact h2 j ds[j] d (List.getElem?_eq_getElem hj) hd _ _ _ _ _ (hr j ds[j] v (List.getElem?_eq_getElem hj) hv)
theorem Fn.pre {P : Program} {f : Nat} {args args' : List D} {ext : List Slot} {res : D} {out : List Slot} (h : Fn P f args' ext res out) (hle : RleF args args') : Fn P f args ext res out where
  enter := h.enter
  spec := fun N0 ρ w vs hp hs hr => h.spec N0 ρ w vs hp (by rw [hs]; exact hle.get.1) (fun j d u hd hu => by
    have hj : j < args.length := by rw [hle.get.1]; exact (List.getElem?_eq_some_iff.1 hd).1
    exact hle.get.2 j args[j] d (List.getElem?_eq_getElem hj) hd _ _ _ _ _ (hr j args[j] u (List.getElem?_eq_getElem hj) hu))
end Go.Proofs.Ytabliglgeiajlaa.AM

/- Whether rows hold something; states that may be. -/
namespace Go.Proofs.Ytabliglgeiajlaa.AM
open Go Go.RowKit Go.Proofs
set_option maxRecDepth 100000
set_option maxHeartbeats 2000000

theorem indexFuncT_fn (f : Bool) (xs : List (Int × Int × Int)) (cf : Nat) (caps : List D) (p : Int × Int × Int → Bool) (hb : xs.length ≤ 1000) (hc : frz0All caps = true)
    (hp : ∀ x ∈ xs, Fn Try.prog cf (.agg [.v (.int .i64 x.1), .v (.int .i64 x.2.1), .v (.int .i64 x.2.2)] :: caps) [] (.v (.bool (p x))) []) : Fn Try.prog 246 [.sl f 3 (tRow xs), .fn cf caps] [] (.v (.int .i64 (idxF p xs))) [] := by
  refine Fn.of (fn := Try.f246) (by kernel_rfl) rfl (by kernel_rfl) ⟨[.sl f 3 (tRow xs), .fn cf caps, .v undef, .v undef, .v undef, .v undef, .v undef, .v undef, .v undef, .v undef, .v undef, .v undef, .v undef, .v undef, .v undef, .v undef, .v undef, .v undef, .v undef], []⟩ rfl ?_
  repeat' first | (with_reducible first | refine AWP_seq' ?_ | refine k_normal ?_ | refine AWP_block ?_) | ((with_reducible refine AWP_reg fun KC J hJ hKC => ?_); simp (maxSteps := 10000000) only [push_cast, seval, ↓reduceIte]) | ((with_reducible refine hJ _ _ ?_); clear hJ hKC KC J)
  refine AWP_loopF (γ := {i : Nat // i ≤ xs.length ∧ ∀ (j : Nat) (hj : j < xs.length), j < i → p xs[j] = false}) (fun i => ⟨[.sl f 3 (tRow xs), .fn cf caps, .any, .any, .any, .any, .any, .v (.int .i64 xs.length), .v (.int .i64 i.1), .any, .any, .any, .any, .any, .any, .any, .any, .any, .any], []⟩) (fun i => xs.length - i.1) ⟨0, by simp⟩ ⟨?_, Fq⟩ ?_
  · exact Lq
  · rintro ⟨i, hi, hn⟩
    by_cases hlt : (i : Int) < (xs.length : Int)
    · have hx : xs[i]? = some xs[i] := List.getElem?_eq_getElem (by omega)
      have hfn := hp xs[i] (List.getElem_mem (by omega))
      repeat' first | (with_reducible first | refine AWP_seq' ?_ | refine k_normal ?_ | refine k_ret ?_ | refine b_normal ?_ | refine b_ret ?_ | refine AWP_ret ?_ | refine AWP_skip ?_ | refine AWP_block ?_) | ((with_reducible refine AWP_reg fun KC J hJ hKC => ?_); simp (maxSteps := 10000000) only [push_cast, seval, ↓reduceIte, hlt, getE_t hx, wrapN (i := i) (n := xs.length) (by omega) (by omega)]) | ((with_reducible refine And.intro ?_ ?_); · exact Sq) | (refine hKC _ _ _ _ _ (callV0 (hfn) rfl rfl rfl ?_ ?_); (· exact Lq); simp (maxSteps := 10000000) only [push_cast, seval, ↓reduceIte, hlt, getE_t hx, wrapN (i := i) (n := xs.length) (by omega) (by omega)]) | ((with_reducible refine hJ _ _ ?_); clear hJ hKC KC J) | ((with_reducible refine AWP_condT ?_ ?_); · rfl) | (refine AWP_cond rfl (fun h => ?_) (fun h => ?_) <;> try simp only [decide_eq_true_eq, decide_eq_false_iff_not, Bool.not_eq_true', Bool.not_eq_false', beq_iff_eq, bne_iff_ne, ne_eq, Bool.not_eq_true, Bool.or_eq_true, Bool.and_eq_true, Bool.or_eq_false_iff, Bool.and_eq_false_imp, beq_eq_false_iff_ne, bne_eq_false_iff_eq] at h)
      · refine ret_plain ?_
        simp (maxSteps := 10000000) only [push_cast, seval, ↓reduceIte, show Try.f246.results = #[(.tmp 4)] from rfl]
        exact leD_v (by rw [idxF_at (by omega) h hn])
      · refine ⟨⟨i + 1, by omega, fun j hj hji => ?_⟩, by simp only; omega, ?_, Fq⟩
        · by_cases he : j = i
          · subst he; exact h
          · exact hn j hj (by omega)
        · exact Lq
    · skip
      repeat' first | (with_reducible first | refine AWP_seq' ?_ | refine k_normal ?_ | refine k_exit ?_ | refine b_exit ?_ | refine AWP_ret ?_ | refine AWP_exit ?_) | ((with_reducible refine AWP_reg fun KC J hJ hKC => ?_); simp (maxSteps := 10000000) only [push_cast, seval, ↓reduceIte, hlt]) | ((with_reducible refine hJ _ _ ?_); clear hJ hKC KC J) | ((with_reducible refine AWP_condF ?_ ?_); · rfl)
      refine ret_plain ?_
      simp (maxSteps := 10000000) only [push_cast, seval, ↓reduceIte, show Try.f246.results = #[(.tmp 4)] from rfl]
      exact leD_v (by rw [idxF_none (fun j hj => hn j hj (by omega))])
theorem containsFuncT_fn (f : Bool) (xs : List (Int × Int × Int)) (cf : Nat) (caps : List D) (p : Int × Int × Int → Bool) (hb : xs.length ≤ 1000) (hc : frz0All caps = true)
    (hp : ∀ x ∈ xs, Fn Try.prog cf (.agg [.v (.int .i64 x.1), .v (.int .i64 x.2.1), .v (.int .i64 x.2.2)] :: caps) [] (.v (.bool (p x))) []) : Fn Try.prog 169 [.sl f 3 (tRow xs), .fn cf caps] [] (.v (.bool (xs.any p))) [] := by
  have hfn := indexFuncT_fn f xs cf caps p hb hc hp
  refine Fn.of (fn := Try.f169) (by kernel_rfl) rfl (by kernel_rfl) ⟨[.sl f 3 (tRow xs), .fn cf caps, .v undef, .v undef, .v undef, .v undef, .v undef, .v undef, .v undef], []⟩ rfl ?_
  repeat' first | (with_reducible first | refine AWP_seq' ?_ | refine k_normal ?_ | refine AWP_ret ?_) | ((with_reducible refine AWP_reg fun KC J hJ hKC => ?_); simp (maxSteps := 10000000) only [push_cast, seval, ↓reduceIte, idxF_any]) | (refine hKC _ _ _ _ _ (callV0 (hfn) rfl rfl rfl ?_ ?_); (· exact Lq); simp (maxSteps := 10000000) only [push_cast, seval, ↓reduceIte, idxF_any]) | ((with_reducible refine hJ _ _ ?_); clear hJ hKC KC J)
  refine ret_plain ?_
  simp (maxSteps := 10000000) only [push_cast, seval, ↓reduceIte, show Try.f169.results = #[(.tmp 4)] from rfl]
  exact leD_refl _
theorem indexFuncA_fn (f : Bool) (xs : List (Int × Int)) (cf : Nat) (caps : List D) (p : Int × Int → Bool) (hb : xs.length ≤ 1000) (hc : frz0All caps = true)
    (hp : ∀ x ∈ xs, Fn Try.prog cf (.agg [.v (.int .i64 x.1), .v (.int .i64 x.2)] :: caps) [] (.v (.bool (p x))) []) : Fn Try.prog 247 [.sl f 2 (pRow xs), .fn cf caps] [] (.v (.int .i64 (idxF p xs))) [] := by
  refine Fn.of (fn := Try.f247) (by kernel_rfl) rfl (by kernel_rfl) ⟨[.sl f 2 (pRow xs), .fn cf caps, .v undef, .v undef, .v undef, .v undef, .v undef, .v undef, .v undef, .v undef, .v undef, .v undef, .v undef, .v undef, .v undef, .v undef, .v undef, .v undef, .v undef], []⟩ rfl ?_
  repeat' first | (with_reducible first | refine AWP_seq' ?_ | refine k_normal ?_ | refine AWP_block ?_) | ((with_reducible refine AWP_reg fun KC J hJ hKC => ?_); simp (maxSteps := 10000000) only [push_cast, seval, ↓reduceIte]) | ((with_reducible refine hJ _ _ ?_); clear hJ hKC KC J)
  refine AWP_loopF (γ := {i : Nat // i ≤ xs.length ∧ ∀ (j : Nat) (hj : j < xs.length), j < i → p xs[j] = false}) (fun i => ⟨[.sl f 2 (pRow xs), .fn cf caps, .any, .any, .any, .any, .any, .v (.int .i64 xs.length), .v (.int .i64 i.1), .any, .any, .any, .any, .any, .any, .any, .any, .any, .any], []⟩) (fun i => xs.length - i.1) ⟨0, by simp⟩ ⟨?_, Fq⟩ ?_
  · exact Lq
  · rintro ⟨i, hi, hn⟩
    by_cases hlt : (i : Int) < (xs.length : Int)
    · have hx : xs[i]? = some xs[i] := List.getElem?_eq_getElem (by omega)
      have hfn := hp xs[i] (List.getElem_mem (by omega))
      repeat' first | (with_reducible first | refine AWP_seq' ?_ | refine k_normal ?_ | refine k_ret ?_ | refine b_normal ?_ | refine b_ret ?_ | refine AWP_ret ?_ | refine AWP_skip ?_ | refine AWP_block ?_) | ((with_reducible refine AWP_reg fun KC J hJ hKC => ?_); simp (maxSteps := 10000000) only [push_cast, seval, ↓reduceIte, hlt, getE_p hx, wrapN (i := i) (n := xs.length) (by omega) (by omega)]) | ((with_reducible refine And.intro ?_ ?_); · exact Sq) | (refine hKC _ _ _ _ _ (callV0 (hfn) rfl rfl rfl ?_ ?_); (· exact Lq); simp (maxSteps := 10000000) only [push_cast, seval, ↓reduceIte, hlt, getE_p hx, wrapN (i := i) (n := xs.length) (by omega) (by omega)]) | ((with_reducible refine hJ _ _ ?_); clear hJ hKC KC J) | ((with_reducible refine AWP_condT ?_ ?_); · rfl) | (refine AWP_cond rfl (fun h => ?_) (fun h => ?_) <;> try simp only [decide_eq_true_eq, decide_eq_false_iff_not, Bool.not_eq_true', Bool.not_eq_false', beq_iff_eq, bne_iff_ne, ne_eq, Bool.not_eq_true, Bool.or_eq_true, Bool.and_eq_true, Bool.or_eq_false_iff, Bool.and_eq_false_imp, beq_eq_false_iff_ne, bne_eq_false_iff_eq] at h)
      · refine ret_plain ?_
        simp (maxSteps := 10000000) only [push_cast, seval, ↓reduceIte, show Try.f247.results = #[(.tmp 4)] from rfl]
        exact leD_v (by rw [idxF_at (by omega) h hn])
      · refine ⟨⟨i + 1, by omega, fun j hj hji => ?_⟩, by simp only; omega, ?_, Fq⟩
        · by_cases he : j = i
          · subst he; exact h
          · exact hn j hj (by omega)
        · exact Lq
    · skip
      repeat' first | (with_reducible first | refine AWP_seq' ?_ | refine k_normal ?_ | refine k_exit ?_ | refine b_exit ?_ | refine AWP_ret ?_ | refine AWP_exit ?_) | ((with_reducible refine AWP_reg fun KC J hJ hKC => ?_); simp (maxSteps := 10000000) only [push_cast, seval, ↓reduceIte, hlt]) | ((with_reducible refine hJ _ _ ?_); clear hJ hKC KC J) | ((with_reducible refine AWP_condF ?_ ?_); · rfl)
      refine ret_plain ?_
      simp (maxSteps := 10000000) only [push_cast, seval, ↓reduceIte, show Try.f247.results = #[(.tmp 4)] from rfl]
      exact leD_v (by rw [idxF_none (fun j hj => hn j hj (by omega))])
theorem containsFuncA_fn (f : Bool) (xs : List (Int × Int)) (cf : Nat) (caps : List D) (p : Int × Int → Bool) (hb : xs.length ≤ 1000) (hc : frz0All caps = true)
    (hp : ∀ x ∈ xs, Fn Try.prog cf (.agg [.v (.int .i64 x.1), .v (.int .i64 x.2)] :: caps) [] (.v (.bool (p x))) []) : Fn Try.prog 170 [.sl f 2 (pRow xs), .fn cf caps] [] (.v (.bool (xs.any p))) [] := by
  have hfn := indexFuncA_fn f xs cf caps p hb hc hp
  refine Fn.of (fn := Try.f170) (by kernel_rfl) rfl (by kernel_rfl) ⟨[.sl f 2 (pRow xs), .fn cf caps, .v undef, .v undef, .v undef, .v undef, .v undef, .v undef, .v undef], []⟩ rfl ?_
  repeat' first | (with_reducible first | refine AWP_seq' ?_ | refine k_normal ?_ | refine AWP_ret ?_) | ((with_reducible refine AWP_reg fun KC J hJ hKC => ?_); simp (maxSteps := 10000000) only [push_cast, seval, ↓reduceIte, idxF_any]) | (refine hKC _ _ _ _ _ (callV0 (hfn) rfl rfl rfl ?_ ?_); (· exact Lq); simp (maxSteps := 10000000) only [push_cast, seval, ↓reduceIte, idxF_any]) | ((with_reducible refine hJ _ _ ?_); clear hJ hKC KC J)
  refine ret_plain ?_
  simp (maxSteps := 10000000) only [push_cast, seval, ↓reduceIte, show Try.f170.results = #[(.tmp 4)] from rfl]
  exact leD_refl _
theorem indexFuncS_fn (f : Bool) (xs : List (Bool × Int × Int)) (cf : Nat) (caps : List D) (p : Bool × Int × Int → Bool) (hb : xs.length ≤ 1000) (hc : frz0All caps = true)
    (hp : ∀ x ∈ xs, Fn Try.prog cf (.agg [.v (.bool x.1), .v (.int .i64 x.2.1), .v (.int .i64 x.2.2)] :: caps) [] (.v (.bool (p x))) []) : Fn Try.prog 248 [.sl f 3 (sRow xs), .fn cf caps] [] (.v (.int .i64 (idxF p xs))) [] := by
  refine Fn.of (fn := Try.f248) (by kernel_rfl) rfl (by kernel_rfl) ⟨[.sl f 3 (sRow xs), .fn cf caps, .v undef, .v undef, .v undef, .v undef, .v undef, .v undef, .v undef, .v undef, .v undef, .v undef, .v undef, .v undef, .v undef, .v undef, .v undef, .v undef, .v undef], []⟩ rfl ?_
  repeat' first | (with_reducible first | refine AWP_seq' ?_ | refine k_normal ?_ | refine AWP_block ?_) | ((with_reducible refine AWP_reg fun KC J hJ hKC => ?_); simp (maxSteps := 10000000) only [push_cast, seval, ↓reduceIte]) | ((with_reducible refine hJ _ _ ?_); clear hJ hKC KC J)
  refine AWP_loopF (γ := {i : Nat // i ≤ xs.length ∧ ∀ (j : Nat) (hj : j < xs.length), j < i → p xs[j] = false}) (fun i => ⟨[.sl f 3 (sRow xs), .fn cf caps, .any, .any, .any, .any, .any, .v (.int .i64 xs.length), .v (.int .i64 i.1), .any, .any, .any, .any, .any, .any, .any, .any, .any, .any], []⟩) (fun i => xs.length - i.1) ⟨0, by simp⟩ ⟨?_, Fq⟩ ?_
  · exact Lq
  · rintro ⟨i, hi, hn⟩
    by_cases hlt : (i : Int) < (xs.length : Int)
    · have hx : xs[i]? = some xs[i] := List.getElem?_eq_getElem (by omega)
      have hfn := hp xs[i] (List.getElem_mem (by omega))
      repeat' first | (with_reducible first | refine AWP_seq' ?_ | refine k_normal ?_ | refine k_ret ?_ | refine b_normal ?_ | refine b_ret ?_ | refine AWP_ret ?_ | refine AWP_skip ?_ | refine AWP_block ?_) | ((with_reducible refine AWP_reg fun KC J hJ hKC => ?_); simp (maxSteps := 10000000) only [push_cast, seval, ↓reduceIte, hlt, getE_s hx, wrapN (i := i) (n := xs.length) (by omega) (by omega)]) | ((with_reducible refine And.intro ?_ ?_); · exact Sq) | (refine hKC _ _ _ _ _ (callV0 (hfn) rfl rfl rfl ?_ ?_); (· exact Lq); simp (maxSteps := 10000000) only [push_cast, seval, ↓reduceIte, hlt, getE_s hx, wrapN (i := i) (n := xs.length) (by omega) (by omega)]) | ((with_reducible refine hJ _ _ ?_); clear hJ hKC KC J) | ((with_reducible refine AWP_condT ?_ ?_); · rfl) | (refine AWP_cond rfl (fun h => ?_) (fun h => ?_) <;> try simp only [decide_eq_true_eq, decide_eq_false_iff_not, Bool.not_eq_true', Bool.not_eq_false', beq_iff_eq, bne_iff_ne, ne_eq, Bool.not_eq_true, Bool.or_eq_true, Bool.and_eq_true, Bool.or_eq_false_iff, Bool.and_eq_false_imp, beq_eq_false_iff_ne, bne_eq_false_iff_eq] at h)
      · refine ret_plain ?_
        simp (maxSteps := 10000000) only [push_cast, seval, ↓reduceIte, show Try.f248.results = #[(.tmp 4)] from rfl]
        exact leD_v (by rw [idxF_at (by omega) h hn])
      · refine ⟨⟨i + 1, by omega, fun j hj hji => ?_⟩, by simp only; omega, ?_, Fq⟩
        · by_cases he : j = i
          · subst he; exact h
          · exact hn j hj (by omega)
        · exact Lq
    · skip
      repeat' first | (with_reducible first | refine AWP_seq' ?_ | refine k_normal ?_ | refine k_exit ?_ | refine b_exit ?_ | refine AWP_ret ?_ | refine AWP_exit ?_) | ((with_reducible refine AWP_reg fun KC J hJ hKC => ?_); simp (maxSteps := 10000000) only [push_cast, seval, ↓reduceIte, hlt]) | ((with_reducible refine hJ _ _ ?_); clear hJ hKC KC J) | ((with_reducible refine AWP_condF ?_ ?_); · rfl)
      refine ret_plain ?_
      simp (maxSteps := 10000000) only [push_cast, seval, ↓reduceIte, show Try.f248.results = #[(.tmp 4)] from rfl]
      exact leD_v (by rw [idxF_none (fun j hj => hn j hj (by omega))])
theorem containsFuncS_fn (f : Bool) (xs : List (Bool × Int × Int)) (cf : Nat) (caps : List D) (p : Bool × Int × Int → Bool) (hb : xs.length ≤ 1000) (hc : frz0All caps = true)
    (hp : ∀ x ∈ xs, Fn Try.prog cf (.agg [.v (.bool x.1), .v (.int .i64 x.2.1), .v (.int .i64 x.2.2)] :: caps) [] (.v (.bool (p x))) []) : Fn Try.prog 172 [.sl f 3 (sRow xs), .fn cf caps] [] (.v (.bool (xs.any p))) [] := by
  have hfn := indexFuncS_fn f xs cf caps p hb hc hp
  refine Fn.of (fn := Try.f172) (by kernel_rfl) rfl (by kernel_rfl) ⟨[.sl f 3 (sRow xs), .fn cf caps, .v undef, .v undef, .v undef, .v undef, .v undef, .v undef, .v undef], []⟩ rfl ?_
  repeat' first | (with_reducible first | refine AWP_seq' ?_ | refine k_normal ?_ | refine AWP_ret ?_) | ((with_reducible refine AWP_reg fun KC J hJ hKC => ?_); simp (maxSteps := 10000000) only [push_cast, seval, ↓reduceIte, idxF_any]) | (refine hKC _ _ _ _ _ (callV0 (hfn) rfl rfl rfl ?_ ?_); (· exact Lq); simp (maxSteps := 10000000) only [push_cast, seval, ↓reduceIte, idxF_any]) | ((with_reducible refine hJ _ _ ?_); clear hJ hKC KC J)
  refine ret_plain ?_
  simp (maxSteps := 10000000) only [push_cast, seval, ↓reduceIte, show Try.f172.results = #[(.tmp 4)] from rfl]
  exact leD_refl _
theorem any_not {α : Type} (p : α → Bool) (l : List α) : (!l.any fun x => !p x) = l.all p := by rw [List.all_eq_not_any_not]
/-- A program that may be. -/
theorem codeRight1_fn (f g : Bool) (ns : List ByteArray) (us : List Nat) (x : Int × Int × Int) : Fn Try.prog 274 [.agg [.v (.int .i64 x.1), .v (.int .i64 x.2.1), .v (.int .i64 x.2.2)], .fad [.sl f 1 (strRow ns), .sl g 1 (u32Row us)]] [] (.v (.bool (!instrB us.length x))) [] := by
  have h1 := codeRight_fn us.length x
  refine Fn.of (fn := Try.f274) (by kernel_rfl) rfl (by kernel_rfl) ⟨[.agg [.v (.int .i64 x.1), .v (.int .i64 x.2.1), .v (.int .i64 x.2.2)], .fad [.sl f 1 (strRow ns), .sl g 1 (u32Row us)], .v undef, .v undef, .v undef, .v undef, .v undef, .v undef, .v undef, .v undef], []⟩ rfl ?_
  repeat' first | (with_reducible first | refine AWP_seq' ?_ | refine k_normal ?_ | refine AWP_ret ?_) | ((with_reducible refine AWP_reg fun KC J hJ hKC => ?_); simp (maxSteps := 10000000) only [push_cast, seval, ↓reduceIte]) | (refine hKC _ _ _ _ _ (callV0 (h1) rfl rfl rfl ?_ ?_); (· exact Lq); simp (maxSteps := 10000000) only [push_cast, seval, ↓reduceIte]) | ((with_reducible refine hJ _ _ ?_); clear hJ hKC KC J)
  refine ret_plain ?_
  simp (maxSteps := 10000000) only [push_cast, seval, ↓reduceIte, show Try.f274.results = #[(.tmp 3)] from rfl]
  exact Lq
theorem apiCode_fn (f g h : Bool) (ns : List ByteArray) (us : List Nat) (c : List (Int × Int × Int)) (hs : Szs ns) (hu : U32 us) (hc : checkF ns us = 0) (hl : c.length ≤ 1000) :
    Fn Try.prog 189 [.agg [.sl f 1 (strRow ns), .sl g 1 (u32Row us)], .sl h 3 (tRow c)] [] (.v (.bool (codeB us.length c))) [] := by
  have h1 := latCheck_fn f g ns us hs hu
  have h2 := containsFuncT_fn h c 274 [.fad [.sl f 1 (strRow ns), .sl g 1 (u32Row us)]] (fun x => !instrB us.length x) hl rfl (fun x _ => codeRight1_fn f g ns us x)
  rw [hc] at h1
  rw [codeB, Bool.and_comm, ← any_not]
  obtain ⟨a, ha⟩ : ∃ a, (c.any fun x => !instrB us.length x) = a := ⟨_, rfl⟩
  rw [ha] at h2 ⊢
  obtain ⟨b, hb⟩ : ∃ b, decide (c.length ≤ 12) = b := ⟨_, rfl⟩
  have hb' : decide ((c.length : Int) ≤ 12) = b := by rw [← hb]; exact decide_eq_decide.2 (by omega)
  rw [hb]
  refine Fn.of (fn := Try.f189) (by kernel_rfl) rfl (by kernel_rfl) ⟨[.agg [.sl f 1 (strRow ns), .sl g 1 (u32Row us)], .sl h 3 (tRow c), .v undef, .v undef, .v undef, .v undef, .v undef, .v undef, .v undef, .v undef, .v undef, .v undef, .v undef, .v undef, .v undef, .v undef, .v undef, .v undef, .v undef, .v undef, .v undef], []⟩ rfl ?_
  cases b
  all_goals
    repeat' first | (refine AWP_freezeR 1 0 rfl (by (simp (maxSteps := 10000000) only [push_cast, seval, ↓reduceIte]) <;> rfl) ?_; simp (maxSteps := 10000000) only [push_cast, seval, ↓reduceIte, frSt, frSlot, fr3, fr2, fr1, fr0, sameB, arrOf, hb', undef]) | (with_reducible first | refine AWP_seq' ?_ | refine k_normal ?_ | refine AWP_ret ?_) | ((with_reducible refine AWP_reg fun KC J hJ hKC => ?_); simp (maxSteps := 10000000) only [push_cast, seval, ↓reduceIte, hb', undef]) | (refine hKC _ _ _ _ _ (callV0 (h1) rfl rfl rfl ?_ ?_); (· exact Lq); simp (maxSteps := 10000000) only [push_cast, seval, ↓reduceIte, hb', undef]) | (refine hKC _ _ _ _ _ (callV0 (h2) rfl rfl rfl ?_ ?_); (· exact Lq); simp (maxSteps := 10000000) only [push_cast, seval, ↓reduceIte, hb', undef]) | ((with_reducible refine hJ _ _ ?_); clear hJ hKC KC J)
    refine ret_plain ?_
    simp (maxSteps := 10000000) only [push_cast, seval, ↓reduceIte, show Try.f189.results = #[(.tmp 4)] from rfl]
    exact Lq
theorem stLabel_fn (f g : Bool) (ns : List ByteArray) (us : List Nat) (a : Int) : Fn Try.prog 184 [.v (.int .i64 a), .fad [.sl f 1 (strRow ns), .sl g 1 (u32Row us)]] [] (.v (.bool (!oddL us.length a))) [] := by
  obtain ⟨x, hx⟩ : ∃ x, decide (0 ≤ a) = x := ⟨_, rfl⟩
  have ho : (!oddL us.length a) = (x && decide (a < (us.length : Int))) := by
    rw [← hx, Bool.eq_iff_iff]; simp [oddL]
  rw [ho]
  refine Fn.of (fn := Try.f184) (by kernel_rfl) rfl (by kernel_rfl) ⟨[.v (.int .i64 a), .fad [.sl f 1 (strRow ns), .sl g 1 (u32Row us)], .v undef, .v undef, .v undef, .v undef, .v undef, .v undef, .v undef, .v undef, .v undef, .v undef, .v undef], []⟩ rfl ?_
  cases x
  all_goals
    repeat' first | (with_reducible first | refine AWP_seq' ?_ | refine k_normal ?_ | refine AWP_ret ?_) | ((with_reducible refine AWP_reg fun KC J hJ hKC => ?_); simp (maxSteps := 10000000) only [push_cast, seval, ↓reduceIte, hx, undef]) | ((with_reducible refine hJ _ _ ?_); clear hJ hKC KC J)
    refine ret_plain ?_
    simp (maxSteps := 10000000) only [push_cast, seval, ↓reduceIte, show Try.f184.results = #[(.tmp 3)] from rfl]
    exact Lq
theorem stValue_fn (n : Int) : Fn Try.prog 186 [.v (.int .i64 n)] [] (.v (.bool (inB (-20) 20 n))) [] := by
  obtain ⟨x, hx⟩ : ∃ x, decide (-20 ≤ n) = x := ⟨_, rfl⟩
  rw [inB, hx]
  refine Fn.of (fn := Try.f186) (by kernel_rfl) rfl (by kernel_rfl) ⟨[.v (.int .i64 n), .v undef, .v undef, .v undef, .v undef, .v undef, .v undef, .v undef, .v undef], []⟩ rfl ?_
  cases x
  all_goals
    repeat' first | (with_reducible first | refine AWP_seq' ?_ | refine k_normal ?_ | refine AWP_ret ?_) | ((with_reducible refine AWP_reg fun KC J hJ hKC => ?_); simp (maxSteps := 10000000) only [push_cast, seval, ↓reduceIte, hx, undef]) | ((with_reducible refine hJ _ _ ?_); clear hJ hKC KC J)
    refine ret_plain ?_
    simp (maxSteps := 10000000) only [push_cast, seval, ↓reduceIte, show Try.f186.results = #[(.tmp 2)] from rfl]
    exact Lq
theorem stPlace_fn (n : Int) : Fn Try.prog 188 [.v (.int .i64 n)] [] (.v (.bool (inB (0) 12 n))) [] := by
  obtain ⟨x, hx⟩ : ∃ x, decide (0 ≤ n) = x := ⟨_, rfl⟩
  rw [inB, hx]
  refine Fn.of (fn := Try.f188) (by kernel_rfl) rfl (by kernel_rfl) ⟨[.v (.int .i64 n), .v undef, .v undef, .v undef, .v undef, .v undef, .v undef, .v undef, .v undef], []⟩ rfl ?_
  cases x
  all_goals
    repeat' first | (with_reducible first | refine AWP_seq' ?_ | refine k_normal ?_ | refine AWP_ret ?_) | ((with_reducible refine AWP_reg fun KC J hJ hKC => ?_); simp (maxSteps := 10000000) only [push_cast, seval, ↓reduceIte, hx, undef]) | ((with_reducible refine hJ _ _ ?_); clear hJ hKC KC J)
    refine ret_plain ?_
    simp (maxSteps := 10000000) only [push_cast, seval, ↓reduceIte, show Try.f188.results = #[(.tmp 2)] from rfl]
    exact Lq
theorem stAtom_fn (f g : Bool) (ns : List ByteArray) (us : List Nat) (x : Int × Int) : Fn Try.prog 185 [.agg [.v (.int .i64 x.1), .v (.int .i64 x.2)], .fad [.fn 184 [.fad [.sl f 1 (strRow ns), .sl g 1 (u32Row us)]]]] [] (.v (.bool (!atomB us.length x))) [] := by
  have h1 := stValue_fn x.1
  have h2 := stLabel_fn f g ns us x.2
  unfold atomB
  obtain ⟨a, ha⟩ : ∃ a, inB (-20) 20 x.1 = a := ⟨_, rfl⟩
  obtain ⟨b, hb⟩ : ∃ b, (!oddL us.length x.2) = b := ⟨_, rfl⟩
  rw [ha] at h1 ⊢
  rw [hb] at h2 ⊢
  refine Fn.of (fn := Try.f185) (by kernel_rfl) rfl (by kernel_rfl) ⟨[.agg [.v (.int .i64 x.1), .v (.int .i64 x.2)], .fad [.fn 184 [.fad [.sl f 1 (strRow ns), .sl g 1 (u32Row us)]]], .v undef, .v undef, .v undef, .v undef, .v undef, .v undef, .v undef, .v undef, .v undef, .v undef, .v undef, .v undef, .v undef], []⟩ rfl ?_
  cases a
  all_goals
    repeat' first | (with_reducible first | refine AWP_seq' ?_ | refine k_normal ?_ | refine AWP_ret ?_) | ((with_reducible refine AWP_reg fun KC J hJ hKC => ?_); simp (maxSteps := 10000000) only [push_cast, seval, ↓reduceIte, undef]) | (refine hKC _ _ _ _ _ (callV0 (h1) rfl rfl rfl ?_ ?_); (· exact Lq); simp (maxSteps := 10000000) only [push_cast, seval, ↓reduceIte, undef]) | (refine hKC _ _ _ _ _ (callV0 (h2) rfl rfl rfl ?_ ?_); (· exact Lq); simp (maxSteps := 10000000) only [push_cast, seval, ↓reduceIte, undef]) | ((with_reducible refine hJ _ _ ?_); clear hJ hKC KC J)
    refine ret_plain ?_
    simp (maxSteps := 10000000) only [push_cast, seval, ↓reduceIte, show Try.f185.results = #[(.tmp 3)] from rfl]
    exact Lq
theorem stSlot_fn (f g : Bool) (ns : List ByteArray) (us : List Nat) (x : Bool × Int × Int) : Fn Try.prog 187 [.agg [.v (.bool x.1), .v (.int .i64 x.2.1), .v (.int .i64 x.2.2)], .fad [.fn 184 [.fad [.sl f 1 (strRow ns), .sl g 1 (u32Row us)]]]] [] (.v (.bool (!slotB us.length x))) [] := by
  obtain ⟨r, v, l⟩ := x
  have h1 := stValue_fn v
  have h3 := stPlace_fn v
  have h2 := stLabel_fn f g ns us l
  simp only [slotB]
  obtain ⟨a, ha⟩ : ∃ a, inB (-20) 20 v = a := ⟨_, rfl⟩
  obtain ⟨c, hc⟩ : ∃ c, inB 0 12 v = c := ⟨_, rfl⟩
  obtain ⟨b, hb⟩ : ∃ b, (!oddL us.length l) = b := ⟨_, rfl⟩
  rw [ha] at h1 ⊢
  rw [hc] at h3 ⊢
  rw [hb] at h2 ⊢
  cases b
  case false =>
    refine Fn.of (fn := Try.f187) (by kernel_rfl) rfl (by kernel_rfl) ⟨[.agg [.v (.bool r), .v (.int .i64 v), .v (.int .i64 l)], .fad [.fn 184 [.fad [.sl f 1 (strRow ns), .sl g 1 (u32Row us)]]], .v undef, .v undef, .v undef, .v undef, .v undef, .v undef, .v undef, .v undef, .v undef, .v undef, .v undef, .v undef, .v undef, .v undef, .v undef, .v undef, .v undef, .v undef, .v undef, .v undef, .v undef, .v undef, .v undef, .v undef, .v undef, .v undef, .v undef, .v undef], []⟩ rfl ?_
    repeat' first | (with_reducible first | refine AWP_seq' ?_ | refine k_normal ?_ | refine AWP_ret ?_) | ((with_reducible refine AWP_reg fun KC J hJ hKC => ?_); simp (maxSteps := 10000000) only [push_cast, seval, ↓reduceIte, undef]) | (refine hKC _ _ _ _ _ (callV0 (h2) rfl rfl rfl ?_ ?_); (· exact Lq); simp (maxSteps := 10000000) only [push_cast, seval, ↓reduceIte, undef]) | ((with_reducible refine hJ _ _ ?_); clear hJ hKC KC J)
    refine ret_plain ?_
    simp (maxSteps := 10000000) only [push_cast, seval, ↓reduceIte, show Try.f187.results = #[(.tmp 3)] from rfl]
    exact Lq
  cases r
  case false =>
    cases a
    all_goals
      refine Fn.of (fn := Try.f187) (by kernel_rfl) rfl (by kernel_rfl) ⟨[.agg [.v (.bool false), .v (.int .i64 v), .v (.int .i64 l)], .fad [.fn 184 [.fad [.sl f 1 (strRow ns), .sl g 1 (u32Row us)]]], .v undef, .v undef, .v undef, .v undef, .v undef, .v undef, .v undef, .v undef, .v undef, .v undef, .v undef, .v undef, .v undef, .v undef, .v undef, .v undef, .v undef, .v undef, .v undef, .v undef, .v undef, .v undef, .v undef, .v undef, .v undef, .v undef, .v undef, .v undef], []⟩ rfl ?_
      repeat' first | (with_reducible first | refine AWP_seq' ?_ | refine k_normal ?_ | refine AWP_ret ?_) | ((with_reducible refine AWP_reg fun KC J hJ hKC => ?_); simp (maxSteps := 10000000) only [push_cast, seval, ↓reduceIte, undef]) | (refine hKC _ _ _ _ _ (callV0 (h1) rfl rfl rfl ?_ ?_); (· exact Lq); simp (maxSteps := 10000000) only [push_cast, seval, ↓reduceIte, undef]) | (refine hKC _ _ _ _ _ (callV0 (h2) rfl rfl rfl ?_ ?_); (· exact Lq); simp (maxSteps := 10000000) only [push_cast, seval, ↓reduceIte, undef]) | ((with_reducible refine hJ _ _ ?_); clear hJ hKC KC J)
      refine ret_plain ?_
      simp (maxSteps := 10000000) only [push_cast, seval, ↓reduceIte, show Try.f187.results = #[(.tmp 3)] from rfl]
      exact Lq
  cases c
  all_goals
    refine Fn.of (fn := Try.f187) (by kernel_rfl) rfl (by kernel_rfl) ⟨[.agg [.v (.bool true), .v (.int .i64 v), .v (.int .i64 l)], .fad [.fn 184 [.fad [.sl f 1 (strRow ns), .sl g 1 (u32Row us)]]], .v undef, .v undef, .v undef, .v undef, .v undef, .v undef, .v undef, .v undef, .v undef, .v undef, .v undef, .v undef, .v undef, .v undef, .v undef, .v undef, .v undef, .v undef, .v undef, .v undef, .v undef, .v undef, .v undef, .v undef, .v undef, .v undef, .v undef, .v undef], []⟩ rfl ?_
    repeat' first | (with_reducible first | refine AWP_seq' ?_ | refine k_normal ?_ | refine AWP_ret ?_) | ((with_reducible refine AWP_reg fun KC J hJ hKC => ?_); simp (maxSteps := 10000000) only [push_cast, seval, ↓reduceIte, undef]) | (refine hKC _ _ _ _ _ (callV0 (h2) rfl rfl rfl ?_ ?_); (· exact Lq); simp (maxSteps := 10000000) only [push_cast, seval, ↓reduceIte, undef]) | (refine hKC _ _ _ _ _ (callV0 (h3) rfl rfl rfl ?_ ?_); (· exact Lq); simp (maxSteps := 10000000) only [push_cast, seval, ↓reduceIte, undef]) | ((with_reducible refine hJ _ _ ?_); clear hJ hKC KC J)
    refine ret_plain ?_
    simp (maxSteps := 10000000) only [push_cast, seval, ↓reduceIte, show Try.f187.results = #[(.tmp 3)] from rfl]
    exact Lq
theorem staB_eq (n : Nat) (s : Sta) : staB n s = (codeB n s.code && (inB 0 12 s.v && (!oddL n s.l && ((decide (s.mem.length ≤ 6) && (decide (s.stack.length ≤ 12) && decide (s.out.length ≤ 8))) && (s.mem.all (atomB n) && (s.stack.all (slotB n) && s.out.all (atomB n))))))) := by
  unfold staB
  cases codeB n s.code <;> cases inB 0 12 s.v <;> cases oddL n s.l <;> cases s.mem.all (atomB n) <;> cases decide (s.mem.length ≤ 6) <;> cases s.stack.all (slotB n) <;> cases decide (s.stack.length ≤ 12) <;> cases s.out.all (atomB n) <;> cases decide (s.out.length ≤ 8) <;> rfl
set_option maxHeartbeats 8000000 in
theorem stRight_fn (f g : Bool) (ns : List ByteArray) (us : List Nat) (s : Sta) (hs : Szs ns) (hu : U32 us) (hc : checkF ns us = 0) (hl : Sml s) :
    Fn Try.prog 93 [.agg [.sl f 1 (strRow ns), .sl g 1 (u32Row us)], .agg (staF false false false false s)] [] (.v (.bool (staB us.length s))) [] := by
  obtain ⟨l1, l2, l3, l4⟩ := hl
  have h1 := apiCode_fn f g false ns us s.code hs hu hc l1
  have h2 := stPlace_fn s.v
  have h3 := stLabel_fn f g ns us s.l
  have h4 := containsFuncA_fn false s.mem 185 [.fad [.fn 184 [.fad [.sl f 1 (strRow ns), .sl g 1 (u32Row us)]]]] (fun x => !atomB us.length x) l2 rfl (fun x _ => stAtom_fn f g ns us x)
  have h5 := containsFuncS_fn false s.stack 187 [.fad [.fn 184 [.fad [.sl f 1 (strRow ns), .sl g 1 (u32Row us)]]]] (fun x => !slotB us.length x) l3 rfl (fun x _ => stSlot_fn f g ns us x)
  have h6 := containsFuncA_fn false s.out 185 [.fad [.fn 184 [.fad [.sl f 1 (strRow ns), .sl g 1 (u32Row us)]]]] (fun x => !atomB us.length x) l4 rfl (fun x _ => stAtom_fn f g ns us x)
  rw [staB_eq, ← any_not, ← any_not, ← any_not]
  obtain ⟨c1, hc1⟩ : ∃ x, codeB us.length s.code = x := ⟨_, rfl⟩
  obtain ⟨c2, hc2⟩ : ∃ x, inB 0 12 s.v = x := ⟨_, rfl⟩
  obtain ⟨c3, hc3⟩ : ∃ x, (!oddL us.length s.l) = x := ⟨_, rfl⟩
  obtain ⟨d1, hd1⟩ : ∃ x, decide (s.mem.length ≤ 6) = x := ⟨_, rfl⟩
  obtain ⟨d2, hd2⟩ : ∃ x, decide (s.stack.length ≤ 12) = x := ⟨_, rfl⟩
  obtain ⟨d3, hd3⟩ : ∃ x, decide (s.out.length ≤ 8) = x := ⟨_, rfl⟩
  obtain ⟨c5, hc5⟩ : ∃ x, (s.mem.any fun x => !atomB us.length x) = x := ⟨_, rfl⟩
  obtain ⟨c6, hc6⟩ : ∃ x, (s.stack.any fun x => !slotB us.length x) = x := ⟨_, rfl⟩
  obtain ⟨c7, hc7⟩ : ∃ x, (s.out.any fun x => !atomB us.length x) = x := ⟨_, rfl⟩
  have hd1' : decide ((s.mem.length : Int) ≤ 6) = d1 := by rw [← hd1]; exact decide_eq_decide.2 (by omega)
  have hd2' : decide ((s.stack.length : Int) ≤ 12) = d2 := by rw [← hd2]; exact decide_eq_decide.2 (by omega)
  have hd3' : decide ((s.out.length : Int) ≤ 8) = d3 := by rw [← hd3]; exact decide_eq_decide.2 (by omega)
  rw [hc1] at h1 ⊢
  rw [hc2] at h2 ⊢
  rw [hc3] at h3 ⊢
  rw [hc5] at h4 ⊢
  rw [hc6] at h5 ⊢
  rw [hc7] at h6 ⊢
  rw [hd1, hd2, hd3]
  simp only [staF]
  refine Fn.of (fn := Try.f93) (by kernel_rfl) rfl (by kernel_rfl) ⟨[.agg [.sl f 1 (strRow ns), .sl g 1 (u32Row us)], .agg [.v (.int .i64 s.v), .v (.int .i64 s.l), .sl false 3 (tRow s.code), .sl false 2 (pRow s.mem), .sl false 3 (sRow s.stack), .sl false 2 (pRow s.out)], .v undef, .v undef, .v undef, .v undef, .v undef, .v undef, .v undef, .v undef, .v undef, .v undef, .v undef, .v undef, .v undef, .v undef, .v undef, .v undef, .v undef, .v undef, .v undef, .v undef, .v undef, .v undef, .v undef, .v undef, .v undef, .v undef, .v undef, .v undef, .v undef, .v undef, .v undef, .v undef, .v undef, .v undef, .v undef, .v undef, .v undef, .v undef, .v undef, .v undef, .v undef, .v undef, .v undef, .v undef, .v undef, .v undef, .v undef, .v undef, .v undef, .v undef, .v undef, .v undef, .v undef, .v undef, .v undef, .v undef, .v undef, .v undef, .v undef, .v undef, .v undef, .v undef, .v undef, .v undef, .v undef, .v undef, .v undef], []⟩ rfl ?_
  cases c1
  case false =>
    cases d1 <;> cases d2
    all_goals
      repeat' first | (refine AWP_freezeR 1 0 rfl (by (simp (maxSteps := 10000000) only [push_cast, seval, ↓reduceIte]) <;> rfl) ?_; simp (maxSteps := 10000000) only [push_cast, seval, ↓reduceIte, frSt, frSlot, fr3, fr2, fr1, fr0, sameB, arrOf, hd1', hd2', hd3', undef]) | (refine AWP_freezeR 2 2 rfl (by (simp (maxSteps := 10000000) only [push_cast, seval, ↓reduceIte]) <;> rfl) ?_; simp (maxSteps := 10000000) only [push_cast, seval, ↓reduceIte, frSt, frSlot, fr3, fr2, fr1, fr0, sameB, arrOf, hd1', hd2', hd3', undef]) | (with_reducible first | refine AWP_seq' ?_ | refine k_normal ?_ | refine AWP_ret ?_) | ((with_reducible refine AWP_reg fun KC J hJ hKC => ?_); simp (maxSteps := 10000000) only [push_cast, seval, ↓reduceIte, hd1', hd2', hd3', undef]) | (refine hKC _ _ _ _ _ (callV0 (h1) rfl rfl rfl ?_ ?_); (· exact Lq); simp (maxSteps := 10000000) only [push_cast, seval, ↓reduceIte, hd1', hd2', hd3', undef]) | ((with_reducible refine hJ _ _ ?_); clear hJ hKC KC J)
      refine ret_plain ?_
      simp (maxSteps := 10000000) only [push_cast, seval, ↓reduceIte, show Try.f93.results = #[(.tmp 4)] from rfl]
      exact Lq
  cases c2
  case false =>
    cases d1 <;> cases d2
    all_goals
      repeat' first | (refine AWP_freezeR 1 0 rfl (by (simp (maxSteps := 10000000) only [push_cast, seval, ↓reduceIte]) <;> rfl) ?_; simp (maxSteps := 10000000) only [push_cast, seval, ↓reduceIte, frSt, frSlot, fr3, fr2, fr1, fr0, sameB, arrOf, hd1', hd2', hd3', undef]) | (refine AWP_freezeR 2 2 rfl (by (simp (maxSteps := 10000000) only [push_cast, seval, ↓reduceIte]) <;> rfl) ?_; simp (maxSteps := 10000000) only [push_cast, seval, ↓reduceIte, frSt, frSlot, fr3, fr2, fr1, fr0, sameB, arrOf, hd1', hd2', hd3', undef]) | (with_reducible first | refine AWP_seq' ?_ | refine k_normal ?_ | refine AWP_ret ?_) | ((with_reducible refine AWP_reg fun KC J hJ hKC => ?_); simp (maxSteps := 10000000) only [push_cast, seval, ↓reduceIte, hd1', hd2', hd3', undef]) | (refine hKC _ _ _ _ _ (callV0 (h1) rfl rfl rfl ?_ ?_); (· exact Lq); simp (maxSteps := 10000000) only [push_cast, seval, ↓reduceIte, hd1', hd2', hd3', undef]) | (refine hKC _ _ _ _ _ (callV0 (h2) rfl rfl rfl ?_ ?_); (· exact Lq); simp (maxSteps := 10000000) only [push_cast, seval, ↓reduceIte, hd1', hd2', hd3', undef]) | ((with_reducible refine hJ _ _ ?_); clear hJ hKC KC J)
      refine ret_plain ?_
      simp (maxSteps := 10000000) only [push_cast, seval, ↓reduceIte, show Try.f93.results = #[(.tmp 4)] from rfl]
      exact Lq
  cases c3
  case false =>
    cases d1 <;> cases d2
    all_goals
      repeat' first | (refine AWP_freezeR 1 0 rfl (by (simp (maxSteps := 10000000) only [push_cast, seval, ↓reduceIte]) <;> rfl) ?_; simp (maxSteps := 10000000) only [push_cast, seval, ↓reduceIte, frSt, frSlot, fr3, fr2, fr1, fr0, sameB, arrOf, hd1', hd2', hd3', undef]) | (refine AWP_freezeR 2 2 rfl (by (simp (maxSteps := 10000000) only [push_cast, seval, ↓reduceIte]) <;> rfl) ?_; simp (maxSteps := 10000000) only [push_cast, seval, ↓reduceIte, frSt, frSlot, fr3, fr2, fr1, fr0, sameB, arrOf, hd1', hd2', hd3', undef]) | (with_reducible first | refine AWP_seq' ?_ | refine k_normal ?_ | refine AWP_ret ?_) | ((with_reducible refine AWP_reg fun KC J hJ hKC => ?_); simp (maxSteps := 10000000) only [push_cast, seval, ↓reduceIte, hd1', hd2', hd3', undef]) | (refine hKC _ _ _ _ _ (callV0 (h1) rfl rfl rfl ?_ ?_); (· exact Lq); simp (maxSteps := 10000000) only [push_cast, seval, ↓reduceIte, hd1', hd2', hd3', undef]) | (refine hKC _ _ _ _ _ (callV0 (h2) rfl rfl rfl ?_ ?_); (· exact Lq); simp (maxSteps := 10000000) only [push_cast, seval, ↓reduceIte, hd1', hd2', hd3', undef]) | (refine hKC _ _ _ _ _ (callV0 (h3) rfl rfl rfl ?_ ?_); (· exact Lq); simp (maxSteps := 10000000) only [push_cast, seval, ↓reduceIte, hd1', hd2', hd3', undef]) | ((with_reducible refine hJ _ _ ?_); clear hJ hKC KC J)
      refine ret_plain ?_
      simp (maxSteps := 10000000) only [push_cast, seval, ↓reduceIte, show Try.f93.results = #[(.tmp 4)] from rfl]
      exact Lq
  cases d1
  case false =>
    repeat' first | (refine AWP_freezeR 1 0 rfl (by (simp (maxSteps := 10000000) only [push_cast, seval, ↓reduceIte]) <;> rfl) ?_; simp (maxSteps := 10000000) only [push_cast, seval, ↓reduceIte, frSt, frSlot, fr3, fr2, fr1, fr0, sameB, arrOf, hd1', hd2', hd3', undef]) | (refine AWP_freezeR 2 2 rfl (by (simp (maxSteps := 10000000) only [push_cast, seval, ↓reduceIte]) <;> rfl) ?_; simp (maxSteps := 10000000) only [push_cast, seval, ↓reduceIte, frSt, frSlot, fr3, fr2, fr1, fr0, sameB, arrOf, hd1', hd2', hd3', undef]) | (with_reducible first | refine AWP_seq' ?_ | refine k_normal ?_ | refine AWP_ret ?_) | ((with_reducible refine AWP_reg fun KC J hJ hKC => ?_); simp (maxSteps := 10000000) only [push_cast, seval, ↓reduceIte, hd1', hd2', hd3', undef]) | (refine hKC _ _ _ _ _ (callV0 (h1) rfl rfl rfl ?_ ?_); (· exact Lq); simp (maxSteps := 10000000) only [push_cast, seval, ↓reduceIte, hd1', hd2', hd3', undef]) | (refine hKC _ _ _ _ _ (callV0 (h2) rfl rfl rfl ?_ ?_); (· exact Lq); simp (maxSteps := 10000000) only [push_cast, seval, ↓reduceIte, hd1', hd2', hd3', undef]) | (refine hKC _ _ _ _ _ (callV0 (h3) rfl rfl rfl ?_ ?_); (· exact Lq); simp (maxSteps := 10000000) only [push_cast, seval, ↓reduceIte, hd1', hd2', hd3', undef]) | ((with_reducible refine hJ _ _ ?_); clear hJ hKC KC J)
    refine ret_plain ?_
    simp (maxSteps := 10000000) only [push_cast, seval, ↓reduceIte, show Try.f93.results = #[(.tmp 4)] from rfl]
    exact Lq
  cases d2
  case false =>
    repeat' first | (refine AWP_freezeR 1 0 rfl (by (simp (maxSteps := 10000000) only [push_cast, seval, ↓reduceIte]) <;> rfl) ?_; simp (maxSteps := 10000000) only [push_cast, seval, ↓reduceIte, frSt, frSlot, fr3, fr2, fr1, fr0, sameB, arrOf, hd1', hd2', hd3', undef]) | (refine AWP_freezeR 2 2 rfl (by (simp (maxSteps := 10000000) only [push_cast, seval, ↓reduceIte]) <;> rfl) ?_; simp (maxSteps := 10000000) only [push_cast, seval, ↓reduceIte, frSt, frSlot, fr3, fr2, fr1, fr0, sameB, arrOf, hd1', hd2', hd3', undef]) | (with_reducible first | refine AWP_seq' ?_ | refine k_normal ?_ | refine AWP_ret ?_) | ((with_reducible refine AWP_reg fun KC J hJ hKC => ?_); simp (maxSteps := 10000000) only [push_cast, seval, ↓reduceIte, hd1', hd2', hd3', undef]) | (refine hKC _ _ _ _ _ (callV0 (h1) rfl rfl rfl ?_ ?_); (· exact Lq); simp (maxSteps := 10000000) only [push_cast, seval, ↓reduceIte, hd1', hd2', hd3', undef]) | (refine hKC _ _ _ _ _ (callV0 (h2) rfl rfl rfl ?_ ?_); (· exact Lq); simp (maxSteps := 10000000) only [push_cast, seval, ↓reduceIte, hd1', hd2', hd3', undef]) | (refine hKC _ _ _ _ _ (callV0 (h3) rfl rfl rfl ?_ ?_); (· exact Lq); simp (maxSteps := 10000000) only [push_cast, seval, ↓reduceIte, hd1', hd2', hd3', undef]) | ((with_reducible refine hJ _ _ ?_); clear hJ hKC KC J)
    refine ret_plain ?_
    simp (maxSteps := 10000000) only [push_cast, seval, ↓reduceIte, show Try.f93.results = #[(.tmp 4)] from rfl]
    exact Lq
  cases d3
  case false =>
    repeat' first | (refine AWP_freezeR 1 0 rfl (by (simp (maxSteps := 10000000) only [push_cast, seval, ↓reduceIte]) <;> rfl) ?_; simp (maxSteps := 10000000) only [push_cast, seval, ↓reduceIte, frSt, frSlot, fr3, fr2, fr1, fr0, sameB, arrOf, hd1', hd2', hd3', undef]) | (refine AWP_freezeR 2 2 rfl (by (simp (maxSteps := 10000000) only [push_cast, seval, ↓reduceIte]) <;> rfl) ?_; simp (maxSteps := 10000000) only [push_cast, seval, ↓reduceIte, frSt, frSlot, fr3, fr2, fr1, fr0, sameB, arrOf, hd1', hd2', hd3', undef]) | (with_reducible first | refine AWP_seq' ?_ | refine k_normal ?_ | refine AWP_ret ?_) | ((with_reducible refine AWP_reg fun KC J hJ hKC => ?_); simp (maxSteps := 10000000) only [push_cast, seval, ↓reduceIte, hd1', hd2', hd3', undef]) | (refine hKC _ _ _ _ _ (callV0 (h1) rfl rfl rfl ?_ ?_); (· exact Lq); simp (maxSteps := 10000000) only [push_cast, seval, ↓reduceIte, hd1', hd2', hd3', undef]) | (refine hKC _ _ _ _ _ (callV0 (h2) rfl rfl rfl ?_ ?_); (· exact Lq); simp (maxSteps := 10000000) only [push_cast, seval, ↓reduceIte, hd1', hd2', hd3', undef]) | (refine hKC _ _ _ _ _ (callV0 (h3) rfl rfl rfl ?_ ?_); (· exact Lq); simp (maxSteps := 10000000) only [push_cast, seval, ↓reduceIte, hd1', hd2', hd3', undef]) | ((with_reducible refine hJ _ _ ?_); clear hJ hKC KC J)
    refine ret_plain ?_
    simp (maxSteps := 10000000) only [push_cast, seval, ↓reduceIte, show Try.f93.results = #[(.tmp 4)] from rfl]
    exact Lq
  cases c5
  case true =>
    repeat' first | (refine AWP_freezeR 1 0 rfl (by (simp (maxSteps := 10000000) only [push_cast, seval, ↓reduceIte]) <;> rfl) ?_; simp (maxSteps := 10000000) only [push_cast, seval, ↓reduceIte, frSt, frSlot, fr3, fr2, fr1, fr0, sameB, arrOf, hd1', hd2', hd3', undef]) | (refine AWP_freezeR 2 2 rfl (by (simp (maxSteps := 10000000) only [push_cast, seval, ↓reduceIte]) <;> rfl) ?_; simp (maxSteps := 10000000) only [push_cast, seval, ↓reduceIte, frSt, frSlot, fr3, fr2, fr1, fr0, sameB, arrOf, hd1', hd2', hd3', undef]) | (with_reducible first | refine AWP_seq' ?_ | refine k_normal ?_ | refine AWP_ret ?_) | ((with_reducible refine AWP_reg fun KC J hJ hKC => ?_); simp (maxSteps := 10000000) only [push_cast, seval, ↓reduceIte, hd1', hd2', hd3', undef]) | (refine hKC _ _ _ _ _ (callV0 (h1) rfl rfl rfl ?_ ?_); (· exact Lq); simp (maxSteps := 10000000) only [push_cast, seval, ↓reduceIte, hd1', hd2', hd3', undef]) | (refine hKC _ _ _ _ _ (callV0 (h2) rfl rfl rfl ?_ ?_); (· exact Lq); simp (maxSteps := 10000000) only [push_cast, seval, ↓reduceIte, hd1', hd2', hd3', undef]) | (refine hKC _ _ _ _ _ (callV0 (h3) rfl rfl rfl ?_ ?_); (· exact Lq); simp (maxSteps := 10000000) only [push_cast, seval, ↓reduceIte, hd1', hd2', hd3', undef]) | (refine hKC _ _ _ _ _ (callV0 (h4) rfl rfl rfl ?_ ?_); (· exact Lq); simp (maxSteps := 10000000) only [push_cast, seval, ↓reduceIte, hd1', hd2', hd3', undef]) | ((with_reducible refine hJ _ _ ?_); clear hJ hKC KC J)
    refine ret_plain ?_
    simp (maxSteps := 10000000) only [push_cast, seval, ↓reduceIte, show Try.f93.results = #[(.tmp 4)] from rfl]
    exact Lq
  cases c6
  case true =>
    repeat' first | (refine AWP_freezeR 1 0 rfl (by (simp (maxSteps := 10000000) only [push_cast, seval, ↓reduceIte]) <;> rfl) ?_; simp (maxSteps := 10000000) only [push_cast, seval, ↓reduceIte, frSt, frSlot, fr3, fr2, fr1, fr0, sameB, arrOf, hd1', hd2', hd3', undef]) | (refine AWP_freezeR 2 2 rfl (by (simp (maxSteps := 10000000) only [push_cast, seval, ↓reduceIte]) <;> rfl) ?_; simp (maxSteps := 10000000) only [push_cast, seval, ↓reduceIte, frSt, frSlot, fr3, fr2, fr1, fr0, sameB, arrOf, hd1', hd2', hd3', undef]) | (with_reducible first | refine AWP_seq' ?_ | refine k_normal ?_ | refine AWP_ret ?_) | ((with_reducible refine AWP_reg fun KC J hJ hKC => ?_); simp (maxSteps := 10000000) only [push_cast, seval, ↓reduceIte, hd1', hd2', hd3', undef]) | (refine hKC _ _ _ _ _ (callV0 (h1) rfl rfl rfl ?_ ?_); (· exact Lq); simp (maxSteps := 10000000) only [push_cast, seval, ↓reduceIte, hd1', hd2', hd3', undef]) | (refine hKC _ _ _ _ _ (callV0 (h2) rfl rfl rfl ?_ ?_); (· exact Lq); simp (maxSteps := 10000000) only [push_cast, seval, ↓reduceIte, hd1', hd2', hd3', undef]) | (refine hKC _ _ _ _ _ (callV0 (h3) rfl rfl rfl ?_ ?_); (· exact Lq); simp (maxSteps := 10000000) only [push_cast, seval, ↓reduceIte, hd1', hd2', hd3', undef]) | (refine hKC _ _ _ _ _ (callV0 (h4) rfl rfl rfl ?_ ?_); (· exact Lq); simp (maxSteps := 10000000) only [push_cast, seval, ↓reduceIte, hd1', hd2', hd3', undef]) | (refine hKC _ _ _ _ _ (callV0 (h5) rfl rfl rfl ?_ ?_); (· exact Lq); simp (maxSteps := 10000000) only [push_cast, seval, ↓reduceIte, hd1', hd2', hd3', undef]) | ((with_reducible refine hJ _ _ ?_); clear hJ hKC KC J)
    refine ret_plain ?_
    simp (maxSteps := 10000000) only [push_cast, seval, ↓reduceIte, show Try.f93.results = #[(.tmp 4)] from rfl]
    exact Lq
  repeat' first | (refine AWP_freezeR 1 0 rfl (by (simp (maxSteps := 10000000) only [push_cast, seval, ↓reduceIte]) <;> rfl) ?_; simp (maxSteps := 10000000) only [push_cast, seval, ↓reduceIte, frSt, frSlot, fr3, fr2, fr1, fr0, sameB, arrOf, hd1', hd2', hd3', undef]) | (refine AWP_freezeR 2 2 rfl (by (simp (maxSteps := 10000000) only [push_cast, seval, ↓reduceIte]) <;> rfl) ?_; simp (maxSteps := 10000000) only [push_cast, seval, ↓reduceIte, frSt, frSlot, fr3, fr2, fr1, fr0, sameB, arrOf, hd1', hd2', hd3', undef]) | (with_reducible first | refine AWP_seq' ?_ | refine k_normal ?_ | refine AWP_ret ?_) | ((with_reducible refine AWP_reg fun KC J hJ hKC => ?_); simp (maxSteps := 10000000) only [push_cast, seval, ↓reduceIte, hd1', hd2', hd3', undef]) | (refine hKC _ _ _ _ _ (callV0 (h1) rfl rfl rfl ?_ ?_); (· exact Lq); simp (maxSteps := 10000000) only [push_cast, seval, ↓reduceIte, hd1', hd2', hd3', undef]) | (refine hKC _ _ _ _ _ (callV0 (h2) rfl rfl rfl ?_ ?_); (· exact Lq); simp (maxSteps := 10000000) only [push_cast, seval, ↓reduceIte, hd1', hd2', hd3', undef]) | (refine hKC _ _ _ _ _ (callV0 (h3) rfl rfl rfl ?_ ?_); (· exact Lq); simp (maxSteps := 10000000) only [push_cast, seval, ↓reduceIte, hd1', hd2', hd3', undef]) | (refine hKC _ _ _ _ _ (callV0 (h4) rfl rfl rfl ?_ ?_); (· exact Lq); simp (maxSteps := 10000000) only [push_cast, seval, ↓reduceIte, hd1', hd2', hd3', undef]) | (refine hKC _ _ _ _ _ (callV0 (h5) rfl rfl rfl ?_ ?_); (· exact Lq); simp (maxSteps := 10000000) only [push_cast, seval, ↓reduceIte, hd1', hd2', hd3', undef]) | (refine hKC _ _ _ _ _ (callV0 (h6) rfl rfl rfl ?_ ?_); (· exact Lq); simp (maxSteps := 10000000) only [push_cast, seval, ↓reduceIte, hd1', hd2', hd3', undef]) | ((with_reducible refine hJ _ _ ?_); clear hJ hKC KC J)
  refine ret_plain ?_
  simp (maxSteps := 10000000) only [push_cast, seval, ↓reduceIte, show Try.f93.results = #[(.tmp 4)] from rfl]
  exact Lq
end Go.Proofs.Ytabliglgeiajlaa.AM
