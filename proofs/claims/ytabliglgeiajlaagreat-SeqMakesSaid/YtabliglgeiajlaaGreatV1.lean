/- Lattices: bits, names, rows. -/
import Derived.Test.YtabliglgeiajlaaGreatU0
set_option linter.unusedSimpArgs false
set_option linter.unusedVariables false
namespace Go.Proofs.YtabliglgeiajlaaGreat.AM
open Go Go.RowKit Go.Proofs
set_option maxRecDepth 100000
set_option maxHeartbeats 400000

/-! ### Bytes -/
theorem ba_loop (b : ByteArray) (i : Nat) (r : List UInt8) : ByteArray.toList.loop b i r = r.reverse ++ b.data.toList.drop i := by
  fun_induction ByteArray.toList.loop b i r with
  | case1 i r h ih =>
    rw [ih]
    have hi : i < b.data.toList.length := by simpa using h
    rw [List.drop_eq_getElem_cons hi]
    have : b.get! i = b.data.toList[i] := by
      simp [ByteArray.get!]
      rw [getElem!_pos]
    simp [this]
  | case2 i r h =>
    have : b.data.toList.length ≤ i := by simpa using h
    rw [List.drop_eq_nil_of_le this]; simp
theorem ba_toList (b : ByteArray) : b.toList = b.data.toList := by
  unfold ByteArray.toList
  rw [ba_loop]; simp
@[push_cast] theorem ba_beq {a b : ByteArray} : (a.toList == b.toList) = decide (a = b) := by
  rw [ba_toList, ba_toList, Bool.eq_iff_iff]
  simp
  constructor
  · intro h; cases a; cases b; simp_all
  · intro h; rw [h]

/-! ### Bits of 32 -/
theorem wrap_u32 {n : Int} (h0 : 0 ≤ n) (h : n < 4294967296) : IntKind.u32.wrap n = n := by
  simp [IntKind.wrap, IntKind.signed, IntKind.bits, BitVec.toNat_ofInt]
  omega
theorem ishr_u32 {a b : Nat} (h : a < 2 ^ 32) : ishr .u32 (a : Int) (b : Int) = ((a >>> b : Nat) : Int) := by
  show (a : Int).fdiv (2 ^ min (b : Int).toNat 32) = _
  rw [Int.toNat_natCast, Int.fdiv_eq_ediv_of_nonneg _ (Int.pow_nonneg (by decide)), Nat.shiftRight_eq_div_pow]
  rcases Nat.le_total b 32 with hb | hb
  · rw [Nat.min_eq_left hb]; simp
  · rw [Nat.min_eq_right hb]
    have h1 : a / 2 ^ b = 0 := Nat.div_eq_of_lt (Nat.lt_of_lt_of_le h (Nat.pow_le_pow_right (by decide) hb))
    have h2 : (a : Int) / 2 ^ 32 = ((a / 2 ^ 32 : Nat) : Int) := by simp
    rw [h1, h2, Nat.div_eq_of_lt h]
theorem bv_u32 {a : Nat} (h : a < 2 ^ 32) : (BitVec.ofInt 32 (a : Int)).toNat = a := by
  rw [BitVec.toNat_ofInt]
  have : ((a : Int) % ((2 ^ 32 : Nat) : Int)).toNat = a % 2 ^ 32 := by omega
  rw [this, Nat.mod_eq_of_lt h]
theorem and_u32 {a b : Nat} (ha : a < 2 ^ 32) (hb : b < 2 ^ 32) : ibits .and .u32 (a : Int) (b : Int) = ((a &&& b : Nat) : Int) := by
  show IntKind.u32.wrap ((BitVec.ofInt 32 (a : Int) &&& BitVec.ofInt 32 (b : Int)).toNat : Int) = _
  rw [BitVec.toNat_and, bv_u32 ha, bv_u32 hb]
  have : a &&& b ≤ a := Nat.and_le_left
  exact wrap_u32 (by omega) (by omega)
theorem or_u32 {a b : Nat} (ha : a < 2 ^ 32) (hb : b < 2 ^ 32) : ibits .or .u32 (a : Int) (b : Int) = ((a ||| b : Nat) : Int) := by
  show IntKind.u32.wrap ((BitVec.ofInt 32 (a : Int) ||| BitVec.ofInt 32 (b : Int)).toNat : Int) = _
  rw [BitVec.toNat_or, bv_u32 ha, bv_u32 hb]
  have : a ||| b < 2 ^ 32 := Nat.or_lt_two_pow ha hb
  exact wrap_u32 (by omega) (by omega)
/-- The bits of a that b has not. -/
def anB (a b : Nat) : Nat := a &&& (4294967295 - b)
theorem anB_lt {a b : Nat} (ha : a < 2 ^ 32) : anB a b < 2 ^ 32 := Nat.lt_of_le_of_lt Nat.and_le_left ha
theorem an_u32 {a b : Nat} (ha : a < 2 ^ 32) (hb : b < 2 ^ 32) : ibits .andNot .u32 (a : Int) (b : Int) = ((anB a b : Nat) : Int) := by
  show IntKind.u32.wrap ((BitVec.ofInt 32 (a : Int) &&& ~~~ BitVec.ofInt 32 (b : Int)).toNat : Int) = _
  rw [BitVec.toNat_and, BitVec.toNat_not, bv_u32 ha, bv_u32 hb]
  have := anB_lt (a := a) (b := b) ha
  rw [show a &&& 2 ^ 32 - 1 - b = anB a b from rfl]
  exact wrap_u32 (by omega) (by omega)
theorem anB_bit {a b : Nat} (ha : a < 2 ^ 32) (hb : b < 2 ^ 32) (i : Nat) : (anB a b).testBit i = (a.testBit i && !b.testBit i) := by
  unfold anB
  rw [Nat.testBit_and]
  have h1 : 4294967295 - b = 2 ^ 32 - (b + 1) := by omega
  rw [h1, Nat.testBit_two_pow_sub_succ hb]
  by_cases hi : i < 32
  · simp [hi]
  · have : a.testBit i = false := Nat.testBit_lt_two_pow (Nat.lt_of_lt_of_le ha (Nat.pow_le_pow_right (by decide) (by omega)))
    simp [this]
theorem anB_zero {a b : Nat} (ha : a < 2 ^ 32) (hb : b < 2 ^ 32) : anB a b = 0 ↔ ∀ i, a.testBit i = true → b.testBit i = true := by
  constructor
  · intro h i hi
    have := anB_bit ha hb i
    rw [h, hi] at this
    simpa using this
  · intro h
    refine Nat.eq_of_testBit_eq fun i => ?_
    rw [anB_bit ha hb, Nat.zero_testBit]
    cases hi : a.testBit i with
    | false => rfl
    | true => rw [h i hi]; rfl
theorem shl_u32 {a b : Nat} (ha : a ≤ 1) (hb : b < 32) : ishl .u32 (a : Int) (b : Int) = ((a <<< b : Nat) : Int) := by
  show IntKind.u32.wrap ((a : Int) * 2 ^ min (b : Int).toNat 32) = _
  rw [Int.toNat_natCast, Nat.min_eq_left (by omega), Nat.shiftLeft_eq]
  have h2 : 2 ^ b ≤ 2 ^ 31 := Nat.pow_le_pow_right (by decide) (by omega)
  have h3 : a * 2 ^ b ≤ 2 ^ 31 := Nat.le_trans (Nat.mul_le_mul_right _ ha) (by omega)
  have h4 : (a : Int) * 2 ^ b = ((a * 2 ^ b : Nat) : Int) := by simp
  rw [h4]
  exact wrap_u32 (by omega) (by omega)
theorem one_and (a b : Nat) : (a >>> b) &&& 1 = if a.testBit b then 1 else 0 := by
  rw [Nat.and_one_is_mod, Nat.testBit_eq_decide_div_mod_eq, Nat.shiftRight_eq_div_pow]
  have := Nat.mod_two_eq_zero_or_one (a / 2 ^ b)
  rcases this with h | h <;> simp [h]

/-- A number of 32 bits, as it lies in memory. -/
def uv (n : Nat) : Int := n
theorem uv_shr {a b : Nat} (h : a < 2 ^ 32) : ishr .u32 (uv a) (b : Int) = uv (a >>> b) := ishr_u32 h
theorem uv_and {a b : Nat} (ha : a < 2 ^ 32) (hb : b < 2 ^ 32) : ibits .and .u32 (uv a) (uv b) = uv (a &&& b) := and_u32 ha hb
theorem uv_and1 {a : Nat} (ha : a < 2 ^ 32) : ibits .and .u32 (uv a) 1 = uv (a &&& 1) := and_u32 (b := 1) ha (by decide)
theorem uv_or {a b : Nat} (ha : a < 2 ^ 32) (hb : b < 2 ^ 32) : ibits .or .u32 (uv a) (uv b) = uv (a ||| b) := or_u32 ha hb
theorem uv_an {a b : Nat} (ha : a < 2 ^ 32) (hb : b < 2 ^ 32) : ibits .andNot .u32 (uv a) (uv b) = uv (anB a b) := an_u32 ha hb
theorem uv_shl {a b : Nat} (ha : a ≤ 1) (hb : b < 32) : ishl .u32 (uv a) (b : Int) = uv (a <<< b) := shl_u32 ha hb
theorem uv_half {a : Nat} (h : a < 2 ^ 32) : IntKind.u32.wrap (Int.tdiv (uv a) 2) = uv (a / 2) := by
  show IntKind.u32.wrap (Int.tdiv (a : Int) 2) = _
  rw [Int.tdiv_eq_ediv_of_nonneg (by omega), wrap_u32 (by omega) (by omega)]
  show _ = ((a / 2 : Nat) : Int)
  omega
theorem uv_mod {a : Nat} : Int.tmod (uv a) 2 = uv (a % 2) := by
  show Int.tmod (a : Int) 2 = ((a % 2 : Nat) : Int)
  rw [Int.tmod_eq_emod_of_nonneg (by omega)]
  omega
@[push_cast] theorem uv_beq {a b : Nat} : (uv a == uv b) = decide (a = b) := by rw [Bool.eq_iff_iff]; simp [uv]; omega
@[push_cast] theorem uv_bne {a b : Nat} : (uv a != uv b) = !decide (a = b) := by rw [bne, uv_beq]
@[push_cast] theorem uv_beq1 {a : Nat} : (uv a == 1) = decide (a = 1) := uv_beq (b := 1)
@[push_cast] theorem uv_beq0 {a : Nat} : (uv a == 0) = decide (a = 0) := uv_beq (b := 0)
@[push_cast] theorem uv_bne0 {a : Nat} : (uv a != 0) = !decide (a = 0) := uv_bne (b := 0)
@[push_cast] theorem uv_gt0 {a : Nat} : (0 < uv a) ↔ (0 < a) := by show 0 < (a : Int) ↔ _; omega

/-! ### Rows -/
def u32Row (l : List Nat) : List (List D) := l.map fun (n : Nat) => [.v (.int .u32 (uv n))]
def strRow (l : List ByteArray) : List (List D) := l.map fun s => [.v (.string s)]
@[push_cast] theorem u32Row_length (l : List Nat) : (u32Row l).length = l.length := by simp [u32Row]
@[push_cast] theorem strRow_length (l : List ByteArray) : (strRow l).length = l.length := by simp [strRow]
@[push_cast] theorem sub_u32Row (l : List Nat) (a b : Nat) : sub (u32Row l) a b = u32Row ((l.take b).drop a) := by simp [u32Row, sub_map]
@[push_cast] theorem sub_strRow (l : List ByteArray) (a b : Nat) : sub (strRow l) a b = strRow ((l.take b).drop a) := by simp [strRow, sub_map]
theorem getE_u32 {l : List Nat} {n : Nat} {x : Nat} (h : l[n]? = some x) : getE (u32Row l) n = [.v (.int .u32 (uv x))] := by unfold u32Row; exact getE_map _ _ _ _ h
theorem getE_str {l : List ByteArray} {n : Nat} {x : ByteArray} (h : l[n]? = some x) : getE (strRow l) n = [.v (.string x)] := by unfold strRow; exact getE_map _ _ _ _ h
theorem getD_of {α : Type} {l : List α} {n : Nat} (d : α) (h : n < l.length) : l[n]? = some (l.getD n d) := by rw [List.getD_eq_getElem?_getD, List.getElem?_eq_getElem h]; rfl

/-! ### Names -/
def nameB (s : ByteArray) : Bool := decide (1 ≤ s.size ∧ s.size ≤ 12 ∧ ∀ i, i < s.size → 97 ≤ byteAt s i ∧ byteAt s i ≤ 122)
theorem nameB_bad {s : ByteArray} {i : Nat} (h : i < s.size) (hb : byteAt s i < 97 ∨ 122 < byteAt s i) : nameB s = false := by
  cases hc : nameB s with
  | false => rfl
  | true => simp only [nameB, decide_eq_true_eq] at hc; have := hc.2.2 i h; omega
theorem ba_empty {s : ByteArray} : s.size = 0 ↔ s = { data := #[] } := by
  cases s with
  | mk d => simp [ByteArray.size]
theorem name_fn (s : ByteArray) (hb : s.size ≤ 9223372036854775807) : Fn Tryz.prog 281 [.v (.string s)] [] (.v (.bool (nameB s))) [] := by
  refine Fn.of (fn := Tryz.f281) (by kernel_rfl) rfl (by kernel_rfl) ⟨[.v (.string s), .v undef, .v undef, .v undef, .v undef, .v undef, .v undef, .v undef, .v undef, .v undef, .v undef, .v undef, .v undef, .v undef, .v undef, .v undef, .v undef, .v undef, .v undef, .v undef, .v undef, .v undef, .v undef, .v undef, .v undef, .v undef, .v undef], []⟩ rfl ?_
  repeat' first | (with_reducible first | refine AWP_seq' ?_ | refine k_normal ?_ | refine AWP_block ?_) | ((with_reducible refine AWP_reg fun KC J hJ hKC => ?_); simp (maxSteps := 10000000) only [push_cast, seval, ↓reduceIte]) | ((with_reducible refine hJ _ _ ?_); clear hJ hKC KC J)
  refine AWP_loopF (γ := {i : Nat // i ≤ s.size ∧ ∀ j, j < i → 97 ≤ byteAt s j ∧ byteAt s j ≤ 122}) (fun i => ⟨[.v (.string s), .any, .any, .any, .any, .v (.int .i64 s.size), .v (.int .i64 i.1), .any, .any, .any, .any, .any, .any, .any, .any, .any, .any, .any, .any, .any, .any, .any, .any, .any, .any, .any, .any], []⟩) (fun i => s.size - i.1) ⟨0, by simp⟩ ⟨?_, Fq⟩ ?_
  · exact Lq
  · rintro ⟨i, hi, hn⟩
    by_cases hlt : (i : Int) < (s.size : Int)
    · by_cases h1 : byteAt s i < 97
      · skip
        repeat' first | (with_reducible first | refine AWP_seq' ?_ | refine k_normal ?_ | refine k_ret ?_ | refine b_ret ?_ | refine AWP_ret ?_ | refine AWP_skip ?_ | refine AWP_block ?_) | ((with_reducible refine AWP_reg fun KC J hJ hKC => ?_); simp (maxSteps := 10000000) only [push_cast, seval, ↓reduceIte, hlt, h1]) | ((with_reducible refine And.intro ?_ ?_); · exact Sq) | ((with_reducible refine hJ _ _ ?_); clear hJ hKC KC J) | ((with_reducible refine AWP_condT ?_ ?_); · rfl)
        refine ret_plain ?_
        simp (maxSteps := 10000000) only [push_cast, seval, ↓reduceIte, show Tryz.f281.results = #[(.tmp 2)] from rfl]
        rw [nameB_bad (by omega) (.inl h1)]
        exact leD_refl _
      by_cases h2 : 122 < byteAt s i
      · skip
        repeat' first | (with_reducible first | refine AWP_seq' ?_ | refine k_normal ?_ | refine k_ret ?_ | refine b_ret ?_ | refine AWP_ret ?_ | refine AWP_skip ?_ | refine AWP_block ?_) | ((with_reducible refine AWP_reg fun KC J hJ hKC => ?_); simp (maxSteps := 10000000) only [push_cast, seval, ↓reduceIte, hlt, h1, h2]) | ((with_reducible refine And.intro ?_ ?_); · exact Sq) | ((with_reducible refine hJ _ _ ?_); clear hJ hKC KC J) | ((with_reducible refine AWP_condT ?_ ?_); · rfl)
        refine ret_plain ?_
        simp (maxSteps := 10000000) only [push_cast, seval, ↓reduceIte, show Tryz.f281.results = #[(.tmp 2)] from rfl]
        rw [nameB_bad (by omega) (.inr h2)]
        exact leD_refl _
      repeat' first | (with_reducible first | refine AWP_seq' ?_ | refine k_normal ?_ | refine b_normal ?_ | refine AWP_skip ?_ | refine AWP_block ?_) | ((with_reducible refine AWP_reg fun KC J hJ hKC => ?_); simp (maxSteps := 10000000) only [push_cast, seval, ↓reduceIte, hlt, h1, h2, wrapN (i := i) (n := s.size) (by omega) hb]) | ((with_reducible refine And.intro ?_ ?_); · exact Sq) | ((with_reducible refine hJ _ _ ?_); clear hJ hKC KC J) | ((with_reducible refine AWP_condT ?_ ?_); · rfl) | ((with_reducible refine AWP_condF ?_ ?_); · rfl)
      refine ⟨⟨i + 1, by omega, fun j hj => ?_⟩, by simp only; omega, ?_, Fq⟩
      · by_cases he : j = i
        · subst he; omega
        · exact hn j (by omega)
      · exact Lq
    · have hall : ∀ j, j < s.size → 97 ≤ byteAt s j ∧ byteAt s j ≤ 122 := fun j hj => hn j (by omega)
      have he := @ba_empty s
      by_cases h0 : s = { data := #[] }
      · have h0' := he.2 h0
        have hd : decide (s = { data := #[] }) = true := by simp [h0]
        repeat' first | (with_reducible first | refine AWP_seq' ?_ | refine k_normal ?_ | refine k_exit ?_ | refine b_exit ?_ | refine AWP_ret ?_ | refine AWP_exit ?_) | ((with_reducible refine AWP_reg fun KC J hJ hKC => ?_); simp (maxSteps := 10000000) only [push_cast, seval, ↓reduceIte, hlt, hd]) | ((with_reducible refine hJ _ _ ?_); clear hJ hKC KC J) | ((with_reducible refine AWP_condF ?_ ?_); · rfl)
        refine ret_plain ?_
        simp (maxSteps := 10000000) only [push_cast, seval, ↓reduceIte, show Tryz.f281.results = #[(.tmp 2)] from rfl]
        refine leD_v (congrArg Value.bool (Bool.eq_iff_iff.2 ?_))
        simp only [nameB, decide_eq_true_eq, Bool.false_eq_true, false_iff]
        omega
      · have h1 : 1 ≤ s.size := Nat.one_le_iff_ne_zero.2 fun h => h0 (he.1 h)
        have hd : decide (s = { data := #[] }) = false := by simp [h0]
        repeat' first | (with_reducible first | refine AWP_seq' ?_ | refine k_normal ?_ | refine k_exit ?_ | refine b_exit ?_ | refine AWP_ret ?_ | refine AWP_exit ?_) | ((with_reducible refine AWP_reg fun KC J hJ hKC => ?_); simp (maxSteps := 10000000) only [push_cast, seval, ↓reduceIte, hlt, hd]) | ((with_reducible refine hJ _ _ ?_); clear hJ hKC KC J) | ((with_reducible refine AWP_condF ?_ ?_); · rfl)
        refine ret_plain ?_
        simp (maxSteps := 10000000) only [push_cast, seval, ↓reduceIte, show Tryz.f281.results = #[(.tmp 2)] from rfl]
        refine leD_v (congrArg Value.bool (Bool.eq_iff_iff.2 ?_))
        simp only [nameB, decide_eq_true_eq]
        exact ⟨fun h => ⟨h1, by omega, hall⟩, fun h => by omega⟩
theorem rName_fn (s : ByteArray) (hb : s.size ≤ 9223372036854775807) : Fn Tryz.prog 229 [.v (.string s)] [] (.v (.bool (nameB s))) [] := by
  refine Fn.of (fn := Tryz.f229) (by kernel_rfl) rfl (by kernel_rfl) ⟨[.v (.string s), .v undef, .v undef, .v undef, .v undef, .v undef, .v undef, .v undef, .v undef, .v undef, .v undef, .v undef, .v undef, .v undef, .v undef, .v undef, .v undef, .v undef, .v undef, .v undef, .v undef, .v undef, .v undef, .v undef, .v undef, .v undef, .v undef, .v undef], []⟩ rfl ?_
  repeat' first | (with_reducible first | refine AWP_seq' ?_ | refine k_normal ?_ | refine AWP_block ?_) | ((with_reducible refine AWP_reg fun KC J hJ hKC => ?_); simp (maxSteps := 10000000) only [push_cast, seval, ↓reduceIte]) | ((with_reducible refine hJ _ _ ?_); clear hJ hKC KC J)
  refine AWP_loopF (γ := {i : Nat // i ≤ s.size ∧ ∀ j, j < i → 97 ≤ byteAt s j ∧ byteAt s j ≤ 122}) (fun i => ⟨[.v (.string s), .any, .any, .v (.int .i64 i.1), .any, .any, .any, .any, .any, .any, .any, .any, .any, .any, .any, .any, .any, .any, .any, .any, .any, .any, .any, .any, .any, .any, .any, .any], []⟩) (fun i => s.size - i.1) ⟨0, by simp⟩ ⟨?_, Fq⟩ ?_
  · exact Lq
  · rintro ⟨i, hi, hn⟩
    by_cases hlt : (i : Int) < (s.size : Int)
    · by_cases h1 : byteAt s i < 97
      · skip
        repeat' first | (with_reducible first | refine AWP_seq' ?_ | refine k_normal ?_ | refine k_ret ?_ | refine b_ret ?_ | refine AWP_ret ?_ | refine AWP_skip ?_ | refine AWP_block ?_) | ((with_reducible refine AWP_reg fun KC J hJ hKC => ?_); simp (maxSteps := 10000000) only [push_cast, seval, ↓reduceIte, hlt, h1]) | ((with_reducible refine And.intro ?_ ?_); · exact Sq) | ((with_reducible refine hJ _ _ ?_); clear hJ hKC KC J) | ((with_reducible refine AWP_condT ?_ ?_); · rfl)
        refine ret_plain ?_
        simp (maxSteps := 10000000) only [push_cast, seval, ↓reduceIte, show Tryz.f229.results = #[(.tmp 2)] from rfl]
        rw [nameB_bad (by omega) (.inl h1)]
        exact leD_refl _
      by_cases h2 : 122 < byteAt s i
      · skip
        repeat' first | (with_reducible first | refine AWP_seq' ?_ | refine k_normal ?_ | refine k_ret ?_ | refine b_ret ?_ | refine AWP_ret ?_ | refine AWP_skip ?_ | refine AWP_block ?_) | ((with_reducible refine AWP_reg fun KC J hJ hKC => ?_); simp (maxSteps := 10000000) only [push_cast, seval, ↓reduceIte, hlt, h1, h2]) | ((with_reducible refine And.intro ?_ ?_); · exact Sq) | ((with_reducible refine hJ _ _ ?_); clear hJ hKC KC J) | ((with_reducible refine AWP_condT ?_ ?_); · rfl)
        refine ret_plain ?_
        simp (maxSteps := 10000000) only [push_cast, seval, ↓reduceIte, show Tryz.f229.results = #[(.tmp 2)] from rfl]
        rw [nameB_bad (by omega) (.inr h2)]
        exact leD_refl _
      repeat' first | (with_reducible first | refine AWP_seq' ?_ | refine k_normal ?_ | refine b_normal ?_ | refine AWP_skip ?_ | refine AWP_block ?_) | ((with_reducible refine AWP_reg fun KC J hJ hKC => ?_); simp (maxSteps := 10000000) only [push_cast, seval, ↓reduceIte, hlt, h1, h2, wrapN (i := i) (n := s.size) (by omega) hb]) | ((with_reducible refine And.intro ?_ ?_); · exact Sq) | ((with_reducible refine hJ _ _ ?_); clear hJ hKC KC J) | ((with_reducible refine AWP_condT ?_ ?_); · rfl) | ((with_reducible refine AWP_condF ?_ ?_); · rfl)
      refine ⟨⟨i + 1, by omega, fun j hj => ?_⟩, by simp only; omega, ?_, Fq⟩
      · by_cases he : j = i
        · subst he; omega
        · exact hn j (by omega)
      · exact Lq
    · have hall : ∀ j, j < s.size → 97 ≤ byteAt s j ∧ byteAt s j ≤ 122 := fun j hj => hn j (by omega)
      by_cases h0 : (0 : Int) < s.size
      · skip
        repeat' first | (with_reducible first | refine AWP_seq' ?_ | refine k_normal ?_ | refine k_exit ?_ | refine b_exit ?_ | refine AWP_ret ?_ | refine AWP_exit ?_) | ((with_reducible refine AWP_reg fun KC J hJ hKC => ?_); simp (maxSteps := 10000000) only [push_cast, seval, ↓reduceIte, hlt, h0]) | ((with_reducible refine hJ _ _ ?_); clear hJ hKC KC J) | ((with_reducible refine AWP_condF ?_ ?_); · rfl)
        refine ret_plain ?_
        simp (maxSteps := 10000000) only [push_cast, seval, ↓reduceIte, show Tryz.f229.results = #[(.tmp 2)] from rfl]
        refine leD_v (congrArg Value.bool (Bool.eq_iff_iff.2 ?_))
        simp only [nameB, decide_eq_true_eq]
        exact ⟨fun h => ⟨by omega, by omega, hall⟩, fun h => by omega⟩
      · skip
        repeat' first | (with_reducible first | refine AWP_seq' ?_ | refine k_normal ?_ | refine k_exit ?_ | refine b_exit ?_ | refine AWP_ret ?_ | refine AWP_exit ?_) | ((with_reducible refine AWP_reg fun KC J hJ hKC => ?_); simp (maxSteps := 10000000) only [push_cast, seval, ↓reduceIte, hlt, h0]) | ((with_reducible refine hJ _ _ ?_); clear hJ hKC KC J) | ((with_reducible refine AWP_condF ?_ ?_); · rfl)
        refine ret_plain ?_
        simp (maxSteps := 10000000) only [push_cast, seval, ↓reduceIte, show Tryz.f229.results = #[(.tmp 2)] from rfl]
        refine leD_v (congrArg Value.bool (Bool.eq_iff_iff.2 ?_))
        simp only [nameB, decide_eq_true_eq, Bool.false_eq_true, false_iff]
        omega
theorem indexStr_fn (f : Bool) (xs : List ByteArray) (s : ByteArray) (hb : xs.length ≤ 9223372036854775807) : Fn Tryz.prog 294 [.sl f 1 (strRow xs), .v (.string s)] [] (.v (.int .i64 (idxF (fun x => decide (s = x)) xs))) [] := by
  refine Fn.of (fn := Tryz.f294) (by kernel_rfl) rfl (by kernel_rfl) ⟨[.sl f 1 (strRow xs), .v (.string s), .v undef, .v undef, .v undef, .v undef, .v undef, .v undef, .v undef, .v undef, .v undef, .v undef, .v undef, .v undef, .v undef, .v undef, .v undef, .v undef, .v undef], []⟩ rfl ?_
  repeat' first | (with_reducible first | refine AWP_seq' ?_ | refine k_normal ?_ | refine AWP_block ?_) | ((with_reducible refine AWP_reg fun KC J hJ hKC => ?_); simp (maxSteps := 10000000) only [push_cast, seval, ↓reduceIte]) | ((with_reducible refine hJ _ _ ?_); clear hJ hKC KC J)
  refine AWP_loopF (γ := {i : Nat // i ≤ xs.length ∧ ∀ (j : Nat) (hj : j < xs.length), j < i → decide (s = xs[j]) = false}) (fun i => ⟨[.sl f 1 (strRow xs), .v (.string s), .any, .any, .any, .any, .any, .v (.int .i64 xs.length), .v (.int .i64 i.1), .any, .any, .any, .any, .any, .any, .any, .any, .any, .any], []⟩) (fun i => xs.length - i.1) ⟨0, by simp⟩ ⟨?_, Fq⟩ ?_
  · exact Lq
  · rintro ⟨i, hi, hn⟩
    by_cases hlt : (i : Int) < (xs.length : Int)
    · have hx : xs[i]? = some xs[i] := List.getElem?_eq_getElem (by omega)
      repeat' first | (with_reducible first | refine AWP_seq' ?_ | refine k_normal ?_ | refine k_ret ?_ | refine b_normal ?_ | refine b_ret ?_ | refine AWP_ret ?_ | refine AWP_skip ?_ | refine AWP_block ?_) | ((with_reducible refine AWP_reg fun KC J hJ hKC => ?_); simp (maxSteps := 10000000) only [push_cast, seval, ↓reduceIte, hlt, getE_str hx, wrapN (i := i) (n := xs.length) (by omega) hb]) | ((with_reducible refine And.intro ?_ ?_); · exact Sq) | ((with_reducible refine hJ _ _ ?_); clear hJ hKC KC J) | ((with_reducible refine AWP_condT ?_ ?_); · rfl) | (refine AWP_cond rfl (fun h => ?_) (fun h => ?_) <;> try simp only [decide_eq_true_eq, decide_eq_false_iff_not, Bool.not_eq_true', Bool.not_eq_false', beq_iff_eq, bne_iff_ne, ne_eq, Bool.not_eq_true, Bool.or_eq_true, Bool.and_eq_true, Bool.or_eq_false_iff, Bool.and_eq_false_imp, beq_eq_false_iff_ne, bne_eq_false_iff_eq] at h)
      · refine ret_plain ?_
        simp (maxSteps := 10000000) only [push_cast, seval, ↓reduceIte, show Tryz.f294.results = #[(.tmp 4)] from rfl]
        exact leD_v (by rw [idxF_at (by omega) (by simpa using h) hn])
      · refine ⟨⟨i + 1, by omega, fun j hj hji => ?_⟩, by simp only; omega, ?_, Fq⟩
        · by_cases he : j = i
          · subst he; simpa using h
          · exact hn j hj (by omega)
        · exact Lq
    · skip
      repeat' first | (with_reducible first | refine AWP_seq' ?_ | refine k_normal ?_ | refine k_exit ?_ | refine b_exit ?_ | refine AWP_ret ?_ | refine AWP_exit ?_) | ((with_reducible refine AWP_reg fun KC J hJ hKC => ?_); simp (maxSteps := 10000000) only [push_cast, seval, ↓reduceIte, hlt]) | ((with_reducible refine hJ _ _ ?_); clear hJ hKC KC J) | ((with_reducible refine AWP_condF ?_ ?_); · rfl)
      refine ret_plain ?_
      simp (maxSteps := 10000000) only [push_cast, seval, ↓reduceIte, show Tryz.f294.results = #[(.tmp 4)] from rfl]
      exact leD_v (by rw [idxF_none (fun j hj => hn j hj (by omega))])
def memB (s : ByteArray) (xs : List ByteArray) : Bool := xs.any (fun x => decide (s = x))
theorem containsStr_fn (f : Bool) (xs : List ByteArray) (s : ByteArray) (hb : xs.length ≤ 9223372036854775807) : Fn Tryz.prog 282 [.sl f 1 (strRow xs), .v (.string s)] [] (.v (.bool (memB s xs))) [] := by
  refine Fn.of (fn := Tryz.f282) (by kernel_rfl) rfl (by kernel_rfl) ⟨[.sl f 1 (strRow xs), .v (.string s), .v undef, .v undef, .v undef, .v undef, .v undef, .v undef, .v undef], []⟩ rfl ?_
  repeat' first | (with_reducible first | refine AWP_seq' ?_ | refine k_normal ?_ | refine AWP_ret ?_) | ((with_reducible refine AWP_reg fun KC J hJ hKC => ?_); simp (maxSteps := 10000000) only [push_cast, seval, ↓reduceIte]) | (refine' hKC _ _ _ _ _ (callV0 (indexStr_fn _ _ _ ?_) rfl rfl rfl ?_ ?_); (rotate_left 4); (· exact Lq); (rotate_left 1); (iterate 1 (· exact Hq)); simp (maxSteps := 10000000) only [push_cast, seval, ↓reduceIte]) | ((with_reducible refine hJ _ _ ?_); clear hJ hKC KC J)
  refine ret_plain ?_
  simp (maxSteps := 10000000) only [push_cast, seval, ↓reduceIte, show Tryz.f282.results = #[(.tmp 4)] from rfl]
  exact leD_v (congrArg Value.bool idxF_any)
/-! ### Labels -/
def fl (us : List Nat) (a b : Nat) : Bool := (us.getD a 0).testBit b
def U32 (us : List Nat) : Prop := ∀ u ∈ us, u < 2 ^ 32
theorem U32.get {us : List Nat} (h : U32 us) {i : Nat} (hi : i < us.length) : us.getD i 0 < 2 ^ 32 := by
  rw [List.getD_eq_getElem?_getD, List.getElem?_eq_getElem hi]; exact h _ (List.getElem_mem _)
theorem flows_fn (f g : Bool) (ns : List ByteArray) (us : List Nat) (a b : Nat) (hu : U32 us) (ha : a < us.length) :
    Fn Tryz.prog 272 [.agg [.sl f 1 (strRow ns), .sl g 1 (u32Row us)], .v (.int .i64 (a : Int)), .v (.int .i64 (b : Int))] [] (.v (.bool (fl us a b))) [] := by
  have hx := getD_of 0 ha
  have h1 : us.getD a 0 >>> b < 2 ^ 32 := Nat.lt_of_le_of_lt (Nat.shiftRight_le _ _) (hu.get ha)
  refine Fn.of (fn := Tryz.f272) (by kernel_rfl) rfl (by kernel_rfl) ⟨[.agg [.sl f 1 (strRow ns), .sl g 1 (u32Row us)], .v (.int .i64 (a : Int)), .v (.int .i64 (b : Int)), .v undef, .v undef, .v undef, .v undef, .v undef, .v undef, .v undef, .v undef, .v undef, .v undef, .v undef, .v undef, .v undef], []⟩ rfl ?_
  repeat' first | (with_reducible first | refine AWP_seq' ?_ | refine k_normal ?_ | refine AWP_ret ?_) | ((with_reducible refine AWP_reg fun KC J hJ hKC => ?_); simp (maxSteps := 10000000) only [push_cast, seval, ↓reduceIte, getE_u32 hx, uv_shr (hu.get ha) (b := b), uv_and1 h1]) | ((with_reducible refine And.intro ?_ ?_); · exact Sq) | ((with_reducible refine hJ _ _ ?_); clear hJ hKC KC J)
  refine ret_plain ?_
  simp (maxSteps := 10000000) only [push_cast, seval, ↓reduceIte, show Tryz.f272.results = #[(.tmp 6)] from rfl]
  refine leD_v (congrArg Value.bool ?_)
  rw [one_and, fl]
  cases (us.getD a 0).testBit b <;> rfl
theorem rFlows_fn (f g : Bool) (ns : List ByteArray) (us : List Nat) (a b : Nat) (hu : U32 us) (ha : a < us.length) (hb : b ≤ 1000) :
    Fn Tryz.prog 186 [.agg [.sl f 1 (strRow ns), .sl g 1 (u32Row us)], .v (.int .i64 (a : Int)), .v (.int .i64 (b : Int))] [] (.v (.bool (fl us a b))) [] := by
  have hx := getD_of 0 ha
  refine Fn.of (fn := Tryz.f186) (by kernel_rfl) rfl (by kernel_rfl) ⟨[.agg [.sl f 1 (strRow ns), .sl g 1 (u32Row us)], .v (.int .i64 (a : Int)), .v (.int .i64 (b : Int)), .v undef, .v undef, .v undef, .v undef, .v undef, .v undef, .v undef, .v undef, .v undef, .v undef, .v undef, .v undef, .v undef, .v undef, .v undef, .v undef, .v undef, .v undef, .v undef, .v undef, .v undef], []⟩ rfl ?_
  repeat' first | (with_reducible first | refine AWP_seq' ?_ | refine k_normal ?_ | refine AWP_block ?_) | ((with_reducible refine AWP_reg fun KC J hJ hKC => ?_); simp (maxSteps := 10000000) only [push_cast, seval, ↓reduceIte, getE_u32 hx]) | ((with_reducible refine And.intro ?_ ?_); · exact Sq) | ((with_reducible refine hJ _ _ ?_); clear hJ hKC KC J)
  refine AWP_loopF (γ := {i : Nat // i ≤ b}) (fun i => ⟨[.any, .any, .v (.int .i64 (b : Int)), .any, .any, .any, .any, .v (.int .u32 (uv (us.getD a 0 >>> i.1))), .v (.int .i64 i.1), .any, .any, .any, .any, .any, .any, .any, .any, .any, .any, .any, .any, .any, .any, .any], [.ent ⟨0, none, 25, [.sl f 1 (strRow ns), .sl g 1 (u32Row us)], .cells⟩]⟩) (fun i => b - i.1) ⟨0, by simp⟩ ⟨?_, Fq⟩ ?_
  · exact Lq
  · rintro ⟨i, hi⟩
    have h1 : us.getD a 0 >>> i < 2 ^ 32 := Nat.lt_of_le_of_lt (Nat.shiftRight_le _ _) (hu.get ha)
    by_cases hlt : (i : Int) < (b : Int)
    · have hs : us.getD a 0 >>> (i + 1) = us.getD a 0 >>> i / 2 := Nat.shiftRight_succ _ _
      repeat' first | (with_reducible first | refine AWP_seq' ?_ | refine k_normal ?_ | refine b_normal ?_ | refine AWP_skip ?_ | refine AWP_block ?_) | ((with_reducible refine AWP_reg fun KC J hJ hKC => ?_); simp (maxSteps := 10000000) only [push_cast, seval, ↓reduceIte, hlt, uv_half h1, ← hs, wrapN (i := i) (n := b) (by omega) (by omega)]) | ((with_reducible refine hJ _ _ ?_); clear hJ hKC KC J) | ((with_reducible refine AWP_condT ?_ ?_); · rfl)
      refine ⟨⟨i + 1, by omega⟩, by simp only; omega, ?_, Fq⟩
      exact Lq
    · obtain rfl : i = b := by omega
      repeat' first | (with_reducible first | refine AWP_seq' ?_ | refine k_normal ?_ | refine k_exit ?_ | refine b_exit ?_ | refine AWP_ret ?_ | refine AWP_exit ?_) | ((with_reducible refine AWP_reg fun KC J hJ hKC => ?_); simp (maxSteps := 10000000) only [push_cast, seval, ↓reduceIte, hlt, uv_mod]) | ((with_reducible refine hJ _ _ ?_); clear hJ hKC KC J) | ((with_reducible refine AWP_condF ?_ ?_); · rfl)
      refine ret_plain ?_
      simp (maxSteps := 10000000) only [push_cast, seval, ↓reduceIte, show Tryz.f186.results = #[(.tmp 6)] from rfl]
      refine leD_v (congrArg Value.bool ?_)
      rw [fl, Nat.testBit_eq_decide_div_mod_eq, Nat.shiftRight_eq_div_pow]
theorem high_fn (u n : Nat) (hu : u < 2 ^ 32) (hn : n ≤ 1000) : Fn Tryz.prog 230 [.v (.int .u32 (uv u)), .v (.int .i64 (n : Int))] [] (.v (.bool (decide (0 < u >>> n)))) [] := by
  refine Fn.of (fn := Tryz.f230) (by kernel_rfl) rfl (by kernel_rfl) ⟨[.v (.int .u32 (uv u)), .v (.int .i64 (n : Int)), .v undef, .v undef, .v undef, .v undef, .v undef, .v undef, .v undef, .v undef, .v undef, .v undef, .v undef, .v undef, .v undef], []⟩ rfl ?_
  repeat' first | (with_reducible first | refine AWP_seq' ?_ | refine k_normal ?_ | refine AWP_block ?_) | ((with_reducible refine AWP_reg fun KC J hJ hKC => ?_); simp (maxSteps := 10000000) only [push_cast, seval, ↓reduceIte]) | ((with_reducible refine hJ _ _ ?_); clear hJ hKC KC J)
  refine AWP_loopF (γ := {i : Nat // i ≤ n}) (fun i => ⟨[.v (.int .u32 (uv (u >>> i.1))), .v (.int .i64 (n : Int)), .any, .any, .any, .v (.int .i64 i.1), .any, .any, .any, .any, .any, .any, .any, .any, .any], []⟩) (fun i => n - i.1) ⟨0, by simp⟩ ⟨?_, Fq⟩ ?_
  · exact Lq
  · rintro ⟨i, hi⟩
    have h1 : u >>> i < 2 ^ 32 := Nat.lt_of_le_of_lt (Nat.shiftRight_le _ _) hu
    by_cases hlt : (i : Int) < (n : Int)
    · have hs : u >>> (i + 1) = u >>> i / 2 := Nat.shiftRight_succ _ _
      repeat' first | (with_reducible first | refine AWP_seq' ?_ | refine k_normal ?_ | refine b_normal ?_ | refine AWP_skip ?_ | refine AWP_block ?_) | ((with_reducible refine AWP_reg fun KC J hJ hKC => ?_); simp (maxSteps := 10000000) only [push_cast, seval, ↓reduceIte, hlt, uv_half h1, ← hs, wrapN (i := i) (n := n) (by omega) (by omega)]) | ((with_reducible refine hJ _ _ ?_); clear hJ hKC KC J) | ((with_reducible refine AWP_condT ?_ ?_); · rfl)
      refine ⟨⟨i + 1, by omega⟩, by simp only; omega, ?_, Fq⟩
      exact Lq
    · obtain rfl : i = n := by omega
      repeat' first | (with_reducible first | refine AWP_seq' ?_ | refine k_normal ?_ | refine k_exit ?_ | refine b_exit ?_ | refine AWP_ret ?_ | refine AWP_exit ?_) | ((with_reducible refine AWP_reg fun KC J hJ hKC => ?_); simp (maxSteps := 10000000) only [push_cast, seval, ↓reduceIte, hlt]) | ((with_reducible refine hJ _ _ ?_); clear hJ hKC KC J) | ((with_reducible refine AWP_condF ?_ ?_); · rfl)
      refine ret_plain ?_
      simp (maxSteps := 10000000) only [push_cast, seval, ↓reduceIte, show Tryz.f230.results = #[(.tmp 4)] from rfl]
      exact Lq
end Go.Proofs.YtabliglgeiajlaaGreat.AM
