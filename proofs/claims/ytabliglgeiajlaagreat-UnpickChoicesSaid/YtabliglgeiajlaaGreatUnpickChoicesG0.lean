/- Walks and plain laws, put together: part 0. -/
import Derived.Test.YtabliglgeiajlaaGreatMc
set_option linter.unusedSimpArgs false
set_option linter.unusedVariables false
namespace Go.Proofs.YtabliglgeiajlaaGreat.AM
open Go Go.RowKit Go.Proofs
set_option maxRecDepth 100000
set_option maxHeartbeats 1000000
def zK (xs : List Int) : List (List D) := xs.map fun x => [.v (.int .i64 x)]
@[push_cast] theorem zQc (l : List Int) : (zK l).length = l.length := by simp [zK]
@[push_cast] theorem zSd (l : List Int) (a b : Nat) : sub (zK l) a b = zK ((l.take b).drop a) := by simp [zK, zDv]
theorem zo {l : List Int} {n : Nat} {x : Int} (h : l[n]? = some x) : zEt (zK l) n = [.v (.int .i64 x)] := by unfold zK; exact zBe _ _ _ _ h
theorem zAb (l : List Int) : (zK l).flatten = l.map fun x => .v (.int .i64 x) := by
 induction l with
 | nil => rfl
 | cons a l ih => simp only [zK, List.map_cons, List.flatten_cons] at ih ⊢; rw [ih]; rfl
@[push_cast] theorem zKs (l : List Int) : (zK l).flatten.length = l.length := by rw [zAb]; simp
@[push_cast] theorem zSZ (l : List Int) (x : Int) : zBF 1 (l.length + 1) ((zK l).flatten ++ [.v (.int .i64 x)]) = zK (l ++ [x]) := by
 rw [zAb, show ([.v (.int .i64 x)] : List D) = [x].map (fun x => .v (.int .i64 x)) from rfl, ← List.map_append, show l.length + 1 = (l ++ [x]).length by simp]
 exact zGg _ _
@[push_cast] theorem zQb (a b : List D) : zAT (a ++ b) = (zAT a && zAT b) := by
 induction a with
 | nil => simp [zAT]
 | cons x a ih => simp only [List.cons_append, zAT, ih, Bool.and_assoc]
@[push_cast] theorem zMD (l : List Int) : zAT (l.map fun x => .v (.int .i64 x)) = true := by
 induction l with
 | nil => rfl
 | cons x l ih => simp only [List.map_cons, zAT, ih]; rfl
@[push_cast] theorem zQZ (l : List Int) : zAT (zK l).flatten = true := by rw [zAb]; exact zMD l
@[push_cast] theorem zRO (x : Int) (l : List Int) : zBQ (zK (x :: l)) = false := rfl
@[push_cast] theorem zQd : zBQ (zK []) = true := rfl
theorem zQK (n : Nat) : Nat.ble n n = true := Nat.ble_self_eq_true n
attribute [push_cast] Nat.zero_add zQK Nat.mul_one List.length_append
def zEM (x y : Int) : Int := if x < y then -1 else if y < x then 1 else 0
def zDO (l lg : List Int) (a : Int) : Bool := decide (l.length ≤ 500) && decide (lg.length ≤ 2000) && decide (0 ≤ a)
theorem zHp (f g : Bool) (l lg : List Int) (a : Int) : Fn Tryz.prog 52 [.agg [.sl f 1 (zK l), .v (.int .i64 a), .sl g 1 (zK lg)]] [] (.v (.bool (zDO l lg a))) [] := by
 refine Fn.of (fn := Tryz.f52) (by kernel_rfl) rfl (by kernel_rfl) ⟨[.agg [.sl f 1 (zK l), .v (.int .i64 a), .sl g 1 (zK lg)], .v undef, .v undef, .v undef, .v undef, .v undef, .v undef, .v undef, .v undef, .v undef, .v undef, .v undef, .v undef, .v undef, .v undef, .v undef, .v undef, .v undef], []⟩ rfl ?_
 repeat' first | (with_reducible first | refine zA ?_ | refine zB ?_ | refine zI ?_) | ((with_reducible refine zC fun KC J hJ hKC => ?_); simp (maxSteps := 9999999) only [push_cast, seval, ↓reduceIte]) | ((with_reducible refine hJ _ _ ?_); clear hJ hKC KC J) | ((with_reducible refine zAo (fun hs => ?_) (fun hs => ?_)) <;> (try simp only [Bool.not_eq_true, Bool.not_eq_false, Bool.not_eq_true', Bool.not_eq_false', Decidable.not_not, decide_eq_true_eq, decide_eq_false_iff_not] at hs) <;> (try simp (maxSteps := 9999999) only [push_cast, seval, ↓reduceIte, hs]))
 all_goals
  refine zE ?_
  simp (maxSteps := 9999999) only [push_cast, seval, ↓reduceIte, show Tryz.f52.results = #[(.tmp 2)] from rfl]
  refine zAF (congrArg Value.bool (Bool.eq_iff_iff.2 ?_))
  simp [zDO]
  omega
theorem zQG (f : Bool) (l : List Int) : Fn Tryz.prog 46 [.sl f 1 (zK l)] [] (.agg [.sl f 1 (zK l), .v (.int .i64 0), .sl false 1 (zK [])]) [] := by
 refine Fn.of (fn := Tryz.f46) (by kernel_rfl) rfl (by kernel_rfl) ⟨[.sl f 1 (zK l), .v undef, .v undef, .v undef, .v undef], []⟩ rfl ?_
 repeat' first | (with_reducible first | refine zA ?_ | refine zB ?_ | refine zI ?_) | ((with_reducible refine zC fun KC J hJ hKC => ?_); simp (maxSteps := 9999999) only [push_cast, seval, ↓reduceIte]) | ((with_reducible refine hJ _ _ ?_); clear hJ hKC KC J)
 refine zE ?_
 simp (maxSteps := 9999999) only [push_cast, seval, ↓reduceIte, show Tryz.f46.results = #[(.cell 2 30)] from rfl]
 exact Lq
def zCm (l : List Int) (a b : Int) : Int := if a < l.length then l.getD a.toNat 0 % b else 0
theorem zQB {x b : Int} (hb : 1 ≤ b) (hB : b ≤ 9223372036854775807) : (if Int.tmod x b < 0 then IntKind.i64.wrap (Int.tmod x b + b) else Int.tmod x b) = x % b := by
 have h1 := Int.tmod_eq_emod_of_nonneg (a := x) (b := b)
 rcases Int.lt_or_le x 0 with hx | hx
 ·have h2 : Int.tmod x b = - ((-x) % b) := by
   have := Int.neg_tmod (-x) b
   rw [Int.neg_neg] at this
   rw [this, Int.tmod_eq_emod_of_nonneg (by omega)]
  have h3 := Int.emod_nonneg (-x) (b := b) (by omega)
  have h4 := Int.emod_lt_of_pos (-x) (b := b) (by omega)
  have h5 := Int.emod_add_mul_ediv x b
  have h6 := Int.emod_add_mul_ediv (-x) b
  have h7 := Int.emod_nonneg x (b := b) (by omega)
  have h8 := Int.emod_lt_of_pos x (b := b) (by omega)
  rw [h2]
  by_cases h0 : (-x) % b = 0
  ·have : x % b = 0 := by
    have hd : b ∣ -x := Int.dvd_of_emod_eq_zero h0
    exact Int.emod_eq_zero_of_dvd (Int.dvd_neg.1 hd)
   simp [h0, this]
  ·rw [if_pos (by omega), zCP (by omega) (by omega)]
   have : x % b = b - (-x) % b := by
    have h9 := @Int.neg_emod (-x) b
    rw [Int.neg_neg, if_neg (fun hd => h0 (Int.emod_eq_zero_of_dvd hd))] at h9
    omega
   omega
 ·rw [Int.tmod_eq_emod_of_nonneg hx, if_neg (by have := Int.emod_nonneg x (b := b) (by omega); omega)]
theorem zOP (f g : Bool) (l lg : List Int) (a b : Int) (h0 : 0 ≤ a) (hb : 1 ≤ b) (hB : b ≤ 9223372036854775807) : Fn Tryz.prog 275 [.agg [.sl f 1 (zK l), .v (.int .i64 a), .sl g 1 (zK lg)], .v (.int .i64 b)] [] (.v (.int .i64 (zCm l a b))) [] := by
 refine Fn.of (fn := Tryz.f275) (by kernel_rfl) rfl (by kernel_rfl) ⟨[.agg [.sl f 1 (zK l), .v (.int .i64 a), .sl g 1 (zK lg)], .v (.int .i64 b), .v undef, .v undef, .v undef, .v undef, .v undef, .v undef, .v undef, .v undef, .v undef, .v undef, .v undef, .v undef, .v undef, .v undef, .v undef, .v undef, .v undef, .v undef, .v undef, .v undef, .v undef, .v undef, .v undef, .v undef], []⟩ rfl ?_
 by_cases hlt : a < l.length
 ·have hx : l[a.toNat]? = some (l.getD a.toNat 0) := by rw [List.getD_eq_getElem?_getD, List.getElem?_eq_getElem (by omega)]; rfl
  have hfix := zQB (x := l.getD a.toNat 0) hb hB
  repeat' first | (with_reducible first | refine zA ?_ | refine zB ?_ | refine zS ?_ | refine zI ?_ | refine zJ ?_) | ((with_reducible refine And.intro ?_ ?_); · exact Sq) | ((with_reducible refine zC fun KC J hJ hKC => ?_); simp (maxSteps := 9999999) only [push_cast, seval, ↓reduceIte, zo hx]) | ((with_reducible refine hJ _ _ ?_); clear hJ hKC KC J) | (refine zs rfl (fun h => ?_) (fun h => ?_) <;> try simp only [decide_eq_true_eq, decide_eq_false_iff_not, Bool.not_eq_true', Bool.not_eq_false', beq_iff_eq, bne_iff_ne, ne_eq, Bool.not_eq_true, Bool.or_eq_true, Bool.and_eq_true, Bool.or_eq_false_iff, Bool.and_eq_false_imp, beq_eq_false_iff_ne, bne_eq_false_iff_eq] at h)
  ·omega
  ·rw [if_pos h] at hfix
   refine zE ?_
   simp (maxSteps := 9999999) only [push_cast, seval, ↓reduceIte, show Tryz.f275.results = #[(.tmp 4)] from rfl]
   exact zAF (by rw [hfix]; simp [zCm, hlt])
  ·rw [if_neg (by omega)] at hfix
   refine zE ?_
   simp (maxSteps := 9999999) only [push_cast, seval, ↓reduceIte, show Tryz.f275.results = #[(.tmp 4)] from rfl]
   exact zAF (by rw [hfix]; simp [zCm, hlt])
 ·skip
  repeat' first | (with_reducible first | refine zA ?_ | refine zB ?_ | refine zS ?_ | refine zI ?_ | refine zJ ?_) | ((with_reducible refine And.intro ?_ ?_); · exact Sq) | ((with_reducible refine zC fun KC J hJ hKC => ?_); simp (maxSteps := 9999999) only [push_cast, seval, ↓reduceIte]) | ((with_reducible refine hJ _ _ ?_); clear hJ hKC KC J) | (refine zs rfl (fun h => ?_) (fun h => ?_) <;> try simp only [decide_eq_true_eq, decide_eq_false_iff_not, Bool.not_eq_true', Bool.not_eq_false', beq_iff_eq, bne_iff_ne, ne_eq, Bool.not_eq_true, Bool.or_eq_true, Bool.and_eq_true, Bool.or_eq_false_iff, Bool.and_eq_false_imp, beq_eq_false_iff_ne, bne_eq_false_iff_eq] at h)
  ·refine zE ?_
   simp (maxSteps := 9999999) only [push_cast, seval, ↓reduceIte, show Tryz.f275.results = #[(.tmp 4)] from rfl]
   exact zAF (by simp [zCm, hlt])
  ·omega
def zDQ {α : Type} (p : α → Bool) (xs : List α) : Int := match xs.findIdx? p with | some i => i | none => -1
theorem zBt {α : Type} {p : α → Bool} {xs : List α} {i : Nat} (h : i < xs.length) (hp : p xs[i] = true) (hn : ∀ (j : Nat) (hj : j < xs.length), j < i → p xs[j] = false) : zDQ p xs = i := by
 have : xs.findIdx? p = some i := by
  rw [List.findIdx?_eq_some_iff_getElem]
  exact ⟨h, hp, fun j hj => by rw [hn j (by omega) hj]; simp⟩
 simp [zDQ, this]
theorem zBB {α : Type} {p : α → Bool} {xs : List α} (hn : ∀ (j : Nat) (hj : j < xs.length), p xs[j] = false) : zDQ p xs = -1 := by
 have : xs.findIdx? p = none := by
  rw [List.findIdx?_eq_none_iff]
  intro x hx
  obtain ⟨j, hj, rfl⟩ := List.mem_iff_getElem.1 hx
  exact hn j hj
 simp [zDQ, this]
theorem zDd {α : Type} {p : α → Bool} {xs : List α} : decide (0 ≤ zDQ p xs) = xs.any p := by
 unfold zDQ
 cases h : xs.findIdx? p with
 | none =>
  rw [List.findIdx?_eq_none_iff] at h
  have : xs.any p = false := by rw [List.any_eq_false]; intro x hx; rw [h x hx]; simp
  simp [this]
 | some i =>
  rw [List.findIdx?_eq_some_iff_getElem] at h
  obtain ⟨h1, h2, _⟩ := h
  have : xs.any p = true := List.any_eq_true.2 ⟨_, List.getElem_mem h1, h2⟩
  simp [this]
theorem zRE (b : ByteArray) (i : Nat) (r : List UInt8) : ByteArray.toList.loop b i r = r.reverse ++ b.data.toList.drop i := by
 fun_induction ByteArray.toList.loop b i r with
 | case1 i r h ih =>
  rw [ih]
  have hi : i < b.data.toList.length := by simpa using h
  rw [List.drop_eq_getElem_cons hi]
  have : b.get! i = b.data.toList[i] := by
   simp [ByteArray.get!]
   rw [getElem!_pos]
  simp [this]
 | case2 i r h =>
  have : b.data.toList.length ≤ i := by simpa using h
  rw [List.drop_eq_nil_of_le this]; simp
theorem zJR (b : ByteArray) : b.toList = b.data.toList := by
 unfold ByteArray.toList
 rw [zRE]; simp
@[push_cast] theorem zTM {a b : ByteArray} : (a.toList == b.toList) = decide (a = b) := by
 rw [zJR, zJR, Bool.eq_iff_iff]
 simp
 constructor
 ·intro h; cases a; cases b; simp_all
 ·intro h; rw [h]
theorem zED {n : Int} (h0 : 0 ≤ n) (h : n < 4294967296) : IntKind.u32.wrap n = n := by
 simp [IntKind.wrap, IntKind.signed, IntKind.bits, BitVec.toNat_ofInt]
 omega
theorem zQO {a b : Nat} (h : a < 2 ^ 32) : zRD .u32 (a : Int) (b : Int) = ((a >>> b : Nat) : Int) := by
 show (a : Int).fdiv (2 ^ min (b : Int).toNat 32) = _
 rw [Int.toNat_natCast, Int.fdiv_eq_ediv_of_nonneg _ (Int.pow_nonneg (by decide)), Nat.shiftRight_eq_div_pow]
 rcases Nat.le_total b 32 with hb | hb
 ·rw [Nat.min_eq_left hb]; simp
 ·rw [Nat.min_eq_right hb]
  have h1 : a / 2 ^ b = 0 := Nat.div_eq_of_lt (Nat.lt_of_lt_of_le h (Nat.pow_le_pow_right (by decide) hb))
  have h2 : (a : Int) / 2 ^ 32 = ((a / 2 ^ 32 : Nat) : Int) := by simp
  rw [h1, h2, Nat.div_eq_of_lt h]
theorem zGV {a : Nat} (h : a < 2 ^ 32) : (BitVec.ofInt 32 (a : Int)).toNat = a := by
 rw [BitVec.toNat_ofInt]
 have : ((a : Int) % ((2 ^ 32 : Nat) : Int)).toNat = a % 2 ^ 32 := by omega
 rw [this, Nat.mod_eq_of_lt h]
theorem zNb {a b : Nat} (ha : a < 2 ^ 32) (hb : b < 2 ^ 32) : zDj .and .u32 (a : Int) (b : Int) = ((a &&& b : Nat) : Int) := by
 show IntKind.u32.wrap ((BitVec.ofInt 32 (a : Int) &&& BitVec.ofInt 32 (b : Int)).toNat : Int) = _
 rw [BitVec.toNat_and, zGV ha, zGV hb]
 have : a &&& b ≤ a := Nat.and_le_left
 exact zED (by omega) (by omega)
theorem zSK {a b : Nat} (ha : a < 2 ^ 32) (hb : b < 2 ^ 32) : zDj .or .u32 (a : Int) (b : Int) = ((a ||| b : Nat) : Int) := by
 show IntKind.u32.wrap ((BitVec.ofInt 32 (a : Int) ||| BitVec.ofInt 32 (b : Int)).toNat : Int) = _
 rw [BitVec.toNat_or, zGV ha, zGV hb]
 have : a ||| b < 2 ^ 32 := Nat.or_lt_two_pow ha hb
 exact zED (by omega) (by omega)
def anB (a b : Nat) : Nat := a &&& (4294967295 - b)
theorem zSe {a b : Nat} (ha : a < 2 ^ 32) : anB a b < 2 ^ 32 := Nat.lt_of_le_of_lt Nat.and_le_left ha
theorem zRu {a b : Nat} (ha : a < 2 ^ 32) (hb : b < 2 ^ 32) : zDj .andNot .u32 (a : Int) (b : Int) = ((anB a b : Nat) : Int) := by
 show IntKind.u32.wrap ((BitVec.ofInt 32 (a : Int) &&& ~~~ BitVec.ofInt 32 (b : Int)).toNat : Int) = _
 rw [BitVec.toNat_and, BitVec.toNat_not, zGV ha, zGV hb]
 have := zSe (a := a) (b := b) ha
 rw [show a &&& 2 ^ 32 - 1 - b = anB a b from rfl]
 exact zED (by omega) (by omega)
theorem zNW {a b : Nat} (ha : a < 2 ^ 32) (hb : b < 2 ^ 32) (i : Nat) : (anB a b).testBit i = (a.testBit i && !b.testBit i) := by
 unfold anB
 rw [Nat.testBit_and]
 have h1 : 4294967295 - b = 2 ^ 32 - (b + 1) := by omega
 rw [h1, Nat.testBit_two_pow_sub_succ hb]
 by_cases hi : i < 32
 ·simp [hi]
 ·have : a.testBit i = false := Nat.testBit_lt_two_pow (Nat.lt_of_lt_of_le ha (Nat.pow_le_pow_right (by decide) (by omega)))
  simp [this]
theorem zMG {a b : Nat} (ha : a < 2 ^ 32) (hb : b < 2 ^ 32) : anB a b = 0 ↔ ∀ i, a.testBit i = true → b.testBit i = true := by
 constructor
 ·intro h i hi
  have := zNW ha hb i
  rw [h, hi] at this
  simpa using this
 ·intro h
  refine Nat.eq_of_testBit_eq fun i => ?_
  rw [zNW ha hb, Nat.zero_testBit]
  cases hi : a.testBit i with
  | false => rfl
  | true => rw [h i hi]; rfl
theorem zQr {a b : Nat} (ha : a ≤ 1) (hb : b < 32) : zQp .u32 (a : Int) (b : Int) = ((a <<< b : Nat) : Int) := by
 show IntKind.u32.wrap ((a : Int) * 2 ^ min (b : Int).toNat 32) = _
 rw [Int.toNat_natCast, Nat.min_eq_left (by omega), Nat.shiftLeft_eq]
 have h2 : 2 ^ b ≤ 2 ^ 31 := Nat.pow_le_pow_right (by decide) (by omega)
 have h3 : a * 2 ^ b ≤ 2 ^ 31 := Nat.le_trans (Nat.mul_le_mul_right _ ha) (by omega)
 have h4 : (a : Int) * 2 ^ b = ((a * 2 ^ b : Nat) : Int) := by simp
 rw [h4]
 exact zED (by omega) (by omega)
theorem zNZ (a b : Nat) : (a >>> b) &&& 1 = if a.testBit b then 1 else 0 := by
 rw [Nat.and_one_is_mod, Nat.testBit_eq_decide_div_mod_eq, Nat.shiftRight_eq_div_pow]
 have := Nat.mod_two_eq_zero_or_one (a / 2 ^ b)
 rcases this with h | h <;> simp [h]
def uv (n : Nat) : Int := n
theorem zKr {a b : Nat} (h : a < 2 ^ 32) : zRD .u32 (uv a) (b : Int) = uv (a >>> b) := zQO h
theorem zPs {a b : Nat} (ha : a < 2 ^ 32) (hb : b < 2 ^ 32) : zDj .and .u32 (uv a) (uv b) = uv (a &&& b) := zNb ha hb
theorem zNr {a : Nat} (ha : a < 2 ^ 32) : zDj .and .u32 (uv a) 1 = uv (a &&& 1) := zNb (b := 1) ha (by decide)
theorem zTE {a b : Nat} (ha : a < 2 ^ 32) (hb : b < 2 ^ 32) : zDj .or .u32 (uv a) (uv b) = uv (a ||| b) := zSK ha hb
theorem zSx {a b : Nat} (ha : a < 2 ^ 32) (hb : b < 2 ^ 32) : zDj .andNot .u32 (uv a) (uv b) = uv (anB a b) := zRu ha hb
theorem zSA {a b : Nat} (ha : a ≤ 1) (hb : b < 32) : zQp .u32 (uv a) (b : Int) = uv (a <<< b) := zQr ha hb
theorem zNa {a : Nat} (h : a < 2 ^ 32) : IntKind.u32.wrap (Int.tdiv (uv a) 2) = uv (a / 2) := by
 show IntKind.u32.wrap (Int.tdiv (a : Int) 2) = _
 rw [Int.tdiv_eq_ediv_of_nonneg (by omega), zED (by omega) (by omega)]
 show _ = ((a / 2 : Nat) : Int)
 omega
theorem zSX {a : Nat} : Int.tmod (uv a) 2 = uv (a % 2) := by
 show Int.tmod (a : Int) 2 = ((a % 2 : Nat) : Int)
 rw [Int.tmod_eq_emod_of_nonneg (by omega)]
 omega
@[push_cast] theorem zMe {a b : Nat} : (uv a == uv b) = decide (a = b) := by rw [Bool.eq_iff_iff]; simp [uv]; omega
@[push_cast] theorem zSH {a b : Nat} : (uv a != uv b) = !decide (a = b) := by rw [bne, zMe]
@[push_cast] theorem zTG {a : Nat} : (uv a == 1) = decide (a = 1) := zMe (b := 1)
@[push_cast] theorem zTH {a : Nat} : (uv a == 0) = decide (a = 0) := zMe (b := 0)
@[push_cast] theorem zTI {a : Nat} : (uv a != 0) = !decide (a = 0) := zSH (b := 0)
@[push_cast] theorem zTK {a : Nat} : (0 < uv a) ↔ (0 < a) := by show 0 < (a : Int) ↔ _; omega
def zL (l : List Nat) : List (List D) := l.map fun (n : Nat) => [.v (.int .u32 (uv n))]
def zM (l : List ByteArray) : List (List D) := l.map fun s => [.v (.string s)]
@[push_cast] theorem zQe (l : List Nat) : (zL l).length = l.length := by simp [zL]
@[push_cast] theorem zQa (l : List ByteArray) : (zM l).length = l.length := by simp [zM]
@[push_cast] theorem zSG (l : List Nat) (a b : Nat) : sub (zL l) a b = zL ((l.take b).drop a) := by simp [zL, zDv]
@[push_cast] theorem zSL (l : List ByteArray) (a b : Nat) : sub (zM l) a b = zM ((l.take b).drop a) := by simp [zM, zDv]
theorem zAu {l : List Nat} {n : Nat} {x : Nat} (h : l[n]? = some x) : zEt (zL l) n = [.v (.int .u32 (uv x))] := by unfold zL; exact zBe _ _ _ _ h
theorem zBT {l : List ByteArray} {n : Nat} {x : ByteArray} (h : l[n]? = some x) : zEt (zM l) n = [.v (.string x)] := by unfold zM; exact zBe _ _ _ _ h
theorem zCI {α : Type} {l : List α} {n : Nat} (d : α) (h : n < l.length) : l[n]? = some (l.getD n d) := by rw [List.getD_eq_getElem?_getD, List.getElem?_eq_getElem h]; rfl
def zDI (s : ByteArray) : Bool := decide (1 ≤ s.size ∧ s.size ≤ 12 ∧ ∀ i, i < s.size → 97 ≤ zBS s i ∧ zBS s i ≤ 122)
theorem zEl {s : ByteArray} {i : Nat} (h : i < s.size) (hb : zBS s i < 97 ∨ 122 < zBS s i) : zDI s = false := by
 cases hc : zDI s with
 | false => rfl
 | true => simp only [zDI, decide_eq_true_eq] at hc; have := hc.2.2 i h; omega
theorem zPH {s : ByteArray} : s.size = 0 ↔ s = { data := #[] } := by
 cases s with
 | mk d => simp [ByteArray.size]
theorem zHR (s : ByteArray) (hb : s.size ≤ 9223372036854775807) : Fn Tryz.prog 281 [.v (.string s)] [] (.v (.bool (zDI s))) [] := by
 refine Fn.of (fn := Tryz.f281) (by kernel_rfl) rfl (by kernel_rfl) ⟨[.v (.string s), .v undef, .v undef, .v undef, .v undef, .v undef, .v undef, .v undef, .v undef, .v undef, .v undef, .v undef, .v undef, .v undef, .v undef, .v undef, .v undef, .v undef, .v undef, .v undef, .v undef, .v undef, .v undef, .v undef, .v undef, .v undef, .v undef], []⟩ rfl ?_
 repeat' first | (with_reducible first | refine zA ?_ | refine zB ?_ | refine zG ?_) | ((with_reducible refine zC fun KC J hJ hKC => ?_); simp (maxSteps := 9999999) only [push_cast, seval, ↓reduceIte]) | ((with_reducible refine hJ _ _ ?_); clear hJ hKC KC J)
 refine ze (γ := {i : Nat // i ≤ s.size ∧ ∀ j, j < i → 97 ≤ zBS s j ∧ zBS s j ≤ 122}) (fun i => ⟨[.v (.string s), .any, .any, .any, .any, .v (.int .i64 s.size), .v (.int .i64 i.1), .any, .any, .any, .any, .any, .any, .any, .any, .any, .any, .any, .any, .any, .any, .any, .any, .any, .any, .any, .any], []⟩) (fun i => s.size - i.1) ⟨0, by simp⟩ ⟨?_, Fq⟩ ?_
 ·exact Lq
 ·rintro ⟨i, hi, hn⟩
  by_cases hlt : (i : Int) < (s.size : Int)
  ·by_cases h1 : zBS s i < 97
   ·skip
    repeat' first | (with_reducible first | refine zA ?_ | refine zB ?_ | refine zS ?_ | refine zg ?_ | refine zI ?_ | refine zJ ?_ | refine zG ?_) | ((with_reducible refine And.intro ?_ ?_); · exact Sq) | ((with_reducible refine zC fun KC J hJ hKC => ?_); simp (maxSteps := 9999999) only [push_cast, seval, ↓reduceIte, hlt, h1]) | ((with_reducible refine hJ _ _ ?_); clear hJ hKC KC J) | ((with_reducible refine zF ?_ ?_); · rfl)
    refine zE ?_
    simp (maxSteps := 9999999) only [push_cast, seval, ↓reduceIte, show Tryz.f281.results = #[(.tmp 2)] from rfl]
    rw [zEl (by omega) (.inl h1)]
    exact zN _
   by_cases h2 : 122 < zBS s i
   ·skip
    repeat' first | (with_reducible first | refine zA ?_ | refine zB ?_ | refine zS ?_ | refine zg ?_ | refine zI ?_ | refine zJ ?_ | refine zG ?_) | ((with_reducible refine And.intro ?_ ?_); · exact Sq) | ((with_reducible refine zC fun KC J hJ hKC => ?_); simp (maxSteps := 9999999) only [push_cast, seval, ↓reduceIte, hlt, h1, h2]) | ((with_reducible refine hJ _ _ ?_); clear hJ hKC KC J) | ((with_reducible refine zF ?_ ?_); · rfl)
    refine zE ?_
    simp (maxSteps := 9999999) only [push_cast, seval, ↓reduceIte, show Tryz.f281.results = #[(.tmp 2)] from rfl]
    rw [zEl (by omega) (.inr h2)]
    exact zN _
   repeat' first | (with_reducible first | refine zA ?_ | refine zB ?_ | refine zO ?_ | refine zJ ?_ | refine zG ?_) | ((with_reducible refine And.intro ?_ ?_); · exact Sq) | ((with_reducible refine zC fun KC J hJ hKC => ?_); simp (maxSteps := 9999999) only [push_cast, seval, ↓reduceIte, hlt, h1, h2, zb (i := i) (n := s.size) (by omega) hb]) | ((with_reducible refine hJ _ _ ?_); clear hJ hKC KC J) | ((with_reducible refine zF ?_ ?_); · rfl) | ((with_reducible refine zH ?_ ?_); · rfl)
   refine ⟨⟨i + 1, by omega, fun j hj => ?_⟩, by simp only; omega, ?_, Fq⟩
   ·by_cases he : j = i
    ·subst he; omega
    ·exact hn j (by omega)
   ·exact Lq
  ·have hall : ∀ j, j < s.size → 97 ≤ zBS s j ∧ zBS s j ≤ 122 := fun j hj => hn j (by omega)
   have he := @zPH s
   by_cases h0 : s = { data := #[] }
   ·have h0' := he.2 h0
    have hd : decide (s = { data := #[] }) = true := by simp [h0]
    repeat' first | (with_reducible first | refine zA ?_ | refine zB ?_ | refine zX ?_ | refine zW ?_ | refine zI ?_ | refine zQ ?_) | ((with_reducible refine zC fun KC J hJ hKC => ?_); simp (maxSteps := 9999999) only [push_cast, seval, ↓reduceIte, hlt, hd]) | ((with_reducible refine hJ _ _ ?_); clear hJ hKC KC J) | ((with_reducible refine zH ?_ ?_); · rfl)
    refine zE ?_
    simp (maxSteps := 9999999) only [push_cast, seval, ↓reduceIte, show Tryz.f281.results = #[(.tmp 2)] from rfl]
    refine zAF (congrArg Value.bool (Bool.eq_iff_iff.2 ?_))
    simp only [zDI, decide_eq_true_eq, Bool.false_eq_true, false_iff]
    omega
   ·have h1 : 1 ≤ s.size := Nat.one_le_iff_ne_zero.2 fun h => h0 (he.1 h)
    have hd : decide (s = { data := #[] }) = false := by simp [h0]
    repeat' first | (with_reducible first | refine zA ?_ | refine zB ?_ | refine zX ?_ | refine zW ?_ | refine zI ?_ | refine zQ ?_) | ((with_reducible refine zC fun KC J hJ hKC => ?_); simp (maxSteps := 9999999) only [push_cast, seval, ↓reduceIte, hlt, hd]) | ((with_reducible refine hJ _ _ ?_); clear hJ hKC KC J) | ((with_reducible refine zH ?_ ?_); · rfl)
    refine zE ?_
    simp (maxSteps := 9999999) only [push_cast, seval, ↓reduceIte, show Tryz.f281.results = #[(.tmp 2)] from rfl]
    refine zAF (congrArg Value.bool (Bool.eq_iff_iff.2 ?_))
    simp only [zDI, decide_eq_true_eq]
    exact ⟨fun h => ⟨h1, by omega, hall⟩, fun h => by omega⟩
theorem zHY (s : ByteArray) (hb : s.size ≤ 9223372036854775807) : Fn Tryz.prog 229 [.v (.string s)] [] (.v (.bool (zDI s))) [] := by
 refine Fn.of (fn := Tryz.f229) (by kernel_rfl) rfl (by kernel_rfl) ⟨[.v (.string s), .v undef, .v undef, .v undef, .v undef, .v undef, .v undef, .v undef, .v undef, .v undef, .v undef, .v undef, .v undef, .v undef, .v undef, .v undef, .v undef, .v undef, .v undef, .v undef, .v undef, .v undef, .v undef, .v undef, .v undef, .v undef, .v undef, .v undef], []⟩ rfl ?_
 repeat' first | (with_reducible first | refine zA ?_ | refine zB ?_ | refine zG ?_) | ((with_reducible refine zC fun KC J hJ hKC => ?_); simp (maxSteps := 9999999) only [push_cast, seval, ↓reduceIte]) | ((with_reducible refine hJ _ _ ?_); clear hJ hKC KC J)
 refine ze (γ := {i : Nat // i ≤ s.size ∧ ∀ j, j < i → 97 ≤ zBS s j ∧ zBS s j ≤ 122}) (fun i => ⟨[.v (.string s), .any, .any, .v (.int .i64 i.1), .any, .any, .any, .any, .any, .any, .any, .any, .any, .any, .any, .any, .any, .any, .any, .any, .any, .any, .any, .any, .any, .any, .any, .any], []⟩) (fun i => s.size - i.1) ⟨0, by simp⟩ ⟨?_, Fq⟩ ?_
 ·exact Lq
 ·rintro ⟨i, hi, hn⟩
  by_cases hlt : (i : Int) < (s.size : Int)
  ·by_cases h1 : zBS s i < 97
   ·skip
    repeat' first | (with_reducible first | refine zA ?_ | refine zB ?_ | refine zS ?_ | refine zg ?_ | refine zI ?_ | refine zJ ?_ | refine zG ?_) | ((with_reducible refine And.intro ?_ ?_); · exact Sq) | ((with_reducible refine zC fun KC J hJ hKC => ?_); simp (maxSteps := 9999999) only [push_cast, seval, ↓reduceIte, hlt, h1]) | ((with_reducible refine hJ _ _ ?_); clear hJ hKC KC J) | ((with_reducible refine zF ?_ ?_); · rfl)
    refine zE ?_
    simp (maxSteps := 9999999) only [push_cast, seval, ↓reduceIte, show Tryz.f229.results = #[(.tmp 2)] from rfl]
    rw [zEl (by omega) (.inl h1)]
    exact zN _
   by_cases h2 : 122 < zBS s i
   ·skip
    repeat' first | (with_reducible first | refine zA ?_ | refine zB ?_ | refine zS ?_ | refine zg ?_ | refine zI ?_ | refine zJ ?_ | refine zG ?_) | ((with_reducible refine And.intro ?_ ?_); · exact Sq) | ((with_reducible refine zC fun KC J hJ hKC => ?_); simp (maxSteps := 9999999) only [push_cast, seval, ↓reduceIte, hlt, h1, h2]) | ((with_reducible refine hJ _ _ ?_); clear hJ hKC KC J) | ((with_reducible refine zF ?_ ?_); · rfl)
    refine zE ?_
    simp (maxSteps := 9999999) only [push_cast, seval, ↓reduceIte, show Tryz.f229.results = #[(.tmp 2)] from rfl]
    rw [zEl (by omega) (.inr h2)]
    exact zN _
   repeat' first | (with_reducible first | refine zA ?_ | refine zB ?_ | refine zO ?_ | refine zJ ?_ | refine zG ?_) | ((with_reducible refine And.intro ?_ ?_); · exact Sq) | ((with_reducible refine zC fun KC J hJ hKC => ?_); simp (maxSteps := 9999999) only [push_cast, seval, ↓reduceIte, hlt, h1, h2, zb (i := i) (n := s.size) (by omega) hb]) | ((with_reducible refine hJ _ _ ?_); clear hJ hKC KC J) | ((with_reducible refine zF ?_ ?_); · rfl) | ((with_reducible refine zH ?_ ?_); · rfl)
   refine ⟨⟨i + 1, by omega, fun j hj => ?_⟩, by simp only; omega, ?_, Fq⟩
   ·by_cases he : j = i
    ·subst he; omega
    ·exact hn j (by omega)
   ·exact Lq
  ·have hall : ∀ j, j < s.size → 97 ≤ zBS s j ∧ zBS s j ≤ 122 := fun j hj => hn j (by omega)
   by_cases h0 : (0 : Int) < s.size
   ·skip
    repeat' first | (with_reducible first | refine zA ?_ | refine zB ?_ | refine zX ?_ | refine zW ?_ | refine zI ?_ | refine zQ ?_) | ((with_reducible refine zC fun KC J hJ hKC => ?_); simp (maxSteps := 9999999) only [push_cast, seval, ↓reduceIte, hlt, h0]) | ((with_reducible refine hJ _ _ ?_); clear hJ hKC KC J) | ((with_reducible refine zH ?_ ?_); · rfl)
    refine zE ?_
    simp (maxSteps := 9999999) only [push_cast, seval, ↓reduceIte, show Tryz.f229.results = #[(.tmp 2)] from rfl]
    refine zAF (congrArg Value.bool (Bool.eq_iff_iff.2 ?_))
    simp only [zDI, decide_eq_true_eq]
    exact ⟨fun h => ⟨by omega, by omega, hall⟩, fun h => by omega⟩
   ·skip
    repeat' first | (with_reducible first | refine zA ?_ | refine zB ?_ | refine zX ?_ | refine zW ?_ | refine zI ?_ | refine zQ ?_) | ((with_reducible refine zC fun KC J hJ hKC => ?_); simp (maxSteps := 9999999) only [push_cast, seval, ↓reduceIte, hlt, h0]) | ((with_reducible refine hJ _ _ ?_); clear hJ hKC KC J) | ((with_reducible refine zH ?_ ?_); · rfl)
    refine zE ?_
    simp (maxSteps := 9999999) only [push_cast, seval, ↓reduceIte, show Tryz.f229.results = #[(.tmp 2)] from rfl]
    refine zAF (congrArg Value.bool (Bool.eq_iff_iff.2 ?_))
    simp only [zDI, decide_eq_true_eq, Bool.false_eq_true, false_iff]
    omega
theorem zLG (f : Bool) (xs : List ByteArray) (s : ByteArray) (hb : xs.length ≤ 9223372036854775807) : Fn Tryz.prog 294 [.sl f 1 (zM xs), .v (.string s)] [] (.v (.int .i64 (zDQ (fun x => decide (s = x)) xs))) [] := by
 refine Fn.of (fn := Tryz.f294) (by kernel_rfl) rfl (by kernel_rfl) ⟨[.sl f 1 (zM xs), .v (.string s), .v undef, .v undef, .v undef, .v undef, .v undef, .v undef, .v undef, .v undef, .v undef, .v undef, .v undef, .v undef, .v undef, .v undef, .v undef, .v undef, .v undef], []⟩ rfl ?_
 repeat' first | (with_reducible first | refine zA ?_ | refine zB ?_ | refine zG ?_) | ((with_reducible refine zC fun KC J hJ hKC => ?_); simp (maxSteps := 9999999) only [push_cast, seval, ↓reduceIte]) | ((with_reducible refine hJ _ _ ?_); clear hJ hKC KC J)
 refine ze (γ := {i : Nat // i ≤ xs.length ∧ ∀ (j : Nat) (hj : j < xs.length), j < i → decide (s = xs[j]) = false}) (fun i => ⟨[.sl f 1 (zM xs), .v (.string s), .any, .any, .any, .any, .any, .v (.int .i64 xs.length), .v (.int .i64 i.1), .any, .any, .any, .any, .any, .any, .any, .any, .any, .any], []⟩) (fun i => xs.length - i.1) ⟨0, by simp⟩ ⟨?_, Fq⟩ ?_
 ·exact Lq
 ·rintro ⟨i, hi, hn⟩
  by_cases hlt : (i : Int) < (xs.length : Int)
  ·have hx : xs[i]? = some xs[i] := List.getElem?_eq_getElem (by omega)
   repeat' first | (with_reducible first | refine zA ?_ | refine zB ?_ | refine zS ?_ | refine zO ?_ | refine zg ?_ | refine zI ?_ | refine zJ ?_ | refine zG ?_) | ((with_reducible refine And.intro ?_ ?_); · exact Sq) | ((with_reducible refine zC fun KC J hJ hKC => ?_); simp (maxSteps := 9999999) only [push_cast, seval, ↓reduceIte, hlt, zBT hx, zb (i := i) (n := xs.length) (by omega) hb]) | ((with_reducible refine hJ _ _ ?_); clear hJ hKC KC J) | ((with_reducible refine zF ?_ ?_); · rfl) | (refine zs rfl (fun h => ?_) (fun h => ?_) <;> try simp only [decide_eq_true_eq, decide_eq_false_iff_not, Bool.not_eq_true', Bool.not_eq_false', beq_iff_eq, bne_iff_ne, ne_eq, Bool.not_eq_true, Bool.or_eq_true, Bool.and_eq_true, Bool.or_eq_false_iff, Bool.and_eq_false_imp, beq_eq_false_iff_ne, bne_eq_false_iff_eq] at h)
   ·refine zE ?_
    simp (maxSteps := 9999999) only [push_cast, seval, ↓reduceIte, show Tryz.f294.results = #[(.tmp 4)] from rfl]
    exact zAF (by rw [zBt (by omega) (by simpa using h) hn])
   ·refine ⟨⟨i + 1, by omega, fun j hj hji => ?_⟩, by simp only; omega, ?_, Fq⟩
    ·by_cases he : j = i
     ·subst he; simpa using h
     ·exact hn j hj (by omega)
    ·exact Lq
  ·skip
   repeat' first | (with_reducible first | refine zA ?_ | refine zB ?_ | refine zX ?_ | refine zW ?_ | refine zI ?_ | refine zQ ?_) | ((with_reducible refine zC fun KC J hJ hKC => ?_); simp (maxSteps := 9999999) only [push_cast, seval, ↓reduceIte, hlt]) | ((with_reducible refine hJ _ _ ?_); clear hJ hKC KC J) | ((with_reducible refine zH ?_ ?_); · rfl)
   refine zE ?_
   simp (maxSteps := 9999999) only [push_cast, seval, ↓reduceIte, show Tryz.f294.results = #[(.tmp 4)] from rfl]
   exact zAF (by rw [zBB (fun j hj => hn j hj (by omega))])
def zMz (s : ByteArray) (xs : List ByteArray) : Bool := xs.any (fun x => decide (s = x))
theorem zCv (f : Bool) (xs : List ByteArray) (s : ByteArray) (hb : xs.length ≤ 9223372036854775807) : Fn Tryz.prog 282 [.sl f 1 (zM xs), .v (.string s)] [] (.v (.bool (zMz s xs))) [] := by
 refine Fn.of (fn := Tryz.f282) (by kernel_rfl) rfl (by kernel_rfl) ⟨[.sl f 1 (zM xs), .v (.string s), .v undef, .v undef, .v undef, .v undef, .v undef, .v undef, .v undef], []⟩ rfl ?_
 repeat' first | (with_reducible first | refine zA ?_ | refine zB ?_ | refine zI ?_) | ((first | with_reducible refine zC fun KC J hJ hKC => ?_ | (refine' hKC _ _ _ _ _ (zD (zLG _ _ _ ?_) rfl rfl rfl ?_ ?_); (rotate_left 4); (· exact Lq); (rotate_left 1); (iterate 1 (· exact Hq)))); simp (maxSteps := 9999999) only [push_cast, seval, ↓reduceIte]) | ((with_reducible refine hJ _ _ ?_); clear hJ hKC KC J)
 refine zE ?_
 simp (maxSteps := 9999999) only [push_cast, seval, ↓reduceIte, show Tryz.f282.results = #[(.tmp 4)] from rfl]
 exact zAF (congrArg Value.bool zDd)
def fl (us : List Nat) (a b : Nat) : Bool := (us.getD a 0).testBit b
def U32 (us : List Nat) : Prop := ∀ u ∈ us, u < 2 ^ 32
theorem U32.get {us : List Nat} (h : U32 us) {i : Nat} (hi : i < us.length) : us.getD i 0 < 2 ^ 32 := by
 rw [List.getD_eq_getElem?_getD, List.getElem?_eq_getElem hi]; exact h _ (List.getElem_mem _)
theorem zCZ (f g : Bool) (ns : List ByteArray) (us : List Nat) (a b : Nat) (hu : U32 us) (ha : a < us.length) :
  Fn Tryz.prog 272 [.agg [.sl f 1 (zM ns), .sl g 1 (zL us)], .v (.int .i64 (a : Int)), .v (.int .i64 (b : Int))] [] (.v (.bool (fl us a b))) [] := by
 have hx := zCI 0 ha
 have h1 : us.getD a 0 >>> b < 2 ^ 32 := Nat.lt_of_le_of_lt (Nat.shiftRight_le _ _) (hu.get ha)
 refine Fn.of (fn := Tryz.f272) (by kernel_rfl) rfl (by kernel_rfl) ⟨[.agg [.sl f 1 (zM ns), .sl g 1 (zL us)], .v (.int .i64 (a : Int)), .v (.int .i64 (b : Int)), .v undef, .v undef, .v undef, .v undef, .v undef, .v undef, .v undef, .v undef, .v undef, .v undef, .v undef, .v undef, .v undef], []⟩ rfl ?_
 repeat' first | (with_reducible first | refine zA ?_ | refine zB ?_ | refine zI ?_) | ((with_reducible refine And.intro ?_ ?_); · exact Sq) | ((with_reducible refine zC fun KC J hJ hKC => ?_); simp (maxSteps := 9999999) only [push_cast, seval, ↓reduceIte, zAu hx, zKr (hu.get ha) (b := b), zNr h1]) | ((with_reducible refine hJ _ _ ?_); clear hJ hKC KC J)
 refine zE ?_
 simp (maxSteps := 9999999) only [push_cast, seval, ↓reduceIte, show Tryz.f272.results = #[(.tmp 6)] from rfl]
 refine zAF (congrArg Value.bool ?_)
 rw [zNZ, fl]
 cases (us.getD a 0).testBit b <;> rfl
theorem zv (f g : Bool) (ns : List ByteArray) (us : List Nat) (a b : Nat) (hu : U32 us) (ha : a < us.length) (hb : b ≤ 1000) :
  Fn Tryz.prog 186 [.agg [.sl f 1 (zM ns), .sl g 1 (zL us)], .v (.int .i64 (a : Int)), .v (.int .i64 (b : Int))] [] (.v (.bool (fl us a b))) [] := by
 have hx := zCI 0 ha
 refine Fn.of (fn := Tryz.f186) (by kernel_rfl) rfl (by kernel_rfl) ⟨[.agg [.sl f 1 (zM ns), .sl g 1 (zL us)], .v (.int .i64 (a : Int)), .v (.int .i64 (b : Int)), .v undef, .v undef, .v undef, .v undef, .v undef, .v undef, .v undef, .v undef, .v undef, .v undef, .v undef, .v undef, .v undef, .v undef, .v undef, .v undef, .v undef, .v undef, .v undef, .v undef, .v undef], []⟩ rfl ?_
 repeat' first | (with_reducible first | refine zA ?_ | refine zB ?_ | refine zG ?_) | ((with_reducible refine And.intro ?_ ?_); · exact Sq) | ((with_reducible refine zC fun KC J hJ hKC => ?_); simp (maxSteps := 9999999) only [push_cast, seval, ↓reduceIte, zAu hx]) | ((with_reducible refine hJ _ _ ?_); clear hJ hKC KC J)
 refine ze (γ := {i : Nat // i ≤ b}) (fun i => ⟨[.any, .any, .v (.int .i64 (b : Int)), .any, .any, .any, .any, .v (.int .u32 (uv (us.getD a 0 >>> i.1))), .v (.int .i64 i.1), .any, .any, .any, .any, .any, .any, .any, .any, .any, .any, .any, .any, .any, .any, .any], [.ent ⟨0, none, 25, [.sl f 1 (zM ns), .sl g 1 (zL us)], .cells⟩]⟩) (fun i => b - i.1) ⟨0, by simp⟩ ⟨?_, Fq⟩ ?_
 ·exact Lq
 ·rintro ⟨i, hi⟩
  have h1 : us.getD a 0 >>> i < 2 ^ 32 := Nat.lt_of_le_of_lt (Nat.shiftRight_le _ _) (hu.get ha)
  by_cases hlt : (i : Int) < (b : Int)
  ·have hs : us.getD a 0 >>> (i + 1) = us.getD a 0 >>> i / 2 := Nat.shiftRight_succ _ _
   repeat' first | (with_reducible first | refine zA ?_ | refine zB ?_ | refine zO ?_ | refine zJ ?_ | refine zG ?_) | ((with_reducible refine zC fun KC J hJ hKC => ?_); simp (maxSteps := 9999999) only [push_cast, seval, ↓reduceIte, hlt, zNa h1, ← hs, zb (i := i) (n := b) (by omega) (by omega)]) | ((with_reducible refine hJ _ _ ?_); clear hJ hKC KC J) | ((with_reducible refine zF ?_ ?_); · rfl)
   refine ⟨⟨i + 1, by omega⟩, by simp only; omega, ?_, Fq⟩
   exact Lq
  ·obtain rfl : i = b := by omega
   repeat' first | (with_reducible first | refine zA ?_ | refine zB ?_ | refine zX ?_ | refine zW ?_ | refine zI ?_ | refine zQ ?_) | ((with_reducible refine zC fun KC J hJ hKC => ?_); simp (maxSteps := 9999999) only [push_cast, seval, ↓reduceIte, hlt, zSX]) | ((with_reducible refine hJ _ _ ?_); clear hJ hKC KC J) | ((with_reducible refine zH ?_ ?_); · rfl)
   refine zE ?_
   simp (maxSteps := 9999999) only [push_cast, seval, ↓reduceIte, show Tryz.f186.results = #[(.tmp 6)] from rfl]
   refine zAF (congrArg Value.bool ?_)
   rw [fl, Nat.testBit_eq_decide_div_mod_eq, Nat.shiftRight_eq_div_pow]
theorem zNL (u n : Nat) (hu : u < 2 ^ 32) (hn : n ≤ 1000) : Fn Tryz.prog 230 [.v (.int .u32 (uv u)), .v (.int .i64 (n : Int))] [] (.v (.bool (decide (0 < u >>> n)))) [] := by
 refine Fn.of (fn := Tryz.f230) (by kernel_rfl) rfl (by kernel_rfl) ⟨[.v (.int .u32 (uv u)), .v (.int .i64 (n : Int)), .v undef, .v undef, .v undef, .v undef, .v undef, .v undef, .v undef, .v undef, .v undef, .v undef, .v undef, .v undef, .v undef], []⟩ rfl ?_
 repeat' first | (with_reducible first | refine zA ?_ | refine zB ?_ | refine zG ?_) | ((with_reducible refine zC fun KC J hJ hKC => ?_); simp (maxSteps := 9999999) only [push_cast, seval, ↓reduceIte]) | ((with_reducible refine hJ _ _ ?_); clear hJ hKC KC J)
 refine ze (γ := {i : Nat // i ≤ n}) (fun i => ⟨[.v (.int .u32 (uv (u >>> i.1))), .v (.int .i64 (n : Int)), .any, .any, .any, .v (.int .i64 i.1), .any, .any, .any, .any, .any, .any, .any, .any, .any], []⟩) (fun i => n - i.1) ⟨0, by simp⟩ ⟨?_, Fq⟩ ?_
 ·exact Lq
 ·rintro ⟨i, hi⟩
  have h1 : u >>> i < 2 ^ 32 := Nat.lt_of_le_of_lt (Nat.shiftRight_le _ _) hu
  by_cases hlt : (i : Int) < (n : Int)
  ·have hs : u >>> (i + 1) = u >>> i / 2 := Nat.shiftRight_succ _ _
   repeat' first | (with_reducible first | refine zA ?_ | refine zB ?_ | refine zO ?_ | refine zJ ?_ | refine zG ?_) | ((with_reducible refine zC fun KC J hJ hKC => ?_); simp (maxSteps := 9999999) only [push_cast, seval, ↓reduceIte, hlt, zNa h1, ← hs, zb (i := i) (n := n) (by omega) (by omega)]) | ((with_reducible refine hJ _ _ ?_); clear hJ hKC KC J) | ((with_reducible refine zF ?_ ?_); · rfl)
   refine ⟨⟨i + 1, by omega⟩, by simp only; omega, ?_, Fq⟩
   exact Lq
  ·obtain rfl : i = n := by omega
   repeat' first | (with_reducible first | refine zA ?_ | refine zB ?_ | refine zX ?_ | refine zW ?_ | refine zI ?_ | refine zQ ?_) | ((with_reducible refine zC fun KC J hJ hKC => ?_); simp (maxSteps := 9999999) only [push_cast, seval, ↓reduceIte, hlt]) | ((with_reducible refine hJ _ _ ?_); clear hJ hKC KC J) | ((with_reducible refine zH ?_ ?_); · rfl)
   refine zE ?_
   simp (maxSteps := 9999999) only [push_cast, seval, ↓reduceIte, show Tryz.f230.results = #[(.tmp 4)] from rfl]
   exact Lq
def zCk (l : List ByteArray) : List D := l.map fun s => .v (.string s)
def zLJ (l : List Nat) : List D := l.map fun n => .v (.int .u32 (uv n))
@[push_cast] theorem zSl (l : List ByteArray) : zAT (zCk l) = true := by induction l with | nil => rfl | cons a l ih => simpa [zCk, zAT, frz, frz0] using ih
@[push_cast] theorem zSh (l : List Nat) : zAT (zLJ l) = true := by induction l with | nil => rfl | cons a l ih => simpa [zLJ, zAT, frz, frz0] using ih
@[push_cast] theorem zSt (k g sz : Nat) (c : List D) (l : List Nat) : (zLJ l).map (fr1 k g sz c) = zLJ l := by simp [zLJ, fr1, fr0]
@[push_cast] theorem zTF (k g sz : Nat) (c : List D) (l : List ByteArray) : (zCk l).map (fr1 k g sz c) = zCk l := by simp [zCk, fr1, fr0]
theorem zGK {l : List D} {n : Nat} (h : l.length = n) : l.take (n * 1) = l := by rw [Nat.mul_one]; exact List.take_of_length_le (by omega)
theorem zIU {α : Type} {xs ys : List α} (hl : xs.length = ys.length) (h : ∀ j, j < xs.length → xs[j]? = ys[j]?) : xs = ys :=
 List.ext_getElem? fun j => by
  by_cases hj : j < xs.length
  ·exact h j hj
  ·rw [List.getElem?_eq_none (by omega), List.getElem?_eq_none (by omega)]
def zR (l : List (Int × Int)) : List (List D) := l.map fun e => [.v (.int .i64 e.1), .v (.int .i64 e.2)]
def zm (l : List (Int × Int)) : List D := (zR l).flatten
@[push_cast] theorem zRo (l : List (Int × Int)) : (zR l).length = l.length := by simp [zR]
@[push_cast] theorem zSr (l : List (Int × Int)) (a b : Nat) : sub (zR l) a b = zR ((l.take b).drop a) := by simp [zR, zDv]
theorem zAK {l : List (Int × Int)} {n : Nat} {x : Int × Int} (h : l[n]? = some x) : zEt (zR l) n = [.v (.int .i64 x.1), .v (.int .i64 x.2)] := by unfold zR; exact zBe _ _ _ _ h
theorem zBm (l : List (Int × Int)) : (zm l).length = l.length * 2 := by
 induction l with
 | nil => rfl
 | cons a l ih => simp [zm, zR] at *; omega
theorem zII (l m : List (Int × Int)) : zm (l ++ m) = zm l ++ zm m := by simp [zm, zR]
@[push_cast] theorem zRs (l : List (Int × Int)) : zAT (zm l) = true := by
 induction l with
 | nil => rfl
 | cons a l ih => simpa [zm, zR, zAT, frz, frz0] using ih
@[push_cast] theorem zSj (k g sz : Nat) (c : List D) (l : List (Int × Int)) : (zm l).map (fr1 k g sz c) = zm l := by
 induction l with
 | nil => rfl
 | cons a l ih => simpa [zm, zR, fr1, fr0] using ih
theorem zKV (l : List (Int × Int)) : zBF 2 l.length (zm l) = zR l := by
 induction l with
 | nil => rfl
 | cons a l ih => simpa [zm, zR, zBF] using ih
theorem zHS {x y : Int × Int} : (x.1 == y.1 && x.2 == y.2) = decide (x = y) := by
 rw [Bool.eq_iff_iff]
 simp [Prod.ext_iff]
theorem zu (m : Nat → Option Nat) (l : List (Int × Int)) : (zm l).map (ren m) = zm l := by
 induction l with
 | nil => rfl
 | cons a l ih => simpa [zm, zR, ren, ren2, ren1, ren0] using ih
theorem zLw {l : List (Int × Int)} (h : 0 < l.length) : zBQ (zR l) = false := by cases l with | nil => simp at h | cons _ _ => rfl
theorem zHB (l : List (Int × Int)) (n : Nat) : (zm l).take (n * 2) = zm (l.take n) := by
 induction l generalizing n with
 | nil => simp [zm, zR]
 | cons a l ih => cases n with
  | zero => simp [zm, zR]
  | succ n =>
   have : (n + 1) * 2 = n * 2 + 1 + 1 := by omega
   rw [this]
   have h2 := ih n
   simp [zm, zR] at *
   exact h2
theorem zGk (l : List (Int × Int)) (n : Nat) : (zm l).drop (n * 2) = zm (l.drop n) := by
 induction l generalizing n with
 | nil => simp [zm, zR]
 | cons a l ih => cases n with
  | zero => simp [zm, zR]
  | succ n =>
   have : (n + 1) * 2 = n * 2 + 1 + 1 := by omega
   rw [this]
   have h2 := ih n
   simp [zm, zR] at *
   exact h2
def zCj (ns : List ByteArray) (us : List Nat) (i : Nat) : Bool := zDI (ns.getD i { data := #[] }) && !zMz (ns.getD i { data := #[] }) (ns.take i) && decide (us.getD i 0 >>> us.length = 0)
def zFV (ns : List ByteArray) (us : List Nat) : Bool := decide (1 ≤ us.length ∧ us.length ≤ 8 ∧ ns.length = us.length) && (List.range us.length).all (zCj ns us)
theorem zEk {ns : List ByteArray} {us : List Nat} (h : ¬ (1 ≤ us.length ∧ us.length ≤ 8 ∧ ns.length = us.length)) : zFV ns us = false := by simp [zFV, h]
theorem zEX {ns : List ByteArray} {us : List Nat} {i : Nat} (hi : i < us.length) (h : zCj ns us i = false) : zFV ns us = false := by
 have : (List.range us.length).all (zCj ns us) = false := by
  rw [List.all_eq_false]
  exact ⟨i, by simpa using hi, by simp [h]⟩
 simp [zFV, this]
theorem zLn {ns : List ByteArray} {us : List Nat} (h : 1 ≤ us.length ∧ us.length ≤ 8 ∧ ns.length = us.length) (ha : ∀ i, i < us.length → zCj ns us i = true) : zFV ns us = true := by
 simp only [zFV, Bool.and_eq_true, decide_eq_true_eq, List.all_eq_true]
 exact ⟨h, fun i hi => ha i (by simpa using hi)⟩
theorem zFZ {ns : List ByteArray} {us : List Nat} (h : zFV ns us = true) : (1 ≤ us.length ∧ us.length ≤ 8 ∧ ns.length = us.length) ∧ ∀ i, i < us.length → zCj ns us i = true := by
 simp only [zFV, Bool.and_eq_true, decide_eq_true_eq, List.all_eq_true] at h
 exact ⟨h.1, fun i hi => h.2 i (by simpa using hi)⟩
def Szs (ns : List ByteArray) : Prop := ∀ s ∈ ns, s.size ≤ 9223372036854775807
theorem Szs.get {ns : List ByteArray} (h : Szs ns) {i : Nat} (hi : i < ns.length) : (ns.getD i { data := #[] }).size ≤ 9223372036854775807 := by
 rw [List.getD_eq_getElem?_getD, List.getElem?_eq_getElem hi]; exact h _ (List.getElem_mem _)
theorem zGQ (f g : Bool) (ns : List ByteArray) (us : List Nat) (hs : Szs ns) (hu : U32 us) :
  Fn Tryz.prog 235 [.agg [.sl f 1 (zM ns), .sl g 1 (zL us)]] [] (.v (.bool (zFV ns us))) [] := by
 refine Fn.of (fn := Tryz.f235) (by kernel_rfl) rfl (by kernel_rfl) ⟨[.agg [.sl f 1 (zM ns), .sl g 1 (zL us)], .v undef, .v undef, .v undef, .v undef, .v undef, .v undef, .v undef, .v undef, .v undef, .v undef, .v undef, .v undef, .v undef, .v undef, .v undef, .v undef, .v undef, .v undef, .v undef, .v undef, .v undef, .v undef, .v undef, .v undef, .v undef, .v undef, .v undef, .v undef, .v undef, .v undef, .v undef, .v undef, .v undef, .v undef, .v undef, .v undef, .v undef, .v undef, .v undef, .v undef, .v undef, .v undef, .v undef, .v undef, .v undef, .v undef, .v undef, .v undef, .v undef, .v undef, .v undef], []⟩ rfl ?_
 by_cases h1 : (us.length : Int) < 1
 ·skip
  repeat' first | (with_reducible first | refine zA ?_ | refine zB ?_ | refine zS ?_ | refine zI ?_) | ((with_reducible refine zC fun KC J hJ hKC => ?_); simp (maxSteps := 9999999) only [push_cast, seval, ↓reduceIte, h1]) | ((with_reducible refine hJ _ _ ?_); clear hJ hKC KC J) | ((with_reducible refine zF ?_ ?_); · rfl)
  refine zE ?_
  simp (maxSteps := 9999999) only [push_cast, seval, ↓reduceIte, show Tryz.f235.results = #[(.tmp 2)] from rfl]
  rw [zEk (by omega)]
  exact zN _
 by_cases h2 : (8 : Int) < us.length
 ·skip
  repeat' first | (with_reducible first | refine zA ?_ | refine zB ?_ | refine zS ?_ | refine zI ?_) | ((with_reducible refine zC fun KC J hJ hKC => ?_); simp (maxSteps := 9999999) only [push_cast, seval, ↓reduceIte, h1, h2]) | ((with_reducible refine hJ _ _ ?_); clear hJ hKC KC J) | ((with_reducible refine zF ?_ ?_); · rfl)
  refine zE ?_
  simp (maxSteps := 9999999) only [push_cast, seval, ↓reduceIte, show Tryz.f235.results = #[(.tmp 2)] from rfl]
  rw [zEk (by omega)]
  exact zN _
 by_cases h3 : ns.length = us.length
 ·have h3' : ((ns.length : Int) != (us.length : Int)) = false := by simp [h3]
  repeat' first | (with_reducible first | refine zA ?_ | refine zB ?_ | refine zJ ?_ | refine zG ?_) | ((with_reducible refine zC fun KC J hJ hKC => ?_); simp (maxSteps := 9999999) only [push_cast, seval, ↓reduceIte, h1, h2, h3']) | ((with_reducible refine hJ _ _ ?_); clear hJ hKC KC J) | ((with_reducible refine zH ?_ ?_); · rfl)
  refine ze (γ := {i : Nat // i ≤ us.length ∧ ∀ j, j < i → zCj ns us j = true}) (fun i => ⟨[.any, .ptr 0 0 0, .any, .v (.int .i64 us.length), .any, .any, .any, .any, .any, .any, .any, .any, .any, .any, .any, .any, .any, .any, .any, .any, .any, .any, .any, .sl f 1 (zM ns), .v (.int .i64 ns.length), .v (.int .i64 i.1), .any, .any, .any, .any, .any, .any, .any, .any, .any, .any, .any, .any, .any, .any, .any, .any, .any, .any, .any, .any, .any, .any, .any, .any, .any, .any], [.ent ⟨0, none, 25, [.sl f 1 (zM ns), .sl g 1 (zL us)], .cells⟩]⟩) (fun i => us.length - i.1) ⟨0, by simp⟩ ⟨?_, Fq⟩ ?_
  ·exact Lq
  ·rintro ⟨i, hi, hn⟩
   by_cases hlt : (i : Int) < (ns.length : Int)
   ·have hlu : i < us.length := by omega
    have hx := zCI ({ data := #[] } : ByteArray) (show i < ns.length by omega)
    have hy := zCI 0 hlu
    have hsz := hs.get (show i < ns.length by omega)
    have hul := hu.get hlu
    by_cases c1 : zDI (ns.getD i { data := #[] }) = true
    ·by_cases c2 : zMz (ns.getD i { data := #[] }) (ns.take i) = true
     ·skip
      repeat' first | (with_reducible first | refine zA ?_ | refine zB ?_ | refine zS ?_ | refine zg ?_ | refine zI ?_ | refine zJ ?_ | refine zG ?_) | ((with_reducible refine And.intro ?_ ?_); · exact Sq) | ((first | with_reducible refine zC fun KC J hJ hKC => ?_ | (refine' hKC _ _ _ _ _ (zD (zHR _ ?_) rfl rfl rfl ?_ ?_); (rotate_left 2); (· exact Lq); (rotate_left 1); (iterate 1 (· exact Hq))) | (refine' hKC _ _ _ _ _ (zD (zCv _ _ _ ?_) rfl rfl rfl ?_ ?_); (rotate_left 4); (· exact Lq); (rotate_left 1); (iterate 1 (· exact Hq)))); simp (maxSteps := 9999999) only [push_cast, seval, ↓reduceIte, hlt, zBT hx, zAu hy, c1, c2]) | ((with_reducible refine hJ _ _ ?_); clear hJ hKC KC J) | ((with_reducible refine zF ?_ ?_); · rfl)
      refine zE ?_
      simp (maxSteps := 9999999) only [push_cast, seval, ↓reduceIte, show Tryz.f235.results = #[(.tmp 2)] from rfl]
      rw [zEX hlu (by simp only [zCj, c1, c2]; rfl)]
      exact zN _
     have c2' : zMz (ns.getD i { data := #[] }) (ns.take i) = false := by simpa using c2
     by_cases c3 : us.getD i 0 >>> us.length = 0
     ·skip
      repeat' first | (with_reducible first | refine zA ?_ | refine zB ?_ | refine zO ?_ | refine zJ ?_ | refine zG ?_) | ((with_reducible refine And.intro ?_ ?_); · exact Sq) | ((first | with_reducible refine zC fun KC J hJ hKC => ?_ | (refine' hKC _ _ _ _ _ (zD (zHR _ ?_) rfl rfl rfl ?_ ?_); (rotate_left 2); (· exact Lq); (rotate_left 1); (iterate 1 (· exact Hq))) | (refine' hKC _ _ _ _ _ (zD (zCv _ _ _ ?_) rfl rfl rfl ?_ ?_); (rotate_left 4); (· exact Lq); (rotate_left 1); (iterate 1 (· exact Hq)))); simp (maxSteps := 9999999) only [push_cast, seval, ↓reduceIte, hlt, zBT hx, zAu hy, c1, c2', zKr hul (b := us.length), c3, zb (i := i) (n := us.length) (by omega) (by omega)]) | ((with_reducible refine hJ _ _ ?_); clear hJ hKC KC J) | ((with_reducible refine zF ?_ ?_); · rfl) | ((with_reducible refine zH ?_ ?_); · rfl)
      refine ⟨⟨i + 1, by omega, fun j hj => ?_⟩, by simp only; omega, ?_, Fq⟩
      ·by_cases he : j = i
       ·subst he; simp only [zCj, c1, c2', c3]; rfl
       ·exact hn j (by omega)
      ·exact Lq
     ·have c3' : decide (us.getD i 0 >>> us.length = 0) = false := by simpa using c3
      repeat' first | (with_reducible first | refine zA ?_ | refine zB ?_ | refine zS ?_ | refine zg ?_ | refine zI ?_ | refine zJ ?_ | refine zG ?_) | ((with_reducible refine And.intro ?_ ?_); · exact Sq) | ((first | with_reducible refine zC fun KC J hJ hKC => ?_ | (refine' hKC _ _ _ _ _ (zD (zHR _ ?_) rfl rfl rfl ?_ ?_); (rotate_left 2); (· exact Lq); (rotate_left 1); (iterate 1 (· exact Hq))) | (refine' hKC _ _ _ _ _ (zD (zCv _ _ _ ?_) rfl rfl rfl ?_ ?_); (rotate_left 4); (· exact Lq); (rotate_left 1); (iterate 1 (· exact Hq)))); simp (maxSteps := 9999999) only [push_cast, seval, ↓reduceIte, hlt, zBT hx, zAu hy, c1, c2', zKr hul (b := us.length), c3']) | ((with_reducible refine hJ _ _ ?_); clear hJ hKC KC J) | ((with_reducible refine zF ?_ ?_); · rfl)
      refine zE ?_
      simp (maxSteps := 9999999) only [push_cast, seval, ↓reduceIte, show Tryz.f235.results = #[(.tmp 2)] from rfl]
      rw [zEX hlu (by simp only [zCj, c1, c2', c3']; rfl)]
      exact zN _
    ·have c1' : zDI (ns.getD i { data := #[] }) = false := by simpa using c1
     repeat' first | (with_reducible first | refine zA ?_ | refine zB ?_ | refine zS ?_ | refine zg ?_ | refine zI ?_ | refine zJ ?_ | refine zG ?_) | ((with_reducible refine And.intro ?_ ?_); · exact Sq) | ((first | with_reducible refine zC fun KC J hJ hKC => ?_ | (refine' hKC _ _ _ _ _ (zD (zHR _ ?_) rfl rfl rfl ?_ ?_); (rotate_left 2); (· exact Lq); (rotate_left 1); (iterate 1 (· exact Hq)))); simp (maxSteps := 9999999) only [push_cast, seval, ↓reduceIte, hlt, zBT hx, zAu hy, c1']) | ((with_reducible refine hJ _ _ ?_); clear hJ hKC KC J) | ((with_reducible refine zF ?_ ?_); · rfl)
     refine zE ?_
     simp (maxSteps := 9999999) only [push_cast, seval, ↓reduceIte, show Tryz.f235.results = #[(.tmp 2)] from rfl]
     rw [zEX hlu (by simp only [zCj, c1']; rfl)]
     exact zN _
   ·skip
    repeat' first | (with_reducible first | refine zA ?_ | refine zB ?_ | refine zX ?_ | refine zW ?_ | refine zI ?_ | refine zQ ?_) | ((with_reducible refine zC fun KC J hJ hKC => ?_); simp (maxSteps := 9999999) only [push_cast, seval, ↓reduceIte, hlt]) | ((with_reducible refine hJ _ _ ?_); clear hJ hKC KC J) | ((with_reducible refine zH ?_ ?_); · rfl)
    refine zE ?_
    simp (maxSteps := 9999999) only [push_cast, seval, ↓reduceIte, show Tryz.f235.results = #[(.tmp 2)] from rfl]
    rw [zLn ⟨by omega, by omega, h3⟩ (fun j hj => hn j (by omega))]
    exact zN _
 ·have h3' : ((ns.length : Int) != (us.length : Int)) = true := by simp; omega
  repeat' first | (with_reducible first | refine zA ?_ | refine zB ?_ | refine zS ?_ | refine zI ?_) | ((with_reducible refine zC fun KC J hJ hKC => ?_); simp (maxSteps := 9999999) only [push_cast, seval, ↓reduceIte, h1, h2, h3']) | ((with_reducible refine hJ _ _ ?_); clear hJ hKC KC J) | ((with_reducible refine zF ?_ ?_); · rfl)
  refine zE ?_
  simp (maxSteps := 9999999) only [push_cast, seval, ↓reduceIte, show Tryz.f235.results = #[(.tmp 2)] from rfl]
  rw [zEk (by omega)]
  exact zN _
theorem zKW (f g : Bool) (ns : List ByteArray) (us : List Nat) (hs : Szs ns) (hu : U32 us) :
  Fn Tryz.prog 129 [.agg [.sl f 1 (zM ns), .sl g 1 (zL us)]] [] (.v (.bool (zFV ns us))) [] := by
 refine Fn.of (fn := Tryz.f129) (by kernel_rfl) rfl (by kernel_rfl) ⟨[.agg [.sl f 1 (zM ns), .sl g 1 (zL us)], .v undef, .v undef, .v undef, .v undef, .v undef, .v undef, .v undef, .v undef, .v undef, .v undef, .v undef, .v undef, .v undef, .v undef, .v undef, .v undef, .v undef, .v undef, .v undef, .v undef, .v undef, .v undef, .v undef, .v undef, .v undef, .v undef, .v undef, .v undef, .v undef, .v undef, .v undef, .v undef, .v undef, .v undef, .v undef, .v undef, .v undef, .v undef, .v undef, .v undef, .v undef, .v undef, .v undef, .v undef, .v undef, .v undef, .v undef, .v undef, .v undef, .v undef, .v undef, .v undef, .v undef, .v undef, .v undef, .v undef, .v undef, .v undef, .v undef, .v undef, .v undef], []⟩ rfl ?_
 by_cases h1 : (us.length : Int) < 1
 ·skip
  repeat' first | (with_reducible first | refine zA ?_ | refine zB ?_ | refine zS ?_ | refine zI ?_) | ((with_reducible refine zC fun KC J hJ hKC => ?_); simp (maxSteps := 9999999) only [push_cast, seval, ↓reduceIte, h1]) | ((with_reducible refine hJ _ _ ?_); clear hJ hKC KC J) | ((with_reducible refine zF ?_ ?_); · rfl)
  refine zE ?_
  simp (maxSteps := 9999999) only [push_cast, seval, ↓reduceIte, show Tryz.f129.results = #[(.tmp 2)] from rfl]
  rw [zEk (by omega)]
  exact zN _
 by_cases h2 : (8 : Int) < us.length
 ·skip
  repeat' first | (with_reducible first | refine zA ?_ | refine zB ?_ | refine zS ?_ | refine zI ?_) | ((with_reducible refine zC fun KC J hJ hKC => ?_); simp (maxSteps := 9999999) only [push_cast, seval, ↓reduceIte, h1, h2]) | ((with_reducible refine hJ _ _ ?_); clear hJ hKC KC J) | ((with_reducible refine zF ?_ ?_); · rfl)
  refine zE ?_
  simp (maxSteps := 9999999) only [push_cast, seval, ↓reduceIte, show Tryz.f129.results = #[(.tmp 2)] from rfl]
  rw [zEk (by omega)]
  exact zN _
 by_cases h3 : ns.length = us.length
 ·have h3' : ((ns.length : Int) != (us.length : Int)) = false := by simp [h3]
  repeat' first | (with_reducible first | refine zA ?_ | refine zB ?_ | refine zJ ?_ | refine zG ?_) | ((with_reducible refine zC fun KC J hJ hKC => ?_); simp (maxSteps := 9999999) only [push_cast, seval, ↓reduceIte, h1, h2, h3']) | ((with_reducible refine hJ _ _ ?_); clear hJ hKC KC J) | ((with_reducible refine zH ?_ ?_); · rfl)
  refine ze (γ := {i : Nat // i ≤ us.length ∧ ∀ j, j < i → zCj ns us j = true}) (fun i => ⟨[.any, .ptr 0 0 0, .any, .any, .any, .any, .any, .any, .any, .any, .any, .any, .any, .any, .any, .any, .any, .any, .any, .any, .any, .any, .any, .any, .any, .any, .any, .sl f 1 (zM ns), .v (.int .i64 ns.length), .v (.int .i64 i.1), .any, .any, .any, .any, .any, .any, .any, .any, .any, .any, .any, .any, .any, .any, .any, .any, .any, .any, .any, .any, .any, .any, .any, .any, .any, .any, .any, .any, .any, .any, .any, .any], [.ent ⟨0, none, 25, [.sl f 1 (zM ns), .sl g 1 (zL us)], .cells⟩]⟩) (fun i => us.length - i.1) ⟨0, by simp⟩ ⟨?_, Fq⟩ ?_
  ·exact Lq
  ·rintro ⟨i, hi, hn⟩
   by_cases hlt : (i : Int) < (ns.length : Int)
   ·have hlu : i < us.length := by omega
    have hx := zCI ({ data := #[] } : ByteArray) (show i < ns.length by omega)
    have hy := zCI 0 hlu
    have hsz := hs.get (show i < ns.length by omega)
    have hul := hu.get hlu
    by_cases c1 : zDI (ns.getD i { data := #[] }) = true
    ·by_cases c3 : us.getD i 0 >>> us.length = 0
     ·have c3' : decide (0 < us.getD i 0 >>> us.length) = false := decide_eq_false (by rw [c3]; exact Nat.lt_irrefl 0)
      repeat' first | (with_reducible first | refine zA ?_ | refine zB ?_ | refine zJ ?_ | refine zG ?_) | ((with_reducible refine And.intro ?_ ?_); · exact Sq) | ((first | with_reducible refine zC fun KC J hJ hKC => ?_ | with_reducible refine zU rfl fun KC J hJ hKC => ?_ | (refine' hKC _ _ _ _ _ (zD (zHY _ ?_) rfl rfl rfl ?_ ?_); (rotate_left 2); (· exact Lq); (rotate_left 1); (iterate 1 (· exact Hq))) | (refine' hKC _ _ _ _ _ (zD (zNL _ _ ?_ ?_) rfl rfl rfl ?_ ?_); (rotate_left 4); (· exact Lq); (rotate_left 1); (iterate 2 (· exact Hq)))); simp (maxSteps := 9999999) only [push_cast, seval, ↓reduceIte, hlt, zBT hx, zAu hy, c1, c3']) | ((first | with_reducible refine hJ _ _ ?_ | (with_reducible refine hJ _ _ ?_ ?_; · kernel_rfl)); clear hJ hKC KC J) | ((with_reducible refine zF ?_ ?_); · rfl) | ((with_reducible refine zH ?_ ?_); · rfl)
      have htl : (ns.take i).length = i := by simp; omega
      refine ze (γ := {k : Nat // k ≤ i ∧ ∀ (j : Nat) (hj : j < (ns.take i).length), j < k → decide (ns.getD i { data := #[] } = (ns.take i)[j]) = false}) (fun k => ⟨[.any, .ptr 0 0 0, .any, .any, .v (.string (ns.getD i { data := #[] })), .any, .any, .any, .any, .any, .any, .any, .any, .any, .any, .any, .any, .any, .any, .any, .any, .any, .any, .any, .any, .any, .any, .sl f 1 (zM ns), .v (.int .i64 ns.length), .v (.int .i64 i), .any, .any, .any, .any, .any, .any, .any, .any, .any, .any, .any, .any, .any, .any, .any, .any, .any, .any, .any, .any, .any, .sl false 1 (zM (ns.take i)), .v (.int .i64 (ns.take i).length), .v (.int .i64 k.1), .any, .any, .any, .any, .any, .any, .any, .any], [.ent ⟨0, none, 25, [.sl f 1 (zM ns), .sl g 1 (zL us)], .cells⟩]⟩) (fun k => i - k.1) ⟨0, by simp⟩ ⟨?_, Fq⟩ ?_
      ·exact Lq
      ·rintro ⟨k, hk, hkn⟩
       by_cases hlk : (k : Int) < ((ns.take i).length : Int)
       ·have hz : (ns.take i)[k]? = some (ns.take i)[k] := List.getElem?_eq_getElem (by omega)
        by_cases c4 : (ns.take i)[k] = ns.getD i { data := #[] }
        ·skip
         repeat' first | (with_reducible first | refine zA ?_ | refine zB ?_ | refine zS ?_ | refine zg ?_ | refine zI ?_ | refine zJ ?_ | refine zG ?_) | ((with_reducible refine And.intro ?_ ?_); · exact Sq) | ((with_reducible refine zC fun KC J hJ hKC => ?_); simp (maxSteps := 9999999) only [push_cast, seval, ↓reduceIte, hlk, zBT hz, c4]) | ((with_reducible refine hJ _ _ ?_); clear hJ hKC KC J) | ((with_reducible refine zF ?_ ?_); · rfl)
         refine zE ?_
         simp (maxSteps := 9999999) only [push_cast, seval, ↓reduceIte, show Tryz.f129.results = #[(.tmp 2)] from rfl]
         have : zMz (ns.getD i { data := #[] }) (ns.take i) = true := List.any_eq_true.2 ⟨_, List.getElem_mem (show k < (ns.take i).length by omega), by simp [c4]⟩
         rw [zEX hlu (by simp only [zCj, c1, this]; rfl)]
         exact zN _
        ·have c4' : decide ((ns.take i)[k] = ns.getD i { data := #[] }) = false := by simpa using c4
         repeat' first | (with_reducible first | refine zA ?_ | refine zB ?_ | refine zO ?_ | refine zJ ?_ | refine zG ?_) | ((with_reducible refine And.intro ?_ ?_); · exact Sq) | ((with_reducible refine zC fun KC J hJ hKC => ?_); simp (maxSteps := 9999999) only [push_cast, seval, ↓reduceIte, hlk, zBT hz, c4', zb (i := k) (n := i) (by omega) (by omega)]) | ((with_reducible refine hJ _ _ ?_); clear hJ hKC KC J) | ((with_reducible refine zF ?_ ?_); · rfl) | ((with_reducible refine zH ?_ ?_); · rfl)
         refine ⟨⟨k + 1, by omega, fun j hj hjk => ?_⟩, by simp only; omega, ?_, Fq⟩
         ·by_cases he : j = k
          ·subst he; exact decide_eq_false fun h => c4 h.symm
          ·exact hkn j hj (by omega)
         ·exact Lq
       ·have c2' : zMz (ns.getD i { data := #[] }) (ns.take i) = false := by
         rw [zMz, List.any_eq_false]
         intro x hx'
         obtain ⟨j, hj, rfl⟩ := List.mem_iff_getElem.1 hx'
         have := hkn j hj (by omega)
         simpa using this
        repeat' first | (with_reducible first | refine zA ?_ | refine zB ?_ | refine zX ?_ | refine zO ?_ | refine zW ?_ | refine zQ ?_) | ((with_reducible refine zC fun KC J hJ hKC => ?_); simp (maxSteps := 9999999) only [push_cast, seval, ↓reduceIte, hlk, zb (i := i) (n := us.length) (by omega) (by omega)]) | ((with_reducible refine hJ _ _ ?_); clear hJ hKC KC J) | ((with_reducible refine zH ?_ ?_); · rfl)
        refine ⟨⟨i + 1, by omega, fun j hj => ?_⟩, by simp only; omega, ?_, Fq⟩
        ·by_cases he : j = i
         ·subst he; simp only [zCj, c1, c2', c3]; rfl
         ·exact hn j (by omega)
        ·exact Lq
     ·have c3' : decide (0 < us.getD i 0 >>> us.length) = true := decide_eq_true (Nat.pos_of_ne_zero c3)
      repeat' first | (with_reducible first | refine zA ?_ | refine zB ?_ | refine zS ?_ | refine zg ?_ | refine zI ?_ | refine zJ ?_ | refine zG ?_) | ((with_reducible refine And.intro ?_ ?_); · exact Sq) | ((first | with_reducible refine zC fun KC J hJ hKC => ?_ | with_reducible refine zU rfl fun KC J hJ hKC => ?_ | (refine' hKC _ _ _ _ _ (zD (zHY _ ?_) rfl rfl rfl ?_ ?_); (rotate_left 2); (· exact Lq); (rotate_left 1); (iterate 1 (· exact Hq))) | (refine' hKC _ _ _ _ _ (zD (zNL _ _ ?_ ?_) rfl rfl rfl ?_ ?_); (rotate_left 4); (· exact Lq); (rotate_left 1); (iterate 2 (· exact Hq)))); simp (maxSteps := 9999999) only [push_cast, seval, ↓reduceIte, hlt, zBT hx, zAu hy, c1, c3']) | ((first | with_reducible refine hJ _ _ ?_ | (with_reducible refine hJ _ _ ?_ ?_; · kernel_rfl)); clear hJ hKC KC J) | ((with_reducible refine zF ?_ ?_); · rfl)
      refine zE ?_
      simp (maxSteps := 9999999) only [push_cast, seval, ↓reduceIte, show Tryz.f129.results = #[(.tmp 2)] from rfl]
      rw [zEX hlu (by simp only [zCj, c1, decide_eq_false c3]; simp)]
      exact zN _
    ·have c1' : zDI (ns.getD i { data := #[] }) = false := by simpa using c1
     repeat' first | (with_reducible first | refine zA ?_ | refine zB ?_ | refine zS ?_ | refine zg ?_ | refine zI ?_ | refine zJ ?_ | refine zG ?_) | ((with_reducible refine And.intro ?_ ?_); · exact Sq) | ((first | with_reducible refine zC fun KC J hJ hKC => ?_ | with_reducible refine zU rfl fun KC J hJ hKC => ?_ | (refine' hKC _ _ _ _ _ (zD (zHY _ ?_) rfl rfl rfl ?_ ?_); (rotate_left 2); (· exact Lq); (rotate_left 1); (iterate 1 (· exact Hq)))); simp (maxSteps := 9999999) only [push_cast, seval, ↓reduceIte, hlt, zBT hx, zAu hy, c1']) | ((first | with_reducible refine hJ _ _ ?_ | (with_reducible refine hJ _ _ ?_ ?_; · kernel_rfl)); clear hJ hKC KC J) | ((with_reducible refine zF ?_ ?_); · rfl)
     refine zE ?_
     simp (maxSteps := 9999999) only [push_cast, seval, ↓reduceIte, show Tryz.f129.results = #[(.tmp 2)] from rfl]
     rw [zEX hlu (by simp only [zCj, c1']; rfl)]
     exact zN _
   ·skip
    repeat' first | (with_reducible first | refine zA ?_ | refine zB ?_ | refine zX ?_ | refine zW ?_ | refine zI ?_ | refine zQ ?_) | ((with_reducible refine zC fun KC J hJ hKC => ?_); simp (maxSteps := 9999999) only [push_cast, seval, ↓reduceIte, hlt]) | ((with_reducible refine hJ _ _ ?_); clear hJ hKC KC J) | ((with_reducible refine zH ?_ ?_); · rfl)
    refine zE ?_
    simp (maxSteps := 9999999) only [push_cast, seval, ↓reduceIte, show Tryz.f129.results = #[(.tmp 2)] from rfl]
    rw [zLn ⟨by omega, by omega, h3⟩ (fun j hj => hn j (by omega))]
    exact zN _
 ·have h3' : ((ns.length : Int) != (us.length : Int)) = true := by simp; omega
  repeat' first | (with_reducible first | refine zA ?_ | refine zB ?_ | refine zS ?_ | refine zI ?_) | ((with_reducible refine zC fun KC J hJ hKC => ?_); simp (maxSteps := 9999999) only [push_cast, seval, ↓reduceIte, h1, h2, h3']) | ((with_reducible refine hJ _ _ ?_); clear hJ hKC KC J) | ((with_reducible refine zF ?_ ?_); · rfl)
  refine zE ?_
  simp (maxSteps := 9999999) only [push_cast, seval, ↓reduceIte, show Tryz.f129.results = #[(.tmp 2)] from rfl]
  rw [zEk (by omega)]
  exact zN _
def Low (us : List Nat) : Prop := ∀ a, a < us.length → us.getD a 0 < 2 ^ us.length
theorem zHv {ns : List ByteArray} {us : List Nat} (h : zFV ns us = true) : Low us := fun a ha => by
 have := (zFZ h).2 a ha
 simp only [zCj, Bool.and_eq_true, decide_eq_true_eq] at this
 have h2 := this.2
 rw [Nat.shiftRight_eq_div_pow] at h2
 exact (Nat.div_eq_zero_iff_lt (Nat.two_pow_pos _)).1 h2
theorem Low.bit {us : List Nat} (h : Low us) {a : Nat} (ha : a < us.length) {i : Nat} (hi : fl us a i = true) : i < us.length := by
 rcases Nat.lt_or_ge i us.length with h1 | h1
 ·exact h1
 ·exfalso
  have : (us.getD a 0).testBit i = false := Nat.testBit_lt_two_pow (Nat.lt_of_lt_of_le (h a ha) (Nat.pow_le_pow_right (by decide) h1))
  rw [fl, this] at hi; cases hi
def Ord (us : List Nat) : Prop := (∀ a, a < us.length → fl us a a = true) ∧ (∀ a, a < us.length → ∀ b, b < us.length → ¬ a = b → ¬ (fl us a b = true ∧ fl us b a = true)) ∧
 (∀ a, a < us.length → ∀ b, b < us.length → ∀ c, c < us.length → fl us a b = true → fl us b c = true → fl us a c = true)
instance (us : List Nat) : Decidable (Ord us) := by unfold Ord; infer_instance
def zDP (us : List Nat) (a b : Nat) : Bool := (if a = b then fl us a a else !(fl us a b && fl us b a)) && (!fl us a b || decide (anB (us.getD b 0) (us.getD a 0) = 0))
theorem zLs {us : List Nat} (hu : U32 us) (hl : Low us) : (∀ a, a < us.length → ∀ b, b < us.length → zDP us a b = true) ↔ Ord us := by
 constructor
 ·intro h
  refine ⟨fun a ha => ?_, fun a ha b hb hab ⟨h1, h2⟩ => ?_, fun a ha b hb c hc h1 h2 => ?_⟩
  ·have := h a ha a ha
   simp only [zDP, if_true, Bool.and_eq_true] at this
   exact this.1
  ·have := h a ha b hb
   simp only [zDP, if_neg hab, h1, h2] at this
   simp at this
  ·have := h a ha b hb
   simp only [zDP, h1, Bool.not_true, Bool.false_or, Bool.and_eq_true, decide_eq_true_eq] at this
   exact (zMG (hu.get hb) (hu.get ha)).1 this.2 c h2
 ·rintro ⟨h1, h2, h3⟩ a ha b hb
  simp only [zDP, Bool.and_eq_true, Bool.or_eq_true, Bool.not_eq_true', decide_eq_true_eq]
  constructor
  ·split
   ·exact h1 a ha
   ·rename_i hab
    have := h2 a ha b hb hab
    cases hx : fl us a b with
    | false => rfl
    | true =>
     cases hy : fl us b a with
     | false => rfl
     | true => exact absurd ⟨hx, hy⟩ this
  ·cases hx : fl us a b with
   | false => exact .inl rfl
   | true => exact .inr ((zMG (hu.get hb) (hu.get ha)).2 fun i hi => h3 a ha b hb i (hl.bit hb hi) hx hi)
def zBA (us : List Nat) (a : Nat) : Nat → Nat
 | 0 => 0
 | i + 1 => zBA us a i ||| (((us.getD i 0 >>> a) &&& 1) <<< i)
theorem zEi (us : List Nat) (a : Nat) : ∀ (n j : Nat), (zBA us a n).testBit j = (decide (j < n) && fl us j a)
 | 0, j => by simp [zBA]
 | n + 1, j => by
  rw [zBA, Nat.testBit_or, zEi us a n j, zNZ, Nat.testBit_shiftLeft]
  by_cases h : j = n
  ·subst h
   have e : decide (j < j) = false := by simp
   have e2 : decide (j < j + 1) = true := by simp
   rw [e, e2]
   simp only [Bool.false_and, Bool.false_or, Bool.true_and, fl, ge_iff_le, Nat.le_refl, decide_true, Nat.sub_self]
   cases (us.getD j 0).testBit a <;> simp
  ·by_cases h2 : j < n
   ·have e : decide (j < n) = true := by simp [h2]
    have e2 : decide (j < n + 1) = true := by simp; omega
    have e3 : decide (j ≥ n) = false := by simp; omega
    rw [e, e2, e3]; simp
   ·have e : decide (j < n) = false := by simp; omega
    have e2 : decide (j < n + 1) = false := by simp; omega
    rw [e, e2]
    simp only [Bool.false_and, Bool.false_or]
    have hj : j - n ≠ 0 := by omega
    split
    ·obtain ⟨m, hm⟩ := Nat.exists_eq_succ_of_ne_zero hj
     rw [hm, Nat.succ_eq_add_one, Nat.testBit_succ]
     simp
    ·simp
theorem zIO (us : List Nat) (a n : Nat) : zBA us a n < 2 ^ n := by
 refine Nat.lt_pow_two_of_testBit _ fun i hi => ?_
 rw [zEi]
 have : decide (i < n) = false := by simp; omega
 simp [this]
def zGl (us : List Nat) (a b : Nat) : Int := zDQ (fun u => decide (u = us.getD a 0 &&& us.getD b 0)) us
def zGw (us : List Nat) (a b : Nat) : Int := zDQ (fun i => decide (zBA us i us.length = (zBA us a us.length &&& zBA us b us.length))) (List.range us.length)
def isJ (us : List Nat) (a b c : Nat) : Prop := (fl us a c = true ∧ fl us b c = true) ∧ ∀ d, d < us.length → fl us a d = true → fl us b d = true → fl us c d = true
def isM (us : List Nat) (a b c : Nat) : Prop := (fl us c a = true ∧ fl us c b = true) ∧ ∀ d, d < us.length → fl us d a = true → fl us d b = true → fl us d c = true
theorem zKD {us : List Nat} (hl : Low us) (ho : Ord us) {a b c : Nat} (ha : a < us.length) (hb : b < us.length) (hc : c < us.length) : isJ us a b c ↔ us.getD c 0 = us.getD a 0 &&& us.getD b 0 := by
 obtain ⟨h1, _, h3⟩ := ho
 constructor
 ·rintro ⟨⟨h4, h5⟩, h6⟩
  refine Nat.eq_of_testBit_eq fun i => ?_
  rw [Nat.testBit_and]
  show fl us c i = (fl us a i && fl us b i)
  cases hx : fl us c i with
  | true =>
   have hi := hl.bit hc hx
   rw [h3 a ha c hc i hi h4 hx, h3 b hb c hc i hi h5 hx]; rfl
  | false =>
   cases hy : fl us a i with
   | false => rfl
   | true =>
    cases hz : fl us b i with
    | false => rfl
    | true => have := h6 i (hl.bit ha hy) hy hz; rw [hx] at this; cases this
 ·intro h
  have hbit : ∀ i, fl us c i = (fl us a i && fl us b i) := fun i => by
   show (us.getD c 0).testBit i = _
   rw [h, Nat.testBit_and]; rfl
  refine ⟨?_, fun d _ h4 h5 => by rw [hbit, h4, h5]; rfl⟩
  have := hbit c
  rw [h1 c hc] at this
  simpa using this.symm
theorem zKh {us : List Nat} (ho : Ord us) {a b c : Nat} (ha : a < us.length) (hb : b < us.length) (hc : c < us.length) : isM us a b c ↔ zBA us c us.length = (zBA us a us.length &&& zBA us b us.length) := by
 obtain ⟨h1, _, h3⟩ := ho
 have hbit : (zBA us c us.length = (zBA us a us.length &&& zBA us b us.length)) ↔ ∀ i, i < us.length → fl us i c = (fl us i a && fl us i b) := by
  constructor
  ·intro h i hi
   have := congrArg (fun x => Nat.testBit x i) h
   simp only [zEi, Nat.testBit_and] at this
   have e : decide (i < us.length) = true := by simp [hi]
   rw [e] at this
   simpa using this
  ·intro h
   refine Nat.eq_of_testBit_eq fun i => ?_
   simp only [zEi, Nat.testBit_and]
   by_cases hi : i < us.length
   ·rw [h i hi]; simp [hi]
   ·simp [hi]
 rw [hbit]
 constructor
 ·rintro ⟨⟨h4, h5⟩, h6⟩ i hi
  cases hx : fl us i c with
  | true => rw [h3 i hi c hc a ha hx h4, h3 i hi c hc b hb hx h5]; rfl
  | false =>
   cases hy : fl us i a with
   | false => rfl
   | true =>
    cases hz : fl us i b with
    | false => rfl
    | true => have := h6 i hi hy hz; rw [hx] at this; cases this
 ·intro h
  refine ⟨?_, fun d hd h4 h5 => by rw [h d hd, h4, h5]; rfl⟩
  have := h c hc
  rw [h1 c hc] at this
  simpa using this.symm
def Lat (us : List Nat) : Prop := ∀ a, a < us.length → ∀ b, b < us.length → 0 ≤ zGl us a b ∧ 0 ≤ zGw us a b
instance (us : List Nat) : Decidable (Lat us) := by unfold Lat; infer_instance
def zq (ns : List ByteArray) (us : List Nat) : Int := if zFV ns us = true then if Ord us then if Lat us then 0 else 3 else 2 else 1
def pA (n k : Nat) : Nat := k / n
def pB (n k : Nat) : Nat := k % n
theorem zRl {n i j : Nat} (h : j < n) : pA n (i * n + j) = i := by
 unfold pA
 rw [Nat.mul_comm, Nat.mul_add_div (by omega), Nat.div_eq_of_lt h]; rfl
theorem zRm {n i j : Nat} (h : j < n) : pB n (i * n + j) = j := by
 unfold pB
 rw [Nat.mul_comm, Nat.mul_add_mod, Nat.mod_eq_of_lt h]
theorem zPB {n k : Nat} (h : k < n * n) : pA n k < n := Nat.div_lt_of_lt_mul h
theorem zPT {n k : Nat} (h : k < n * n) : pB n k < n := Nat.mod_lt _ (Nat.pos_of_ne_zero fun h0 => by subst h0; simp at h)
theorem zEf {n : Nat} {p : Nat → Nat → Prop} : (∀ k, k < n * n → p (pA n k) (pB n k)) ↔ ∀ a, a < n → ∀ b, b < n → p a b := by
 constructor
 ·intro h a ha b hb
  have h1 : a * n + b < n * n := Nat.lt_of_lt_of_le (Nat.add_lt_add_left hb _) (by rw [← Nat.succ_mul]; exact Nat.mul_le_mul_right _ ha)
  have := h _ h1
  rw [zRl hb, zRm hb] at this
  exact this
 ·exact fun h k hk => h _ (zPB hk) _ (zPT hk)
theorem zLt (n : Nat) : Fn Tryz.prog 237 [.v (.int .i64 (n : Int))] [] (.fn 283 [.fad [.v (.int .i64 (n : Int))]]) [] := by
 refine Fn.of (fn := Tryz.f237) (by kernel_rfl) rfl (by kernel_rfl) ⟨[.v (.int .i64 (n : Int)), .v undef, .v undef, .v undef], []⟩ rfl ?_
 repeat' first | (with_reducible first | refine zA ?_ | refine zB ?_) | ((with_reducible refine zC fun KC J hJ hKC => ?_); simp (maxSteps := 9999999) only [push_cast, seval, ↓reduceIte]) | ((with_reducible refine hJ _ _ ?_); clear hJ hKC KC J)
 refine zt 0 rfl (by simp (maxSteps := 9999999) only [push_cast, seval, ↓reduceIte]) ?_
 simp (maxSteps := 9999999) only [push_cast, seval, ↓reduceIte, zAH, zd, fr3, fr2, fr1, fr0, zl, zj]
 refine zI ?_
 refine zE ?_
 simp (maxSteps := 9999999) only [push_cast, seval, ↓reduceIte, show Tryz.f237.results = #[(.tmp 2)] from rfl]
 exact Lq
theorem zLS (n : Nat) (hl : n ≤ 1000) :
  zRL Tryz.prog 283 [.fad [.v (.int .i64 (n : Int))]] (n * n) (fun k => [.v (.int .i64 ((pA n k : Nat) : Int)), .v (.int .i64 ((pB n k : Nat) : Int))]) := by
 intro m inv ok frr rr hrec hcl hlen hy t ht
 refine Fn.of (fn := Tryz.f283) (by kernel_rfl) rfl (by kernel_rfl) ⟨[.kref false m 0, .fad [.v (.int .i64 (n : Int))], .v undef, .v undef, .v undef, .v undef, .v undef, .v undef, .v undef, .v undef, .v undef, .v undef, .v undef, .v undef, .v undef, .v undef, .v undef, .v undef, .v undef, .v undef], inv 0⟩ rfl ?_
 repeat' first | (with_reducible first | refine zA ?_ | refine zB ?_ | refine zG ?_) | ((with_reducible refine zC fun KC J hJ hKC => ?_); simp (maxSteps := 9999999) only [push_cast, seval, ↓reduceIte]) | ((with_reducible refine hJ _ _ ?_); clear hJ hKC KC J)
 refine ze (γ := {i : Nat // i ≤ n ∧ ∀ k, k < i * n → ok k = true}) (fun i => ⟨[.kref false m 0, .fad [.v (.int .i64 (n : Int))], .any, .any, .any, .v (.int .i64 (n : Int)), .v (.int .i64 i.1), .any, .any, .any, .any, .any, .any, .any, .any, .any, .any, .any, .any, .any], inv (i.1 * n)⟩) (fun i => n - i.1) ⟨0, by simp⟩ ⟨?_, ?_⟩ ?_
 ·exact Lq
 ·simp only [Nat.zero_mul]; exact Fq
 ·rintro ⟨i, hi, hok⟩
  by_cases hlt : (i : Int) < (n : Int)
  ·skip
   repeat' first | (with_reducible first | refine zA ?_ | refine zB ?_ | refine zJ ?_ | refine zG ?_) | ((with_reducible refine zC fun KC J hJ hKC => ?_); simp (maxSteps := 9999999) only [push_cast, seval, ↓reduceIte, hlt]) | ((with_reducible refine hJ _ _ ?_); clear hJ hKC KC J) | ((with_reducible refine zF ?_ ?_); · rfl)
   refine ze (γ := {j : Nat // j ≤ n ∧ ∀ k, k < i * n + j → ok k = true}) (fun j => ⟨[.kref false m 0, .fad [.v (.int .i64 (n : Int))], .any, .v (.int .i64 i), .any, .v (.int .i64 (n : Int)), .v (.int .i64 i), .any, .any, .v (.int .i64 (n : Int)), .v (.int .i64 j.1), .any, .any, .any, .any, .any, .any, .any, .any, .any], inv (i * n + j.1)⟩) (fun j => n - j.1) ⟨0, by simpa using hok⟩ ⟨?_, ?_⟩ ?_
   ·exact Lq
   ·exact Fq
   ·rintro ⟨j, hj, hokj⟩
    by_cases hlj : (j : Int) < (n : Int)
    ·have hjn : j < n := by omega
     have hin : i < n := by omega
     have hk : i * n + j < n * n := Nat.lt_of_lt_of_le (Nat.add_lt_add_left hjn _) (by rw [← Nat.succ_mul]; exact Nat.mul_le_mul_right _ hin)
     have hyi := hy (i * n + j) hk hokj
     simp only [zRl hjn, zRm hjn] at hyi
     have hL : (inv (i * n + j + 1)).length = (inv (i * n + j)).length := by rw [hlen, hlen]
     have hset := zEY (rest := [Slot.free]) hL
     obtain ⟨k, hkk⟩ : ∃ k, i * n + j = k := ⟨_, rfl⟩
     have hkk1 : i * n + (j + 1) = k + 1 := by omega
     rw [hkk] at hyi hL hset hk hokj
     cases hoki : ok k with
     | true =>
      rw [hoki] at hyi
      repeat' first | (with_reducible first | refine zA ?_ | refine zB ?_ | refine zO ?_ | refine zJ ?_ | refine zG ?_) | ((first | with_reducible refine zC fun KC J hJ hKC => ?_ | (refine hKC _ _ _ _ _ (zNg hyi (hrec k) (hcl k) (hcl (k + 1)) hL rfl (Nat.le_refl _) rfl rfl rfl rfl ?_))); simp (maxSteps := 9999999) only [push_cast, seval, ↓reduceIte, hlj, hkk, hset, zb (i := j) (n := n) (by omega) (by omega)]) | ((with_reducible refine hJ _ _ ?_); clear hJ hKC KC J) | ((with_reducible refine zF ?_ ?_); · rfl) | ((with_reducible refine zH ?_ ?_); · rfl)
      refine ⟨⟨j + 1, by omega, fun q hq => ?_⟩, by simp only; omega, ?_, ?_⟩
      ·by_cases he : q = k
       ·rw [he]; exact hoki
       ·exact hokj q (by omega)
      ·exact Lq
      ·simp only [hkk1]; exact Fq
     | false =>
      rw [hoki] at hyi
      repeat' first | (with_reducible first | refine zA ?_ | refine zB ?_ | refine zS ?_ | refine zg ?_ | refine zI ?_ | refine zJ ?_ | refine zG ?_) | ((first | with_reducible refine zC fun KC J hJ hKC => ?_ | (refine hKC _ _ _ _ _ (zNg hyi (hrec k) (hcl k) (hcl (k + 1)) hL rfl (Nat.le_refl _) rfl rfl rfl rfl ?_))); simp (maxSteps := 9999999) only [push_cast, seval, ↓reduceIte, hlj, hkk, hset, zb (i := j) (n := n) (by omega) (by omega)]) | ((with_reducible refine hJ _ _ ?_); clear hJ hKC KC J) | ((with_reducible refine zF ?_ ?_); · rfl)
      have hni : t = k + 1 := by
       rcases ht with ⟨h1, h2⟩ | ⟨q, h1, h2, h3, h4⟩
       ·have := h2 k (by omega); rw [hoki] at this; cases this
       ·rcases Nat.lt_trichotomy q k with h | h | h
        ·have := hokj q h; rw [h3] at this; cases this
        ·omega
        ·have := h4 k h; rw [hoki] at this; cases this
      rw [hni]
      exact zKB 1 (.inr rfl) rfl rfl (hcl _) (by rw [hlen, hlen])
    ·have hjn : j = n := by omega
     have hkk : i * n + j = (i + 1) * n := by rw [hjn, Nat.succ_mul]
     repeat' first | (with_reducible first | refine zA ?_ | refine zB ?_ | refine zX ?_ | refine zO ?_ | refine zW ?_ | refine zQ ?_) | ((with_reducible refine zC fun KC J hJ hKC => ?_); simp (maxSteps := 9999999) only [push_cast, seval, ↓reduceIte, hlj, hkk, zb (i := i) (n := n) (by omega) (by omega)]) | ((with_reducible refine hJ _ _ ?_); clear hJ hKC KC J) | ((with_reducible refine zH ?_ ?_); · rfl)
     refine ⟨⟨i + 1, by omega, fun q hq => hokj q (by omega)⟩, by simp only; omega, ?_, ?_⟩
     ·exact Lq
     ·simp only [hkk]; exact Fq
  ·have hin : i = n := by omega
   subst hin
   have hni : t = i * i := by
    rcases ht with ⟨h1, h2⟩ | ⟨q, h1, h2, h3, h4⟩
    ·exact h1
    ·have := hok q h1; rw [h3] at this; cases this
   repeat' first | (with_reducible first | refine zA ?_ | refine zB ?_ | refine zX ?_ | refine zW ?_ | refine zQ ?_) | ((with_reducible refine zC fun KC J hJ hKC => ?_); simp (maxSteps := 9999999) only [push_cast, seval, ↓reduceIte, hlt]) | ((with_reducible refine hJ _ _ ?_); clear hJ hKC KC J) | ((with_reducible refine zH ?_ ?_); · rfl)
   rw [hni]
   exact zKB 0 (.inl rfl) rfl (by simp) (hcl _) (by rw [hlen, hlen])
set_option maxHeartbeats 1000000 in
theorem zLW (f g : Bool) (ns : List ByteArray) (us : List Nat) (hu : U32 us) (hlw : Low us) (hl : us.length ≤ 8) :
  Fn Tryz.prog 236 [.agg [.sl f 1 (zM ns), .sl g 1 (zL us)]] [] (.v (.bool (decide (Ord us)))) [] := by
 refine Fn.of (fn := Tryz.f236) (by kernel_rfl) rfl (by kernel_rfl) ⟨[.agg [.sl f 1 (zM ns), .sl g 1 (zL us)], .v undef, .v undef, .v undef, .v undef, .v undef, .v undef, .v undef, .v undef, .v undef, .v undef, .v undef, .v undef, .v undef, .v undef, .v undef, .v undef, .v undef, .v undef, .v undef, .v undef, .v undef, .v undef, .v undef, .v undef, .v undef, .v undef, .v undef, .v undef, .v undef, .v undef, .v undef, .v undef, .v undef, .v undef, .v undef, .v undef, .v undef, .v undef, .v undef, .v undef, .v undef, .v undef, .v undef, .v undef, .v undef, .v undef, .v undef, .v undef, .v undef, .v undef, .v undef, .v undef, .v undef, .v undef, .v undef], []⟩ rfl ?_
 repeat' first | (with_reducible first | refine zA ?_ | refine zB ?_ | refine zG ?_) | ((first | with_reducible refine zC fun KC J hJ hKC => ?_ | (refine' hKC _ _ _ _ _ (zD (zLt _) rfl rfl rfl ?_ ?_); (rotate_left 1); (· exact Lq))); simp (maxSteps := 9999999) only [push_cast, seval, ↓reduceIte]) | ((with_reducible refine hJ _ _ ?_); clear hJ hKC KC J)
 refine zKj ([.any, .ptr 0 0 0, .ptr 1 0 0, .any, .any, .any, .any, .any, .fn 283 [.fad [.v (.int .i64 (us.length : Int))]], .any, .any, .any, .any, .any, .any, .any, .any, .any, .any, .any, .any, .any, .any, .any, .any, .any, .any, .any, .any, .any, .any, .any, .any, .any, .any, .any, .any, .any, .any, .any, .any, .any, .any, .any, .any, .any, .any, .any, .any, .any, .any, .any, .any, .any, .any, .any]) (by exact Lq) ?_
 refine zDl (f := 283) rfl rfl (zLS us.length (by omega)) (fun i hi => rfl) 3 rfl rfl
  (fun i => [.ent ⟨0, none, 25, [.sl f 1 (zM ns), .sl g 1 (zL us)], .cells⟩, .ent ⟨0, none, 4, [.v (.bool false)], .cells⟩, .free])
  (fun i => [.ent ⟨0, none, 25, [.sl f 1 (zM ns), .sl g 1 (zL us)], .cells⟩, .ent ⟨0, none, 4, [.v (.bool false)], .cells⟩, .free])
  rfl (fun i => ⟨rfl, rfl⟩) (fun i => ⟨rfl, rfl⟩) (fun i => ⟨rfl, rfl⟩) (fun k => zDP us (pA us.length k) (pB us.length k)) .ret .ret rfl
  (fun i => [.any, .ptr 0 0 0, .ptr 1 0 0, .v (.int .i64 (pA us.length i : Nat)), .v (.int .i64 (pB us.length i : Nat)), .any, .any, .any, .fn 283 [.fad [.v (.int .i64 (us.length : Int))]], .v (.int .i64 (pA us.length i : Nat)), .v (.int .i64 (pB us.length i : Nat)), .any, .any, .any, .any, .any, .any, .any, .any, .any, .any, .any, .any, .any, .any, .any, .any, .any, .any, .any, .any, .any, .any, .any, .any, .any, .any, .any, .any, .any, .any, .any, .any, .any, .any, .any, .any, .any, .any, .any, .any, .any, .any, .any, .any, .any])
  (fun l' i r σ hi => ?_) (fun i => rfl) (fun l' i hi hb' => ?_) (fun hall => ?_) (fun k hk hkf hkb => ?_)
 ·skip
  repeat' first | (with_reducible first | refine zA ?_ | refine zB ?_) | ((with_reducible refine And.intro ?_ ?_); · exact Sq) | ((with_reducible refine zC fun KC J hJ hKC => ?_); simp (maxSteps := 9999999) only [push_cast, seval, ↓reduceIte]) | ((with_reducible refine hJ _ _ ?_); clear hJ hKC KC J)
  exact rfl
 ·have hpa := zPB hi
  have hpb := zPT hi
  obtain ⟨a, ha⟩ : ∃ a, pA us.length i = a := ⟨_, rfl⟩
  obtain ⟨b, hb⟩ : ∃ b, pB us.length i = b := ⟨_, rfl⟩
  simp only [ha, hb] at hpa hpb ⊢
  have hgA := zAu (zCI 0 hpa)
  have hgB := zAu (zCI 0 hpb)
  have han := zSx (hu.get hpb) (hu.get hpa)
  by_cases hab : a = b
  ·subst hab
   by_cases hf : fl us a a = true
   ·by_cases hz : anB (us.getD a 0) (us.getD a 0) = 0
    ·have hok : zDP us a a = true := by rw [zDP, if_pos rfl, hf, decide_eq_true hz]; rfl
     repeat' first | (with_reducible first | refine zA ?_ | refine zB ?_ | refine zO ?_ | refine zJ ?_ | refine zG ?_) | ((with_reducible refine And.intro ?_ ?_); · exact Sq) | ((first | with_reducible refine zC fun KC J hJ hKC => ?_ | with_reducible refine zU rfl fun KC J hJ hKC => ?_ | (refine' hKC _ _ _ _ _ (zD (zCZ _ _ _ _ _ _ ?_ ?_) rfl rfl rfl ?_ ?_); (rotate_left 8); (· exact Lq); (rotate_left 1); (iterate 2 (· exact Hq)))); simp (maxSteps := 9999999) only [push_cast, seval, ↓reduceIte, hf, hz, hgA, han]) | ((first | with_reducible refine hJ _ _ ?_ | (with_reducible refine hJ _ _ ?_ ?_; · kernel_rfl)); clear hJ hKC KC J) | ((with_reducible refine zH ?_ ?_); · rfl)
     exact .inl ⟨hok, rfl, (by first | exact zP (k := 0) rfl rfl rfl | exact zP (k := 1) rfl rfl rfl | exact zP (k := 2) rfl rfl rfl | exact zP (k := 3) rfl rfl rfl | exact zP (k := 4) rfl rfl rfl | exact zP (k := 5) rfl rfl rfl | exact zP (k := 6) rfl rfl rfl | exact zP (k := 7) rfl rfl rfl | exact zP (k := 8) rfl rfl rfl)⟩
    ·have hok : zDP us a a = false := by rw [zDP, if_pos rfl, hf, decide_eq_false hz]; rfl
     repeat' first | (with_reducible first | refine zA ?_ | refine zB ?_ | refine zg ?_ | refine zI ?_ | refine zJ ?_ | refine zG ?_) | ((with_reducible refine And.intro ?_ ?_); · exact Sq) | ((first | with_reducible refine zC fun KC J hJ hKC => ?_ | with_reducible refine zU rfl fun KC J hJ hKC => ?_ | (refine' hKC _ _ _ _ _ (zD (zCZ _ _ _ _ _ _ ?_ ?_) rfl rfl rfl ?_ ?_); (rotate_left 8); (· exact Lq); (rotate_left 1); (iterate 2 (· exact Hq)))); simp (maxSteps := 9999999) only [push_cast, seval, ↓reduceIte, hf, hz, hgA, han]) | ((first | with_reducible refine hJ _ _ ?_ | (with_reducible refine hJ _ _ ?_ ?_; · kernel_rfl)); clear hJ hKC KC J) | ((with_reducible refine zF ?_ ?_); · rfl) | ((with_reducible refine zH ?_ ?_); · rfl)
     exact .inr ⟨hok, rfl, (by first | exact zP (k := 0) rfl rfl rfl | exact zP (k := 1) rfl rfl rfl | exact zP (k := 2) rfl rfl rfl | exact zP (k := 3) rfl rfl rfl | exact zP (k := 4) rfl rfl rfl | exact zP (k := 5) rfl rfl rfl | exact zP (k := 6) rfl rfl rfl | exact zP (k := 7) rfl rfl rfl | exact zP (k := 8) rfl rfl rfl)⟩
   ·have hok : zDP us a a = false := by rw [zDP, if_pos rfl, show fl us a a = false by simpa using hf]; rfl
    repeat' first | (with_reducible first | refine zA ?_ | refine zB ?_ | refine zS ?_ | refine zg ?_ | refine zI ?_ | refine zG ?_) | ((first | with_reducible refine zC fun KC J hJ hKC => ?_ | (refine' hKC _ _ _ _ _ (zD (zCZ _ _ _ _ _ _ ?_ ?_) rfl rfl rfl ?_ ?_); (rotate_left 8); (· exact Lq); (rotate_left 1); (iterate 2 (· exact Hq)))); simp (maxSteps := 9999999) only [push_cast, seval, ↓reduceIte, hf, undef]) | ((with_reducible refine hJ _ _ ?_); clear hJ hKC KC J) | ((with_reducible refine zF ?_ ?_); · rfl)
    exact .inr ⟨hok, rfl, (by first | exact zP (k := 0) rfl rfl rfl | exact zP (k := 1) rfl rfl rfl | exact zP (k := 2) rfl rfl rfl | exact zP (k := 3) rfl rfl rfl | exact zP (k := 4) rfl rfl rfl | exact zP (k := 5) rfl rfl rfl | exact zP (k := 6) rfl rfl rfl | exact zP (k := 7) rfl rfl rfl | exact zP (k := 8) rfl rfl rfl)⟩
  ·have hab' : ¬ (a : Int) = (b : Int) := by omega
   have hab'' : ((a : Int) != (b : Int)) = true := by simpa using hab'
   have hab3 : ((a : Int) == (b : Int)) = false := by simpa using hab'
   by_cases hf : fl us a b = true
   ·by_cases hf' : fl us b a = true
    ·have hok : zDP us a b = false := by rw [zDP, if_neg hab, hf, hf']; rfl
     repeat' first | (with_reducible first | refine zA ?_ | refine zB ?_ | refine zS ?_ | refine zg ?_ | refine zI ?_ | refine zG ?_) | ((first | with_reducible refine zC fun KC J hJ hKC => ?_ | (refine' hKC _ _ _ _ _ (zD (zCZ _ _ _ _ _ _ ?_ ?_) rfl rfl rfl ?_ ?_); (rotate_left 8); (· exact Lq); (rotate_left 1); (iterate 2 (· exact Hq)))); simp (maxSteps := 9999999) only [push_cast, seval, ↓reduceIte, hf, hf', hab, hab', hab'', hab3, undef]) | ((with_reducible refine hJ _ _ ?_); clear hJ hKC KC J) | ((with_reducible refine zF ?_ ?_); · rfl)
     exact .inr ⟨hok, rfl, (by first | exact zP (k := 0) rfl rfl rfl | exact zP (k := 1) rfl rfl rfl | exact zP (k := 2) rfl rfl rfl | exact zP (k := 3) rfl rfl rfl | exact zP (k := 4) rfl rfl rfl | exact zP (k := 5) rfl rfl rfl | exact zP (k := 6) rfl rfl rfl | exact zP (k := 7) rfl rfl rfl | exact zP (k := 8) rfl rfl rfl)⟩
    ·have hfF : fl us b a = false := by simpa using hf'
     by_cases hz : anB (us.getD b 0) (us.getD a 0) = 0
     ·have hok : zDP us a b = true := by rw [zDP, if_neg hab, hf, hfF, decide_eq_true hz]; rfl
      repeat' first | (with_reducible first | refine zA ?_ | refine zB ?_ | refine zO ?_ | refine zJ ?_ | refine zG ?_) | ((with_reducible refine And.intro ?_ ?_); · exact Sq) | ((first | with_reducible refine zC fun KC J hJ hKC => ?_ | with_reducible refine zU rfl fun KC J hJ hKC => ?_ | (refine' hKC _ _ _ _ _ (zD (zCZ _ _ _ _ _ _ ?_ ?_) rfl rfl rfl ?_ ?_); (rotate_left 8); (· exact Lq); (rotate_left 1); (iterate 2 (· exact Hq)))); simp (maxSteps := 9999999) only [push_cast, seval, ↓reduceIte, hf, hfF, hz, hgA, hgB, han, hab, hab', hab'', hab3, undef]) | ((first | with_reducible refine hJ _ _ ?_ | (with_reducible refine hJ _ _ ?_ ?_; · kernel_rfl)); clear hJ hKC KC J) | ((with_reducible refine zH ?_ ?_); · rfl)
      exact .inl ⟨hok, rfl, (by first | exact zP (k := 0) rfl rfl rfl | exact zP (k := 1) rfl rfl rfl | exact zP (k := 2) rfl rfl rfl | exact zP (k := 3) rfl rfl rfl | exact zP (k := 4) rfl rfl rfl | exact zP (k := 5) rfl rfl rfl | exact zP (k := 6) rfl rfl rfl | exact zP (k := 7) rfl rfl rfl | exact zP (k := 8) rfl rfl rfl)⟩
     ·have hok : zDP us a b = false := by rw [zDP, if_neg hab, hf, hfF, decide_eq_false hz]; rfl
      repeat' first | (with_reducible first | refine zA ?_ | refine zB ?_ | refine zg ?_ | refine zI ?_ | refine zJ ?_ | refine zG ?_) | ((with_reducible refine And.intro ?_ ?_); · exact Sq) | ((first | with_reducible refine zC fun KC J hJ hKC => ?_ | with_reducible refine zU rfl fun KC J hJ hKC => ?_ | (refine' hKC _ _ _ _ _ (zD (zCZ _ _ _ _ _ _ ?_ ?_) rfl rfl rfl ?_ ?_); (rotate_left 8); (· exact Lq); (rotate_left 1); (iterate 2 (· exact Hq)))); simp (maxSteps := 9999999) only [push_cast, seval, ↓reduceIte, hf, hfF, hz, hgA, hgB, han, hab, hab', hab'', hab3, undef]) | ((first | with_reducible refine hJ _ _ ?_ | (with_reducible refine hJ _ _ ?_ ?_; · kernel_rfl)); clear hJ hKC KC J) | ((with_reducible refine zF ?_ ?_); · rfl) | ((with_reducible refine zH ?_ ?_); · rfl)
      exact .inr ⟨hok, rfl, (by first | exact zP (k := 0) rfl rfl rfl | exact zP (k := 1) rfl rfl rfl | exact zP (k := 2) rfl rfl rfl | exact zP (k := 3) rfl rfl rfl | exact zP (k := 4) rfl rfl rfl | exact zP (k := 5) rfl rfl rfl | exact zP (k := 6) rfl rfl rfl | exact zP (k := 7) rfl rfl rfl | exact zP (k := 8) rfl rfl rfl)⟩
   ·have hfF : fl us a b = false := by simpa using hf
    have hok : zDP us a b = true := by rw [zDP, if_neg hab, hfF]; rfl
    repeat' first | (with_reducible first | refine zA ?_ | refine zB ?_ | refine zO ?_ | refine zJ ?_ | refine zG ?_) | ((first | with_reducible refine zC fun KC J hJ hKC => ?_ | with_reducible refine zU rfl fun KC J hJ hKC => ?_ | (refine' hKC _ _ _ _ _ (zD (zCZ _ _ _ _ _ _ ?_ ?_) rfl rfl rfl ?_ ?_); (rotate_left 8); (· exact Lq); (rotate_left 1); (iterate 2 (· exact Hq)))); simp (maxSteps := 9999999) only [push_cast, seval, ↓reduceIte, hfF, hab, hab', hab'', hab3, undef]) | ((first | with_reducible refine hJ _ _ ?_ | (with_reducible refine hJ _ _ ?_ ?_; · kernel_rfl)); clear hJ hKC KC J) | ((with_reducible refine zH ?_ ?_); · rfl)
    exact .inl ⟨hok, rfl, (by first | exact zP (k := 0) rfl rfl rfl | exact zP (k := 1) rfl rfl rfl | exact zP (k := 2) rfl rfl rfl | exact zP (k := 3) rfl rfl rfl | exact zP (k := 4) rfl rfl rfl | exact zP (k := 5) rfl rfl rfl | exact zP (k := 6) rfl rfl rfl | exact zP (k := 7) rfl rfl rfl | exact zP (k := 8) rfl rfl rfl)⟩
 ·rw [decide_eq_true ((zLs hu hlw).1 (zEf.1 hall))]
  repeat' first | (with_reducible first | refine zA ?_ | refine zB ?_ | refine zO ?_ | refine zI ?_) | ((with_reducible refine zC fun KC J hJ hKC => ?_); simp (maxSteps := 9999999) only [push_cast, seval, ↓reduceIte]) | ((with_reducible refine hJ _ _ ?_); clear hJ hKC KC J)
  refine zE ?_
  simp (maxSteps := 9999999) only [push_cast, seval, ↓reduceIte, show Tryz.f236.results = #[(.cell 2 4)] from rfl]
  exact Lq
 ·rw [decide_eq_false (fun h => by have := (zEf (p := fun a b => zDP us a b = true)).2 ((zLs hu hlw).2 h) k hk; rw [hkf] at this; cases this)]
  refine zE ?_
  simp (maxSteps := 9999999) only [push_cast, seval, ↓reduceIte, show Tryz.f236.results = #[(.cell 2 4)] from rfl]
  exact Lq
theorem zKd (f g : Bool) (ns : List ByteArray) (us : List Nat) (a : Nat) (hu : U32 us) (hl : us.length ≤ 8) :
  Fn Tryz.prog 285 [.agg [.sl f 1 (zM ns), .sl g 1 (zL us)], .v (.int .i64 (a : Int))] [] (.v (.int .u32 (uv (zBA us a us.length)))) [] := by
 refine Fn.of (fn := Tryz.f285) (by kernel_rfl) rfl (by kernel_rfl) ⟨[.agg [.sl f 1 (zM ns), .sl g 1 (zL us)], .v (.int .i64 (a : Int)), .v undef, .v undef, .v undef, .v undef, .v undef, .v undef, .v undef, .v undef, .v undef, .v undef, .v undef, .v undef, .v undef, .v undef, .v undef, .v undef, .v undef, .v undef, .v undef, .v undef, .v undef, .v undef, .v undef, .v undef, .v undef], []⟩ rfl ?_
 repeat' first | (with_reducible first | refine zA ?_ | refine zB ?_ | refine zG ?_) | ((with_reducible refine zC fun KC J hJ hKC => ?_); simp (maxSteps := 9999999) only [push_cast, seval, ↓reduceIte]) | ((with_reducible refine hJ _ _ ?_); clear hJ hKC KC J)
 refine ze (γ := {i : Nat // i ≤ us.length}) (fun i => ⟨[.any, .v (.int .i64 (a : Int)), .ptr 0 0 0, .any, .any, .v (.int .u32 (uv (zBA us a i.1))), .any, .any, .any, .v (.int .i64 us.length), .v (.int .i64 i.1), .any, .any, .any, .any, .any, .any, .any, .any, .any, .any, .any, .any, .any, .any, .any, .any], [.ent ⟨0, none, 25, [.sl f 1 (zM ns), .sl g 1 (zL us)], .cells⟩]⟩) (fun i => us.length - i.1) ⟨0, by simp⟩ ⟨?_, Fq⟩ ?_
 ·exact Lq
 ·rintro ⟨i, hi⟩
  by_cases hlt : (i : Int) < (us.length : Int)
  ·have hil : i < us.length := by omega
   have hx := zCI 0 hil
   have h1 : us.getD i 0 >>> a < 2 ^ 32 := Nat.lt_of_le_of_lt (Nat.shiftRight_le _ _) (hu.get hil)
   have h2 : (us.getD i 0 >>> a) &&& 1 ≤ 1 := Nat.and_le_right
   have h3 : zBA us a i < 2 ^ 32 := Nat.lt_of_lt_of_le (zIO us a i) (Nat.pow_le_pow_right (by decide) (by omega))
   have h4 : ((us.getD i 0 >>> a) &&& 1) <<< i < 2 ^ 32 := by
    have e := zIO us a (i + 1)
    have : ((us.getD i 0 >>> a) &&& 1) <<< i ≤ zBA us a (i + 1) := Nat.right_le_or
    have : 2 ^ (i + 1) ≤ 2 ^ 32 := Nat.pow_le_pow_right (by decide) (by omega)
    omega
   repeat' first | (with_reducible first | refine zA ?_ | refine zB ?_ | refine zO ?_ | refine zJ ?_ | refine zG ?_) | ((with_reducible refine And.intro ?_ ?_); · exact Sq) | ((with_reducible refine zC fun KC J hJ hKC => ?_); simp (maxSteps := 9999999) only [push_cast, seval, ↓reduceIte, hlt, zAu hx, zKr (hu.get hil) (b := a), zNr h1, zSA h2 (by omega : i < 32), zTE h3 h4, zb (i := i) (n := us.length) (by omega) (by omega)]) | ((with_reducible refine hJ _ _ ?_); clear hJ hKC KC J) | ((with_reducible refine zF ?_ ?_); · rfl)
   refine ⟨⟨i + 1, by omega⟩, by simp only; omega, ?_, Fq⟩
   exact Lq
  ·have e : i = us.length := by omega
   subst e
   repeat' first | (with_reducible first | refine zA ?_ | refine zB ?_ | refine zX ?_ | refine zW ?_ | refine zI ?_ | refine zQ ?_) | ((with_reducible refine zC fun KC J hJ hKC => ?_); simp (maxSteps := 9999999) only [push_cast, seval, ↓reduceIte, hlt]) | ((with_reducible refine hJ _ _ ?_); clear hJ hKC KC J) | ((with_reducible refine zH ?_ ?_); · rfl)
   refine zE ?_
   simp (maxSteps := 9999999) only [push_cast, seval, ↓reduceIte, show Tryz.f285.results = #[(.tmp 4)] from rfl]
   exact zN _
theorem zHJ (f : Bool) (xs : List Nat) (cf : Nat) (caps : List D) (p : Nat → Bool) (hb : xs.length ≤ 9223372036854775807) (hc : zk caps = true)
  (hp : ∀ x ∈ xs, Fn Tryz.prog cf (.v (.int .u32 (uv x)) :: caps) [] (.v (.bool (p x))) []) : Fn Tryz.prog 116 [.sl f 1 (zL xs), .fn cf caps] [] (.v (.int .i64 (zDQ p xs))) [] := by
 refine Fn.of (fn := Tryz.f116) (by kernel_rfl) rfl (by kernel_rfl) ⟨[.sl f 1 (zL xs), .fn cf caps, .v undef, .v undef, .v undef, .v undef, .v undef, .v undef, .v undef, .v undef, .v undef, .v undef, .v undef, .v undef, .v undef, .v undef, .v undef, .v undef, .v undef], []⟩ rfl ?_
 repeat' first | (with_reducible first | refine zA ?_ | refine zB ?_ | refine zG ?_) | ((with_reducible refine zC fun KC J hJ hKC => ?_); simp (maxSteps := 9999999) only [push_cast, seval, ↓reduceIte]) | ((with_reducible refine hJ _ _ ?_); clear hJ hKC KC J)
 refine ze (γ := {i : Nat // i ≤ xs.length ∧ ∀ (j : Nat) (hj : j < xs.length), j < i → p xs[j] = false}) (fun i => ⟨[.sl f 1 (zL xs), .fn cf caps, .any, .any, .any, .any, .any, .v (.int .i64 xs.length), .v (.int .i64 i.1), .any, .any, .any, .any, .any, .any, .any, .any, .any, .any], []⟩) (fun i => xs.length - i.1) ⟨0, by simp⟩ ⟨?_, Fq⟩ ?_
 ·exact Lq
 ·rintro ⟨i, hi, hn⟩
  by_cases hlt : (i : Int) < (xs.length : Int)
  ·have hx : xs[i]? = some xs[i] := List.getElem?_eq_getElem (by omega)
   have hfn := hp xs[i] (List.getElem_mem (by omega))
   repeat' first | (with_reducible first | refine zA ?_ | refine zB ?_ | refine zS ?_ | refine zO ?_ | refine zg ?_ | refine zI ?_ | refine zJ ?_ | refine zG ?_) | ((with_reducible refine And.intro ?_ ?_); · exact Sq) | ((first | with_reducible refine zC fun KC J hJ hKC => ?_ | (refine hKC _ _ _ _ _ (zD (hfn) rfl rfl rfl ?_ ?_); (· exact Lq))); simp (maxSteps := 9999999) only [push_cast, seval, ↓reduceIte, hlt, zAu hx, zb (i := i) (n := xs.length) (by omega) hb]) | ((with_reducible refine hJ _ _ ?_); clear hJ hKC KC J) | ((with_reducible refine zF ?_ ?_); · rfl) | (refine zs rfl (fun h => ?_) (fun h => ?_) <;> try simp only [decide_eq_true_eq, decide_eq_false_iff_not, Bool.not_eq_true', Bool.not_eq_false', beq_iff_eq, bne_iff_ne, ne_eq, Bool.not_eq_true, Bool.or_eq_true, Bool.and_eq_true, Bool.or_eq_false_iff, Bool.and_eq_false_imp, beq_eq_false_iff_ne, bne_eq_false_iff_eq] at h)
   ·refine zE ?_
    simp (maxSteps := 9999999) only [push_cast, seval, ↓reduceIte, show Tryz.f116.results = #[(.tmp 4)] from rfl]
    exact zAF (by rw [zBt (by omega) h hn])
   ·refine ⟨⟨i + 1, by omega, fun j hj hji => ?_⟩, by simp only; omega, ?_, Fq⟩
    ·by_cases he : j = i
     ·subst he; exact h
     ·exact hn j hj (by omega)
    ·exact Lq
  ·skip
   repeat' first | (with_reducible first | refine zA ?_ | refine zB ?_ | refine zX ?_ | refine zW ?_ | refine zI ?_ | refine zQ ?_) | ((with_reducible refine zC fun KC J hJ hKC => ?_); simp (maxSteps := 9999999) only [push_cast, seval, ↓reduceIte, hlt]) | ((with_reducible refine hJ _ _ ?_); clear hJ hKC KC J) | ((with_reducible refine zH ?_ ?_); · rfl)
   refine zE ?_
   simp (maxSteps := 9999999) only [push_cast, seval, ↓reduceIte, show Tryz.f116.results = #[(.tmp 4)] from rfl]
   exact zAF (by rw [zBB (fun j hj => hn j hj (by omega))])
theorem zPK (x c : Nat) : Fn Tryz.prog 284 [.v (.int .u32 (uv x)), .fad [.v (.int .u32 (uv c))]] [] (.v (.bool (decide (x = c)))) [] := by
 refine Fn.of (fn := Tryz.f284) (by kernel_rfl) rfl (by kernel_rfl) ⟨[.v (.int .u32 (uv x)), .fad [.v (.int .u32 (uv c))], .v undef, .v undef, .v undef, .v undef, .v undef], []⟩ rfl ?_
 repeat' first | (with_reducible first | refine zA ?_ | refine zB ?_ | refine zI ?_) | ((with_reducible refine zC fun KC J hJ hKC => ?_); simp (maxSteps := 9999999) only [push_cast, seval, ↓reduceIte]) | ((with_reducible refine hJ _ _ ?_); clear hJ hKC KC J)
 refine zE ?_
 simp (maxSteps := 9999999) only [push_cast, seval, ↓reduceIte, show Tryz.f284.results = #[(.tmp 3)] from rfl]
 exact zN _
theorem zKP (f g : Bool) (ns : List ByteArray) (us : List Nat) (a b : Nat) (hu : U32 us) (hl : us.length ≤ 8) (ha : a < us.length) (hb : b < us.length) :
  Fn Tryz.prog 238 [.agg [.sl f 1 (zM ns), .sl g 1 (zL us)], .v (.int .i64 (a : Int)), .v (.int .i64 (b : Int))] [] (.v (.int .i64 (zGl us a b))) [] := by
 have hcf := zHJ g us 284 [.fad [.v (.int .u32 (uv (us.getD a 0 &&& us.getD b 0)))]] (fun x => decide (x = us.getD a 0 &&& us.getD b 0)) (by omega) rfl (fun x _ => zPK x _)
 have hgA := zAu (zCI 0 ha)
 have hgB := zAu (zCI 0 hb)
 have han := zPs (hu.get ha) (hu.get hb)
 refine Fn.of (fn := Tryz.f238) (by kernel_rfl) rfl (by kernel_rfl) ⟨[.agg [.sl f 1 (zM ns), .sl g 1 (zL us)], .v (.int .i64 (a : Int)), .v (.int .i64 (b : Int)), .v undef, .v undef, .v undef, .v undef, .v undef, .v undef, .v undef, .v undef, .v undef, .v undef, .v undef, .v undef, .v undef, .v undef, .v undef, .v undef, .v undef, .v undef, .v undef, .v undef], []⟩ rfl ?_
 repeat' first | (refine zV 2 1 rfl (by (simp (maxSteps := 9999999) only [push_cast, seval, ↓reduceIte]) <;> rfl) ?_; simp (maxSteps := 9999999) only [push_cast, seval, ↓reduceIte, zAH, zd, fr3, fr2, fr1, fr0, zl, zj, hgA, hgB, han]) | (with_reducible first | refine zA ?_ | refine zB ?_ | refine zI ?_) | ((with_reducible refine And.intro ?_ ?_); · exact Sq) | ((first | with_reducible refine zC fun KC J hJ hKC => ?_ | with_reducible refine zU rfl fun KC J hJ hKC => ?_ | (refine hKC _ _ _ _ _ (zD (hcf) rfl rfl rfl ?_ ?_); (· exact Lq))); simp (maxSteps := 9999999) only [push_cast, seval, ↓reduceIte, hgA, hgB, han]) | ((first | with_reducible refine hJ _ _ ?_ | (with_reducible refine hJ _ _ ?_ ?_; · kernel_rfl)); clear hJ hKC KC J)
 refine zE ?_
 simp (maxSteps := 9999999) only [push_cast, seval, ↓reduceIte, show Tryz.f238.results = #[(.tmp 6)] from rfl]
 exact zN _
theorem zNu (f g : Bool) (ns : List ByteArray) (us : List Nat) (a b : Nat) (hu : U32 us) (hl : us.length ≤ 8) (ha : a < us.length) (hb : b < us.length) :
  Fn Tryz.prog 239 [.agg [.sl f 1 (zM ns), .sl g 1 (zL us)], .v (.int .i64 (a : Int)), .v (.int .i64 (b : Int))] [] (.v (.int .i64 (zGw us a b))) [] := by
 have hd : ∀ x, zBA us x us.length < 2 ^ 32 := fun x => Nat.lt_of_lt_of_le (zIO us x _) (Nat.pow_le_pow_right (by decide) (by omega))
 have han := zPs (hd a) (hd b)
 refine Fn.of (fn := Tryz.f239) (by kernel_rfl) rfl (by kernel_rfl) ⟨[.agg [.sl f 1 (zM ns), .sl g 1 (zL us)], .v (.int .i64 (a : Int)), .v (.int .i64 (b : Int)), .v undef, .v undef, .v undef, .v undef, .v undef, .v undef, .v undef, .v undef, .v undef, .v undef, .v undef, .v undef, .v undef, .v undef, .v undef, .v undef, .v undef, .v undef, .v undef, .v undef, .v undef, .v undef, .v undef, .v undef, .v undef, .v undef], []⟩ rfl ?_
 repeat' first | (with_reducible first | refine zA ?_ | refine zB ?_ | refine zG ?_) | ((first | with_reducible refine zC fun KC J hJ hKC => ?_ | with_reducible refine zU rfl fun KC J hJ hKC => ?_ | (refine' hKC _ _ _ _ _ (zD (zKd _ _ _ _ _ ?_ ?_) rfl rfl rfl ?_ ?_); (rotate_left 7); (· exact Lq); (rotate_left 1); (iterate 2 (· exact Hq)))); simp (maxSteps := 9999999) only [push_cast, seval, ↓reduceIte, han]) | ((first | with_reducible refine hJ _ _ ?_ | (with_reducible refine hJ _ _ ?_ ?_; · kernel_rfl)); clear hJ hKC KC J)
 refine ze (γ := {i : Nat // i ≤ us.length ∧ ∀ j, j < i → ¬ zBA us j us.length = (zBA us a us.length &&& zBA us b us.length)}) (fun i => ⟨[.any, .any, .any, .ptr 0 0 0, .any, .any, .any, .v (.int .u32 (uv (zBA us a us.length &&& zBA us b us.length))), .any, .any, .any, .any, .any, .any, .any, .any, .any, .any, .v (.int .i64 us.length), .v (.int .i64 i.1), .any, .any, .any, .any, .any, .any, .any, .any, .any], [.ent ⟨0, none, 25, [.sl f 1 (zM ns), .sl g 1 (zL us)], .cells⟩]⟩) (fun i => us.length - i.1) ⟨0, by simp⟩ ⟨?_, Fq⟩ ?_
 ·exact Lq
 ·rintro ⟨i, hi, hn⟩
  by_cases hlt : (i : Int) < (us.length : Int)
  ·by_cases hz : zBA us i us.length = (zBA us a us.length &&& zBA us b us.length)
   ·skip
    repeat' first | (with_reducible first | refine zA ?_ | refine zB ?_ | refine zS ?_ | refine zg ?_ | refine zI ?_ | refine zJ ?_ | refine zG ?_) | ((first | with_reducible refine zC fun KC J hJ hKC => ?_ | (refine' hKC _ _ _ _ _ (zD (zKd _ _ _ _ _ ?_ ?_) rfl rfl rfl ?_ ?_); (rotate_left 7); (· exact Lq); (rotate_left 1); (iterate 2 (· exact Hq)))); simp (maxSteps := 9999999) only [push_cast, seval, ↓reduceIte, hlt, hz]) | ((with_reducible refine hJ _ _ ?_); clear hJ hKC KC J) | ((with_reducible refine zF ?_ ?_); · rfl)
    refine zE ?_
    simp (maxSteps := 9999999) only [push_cast, seval, ↓reduceIte, show Tryz.f239.results = #[(.tmp 6)] from rfl]
    refine zAF (congrArg (Value.int .i64) ?_)
    exact (zBt (xs := List.range us.length) (i := i) (by simp; omega) (by simpa using hz) (fun j hj hji => by simpa using hn j hji)).symm
   ·have hz' : decide (zBA us i us.length = (zBA us a us.length &&& zBA us b us.length)) = false := decide_eq_false hz
    repeat' first | (with_reducible first | refine zA ?_ | refine zB ?_ | refine zO ?_ | refine zJ ?_ | refine zG ?_) | ((first | with_reducible refine zC fun KC J hJ hKC => ?_ | (refine' hKC _ _ _ _ _ (zD (zKd _ _ _ _ _ ?_ ?_) rfl rfl rfl ?_ ?_); (rotate_left 7); (· exact Lq); (rotate_left 1); (iterate 2 (· exact Hq)))); simp (maxSteps := 9999999) only [push_cast, seval, ↓reduceIte, hlt, hz', zb (i := i) (n := us.length) (by omega) (by omega)]) | ((with_reducible refine hJ _ _ ?_); clear hJ hKC KC J) | ((with_reducible refine zF ?_ ?_); · rfl) | ((with_reducible refine zH ?_ ?_); · rfl)
    refine ⟨⟨i + 1, by omega, fun j hj => ?_⟩, by simp only; omega, ?_, Fq⟩
    ·by_cases he : j = i
     ·subst he; exact hz
     ·exact hn j (by omega)
    ·exact Lq
  ·skip
   repeat' first | (with_reducible first | refine zA ?_ | refine zB ?_ | refine zX ?_ | refine zW ?_ | refine zI ?_ | refine zQ ?_) | ((with_reducible refine zC fun KC J hJ hKC => ?_); simp (maxSteps := 9999999) only [push_cast, seval, ↓reduceIte, hlt]) | ((with_reducible refine hJ _ _ ?_); clear hJ hKC KC J) | ((with_reducible refine zH ?_ ?_); · rfl)
   refine zE ?_
   simp (maxSteps := 9999999) only [push_cast, seval, ↓reduceIte, show Tryz.f239.results = #[(.tmp 6)] from rfl]
   refine zAF (congrArg (Value.int .i64) ?_)
   exact (zBB (xs := List.range us.length) (fun j hj => by simpa using hn j (by simp at hj; omega))).symm
theorem zIr {us : List Nat} {c : Nat} (h : c < us.length) : us[c] = us.getD c 0 := by rw [List.getD_eq_getElem?_getD, List.getElem?_eq_getElem h]; rfl
def r3 (us : List Nat) (i j k : Nat) : Prop := fl us i j = true → fl us j k = true → fl us i k = true
def r2 (us : List Nat) (i j : Nat) : Prop := ¬ i = j → ¬ (fl us i j = true ∧ fl us j i = true)
def r0 (us : List Nat) (i : Nat) : Prop := fl us i i = true ∧ ∀ j, j < us.length → r2 us i j ∧ ∀ k, k < us.length → r3 us i j k
theorem zKl {us : List Nat} : Ord us ↔ ∀ i, i < us.length → r0 us i := by
 constructor
 ·rintro ⟨h1, h2, h3⟩ i hi
  exact ⟨h1 i hi, fun j hj => ⟨h2 i hi j hj, fun k hk => h3 i hi j hj k hk⟩⟩
 ·intro h
  exact ⟨fun a ha => (h a ha).1, fun a ha b hb => ((h a ha).2 b hb).1, fun a ha b hb c hc => ((h a ha).2 b hb).2 c hc⟩
theorem zJX (f g : Bool) (ns : List ByteArray) (us : List Nat) (hu : U32 us) (hl : us.length ≤ 8) :
  Fn Tryz.prog 130 [.agg [.sl f 1 (zM ns), .sl g 1 (zL us)]] [] (.v (.bool (decide (Ord us)))) [] := by
 refine Fn.of (fn := Tryz.f130) (by kernel_rfl) rfl (by kernel_rfl) ⟨[.agg [.sl f 1 (zM ns), .sl g 1 (zL us)], .v undef, .v undef, .v undef, .v undef, .v undef, .v undef, .v undef, .v undef, .v undef, .v undef, .v undef, .v undef, .v undef, .v undef, .v undef, .v undef, .v undef, .v undef, .v undef, .v undef, .v undef, .v undef, .v undef, .v undef, .v undef, .v undef, .v undef, .v undef, .v undef, .v undef, .v undef, .v undef, .v undef, .v undef, .v undef, .v undef, .v undef, .v undef, .v undef, .v undef, .v undef, .v undef, .v undef, .v undef, .v undef, .v undef, .v undef, .v undef, .v undef, .v undef, .v undef, .v undef, .v undef, .v undef, .v undef, .v undef, .v undef, .v undef, .v undef, .v undef, .v undef, .v undef, .v undef], []⟩ rfl ?_
 repeat' first | (with_reducible first | refine zA ?_ | refine zB ?_ | refine zG ?_) | ((with_reducible refine zC fun KC J hJ hKC => ?_); simp (maxSteps := 9999999) only [push_cast, seval, ↓reduceIte]) | ((with_reducible refine hJ _ _ ?_); clear hJ hKC KC J)
 refine ze (γ := {i : Nat // i ≤ us.length ∧ ∀ x, x < i → r0 us x}) (fun i => ⟨[.any, .ptr 0 0 0, .any, .any, .any, .any, .any, .any, .v (.int .i64 us.length), .v (.int .i64 i.1), .any, .any, .any, .any, .any, .any, .any, .any, .any, .any, .any, .any, .any, .any, .any, .any, .any, .any, .any, .any, .any, .any, .any, .any, .any, .any, .any, .any, .any, .any, .any, .any, .any, .any, .any, .any, .any, .any, .any, .any, .any, .any, .any, .any, .any, .any, .any, .any, .any, .any, .any, .any, .any, .any], [.ent ⟨0, none, 25, [.sl f 1 (zM ns), .sl g 1 (zL us)], .cells⟩]⟩) (fun i => us.length - i.1) ⟨0, by simp⟩ ⟨?_, Fq⟩ ?_
 ·exact Lq
 ·rintro ⟨i, hi, hin⟩
  by_cases hlt : (i : Int) < (us.length : Int)
  ·have hi' : i < us.length := by omega
   by_cases h1 : fl us i i = true
   ·skip
    repeat' first | (with_reducible first | refine zA ?_ | refine zB ?_ | refine zJ ?_ | refine zG ?_) | ((first | with_reducible refine zC fun KC J hJ hKC => ?_ | (refine' hKC _ _ _ _ _ (zD (zv _ _ _ _ _ _ ?_ ?_ ?_) rfl rfl rfl ?_ ?_); (rotate_left 9); (· exact Lq); (rotate_left 1); (iterate 3 (· exact Hq)))); simp (maxSteps := 9999999) only [push_cast, seval, ↓reduceIte, hlt, h1]) | ((with_reducible refine hJ _ _ ?_); clear hJ hKC KC J) | ((with_reducible refine zF ?_ ?_); · rfl) | ((with_reducible refine zH ?_ ?_); · rfl)
    refine ze (γ := {j : Nat // j ≤ us.length ∧ ∀ y, y < j → r2 us i y ∧ ∀ k, k < us.length → r3 us i y k}) (fun j => ⟨[.any, .ptr 0 0 0, .any, .v (.int .i64 i), .any, .any, .any, .any, .v (.int .i64 us.length), .v (.int .i64 i), .any, .any, .any, .any, .any, .any, .any, .any, .any, .v (.int .i64 us.length), .v (.int .i64 j.1), .any, .any, .any, .any, .any, .any, .any, .any, .any, .any, .any, .any, .any, .any, .any, .any, .any, .any, .any, .any, .any, .any, .any, .any, .any, .any, .any, .any, .any, .any, .any, .any, .any, .any, .any, .any, .any, .any, .any, .any, .any, .any, .any], [.ent ⟨0, none, 25, [.sl f 1 (zM ns), .sl g 1 (zL us)], .cells⟩]⟩) (fun j => us.length - j.1) ⟨0, by simp⟩ ⟨?_, Fq⟩ ?_
    ·exact Lq
    ·rintro ⟨j, hj, hjn⟩
     by_cases hlj : (j : Int) < (us.length : Int)
     ·have hj' : j < us.length := by omega
      by_cases hq : r2 us i j
      ·skip
       repeat' first | (with_reducible refine zSJ 9 ?_) | (with_reducible first | refine zA ?_ | refine zB ?_ | refine zJ ?_ | refine zG ?_) | ((with_reducible refine zC fun KC J hJ hKC => ?_); simp (maxSteps := 9999999) only [push_cast, seval, ↓reduceIte, hlj]) | ((with_reducible refine hJ _ _ ?_); clear hJ hKC KC J) | ((with_reducible refine zF ?_ ?_); · rfl)
       refine zKG ⟨[.any, .ptr 0 0 0, .any, .v (.int .i64 i), .v (.int .i64 j), .any, .any, .any, .v (.int .i64 us.length), .v (.int .i64 i), .any, .any, .any, .any, .any, .any, .any, .any, .any, .v (.int .i64 us.length), .v (.int .i64 j), .any, .any, .any, .any, .any, .any, .any, .any, .any, .any, .any, .any, .any, .any, .any, .any, .any, .any, .any, .any, .any, .any, .any, .any, .any, .any, .any, .any, .any, .any, .any, .any, .any, .any, .any, .any, .any, .any, .any, .any, .any, .any, .any], [.ent ⟨0, none, 25, [.sl f 1 (zM ns), .sl g 1 (zL us)], .cells⟩]⟩ ?_ ?_
       ·have hne : ((i : Int) != (j : Int)) = decide (¬ i = j) := by rw [Bool.eq_iff_iff]; simp; omega
        by_cases hij : i = j
        ·subst hij
         repeat' first | (with_reducible first | refine zA ?_ | refine zB ?_ | refine zJ ?_) | ((with_reducible refine zC fun KC J hJ hKC => ?_); simp (maxSteps := 9999999) only [push_cast, seval, ↓reduceIte, undef]) | ((with_reducible refine hJ _ _ ?_); clear hJ hKC KC J) | ((with_reducible refine zH ?_ ?_); · rfl)
         (refine zFm ?_ Fq; (· exact Lq))
        ·cases hx : fl us i j
         ·skip
          repeat' first | (with_reducible first | refine zA ?_ | refine zB ?_ | refine zJ ?_) | ((first | with_reducible refine zC fun KC J hJ hKC => ?_ | (refine' hKC _ _ _ _ _ (zD (zv _ _ _ _ _ _ ?_ ?_ ?_) rfl rfl rfl ?_ ?_); (rotate_left 9); (· exact Lq); (rotate_left 1); (iterate 3 (· exact Hq)))); simp (maxSteps := 9999999) only [push_cast, seval, ↓reduceIte, hne, hij, hx, undef]) | ((with_reducible refine hJ _ _ ?_); clear hJ hKC KC J) | ((with_reducible refine zH ?_ ?_); · rfl)
          (refine zFm ?_ Fq; (· exact Lq))
         ·have hy : fl us j i = false := by
           cases hy : fl us j i with
           | false => rfl
           | true => exact absurd ⟨hx, hy⟩ (hq hij)
          repeat' first | (with_reducible first | refine zA ?_ | refine zB ?_ | refine zJ ?_) | ((first | with_reducible refine zC fun KC J hJ hKC => ?_ | (refine' hKC _ _ _ _ _ (zD (zv _ _ _ _ _ _ ?_ ?_ ?_) rfl rfl rfl ?_ ?_); (rotate_left 9); (· exact Lq); (rotate_left 1); (iterate 3 (· exact Hq)))); simp (maxSteps := 9999999) only [push_cast, seval, ↓reduceIte, hne, hij, hx, hy, undef]) | ((with_reducible refine hJ _ _ ?_); clear hJ hKC KC J) | ((with_reducible refine zH ?_ ?_); · rfl)
          (refine zFm ?_ Fq; (· exact Lq))
       ·skip
        repeat' first | (with_reducible first | refine zA ?_ | refine zB ?_ | refine zG ?_) | ((with_reducible refine zC fun KC J hJ hKC => ?_); simp (maxSteps := 9999999) only [push_cast, seval, ↓reduceIte]) | ((with_reducible refine hJ _ _ ?_); clear hJ hKC KC J)
        refine ze (γ := {k : Nat // k ≤ us.length ∧ r2 us i j ∧ ∀ y, y < k → r3 us i j y}) (fun k => ⟨[.any, .ptr 0 0 0, .any, .v (.int .i64 i), .v (.int .i64 j), .any, .any, .any, .v (.int .i64 us.length), .v (.int .i64 i), .any, .any, .any, .any, .any, .any, .any, .any, .any, .v (.int .i64 us.length), .v (.int .i64 j), .any, .any, .any, .any, .any, .any, .any, .any, .any, .any, .any, .any, .any, .any, .any, .any, .any, .any, .any, .v (.int .i64 us.length), .v (.int .i64 k.1), .any, .any, .any, .any, .any, .any, .any, .any, .any, .any, .any, .any, .any, .any, .any, .any, .any, .any, .any, .any, .any, .any], [.ent ⟨0, none, 25, [.sl f 1 (zM ns), .sl g 1 (zL us)], .cells⟩]⟩) (fun k => us.length - k.1) ⟨0, by omega, hq, by intro y hy; omega⟩ ⟨?_, Fq⟩ ?_
        ·exact Lq
        ·rintro ⟨k, hk, hq, hkn⟩
         by_cases hlk : (k : Int) < (us.length : Int)
         ·have hk' : k < us.length := by omega
          cases hx : fl us i j with
          | false =>
           repeat' first | (with_reducible first | refine zA ?_ | refine zB ?_ | refine zO ?_ | refine zJ ?_ | refine zG ?_) | ((first | with_reducible refine zC fun KC J hJ hKC => ?_ | (refine' hKC _ _ _ _ _ (zD (zv _ _ _ _ _ _ ?_ ?_ ?_) rfl rfl rfl ?_ ?_); (rotate_left 9); (· exact Lq); (rotate_left 1); (iterate 3 (· exact Hq)))); simp (maxSteps := 9999999) only [push_cast, seval, ↓reduceIte, hlk, hx, undef, zb (i := k) (n := us.length) (by omega) (by omega)]) | ((with_reducible refine hJ _ _ ?_); clear hJ hKC KC J) | ((with_reducible refine zF ?_ ?_); · rfl) | ((with_reducible refine zH ?_ ?_); · rfl)
           refine ⟨⟨k + 1, by omega, hq, fun y hy => ?_⟩, by simp only; omega, ?_, Fq⟩
           ·intro h; rw [hx] at h; cases h
           ·exact Lq
          | true =>
           cases hy : fl us j k with
           | false =>
            repeat' first | (with_reducible first | refine zA ?_ | refine zB ?_ | refine zO ?_ | refine zJ ?_ | refine zG ?_) | ((first | with_reducible refine zC fun KC J hJ hKC => ?_ | (refine' hKC _ _ _ _ _ (zD (zv _ _ _ _ _ _ ?_ ?_ ?_) rfl rfl rfl ?_ ?_); (rotate_left 9); (· exact Lq); (rotate_left 1); (iterate 3 (· exact Hq)))); simp (maxSteps := 9999999) only [push_cast, seval, ↓reduceIte, hlk, hx, hy, undef, zb (i := k) (n := us.length) (by omega) (by omega)]) | ((with_reducible refine hJ _ _ ?_); clear hJ hKC KC J) | ((with_reducible refine zF ?_ ?_); · rfl) | ((with_reducible refine zH ?_ ?_); · rfl)
            refine ⟨⟨k + 1, by omega, hq, fun y hyk => ?_⟩, by simp only; omega, ?_, Fq⟩
            ·by_cases he : y = k
             ·intro _ h; rw [he, hy] at h; cases h
             ·exact hkn y (by omega)
            ·exact Lq
           | true =>
            cases hz : fl us i k with
            | true =>
             repeat' first | (with_reducible first | refine zA ?_ | refine zB ?_ | refine zO ?_ | refine zJ ?_ | refine zG ?_) | ((first | with_reducible refine zC fun KC J hJ hKC => ?_ | (refine' hKC _ _ _ _ _ (zD (zv _ _ _ _ _ _ ?_ ?_ ?_) rfl rfl rfl ?_ ?_); (rotate_left 9); (· exact Lq); (rotate_left 1); (iterate 3 (· exact Hq)))); simp (maxSteps := 9999999) only [push_cast, seval, ↓reduceIte, hlk, hx, hy, hz, undef, zb (i := k) (n := us.length) (by omega) (by omega)]) | ((with_reducible refine hJ _ _ ?_); clear hJ hKC KC J) | ((with_reducible refine zF ?_ ?_); · rfl) | ((with_reducible refine zH ?_ ?_); · rfl)
             refine ⟨⟨k + 1, by omega, hq, fun y hyk => ?_⟩, by simp only; omega, ?_, Fq⟩
             ·by_cases he : y = k
              ·intro _ _; rw [he, hz]
              ·exact hkn y (by omega)
             ·exact Lq
            | false =>
             repeat' first | (with_reducible first | refine zA ?_ | refine zB ?_ | refine zS ?_ | refine zg ?_ | refine zI ?_ | refine zJ ?_ | refine zG ?_) | ((first | with_reducible refine zC fun KC J hJ hKC => ?_ | (refine' hKC _ _ _ _ _ (zD (zv _ _ _ _ _ _ ?_ ?_ ?_) rfl rfl rfl ?_ ?_); (rotate_left 9); (· exact Lq); (rotate_left 1); (iterate 3 (· exact Hq)))); simp (maxSteps := 9999999) only [push_cast, seval, ↓reduceIte, hlk, hx, hy, hz, undef]) | ((with_reducible refine hJ _ _ ?_); clear hJ hKC KC J) | ((with_reducible refine zF ?_ ?_); · rfl)
             refine zE ?_
             simp (maxSteps := 9999999) only [push_cast, seval, ↓reduceIte, show Tryz.f130.results = #[(.tmp 2)] from rfl]
             rw [decide_eq_false (fun h => by have := ((zKl.1 h i hi').2 j hj').2 k hk' hx hy; rw [hz] at this; cases this)]
             exact zN _
         ·skip
          repeat' first | (with_reducible first | refine zA ?_ | refine zB ?_ | refine zX ?_ | refine zO ?_ | refine zW ?_ | refine zQ ?_) | ((with_reducible refine zC fun KC J hJ hKC => ?_); simp (maxSteps := 9999999) only [push_cast, seval, ↓reduceIte, hlk, zb (i := j) (n := us.length) (by omega) (by omega)]) | ((with_reducible refine hJ _ _ ?_); clear hJ hKC KC J) | ((with_reducible refine zH ?_ ?_); · rfl)
          refine ⟨⟨j + 1, by omega, fun y hy => ?_⟩, by simp only; omega, ?_, Fq⟩
          ·by_cases he : y = j
           ·subst he; exact ⟨hq, fun z hz => hkn z (by omega)⟩
           ·exact hjn y (by omega)
          ·exact Lq
      ·have hij : ¬ i = j := fun h => hq fun h' => absurd h h'
       have hxy : fl us i j = true ∧ fl us j i = true := by
        refine Decidable.byContradiction fun h => hq fun _ => h
       have hne : ((i : Int) != (j : Int)) = true := by simp; omega
       repeat' first | (with_reducible first | refine zA ?_ | refine zB ?_ | refine zS ?_ | refine zg ?_ | refine zI ?_ | refine zJ ?_ | refine zG ?_) | ((first | with_reducible refine zC fun KC J hJ hKC => ?_ | (refine' hKC _ _ _ _ _ (zD (zv _ _ _ _ _ _ ?_ ?_ ?_) rfl rfl rfl ?_ ?_); (rotate_left 9); (· exact Lq); (rotate_left 1); (iterate 3 (· exact Hq)))); simp (maxSteps := 9999999) only [push_cast, seval, ↓reduceIte, hlj, hne, hxy.1, hxy.2]) | ((with_reducible refine hJ _ _ ?_); clear hJ hKC KC J) | ((with_reducible refine zF ?_ ?_); · rfl)
       refine zE ?_
       simp (maxSteps := 9999999) only [push_cast, seval, ↓reduceIte, show Tryz.f130.results = #[(.tmp 2)] from rfl]
       rw [decide_eq_false (fun h => hq ((zKl.1 h i hi').2 j hj').1)]
       exact zN _
     ·skip
      repeat' first | (with_reducible first | refine zA ?_ | refine zB ?_ | refine zX ?_ | refine zO ?_ | refine zW ?_ | refine zQ ?_) | ((with_reducible refine zC fun KC J hJ hKC => ?_); simp (maxSteps := 9999999) only [push_cast, seval, ↓reduceIte, hlj, zb (i := i) (n := us.length) (by omega) (by omega)]) | ((with_reducible refine hJ _ _ ?_); clear hJ hKC KC J) | ((with_reducible refine zH ?_ ?_); · rfl)
      refine ⟨⟨i + 1, by omega, fun x hx => ?_⟩, by simp only; omega, ?_, Fq⟩
      ·by_cases he : x = i
       ·subst he; exact ⟨h1, fun y hy => hjn y (by omega)⟩
       ·exact hin x (by omega)
      ·exact Lq
   ·skip
    repeat' first | (with_reducible first | refine zA ?_ | refine zB ?_ | refine zS ?_ | refine zg ?_ | refine zI ?_ | refine zJ ?_ | refine zG ?_) | ((first | with_reducible refine zC fun KC J hJ hKC => ?_ | (refine' hKC _ _ _ _ _ (zD (zv _ _ _ _ _ _ ?_ ?_ ?_) rfl rfl rfl ?_ ?_); (rotate_left 9); (· exact Lq); (rotate_left 1); (iterate 3 (· exact Hq)))); simp (maxSteps := 9999999) only [push_cast, seval, ↓reduceIte, hlt, h1, undef]) | ((with_reducible refine hJ _ _ ?_); clear hJ hKC KC J) | ((with_reducible refine zF ?_ ?_); · rfl)
    refine zE ?_
    simp (maxSteps := 9999999) only [push_cast, seval, ↓reduceIte, show Tryz.f130.results = #[(.tmp 2)] from rfl]
    rw [decide_eq_false (fun h => h1 (zKl.1 h i hi').1)]
    exact zN _
  ·skip
   repeat' first | (with_reducible first | refine zA ?_ | refine zB ?_ | refine zX ?_ | refine zW ?_ | refine zI ?_ | refine zQ ?_) | ((with_reducible refine zC fun KC J hJ hKC => ?_); simp (maxSteps := 9999999) only [push_cast, seval, ↓reduceIte, hlt]) | ((with_reducible refine hJ _ _ ?_); clear hJ hKC KC J) | ((with_reducible refine zH ?_ ?_); · rfl)
   refine zE ?_
   simp (maxSteps := 9999999) only [push_cast, seval, ↓reduceIte, show Tryz.f130.results = #[(.tmp 2)] from rfl]
   rw [decide_eq_true (zKl.2 fun x hx => hin x (by omega))]
   exact zN _
def zFl (us : List Nat) (a b c n : Nat) : Prop := (fl us a c = true ∧ fl us b c = true) ∧ ∀ d, d < n → fl us a d = true → fl us b d = true → fl us c d = true
instance (us : List Nat) (a b c n : Nat) : Decidable (zFl us a b c n) := by unfold zFl; infer_instance
theorem zIN (f g : Bool) (ns : List ByteArray) (us : List Nat) (a b : Nat) (hu : U32 us) (hlw : Low us) (ho : Ord us) (hl : us.length ≤ 8) (ha : a < us.length) (hb : b < us.length) :
  Fn Tryz.prog 131 [.agg [.sl f 1 (zM ns), .sl g 1 (zL us)], .v (.int .i64 (a : Int)), .v (.int .i64 (b : Int))] [] (.v (.int .i64 (zGl us a b))) [] := by
 refine Fn.of (fn := Tryz.f131) (by kernel_rfl) rfl (by kernel_rfl) ⟨[.agg [.sl f 1 (zM ns), .sl g 1 (zL us)], .v (.int .i64 (a : Int)), .v (.int .i64 (b : Int)), .v undef, .v undef, .v undef, .v undef, .v undef, .v undef, .v undef, .v undef, .v undef, .v undef, .v undef, .v undef, .v undef, .v undef, .v undef, .v undef, .v undef, .v undef, .v undef, .v undef, .v undef, .v undef, .v undef, .v undef, .v undef, .v undef, .v undef, .v undef, .v undef, .v undef, .v undef, .v undef, .v undef, .v undef, .v undef, .v undef, .v undef, .v undef, .v undef, .v undef, .v undef, .v undef, .v undef, .v undef, .v undef, .v undef, .v undef, .v undef, .v undef, .v undef], []⟩ rfl ?_
 repeat' first | (with_reducible first | refine zA ?_ | refine zB ?_ | refine zG ?_) | ((with_reducible refine zC fun KC J hJ hKC => ?_); simp (maxSteps := 9999999) only [push_cast, seval, ↓reduceIte]) | ((with_reducible refine hJ _ _ ?_); clear hJ hKC KC J)
 refine ze (γ := {c : Nat // c ≤ us.length ∧ ∀ x, x < c → ¬ isJ us a b x}) (fun c => ⟨[.any, .v (.int .i64 a), .v (.int .i64 b), .ptr 0 0 0, .any, .any, .any, .any, .any, .any, .any, .any, .v (.int .i64 us.length), .v (.int .i64 c.1), .any, .any, .any, .any, .any, .any, .any, .any, .any, .any, .any, .any, .any, .any, .any, .any, .any, .any, .any, .any, .any, .any, .any, .any, .any, .any, .any, .any, .any, .any, .any, .any, .any, .any, .any, .any, .any, .any, .any], [.ent ⟨0, none, 25, [.sl f 1 (zM ns), .sl g 1 (zL us)], .cells⟩]⟩) (fun c => us.length - c.1) ⟨0, by simp⟩ ⟨?_, Fq⟩ ?_
 ·exact Lq
 ·rintro ⟨c, hc, hcn⟩
  by_cases hlt : (c : Int) < (us.length : Int)
  ·have hc' : c < us.length := by omega
   repeat' first | (with_reducible refine zLZ 4 ?_) | (with_reducible first | refine zA ?_ | refine zB ?_ | refine zJ ?_ | refine zG ?_) | ((with_reducible refine zC fun KC J hJ hKC => ?_); simp (maxSteps := 9999999) only [push_cast, seval, ↓reduceIte, hlt]) | ((with_reducible refine hJ _ _ ?_); clear hJ hKC KC J) | ((with_reducible refine zF ?_ ?_); · rfl)
   refine zKG ⟨[.any, .v (.int .i64 a), .v (.int .i64 b), .ptr 0 0 0, .any, .any, .any, .v (.int .i64 c), .v (.bool (decide (zFl us a b c 0))), .any, .any, .any, .v (.int .i64 us.length), .v (.int .i64 c), .any, .any, .any, .any, .any, .any, .any, .any, .any, .any, .any, .any, .any, .any, .any, .any, .any, .any, .any, .any, .any, .any, .any, .any, .any, .any, .any, .any, .any, .any, .any, .any, .any, .any, .any, .any, .any, .any, .any], [.ent ⟨0, none, 25, [.sl f 1 (zM ns), .sl g 1 (zL us)], .cells⟩]⟩ ?_ ?_
   ·cases hx : fl us a c
    ·have e : decide (zFl us a b c 0) = false := decide_eq_false fun h => by have := h.1.1; rw [hx] at this; cases this
     rw [e]
     repeat' first | ((first | with_reducible refine zC fun KC J hJ hKC => ?_ | (refine' hKC _ _ _ _ _ (zD (zv _ _ _ _ _ _ ?_ ?_ ?_) rfl rfl rfl ?_ ?_); (rotate_left 9); (· exact Lq); (rotate_left 1); (iterate 3 (· exact Hq)))); simp (maxSteps := 9999999) only [push_cast, seval, ↓reduceIte, hx, undef]) | ((with_reducible refine hJ _ _ ?_); clear hJ hKC KC J)
     (refine zFm ?_ Fq; (· exact Lq))
    ·cases hy : fl us b c
     ·have e : decide (zFl us a b c 0) = false := decide_eq_false fun h => by have := h.1.2; rw [hy] at this; cases this
      rw [e]
      repeat' first | ((first | with_reducible refine zC fun KC J hJ hKC => ?_ | (refine' hKC _ _ _ _ _ (zD (zv _ _ _ _ _ _ ?_ ?_ ?_) rfl rfl rfl ?_ ?_); (rotate_left 9); (· exact Lq); (rotate_left 1); (iterate 3 (· exact Hq)))); simp (maxSteps := 9999999) only [push_cast, seval, ↓reduceIte, hx, hy, undef]) | ((with_reducible refine hJ _ _ ?_); clear hJ hKC KC J)
      (refine zFm ?_ Fq; (· exact Lq))
     ·have e : decide (zFl us a b c 0) = true := decide_eq_true ⟨⟨hx, hy⟩, fun d hd => by omega⟩
      rw [e]
      repeat' first | ((first | with_reducible refine zC fun KC J hJ hKC => ?_ | (refine' hKC _ _ _ _ _ (zD (zv _ _ _ _ _ _ ?_ ?_ ?_) rfl rfl rfl ?_ ?_); (rotate_left 9); (· exact Lq); (rotate_left 1); (iterate 3 (· exact Hq)))); simp (maxSteps := 9999999) only [push_cast, seval, ↓reduceIte, hx, hy, undef]) | ((with_reducible refine hJ _ _ ?_); clear hJ hKC KC J)
      (refine zFm ?_ Fq; (· exact Lq))
   ·skip
    repeat' first | (with_reducible first | refine zA ?_ | refine zB ?_ | refine zG ?_) | ((with_reducible refine zC fun KC J hJ hKC => ?_); simp (maxSteps := 9999999) only [push_cast, seval, ↓reduceIte]) | ((with_reducible refine hJ _ _ ?_); clear hJ hKC KC J)
    refine ze (γ := {d : Nat // d ≤ us.length}) (fun d => ⟨[.any, .v (.int .i64 a), .v (.int .i64 b), .ptr 0 0 0, .any, .any, .any, .v (.int .i64 c), .v (.bool (decide (zFl us a b c d.1))), .any, .any, .any, .v (.int .i64 us.length), .v (.int .i64 c), .any, .any, .any, .any, .any, .any, .any, .any, .any, .any, .any, .any, .any, .any, .v (.int .i64 us.length), .v (.int .i64 d.1), .any, .any, .any, .any, .any, .any, .any, .any, .any, .any, .any, .any, .any, .any, .any, .any, .any, .any, .any, .any, .any, .any, .any], [.ent ⟨0, none, 25, [.sl f 1 (zM ns), .sl g 1 (zL us)], .cells⟩]⟩) (fun d => us.length - d.1) ⟨0, by simp⟩ ⟨?_, Fq⟩ ?_
    ·exact Lq
    ·rintro ⟨d, hd⟩
     by_cases hld : (d : Int) < (us.length : Int)
     ·have hd' : d < us.length := by omega
      have hst : (fl us a d = true → fl us b d = true → fl us c d = true) → decide (zFl us a b c (d + 1)) = decide (zFl us a b c d) := fun h => decide_eq_decide.2 ⟨fun h2 => ⟨h2.1, fun e he => h2.2 e (by omega)⟩, fun h2 => ⟨h2.1, fun e he => by
       by_cases hed : e = d
       ·subst hed; exact h
       ·exact h2.2 e (by omega)⟩⟩
      by_cases hbad : fl us a d = true ∧ fl us b d = true ∧ fl us c d = false
      ·have e : decide (zFl us a b c (d + 1)) = false := decide_eq_false fun h => by have := h.2 d (by omega) hbad.1 hbad.2.1; rw [hbad.2.2] at this; cases this
       repeat' first | (with_reducible first | refine zA ?_ | refine zB ?_ | refine zO ?_ | refine zJ ?_ | refine zG ?_) | ((first | with_reducible refine zC fun KC J hJ hKC => ?_ | (refine' hKC _ _ _ _ _ (zD (zv _ _ _ _ _ _ ?_ ?_ ?_) rfl rfl rfl ?_ ?_); (rotate_left 9); (· exact Lq); (rotate_left 1); (iterate 3 (· exact Hq)))); simp (maxSteps := 9999999) only [push_cast, seval, ↓reduceIte, hld, hbad.1, hbad.2.1, hbad.2.2, undef, zb (i := d) (n := us.length) (by omega) (by omega)]) | ((with_reducible refine hJ _ _ ?_); clear hJ hKC KC J) | ((with_reducible refine zF ?_ ?_); · rfl)
       refine ⟨⟨d + 1, by omega⟩, by simp only; omega, ?_, Fq⟩
       simp only [e]
       exact Lq
      ·have e := hst fun h1 h2 => by
        cases h3 : fl us c d with
        | true => rfl
        | false => exact absurd ⟨h1, h2, h3⟩ hbad
       obtain ⟨v, hv⟩ : ∃ v, decide (zFl us a b c d) = v := ⟨_, rfl⟩
       rw [hv] at e ⊢
       cases hx : fl us a d
       ·skip
        repeat' first | (with_reducible first | refine zA ?_ | refine zB ?_ | refine zO ?_ | refine zJ ?_ | refine zG ?_) | ((first | with_reducible refine zC fun KC J hJ hKC => ?_ | (refine' hKC _ _ _ _ _ (zD (zv _ _ _ _ _ _ ?_ ?_ ?_) rfl rfl rfl ?_ ?_); (rotate_left 9); (· exact Lq); (rotate_left 1); (iterate 3 (· exact Hq)))); simp (maxSteps := 9999999) only [push_cast, seval, ↓reduceIte, hld, hx, undef, zb (i := d) (n := us.length) (by omega) (by omega)]) | ((with_reducible refine hJ _ _ ?_); clear hJ hKC KC J) | ((with_reducible refine zF ?_ ?_); · rfl) | ((with_reducible refine zH ?_ ?_); · rfl)
        refine ⟨⟨d + 1, by omega⟩, by simp only; omega, ?_, Fq⟩
        simp only [e]
        exact Lq
       ·cases hy : fl us b d
        ·skip
         repeat' first | (with_reducible first | refine zA ?_ | refine zB ?_ | refine zO ?_ | refine zJ ?_ | refine zG ?_) | ((first | with_reducible refine zC fun KC J hJ hKC => ?_ | (refine' hKC _ _ _ _ _ (zD (zv _ _ _ _ _ _ ?_ ?_ ?_) rfl rfl rfl ?_ ?_); (rotate_left 9); (· exact Lq); (rotate_left 1); (iterate 3 (· exact Hq)))); simp (maxSteps := 9999999) only [push_cast, seval, ↓reduceIte, hld, hx, hy, undef, zb (i := d) (n := us.length) (by omega) (by omega)]) | ((with_reducible refine hJ _ _ ?_); clear hJ hKC KC J) | ((with_reducible refine zF ?_ ?_); · rfl) | ((with_reducible refine zH ?_ ?_); · rfl)
         refine ⟨⟨d + 1, by omega⟩, by simp only; omega, ?_, Fq⟩
         simp only [e]
         exact Lq
        ·have hz : fl us c d = true := by
          cases h3 : fl us c d with
          | true => rfl
          | false => exact absurd ⟨hx, hy, h3⟩ hbad
         repeat' first | (with_reducible first | refine zA ?_ | refine zB ?_ | refine zO ?_ | refine zJ ?_ | refine zG ?_) | ((first | with_reducible refine zC fun KC J hJ hKC => ?_ | (refine' hKC _ _ _ _ _ (zD (zv _ _ _ _ _ _ ?_ ?_ ?_) rfl rfl rfl ?_ ?_); (rotate_left 9); (· exact Lq); (rotate_left 1); (iterate 3 (· exact Hq)))); simp (maxSteps := 9999999) only [push_cast, seval, ↓reduceIte, hld, hx, hy, hz, undef, zb (i := d) (n := us.length) (by omega) (by omega)]) | ((with_reducible refine hJ _ _ ?_); clear hJ hKC KC J) | ((with_reducible refine zF ?_ ?_); · rfl) | ((with_reducible refine zH ?_ ?_); · rfl)
         refine ⟨⟨d + 1, by omega⟩, by simp only; omega, ?_, Fq⟩
         simp only [e]
         exact Lq
     ·have hdn : d = us.length := by omega
      subst hdn
      by_cases hj : zFl us a b c us.length
      ·have e : decide (zFl us a b c us.length) = true := decide_eq_true hj
       rw [e]
       repeat' first | (with_reducible first | refine zA ?_ | refine zB ?_ | refine zS ?_ | refine zX ?_ | refine zg ?_ | refine zW ?_ | refine zI ?_ | refine zQ ?_) | ((with_reducible refine zC fun KC J hJ hKC => ?_); simp (maxSteps := 9999999) only [push_cast, seval, ↓reduceIte, hld]) | ((with_reducible refine hJ _ _ ?_); clear hJ hKC KC J) | ((with_reducible refine zF ?_ ?_); · rfl) | ((with_reducible refine zH ?_ ?_); · rfl)
       refine zE ?_
       simp (maxSteps := 9999999) only [push_cast, seval, ↓reduceIte, show Tryz.f131.results = #[(.tmp 6)] from rfl]
       refine zAF (congrArg (Value.int .i64) ?_)
       exact (zBt (xs := us) (i := c) (by omega) (by rw [zIr hc']; exact decide_eq_true ((zKD hlw ho ha hb hc').1 hj)) (fun j hj' hjc => by rw [zIr hj']; exact decide_eq_false fun h => hcn j hjc ((zKD hlw ho ha hb hj').2 h))).symm
      ·have e : decide (zFl us a b c us.length) = false := decide_eq_false hj
       rw [e]
       repeat' first | (with_reducible first | refine zA ?_ | refine zB ?_ | refine zX ?_ | refine zO ?_ | refine zW ?_ | refine zJ ?_ | refine zQ ?_) | ((with_reducible refine zC fun KC J hJ hKC => ?_); simp (maxSteps := 9999999) only [push_cast, seval, ↓reduceIte, hld, zb (i := c) (n := us.length) (by omega) (by omega)]) | ((with_reducible refine hJ _ _ ?_); clear hJ hKC KC J) | ((with_reducible refine zH ?_ ?_); · rfl)
       refine ⟨⟨c + 1, by omega, fun x hx => ?_⟩, by simp only; omega, ?_, Fq⟩
       ·by_cases he : x = c
        ·subst he; exact hj
        ·exact hcn x (by omega)
       ·exact Lq
  ·skip
   repeat' first | (with_reducible first | refine zA ?_ | refine zB ?_ | refine zX ?_ | refine zW ?_ | refine zI ?_ | refine zQ ?_) | ((with_reducible refine zC fun KC J hJ hKC => ?_); simp (maxSteps := 9999999) only [push_cast, seval, ↓reduceIte, hlt]) | ((with_reducible refine hJ _ _ ?_); clear hJ hKC KC J) | ((with_reducible refine zH ?_ ?_); · rfl)
   refine zE ?_
   simp (maxSteps := 9999999) only [push_cast, seval, ↓reduceIte, show Tryz.f131.results = #[(.tmp 6)] from rfl]
   refine zAF (congrArg (Value.int .i64) ?_)
   exact (zBB (xs := us) (fun j hj' => by rw [zIr hj']; exact decide_eq_false fun h => hcn j (by omega) ((zKD hlw ho ha hb hj').2 h))).symm
def zFh (us : List Nat) (a b c n : Nat) : Prop := (fl us c a = true ∧ fl us c b = true) ∧ ∀ d, d < n → fl us d a = true → fl us d b = true → fl us d c = true
instance (us : List Nat) (a b c n : Nat) : Decidable (zFh us a b c n) := by unfold zFh; infer_instance
theorem zKu (f g : Bool) (ns : List ByteArray) (us : List Nat) (a b : Nat) (hu : U32 us) (hlw : Low us) (ho : Ord us) (hl : us.length ≤ 8) (ha : a < us.length) (hb : b < us.length) :
  Fn Tryz.prog 132 [.agg [.sl f 1 (zM ns), .sl g 1 (zL us)], .v (.int .i64 (a : Int)), .v (.int .i64 (b : Int))] [] (.v (.int .i64 (zGw us a b))) [] := by
 refine Fn.of (fn := Tryz.f132) (by kernel_rfl) rfl (by kernel_rfl) ⟨[.agg [.sl f 1 (zM ns), .sl g 1 (zL us)], .v (.int .i64 (a : Int)), .v (.int .i64 (b : Int)), .v undef, .v undef, .v undef, .v undef, .v undef, .v undef, .v undef, .v undef, .v undef, .v undef, .v undef, .v undef, .v undef, .v undef, .v undef, .v undef, .v undef, .v undef, .v undef, .v undef, .v undef, .v undef, .v undef, .v undef, .v undef, .v undef, .v undef, .v undef, .v undef, .v undef, .v undef, .v undef, .v undef, .v undef, .v undef, .v undef, .v undef, .v undef, .v undef, .v undef, .v undef, .v undef, .v undef, .v undef, .v undef, .v undef, .v undef, .v undef, .v undef, .v undef], []⟩ rfl ?_
 repeat' first | (with_reducible first | refine zA ?_ | refine zB ?_ | refine zG ?_) | ((with_reducible refine zC fun KC J hJ hKC => ?_); simp (maxSteps := 9999999) only [push_cast, seval, ↓reduceIte]) | ((with_reducible refine hJ _ _ ?_); clear hJ hKC KC J)
 refine ze (γ := {c : Nat // c ≤ us.length ∧ ∀ x, x < c → ¬ isM us a b x}) (fun c => ⟨[.any, .v (.int .i64 a), .v (.int .i64 b), .ptr 0 0 0, .any, .any, .any, .any, .any, .any, .any, .any, .v (.int .i64 us.length), .v (.int .i64 c.1), .any, .any, .any, .any, .any, .any, .any, .any, .any, .any, .any, .any, .any, .any, .any, .any, .any, .any, .any, .any, .any, .any, .any, .any, .any, .any, .any, .any, .any, .any, .any, .any, .any, .any, .any, .any, .any, .any, .any], [.ent ⟨0, none, 25, [.sl f 1 (zM ns), .sl g 1 (zL us)], .cells⟩]⟩) (fun c => us.length - c.1) ⟨0, by simp⟩ ⟨?_, Fq⟩ ?_
 ·exact Lq
 ·rintro ⟨c, hc, hcn⟩
  by_cases hlt : (c : Int) < (us.length : Int)
  ·have hc' : c < us.length := by omega
   repeat' first | (with_reducible refine zLZ 4 ?_) | (with_reducible first | refine zA ?_ | refine zB ?_ | refine zJ ?_ | refine zG ?_) | ((with_reducible refine zC fun KC J hJ hKC => ?_); simp (maxSteps := 9999999) only [push_cast, seval, ↓reduceIte, hlt]) | ((with_reducible refine hJ _ _ ?_); clear hJ hKC KC J) | ((with_reducible refine zF ?_ ?_); · rfl)
   refine zKG ⟨[.any, .v (.int .i64 a), .v (.int .i64 b), .ptr 0 0 0, .any, .any, .any, .v (.int .i64 c), .v (.bool (decide (zFh us a b c 0))), .any, .any, .any, .v (.int .i64 us.length), .v (.int .i64 c), .any, .any, .any, .any, .any, .any, .any, .any, .any, .any, .any, .any, .any, .any, .any, .any, .any, .any, .any, .any, .any, .any, .any, .any, .any, .any, .any, .any, .any, .any, .any, .any, .any, .any, .any, .any, .any, .any, .any], [.ent ⟨0, none, 25, [.sl f 1 (zM ns), .sl g 1 (zL us)], .cells⟩]⟩ ?_ ?_
   ·cases hx : fl us c a
    ·have e : decide (zFh us a b c 0) = false := decide_eq_false fun h => by have := h.1.1; rw [hx] at this; cases this
     rw [e]
     repeat' first | ((first | with_reducible refine zC fun KC J hJ hKC => ?_ | (refine' hKC _ _ _ _ _ (zD (zv _ _ _ _ _ _ ?_ ?_ ?_) rfl rfl rfl ?_ ?_); (rotate_left 9); (· exact Lq); (rotate_left 1); (iterate 3 (· exact Hq)))); simp (maxSteps := 9999999) only [push_cast, seval, ↓reduceIte, hx, undef]) | ((with_reducible refine hJ _ _ ?_); clear hJ hKC KC J)
     (refine zFm ?_ Fq; (· exact Lq))
    ·cases hy : fl us c b
     ·have e : decide (zFh us a b c 0) = false := decide_eq_false fun h => by have := h.1.2; rw [hy] at this; cases this
      rw [e]
      repeat' first | ((first | with_reducible refine zC fun KC J hJ hKC => ?_ | (refine' hKC _ _ _ _ _ (zD (zv _ _ _ _ _ _ ?_ ?_ ?_) rfl rfl rfl ?_ ?_); (rotate_left 9); (· exact Lq); (rotate_left 1); (iterate 3 (· exact Hq)))); simp (maxSteps := 9999999) only [push_cast, seval, ↓reduceIte, hx, hy, undef]) | ((with_reducible refine hJ _ _ ?_); clear hJ hKC KC J)
      (refine zFm ?_ Fq; (· exact Lq))
     ·have e : decide (zFh us a b c 0) = true := decide_eq_true ⟨⟨hx, hy⟩, fun d hd => by omega⟩
      rw [e]
      repeat' first | ((first | with_reducible refine zC fun KC J hJ hKC => ?_ | (refine' hKC _ _ _ _ _ (zD (zv _ _ _ _ _ _ ?_ ?_ ?_) rfl rfl rfl ?_ ?_); (rotate_left 9); (· exact Lq); (rotate_left 1); (iterate 3 (· exact Hq)))); simp (maxSteps := 9999999) only [push_cast, seval, ↓reduceIte, hx, hy, undef]) | ((with_reducible refine hJ _ _ ?_); clear hJ hKC KC J)
      (refine zFm ?_ Fq; (· exact Lq))
   ·skip
    repeat' first | (with_reducible first | refine zA ?_ | refine zB ?_ | refine zG ?_) | ((with_reducible refine zC fun KC J hJ hKC => ?_); simp (maxSteps := 9999999) only [push_cast, seval, ↓reduceIte]) | ((with_reducible refine hJ _ _ ?_); clear hJ hKC KC J)
    refine ze (γ := {d : Nat // d ≤ us.length}) (fun d => ⟨[.any, .v (.int .i64 a), .v (.int .i64 b), .ptr 0 0 0, .any, .any, .any, .v (.int .i64 c), .v (.bool (decide (zFh us a b c d.1))), .any, .any, .any, .v (.int .i64 us.length), .v (.int .i64 c), .any, .any, .any, .any, .any, .any, .any, .any, .any, .any, .any, .any, .any, .any, .v (.int .i64 us.length), .v (.int .i64 d.1), .any, .any, .any, .any, .any, .any, .any, .any, .any, .any, .any, .any, .any, .any, .any, .any, .any, .any, .any, .any, .any, .any, .any], [.ent ⟨0, none, 25, [.sl f 1 (zM ns), .sl g 1 (zL us)], .cells⟩]⟩) (fun d => us.length - d.1) ⟨0, by simp⟩ ⟨?_, Fq⟩ ?_
    ·exact Lq
    ·rintro ⟨d, hd⟩
     by_cases hld : (d : Int) < (us.length : Int)
     ·have hd' : d < us.length := by omega
      have hst : (fl us d a = true → fl us d b = true → fl us d c = true) → decide (zFh us a b c (d + 1)) = decide (zFh us a b c d) := fun h => decide_eq_decide.2 ⟨fun h2 => ⟨h2.1, fun e he => h2.2 e (by omega)⟩, fun h2 => ⟨h2.1, fun e he => by
       by_cases hed : e = d
       ·subst hed; exact h
       ·exact h2.2 e (by omega)⟩⟩
      by_cases hbad : fl us d a = true ∧ fl us d b = true ∧ fl us d c = false
      ·have e : decide (zFh us a b c (d + 1)) = false := decide_eq_false fun h => by have := h.2 d (by omega) hbad.1 hbad.2.1; rw [hbad.2.2] at this; cases this
       repeat' first | (with_reducible first | refine zA ?_ | refine zB ?_ | refine zO ?_ | refine zJ ?_ | refine zG ?_) | ((first | with_reducible refine zC fun KC J hJ hKC => ?_ | (refine' hKC _ _ _ _ _ (zD (zv _ _ _ _ _ _ ?_ ?_ ?_) rfl rfl rfl ?_ ?_); (rotate_left 9); (· exact Lq); (rotate_left 1); (iterate 3 (· exact Hq)))); simp (maxSteps := 9999999) only [push_cast, seval, ↓reduceIte, hld, hbad.1, hbad.2.1, hbad.2.2, undef, zb (i := d) (n := us.length) (by omega) (by omega)]) | ((with_reducible refine hJ _ _ ?_); clear hJ hKC KC J) | ((with_reducible refine zF ?_ ?_); · rfl)
       refine ⟨⟨d + 1, by omega⟩, by simp only; omega, ?_, Fq⟩
       simp only [e]
       exact Lq
      ·have e := hst fun h1 h2 => by
        cases h3 : fl us d c with
        | true => rfl
        | false => exact absurd ⟨h1, h2, h3⟩ hbad
       obtain ⟨v, hv⟩ : ∃ v, decide (zFh us a b c d) = v := ⟨_, rfl⟩
       rw [hv] at e ⊢
       cases hx : fl us d a
       ·skip
        repeat' first | (with_reducible first | refine zA ?_ | refine zB ?_ | refine zO ?_ | refine zJ ?_ | refine zG ?_) | ((first | with_reducible refine zC fun KC J hJ hKC => ?_ | (refine' hKC _ _ _ _ _ (zD (zv _ _ _ _ _ _ ?_ ?_ ?_) rfl rfl rfl ?_ ?_); (rotate_left 9); (· exact Lq); (rotate_left 1); (iterate 3 (· exact Hq)))); simp (maxSteps := 9999999) only [push_cast, seval, ↓reduceIte, hld, hx, undef, zb (i := d) (n := us.length) (by omega) (by omega)]) | ((with_reducible refine hJ _ _ ?_); clear hJ hKC KC J) | ((with_reducible refine zF ?_ ?_); · rfl) | ((with_reducible refine zH ?_ ?_); · rfl)
        refine ⟨⟨d + 1, by omega⟩, by simp only; omega, ?_, Fq⟩
        simp only [e]
        exact Lq
       ·cases hy : fl us d b
        ·skip
         repeat' first | (with_reducible first | refine zA ?_ | refine zB ?_ | refine zO ?_ | refine zJ ?_ | refine zG ?_) | ((first | with_reducible refine zC fun KC J hJ hKC => ?_ | (refine' hKC _ _ _ _ _ (zD (zv _ _ _ _ _ _ ?_ ?_ ?_) rfl rfl rfl ?_ ?_); (rotate_left 9); (· exact Lq); (rotate_left 1); (iterate 3 (· exact Hq)))); simp (maxSteps := 9999999) only [push_cast, seval, ↓reduceIte, hld, hx, hy, undef, zb (i := d) (n := us.length) (by omega) (by omega)]) | ((with_reducible refine hJ _ _ ?_); clear hJ hKC KC J) | ((with_reducible refine zF ?_ ?_); · rfl) | ((with_reducible refine zH ?_ ?_); · rfl)
         refine ⟨⟨d + 1, by omega⟩, by simp only; omega, ?_, Fq⟩
         simp only [e]
         exact Lq
        ·have hz : fl us d c = true := by
          cases h3 : fl us d c with
          | true => rfl
          | false => exact absurd ⟨hx, hy, h3⟩ hbad
         repeat' first | (with_reducible first | refine zA ?_ | refine zB ?_ | refine zO ?_ | refine zJ ?_ | refine zG ?_) | ((first | with_reducible refine zC fun KC J hJ hKC => ?_ | (refine' hKC _ _ _ _ _ (zD (zv _ _ _ _ _ _ ?_ ?_ ?_) rfl rfl rfl ?_ ?_); (rotate_left 9); (· exact Lq); (rotate_left 1); (iterate 3 (· exact Hq)))); simp (maxSteps := 9999999) only [push_cast, seval, ↓reduceIte, hld, hx, hy, hz, undef, zb (i := d) (n := us.length) (by omega) (by omega)]) | ((with_reducible refine hJ _ _ ?_); clear hJ hKC KC J) | ((with_reducible refine zF ?_ ?_); · rfl) | ((with_reducible refine zH ?_ ?_); · rfl)
         refine ⟨⟨d + 1, by omega⟩, by simp only; omega, ?_, Fq⟩
         simp only [e]
         exact Lq
     ·have hdn : d = us.length := by omega
      subst hdn
      by_cases hj : zFh us a b c us.length
      ·have e : decide (zFh us a b c us.length) = true := decide_eq_true hj
       rw [e]
       repeat' first | (with_reducible first | refine zA ?_ | refine zB ?_ | refine zS ?_ | refine zX ?_ | refine zg ?_ | refine zW ?_ | refine zI ?_ | refine zQ ?_) | ((with_reducible refine zC fun KC J hJ hKC => ?_); simp (maxSteps := 9999999) only [push_cast, seval, ↓reduceIte, hld]) | ((with_reducible refine hJ _ _ ?_); clear hJ hKC KC J) | ((with_reducible refine zF ?_ ?_); · rfl) | ((with_reducible refine zH ?_ ?_); · rfl)
       refine zE ?_
       simp (maxSteps := 9999999) only [push_cast, seval, ↓reduceIte, show Tryz.f132.results = #[(.tmp 6)] from rfl]
       refine zAF (congrArg (Value.int .i64) ?_)
       exact (zBt (xs := List.range us.length) (i := c) (by simp; omega) (by simpa using (zKh ho ha hb hc').1 hj) (fun j hj' hjc => by simpa using fun h => hcn j hjc ((zKh ho ha hb (by omega)).2 h))).symm
      ·have e : decide (zFh us a b c us.length) = false := decide_eq_false hj
       rw [e]
       repeat' first | (with_reducible first | refine zA ?_ | refine zB ?_ | refine zX ?_ | refine zO ?_ | refine zW ?_ | refine zJ ?_ | refine zQ ?_) | ((with_reducible refine zC fun KC J hJ hKC => ?_); simp (maxSteps := 9999999) only [push_cast, seval, ↓reduceIte, hld, zb (i := c) (n := us.length) (by omega) (by omega)]) | ((with_reducible refine hJ _ _ ?_); clear hJ hKC KC J) | ((with_reducible refine zH ?_ ?_); · rfl)
       refine ⟨⟨c + 1, by omega, fun x hx => ?_⟩, by simp only; omega, ?_, Fq⟩
       ·by_cases he : x = c
        ·subst he; exact hj
        ·exact hcn x (by omega)
       ·exact Lq
  ·skip
   repeat' first | (with_reducible first | refine zA ?_ | refine zB ?_ | refine zX ?_ | refine zW ?_ | refine zI ?_ | refine zQ ?_) | ((with_reducible refine zC fun KC J hJ hKC => ?_); simp (maxSteps := 9999999) only [push_cast, seval, ↓reduceIte, hlt]) | ((with_reducible refine hJ _ _ ?_); clear hJ hKC KC J) | ((with_reducible refine zH ?_ ?_); · rfl)
   refine zE ?_
   simp (maxSteps := 9999999) only [push_cast, seval, ↓reduceIte, show Tryz.f132.results = #[(.tmp 6)] from rfl]
   refine zAF (congrArg (Value.int .i64) ?_)
   exact (zBB (xs := List.range us.length) (fun j hj' => by have hj2 : j < us.length := (by simpa using hj'); simpa using fun h => hcn j (by omega) ((zKh ho ha hb hj2).2 h))).symm
def jmB (us : List Nat) (a b : Nat) : Bool := decide (0 ≤ zGl us a b ∧ 0 ≤ zGw us a b)
theorem zBP (f g : Bool) (ns : List ByteArray) (us : List Nat) (hs : Szs ns) (hu : U32 us) :
  Fn Tryz.prog 139 [.agg [.sl f 1 (zM ns), .sl g 1 (zL us)]] [] (.v (.int .i64 (zq ns us))) [] := by
 refine Fn.of (fn := Tryz.f139) (by kernel_rfl) rfl (by kernel_rfl) ⟨[.agg [.sl f 1 (zM ns), .sl g 1 (zL us)], .v undef, .v undef, .v undef, .v undef, .v undef, .v undef, .v undef, .v undef, .v undef, .v undef, .v undef, .v undef, .v undef, .v undef, .v undef, .v undef, .v undef, .v undef, .v undef, .v undef, .v undef, .v undef, .v undef, .v undef, .v undef, .v undef, .v undef, .v undef, .v undef, .v undef], []⟩ rfl ?_
 by_cases hm : zFV ns us = true
 ·have hl8 : us.length ≤ 8 := (zFZ hm).1.2.1
  have hlw := zHv hm
  by_cases ho : Ord us
  ·have ho' : decide (Ord us) = true := decide_eq_true ho
   have hc : zq ns us = if Lat us then 0 else 3 := by rw [zq, if_pos hm, if_pos ho]
   rw [hc]
   repeat' first | (with_reducible first | refine zA ?_ | refine zB ?_ | refine zO ?_ | refine zJ ?_ | refine zG ?_) | ((first | with_reducible refine zC fun KC J hJ hKC => ?_ | (refine' hKC _ _ _ _ _ (zD (zGQ _ _ _ _ ?_ ?_) rfl rfl rfl ?_ ?_); (rotate_left 6); (· exact Lq); (rotate_left 1); (iterate 2 (· exact Hq))) | (refine' hKC _ _ _ _ _ (zD (zLW _ _ _ _ ?_ ?_ ?_) rfl rfl rfl ?_ ?_); (rotate_left 7); (· exact Lq); (rotate_left 1); (iterate 3 (· exact Hq))) | (refine' hKC _ _ _ _ _ (zD (zLt _) rfl rfl rfl ?_ ?_); (rotate_left 1); (· exact Lq))); simp (maxSteps := 9999999) only [push_cast, seval, ↓reduceIte, hm, ho']) | ((with_reducible refine hJ _ _ ?_); clear hJ hKC KC J) | ((with_reducible refine zH ?_ ?_); · rfl)
   refine zKF ⟨[.any, .ptr 0 0 0, .ptr 1 0 0, .any, .any, .any, .any, .any, .any, .any, .any, .any, .any, .any, .any, .any, .fn 283 [.fad [.v (.int .i64 (us.length : Int))]], .any, .any, .any, .any, .any, .any, .any, .any, .any, .any, .any, .any, .any, .any], [.ent ⟨0, none, 25, [.sl f 1 (zM ns), .sl g 1 (zL us)], .cells⟩, .ent ⟨0, none, 40, [.v (.int .i64 0)], .cells⟩]⟩ (by exact Lq) Fq ?_
   refine zDl (f := 283) rfl rfl (zLS us.length (by omega)) (fun i hi => rfl) 2 rfl rfl
    (fun i => [.ent ⟨0, none, 25, [.sl f 1 (zM ns), .sl g 1 (zL us)], .cells⟩, .ent ⟨0, none, 40, [.v (.int .i64 0)], .cells⟩])
    (fun i => [.ent ⟨0, none, 25, [.sl f 1 (zM ns), .sl g 1 (zL us)], .cells⟩, .ent ⟨0, none, 40, [.v (.int .i64 3)], .cells⟩])
    rfl (fun i => ⟨rfl, rfl⟩) (fun i => ⟨rfl, rfl⟩) (fun i => ⟨rfl, rfl⟩) (fun k => jmB us (pA us.length k) (pB us.length k)) .ret .ret rfl
    (fun i => [.any, .ptr 0 0 0, .ptr 1 0 0, .v (.int .i64 (pA us.length i : Nat)), .v (.int .i64 (pB us.length i : Nat)), .any, .any, .any, .any, .any, .any, .any, .any, .any, .any, .any, .fn 283 [.fad [.v (.int .i64 (us.length : Int))]], .v (.int .i64 (pA us.length i : Nat)), .v (.int .i64 (pB us.length i : Nat)), .any, .any, .any, .any, .any, .any, .any, .any, .any, .any, .any, .any])
    (fun l' i r σ hi => ?_) (fun i => rfl) (fun l' i hi hb' => ?_) (fun hall => ?_) (fun k hk hkf hkb => ?_)
   ·skip
    repeat' first | (with_reducible first | refine zA ?_ | refine zB ?_) | ((with_reducible refine And.intro ?_ ?_); · exact Sq) | ((with_reducible refine zC fun KC J hJ hKC => ?_); simp (maxSteps := 9999999) only [push_cast, seval, ↓reduceIte]) | ((with_reducible refine hJ _ _ ?_); clear hJ hKC KC J)
    exact rfl
   ·have hpa := zPB hi
    have hpb := zPT hi
    obtain ⟨a, ha⟩ : ∃ a, pA us.length i = a := ⟨_, rfl⟩
    obtain ⟨b, hb⟩ : ∃ b, pB us.length i = b := ⟨_, rfl⟩
    simp only [ha, hb] at hpa hpb ⊢
    by_cases h1 : zGl us a b < 0
    ·skip
     repeat' first | (with_reducible first | refine zA ?_ | refine zB ?_ | refine zg ?_ | refine zI ?_ | refine zG ?_) | ((first | with_reducible refine zC fun KC J hJ hKC => ?_ | (refine' hKC _ _ _ _ _ (zD (zKP _ _ _ _ _ _ ?_ ?_ ?_ ?_) rfl rfl rfl ?_ ?_); (rotate_left 10); (· exact Lq); (rotate_left 1); (iterate 4 (· exact Hq)))); simp (maxSteps := 9999999) only [push_cast, seval, ↓reduceIte, h1, undef]) | ((with_reducible refine hJ _ _ ?_); clear hJ hKC KC J) | ((with_reducible refine zF ?_ ?_); · rfl)
     exact .inr ⟨decide_eq_false fun h => by omega, rfl, (by first | exact zP (k := 0) rfl rfl rfl | exact zP (k := 1) rfl rfl rfl | exact zP (k := 2) rfl rfl rfl | exact zP (k := 3) rfl rfl rfl | exact zP (k := 4) rfl rfl rfl | exact zP (k := 5) rfl rfl rfl | exact zP (k := 6) rfl rfl rfl | exact zP (k := 7) rfl rfl rfl | exact zP (k := 8) rfl rfl rfl)⟩
    ·by_cases h2 : zGw us a b < 0
     ·skip
      repeat' first | (with_reducible first | refine zA ?_ | refine zB ?_ | refine zg ?_ | refine zI ?_ | refine zG ?_) | ((first | with_reducible refine zC fun KC J hJ hKC => ?_ | (refine' hKC _ _ _ _ _ (zD (zKP _ _ _ _ _ _ ?_ ?_ ?_ ?_) rfl rfl rfl ?_ ?_); (rotate_left 10); (· exact Lq); (rotate_left 1); (iterate 4 (· exact Hq))) | (refine' hKC _ _ _ _ _ (zD (zNu _ _ _ _ _ _ ?_ ?_ ?_ ?_) rfl rfl rfl ?_ ?_); (rotate_left 10); (· exact Lq); (rotate_left 1); (iterate 4 (· exact Hq)))); simp (maxSteps := 9999999) only [push_cast, seval, ↓reduceIte, h1, h2]) | ((with_reducible refine hJ _ _ ?_); clear hJ hKC KC J) | ((with_reducible refine zF ?_ ?_); · rfl)
      exact .inr ⟨decide_eq_false fun h => by omega, rfl, (by first | exact zP (k := 0) rfl rfl rfl | exact zP (k := 1) rfl rfl rfl | exact zP (k := 2) rfl rfl rfl | exact zP (k := 3) rfl rfl rfl | exact zP (k := 4) rfl rfl rfl | exact zP (k := 5) rfl rfl rfl | exact zP (k := 6) rfl rfl rfl | exact zP (k := 7) rfl rfl rfl | exact zP (k := 8) rfl rfl rfl)⟩
     ·skip
      repeat' first | (with_reducible first | refine zA ?_ | refine zB ?_ | refine zO ?_ | refine zJ ?_ | refine zG ?_) | ((first | with_reducible refine zC fun KC J hJ hKC => ?_ | (refine' hKC _ _ _ _ _ (zD (zKP _ _ _ _ _ _ ?_ ?_ ?_ ?_) rfl rfl rfl ?_ ?_); (rotate_left 10); (· exact Lq); (rotate_left 1); (iterate 4 (· exact Hq))) | (refine' hKC _ _ _ _ _ (zD (zNu _ _ _ _ _ _ ?_ ?_ ?_ ?_) rfl rfl rfl ?_ ?_); (rotate_left 10); (· exact Lq); (rotate_left 1); (iterate 4 (· exact Hq)))); simp (maxSteps := 9999999) only [push_cast, seval, ↓reduceIte, h1, h2]) | ((with_reducible refine hJ _ _ ?_); clear hJ hKC KC J) | ((with_reducible refine zH ?_ ?_); · rfl)
      exact .inl ⟨decide_eq_true ⟨by omega, by omega⟩, rfl, (by first | exact zP (k := 0) rfl rfl rfl | exact zP (k := 1) rfl rfl rfl | exact zP (k := 2) rfl rfl rfl | exact zP (k := 3) rfl rfl rfl | exact zP (k := 4) rfl rfl rfl | exact zP (k := 5) rfl rfl rfl | exact zP (k := 6) rfl rfl rfl | exact zP (k := 7) rfl rfl rfl | exact zP (k := 8) rfl rfl rfl)⟩
   ·rw [if_pos (show Lat us from fun a ha b hb => of_decide_eq_true ((zEf (p := fun a b => jmB us a b = true)).1 hall a ha b hb))]
    repeat' first | (with_reducible first | refine zA ?_ | refine zB ?_ | refine zO ?_ | refine zI ?_) | ((with_reducible refine zC fun KC J hJ hKC => ?_); simp (maxSteps := 9999999) only [push_cast, seval, ↓reduceIte]) | ((with_reducible refine hJ _ _ ?_); clear hJ hKC KC J)
    refine zE ?_
    simp (maxSteps := 9999999) only [push_cast, seval, ↓reduceIte, show Tryz.f139.results = #[(.cell 2 40)] from rfl]
    exact Lq
   ·rw [if_neg (fun h : Lat us => by have := (zEf (p := fun a b => jmB us a b = true)).2 (fun a ha b hb => decide_eq_true (h a ha b hb)) k hk; rw [hkf] at this; cases this)]
    refine zE ?_
    simp (maxSteps := 9999999) only [push_cast, seval, ↓reduceIte, show Tryz.f139.results = #[(.cell 2 40)] from rfl]
    exact Lq
  ·have ho' : decide (Ord us) = false := decide_eq_false ho
   rw [show zq ns us = 2 by rw [zq, if_pos hm, if_neg ho]]
   repeat' first | (with_reducible first | refine zA ?_ | refine zB ?_ | refine zS ?_ | refine zg ?_ | refine zI ?_ | refine zG ?_) | ((first | with_reducible refine zC fun KC J hJ hKC => ?_ | (refine' hKC _ _ _ _ _ (zD (zGQ _ _ _ _ ?_ ?_) rfl rfl rfl ?_ ?_); (rotate_left 6); (· exact Lq); (rotate_left 1); (iterate 2 (· exact Hq))) | (refine' hKC _ _ _ _ _ (zD (zLW _ _ _ _ ?_ ?_ ?_) rfl rfl rfl ?_ ?_); (rotate_left 7); (· exact Lq); (rotate_left 1); (iterate 3 (· exact Hq)))); simp (maxSteps := 9999999) only [push_cast, seval, ↓reduceIte, hm, ho']) | ((with_reducible refine hJ _ _ ?_); clear hJ hKC KC J) | ((with_reducible refine zF ?_ ?_); · rfl) | ((with_reducible refine zH ?_ ?_); · rfl)
   refine zE ?_
   simp (maxSteps := 9999999) only [push_cast, seval, ↓reduceIte, show Tryz.f139.results = #[(.cell 2 40)] from rfl]
   exact zN _
 ·rw [show zq ns us = 1 from if_neg hm]
  repeat' first | (with_reducible first | refine zA ?_ | refine zB ?_ | refine zS ?_ | refine zg ?_ | refine zI ?_ | refine zG ?_) | ((first | with_reducible refine zC fun KC J hJ hKC => ?_ | (refine' hKC _ _ _ _ _ (zD (zGQ _ _ _ _ ?_ ?_) rfl rfl rfl ?_ ?_); (rotate_left 6); (· exact Lq); (rotate_left 1); (iterate 2 (· exact Hq)))); simp (maxSteps := 9999999) only [push_cast, seval, ↓reduceIte, hm]) | ((with_reducible refine hJ _ _ ?_); clear hJ hKC KC J) | ((with_reducible refine zF ?_ ?_); · rfl)
  refine zE ?_
  simp (maxSteps := 9999999) only [push_cast, seval, ↓reduceIte, show Tryz.f139.results = #[(.cell 2 40)] from rfl]
  exact zN _
theorem zOx (f g : Bool) (ns : List ByteArray) (us : List Nat) (hs : Szs ns) (hu : U32 us) :
  Fn Tryz.prog 56 [.agg [.sl f 1 (zM ns), .sl g 1 (zL us)]] [] (.v (.int .i64 (zq ns us))) [] := by
 refine Fn.of (fn := Tryz.f56) (by kernel_rfl) rfl (by kernel_rfl) ⟨[.agg [.sl f 1 (zM ns), .sl g 1 (zL us)], .v undef, .v undef, .v undef, .v undef, .v undef, .v undef, .v undef, .v undef, .v undef, .v undef, .v undef, .v undef, .v undef, .v undef, .v undef, .v undef, .v undef, .v undef, .v undef, .v undef, .v undef, .v undef, .v undef, .v undef, .v undef, .v undef, .v undef, .v undef, .v undef, .v undef, .v undef, .v undef, .v undef, .v undef, .v undef, .v undef], []⟩ rfl ?_
 by_cases hm : zFV ns us = true
 ·have hl8 : us.length ≤ 8 := (zFZ hm).1.2.1
  have hlw := zHv hm
  by_cases ho : Ord us
  ·have ho' : decide (Ord us) = true := decide_eq_true ho
   have hc : zq ns us = if Lat us then 0 else 3 := by rw [zq, if_pos hm, if_pos ho]
   rw [hc]
   repeat' first | (with_reducible first | refine zA ?_ | refine zB ?_ | refine zJ ?_ | refine zG ?_) | ((first | with_reducible refine zC fun KC J hJ hKC => ?_ | (refine' hKC _ _ _ _ _ (zD (zKW _ _ _ _ ?_ ?_) rfl rfl rfl ?_ ?_); (rotate_left 6); (· exact Lq); (rotate_left 1); (iterate 2 (· exact Hq))) | (refine' hKC _ _ _ _ _ (zD (zJX _ _ _ _ ?_ ?_) rfl rfl rfl ?_ ?_); (rotate_left 6); (· exact Lq); (rotate_left 1); (iterate 2 (· exact Hq)))); simp (maxSteps := 9999999) only [push_cast, seval, ↓reduceIte, hm, ho']) | ((with_reducible refine hJ _ _ ?_); clear hJ hKC KC J) | ((with_reducible refine zH ?_ ?_); · rfl)
   refine ze (γ := {a : Nat // a ≤ us.length ∧ ∀ x, x < a → ∀ y, y < us.length → 0 ≤ zGl us x y ∧ 0 ≤ zGw us x y}) (fun a => ⟨[.any, .ptr 0 0 0, .any, .any, .any, .any, .any, .any, .any, .any, .any, .any, .any, .v (.int .i64 us.length), .v (.int .i64 a.1), .any, .any, .any, .any, .any, .any, .any, .any, .any, .any, .any, .any, .any, .any, .any, .any, .any, .any, .any, .any, .any, .any], [.ent ⟨0, none, 25, [.sl f 1 (zM ns), .sl g 1 (zL us)], .cells⟩]⟩) (fun a => us.length - a.1) ⟨0, by simp⟩ ⟨?_, Fq⟩ ?_
   ·exact Lq
   ·rintro ⟨a, ha, han⟩
    by_cases hlt : (a : Int) < (us.length : Int)
    ·skip
     repeat' first | (with_reducible first | refine zA ?_ | refine zB ?_ | refine zJ ?_ | refine zG ?_) | ((with_reducible refine zC fun KC J hJ hKC => ?_); simp (maxSteps := 9999999) only [push_cast, seval, ↓reduceIte, hlt]) | ((with_reducible refine hJ _ _ ?_); clear hJ hKC KC J) | ((with_reducible refine zF ?_ ?_); · rfl)
     refine ze (γ := {b : Nat // b ≤ us.length ∧ ∀ y, y < b → 0 ≤ zGl us a y ∧ 0 ≤ zGw us a y}) (fun b => ⟨[.any, .ptr 0 0 0, .any, .v (.int .i64 a), .any, .any, .any, .any, .any, .any, .any, .any, .any, .v (.int .i64 us.length), .v (.int .i64 a), .any, .any, .any, .any, .v (.int .i64 us.length), .v (.int .i64 b.1), .any, .any, .any, .any, .any, .any, .any, .any, .any, .any, .any, .any, .any, .any, .any, .any], [.ent ⟨0, none, 25, [.sl f 1 (zM ns), .sl g 1 (zL us)], .cells⟩]⟩) (fun b => us.length - b.1) ⟨0, by simp⟩ ⟨?_, Fq⟩ ?_
     ·exact Lq
     ·rintro ⟨b, hb, hbn⟩
      by_cases hlb : (b : Int) < (us.length : Int)
      ·by_cases h1 : zGl us a b < 0
       ·skip
        repeat' first | (with_reducible first | refine zA ?_ | refine zB ?_ | refine zS ?_ | refine zg ?_ | refine zI ?_ | refine zJ ?_ | refine zG ?_) | ((first | with_reducible refine zC fun KC J hJ hKC => ?_ | (refine' hKC _ _ _ _ _ (zD (zIN _ _ _ _ _ _ ?_ ?_ ?_ ?_ ?_ ?_) rfl rfl rfl ?_ ?_); (rotate_left 12); (· exact Lq); (rotate_left 1); (iterate 6 (· exact Hq)))); simp (maxSteps := 9999999) only [push_cast, seval, ↓reduceIte, hlb, h1, undef]) | ((with_reducible refine hJ _ _ ?_); clear hJ hKC KC J) | ((with_reducible refine zF ?_ ?_); · rfl)
        refine zE ?_
        simp (maxSteps := 9999999) only [push_cast, seval, ↓reduceIte, show Tryz.f56.results = #[(.tmp 2)] from rfl]
        rw [if_neg (fun h : Lat us => by have := h a (by omega) b (by omega); omega)]
        exact zN _
       ·by_cases h2 : zGw us a b < 0
        ·skip
         repeat' first | (with_reducible first | refine zA ?_ | refine zB ?_ | refine zS ?_ | refine zg ?_ | refine zI ?_ | refine zJ ?_ | refine zG ?_) | ((first | with_reducible refine zC fun KC J hJ hKC => ?_ | (refine' hKC _ _ _ _ _ (zD (zIN _ _ _ _ _ _ ?_ ?_ ?_ ?_ ?_ ?_) rfl rfl rfl ?_ ?_); (rotate_left 12); (· exact Lq); (rotate_left 1); (iterate 6 (· exact Hq))) | (refine' hKC _ _ _ _ _ (zD (zKu _ _ _ _ _ _ ?_ ?_ ?_ ?_ ?_ ?_) rfl rfl rfl ?_ ?_); (rotate_left 12); (· exact Lq); (rotate_left 1); (iterate 6 (· exact Hq)))); simp (maxSteps := 9999999) only [push_cast, seval, ↓reduceIte, hlb, h1, h2]) | ((with_reducible refine hJ _ _ ?_); clear hJ hKC KC J) | ((with_reducible refine zF ?_ ?_); · rfl)
         refine zE ?_
         simp (maxSteps := 9999999) only [push_cast, seval, ↓reduceIte, show Tryz.f56.results = #[(.tmp 2)] from rfl]
         rw [if_neg (fun h : Lat us => by have := h a (by omega) b (by omega); omega)]
         exact zN _
        ·skip
         repeat' first | (with_reducible first | refine zA ?_ | refine zB ?_ | refine zO ?_ | refine zJ ?_ | refine zG ?_) | ((first | with_reducible refine zC fun KC J hJ hKC => ?_ | (refine' hKC _ _ _ _ _ (zD (zIN _ _ _ _ _ _ ?_ ?_ ?_ ?_ ?_ ?_) rfl rfl rfl ?_ ?_); (rotate_left 12); (· exact Lq); (rotate_left 1); (iterate 6 (· exact Hq))) | (refine' hKC _ _ _ _ _ (zD (zKu _ _ _ _ _ _ ?_ ?_ ?_ ?_ ?_ ?_) rfl rfl rfl ?_ ?_); (rotate_left 12); (· exact Lq); (rotate_left 1); (iterate 6 (· exact Hq)))); simp (maxSteps := 9999999) only [push_cast, seval, ↓reduceIte, hlb, h1, h2, zb (i := b) (n := us.length) (by omega) (by omega)]) | ((with_reducible refine hJ _ _ ?_); clear hJ hKC KC J) | ((with_reducible refine zF ?_ ?_); · rfl) | ((with_reducible refine zH ?_ ?_); · rfl)
         refine ⟨⟨b + 1, by omega, fun y hy => ?_⟩, by simp only; omega, ?_, Fq⟩
         ·by_cases he : y = b
          ·subst he; exact ⟨by omega, by omega⟩
          ·exact hbn y (by omega)
         ·exact Lq
      ·skip
       repeat' first | (with_reducible first | refine zA ?_ | refine zB ?_ | refine zX ?_ | refine zO ?_ | refine zW ?_ | refine zQ ?_) | ((with_reducible refine zC fun KC J hJ hKC => ?_); simp (maxSteps := 9999999) only [push_cast, seval, ↓reduceIte, hlb, zb (i := a) (n := us.length) (by omega) (by omega)]) | ((with_reducible refine hJ _ _ ?_); clear hJ hKC KC J) | ((with_reducible refine zH ?_ ?_); · rfl)
       refine ⟨⟨a + 1, by omega, fun x hx y hy => ?_⟩, by simp only; omega, ?_, Fq⟩
       ·by_cases he : x = a
        ·subst he; exact hbn y (by omega)
        ·exact han x (by omega) y hy
       ·exact Lq
    ·skip
     repeat' first | (with_reducible first | refine zA ?_ | refine zB ?_ | refine zX ?_ | refine zW ?_ | refine zI ?_ | refine zQ ?_) | ((with_reducible refine zC fun KC J hJ hKC => ?_); simp (maxSteps := 9999999) only [push_cast, seval, ↓reduceIte, hlt]) | ((with_reducible refine hJ _ _ ?_); clear hJ hKC KC J) | ((with_reducible refine zH ?_ ?_); · rfl)
     refine zE ?_
     simp (maxSteps := 9999999) only [push_cast, seval, ↓reduceIte, show Tryz.f56.results = #[(.tmp 2)] from rfl]
     rw [if_pos (show Lat us from fun x hx y hy => han x (by omega) y hy)]
     exact zN _
  ·have ho' : decide (Ord us) = false := decide_eq_false ho
   rw [show zq ns us = 2 by rw [zq, if_pos hm, if_neg ho]]
   repeat' first | (with_reducible first | refine zA ?_ | refine zB ?_ | refine zS ?_ | refine zI ?_ | refine zJ ?_) | ((first | with_reducible refine zC fun KC J hJ hKC => ?_ | (refine' hKC _ _ _ _ _ (zD (zKW _ _ _ _ ?_ ?_) rfl rfl rfl ?_ ?_); (rotate_left 6); (· exact Lq); (rotate_left 1); (iterate 2 (· exact Hq))) | (refine' hKC _ _ _ _ _ (zD (zJX _ _ _ _ ?_ ?_) rfl rfl rfl ?_ ?_); (rotate_left 6); (· exact Lq); (rotate_left 1); (iterate 2 (· exact Hq)))); simp (maxSteps := 9999999) only [push_cast, seval, ↓reduceIte, hm, ho']) | ((with_reducible refine hJ _ _ ?_); clear hJ hKC KC J) | ((with_reducible refine zF ?_ ?_); · rfl) | ((with_reducible refine zH ?_ ?_); · rfl)
   refine zE ?_
   simp (maxSteps := 9999999) only [push_cast, seval, ↓reduceIte, show Tryz.f56.results = #[(.tmp 2)] from rfl]
   exact zN _
 ·rw [show zq ns us = 1 from if_neg hm]
  repeat' first | (with_reducible first | refine zA ?_ | refine zB ?_ | refine zS ?_ | refine zI ?_) | ((first | with_reducible refine zC fun KC J hJ hKC => ?_ | (refine' hKC _ _ _ _ _ (zD (zKW _ _ _ _ ?_ ?_) rfl rfl rfl ?_ ?_); (rotate_left 6); (· exact Lq); (rotate_left 1); (iterate 2 (· exact Hq)))); simp (maxSteps := 9999999) only [push_cast, seval, ↓reduceIte, hm]) | ((with_reducible refine hJ _ _ ?_); clear hJ hKC KC J) | ((with_reducible refine zF ?_ ?_); · rfl)
  refine zE ?_
  simp (maxSteps := 9999999) only [push_cast, seval, ↓reduceIte, show Tryz.f56.results = #[(.tmp 2)] from rfl]
  exact zN _
def zh (l : List (Int × Int × Int)) : List (List D) := l.map fun e => [.v (.int .i64 e.1), .v (.int .i64 e.2.1), .v (.int .i64 e.2.2)]
def zHy (l : List (Int × Int × Int)) : List D := (zh l).flatten
@[push_cast] theorem zRk (l : List (Int × Int × Int)) : (zh l).length = l.length := by simp [zh]
@[push_cast] theorem zSs (l : List (Int × Int × Int)) (a b : Nat) : sub (zh l) a b = zh ((l.take b).drop a) := by simp [zh, zDv]
theorem zAp {l : List (Int × Int × Int)} {n : Nat} {x : Int × Int × Int} (h : l[n]? = some x) : zEt (zh l) n = [.v (.int .i64 x.1), .v (.int .i64 x.2.1), .v (.int .i64 x.2.2)] := by unfold zh; exact zBe _ _ _ _ h
def zc (l : List (Bool × Int × Int)) : List (List D) := l.map fun e => [.v (.bool e.1), .v (.int .i64 e.2.1), .v (.int .i64 e.2.2)]
def zHh (l : List (Bool × Int × Int)) : List D := (zc l).flatten
@[push_cast] theorem zRi (l : List (Bool × Int × Int)) : (zc l).length = l.length := by simp [zc]
@[push_cast] theorem zSv (l : List (Bool × Int × Int)) (a b : Nat) : sub (zc l) a b = zc ((l.take b).drop a) := by simp [zc, zDv]
theorem zAJ {l : List (Bool × Int × Int)} {n : Nat} {x : Bool × Int × Int} (h : l[n]? = some x) : zEt (zc l) n = [.v (.bool x.1), .v (.int .i64 x.2.1), .v (.int .i64 x.2.2)] := by unfold zc; exact zBe _ _ _ _ h
structure Sta where
 v : Int
 l : Int
 code : List (Int × Int × Int)
 mem : List (Int × Int)
 stack : List (Bool × Int × Int)
 out : List (Int × Int)
@[push_cast] theorem zRq (l : List (Int × Int × Int)) : zAT (zHy l) = true := by
 induction l with
 | nil => rfl
 | cons a l ih => simpa [zHy, zh, zAT, frz, frz0] using ih
@[push_cast] theorem zSk (k g sz : Nat) (c : List D) (l : List (Int × Int × Int)) : (zHy l).map (fr1 k g sz c) = zHy l := by
 induction l with
 | nil => rfl
 | cons a l ih => simpa [zHy, zh, fr1, fr0] using ih
@[push_cast] theorem zSc (l : List (Bool × Int × Int)) : zAT (zHh l) = true := by
 induction l with
 | nil => rfl
 | cons a l ih => simpa [zHh, zc, zAT, frz, frz0] using ih
@[push_cast] theorem zSm (k g sz : Nat) (c : List D) (l : List (Bool × Int × Int)) : (zHh l).map (fr1 k g sz c) = zHh l := by
 induction l with
 | nil => rfl
 | cons a l ih => simpa [zHh, zc, fr1, fr0] using ih
def eR (k n : Nat) : D := if n = 0 then .v (.slice none 0 0) else .ref k (n - 1) n
theorem zJJ (f : Bool) (xs : List Int) (cf : Nat) (caps : List D) (p : Int → Bool) (hb : xs.length ≤ 9223372036854775807) (hc : zk caps = true)
  (hp : ∀ x ∈ xs, Fn Tryz.prog cf (.v (.int .i64 x) :: caps) [] (.v (.bool (p x))) []) : Fn Tryz.prog 271 [.sl f 1 (zK xs), .fn cf caps] [] (.v (.int .i64 (zDQ p xs))) [] := by
 refine Fn.of (fn := Tryz.f271) (by kernel_rfl) rfl (by kernel_rfl) ⟨[.sl f 1 (zK xs), .fn cf caps, .v undef, .v undef, .v undef, .v undef, .v undef, .v undef, .v undef, .v undef, .v undef, .v undef, .v undef, .v undef, .v undef, .v undef, .v undef, .v undef, .v undef], []⟩ rfl ?_
 repeat' first | (with_reducible first | refine zA ?_ | refine zB ?_ | refine zG ?_) | ((with_reducible refine zC fun KC J hJ hKC => ?_); simp (maxSteps := 9999999) only [push_cast, seval, ↓reduceIte]) | ((with_reducible refine hJ _ _ ?_); clear hJ hKC KC J)
 refine ze (γ := {i : Nat // i ≤ xs.length ∧ ∀ (j : Nat) (hj : j < xs.length), j < i → p xs[j] = false}) (fun i => ⟨[.sl f 1 (zK xs), .fn cf caps, .any, .any, .any, .any, .any, .v (.int .i64 xs.length), .v (.int .i64 i.1), .any, .any, .any, .any, .any, .any, .any, .any, .any, .any], []⟩) (fun i => xs.length - i.1) ⟨0, by simp⟩ ⟨?_, Fq⟩ ?_
 ·exact Lq
 ·rintro ⟨i, hi, hn⟩
  by_cases hlt : (i : Int) < (xs.length : Int)
  ·have hx : xs[i]? = some xs[i] := List.getElem?_eq_getElem (by omega)
   have hfn := hp xs[i] (List.getElem_mem (by omega))
   repeat' first | (with_reducible first | refine zA ?_ | refine zB ?_ | refine zS ?_ | refine zO ?_ | refine zg ?_ | refine zI ?_ | refine zJ ?_ | refine zG ?_) | ((with_reducible refine And.intro ?_ ?_); · exact Sq) | ((first | with_reducible refine zC fun KC J hJ hKC => ?_ | (refine hKC _ _ _ _ _ (zD (hfn) rfl rfl rfl ?_ ?_); (· exact Lq))); simp (maxSteps := 9999999) only [push_cast, seval, ↓reduceIte, hlt, zo hx, zb (i := i) (n := xs.length) (by omega) hb]) | ((with_reducible refine hJ _ _ ?_); clear hJ hKC KC J) | ((with_reducible refine zF ?_ ?_); · rfl) | (refine zs rfl (fun h => ?_) (fun h => ?_) <;> try simp only [decide_eq_true_eq, decide_eq_false_iff_not, Bool.not_eq_true', Bool.not_eq_false', beq_iff_eq, bne_iff_ne, ne_eq, Bool.not_eq_true, Bool.or_eq_true, Bool.and_eq_true, Bool.or_eq_false_iff, Bool.and_eq_false_imp, beq_eq_false_iff_ne, bne_eq_false_iff_eq] at h)
   ·refine zE ?_
    simp (maxSteps := 9999999) only [push_cast, seval, ↓reduceIte, show Tryz.f271.results = #[(.tmp 4)] from rfl]
    exact zAF (by rw [zBt (by omega) h hn])
   ·refine ⟨⟨i + 1, by omega, fun j hj hji => ?_⟩, by simp only; omega, ?_, Fq⟩
    ·by_cases he : j = i
     ·subst he; exact h
     ·exact hn j hj (by omega)
    ·exact Lq
  ·skip
   repeat' first | (with_reducible first | refine zA ?_ | refine zB ?_ | refine zX ?_ | refine zW ?_ | refine zI ?_ | refine zQ ?_) | ((with_reducible refine zC fun KC J hJ hKC => ?_); simp (maxSteps := 9999999) only [push_cast, seval, ↓reduceIte, hlt]) | ((with_reducible refine hJ _ _ ?_); clear hJ hKC KC J) | ((with_reducible refine zH ?_ ?_); · rfl)
   refine zE ?_
   simp (maxSteps := 9999999) only [push_cast, seval, ↓reduceIte, show Tryz.f271.results = #[(.tmp 4)] from rfl]
   exact zAF (by rw [zBB (fun j hj => hn j hj (by omega))])
theorem zCT (f : Bool) (xs : List Int) (cf : Nat) (caps : List D) (p : Int → Bool) (hb : xs.length ≤ 9223372036854775807) (hc : zk caps = true)
  (hp : ∀ x ∈ xs, Fn Tryz.prog cf (.v (.int .i64 x) :: caps) [] (.v (.bool (p x))) []) : Fn Tryz.prog 208 [.sl f 1 (zK xs), .fn cf caps] [] (.v (.bool (xs.any p))) [] := by
 have hfn := zJJ f xs cf caps p hb hc hp
 refine Fn.of (fn := Tryz.f208) (by kernel_rfl) rfl (by kernel_rfl) ⟨[.sl f 1 (zK xs), .fn cf caps, .v undef, .v undef, .v undef, .v undef, .v undef, .v undef, .v undef], []⟩ rfl ?_
 repeat' first | (with_reducible first | refine zA ?_ | refine zB ?_ | refine zI ?_) | ((first | with_reducible refine zC fun KC J hJ hKC => ?_ | (refine hKC _ _ _ _ _ (zD (hfn) rfl rfl rfl ?_ ?_); (· exact Lq))); simp (maxSteps := 9999999) only [push_cast, seval, ↓reduceIte, zDd]) | ((with_reducible refine hJ _ _ ?_); clear hJ hKC KC J)
 refine zE ?_
 simp (maxSteps := 9999999) only [push_cast, seval, ↓reduceIte, show Tryz.f208.results = #[(.tmp 4)] from rfl]
 exact zN _
def zn (n : Nat) (a : Int) : Bool := decide (a < 0) || decide ((n : Int) ≤ a)
theorem zAP {n : Nat} {a : Int} (h : zn n a = false) : ∃ b : Nat, a = (b : Int) ∧ b < n := by
 simp only [zn, Bool.or_eq_false_iff, decide_eq_false_iff_not] at h
 exact ⟨a.toNat, by omega, by omega⟩
theorem zNN (f g : Bool) (ns : List ByteArray) (us : List Nat) (a : Int) : Fn Tryz.prog 209 [.v (.int .i64 a), .fad [.sl f 1 (zM ns), .sl g 1 (zL us)]] [] (.v (.bool (zn us.length a))) [] := by
 refine Fn.of (fn := Tryz.f209) (by kernel_rfl) rfl (by kernel_rfl) ⟨[.v (.int .i64 a), .fad [.sl f 1 (zM ns), .sl g 1 (zL us)], .v undef, .v undef, .v undef, .v undef, .v undef, .v undef, .v undef, .v undef, .v undef, .v undef, .v undef], []⟩ rfl ?_
 obtain ⟨x, hx⟩ : ∃ x, decide (a < 0) = x := ⟨_, rfl⟩
 rw [zn, hx]
 cases x
 all_goals
  repeat' first | (with_reducible first | refine zA ?_ | refine zB ?_ | refine zI ?_) | ((with_reducible refine zC fun KC J hJ hKC => ?_); simp (maxSteps := 9999999) only [push_cast, seval, ↓reduceIte, hx, undef]) | ((with_reducible refine hJ _ _ ?_); clear hJ hKC KC J)
  refine zE ?_
  simp (maxSteps := 9999999) only [push_cast, seval, ↓reduceIte, show Tryz.f209.results = #[(.tmp 3)] from rfl]
  exact zN _
theorem zOc (f g : Bool) (ns : List ByteArray) (us : List Nat) (a : Int) : Fn Tryz.prog 220 [.v (.int .i64 a), .fad [.sl f 1 (zM ns), .sl g 1 (zL us)]] [] (.v (.bool (zn us.length a))) [] := by
 refine Fn.of (fn := Tryz.f220) (by kernel_rfl) rfl (by kernel_rfl) ⟨[.v (.int .i64 a), .fad [.sl f 1 (zM ns), .sl g 1 (zL us)], .v undef, .v undef, .v undef, .v undef, .v undef, .v undef, .v undef, .v undef, .v undef, .v undef, .v undef], []⟩ rfl ?_
 obtain ⟨x, hx⟩ : ∃ x, decide (a < 0) = x := ⟨_, rfl⟩
 rw [zn, hx]
 cases x
 all_goals
  repeat' first | (with_reducible first | refine zA ?_ | refine zB ?_ | refine zI ?_) | ((with_reducible refine zC fun KC J hJ hKC => ?_); simp (maxSteps := 9999999) only [push_cast, seval, ↓reduceIte, hx, undef]) | ((with_reducible refine hJ _ _ ?_); clear hJ hKC KC J)
  refine zE ?_
  simp (maxSteps := 9999999) only [push_cast, seval, ↓reduceIte, show Tryz.f220.results = #[(.tmp 3)] from rfl]
  exact zN _
def zEB (ns : List ByteArray) (us : List Nat) (L : List Int) : Int := if zq ns us = 0 then if L.any (zn us.length) = true then 9 else 0 else zq ns us
theorem zRz (f g h : Bool) (ns : List ByteArray) (us : List Nat) (L : List Int) (hs : Szs ns) (hu : U32 us) (hl : L.length ≤ 1000) :
  Fn Tryz.prog 108 [.agg [.sl f 1 (zM ns), .sl g 1 (zL us)], .sl h 1 (zK L)] [] (.v (.int .i64 (zEB ns us L))) [] := by
 have hcf := zCT h L 209 [.fad [.sl f 1 (zM ns), .sl g 1 (zL us)]] (zn us.length) (by omega) rfl (fun x _ => zNN f g ns us x)
 refine Fn.of (fn := Tryz.f108) (by kernel_rfl) rfl (by kernel_rfl) ⟨[.agg [.sl f 1 (zM ns), .sl g 1 (zL us)], .sl h 1 (zK L), .v undef, .v undef, .v undef, .v undef, .v undef, .v undef, .v undef, .v undef, .v undef, .v undef, .v undef, .v undef], []⟩ rfl ?_
 by_cases hc : zq ns us = 0
 ·obtain ⟨x, hx⟩ : ∃ x, L.any (zn us.length) = x := ⟨_, rfl⟩
  rw [zEB, if_pos hc, hx]
  cases x
  all_goals
   repeat' first | (refine zV 4 0 rfl (by (simp (maxSteps := 9999999) only [push_cast, seval, ↓reduceIte]) <;> rfl) ?_; simp (maxSteps := 9999999) only [push_cast, seval, ↓reduceIte, zAH, zd, fr3, fr2, fr1, fr0, zl, zj, hc, hx]) | (with_reducible first | refine zA ?_ | refine zB ?_ | refine zS ?_ | refine zI ?_ | refine zJ ?_) | ((first | with_reducible refine zC fun KC J hJ hKC => ?_ | (refine' hKC _ _ _ _ _ (zD (zBP _ _ _ _ ?_ ?_) rfl rfl rfl ?_ ?_); (rotate_left 6); (· exact Lq); (rotate_left 1); (iterate 2 (· exact Hq))) | (refine hKC _ _ _ _ _ (zD (hcf) rfl rfl rfl ?_ ?_); (· exact Lq))); simp (maxSteps := 9999999) only [push_cast, seval, ↓reduceIte, hc, hx]) | ((with_reducible refine hJ _ _ ?_); clear hJ hKC KC J) | ((with_reducible refine zF ?_ ?_); · rfl) | ((with_reducible refine zH ?_ ?_); · rfl)
   refine zE ?_
   simp (maxSteps := 9999999) only [push_cast, seval, ↓reduceIte, show Tryz.f108.results = #[(.tmp 4)] from rfl]
   exact Lq
 ·have hc' : (zq ns us != 0) = true := by simpa using hc
  rw [zEB, if_neg hc]
  repeat' first | (with_reducible first | refine zA ?_ | refine zB ?_ | refine zS ?_ | refine zI ?_) | ((first | with_reducible refine zC fun KC J hJ hKC => ?_ | (refine' hKC _ _ _ _ _ (zD (zBP _ _ _ _ ?_ ?_) rfl rfl rfl ?_ ?_); (rotate_left 6); (· exact Lq); (rotate_left 1); (iterate 2 (· exact Hq)))); simp (maxSteps := 9999999) only [push_cast, seval, ↓reduceIte, hc']) | ((with_reducible refine hJ _ _ ?_); clear hJ hKC KC J) | ((with_reducible refine zF ?_ ?_); · rfl)
  refine zE ?_
  simp (maxSteps := 9999999) only [push_cast, seval, ↓reduceIte, show Tryz.f108.results = #[(.tmp 4)] from rfl]
  exact Lq
theorem zPd (f g h : Bool) (ns : List ByteArray) (us : List Nat) (L : List Int) (hs : Szs ns) (hu : U32 us) (hl : L.length ≤ 1000) :
  Fn Tryz.prog 115 [.agg [.sl f 1 (zM ns), .sl g 1 (zL us)], .sl h 1 (zK L)] [] (.v (.int .i64 (zEB ns us L))) [] := by
 have hcf := zCT h L 220 [.fad [.sl f 1 (zM ns), .sl g 1 (zL us)]] (zn us.length) (by omega) rfl (fun x _ => zOc f g ns us x)
 refine Fn.of (fn := Tryz.f115) (by kernel_rfl) rfl (by kernel_rfl) ⟨[.agg [.sl f 1 (zM ns), .sl g 1 (zL us)], .sl h 1 (zK L), .v undef, .v undef, .v undef, .v undef, .v undef, .v undef, .v undef, .v undef, .v undef, .v undef, .v undef, .v undef], []⟩ rfl ?_
 by_cases hc : zq ns us = 0
 ·obtain ⟨x, hx⟩ : ∃ x, L.any (zn us.length) = x := ⟨_, rfl⟩
  rw [zEB, if_pos hc, hx]
  cases x
  all_goals
   repeat' first | (refine zV 4 0 rfl (by (simp (maxSteps := 9999999) only [push_cast, seval, ↓reduceIte]) <;> rfl) ?_; simp (maxSteps := 9999999) only [push_cast, seval, ↓reduceIte, zAH, zd, fr3, fr2, fr1, fr0, zl, zj, hc, hx]) | (with_reducible first | refine zA ?_ | refine zB ?_ | refine zS ?_ | refine zI ?_ | refine zJ ?_) | ((first | with_reducible refine zC fun KC J hJ hKC => ?_ | (refine' hKC _ _ _ _ _ (zD (zBP _ _ _ _ ?_ ?_) rfl rfl rfl ?_ ?_); (rotate_left 6); (· exact Lq); (rotate_left 1); (iterate 2 (· exact Hq))) | (refine hKC _ _ _ _ _ (zD (hcf) rfl rfl rfl ?_ ?_); (· exact Lq))); simp (maxSteps := 9999999) only [push_cast, seval, ↓reduceIte, hc, hx]) | ((with_reducible refine hJ _ _ ?_); clear hJ hKC KC J) | ((with_reducible refine zF ?_ ?_); · rfl) | ((with_reducible refine zH ?_ ?_); · rfl)
   refine zE ?_
   simp (maxSteps := 9999999) only [push_cast, seval, ↓reduceIte, show Tryz.f115.results = #[(.tmp 4)] from rfl]
   exact Lq
 ·have hc' : (zq ns us != 0) = true := by simpa using hc
  rw [zEB, if_neg hc]
  repeat' first | (with_reducible first | refine zA ?_ | refine zB ?_ | refine zS ?_ | refine zI ?_) | ((first | with_reducible refine zC fun KC J hJ hKC => ?_ | (refine' hKC _ _ _ _ _ (zD (zBP _ _ _ _ ?_ ?_) rfl rfl rfl ?_ ?_); (rotate_left 6); (· exact Lq); (rotate_left 1); (iterate 2 (· exact Hq)))); simp (maxSteps := 9999999) only [push_cast, seval, ↓reduceIte, hc']) | ((with_reducible refine hJ _ _ ?_); clear hJ hKC KC J) | ((with_reducible refine zF ?_ ?_); · rfl)
  refine zE ?_
  simp (maxSteps := 9999999) only [push_cast, seval, ↓reduceIte, show Tryz.f115.results = #[(.tmp 4)] from rfl]
  exact Lq
theorem zJh (f g : Bool) (ns : List ByteArray) (us : List Nat) (a b : Nat) (hs : Szs ns) (hu : U32 us) (hc : zq ns us = 0) (ha : a < us.length) (hb : b < us.length) :
  Fn Tryz.prog 217 [.agg [.sl f 1 (zM ns), .sl g 1 (zL us)], .v (.int .i64 (a : Int)), .v (.int .i64 (b : Int))] [] (.tup [.v (.bool (fl us a b)), .v (.int .i64 0)]) [] := by
 have hm : zEB ns us [(a : Int), (b : Int)] = 0 := by
  rw [zEB, if_pos hc, if_neg]
  simp [zn]
  omega
 have hth := zPd f g true ns us [(a : Int), (b : Int)] hs hu (by simp)
 rw [hm] at hth
 refine Fn.of (fn := Tryz.f217) (by kernel_rfl) rfl (by kernel_rfl) ⟨[.agg [.sl f 1 (zM ns), .sl g 1 (zL us)], .v (.int .i64 (a : Int)), .v (.int .i64 (b : Int)), .v undef, .v undef, .v undef, .v undef, .v undef, .v undef, .v undef, .v undef, .v undef, .v undef, .v undef, .v undef, .v undef, .v undef, .v undef, .v undef, .v undef, .v undef], []⟩ rfl ?_
 repeat' first | (with_reducible first | refine zA ?_ | refine zB ?_ | refine zI ?_ | refine zJ ?_) | ((first | with_reducible refine zC fun KC J hJ hKC => ?_ | (refine' hKC _ _ _ _ _ (zD (zCZ _ _ _ _ _ _ ?_ ?_) rfl rfl rfl ?_ ?_); (rotate_left 8); (· exact Lq); (rotate_left 1); (iterate 2 (· exact Hq))) | (refine hKC _ _ _ _ _ (zD (hth) rfl rfl rfl ?_ ?_); (· exact Lq))); simp (maxSteps := 9999999) only [push_cast, seval, ↓reduceIte]) | ((with_reducible refine hJ _ _ ?_); clear hJ hKC KC J) | ((with_reducible refine zH ?_ ?_); · rfl)
 refine zE ?_
 simp (maxSteps := 9999999) only [push_cast, seval, ↓reduceIte, show Tryz.f217.results = #[(.tmp 6), (.tmp 7)] from rfl]
 exact Lq
theorem zAy (f g : Bool) (ns : List ByteArray) (us : List Nat) (a o : Nat) (hs : Szs ns) (hu : U32 us) (hc : zq ns us = 0) (ha : a < us.length) (ho : o < us.length) :
  Fn Tryz.prog 112 [.agg [.sl f 1 (zM ns), .sl g 1 (zL us), .v (.int .i64 (o : Int))], .v (.int .i64 (a : Int))] [] (.v (.bool (fl us a o))) [] := by
 refine Fn.of (fn := Tryz.f112) (by kernel_rfl) rfl (by kernel_rfl) ⟨[.agg [.sl f 1 (zM ns), .sl g 1 (zL us), .v (.int .i64 (o : Int))], .v (.int .i64 (a : Int)), .v undef, .v undef, .v undef, .v undef, .v undef, .v undef, .v undef, .v undef, .v undef, .v undef, .v undef, .v undef, .v undef, .v undef, .v undef], []⟩ rfl ?_
 repeat' first | (with_reducible first | refine zA ?_ | refine zB ?_ | refine zI ?_) | ((first | with_reducible refine zC fun KC J hJ hKC => ?_ | (refine' hKC _ _ _ _ _ (zD (zJh _ _ _ _ _ _ ?_ ?_ ?_ ?_ ?_) rfl rfl rfl ?_ ?_); (rotate_left 11); (· exact Lq); (rotate_left 1); (iterate 5 (· exact Hq)))); simp (maxSteps := 9999999) only [push_cast, seval, ↓reduceIte]) | ((with_reducible refine hJ _ _ ?_); clear hJ hKC KC J)
 refine zE ?_
 simp (maxSteps := 9999999) only [push_cast, seval, ↓reduceIte, show Tryz.f112.results = #[(.tmp 4)] from rfl]
 exact zN _
def zY (l : List Int) : List D := l.map fun x => .v (.int .i64 x)
theorem zZ (l : List Int) : (zY l).length = l.length := by simp [zY]
theorem zAL (m : Nat → Option Nat) (l : List Int) : (zY l).map (ren m) = zY l := by simp [zY, ren, ren2, ren1, ren0]
@[push_cast] theorem zOd (l : List Int) : zAT (zY l) = true := by induction l with | nil => rfl | cons a l ih => simpa [zY, zAT, frz, frz0] using ih
@[push_cast] theorem zSu (k g sz : Nat) (c : List D) (l : List Int) : (zY l).map (fr1 k g sz c) = zY l := by simp [zY, fr1, fr0]
theorem zBn (l : List Int) : zBF 1 l.length (zY l) = zK l := zGg (fun x : Int => (.v (.int .i64 x) : D)) l
theorem zAB (l m : List Int) : zY (l ++ m) = zY l ++ zY m := by simp [zY]
theorem zRG (f g : Bool) (ns : List ByteArray) (us : List Nat) (L : List Int) (ge n : Nat) (hn : L.length = n) (hs : Szs ns) (hu : U32 us) (hl : L.length ≤ 1000) :
  Fn Tryz.prog 108 [.agg [.sl f 1 (zM ns), .sl g 1 (zL us)], .ref 0 ge n] [.ent ⟨ge, some 1, 3, zY L, .cells⟩] (.v (.int .i64 (zEB ns us L))) [.dead] := by
 have hcf := zCT false L 209 [.fad [.sl f 1 (zM ns), .sl g 1 (zL us)]] (zn us.length) (by omega) rfl (fun x _ => zNN f g ns us x)
 have hbm : Nat.beq ge ge = true := Nat.beq_refl ge
 have hlC : (zY L).length = n := by rw [zZ, hn]
 have hcI : zBF 1 n (zY L) = zK L := by rw [← hn]; exact zBn L
 refine Fn.of (fn := Tryz.f108) (by kernel_rfl) rfl (by kernel_rfl) ⟨[.agg [.sl f 1 (zM ns), .sl g 1 (zL us)], .ref 0 ge n, .v undef, .v undef, .v undef, .v undef, .v undef, .v undef, .v undef, .v undef, .v undef, .v undef, .v undef, .v undef], [.ent ⟨ge, some 1, 3, zY L, .cells⟩]⟩ rfl ?_
 refine zt 0 rfl (by simp (maxSteps := 9999999) only [push_cast, seval, ↓reduceIte]) ?_
 simp (maxSteps := 9999999) only [push_cast, seval, ↓reduceIte, zAH, zd, fr3, fr2, fr1, fr0, zl, zj, hbm, hlC, hcI]
 by_cases hc : zq ns us = 0
 ·obtain ⟨x, hx⟩ : ∃ x, L.any (zn us.length) = x := ⟨_, rfl⟩
  rw [zEB, if_pos hc, hx]
  cases x
  all_goals
   repeat' first | (refine zV 4 1 rfl (by (simp (maxSteps := 9999999) only [push_cast, seval, ↓reduceIte]) <;> rfl) ?_; simp (maxSteps := 9999999) only [push_cast, seval, ↓reduceIte, zAH, zd, fr3, fr2, fr1, fr0, zl, zj, hc, hx]) | (with_reducible first | refine zA ?_ | refine zB ?_ | refine zS ?_ | refine zI ?_ | refine zJ ?_) | ((first | with_reducible refine zC fun KC J hJ hKC => ?_ | (refine' hKC _ _ _ _ _ (zD (zBP _ _ _ _ ?_ ?_) rfl rfl rfl ?_ ?_); (rotate_left 6); (· exact Lq); (rotate_left 1); (iterate 2 (· exact Hq))) | (refine hKC _ _ _ _ _ (zD (hcf) rfl rfl rfl ?_ ?_); (· exact Lq))); simp (maxSteps := 9999999) only [push_cast, seval, ↓reduceIte, hc, hx]) | ((with_reducible refine hJ _ _ ?_); clear hJ hKC KC J) | ((with_reducible refine zF ?_ ?_); · rfl) | ((with_reducible refine zH ?_ ?_); · rfl)
   refine zDa ?_
   simp (maxSteps := 9999999) only [push_cast, seval, ↓reduceIte, show Tryz.f108.results = #[(.tmp 4)] from rfl]
   exact ⟨rfl, zN _⟩
 ·have hc' : (zq ns us != 0) = true := by simpa using hc
  rw [zEB, if_neg hc]
  repeat' first | (with_reducible first | refine zA ?_ | refine zB ?_ | refine zS ?_ | refine zI ?_) | ((first | with_reducible refine zC fun KC J hJ hKC => ?_ | (refine' hKC _ _ _ _ _ (zD (zBP _ _ _ _ ?_ ?_) rfl rfl rfl ?_ ?_); (rotate_left 6); (· exact Lq); (rotate_left 1); (iterate 2 (· exact Hq)))); simp (maxSteps := 9999999) only [push_cast, seval, ↓reduceIte, hc']) | ((with_reducible refine hJ _ _ ?_); clear hJ hKC KC J) | ((with_reducible refine zF ?_ ?_); · rfl)
  refine zDa ?_
  simp (maxSteps := 9999999) only [push_cast, seval, ↓reduceIte, show Tryz.f108.results = #[(.tmp 4)] from rfl]
  exact ⟨rfl, zN _⟩
def mvK (x y : Nat) : Nat → Option Nat := fun k => match Nat.beq k x with
 | true => some y
 | false => some k
def zBG (x y : Nat) (st : St) : St := ⟨st.fr.map (ren (mvK x y)), ((st.σ.map (zT (mvK x y))).set y (zT (mvK x y) (zBH st.σ x))).set x .dead⟩
theorem zTD (x y : Nat) : mvK x y x = some y := by simp [mvK]
theorem zSS {x y k : Nat} (h : k ≠ x) : mvK x y k = some k := by
 have : Nat.beq k x = false := by
  cases hb : Nat.beq k x with
  | false => rfl
  | true => exact absurd (Nat.eq_of_beq_eq_true hb) h
 simp [mvK, this]
theorem Rel.moveK {B : Base} {st : St} {a : Act} {w : World} {x y : Nat} {e : Ent} (h : Rel B st a w) (hx : zBH st.σ x = .ent e) (hy : zBH st.σ y = .free) : Rel B (zBG x y st) a w := by
 obtain ⟨ρ, hp, ⟨hl, hr⟩, hm⟩ := h
 have hx' := zCe hx
 have hy' := zBj hy
 have hxy : x ≠ y := by rintro rfl; rw [hx'] at hy'; cases hy'
 have hxl := (List.getElem?_eq_some_iff.1 hx').1
 have hyl := (List.getElem?_eq_some_iff.1 hy').1
 obtain ⟨m, hm0⟩ : ∃ m, mvK x y = m := ⟨_, rfl⟩
 have mx : m x = some y := by rw [← hm0]; exact zTD x y
 have mne : ∀ k, k ≠ x → m k = some k := fun k hk => by rw [← hm0]; exact zSS hk
 let ρ' : Nat → Nat × Nat := fun k => if k = y then ρ x else ρ k
 obtain ⟨σ', hσ'⟩ : ∃ σ', ((st.σ.map (zT m)).set y (zT m (zBH st.σ x))).set x .dead = σ' := ⟨_, rfl⟩
 have g1 : σ'[x]? = some .dead := by
  rw [← hσ', List.getElem?_set, if_pos rfl, if_pos (by simpa using hxl)]
 have g2 : σ'[y]? = some (.ent { e with cells := e.cells.map (ren m) }) := by
  rw [← hσ', List.getElem?_set, if_neg hxy, List.getElem?_set, if_pos rfl, if_pos (by simpa using hyl), hx]
  rfl
 have g3 : ∀ k, k ≠ x → k ≠ y → σ'[k]? = (st.σ[k]?).map (zT m) := fun k h1 h2 => by
  rw [← hσ', List.getElem?_set, if_neg (fun e => h1 e.symm), List.getElem?_set, if_neg (fun e => h2 e.symm), List.getElem?_map]
 have hent : ∀ k e', σ'[k]? = some (.ent e') → ∃ k0 e0, st.σ[k0]? = some (.ent e0) ∧ ρ' k = ρ k0 ∧ e' = { e0 with cells := e0.cells.map (ren m) } ∧ (k = y ∧ k0 = x ∨ k ≠ y ∧ k ≠ x ∧ k0 = k) := fun k e' he' => by
  by_cases h1 : k = x
  ·subst h1; rw [g1] at he'; cases he'
  by_cases h2 : k = y
  ·subst h2
   rw [g2] at he'
   cases he'
   exact ⟨x, e, hx', if_pos rfl, rfl, .inl ⟨rfl, rfl⟩⟩
  ·rw [g3 k h1 h2] at he'
   cases hs : st.σ[k]? with
   | none => rw [hs] at he'; cases he'
   | some s =>
    rw [hs] at he'
    cases s with
    | free => cases he'
    | dead => cases he'
    | ent e0 =>
     simp only [Option.map_some, zT, Option.some.injEq, Slot.ent.injEq] at he'
     exact ⟨k, e0, hs, if_neg h2, he'.symm, .inr ⟨h2, h1, rfl⟩⟩
 have hlive : ∀ k, live σ' k → ∃ k0, live st.σ k0 ∧ ρ' k = ρ k0 ∧ (k = y ∧ k0 = x ∨ k ≠ y ∧ k ≠ x ∧ k0 = k) := fun k ⟨e', he'⟩ => by
  obtain ⟨k0, e0, h1, h2, _, h4⟩ := hent k e' he'
  exact ⟨k0, ⟨e0, h1⟩, h2, h4⟩
 have huy : ∀ g, ¬ zBX st.σ y g := fun g ⟨s, hs, hg⟩ => by
  rw [hy'] at hs; cases hs; exact hg
 have hused : ∀ k j g, m k = some j → zBX st.σ k g → zBX σ' j g := fun k j g hk hu => by
  by_cases h1 : k = x
  ·subst h1
   rw [mx] at hk
   cases hk
   obtain ⟨s, hs, hg⟩ := hu
   rw [hx'] at hs
   cases hs
   exact ⟨_, g2, hg⟩
  ·rw [mne k h1] at hk
   cases hk
   have h2 : k ≠ y := by rintro rfl; exact huy g hu
   obtain ⟨s, hs, hg⟩ := hu
   exact ⟨_, by rw [g3 k h1 h2, hs]; rfl, zEa.2 hg⟩
 have T : Tr m w (Fz B st.σ ρ w) (Tb st.σ ρ) (zBX st.σ) w (Fz B σ' ρ' w) (Tb σ' ρ') (zBX σ') := {
  hz := fun b hb => ⟨hb.1, hb.2.1, fun k hk => by obtain ⟨k0, h1, h2, _⟩ := hlive k hk; rw [h2]; exact hb.2.2 k0 h1⟩
  hh := fun _ _ _ => rfl
  hU := hused
  ht := fun k j g p hk hu ht => by
   obtain ⟨e', he', hg, hp'⟩ := Tb.live ht
   obtain ⟨k0, e0, h1, h2, h3, h4⟩ := hent j e' he'
   have hk0 : k0 = k := by
    by_cases h5 : k = x
    ·subst h5
     rw [mx] at hk
     cases hk
     rcases h4 with ⟨_, h⟩ | ⟨h, _⟩
     ·exact h
     ·exact absurd rfl h
    ·rw [mne k h5] at hk
     cases hk
     rcases h4 with ⟨h, _⟩ | ⟨_, _, h⟩
     ·subst h; exact absurd hu (huy g)
     ·exact h
   subst hk0
   have := Tb.of (ρ := ρ) h1
   rw [← h2, hp'] at this
   have hge : e0.gen = e'.gen := by rw [h3]
   rw [hge, hg] at this
   exact this }
 have hst : zBG x y st = ⟨st.fr.map (ren m), σ'⟩ := by unfold zBG; rw [hm0, hσ']
 rw [hst]
 refine ⟨ρ', ?_, ⟨by simpa using hl, fun t d hd => ?_⟩, hm⟩
 ·exact {
   ent := fun k e' he' => by
    obtain ⟨k0, e0, h1, h2, h3, _⟩ := hent k e' he'
    rw [h2, h3]
    exact T.entOk (hp.ent k0 e0 h1) rfl
   inj := fun k k' hk hk' he => by
    obtain ⟨k0, h1, h2, h3⟩ := hlive k hk
    obtain ⟨k0', h1', h2', h3'⟩ := hlive k' hk'
    rw [h2, h2'] at he
    have := hp.inj k0 k0' h1 h1' he
    subst this
    rcases h3 with ⟨a1, a2⟩ | ⟨a1, a2, a3⟩ <;> rcases h3' with ⟨b1, b2⟩ | ⟨b1, b2, b3⟩
    ·rw [a1, b1]
    ·exact absurd (b3.symm.trans a2) b2
    ·exact absurd (a3.symm.trans b2) a2
    ·rw [← a3, ← b3]
   nf := fun k hk => by obtain ⟨k0, h1, h2, _⟩ := hlive k hk; rw [h2]; exact hp.nf k0 h1
   own := fun k hk => by obtain ⟨k0, h1, h2, _⟩ := hlive k hk; rw [h2]; exact hp.own k0 h1
   size := hp.size
   os := hp.os
   tape := hp.tape
   output := hp.output
   base := hp.base
   n0 := hp.n0
   m0 := hp.m0
   hist := fun k g hu => by
    obtain ⟨h1, h2⟩ := hp.hist k g hu
    by_cases hk : k = x
    ·subst hk
     refine ⟨⟨_, g1, trivial⟩, fun p ht => ?_⟩
     obtain ⟨e', he', _⟩ := Tb.live ht
     rw [g1] at he'; cases he'
    ·have hky : k ≠ y := by rintro rfl; exact huy g h1
     exact ⟨hused k k g (mne k hk) h1, fun p ht => h2 p (T.ht k k g p (mne k hk) h1 ht)⟩ }
 ·obtain ⟨d0, hd0, rfl⟩ := zAE hd
  obtain ⟨u, a1, a2⟩ := hr t d0 hd0
  exact ⟨u, a1, T.ren a2⟩
theorem zPb {P : Program} {ro : Option Nat} {c : Code} {st : St} {K : Exit → St → Prop} (x y : Nat) {e : Ent} (hx : zBH st.σ x = .ent e) (hy : zBH st.σ y = .free) (h : AWP P ro c (zBG x y st) K) : AWP P ro c st K :=
 fun B a w hr Q hQ => h B a w (hr.moveK hx hy) Q hQ
theorem zDG {P : Program} {ro : Option Nat} {c : Code} {st : St} {K : Exit → St → Prop} (x y : Nat) (h : AWP P ro c st (fun e s => (∃ e0, zBH s.σ x = .ent e0) ∧ zBH s.σ y = .free ∧ K e (zBG x y s))) : AWP P ro c st K :=
 fun B a w hr Q hQ => h B a w hr Q fun e st' a' w' ⟨⟨e0, h1⟩, h2, h3⟩ hr' => hQ e (zBG x y st') a' w' h3 (hr'.moveK h1 h2)
def zSf (k : Option Nat) (n : Nat) : D := match k with
 | some j => eR j n
 | none => if n = 0 then .v (.slice none 0 0) else .any
theorem zDA (m : Nat → Option Nat) (k n : Nat) : ren m (eR k n) = zSf (m k) n := by
 unfold zSf eR
 cases n with
 | zero => cases m k <;> rfl
 | succ n =>
  rw [if_neg (by omega)]
  show (match m k with | some j => D.ref j (n + 1 - 1) (n + 1) | none => .any) = _
  cases m k <;> rfl
theorem zBJ (j n : Nat) : zSf (some j) n = eR j n := rfl
def zAw (l : List Int) : Slot := if l.length = 0 then .free else .ent ⟨l.length - 1, some 1, 3, zY l, .cells⟩
theorem zBd (m : Nat → Option Nat) (l : List Int) : zT m (zAw l) = zAw l := by
 unfold zAw
 split
 ·rfl
 ·simp only [zT, zAL]
theorem zIV : zAw [] = .free := rfl
theorem zEc {l : List Int} {j : Nat} (h : l.length = j + 1) : zAw l = .ent ⟨j, some 1, 3, zY l, .cells⟩ := by
 unfold zAw
 rw [h, if_neg (by omega)]
 rfl
theorem zHM (k j : Nat) : eR k (j + 1) = .ref k j (j + 1) := rfl
theorem zNT (k : Nat) : eR k 0 = .v (.slice none 0 0) := rfl
theorem zRb (f : Bool) (l : List Int) : Fn Tryz.prog 276 [.sl f 1 (zK l)] [] (.sl true 1 (zK l)) [] := by
 refine Fn.of (fn := Tryz.f276) (by kernel_rfl) rfl (by kernel_rfl) ⟨[.sl f 1 (zK l), .v undef, .v undef, .v undef, .v undef, .v undef, .v undef, .v undef, .v undef], []⟩ rfl ?_
 repeat' first | (with_reducible first | refine zA ?_ | refine zB ?_ | refine zI ?_) | ((with_reducible refine And.intro ?_ ?_); · exact Sq) | ((with_reducible refine zC fun KC J hJ hKC => ?_); simp (maxSteps := 9999999) only [push_cast, seval, ↓reduceIte]) | ((with_reducible refine hJ _ _ ?_); clear hJ hKC KC J)
 refine zE ?_
 simp (maxSteps := 9999999) only [push_cast, seval, ↓reduceIte, show Tryz.f276.results = #[(.tmp 2)] from rfl]
 rw [List.take_length]
 exact zN _
structure Dr where
 l : List Int
 a : Int
 g : List Int
 deriving DecidableEq
def Dr.z : Dr := ⟨[], 0, []⟩
def Dr.ok (d : Dr) : Bool := zDO d.l d.g d.a
def zFy (f g : Bool) (d : Dr) : D := .agg [.sl f 1 (zK d.l), .v (.int .i64 d.a), .sl g 1 (zK d.g)]
def zBM (d : Dr) (b : Int) : Dr × Int × Int :=
 if zDO d.l d.g d.a = false ∨ b < 1 then (Dr.z, 0, 1)
 else if d.g.length = 2000 then (Dr.z, 0, 8)
 else (⟨d.l, (if d.a < d.l.length then d.a + 1 else d.a), d.g ++ [zCm d.l d.a b]⟩, zCm d.l d.a b, 0)
theorem zRC {l lg : List Int} {a b : Int} (h1 : zDO l lg a = true) (h2 : ¬ b < 1) (h3 : ¬ (lg.length : Int) = 2000) :
  zBM ⟨l, a, lg⟩ b = (⟨l, (if a < l.length then a + 1 else a), lg ++ [zCm l a b]⟩, zCm l a b, 0) := by
 unfold zBM
 have hn : ¬ (zDO l lg a = false ∨ b < 1) := by
  rintro (h | h)
  ·rw [h1] at h; cases h
  ·exact h2 h
 rw [if_neg hn, if_neg (by simp only; omega)]
theorem zRY (f g : Bool) (l lg : List Int) (a b : Int) (hB : b ≤ 9223372036854775807) :
  Fn Tryz.prog 227 [.agg [.sl f 1 (zK l), .v (.int .i64 a), .sl g 1 (zK lg)], .v (.int .i64 b)] []
   (.tup [zFy f false (zBM ⟨l, a, lg⟩ b).1, .v (.int .i64 (zBM ⟨l, a, lg⟩ b).2.1), .v (.int .i64 (zBM ⟨l, a, lg⟩ b).2.2)]) [] := by
 refine Fn.of (fn := Tryz.f227) (by kernel_rfl) rfl (by kernel_rfl) ⟨[.agg [.sl f 1 (zK l), .v (.int .i64 a), .sl g 1 (zK lg)], .v (.int .i64 b), .v undef, .v undef, .v undef, .v undef, .v undef, .v undef, .v undef, .v undef, .v undef, .v undef, .v undef, .v undef, .v undef, .v undef, .v undef, .v undef, .v undef, .v undef, .v undef, .v undef, .v undef, .v undef, .v undef, .v undef, .v undef, .v undef, .v undef, .v undef, .v undef, .v undef, .v undef, .v undef, .v undef, .v undef, .v undef, .v undef, .v undef, .v undef, .v undef, .v undef, .v undef, .v undef, .v undef], []⟩ rfl ?_
 by_cases hr : zDO l lg a = true
 ·have h0 : 0 ≤ a ∧ l.length ≤ 500 ∧ lg.length ≤ 2000 := by simp [zDO] at hr; omega
  repeat' first | (with_reducible first | refine zA ?_ | refine zB ?_ | refine zO ?_ | refine zJ ?_ | refine zG ?_) | ((with_reducible refine And.intro ?_ ?_); · exact Sq) | ((first | with_reducible refine zC fun KC J hJ hKC => ?_ | (refine' hKC _ _ _ _ _ (zD (zHp _ _ _ _ _) rfl rfl rfl ?_ ?_); (rotate_left 5); (· exact Lq)) | (refine' hKC _ _ _ _ _ (zD (zOP _ _ _ _ _ _ ?_ ?_ ?_) rfl rfl rfl ?_ ?_); (rotate_left 9); (· exact Lq); (rotate_left 1); (iterate 3 (· exact Hq))) | (refine' hKC _ _ _ _ _ (zD (zRb _ _) rfl rfl rfl ?_ ?_); (rotate_left 2); (· exact Lq))); simp (maxSteps := 9999999) only [push_cast, seval, ↓reduceIte, hr]) | ((with_reducible refine hJ _ _ ?_); clear hJ hKC KC J) | (refine zs rfl (fun h => ?_) (fun h => ?_) <;> try simp only [decide_eq_true_eq, decide_eq_false_iff_not, Bool.not_eq_true', Bool.not_eq_false', beq_iff_eq, bne_iff_ne, ne_eq, Bool.not_eq_true, Bool.or_eq_true, Bool.and_eq_true, Bool.or_eq_false_iff, Bool.and_eq_false_imp, beq_eq_false_iff_ne, bne_eq_false_iff_eq] at h)
  ·refine zI ?_
   refine zE ?_
   simp (maxSteps := 9999999) only [push_cast, seval, ↓reduceIte, show Tryz.f227.results = #[(.cell 4 30), (.tmp 5), (.tmp 6)] from rfl]
   simp only [zBM, hr, if_pos h, Bool.true_eq_false, false_or, zFy, Dr.z]
   exact Lq
  ·refine zI ?_
   refine zE ?_
   simp (maxSteps := 9999999) only [push_cast, seval, ↓reduceIte, show Tryz.f227.results = #[(.cell 4 30), (.tmp 5), (.tmp 6)] from rfl]
   simp only [zBM, hr, Bool.true_eq_false, false_or, zFy, Dr.z]
   rw [if_neg (by assumption), if_pos (by omega)]
   exact Lq
  ·refine zt 6 rfl (by simp (maxSteps := 9999999) only [push_cast, seval, ↓reduceIte]) ?_
   simp (maxSteps := 9999999) only [push_cast, seval, ↓reduceIte, zAH, zd, fr3, fr2, fr1, fr0, zl, zj]
   refine zI ?_
   refine zE ?_
   simp (maxSteps := 9999999) only [push_cast, seval, ↓reduceIte, show Tryz.f227.results = #[(.cell 4 30), (.tmp 5), (.tmp 6)] from rfl]
   simp only [zBM, hr, Bool.true_eq_false, false_or, zFy]
   rw [if_neg (by assumption), if_neg (by omega), zCP (by omega) (by omega)]
   simp only [if_pos h]
   exact Lq
  ·refine zt 6 rfl (by simp (maxSteps := 9999999) only [push_cast, seval, ↓reduceIte]) ?_
   simp (maxSteps := 9999999) only [push_cast, seval, ↓reduceIte, zAH, zd, fr3, fr2, fr1, fr0, zl, zj]
   refine zI ?_
   refine zE ?_
   simp (maxSteps := 9999999) only [push_cast, seval, ↓reduceIte, show Tryz.f227.results = #[(.cell 4 30), (.tmp 5), (.tmp 6)] from rfl]
   simp only [zBM, hr, Bool.true_eq_false, false_or, zFy]
   rw [if_neg (by assumption), if_neg (by omega)]
   simp only [if_neg h]
   exact Lq
 ·have hr' : zDO l lg a = false := by simpa using hr
  repeat' first | (with_reducible first | refine zA ?_ | refine zB ?_ | refine zS ?_ | refine zg ?_ | refine zI ?_ | refine zG ?_) | ((first | with_reducible refine zC fun KC J hJ hKC => ?_ | (refine' hKC _ _ _ _ _ (zD (zHp _ _ _ _ _) rfl rfl rfl ?_ ?_); (rotate_left 5); (· exact Lq))); simp (maxSteps := 9999999) only [push_cast, seval, ↓reduceIte, hr']) | ((with_reducible refine hJ _ _ ?_); clear hJ hKC KC J) | ((with_reducible refine zF ?_ ?_); · rfl)
  all_goals
   refine zE ?_
   simp (maxSteps := 9999999) only [push_cast, seval, ↓reduceIte, show Tryz.f227.results = #[(.cell 4 30), (.tmp 5), (.tmp 6)] from rfl]
   simp only [zBM, hr', true_or, if_true, zFy, Dr.z]
   exact Lq
def zSW (f g : Bool) (t : Dr × Int × Int) : D := .agg [.sl f 1 (zK t.1.l), .v (.int .i64 t.1.a), .sl g 1 (zK t.1.g), .v (.int .i64 t.2.1), .v (.slice none 0 0), .v (.int .i64 t.2.2)]
def zFL : List Int → List Int → Int
 | [], [] => 0
 | [], _ :: _ => -1
 | _ :: _, [] => 1
 | x :: xs, y :: ys => if zEM x y ≠ 0 then zEM x y else zFL xs ys
def zNF (xs ys : List Int) : Int := if zEM xs.length ys.length ≠ 0 then zEM xs.length ys.length else zFL xs ys
theorem zEV {x y : Int} : zEM x y = 0 ↔ x = y := by
 unfold zEM
 split
 ·omega
 ·split <;> omega
theorem zJV : ∀ {xs ys : List Int}, zFL xs ys = 0 ↔ xs = ys
 | [], [] => by simp [zFL]
 | [], _ :: _ => by simp [zFL]
 | _ :: _, [] => by simp [zFL]
 | x :: xs, y :: ys => by
  simp only [zFL, List.cons.injEq]
  by_cases h : zEM x y = 0
  ·have ih := @zJV xs ys
   have hxy := zEV.1 h
   have hyy : zEM y y = 0 := zEV.2 rfl
   simp [h, ih, hxy, hyy]
  ·simp only [ne_eq, h, not_false_eq_true, if_true]
   have : x ≠ y := fun e => h (zEV.2 e)
   simp [this]
theorem zOL {xs ys : List Int} : zNF xs ys = 0 ↔ xs = ys := by
 unfold zNF
 by_cases h : zEM xs.length ys.length = 0
 ·simp [h, zJV]
 ·simp only [ne_eq, h, not_false_eq_true, if_true, false_iff]
  intro e; subst e; exact h (zEV.2 rfl)
theorem zOW {xs ys : List Int} {i : Nat} (h1 : i < xs.length) (h2 : i < ys.length) (he : zFL xs ys = zFL (xs.drop i) (ys.drop i)) :
  zFL xs ys = if zEM xs[i] ys[i] ≠ 0 then zEM xs[i] ys[i] else zFL (xs.drop (i + 1)) (ys.drop (i + 1)) := by
 rw [he, List.drop_eq_getElem_cons h1, List.drop_eq_getElem_cons h2]
 rfl
theorem zRA (f g : Bool) (xs ys : List Int) (hb : xs.length ≤ 9223372036854775807) : Fn Tryz.prog 55 [.sl f 1 (zK xs), .sl g 1 (zK ys)] [] (.v (.int .i64 (zNF xs ys))) [] := by
 refine Fn.of (fn := Tryz.f55) (by kernel_rfl) rfl (by kernel_rfl) ⟨[.sl f 1 (zK xs), .sl g 1 (zK ys), .v undef, .v undef, .v undef, .v undef, .v undef, .v undef, .v undef, .v undef, .v undef, .v undef, .v undef, .v undef, .v undef, .v undef, .v undef, .v undef, .v undef, .v undef, .v undef, .v undef, .v undef, .v undef, .v undef, .v undef, .v undef, .v undef, .v undef, .v undef, .v undef, .v undef, .v undef, .v undef, .v undef, .v undef, .v undef, .v undef, .v undef, .v undef], []⟩ rfl ?_
 repeat' first | (with_reducible first | refine zA ?_ | refine zB ?_ | refine zS ?_ | refine zI ?_ | refine zJ ?_ | refine zG ?_) | ((with_reducible refine zC fun KC J hJ hKC => ?_); simp (maxSteps := 9999999) only [push_cast, seval, ↓reduceIte]) | ((with_reducible refine hJ _ _ ?_); clear hJ hKC KC J) | (refine zs rfl (fun h => ?_) (fun h => ?_) <;> try simp only [decide_eq_true_eq, decide_eq_false_iff_not, Bool.not_eq_true', Bool.not_eq_false', beq_iff_eq, bne_iff_ne, ne_eq, Bool.not_eq_true, Bool.or_eq_true, Bool.and_eq_true, Bool.or_eq_false_iff, Bool.and_eq_false_imp, beq_eq_false_iff_ne, bne_eq_false_iff_eq] at h)
 ·refine zE ?_
  simp (maxSteps := 9999999) only [push_cast, seval, ↓reduceIte, show Tryz.f55.results = #[(.tmp 4)] from rfl]
  exact zAF (by simp [zNF, zEM, h])
 ·refine zE ?_
  simp (maxSteps := 9999999) only [push_cast, seval, ↓reduceIte, show Tryz.f55.results = #[(.tmp 4)] from rfl]
  have e1 : ¬ xs.length < ys.length := by omega
  have e2 : ys.length < xs.length := by omega
  exact zAF (by simp [zNF, zEM, e1, e2])
 ·have hl : xs.length = ys.length := by omega
  have hR : zNF xs ys = zFL xs ys := by simp [zNF, zEM, hl]
  refine ze (γ := {i : Nat // i ≤ xs.length ∧ zFL xs ys = zFL (xs.drop i) (ys.drop i)}) (fun i => ⟨[.sl f 1 (zK xs), .sl g 1 (zK ys), .any, .any, .any, .any, .any, .any, .any, .any, .any, .any, .any, .any, .any, .any, .any, .v (.int .i64 xs.length), .v (.int .i64 i.1), .any, .any, .any, .any, .any, .any, .any, .any, .any, .any, .any, .any, .any, .any, .any, .any, .any, .any, .any, .any, .any], []⟩) (fun i => xs.length - i.1) ⟨0, by simp⟩ ⟨?_, Fq⟩ ?_
  ·exact Lq
  ·rintro ⟨i, hi, he⟩
   by_cases hlt : (i : Int) < (xs.length : Int)
   ·have hx : xs[i]? = some xs[i] := List.getElem?_eq_getElem (by omega)
    have hy : ys[i]? = some ys[i] := List.getElem?_eq_getElem (by omega)
    have hd := zOW (by omega) (by omega) he
    repeat' first | (with_reducible first | refine zA ?_ | refine zB ?_ | refine zS ?_ | refine zO ?_ | refine zg ?_ | refine zI ?_ | refine zJ ?_ | refine zG ?_) | ((with_reducible refine And.intro ?_ ?_); · exact Sq) | ((first | with_reducible refine zC fun KC J hJ hKC => ?_ | with_reducible refine zU rfl fun KC J hJ hKC => ?_); simp (maxSteps := 9999999) only [push_cast, seval, ↓reduceIte, hlt, zo hx, zo hy, zb (i := i) (n := xs.length) (by omega) hb]) | ((first | with_reducible refine hJ _ _ ?_ | (with_reducible refine hJ _ _ ?_ ?_; · kernel_rfl)); clear hJ hKC KC J) | ((with_reducible refine zF ?_ ?_); · rfl) | (refine zs rfl (fun h => ?_) (fun h => ?_) <;> try simp only [decide_eq_true_eq, decide_eq_false_iff_not, Bool.not_eq_true', Bool.not_eq_false', beq_iff_eq, bne_iff_ne, ne_eq, Bool.not_eq_true, Bool.or_eq_true, Bool.and_eq_true, Bool.or_eq_false_iff, Bool.and_eq_false_imp, beq_eq_false_iff_ne, bne_eq_false_iff_eq] at h)
    ·refine zE ?_
     simp (maxSteps := 9999999) only [push_cast, seval, ↓reduceIte, show Tryz.f55.results = #[(.tmp 4)] from rfl]
     exact zAF (by rw [hR, hd]; simp [zEM, h])
    ·refine zE ?_
     simp (maxSteps := 9999999) only [push_cast, seval, ↓reduceIte, show Tryz.f55.results = #[(.tmp 4)] from rfl]
     exact zAF (by rw [hR, hd]; simp [zEM, *])
    ·refine ⟨⟨i + 1, by omega, ?_⟩, by simp only; omega, ?_, Fq⟩
     ·rw [hd]; simp [zEM, *]
     ·exact Lq
   ·have e1 : xs.drop i = [] := List.drop_eq_nil_of_le (by omega)
    have e2 : ys.drop i = [] := List.drop_eq_nil_of_le (by omega)
    repeat' first | (with_reducible first | refine zA ?_ | refine zB ?_ | refine zX ?_ | refine zW ?_ | refine zI ?_ | refine zQ ?_) | ((with_reducible refine zC fun KC J hJ hKC => ?_); simp (maxSteps := 9999999) only [push_cast, seval, ↓reduceIte, hlt]) | ((with_reducible refine hJ _ _ ?_); clear hJ hKC KC J) | ((with_reducible refine zH ?_ ?_); · rfl)
    refine zE ?_
    simp (maxSteps := 9999999) only [push_cast, seval, ↓reduceIte, show Tryz.f55.results = #[(.tmp 4)] from rfl]
    exact zAF (by rw [hR, he, e1, e2]; simp [zFL])
theorem zFj (f g : Bool) (xs ys : List Int) (hb : xs.length ≤ 9223372036854775807) : Fn Tryz.prog 15 [.sl f 1 (zK xs), .sl g 1 (zK ys)] [] (.v (.bool (decide (xs = ys)))) [] := by
 refine Fn.of (fn := Tryz.f15) (by kernel_rfl) rfl (by kernel_rfl) ⟨[.sl f 1 (zK xs), .sl g 1 (zK ys), .v undef, .v undef, .v undef, .v undef, .v undef, .v undef, .v undef], []⟩ rfl ?_
 repeat' first | (with_reducible first | refine zA ?_ | refine zB ?_ | refine zI ?_) | ((first | with_reducible refine zC fun KC J hJ hKC => ?_ | (refine' hKC _ _ _ _ _ (zD (zRA _ _ _ _ ?_) rfl rfl rfl ?_ ?_); (rotate_left 5); (· exact Lq); (rotate_left 1); (iterate 1 (· exact Hq)))); simp (maxSteps := 9999999) only [push_cast, seval, ↓reduceIte]) | ((with_reducible refine hJ _ _ ?_); clear hJ hKC KC J)
 refine zE ?_
 simp (maxSteps := 9999999) only [push_cast, seval, ↓reduceIte, show Tryz.f15.results = #[(.tmp 4)] from rfl]
 refine zAF (congrArg Value.bool (Bool.eq_iff_iff.2 ?_))
 simp [zOL]
end Go.Proofs.YtabliglgeiajlaaGreat.AM
