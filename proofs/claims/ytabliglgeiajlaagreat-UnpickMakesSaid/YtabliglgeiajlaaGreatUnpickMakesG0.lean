/- Walks and plain laws, put together: part 0. -/
import Derived.Test.YtabliglgeiajlaaGreatMc
set_option linter.unusedSimpArgs false
set_option linter.unusedVariables false
namespace Go.Proofs.YtabliglgeiajlaaGreat.AM
open Go Go.RowKit Go.Proofs
set_option maxRecDepth 100000
set_option maxHeartbeats 1000000
def zM (xs : List Int) : List (List D) := xs.map fun x => [.v (.int .i64 x)]
@[push_cast] theorem zSI (l : List Int) : (zM l).length = l.length := by simp [zM]
@[push_cast] theorem zUP (l : List Int) (a b : Nat) : sub (zM l) a b = zM ((l.take b).drop a) := by simp [zM, zEP]
theorem zAV {l : List Int} {n : Nat} {x : Int} (h : l[n]? = some x) : zFb (zM l) n = [.v (.int .i64 x)] := by unfold zM; exact zBm _ _ _ _ h
theorem zCc (l : List Int) : (zM l).flatten = l.map fun x => .v (.int .i64 x) := by
 induction l with
 | nil => rfl
 | cons a l ih => simp only [zM, List.map_cons, List.flatten_cons] at ih ⊢; rw [ih]; rfl
@[push_cast] theorem zLj (l : List Int) : (zM l).flatten.length = l.length := by rw [zCc]; simp
@[push_cast] theorem zUY (l : List Int) (x : Int) : zAh 1 (l.length + 1) ((zM l).flatten ++ [.v (.int .i64 x)]) = zM (l ++ [x]) := by
 rw [zCc, show ([.v (.int .i64 x)] : List D) = [x].map (fun x => .v (.int .i64 x)) from rfl, ← List.map_append, show l.length + 1 = (l ++ [x]).length by simp]
 exact zHA _ _
@[push_cast] theorem zSM (a b : List D) : zAc (a ++ b) = (zAc a && zAc b) := by
 induction a with
 | nil => simp [zAc]
 | cons x a ih => simp only [List.cons_append, zAc, ih, Bool.and_assoc]
@[push_cast] theorem zLk (l : List Int) : zAc (l.map fun x => .v (.int .i64 x)) = true := by
 induction l with
 | nil => rfl
 | cons x l ih => simp only [List.map_cons, zAc, ih]; rfl
@[push_cast] theorem zSG (l : List Int) : zAc (zM l).flatten = true := by rw [zCc]; exact zLk l
@[push_cast] theorem zTH (x : Int) (l : List Int) : zCh (zM (x :: l)) = false := rfl
@[push_cast] theorem zSH : zCh (zM []) = true := rfl
theorem zRB (n : Nat) : Nat.ble n n = true := Nat.ble_self_eq_true n
attribute [push_cast] Nat.zero_add zRB Nat.mul_one List.length_append
def zFF (x y : Int) : Int := if x < y then -1 else if y < x then 1 else 0
def zAn (l lg : List Int) (a : Int) : Bool := decide (l.length ≤ 500) && decide (lg.length ≤ 2000) && decide (0 ≤ a)
theorem zEa (f g : Bool) (l lg : List Int) (a : Int) : Fn Tryz.prog 52 [.agg [.sl f 1 (zM l), .v (.int .i64 a), .sl g 1 (zM lg)]] [] (.v (.bool (zAn l lg a))) [] := by
 refine Fn.of (fn := Tryz.f52) (by kernel_rfl) rfl (by kernel_rfl) ⟨[.agg [.sl f 1 (zM l), .v (.int .i64 a), .sl g 1 (zM lg)], .v undef, .v undef, .v undef, .v undef, .v undef, .v undef, .v undef, .v undef, .v undef, .v undef, .v undef, .v undef, .v undef, .v undef, .v undef, .v undef, .v undef], []⟩ rfl ?_
 repeat' first | (with_reducible first | refine zA ?_ | refine zB ?_ | refine zF ?_) | ((with_reducible refine zC fun KC J hJ hKC => ?_); simp (maxSteps := 9999999) only [push_cast, seval, ↓reduceIte]) | ((with_reducible refine hJ _ _ ?_); clear hJ hKC KC J) | ((with_reducible refine zFa (fun hs => ?_) (fun hs => ?_)) <;> (try simp only [Bool.not_eq_true, Bool.not_eq_false, Bool.not_eq_true', Bool.not_eq_false', Decidable.not_not, decide_eq_true_eq, decide_eq_false_iff_not] at hs) <;> (try simp (maxSteps := 9999999) only [push_cast, seval, ↓reduceIte, hs]))
 all_goals
  refine zE ?_
  simp (maxSteps := 9999999) only [push_cast, seval, ↓reduceIte, show Tryz.f52.results = #[(.tmp 2)] from rfl]
  refine zAk (congrArg Value.bool (Bool.eq_iff_iff.2 ?_))
  simp [zAn]
  omega
theorem zJV (f : Bool) (l : List Int) : Fn Tryz.prog 46 [.sl f 1 (zM l)] [] (.agg [.sl f 1 (zM l), .v (.int .i64 0), .sl false 1 (zM [])]) [] := by
 refine Fn.of (fn := Tryz.f46) (by kernel_rfl) rfl (by kernel_rfl) ⟨[.sl f 1 (zM l), .v undef, .v undef, .v undef, .v undef], []⟩ rfl ?_
 repeat' first | (with_reducible first | refine zA ?_ | refine zB ?_ | refine zF ?_) | ((with_reducible refine zC fun KC J hJ hKC => ?_); simp (maxSteps := 9999999) only [push_cast, seval, ↓reduceIte]) | ((with_reducible refine hJ _ _ ?_); clear hJ hKC KC J)
 refine zE ?_
 simp (maxSteps := 9999999) only [push_cast, seval, ↓reduceIte, show Tryz.f46.results = #[(.cell 2 30)] from rfl]
 exact Lq
def zBT (l : List Int) (a b : Int) : Int := if a < l.length then l.getD a.toNat 0 % b else 0
theorem zRn {x b : Int} (hb : 1 ≤ b) (hB : b ≤ 9223372036854775807) : (if Int.tmod x b < 0 then IntKind.i64.wrap (Int.tmod x b + b) else Int.tmod x b) = x % b := by
 have h1 := Int.tmod_eq_emod_of_nonneg (a := x) (b := b)
 rcases Int.lt_or_le x 0 with hx | hx
 ·have h2 : Int.tmod x b = - ((-x) % b) := by
   have := Int.neg_tmod (-x) b
   rw [Int.neg_neg] at this
   rw [this, Int.tmod_eq_emod_of_nonneg (by omega)]
  have h3 := Int.emod_nonneg (-x) (b := b) (by omega)
  have h4 := Int.emod_lt_of_pos (-x) (b := b) (by omega)
  have h5 := Int.emod_add_mul_ediv x b
  have h6 := Int.emod_add_mul_ediv (-x) b
  have h7 := Int.emod_nonneg x (b := b) (by omega)
  have h8 := Int.emod_lt_of_pos x (b := b) (by omega)
  rw [h2]
  by_cases h0 : (-x) % b = 0
  ·have : x % b = 0 := by
    have hd : b ∣ -x := Int.dvd_of_emod_eq_zero h0
    exact Int.emod_eq_zero_of_dvd (Int.dvd_neg.1 hd)
   simp [h0, this]
  ·rw [if_pos (by omega), zBk (by omega) (by omega)]
   have : x % b = b - (-x) % b := by
    have h9 := @Int.neg_emod (-x) b
    rw [Int.neg_neg, if_neg (fun hd => h0 (Int.emod_eq_zero_of_dvd hd))] at h9
    omega
   omega
 ·rw [Int.tmod_eq_emod_of_nonneg hx, if_neg (by have := Int.emod_nonneg x (b := b) (by omega); omega)]
theorem zPP (f g : Bool) (l lg : List Int) (a b : Int) (h0 : 0 ≤ a) (hb : 1 ≤ b) (hB : b ≤ 9223372036854775807) : Fn Tryz.prog 275 [.agg [.sl f 1 (zM l), .v (.int .i64 a), .sl g 1 (zM lg)], .v (.int .i64 b)] [] (.v (.int .i64 (zBT l a b))) [] := by
 refine Fn.of (fn := Tryz.f275) (by kernel_rfl) rfl (by kernel_rfl) ⟨[.agg [.sl f 1 (zM l), .v (.int .i64 a), .sl g 1 (zM lg)], .v (.int .i64 b), .v undef, .v undef, .v undef, .v undef, .v undef, .v undef, .v undef, .v undef, .v undef, .v undef, .v undef, .v undef, .v undef, .v undef, .v undef, .v undef, .v undef, .v undef, .v undef, .v undef, .v undef, .v undef, .v undef, .v undef], []⟩ rfl ?_
 by_cases hlt : a < l.length
 ·have hx : l[a.toNat]? = some (l.getD a.toNat 0) := by rw [List.getD_eq_getElem?_getD, List.getElem?_eq_getElem (by omega)]; rfl
  have hfix := zRn (x := l.getD a.toNat 0) hb hB
  repeat' first | (with_reducible first | refine zA ?_ | refine zB ?_ | refine zb ?_ | refine zF ?_ | refine zJ ?_) | ((with_reducible refine And.intro ?_ ?_); · exact Sq) | ((with_reducible refine zC fun KC J hJ hKC => ?_); simp (maxSteps := 9999999) only [push_cast, seval, ↓reduceIte, zAV hx]) | ((with_reducible refine hJ _ _ ?_); clear hJ hKC KC J) | (refine zAa rfl (fun h => ?_) (fun h => ?_) <;> try simp only [decide_eq_true_eq, decide_eq_false_iff_not, Bool.not_eq_true', Bool.not_eq_false', beq_iff_eq, bne_iff_ne, ne_eq, Bool.not_eq_true, Bool.or_eq_true, Bool.and_eq_true, Bool.or_eq_false_iff, Bool.and_eq_false_imp, beq_eq_false_iff_ne, bne_eq_false_iff_eq] at h)
  ·omega
  ·rw [if_pos h] at hfix
   refine zE ?_
   simp (maxSteps := 9999999) only [push_cast, seval, ↓reduceIte, show Tryz.f275.results = #[(.tmp 4)] from rfl]
   exact zAk (by rw [hfix]; simp [zBT, hlt])
  ·rw [if_neg (by omega)] at hfix
   refine zE ?_
   simp (maxSteps := 9999999) only [push_cast, seval, ↓reduceIte, show Tryz.f275.results = #[(.tmp 4)] from rfl]
   exact zAk (by rw [hfix]; simp [zBT, hlt])
 ·skip
  repeat' first | (with_reducible first | refine zA ?_ | refine zB ?_ | refine zb ?_ | refine zF ?_ | refine zJ ?_) | ((with_reducible refine And.intro ?_ ?_); · exact Sq) | ((with_reducible refine zC fun KC J hJ hKC => ?_); simp (maxSteps := 9999999) only [push_cast, seval, ↓reduceIte]) | ((with_reducible refine hJ _ _ ?_); clear hJ hKC KC J) | (refine zAa rfl (fun h => ?_) (fun h => ?_) <;> try simp only [decide_eq_true_eq, decide_eq_false_iff_not, Bool.not_eq_true', Bool.not_eq_false', beq_iff_eq, bne_iff_ne, ne_eq, Bool.not_eq_true, Bool.or_eq_true, Bool.and_eq_true, Bool.or_eq_false_iff, Bool.and_eq_false_imp, beq_eq_false_iff_ne, bne_eq_false_iff_eq] at h)
  ·refine zE ?_
   simp (maxSteps := 9999999) only [push_cast, seval, ↓reduceIte, show Tryz.f275.results = #[(.tmp 4)] from rfl]
   exact zAk (by simp [zBT, hlt])
  ·omega
def zDt {α : Type} (p : α → Bool) (xs : List α) : Int := match xs.findIdx? p with | some i => i | none => -1
theorem zCt {α : Type} {p : α → Bool} {xs : List α} {i : Nat} (h : i < xs.length) (hp : p xs[i] = true) (hn : ∀ (j : Nat) (hj : j < xs.length), j < i → p xs[j] = false) : zDt p xs = i := by
 have : xs.findIdx? p = some i := by
  rw [List.findIdx?_eq_some_iff_getElem]
  exact ⟨h, hp, fun j hj => by rw [hn j (by omega) hj]; simp⟩
 simp [zDt, this]
theorem zBf {α : Type} {p : α → Bool} {xs : List α} (hn : ∀ (j : Nat) (hj : j < xs.length), p xs[j] = false) : zDt p xs = -1 := by
 have : xs.findIdx? p = none := by
  rw [List.findIdx?_eq_none_iff]
  intro x hx
  obtain ⟨j, hj, rfl⟩ := List.mem_iff_getElem.1 hx
  exact hn j hj
 simp [zDt, this]
theorem zEK {α : Type} {p : α → Bool} {xs : List α} : decide (0 ≤ zDt p xs) = xs.any p := by
 unfold zDt
 cases h : xs.findIdx? p with
 | none =>
  rw [List.findIdx?_eq_none_iff] at h
  have : xs.any p = false := by rw [List.any_eq_false]; intro x hx; rw [h x hx]; simp
  simp [this]
 | some i =>
  rw [List.findIdx?_eq_some_iff_getElem] at h
  obtain ⟨h1, h2, _⟩ := h
  have : xs.any p = true := List.any_eq_true.2 ⟨_, List.getElem_mem h1, h2⟩
  simp [this]
theorem zTR (b : ByteArray) (i : Nat) (r : List UInt8) : ByteArray.toList.loop b i r = r.reverse ++ b.data.toList.drop i := by
 fun_induction ByteArray.toList.loop b i r with
 | case1 i r h ih =>
  rw [ih]
  have hi : i < b.data.toList.length := by simpa using h
  rw [List.drop_eq_getElem_cons hi]
  have : b.get! i = b.data.toList[i] := by
   simp [ByteArray.get!]
   rw [getElem!_pos]
  simp [this]
 | case2 i r h =>
  have : b.data.toList.length ≤ i := by simpa using h
  rw [List.drop_eq_nil_of_le this]; simp
theorem zKW (b : ByteArray) : b.toList = b.data.toList := by
 unfold ByteArray.toList
 rw [zTR]; simp
@[push_cast] theorem zVS {a b : ByteArray} : (a.toList == b.toList) = decide (a = b) := by
 rw [zKW, zKW, Bool.eq_iff_iff]
 simp
 constructor
 ·intro h; cases a; cases b; simp_all
 ·intro h; rw [h]
theorem zGm {n : Int} (h0 : 0 ≤ n) (h : n < 4294967296) : IntKind.u32.wrap n = n := by
 simp [IntKind.wrap, IntKind.signed, IntKind.bits, BitVec.toNat_ofInt]
 omega
theorem zSE {a b : Nat} (h : a < 2 ^ 32) : zSb .u32 (a : Int) (b : Int) = ((a >>> b : Nat) : Int) := by
 show (a : Int).fdiv (2 ^ min (b : Int).toNat 32) = _
 rw [Int.toNat_natCast, Int.fdiv_eq_ediv_of_nonneg _ (Int.pow_nonneg (by decide)), Nat.shiftRight_eq_div_pow]
 rcases Nat.le_total b 32 with hb | hb
 ·rw [Nat.min_eq_left hb]; simp
 ·rw [Nat.min_eq_right hb]
  have h1 : a / 2 ^ b = 0 := Nat.div_eq_of_lt (Nat.lt_of_lt_of_le h (Nat.pow_le_pow_right (by decide) hb))
  have h2 : (a : Int) / 2 ^ 32 = ((a / 2 ^ 32 : Nat) : Int) := by simp
  rw [h1, h2, Nat.div_eq_of_lt h]
theorem zHK {a : Nat} (h : a < 2 ^ 32) : (BitVec.ofInt 32 (a : Int)).toNat = a := by
 rw [BitVec.toNat_ofInt]
 have : ((a : Int) % ((2 ^ 32 : Nat) : Int)).toNat = a % 2 ^ 32 := by omega
 rw [this, Nat.mod_eq_of_lt h]
theorem zOr {a b : Nat} (ha : a < 2 ^ 32) (hb : b < 2 ^ 32) : zDp .and .u32 (a : Int) (b : Int) = ((a &&& b : Nat) : Int) := by
 show IntKind.u32.wrap ((BitVec.ofInt 32 (a : Int) &&& BitVec.ofInt 32 (b : Int)).toNat : Int) = _
 rw [BitVec.toNat_and, zHK ha, zHK hb]
 have : a &&& b ≤ a := Nat.and_le_left
 exact zGm (by omega) (by omega)
theorem zUT {a b : Nat} (ha : a < 2 ^ 32) (hb : b < 2 ^ 32) : zDp .or .u32 (a : Int) (b : Int) = ((a ||| b : Nat) : Int) := by
 show IntKind.u32.wrap ((BitVec.ofInt 32 (a : Int) ||| BitVec.ofInt 32 (b : Int)).toNat : Int) = _
 rw [BitVec.toNat_or, zHK ha, zHK hb]
 have : a ||| b < 2 ^ 32 := Nat.or_lt_two_pow ha hb
 exact zGm (by omega) (by omega)
def anB (a b : Nat) : Nat := a &&& (4294967295 - b)
theorem zUE {a b : Nat} (ha : a < 2 ^ 32) : anB a b < 2 ^ 32 := Nat.lt_of_le_of_lt Nat.and_le_left ha
theorem zUh {a b : Nat} (ha : a < 2 ^ 32) (hb : b < 2 ^ 32) : zDp .andNot .u32 (a : Int) (b : Int) = ((anB a b : Nat) : Int) := by
 show IntKind.u32.wrap ((BitVec.ofInt 32 (a : Int) &&& ~~~ BitVec.ofInt 32 (b : Int)).toNat : Int) = _
 rw [BitVec.toNat_and, BitVec.toNat_not, zHK ha, zHK hb]
 have := zUE (a := a) (b := b) ha
 rw [show a &&& 2 ^ 32 - 1 - b = anB a b from rfl]
 exact zGm (by omega) (by omega)
theorem zOY {a b : Nat} (ha : a < 2 ^ 32) (hb : b < 2 ^ 32) (i : Nat) : (anB a b).testBit i = (a.testBit i && !b.testBit i) := by
 unfold anB
 rw [Nat.testBit_and]
 have h1 : 4294967295 - b = 2 ^ 32 - (b + 1) := by omega
 rw [h1, Nat.testBit_two_pow_sub_succ hb]
 by_cases hi : i < 32
 ·simp [hi]
 ·have : a.testBit i = false := Nat.testBit_lt_two_pow (Nat.lt_of_lt_of_le ha (Nat.pow_le_pow_right (by decide) (by omega)))
  simp [this]
theorem zMt {a b : Nat} (ha : a < 2 ^ 32) (hb : b < 2 ^ 32) : anB a b = 0 ↔ ∀ i, a.testBit i = true → b.testBit i = true := by
 constructor
 ·intro h i hi
  have := zOY ha hb i
  rw [h, hi] at this
  simpa using this
 ·intro h
  refine Nat.eq_of_testBit_eq fun i => ?_
  rw [zOY ha hb, Nat.zero_testBit]
  cases hi : a.testBit i with
  | false => rfl
  | true => rw [h i hi]; rfl
theorem zSq {a b : Nat} (ha : a ≤ 1) (hb : b < 32) : zTd .u32 (a : Int) (b : Int) = ((a <<< b : Nat) : Int) := by
 show IntKind.u32.wrap ((a : Int) * 2 ^ min (b : Int).toNat 32) = _
 rw [Int.toNat_natCast, Nat.min_eq_left (by omega), Nat.shiftLeft_eq]
 have h2 : 2 ^ b ≤ 2 ^ 31 := Nat.pow_le_pow_right (by decide) (by omega)
 have h3 : a * 2 ^ b ≤ 2 ^ 31 := Nat.le_trans (Nat.mul_le_mul_right _ ha) (by omega)
 have h4 : (a : Int) * 2 ^ b = ((a * 2 ^ b : Nat) : Int) := by simp
 rw [h4]
 exact zGm (by omega) (by omega)
theorem zOW (a b : Nat) : (a >>> b) &&& 1 = if a.testBit b then 1 else 0 := by
 rw [Nat.and_one_is_mod, Nat.testBit_eq_decide_div_mod_eq, Nat.shiftRight_eq_div_pow]
 have := Nat.mod_two_eq_zero_or_one (a / 2 ^ b)
 rcases this with h | h <;> simp [h]
def uv (n : Nat) : Int := n
theorem zLe {a b : Nat} (h : a < 2 ^ 32) : zSb .u32 (uv a) (b : Int) = uv (a >>> b) := zSE h
theorem zRf {a b : Nat} (ha : a < 2 ^ 32) (hb : b < 2 ^ 32) : zDp .and .u32 (uv a) (uv b) = uv (a &&& b) := zOr ha hb
theorem zPB {a : Nat} (ha : a < 2 ^ 32) : zDp .and .u32 (uv a) 1 = uv (a &&& 1) := zOr (b := 1) ha (by decide)
theorem zVM {a b : Nat} (ha : a < 2 ^ 32) (hb : b < 2 ^ 32) : zDp .or .u32 (uv a) (uv b) = uv (a ||| b) := zUT ha hb
theorem zVI {a b : Nat} (ha : a < 2 ^ 32) (hb : b < 2 ^ 32) : zDp .andNot .u32 (uv a) (uv b) = uv (anB a b) := zUh ha hb
theorem zUL {a b : Nat} (ha : a ≤ 1) (hb : b < 32) : zTd .u32 (uv a) (b : Int) = uv (a <<< b) := zSq ha hb
@[push_cast] theorem zNG {a b : Nat} : (uv a == uv b) = decide (a = b) := by rw [Bool.eq_iff_iff]; simp [uv]; omega
@[push_cast] theorem zUM {a b : Nat} : (uv a != uv b) = !decide (a = b) := by rw [bne, zNG]
@[push_cast] theorem zVO {a : Nat} : (uv a == 1) = decide (a = 1) := zNG (b := 1)
@[push_cast] theorem zVP {a : Nat} : (uv a == 0) = decide (a = 0) := zNG (b := 0)
@[push_cast] theorem zVN {a : Nat} : (uv a != 0) = !decide (a = 0) := zUM (b := 0)
@[push_cast] theorem zVU {a : Nat} : (0 < uv a) ↔ (0 < a) := by show 0 < (a : Int) ↔ _; omega
def zQ (l : List Nat) : List (List D) := l.map fun (n : Nat) => [.v (.int .u32 (uv n))]
def zS (l : List ByteArray) : List (List D) := l.map fun s => [.v (.string s)]
@[push_cast] theorem zSK (l : List Nat) : (zQ l).length = l.length := by simp [zQ]
@[push_cast] theorem zSJ (l : List ByteArray) : (zS l).length = l.length := by simp [zS]
@[push_cast] theorem zTu (l : List Nat) (a b : Nat) : sub (zQ l) a b = zQ ((l.take b).drop a) := by simp [zQ, zEP]
@[push_cast] theorem zUd (l : List ByteArray) (a b : Nat) : sub (zS l) a b = zS ((l.take b).drop a) := by simp [zS, zEP]
theorem zBq {l : List Nat} {n : Nat} {x : Nat} (h : l[n]? = some x) : zFb (zQ l) n = [.v (.int .u32 (uv x))] := by unfold zQ; exact zBm _ _ _ _ h
theorem zDR {l : List ByteArray} {n : Nat} {x : ByteArray} (h : l[n]? = some x) : zFb (zS l) n = [.v (.string x)] := by unfold zS; exact zBm _ _ _ _ h
theorem zDn {α : Type} {l : List α} {n : Nat} (d : α) (h : n < l.length) : l[n]? = some (l.getD n d) := by rw [List.getD_eq_getElem?_getD, List.getElem?_eq_getElem h]; rfl
def zGn (s : ByteArray) : Bool := decide (1 ≤ s.size ∧ s.size ≤ 12 ∧ ∀ i, i < s.size → 97 ≤ zCg s i ∧ zCg s i ≤ 122)
theorem zKD {s : ByteArray} {i : Nat} (h : i < s.size) (hb : zCg s i < 97 ∨ 122 < zCg s i) : zGn s = false := by
 cases hc : zGn s with
 | false => rfl
 | true => simp only [zGn, decide_eq_true_eq] at hc; have := hc.2.2 i h; omega
theorem zRq {s : ByteArray} : s.size = 0 ↔ s = { data := #[] } := by
 cases s with
 | mk d => simp [ByteArray.size]
theorem zHt (s : ByteArray) (hb : s.size ≤ 9223372036854775807) : Fn Tryz.prog 281 [.v (.string s)] [] (.v (.bool (zGn s))) [] := by
 refine Fn.of (fn := Tryz.f281) (by kernel_rfl) rfl (by kernel_rfl) ⟨[.v (.string s), .v undef, .v undef, .v undef, .v undef, .v undef, .v undef, .v undef, .v undef, .v undef, .v undef, .v undef, .v undef, .v undef, .v undef, .v undef, .v undef, .v undef, .v undef, .v undef, .v undef, .v undef, .v undef, .v undef, .v undef, .v undef, .v undef], []⟩ rfl ?_
 repeat' first | (with_reducible first | refine zA ?_ | refine zB ?_ | refine zI ?_) | ((with_reducible refine zC fun KC J hJ hKC => ?_); simp (maxSteps := 9999999) only [push_cast, seval, ↓reduceIte]) | ((with_reducible refine hJ _ _ ?_); clear hJ hKC KC J)
 refine zAJ (γ := {i : Nat // i ≤ s.size ∧ ∀ j, j < i → 97 ≤ zCg s j ∧ zCg s j ≤ 122}) (fun i => ⟨[.v (.string s), .any, .any, .any, .any, .v (.int .i64 s.size), .v (.int .i64 i.1), .any, .any, .any, .any, .any, .any, .any, .any, .any, .any, .any, .any, .any, .any, .any, .any, .any, .any, .any, .any], []⟩) (fun i => s.size - i.1) ⟨0, by simp⟩ ⟨?_, Fq⟩ ?_
 ·exact Lq
 ·rintro ⟨i, hi, hn⟩
  by_cases hlt : (i : Int) < (s.size : Int)
  ·by_cases h1 : zCg s i < 97
   ·skip
    repeat' first | (with_reducible first | refine zA ?_ | refine zB ?_ | refine zb ?_ | refine zAC ?_ | refine zF ?_ | refine zJ ?_ | refine zI ?_) | ((with_reducible refine And.intro ?_ ?_); · exact Sq) | ((with_reducible refine zC fun KC J hJ hKC => ?_); simp (maxSteps := 9999999) only [push_cast, seval, ↓reduceIte, hlt, h1]) | ((with_reducible refine hJ _ _ ?_); clear hJ hKC KC J) | ((with_reducible refine zG ?_ ?_); · rfl)
    refine zE ?_
    simp (maxSteps := 9999999) only [push_cast, seval, ↓reduceIte, show Tryz.f281.results = #[(.tmp 2)] from rfl]
    rw [zKD (by omega) (.inl h1)]
    exact zK _
   by_cases h2 : 122 < zCg s i
   ·skip
    repeat' first | (with_reducible first | refine zA ?_ | refine zB ?_ | refine zb ?_ | refine zAC ?_ | refine zF ?_ | refine zJ ?_ | refine zI ?_) | ((with_reducible refine And.intro ?_ ?_); · exact Sq) | ((with_reducible refine zC fun KC J hJ hKC => ?_); simp (maxSteps := 9999999) only [push_cast, seval, ↓reduceIte, hlt, h1, h2]) | ((with_reducible refine hJ _ _ ?_); clear hJ hKC KC J) | ((with_reducible refine zG ?_ ?_); · rfl)
    refine zE ?_
    simp (maxSteps := 9999999) only [push_cast, seval, ↓reduceIte, show Tryz.f281.results = #[(.tmp 2)] from rfl]
    rw [zKD (by omega) (.inr h2)]
    exact zK _
   repeat' first | (with_reducible first | refine zA ?_ | refine zB ?_ | refine zP ?_ | refine zJ ?_ | refine zI ?_) | ((with_reducible refine And.intro ?_ ?_); · exact Sq) | ((with_reducible refine zC fun KC J hJ hKC => ?_); simp (maxSteps := 9999999) only [push_cast, seval, ↓reduceIte, hlt, h1, h2, zp (i := i) (n := s.size) (by omega) hb]) | ((with_reducible refine hJ _ _ ?_); clear hJ hKC KC J) | ((with_reducible refine zG ?_ ?_); · rfl) | ((with_reducible refine zH ?_ ?_); · rfl)
   refine ⟨⟨i + 1, by omega, fun j hj => ?_⟩, by simp only; omega, ?_, Fq⟩
   ·by_cases he : j = i
    ·subst he; omega
    ·exact hn j (by omega)
   ·exact Lq
  ·have hall : ∀ j, j < s.size → 97 ≤ zCg s j ∧ zCg s j ≤ 122 := fun j hj => hn j (by omega)
   have he := @zRq s
   by_cases h0 : s = { data := #[] }
   ·have h0' := he.2 h0
    have hd : decide (s = { data := #[] }) = true := by simp [h0]
    repeat' first | (with_reducible first | refine zA ?_ | refine zB ?_ | refine zm ?_ | refine zl ?_ | refine zF ?_ | refine zZ ?_) | ((with_reducible refine zC fun KC J hJ hKC => ?_); simp (maxSteps := 9999999) only [push_cast, seval, ↓reduceIte, hlt, hd]) | ((with_reducible refine hJ _ _ ?_); clear hJ hKC KC J) | ((with_reducible refine zH ?_ ?_); · rfl)
    refine zE ?_
    simp (maxSteps := 9999999) only [push_cast, seval, ↓reduceIte, show Tryz.f281.results = #[(.tmp 2)] from rfl]
    refine zAk (congrArg Value.bool (Bool.eq_iff_iff.2 ?_))
    simp only [zGn, decide_eq_true_eq, Bool.false_eq_true, false_iff]
    omega
   ·have h1 : 1 ≤ s.size := Nat.one_le_iff_ne_zero.2 fun h => h0 (he.1 h)
    have hd : decide (s = { data := #[] }) = false := by simp [h0]
    repeat' first | (with_reducible first | refine zA ?_ | refine zB ?_ | refine zm ?_ | refine zl ?_ | refine zF ?_ | refine zZ ?_) | ((with_reducible refine zC fun KC J hJ hKC => ?_); simp (maxSteps := 9999999) only [push_cast, seval, ↓reduceIte, hlt, hd]) | ((with_reducible refine hJ _ _ ?_); clear hJ hKC KC J) | ((with_reducible refine zH ?_ ?_); · rfl)
    refine zE ?_
    simp (maxSteps := 9999999) only [push_cast, seval, ↓reduceIte, show Tryz.f281.results = #[(.tmp 2)] from rfl]
    refine zAk (congrArg Value.bool (Bool.eq_iff_iff.2 ?_))
    simp only [zGn, decide_eq_true_eq]
    exact ⟨fun h => ⟨h1, by omega, hall⟩, fun h => by omega⟩
theorem zMk (f : Bool) (xs : List ByteArray) (s : ByteArray) (hb : xs.length ≤ 9223372036854775807) : Fn Tryz.prog 294 [.sl f 1 (zS xs), .v (.string s)] [] (.v (.int .i64 (zDt (fun x => decide (s = x)) xs))) [] := by
 refine Fn.of (fn := Tryz.f294) (by kernel_rfl) rfl (by kernel_rfl) ⟨[.sl f 1 (zS xs), .v (.string s), .v undef, .v undef, .v undef, .v undef, .v undef, .v undef, .v undef, .v undef, .v undef, .v undef, .v undef, .v undef, .v undef, .v undef, .v undef, .v undef, .v undef], []⟩ rfl ?_
 repeat' first | (with_reducible first | refine zA ?_ | refine zB ?_ | refine zI ?_) | ((with_reducible refine zC fun KC J hJ hKC => ?_); simp (maxSteps := 9999999) only [push_cast, seval, ↓reduceIte]) | ((with_reducible refine hJ _ _ ?_); clear hJ hKC KC J)
 refine zAJ (γ := {i : Nat // i ≤ xs.length ∧ ∀ (j : Nat) (hj : j < xs.length), j < i → decide (s = xs[j]) = false}) (fun i => ⟨[.sl f 1 (zS xs), .v (.string s), .any, .any, .any, .any, .any, .v (.int .i64 xs.length), .v (.int .i64 i.1), .any, .any, .any, .any, .any, .any, .any, .any, .any, .any], []⟩) (fun i => xs.length - i.1) ⟨0, by simp⟩ ⟨?_, Fq⟩ ?_
 ·exact Lq
 ·rintro ⟨i, hi, hn⟩
  by_cases hlt : (i : Int) < (xs.length : Int)
  ·have hx : xs[i]? = some xs[i] := List.getElem?_eq_getElem (by omega)
   repeat' first | (with_reducible first | refine zA ?_ | refine zB ?_ | refine zb ?_ | refine zP ?_ | refine zAC ?_ | refine zF ?_ | refine zJ ?_ | refine zI ?_) | ((with_reducible refine And.intro ?_ ?_); · exact Sq) | ((with_reducible refine zC fun KC J hJ hKC => ?_); simp (maxSteps := 9999999) only [push_cast, seval, ↓reduceIte, hlt, zDR hx, zp (i := i) (n := xs.length) (by omega) hb]) | ((with_reducible refine hJ _ _ ?_); clear hJ hKC KC J) | ((with_reducible refine zG ?_ ?_); · rfl) | (refine zAa rfl (fun h => ?_) (fun h => ?_) <;> try simp only [decide_eq_true_eq, decide_eq_false_iff_not, Bool.not_eq_true', Bool.not_eq_false', beq_iff_eq, bne_iff_ne, ne_eq, Bool.not_eq_true, Bool.or_eq_true, Bool.and_eq_true, Bool.or_eq_false_iff, Bool.and_eq_false_imp, beq_eq_false_iff_ne, bne_eq_false_iff_eq] at h)
   ·refine zE ?_
    simp (maxSteps := 9999999) only [push_cast, seval, ↓reduceIte, show Tryz.f294.results = #[(.tmp 4)] from rfl]
    exact zAk (by rw [zCt (by omega) (by simpa using h) hn])
   ·refine ⟨⟨i + 1, by omega, fun j hj hji => ?_⟩, by simp only; omega, ?_, Fq⟩
    ·by_cases he : j = i
     ·subst he; simpa using h
     ·exact hn j hj (by omega)
    ·exact Lq
  ·skip
   repeat' first | (with_reducible first | refine zA ?_ | refine zB ?_ | refine zm ?_ | refine zl ?_ | refine zF ?_ | refine zZ ?_) | ((with_reducible refine zC fun KC J hJ hKC => ?_); simp (maxSteps := 9999999) only [push_cast, seval, ↓reduceIte, hlt]) | ((with_reducible refine hJ _ _ ?_); clear hJ hKC KC J) | ((with_reducible refine zH ?_ ?_); · rfl)
   refine zE ?_
   simp (maxSteps := 9999999) only [push_cast, seval, ↓reduceIte, show Tryz.f294.results = #[(.tmp 4)] from rfl]
   exact zAk (by rw [zBf (fun j hj => hn j hj (by omega))])
def zSi (s : ByteArray) (xs : List ByteArray) : Bool := xs.any (fun x => decide (s = x))
theorem zDU (f : Bool) (xs : List ByteArray) (s : ByteArray) (hb : xs.length ≤ 9223372036854775807) : Fn Tryz.prog 282 [.sl f 1 (zS xs), .v (.string s)] [] (.v (.bool (zSi s xs))) [] := by
 refine Fn.of (fn := Tryz.f282) (by kernel_rfl) rfl (by kernel_rfl) ⟨[.sl f 1 (zS xs), .v (.string s), .v undef, .v undef, .v undef, .v undef, .v undef, .v undef, .v undef], []⟩ rfl ?_
 repeat' first | (with_reducible first | refine zA ?_ | refine zB ?_ | refine zF ?_) | ((first | with_reducible refine zC fun KC J hJ hKC => ?_ | (refine' hKC _ _ _ _ _ (zD (zMk _ _ _ ?_) rfl rfl rfl ?_ ?_); (rotate_left 4); (· exact Lq); (rotate_left 1); (iterate 1 (· exact Hq)))); simp (maxSteps := 9999999) only [push_cast, seval, ↓reduceIte]) | ((with_reducible refine hJ _ _ ?_); clear hJ hKC KC J)
 refine zE ?_
 simp (maxSteps := 9999999) only [push_cast, seval, ↓reduceIte, show Tryz.f282.results = #[(.tmp 4)] from rfl]
 exact zAk (congrArg Value.bool zEK)
def fl (us : List Nat) (a b : Nat) : Bool := (us.getD a 0).testBit b
def U32 (us : List Nat) : Prop := ∀ u ∈ us, u < 2 ^ 32
theorem U32.get {us : List Nat} (h : U32 us) {i : Nat} (hi : i < us.length) : us.getD i 0 < 2 ^ 32 := by
 rw [List.getD_eq_getElem?_getD, List.getElem?_eq_getElem hi]; exact h _ (List.getElem_mem _)
theorem zDD (f g : Bool) (ns : List ByteArray) (us : List Nat) (a b : Nat) (hu : U32 us) (ha : a < us.length) :
  Fn Tryz.prog 272 [.agg [.sl f 1 (zS ns), .sl g 1 (zQ us)], .v (.int .i64 (a : Int)), .v (.int .i64 (b : Int))] [] (.v (.bool (fl us a b))) [] := by
 have hx := zDn 0 ha
 have h1 : us.getD a 0 >>> b < 2 ^ 32 := Nat.lt_of_le_of_lt (Nat.shiftRight_le _ _) (hu.get ha)
 refine Fn.of (fn := Tryz.f272) (by kernel_rfl) rfl (by kernel_rfl) ⟨[.agg [.sl f 1 (zS ns), .sl g 1 (zQ us)], .v (.int .i64 (a : Int)), .v (.int .i64 (b : Int)), .v undef, .v undef, .v undef, .v undef, .v undef, .v undef, .v undef, .v undef, .v undef, .v undef, .v undef, .v undef, .v undef], []⟩ rfl ?_
 repeat' first | (with_reducible first | refine zA ?_ | refine zB ?_ | refine zF ?_) | ((with_reducible refine And.intro ?_ ?_); · exact Sq) | ((with_reducible refine zC fun KC J hJ hKC => ?_); simp (maxSteps := 9999999) only [push_cast, seval, ↓reduceIte, zBq hx, zLe (hu.get ha) (b := b), zPB h1]) | ((with_reducible refine hJ _ _ ?_); clear hJ hKC KC J)
 refine zE ?_
 simp (maxSteps := 9999999) only [push_cast, seval, ↓reduceIte, show Tryz.f272.results = #[(.tmp 6)] from rfl]
 refine zAk (congrArg Value.bool ?_)
 rw [zOW, fl]
 cases (us.getD a 0).testBit b <;> rfl
def zEo (ns : List ByteArray) (us : List Nat) (i : Nat) : Bool := zGn (ns.getD i { data := #[] }) && !zSi (ns.getD i { data := #[] }) (ns.take i) && decide (us.getD i 0 >>> us.length = 0)
def zGA (ns : List ByteArray) (us : List Nat) : Bool := decide (1 ≤ us.length ∧ us.length ≤ 8 ∧ ns.length = us.length) && (List.range us.length).all (zEo ns us)
theorem zLh {ns : List ByteArray} {us : List Nat} (h : ¬ (1 ≤ us.length ∧ us.length ≤ 8 ∧ ns.length = us.length)) : zGA ns us = false := by simp [zGA, h]
theorem zLg {ns : List ByteArray} {us : List Nat} {i : Nat} (hi : i < us.length) (h : zEo ns us i = false) : zGA ns us = false := by
 have : (List.range us.length).all (zEo ns us) = false := by
  rw [List.all_eq_false]
  exact ⟨i, by simpa using hi, by simp [h]⟩
 simp [zGA, this]
theorem zRF {ns : List ByteArray} {us : List Nat} (h : 1 ≤ us.length ∧ us.length ≤ 8 ∧ ns.length = us.length) (ha : ∀ i, i < us.length → zEo ns us i = true) : zGA ns us = true := by
 simp only [zGA, Bool.and_eq_true, decide_eq_true_eq, List.all_eq_true]
 exact ⟨h, fun i hi => ha i (by simpa using hi)⟩
theorem zGh {ns : List ByteArray} {us : List Nat} (h : zGA ns us = true) : (1 ≤ us.length ∧ us.length ≤ 8 ∧ ns.length = us.length) ∧ ∀ i, i < us.length → zEo ns us i = true := by
 simp only [zGA, Bool.and_eq_true, decide_eq_true_eq, List.all_eq_true] at h
 exact ⟨h.1, fun i hi => h.2 i (by simpa using hi)⟩
def Szs (ns : List ByteArray) : Prop := ∀ s ∈ ns, s.size ≤ 9223372036854775807
theorem Szs.get {ns : List ByteArray} (h : Szs ns) {i : Nat} (hi : i < ns.length) : (ns.getD i { data := #[] }).size ≤ 9223372036854775807 := by
 rw [List.getD_eq_getElem?_getD, List.getElem?_eq_getElem hi]; exact h _ (List.getElem_mem _)
theorem zGs (f g : Bool) (ns : List ByteArray) (us : List Nat) (hs : Szs ns) (hu : U32 us) :
  Fn Tryz.prog 235 [.agg [.sl f 1 (zS ns), .sl g 1 (zQ us)]] [] (.v (.bool (zGA ns us))) [] := by
 refine Fn.of (fn := Tryz.f235) (by kernel_rfl) rfl (by kernel_rfl) ⟨[.agg [.sl f 1 (zS ns), .sl g 1 (zQ us)], .v undef, .v undef, .v undef, .v undef, .v undef, .v undef, .v undef, .v undef, .v undef, .v undef, .v undef, .v undef, .v undef, .v undef, .v undef, .v undef, .v undef, .v undef, .v undef, .v undef, .v undef, .v undef, .v undef, .v undef, .v undef, .v undef, .v undef, .v undef, .v undef, .v undef, .v undef, .v undef, .v undef, .v undef, .v undef, .v undef, .v undef, .v undef, .v undef, .v undef, .v undef, .v undef, .v undef, .v undef, .v undef, .v undef, .v undef, .v undef, .v undef, .v undef, .v undef], []⟩ rfl ?_
 by_cases h1 : (us.length : Int) < 1
 ·skip
  repeat' first | (with_reducible first | refine zA ?_ | refine zB ?_ | refine zb ?_ | refine zF ?_) | ((with_reducible refine zC fun KC J hJ hKC => ?_); simp (maxSteps := 9999999) only [push_cast, seval, ↓reduceIte, h1]) | ((with_reducible refine hJ _ _ ?_); clear hJ hKC KC J) | ((with_reducible refine zG ?_ ?_); · rfl)
  refine zE ?_
  simp (maxSteps := 9999999) only [push_cast, seval, ↓reduceIte, show Tryz.f235.results = #[(.tmp 2)] from rfl]
  rw [zLh (by omega)]
  exact zK _
 by_cases h2 : (8 : Int) < us.length
 ·skip
  repeat' first | (with_reducible first | refine zA ?_ | refine zB ?_ | refine zb ?_ | refine zF ?_) | ((with_reducible refine zC fun KC J hJ hKC => ?_); simp (maxSteps := 9999999) only [push_cast, seval, ↓reduceIte, h1, h2]) | ((with_reducible refine hJ _ _ ?_); clear hJ hKC KC J) | ((with_reducible refine zG ?_ ?_); · rfl)
  refine zE ?_
  simp (maxSteps := 9999999) only [push_cast, seval, ↓reduceIte, show Tryz.f235.results = #[(.tmp 2)] from rfl]
  rw [zLh (by omega)]
  exact zK _
 by_cases h3 : ns.length = us.length
 ·have h3' : ((ns.length : Int) != (us.length : Int)) = false := by simp [h3]
  repeat' first | (with_reducible first | refine zA ?_ | refine zB ?_ | refine zJ ?_ | refine zI ?_) | ((with_reducible refine zC fun KC J hJ hKC => ?_); simp (maxSteps := 9999999) only [push_cast, seval, ↓reduceIte, h1, h2, h3']) | ((with_reducible refine hJ _ _ ?_); clear hJ hKC KC J) | ((with_reducible refine zH ?_ ?_); · rfl)
  refine zAJ (γ := {i : Nat // i ≤ us.length ∧ ∀ j, j < i → zEo ns us j = true}) (fun i => ⟨[.any, .ptr 0 0 0, .any, .v (.int .i64 us.length), .any, .any, .any, .any, .any, .any, .any, .any, .any, .any, .any, .any, .any, .any, .any, .any, .any, .any, .any, .sl f 1 (zS ns), .v (.int .i64 ns.length), .v (.int .i64 i.1), .any, .any, .any, .any, .any, .any, .any, .any, .any, .any, .any, .any, .any, .any, .any, .any, .any, .any, .any, .any, .any, .any, .any, .any, .any, .any], [.ent ⟨0, none, 25, [.sl f 1 (zS ns), .sl g 1 (zQ us)], .cells⟩]⟩) (fun i => us.length - i.1) ⟨0, by simp⟩ ⟨?_, Fq⟩ ?_
  ·exact Lq
  ·rintro ⟨i, hi, hn⟩
   by_cases hlt : (i : Int) < (ns.length : Int)
   ·have hlu : i < us.length := by omega
    have hx := zDn ({ data := #[] } : ByteArray) (show i < ns.length by omega)
    have hy := zDn 0 hlu
    have hsz := hs.get (show i < ns.length by omega)
    have hul := hu.get hlu
    by_cases c1 : zGn (ns.getD i { data := #[] }) = true
    ·by_cases c2 : zSi (ns.getD i { data := #[] }) (ns.take i) = true
     ·skip
      repeat' first | (with_reducible first | refine zA ?_ | refine zB ?_ | refine zb ?_ | refine zAC ?_ | refine zF ?_ | refine zJ ?_ | refine zI ?_) | ((with_reducible refine And.intro ?_ ?_); · exact Sq) | ((first | with_reducible refine zC fun KC J hJ hKC => ?_ | (refine' hKC _ _ _ _ _ (zD (zHt _ ?_) rfl rfl rfl ?_ ?_); (rotate_left 2); (· exact Lq); (rotate_left 1); (iterate 1 (· exact Hq))) | (refine' hKC _ _ _ _ _ (zD (zDU _ _ _ ?_) rfl rfl rfl ?_ ?_); (rotate_left 4); (· exact Lq); (rotate_left 1); (iterate 1 (· exact Hq)))); simp (maxSteps := 9999999) only [push_cast, seval, ↓reduceIte, hlt, zDR hx, zBq hy, c1, c2]) | ((with_reducible refine hJ _ _ ?_); clear hJ hKC KC J) | ((with_reducible refine zG ?_ ?_); · rfl)
      refine zE ?_
      simp (maxSteps := 9999999) only [push_cast, seval, ↓reduceIte, show Tryz.f235.results = #[(.tmp 2)] from rfl]
      rw [zLg hlu (by simp only [zEo, c1, c2]; rfl)]
      exact zK _
     have c2' : zSi (ns.getD i { data := #[] }) (ns.take i) = false := by simpa using c2
     by_cases c3 : us.getD i 0 >>> us.length = 0
     ·skip
      repeat' first | (with_reducible first | refine zA ?_ | refine zB ?_ | refine zP ?_ | refine zJ ?_ | refine zI ?_) | ((with_reducible refine And.intro ?_ ?_); · exact Sq) | ((first | with_reducible refine zC fun KC J hJ hKC => ?_ | (refine' hKC _ _ _ _ _ (zD (zHt _ ?_) rfl rfl rfl ?_ ?_); (rotate_left 2); (· exact Lq); (rotate_left 1); (iterate 1 (· exact Hq))) | (refine' hKC _ _ _ _ _ (zD (zDU _ _ _ ?_) rfl rfl rfl ?_ ?_); (rotate_left 4); (· exact Lq); (rotate_left 1); (iterate 1 (· exact Hq)))); simp (maxSteps := 9999999) only [push_cast, seval, ↓reduceIte, hlt, zDR hx, zBq hy, c1, c2', zLe hul (b := us.length), c3, zp (i := i) (n := us.length) (by omega) (by omega)]) | ((with_reducible refine hJ _ _ ?_); clear hJ hKC KC J) | ((with_reducible refine zG ?_ ?_); · rfl) | ((with_reducible refine zH ?_ ?_); · rfl)
      refine ⟨⟨i + 1, by omega, fun j hj => ?_⟩, by simp only; omega, ?_, Fq⟩
      ·by_cases he : j = i
       ·subst he; simp only [zEo, c1, c2', c3]; rfl
       ·exact hn j (by omega)
      ·exact Lq
     ·have c3' : decide (us.getD i 0 >>> us.length = 0) = false := by simpa using c3
      repeat' first | (with_reducible first | refine zA ?_ | refine zB ?_ | refine zb ?_ | refine zAC ?_ | refine zF ?_ | refine zJ ?_ | refine zI ?_) | ((with_reducible refine And.intro ?_ ?_); · exact Sq) | ((first | with_reducible refine zC fun KC J hJ hKC => ?_ | (refine' hKC _ _ _ _ _ (zD (zHt _ ?_) rfl rfl rfl ?_ ?_); (rotate_left 2); (· exact Lq); (rotate_left 1); (iterate 1 (· exact Hq))) | (refine' hKC _ _ _ _ _ (zD (zDU _ _ _ ?_) rfl rfl rfl ?_ ?_); (rotate_left 4); (· exact Lq); (rotate_left 1); (iterate 1 (· exact Hq)))); simp (maxSteps := 9999999) only [push_cast, seval, ↓reduceIte, hlt, zDR hx, zBq hy, c1, c2', zLe hul (b := us.length), c3']) | ((with_reducible refine hJ _ _ ?_); clear hJ hKC KC J) | ((with_reducible refine zG ?_ ?_); · rfl)
      refine zE ?_
      simp (maxSteps := 9999999) only [push_cast, seval, ↓reduceIte, show Tryz.f235.results = #[(.tmp 2)] from rfl]
      rw [zLg hlu (by simp only [zEo, c1, c2', c3']; rfl)]
      exact zK _
    ·have c1' : zGn (ns.getD i { data := #[] }) = false := by simpa using c1
     repeat' first | (with_reducible first | refine zA ?_ | refine zB ?_ | refine zb ?_ | refine zAC ?_ | refine zF ?_ | refine zJ ?_ | refine zI ?_) | ((with_reducible refine And.intro ?_ ?_); · exact Sq) | ((first | with_reducible refine zC fun KC J hJ hKC => ?_ | (refine' hKC _ _ _ _ _ (zD (zHt _ ?_) rfl rfl rfl ?_ ?_); (rotate_left 2); (· exact Lq); (rotate_left 1); (iterate 1 (· exact Hq)))); simp (maxSteps := 9999999) only [push_cast, seval, ↓reduceIte, hlt, zDR hx, zBq hy, c1']) | ((with_reducible refine hJ _ _ ?_); clear hJ hKC KC J) | ((with_reducible refine zG ?_ ?_); · rfl)
     refine zE ?_
     simp (maxSteps := 9999999) only [push_cast, seval, ↓reduceIte, show Tryz.f235.results = #[(.tmp 2)] from rfl]
     rw [zLg hlu (by simp only [zEo, c1']; rfl)]
     exact zK _
   ·skip
    repeat' first | (with_reducible first | refine zA ?_ | refine zB ?_ | refine zm ?_ | refine zl ?_ | refine zF ?_ | refine zZ ?_) | ((with_reducible refine zC fun KC J hJ hKC => ?_); simp (maxSteps := 9999999) only [push_cast, seval, ↓reduceIte, hlt]) | ((with_reducible refine hJ _ _ ?_); clear hJ hKC KC J) | ((with_reducible refine zH ?_ ?_); · rfl)
    refine zE ?_
    simp (maxSteps := 9999999) only [push_cast, seval, ↓reduceIte, show Tryz.f235.results = #[(.tmp 2)] from rfl]
    rw [zRF ⟨by omega, by omega, h3⟩ (fun j hj => hn j (by omega))]
    exact zK _
 ·have h3' : ((ns.length : Int) != (us.length : Int)) = true := by simp; omega
  repeat' first | (with_reducible first | refine zA ?_ | refine zB ?_ | refine zb ?_ | refine zF ?_) | ((with_reducible refine zC fun KC J hJ hKC => ?_); simp (maxSteps := 9999999) only [push_cast, seval, ↓reduceIte, h1, h2, h3']) | ((with_reducible refine hJ _ _ ?_); clear hJ hKC KC J) | ((with_reducible refine zG ?_ ?_); · rfl)
  refine zE ?_
  simp (maxSteps := 9999999) only [push_cast, seval, ↓reduceIte, show Tryz.f235.results = #[(.tmp 2)] from rfl]
  rw [zLh (by omega)]
  exact zK _
def Low (us : List Nat) : Prop := ∀ a, a < us.length → us.getD a 0 < 2 ^ us.length
theorem zNm {ns : List ByteArray} {us : List Nat} (h : zGA ns us = true) : Low us := fun a ha => by
 have := (zGh h).2 a ha
 simp only [zEo, Bool.and_eq_true, decide_eq_true_eq] at this
 have h2 := this.2
 rw [Nat.shiftRight_eq_div_pow] at h2
 exact (Nat.div_eq_zero_iff_lt (Nat.two_pow_pos _)).1 h2
theorem Low.bit {us : List Nat} (h : Low us) {a : Nat} (ha : a < us.length) {i : Nat} (hi : fl us a i = true) : i < us.length := by
 rcases Nat.lt_or_ge i us.length with h1 | h1
 ·exact h1
 ·exfalso
  have : (us.getD a 0).testBit i = false := Nat.testBit_lt_two_pow (Nat.lt_of_lt_of_le (h a ha) (Nat.pow_le_pow_right (by decide) h1))
  rw [fl, this] at hi; cases hi
def Ord (us : List Nat) : Prop := (∀ a, a < us.length → fl us a a = true) ∧ (∀ a, a < us.length → ∀ b, b < us.length → ¬ a = b → ¬ (fl us a b = true ∧ fl us b a = true)) ∧
 (∀ a, a < us.length → ∀ b, b < us.length → ∀ c, c < us.length → fl us a b = true → fl us b c = true → fl us a c = true)
instance (us : List Nat) : Decidable (Ord us) := by unfold Ord; infer_instance
def zDv (us : List Nat) (a b : Nat) : Bool := (if a = b then fl us a a else !(fl us a b && fl us b a)) && (!fl us a b || decide (anB (us.getD b 0) (us.getD a 0) = 0))
theorem zLy {us : List Nat} (hu : U32 us) (hl : Low us) : (∀ a, a < us.length → ∀ b, b < us.length → zDv us a b = true) ↔ Ord us := by
 constructor
 ·intro h
  refine ⟨fun a ha => ?_, fun a ha b hb hab ⟨h1, h2⟩ => ?_, fun a ha b hb c hc h1 h2 => ?_⟩
  ·have := h a ha a ha
   simp only [zDv, if_true, Bool.and_eq_true] at this
   exact this.1
  ·have := h a ha b hb
   simp only [zDv, if_neg hab, h1, h2] at this
   simp at this
  ·have := h a ha b hb
   simp only [zDv, h1, Bool.not_true, Bool.false_or, Bool.and_eq_true, decide_eq_true_eq] at this
   exact (zMt (hu.get hb) (hu.get ha)).1 this.2 c h2
 ·rintro ⟨h1, h2, h3⟩ a ha b hb
  simp only [zDv, Bool.and_eq_true, Bool.or_eq_true, Bool.not_eq_true', decide_eq_true_eq]
  constructor
  ·split
   ·exact h1 a ha
   ·rename_i hab
    have := h2 a ha b hb hab
    cases hx : fl us a b with
    | false => rfl
    | true =>
     cases hy : fl us b a with
     | false => rfl
     | true => exact absurd ⟨hx, hy⟩ this
  ·cases hx : fl us a b with
   | false => exact .inl rfl
   | true => exact .inr ((zMt (hu.get hb) (hu.get ha)).2 fun i hi => h3 a ha b hb i (hl.bit hb hi) hx hi)
def zBj (us : List Nat) (a : Nat) : Nat → Nat
 | 0 => 0
 | i + 1 => zBj us a i ||| (((us.getD i 0 >>> a) &&& 1) <<< i)
theorem zKg (us : List Nat) (a : Nat) : ∀ (n j : Nat), (zBj us a n).testBit j = (decide (j < n) && fl us j a)
 | 0, j => by simp [zBj]
 | n + 1, j => by
  rw [zBj, Nat.testBit_or, zKg us a n j, zOW, Nat.testBit_shiftLeft]
  by_cases h : j = n
  ·subst h
   have e : decide (j < j) = false := by simp
   have e2 : decide (j < j + 1) = true := by simp
   rw [e, e2]
   simp only [Bool.false_and, Bool.false_or, Bool.true_and, fl, ge_iff_le, Nat.le_refl, decide_true, Nat.sub_self]
   cases (us.getD j 0).testBit a <;> simp
  ·by_cases h2 : j < n
   ·have e : decide (j < n) = true := by simp [h2]
    have e2 : decide (j < n + 1) = true := by simp; omega
    have e3 : decide (j ≥ n) = false := by simp; omega
    rw [e, e2, e3]; simp
   ·have e : decide (j < n) = false := by simp; omega
    have e2 : decide (j < n + 1) = false := by simp; omega
    rw [e, e2]
    simp only [Bool.false_and, Bool.false_or]
    have hj : j - n ≠ 0 := by omega
    split
    ·obtain ⟨m, hm⟩ := Nat.exists_eq_succ_of_ne_zero hj
     rw [hm, Nat.succ_eq_add_one, Nat.testBit_succ]
     simp
    ·simp
theorem zIh (us : List Nat) (a n : Nat) : zBj us a n < 2 ^ n := by
 refine Nat.lt_pow_two_of_testBit _ fun i hi => ?_
 rw [zKg]
 have : decide (i < n) = false := by simp; omega
 simp [this]
def zOq (us : List Nat) (a b : Nat) : Int := zDt (fun u => decide (u = us.getD a 0 &&& us.getD b 0)) us
def zOd (us : List Nat) (a b : Nat) : Int := zDt (fun i => decide (zBj us i us.length = (zBj us a us.length &&& zBj us b us.length))) (List.range us.length)
def Lat (us : List Nat) : Prop := ∀ a, a < us.length → ∀ b, b < us.length → 0 ≤ zOq us a b ∧ 0 ≤ zOd us a b
instance (us : List Nat) : Decidable (Lat us) := by unfold Lat; infer_instance
def zAA (ns : List ByteArray) (us : List Nat) : Int := if zGA ns us = true then if Ord us then if Lat us then 0 else 3 else 2 else 1
def pA (n k : Nat) : Nat := k / n
def pB (n k : Nat) : Nat := k % n
theorem zTr {n i j : Nat} (h : j < n) : pA n (i * n + j) = i := by
 unfold pA
 rw [Nat.mul_comm, Nat.mul_add_div (by omega), Nat.div_eq_of_lt h]; rfl
theorem zTh {n i j : Nat} (h : j < n) : pB n (i * n + j) = j := by
 unfold pB
 rw [Nat.mul_comm, Nat.mul_add_mod, Nat.mod_eq_of_lt h]
theorem zQu {n k : Nat} (h : k < n * n) : pA n k < n := Nat.div_lt_of_lt_mul h
theorem zRN {n k : Nat} (h : k < n * n) : pB n k < n := Nat.mod_lt _ (Nat.pos_of_ne_zero fun h0 => by subst h0; simp at h)
theorem zFL {n : Nat} {p : Nat → Nat → Prop} : (∀ k, k < n * n → p (pA n k) (pB n k)) ↔ ∀ a, a < n → ∀ b, b < n → p a b := by
 constructor
 ·intro h a ha b hb
  have h1 : a * n + b < n * n := Nat.lt_of_lt_of_le (Nat.add_lt_add_left hb _) (by rw [← Nat.succ_mul]; exact Nat.mul_le_mul_right _ ha)
  have := h _ h1
  rw [zTr hb, zTh hb] at this
  exact this
 ·exact fun h k hk => h _ (zQu hk) _ (zRN hk)
theorem zMY (n : Nat) : Fn Tryz.prog 237 [.v (.int .i64 (n : Int))] [] (.fn 283 [.fad [.v (.int .i64 (n : Int))]]) [] := by
 refine Fn.of (fn := Tryz.f237) (by kernel_rfl) rfl (by kernel_rfl) ⟨[.v (.int .i64 (n : Int)), .v undef, .v undef, .v undef], []⟩ rfl ?_
 repeat' first | (with_reducible first | refine zA ?_ | refine zB ?_) | ((with_reducible refine zC fun KC J hJ hKC => ?_); simp (maxSteps := 9999999) only [push_cast, seval, ↓reduceIte]) | ((with_reducible refine hJ _ _ ?_); clear hJ hKC KC J)
 refine zAe 0 rfl (by simp (maxSteps := 9999999) only [push_cast, seval, ↓reduceIte]) ?_
 simp (maxSteps := 9999999) only [push_cast, seval, ↓reduceIte, zAK, zi, fr3, fr2, fr1, fr0, zq, zn]
 refine zF ?_
 refine zE ?_
 simp (maxSteps := 9999999) only [push_cast, seval, ↓reduceIte, show Tryz.f237.results = #[(.tmp 2)] from rfl]
 exact Lq
theorem zMe (n : Nat) (hl : n ≤ 1000) :
  zSQ Tryz.prog 283 [.fad [.v (.int .i64 (n : Int))]] (n * n) (fun k => [.v (.int .i64 ((pA n k : Nat) : Int)), .v (.int .i64 ((pB n k : Nat) : Int))]) := by
 intro m inv ok frr rr hrec hcl hlen hy t ht
 refine Fn.of (fn := Tryz.f283) (by kernel_rfl) rfl (by kernel_rfl) ⟨[.kref false m 0, .fad [.v (.int .i64 (n : Int))], .v undef, .v undef, .v undef, .v undef, .v undef, .v undef, .v undef, .v undef, .v undef, .v undef, .v undef, .v undef, .v undef, .v undef, .v undef, .v undef, .v undef, .v undef], inv 0⟩ rfl ?_
 repeat' first | (with_reducible first | refine zA ?_ | refine zB ?_ | refine zI ?_) | ((with_reducible refine zC fun KC J hJ hKC => ?_); simp (maxSteps := 9999999) only [push_cast, seval, ↓reduceIte]) | ((with_reducible refine hJ _ _ ?_); clear hJ hKC KC J)
 refine zAJ (γ := {i : Nat // i ≤ n ∧ ∀ k, k < i * n → ok k = true}) (fun i => ⟨[.kref false m 0, .fad [.v (.int .i64 (n : Int))], .any, .any, .any, .v (.int .i64 (n : Int)), .v (.int .i64 i.1), .any, .any, .any, .any, .any, .any, .any, .any, .any, .any, .any, .any, .any], inv (i.1 * n)⟩) (fun i => n - i.1) ⟨0, by simp⟩ ⟨?_, ?_⟩ ?_
 ·exact Lq
 ·simp only [Nat.zero_mul]; exact Fq
 ·rintro ⟨i, hi, hok⟩
  by_cases hlt : (i : Int) < (n : Int)
  ·skip
   repeat' first | (with_reducible first | refine zA ?_ | refine zB ?_ | refine zJ ?_ | refine zI ?_) | ((with_reducible refine zC fun KC J hJ hKC => ?_); simp (maxSteps := 9999999) only [push_cast, seval, ↓reduceIte, hlt]) | ((with_reducible refine hJ _ _ ?_); clear hJ hKC KC J) | ((with_reducible refine zG ?_ ?_); · rfl)
   refine zAJ (γ := {j : Nat // j ≤ n ∧ ∀ k, k < i * n + j → ok k = true}) (fun j => ⟨[.kref false m 0, .fad [.v (.int .i64 (n : Int))], .any, .v (.int .i64 i), .any, .v (.int .i64 (n : Int)), .v (.int .i64 i), .any, .any, .v (.int .i64 (n : Int)), .v (.int .i64 j.1), .any, .any, .any, .any, .any, .any, .any, .any, .any], inv (i * n + j.1)⟩) (fun j => n - j.1) ⟨0, by simpa using hok⟩ ⟨?_, ?_⟩ ?_
   ·exact Lq
   ·exact Fq
   ·rintro ⟨j, hj, hokj⟩
    by_cases hlj : (j : Int) < (n : Int)
    ·have hjn : j < n := by omega
     have hin : i < n := by omega
     have hk : i * n + j < n * n := Nat.lt_of_lt_of_le (Nat.add_lt_add_left hjn _) (by rw [← Nat.succ_mul]; exact Nat.mul_le_mul_right _ hin)
     have hyi := hy (i * n + j) hk hokj
     simp only [zTr hjn, zTh hjn] at hyi
     have hL : (inv (i * n + j + 1)).length = (inv (i * n + j)).length := by rw [hlen, hlen]
     have hset := zFK (rest := [Slot.free]) hL
     obtain ⟨k, hkk⟩ : ∃ k, i * n + j = k := ⟨_, rfl⟩
     have hkk1 : i * n + (j + 1) = k + 1 := by omega
     rw [hkk] at hyi hL hset hk hokj
     cases hoki : ok k with
     | true =>
      rw [hoki] at hyi
      repeat' first | (with_reducible first | refine zA ?_ | refine zB ?_ | refine zP ?_ | refine zJ ?_ | refine zI ?_) | ((first | with_reducible refine zC fun KC J hJ hKC => ?_ | (refine hKC _ _ _ _ _ (zOb hyi (hrec k) (hcl k) (hcl (k + 1)) hL rfl (Nat.le_refl _) rfl rfl rfl rfl ?_))); simp (maxSteps := 9999999) only [push_cast, seval, ↓reduceIte, hlj, hkk, hset, zp (i := j) (n := n) (by omega) (by omega)]) | ((with_reducible refine hJ _ _ ?_); clear hJ hKC KC J) | ((with_reducible refine zG ?_ ?_); · rfl) | ((with_reducible refine zH ?_ ?_); · rfl)
      refine ⟨⟨j + 1, by omega, fun q hq => ?_⟩, by simp only; omega, ?_, ?_⟩
      ·by_cases he : q = k
       ·rw [he]; exact hoki
       ·exact hokj q (by omega)
      ·exact Lq
      ·simp only [hkk1]; exact Fq
     | false =>
      rw [hoki] at hyi
      repeat' first | (with_reducible first | refine zA ?_ | refine zB ?_ | refine zb ?_ | refine zAC ?_ | refine zF ?_ | refine zJ ?_ | refine zI ?_) | ((first | with_reducible refine zC fun KC J hJ hKC => ?_ | (refine hKC _ _ _ _ _ (zOb hyi (hrec k) (hcl k) (hcl (k + 1)) hL rfl (Nat.le_refl _) rfl rfl rfl rfl ?_))); simp (maxSteps := 9999999) only [push_cast, seval, ↓reduceIte, hlj, hkk, hset, zp (i := j) (n := n) (by omega) (by omega)]) | ((with_reducible refine hJ _ _ ?_); clear hJ hKC KC J) | ((with_reducible refine zG ?_ ?_); · rfl)
      have hni : t = k + 1 := by
       rcases ht with ⟨h1, h2⟩ | ⟨q, h1, h2, h3, h4⟩
       ·have := h2 k (by omega); rw [hoki] at this; cases this
       ·rcases Nat.lt_trichotomy q k with h | h | h
        ·have := hokj q h; rw [h3] at this; cases this
        ·omega
        ·have := h4 k h; rw [hoki] at this; cases this
      rw [hni]
      exact zLI 1 (.inr rfl) rfl rfl (hcl _) (by rw [hlen, hlen])
    ·have hjn : j = n := by omega
     have hkk : i * n + j = (i + 1) * n := by rw [hjn, Nat.succ_mul]
     repeat' first | (with_reducible first | refine zA ?_ | refine zB ?_ | refine zm ?_ | refine zP ?_ | refine zl ?_ | refine zZ ?_) | ((with_reducible refine zC fun KC J hJ hKC => ?_); simp (maxSteps := 9999999) only [push_cast, seval, ↓reduceIte, hlj, hkk, zp (i := i) (n := n) (by omega) (by omega)]) | ((with_reducible refine hJ _ _ ?_); clear hJ hKC KC J) | ((with_reducible refine zH ?_ ?_); · rfl)
     refine ⟨⟨i + 1, by omega, fun q hq => hokj q (by omega)⟩, by simp only; omega, ?_, ?_⟩
     ·exact Lq
     ·simp only [hkk]; exact Fq
  ·have hin : i = n := by omega
   subst hin
   have hni : t = i * i := by
    rcases ht with ⟨h1, h2⟩ | ⟨q, h1, h2, h3, h4⟩
    ·exact h1
    ·have := hok q h1; rw [h3] at this; cases this
   repeat' first | (with_reducible first | refine zA ?_ | refine zB ?_ | refine zm ?_ | refine zl ?_ | refine zZ ?_) | ((with_reducible refine zC fun KC J hJ hKC => ?_); simp (maxSteps := 9999999) only [push_cast, seval, ↓reduceIte, hlt]) | ((with_reducible refine hJ _ _ ?_); clear hJ hKC KC J) | ((with_reducible refine zH ?_ ?_); · rfl)
   rw [hni]
   exact zLI 0 (.inl rfl) rfl (by simp) (hcl _) (by rw [hlen, hlen])
set_option maxHeartbeats 1000000 in
theorem zLp (f g : Bool) (ns : List ByteArray) (us : List Nat) (hu : U32 us) (hlw : Low us) (hl : us.length ≤ 8) :
  Fn Tryz.prog 236 [.agg [.sl f 1 (zS ns), .sl g 1 (zQ us)]] [] (.v (.bool (decide (Ord us)))) [] := by
 refine Fn.of (fn := Tryz.f236) (by kernel_rfl) rfl (by kernel_rfl) ⟨[.agg [.sl f 1 (zS ns), .sl g 1 (zQ us)], .v undef, .v undef, .v undef, .v undef, .v undef, .v undef, .v undef, .v undef, .v undef, .v undef, .v undef, .v undef, .v undef, .v undef, .v undef, .v undef, .v undef, .v undef, .v undef, .v undef, .v undef, .v undef, .v undef, .v undef, .v undef, .v undef, .v undef, .v undef, .v undef, .v undef, .v undef, .v undef, .v undef, .v undef, .v undef, .v undef, .v undef, .v undef, .v undef, .v undef, .v undef, .v undef, .v undef, .v undef, .v undef, .v undef, .v undef, .v undef, .v undef, .v undef, .v undef, .v undef, .v undef, .v undef, .v undef], []⟩ rfl ?_
 repeat' first | (with_reducible first | refine zA ?_ | refine zB ?_ | refine zI ?_) | ((first | with_reducible refine zC fun KC J hJ hKC => ?_ | (refine' hKC _ _ _ _ _ (zD (zMY _) rfl rfl rfl ?_ ?_); (rotate_left 1); (· exact Lq))); simp (maxSteps := 9999999) only [push_cast, seval, ↓reduceIte]) | ((with_reducible refine hJ _ _ ?_); clear hJ hKC KC J)
 refine zKo ([.any, .ptr 0 0 0, .ptr 1 0 0, .any, .any, .any, .any, .any, .fn 283 [.fad [.v (.int .i64 (us.length : Int))]], .any, .any, .any, .any, .any, .any, .any, .any, .any, .any, .any, .any, .any, .any, .any, .any, .any, .any, .any, .any, .any, .any, .any, .any, .any, .any, .any, .any, .any, .any, .any, .any, .any, .any, .any, .any, .any, .any, .any, .any, .any, .any, .any, .any, .any, .any, .any]) (by exact Lq) ?_
 refine zEc (f := 283) rfl rfl (zMe us.length (by omega)) (fun i hi => rfl) 3 rfl rfl
  (fun i => [.ent ⟨0, none, 25, [.sl f 1 (zS ns), .sl g 1 (zQ us)], .cells⟩, .ent ⟨0, none, 4, [.v (.bool false)], .cells⟩, .free])
  (fun i => [.ent ⟨0, none, 25, [.sl f 1 (zS ns), .sl g 1 (zQ us)], .cells⟩, .ent ⟨0, none, 4, [.v (.bool false)], .cells⟩, .free])
  rfl (fun i => ⟨rfl, rfl⟩) (fun i => ⟨rfl, rfl⟩) (fun i => ⟨rfl, rfl⟩) (fun k => zDv us (pA us.length k) (pB us.length k)) .ret .ret rfl
  (fun i => [.any, .ptr 0 0 0, .ptr 1 0 0, .v (.int .i64 (pA us.length i : Nat)), .v (.int .i64 (pB us.length i : Nat)), .any, .any, .any, .fn 283 [.fad [.v (.int .i64 (us.length : Int))]], .v (.int .i64 (pA us.length i : Nat)), .v (.int .i64 (pB us.length i : Nat)), .any, .any, .any, .any, .any, .any, .any, .any, .any, .any, .any, .any, .any, .any, .any, .any, .any, .any, .any, .any, .any, .any, .any, .any, .any, .any, .any, .any, .any, .any, .any, .any, .any, .any, .any, .any, .any, .any, .any, .any, .any, .any, .any, .any, .any])
  (fun l' i r σ hi => ?_) (fun i => rfl) (fun l' i hi hb' => ?_) (fun hall => ?_) (fun k hk hkf hkb => ?_)
 ·skip
  repeat' first | (with_reducible first | refine zA ?_ | refine zB ?_) | ((with_reducible refine And.intro ?_ ?_); · exact Sq) | ((with_reducible refine zC fun KC J hJ hKC => ?_); simp (maxSteps := 9999999) only [push_cast, seval, ↓reduceIte]) | ((with_reducible refine hJ _ _ ?_); clear hJ hKC KC J)
  exact rfl
 ·have hpa := zQu hi
  have hpb := zRN hi
  obtain ⟨a, ha⟩ : ∃ a, pA us.length i = a := ⟨_, rfl⟩
  obtain ⟨b, hb⟩ : ∃ b, pB us.length i = b := ⟨_, rfl⟩
  simp only [ha, hb] at hpa hpb ⊢
  have hgA := zBq (zDn 0 hpa)
  have hgB := zBq (zDn 0 hpb)
  have han := zVI (hu.get hpb) (hu.get hpa)
  by_cases hab : a = b
  ·subst hab
   by_cases hf : fl us a a = true
   ·by_cases hz : anB (us.getD a 0) (us.getD a 0) = 0
    ·have hok : zDv us a a = true := by rw [zDv, if_pos rfl, hf, decide_eq_true hz]; rfl
     repeat' first | (with_reducible first | refine zA ?_ | refine zB ?_ | refine zP ?_ | refine zJ ?_ | refine zI ?_) | ((with_reducible refine And.intro ?_ ?_); · exact Sq) | ((first | with_reducible refine zC fun KC J hJ hKC => ?_ | with_reducible refine zY rfl fun KC J hJ hKC => ?_ | (refine' hKC _ _ _ _ _ (zD (zDD _ _ _ _ _ _ ?_ ?_) rfl rfl rfl ?_ ?_); (rotate_left 8); (· exact Lq); (rotate_left 1); (iterate 2 (· exact Hq)))); simp (maxSteps := 9999999) only [push_cast, seval, ↓reduceIte, hf, hz, hgA, han]) | ((first | with_reducible refine hJ _ _ ?_ | (with_reducible refine hJ _ _ ?_ ?_; · kernel_rfl)); clear hJ hKC KC J) | ((with_reducible refine zH ?_ ?_); · rfl)
     exact .inl ⟨hok, rfl, (by first | exact zO (k := 0) rfl rfl rfl | exact zO (k := 1) rfl rfl rfl | exact zO (k := 2) rfl rfl rfl | exact zO (k := 3) rfl rfl rfl | exact zO (k := 4) rfl rfl rfl | exact zO (k := 5) rfl rfl rfl | exact zO (k := 6) rfl rfl rfl | exact zO (k := 7) rfl rfl rfl | exact zO (k := 8) rfl rfl rfl)⟩
    ·have hok : zDv us a a = false := by rw [zDv, if_pos rfl, hf, decide_eq_false hz]; rfl
     repeat' first | (with_reducible first | refine zA ?_ | refine zB ?_ | refine zAC ?_ | refine zF ?_ | refine zJ ?_ | refine zI ?_) | ((with_reducible refine And.intro ?_ ?_); · exact Sq) | ((first | with_reducible refine zC fun KC J hJ hKC => ?_ | with_reducible refine zY rfl fun KC J hJ hKC => ?_ | (refine' hKC _ _ _ _ _ (zD (zDD _ _ _ _ _ _ ?_ ?_) rfl rfl rfl ?_ ?_); (rotate_left 8); (· exact Lq); (rotate_left 1); (iterate 2 (· exact Hq)))); simp (maxSteps := 9999999) only [push_cast, seval, ↓reduceIte, hf, hz, hgA, han]) | ((first | with_reducible refine hJ _ _ ?_ | (with_reducible refine hJ _ _ ?_ ?_; · kernel_rfl)); clear hJ hKC KC J) | ((with_reducible refine zG ?_ ?_); · rfl) | ((with_reducible refine zH ?_ ?_); · rfl)
     exact .inr ⟨hok, rfl, (by first | exact zO (k := 0) rfl rfl rfl | exact zO (k := 1) rfl rfl rfl | exact zO (k := 2) rfl rfl rfl | exact zO (k := 3) rfl rfl rfl | exact zO (k := 4) rfl rfl rfl | exact zO (k := 5) rfl rfl rfl | exact zO (k := 6) rfl rfl rfl | exact zO (k := 7) rfl rfl rfl | exact zO (k := 8) rfl rfl rfl)⟩
   ·have hok : zDv us a a = false := by rw [zDv, if_pos rfl, show fl us a a = false by simpa using hf]; rfl
    repeat' first | (with_reducible first | refine zA ?_ | refine zB ?_ | refine zb ?_ | refine zAC ?_ | refine zF ?_ | refine zI ?_) | ((first | with_reducible refine zC fun KC J hJ hKC => ?_ | (refine' hKC _ _ _ _ _ (zD (zDD _ _ _ _ _ _ ?_ ?_) rfl rfl rfl ?_ ?_); (rotate_left 8); (· exact Lq); (rotate_left 1); (iterate 2 (· exact Hq)))); simp (maxSteps := 9999999) only [push_cast, seval, ↓reduceIte, hf, undef]) | ((with_reducible refine hJ _ _ ?_); clear hJ hKC KC J) | ((with_reducible refine zG ?_ ?_); · rfl)
    exact .inr ⟨hok, rfl, (by first | exact zO (k := 0) rfl rfl rfl | exact zO (k := 1) rfl rfl rfl | exact zO (k := 2) rfl rfl rfl | exact zO (k := 3) rfl rfl rfl | exact zO (k := 4) rfl rfl rfl | exact zO (k := 5) rfl rfl rfl | exact zO (k := 6) rfl rfl rfl | exact zO (k := 7) rfl rfl rfl | exact zO (k := 8) rfl rfl rfl)⟩
  ·have hab' : ¬ (a : Int) = (b : Int) := by omega
   have hab'' : ((a : Int) != (b : Int)) = true := by simpa using hab'
   have hab3 : ((a : Int) == (b : Int)) = false := by simpa using hab'
   by_cases hf : fl us a b = true
   ·by_cases hf' : fl us b a = true
    ·have hok : zDv us a b = false := by rw [zDv, if_neg hab, hf, hf']; rfl
     repeat' first | (with_reducible first | refine zA ?_ | refine zB ?_ | refine zb ?_ | refine zAC ?_ | refine zF ?_ | refine zI ?_) | ((first | with_reducible refine zC fun KC J hJ hKC => ?_ | (refine' hKC _ _ _ _ _ (zD (zDD _ _ _ _ _ _ ?_ ?_) rfl rfl rfl ?_ ?_); (rotate_left 8); (· exact Lq); (rotate_left 1); (iterate 2 (· exact Hq)))); simp (maxSteps := 9999999) only [push_cast, seval, ↓reduceIte, hf, hf', hab, hab', hab'', hab3, undef]) | ((with_reducible refine hJ _ _ ?_); clear hJ hKC KC J) | ((with_reducible refine zG ?_ ?_); · rfl)
     exact .inr ⟨hok, rfl, (by first | exact zO (k := 0) rfl rfl rfl | exact zO (k := 1) rfl rfl rfl | exact zO (k := 2) rfl rfl rfl | exact zO (k := 3) rfl rfl rfl | exact zO (k := 4) rfl rfl rfl | exact zO (k := 5) rfl rfl rfl | exact zO (k := 6) rfl rfl rfl | exact zO (k := 7) rfl rfl rfl | exact zO (k := 8) rfl rfl rfl)⟩
    ·have hfF : fl us b a = false := by simpa using hf'
     by_cases hz : anB (us.getD b 0) (us.getD a 0) = 0
     ·have hok : zDv us a b = true := by rw [zDv, if_neg hab, hf, hfF, decide_eq_true hz]; rfl
      repeat' first | (with_reducible first | refine zA ?_ | refine zB ?_ | refine zP ?_ | refine zJ ?_ | refine zI ?_) | ((with_reducible refine And.intro ?_ ?_); · exact Sq) | ((first | with_reducible refine zC fun KC J hJ hKC => ?_ | with_reducible refine zY rfl fun KC J hJ hKC => ?_ | (refine' hKC _ _ _ _ _ (zD (zDD _ _ _ _ _ _ ?_ ?_) rfl rfl rfl ?_ ?_); (rotate_left 8); (· exact Lq); (rotate_left 1); (iterate 2 (· exact Hq)))); simp (maxSteps := 9999999) only [push_cast, seval, ↓reduceIte, hf, hfF, hz, hgA, hgB, han, hab, hab', hab'', hab3, undef]) | ((first | with_reducible refine hJ _ _ ?_ | (with_reducible refine hJ _ _ ?_ ?_; · kernel_rfl)); clear hJ hKC KC J) | ((with_reducible refine zH ?_ ?_); · rfl)
      exact .inl ⟨hok, rfl, (by first | exact zO (k := 0) rfl rfl rfl | exact zO (k := 1) rfl rfl rfl | exact zO (k := 2) rfl rfl rfl | exact zO (k := 3) rfl rfl rfl | exact zO (k := 4) rfl rfl rfl | exact zO (k := 5) rfl rfl rfl | exact zO (k := 6) rfl rfl rfl | exact zO (k := 7) rfl rfl rfl | exact zO (k := 8) rfl rfl rfl)⟩
     ·have hok : zDv us a b = false := by rw [zDv, if_neg hab, hf, hfF, decide_eq_false hz]; rfl
      repeat' first | (with_reducible first | refine zA ?_ | refine zB ?_ | refine zAC ?_ | refine zF ?_ | refine zJ ?_ | refine zI ?_) | ((with_reducible refine And.intro ?_ ?_); · exact Sq) | ((first | with_reducible refine zC fun KC J hJ hKC => ?_ | with_reducible refine zY rfl fun KC J hJ hKC => ?_ | (refine' hKC _ _ _ _ _ (zD (zDD _ _ _ _ _ _ ?_ ?_) rfl rfl rfl ?_ ?_); (rotate_left 8); (· exact Lq); (rotate_left 1); (iterate 2 (· exact Hq)))); simp (maxSteps := 9999999) only [push_cast, seval, ↓reduceIte, hf, hfF, hz, hgA, hgB, han, hab, hab', hab'', hab3, undef]) | ((first | with_reducible refine hJ _ _ ?_ | (with_reducible refine hJ _ _ ?_ ?_; · kernel_rfl)); clear hJ hKC KC J) | ((with_reducible refine zG ?_ ?_); · rfl) | ((with_reducible refine zH ?_ ?_); · rfl)
      exact .inr ⟨hok, rfl, (by first | exact zO (k := 0) rfl rfl rfl | exact zO (k := 1) rfl rfl rfl | exact zO (k := 2) rfl rfl rfl | exact zO (k := 3) rfl rfl rfl | exact zO (k := 4) rfl rfl rfl | exact zO (k := 5) rfl rfl rfl | exact zO (k := 6) rfl rfl rfl | exact zO (k := 7) rfl rfl rfl | exact zO (k := 8) rfl rfl rfl)⟩
   ·have hfF : fl us a b = false := by simpa using hf
    have hok : zDv us a b = true := by rw [zDv, if_neg hab, hfF]; rfl
    repeat' first | (with_reducible first | refine zA ?_ | refine zB ?_ | refine zP ?_ | refine zJ ?_ | refine zI ?_) | ((first | with_reducible refine zC fun KC J hJ hKC => ?_ | with_reducible refine zY rfl fun KC J hJ hKC => ?_ | (refine' hKC _ _ _ _ _ (zD (zDD _ _ _ _ _ _ ?_ ?_) rfl rfl rfl ?_ ?_); (rotate_left 8); (· exact Lq); (rotate_left 1); (iterate 2 (· exact Hq)))); simp (maxSteps := 9999999) only [push_cast, seval, ↓reduceIte, hfF, hab, hab', hab'', hab3, undef]) | ((first | with_reducible refine hJ _ _ ?_ | (with_reducible refine hJ _ _ ?_ ?_; · kernel_rfl)); clear hJ hKC KC J) | ((with_reducible refine zH ?_ ?_); · rfl)
    exact .inl ⟨hok, rfl, (by first | exact zO (k := 0) rfl rfl rfl | exact zO (k := 1) rfl rfl rfl | exact zO (k := 2) rfl rfl rfl | exact zO (k := 3) rfl rfl rfl | exact zO (k := 4) rfl rfl rfl | exact zO (k := 5) rfl rfl rfl | exact zO (k := 6) rfl rfl rfl | exact zO (k := 7) rfl rfl rfl | exact zO (k := 8) rfl rfl rfl)⟩
 ·rw [decide_eq_true ((zLy hu hlw).1 (zFL.1 hall))]
  repeat' first | (with_reducible first | refine zA ?_ | refine zB ?_ | refine zP ?_ | refine zF ?_) | ((with_reducible refine zC fun KC J hJ hKC => ?_); simp (maxSteps := 9999999) only [push_cast, seval, ↓reduceIte]) | ((with_reducible refine hJ _ _ ?_); clear hJ hKC KC J)
  refine zE ?_
  simp (maxSteps := 9999999) only [push_cast, seval, ↓reduceIte, show Tryz.f236.results = #[(.cell 2 4)] from rfl]
  exact Lq
 ·rw [decide_eq_false (fun h => by have := (zFL (p := fun a b => zDv us a b = true)).2 ((zLy hu hlw).2 h) k hk; rw [hkf] at this; cases this)]
  refine zE ?_
  simp (maxSteps := 9999999) only [push_cast, seval, ↓reduceIte, show Tryz.f236.results = #[(.cell 2 4)] from rfl]
  exact Lq
theorem zKr (f g : Bool) (ns : List ByteArray) (us : List Nat) (a : Nat) (hu : U32 us) (hl : us.length ≤ 8) :
  Fn Tryz.prog 285 [.agg [.sl f 1 (zS ns), .sl g 1 (zQ us)], .v (.int .i64 (a : Int))] [] (.v (.int .u32 (uv (zBj us a us.length)))) [] := by
 refine Fn.of (fn := Tryz.f285) (by kernel_rfl) rfl (by kernel_rfl) ⟨[.agg [.sl f 1 (zS ns), .sl g 1 (zQ us)], .v (.int .i64 (a : Int)), .v undef, .v undef, .v undef, .v undef, .v undef, .v undef, .v undef, .v undef, .v undef, .v undef, .v undef, .v undef, .v undef, .v undef, .v undef, .v undef, .v undef, .v undef, .v undef, .v undef, .v undef, .v undef, .v undef, .v undef, .v undef], []⟩ rfl ?_
 repeat' first | (with_reducible first | refine zA ?_ | refine zB ?_ | refine zI ?_) | ((with_reducible refine zC fun KC J hJ hKC => ?_); simp (maxSteps := 9999999) only [push_cast, seval, ↓reduceIte]) | ((with_reducible refine hJ _ _ ?_); clear hJ hKC KC J)
 refine zAJ (γ := {i : Nat // i ≤ us.length}) (fun i => ⟨[.any, .v (.int .i64 (a : Int)), .ptr 0 0 0, .any, .any, .v (.int .u32 (uv (zBj us a i.1))), .any, .any, .any, .v (.int .i64 us.length), .v (.int .i64 i.1), .any, .any, .any, .any, .any, .any, .any, .any, .any, .any, .any, .any, .any, .any, .any, .any], [.ent ⟨0, none, 25, [.sl f 1 (zS ns), .sl g 1 (zQ us)], .cells⟩]⟩) (fun i => us.length - i.1) ⟨0, by simp⟩ ⟨?_, Fq⟩ ?_
 ·exact Lq
 ·rintro ⟨i, hi⟩
  by_cases hlt : (i : Int) < (us.length : Int)
  ·have hil : i < us.length := by omega
   have hx := zDn 0 hil
   have h1 : us.getD i 0 >>> a < 2 ^ 32 := Nat.lt_of_le_of_lt (Nat.shiftRight_le _ _) (hu.get hil)
   have h2 : (us.getD i 0 >>> a) &&& 1 ≤ 1 := Nat.and_le_right
   have h3 : zBj us a i < 2 ^ 32 := Nat.lt_of_lt_of_le (zIh us a i) (Nat.pow_le_pow_right (by decide) (by omega))
   have h4 : ((us.getD i 0 >>> a) &&& 1) <<< i < 2 ^ 32 := by
    have e := zIh us a (i + 1)
    have : ((us.getD i 0 >>> a) &&& 1) <<< i ≤ zBj us a (i + 1) := Nat.right_le_or
    have : 2 ^ (i + 1) ≤ 2 ^ 32 := Nat.pow_le_pow_right (by decide) (by omega)
    omega
   repeat' first | (with_reducible first | refine zA ?_ | refine zB ?_ | refine zP ?_ | refine zJ ?_ | refine zI ?_) | ((with_reducible refine And.intro ?_ ?_); · exact Sq) | ((with_reducible refine zC fun KC J hJ hKC => ?_); simp (maxSteps := 9999999) only [push_cast, seval, ↓reduceIte, hlt, zBq hx, zLe (hu.get hil) (b := a), zPB h1, zUL h2 (by omega : i < 32), zVM h3 h4, zp (i := i) (n := us.length) (by omega) (by omega)]) | ((with_reducible refine hJ _ _ ?_); clear hJ hKC KC J) | ((with_reducible refine zG ?_ ?_); · rfl)
   refine ⟨⟨i + 1, by omega⟩, by simp only; omega, ?_, Fq⟩
   exact Lq
  ·have e : i = us.length := by omega
   subst e
   repeat' first | (with_reducible first | refine zA ?_ | refine zB ?_ | refine zm ?_ | refine zl ?_ | refine zF ?_ | refine zZ ?_) | ((with_reducible refine zC fun KC J hJ hKC => ?_); simp (maxSteps := 9999999) only [push_cast, seval, ↓reduceIte, hlt]) | ((with_reducible refine hJ _ _ ?_); clear hJ hKC KC J) | ((with_reducible refine zH ?_ ?_); · rfl)
   refine zE ?_
   simp (maxSteps := 9999999) only [push_cast, seval, ↓reduceIte, show Tryz.f285.results = #[(.tmp 4)] from rfl]
   exact zK _
theorem zHh (f : Bool) (xs : List Nat) (cf : Nat) (caps : List D) (p : Nat → Bool) (hb : xs.length ≤ 9223372036854775807) (hc : zr caps = true)
  (hp : ∀ x ∈ xs, Fn Tryz.prog cf (.v (.int .u32 (uv x)) :: caps) [] (.v (.bool (p x))) []) : Fn Tryz.prog 116 [.sl f 1 (zQ xs), .fn cf caps] [] (.v (.int .i64 (zDt p xs))) [] := by
 refine Fn.of (fn := Tryz.f116) (by kernel_rfl) rfl (by kernel_rfl) ⟨[.sl f 1 (zQ xs), .fn cf caps, .v undef, .v undef, .v undef, .v undef, .v undef, .v undef, .v undef, .v undef, .v undef, .v undef, .v undef, .v undef, .v undef, .v undef, .v undef, .v undef, .v undef], []⟩ rfl ?_
 repeat' first | (with_reducible first | refine zA ?_ | refine zB ?_ | refine zI ?_) | ((with_reducible refine zC fun KC J hJ hKC => ?_); simp (maxSteps := 9999999) only [push_cast, seval, ↓reduceIte]) | ((with_reducible refine hJ _ _ ?_); clear hJ hKC KC J)
 refine zAJ (γ := {i : Nat // i ≤ xs.length ∧ ∀ (j : Nat) (hj : j < xs.length), j < i → p xs[j] = false}) (fun i => ⟨[.sl f 1 (zQ xs), .fn cf caps, .any, .any, .any, .any, .any, .v (.int .i64 xs.length), .v (.int .i64 i.1), .any, .any, .any, .any, .any, .any, .any, .any, .any, .any], []⟩) (fun i => xs.length - i.1) ⟨0, by simp⟩ ⟨?_, Fq⟩ ?_
 ·exact Lq
 ·rintro ⟨i, hi, hn⟩
  by_cases hlt : (i : Int) < (xs.length : Int)
  ·have hx : xs[i]? = some xs[i] := List.getElem?_eq_getElem (by omega)
   have hfn := hp xs[i] (List.getElem_mem (by omega))
   repeat' first | (with_reducible first | refine zA ?_ | refine zB ?_ | refine zb ?_ | refine zP ?_ | refine zAC ?_ | refine zF ?_ | refine zJ ?_ | refine zI ?_) | ((with_reducible refine And.intro ?_ ?_); · exact Sq) | ((first | with_reducible refine zC fun KC J hJ hKC => ?_ | (refine hKC _ _ _ _ _ (zD (hfn) rfl rfl rfl ?_ ?_); (· exact Lq))); simp (maxSteps := 9999999) only [push_cast, seval, ↓reduceIte, hlt, zBq hx, zp (i := i) (n := xs.length) (by omega) hb]) | ((with_reducible refine hJ _ _ ?_); clear hJ hKC KC J) | ((with_reducible refine zG ?_ ?_); · rfl) | (refine zAa rfl (fun h => ?_) (fun h => ?_) <;> try simp only [decide_eq_true_eq, decide_eq_false_iff_not, Bool.not_eq_true', Bool.not_eq_false', beq_iff_eq, bne_iff_ne, ne_eq, Bool.not_eq_true, Bool.or_eq_true, Bool.and_eq_true, Bool.or_eq_false_iff, Bool.and_eq_false_imp, beq_eq_false_iff_ne, bne_eq_false_iff_eq] at h)
   ·refine zE ?_
    simp (maxSteps := 9999999) only [push_cast, seval, ↓reduceIte, show Tryz.f116.results = #[(.tmp 4)] from rfl]
    exact zAk (by rw [zCt (by omega) h hn])
   ·refine ⟨⟨i + 1, by omega, fun j hj hji => ?_⟩, by simp only; omega, ?_, Fq⟩
    ·by_cases he : j = i
     ·subst he; exact h
     ·exact hn j hj (by omega)
    ·exact Lq
  ·skip
   repeat' first | (with_reducible first | refine zA ?_ | refine zB ?_ | refine zm ?_ | refine zl ?_ | refine zF ?_ | refine zZ ?_) | ((with_reducible refine zC fun KC J hJ hKC => ?_); simp (maxSteps := 9999999) only [push_cast, seval, ↓reduceIte, hlt]) | ((with_reducible refine hJ _ _ ?_); clear hJ hKC KC J) | ((with_reducible refine zH ?_ ?_); · rfl)
   refine zE ?_
   simp (maxSteps := 9999999) only [push_cast, seval, ↓reduceIte, show Tryz.f116.results = #[(.tmp 4)] from rfl]
   exact zAk (by rw [zBf (fun j hj => hn j hj (by omega))])
theorem zQv (x c : Nat) : Fn Tryz.prog 284 [.v (.int .u32 (uv x)), .fad [.v (.int .u32 (uv c))]] [] (.v (.bool (decide (x = c)))) [] := by
 refine Fn.of (fn := Tryz.f284) (by kernel_rfl) rfl (by kernel_rfl) ⟨[.v (.int .u32 (uv x)), .fad [.v (.int .u32 (uv c))], .v undef, .v undef, .v undef, .v undef, .v undef], []⟩ rfl ?_
 repeat' first | (with_reducible first | refine zA ?_ | refine zB ?_ | refine zF ?_) | ((with_reducible refine zC fun KC J hJ hKC => ?_); simp (maxSteps := 9999999) only [push_cast, seval, ↓reduceIte]) | ((with_reducible refine hJ _ _ ?_); clear hJ hKC KC J)
 refine zE ?_
 simp (maxSteps := 9999999) only [push_cast, seval, ↓reduceIte, show Tryz.f284.results = #[(.tmp 3)] from rfl]
 exact zK _
theorem zLK (f g : Bool) (ns : List ByteArray) (us : List Nat) (a b : Nat) (hu : U32 us) (hl : us.length ≤ 8) (ha : a < us.length) (hb : b < us.length) :
  Fn Tryz.prog 238 [.agg [.sl f 1 (zS ns), .sl g 1 (zQ us)], .v (.int .i64 (a : Int)), .v (.int .i64 (b : Int))] [] (.v (.int .i64 (zOq us a b))) [] := by
 have hcf := zHh g us 284 [.fad [.v (.int .u32 (uv (us.getD a 0 &&& us.getD b 0)))]] (fun x => decide (x = us.getD a 0 &&& us.getD b 0)) (by omega) rfl (fun x _ => zQv x _)
 have hgA := zBq (zDn 0 ha)
 have hgB := zBq (zDn 0 hb)
 have han := zRf (hu.get ha) (hu.get hb)
 refine Fn.of (fn := Tryz.f238) (by kernel_rfl) rfl (by kernel_rfl) ⟨[.agg [.sl f 1 (zS ns), .sl g 1 (zQ us)], .v (.int .i64 (a : Int)), .v (.int .i64 (b : Int)), .v undef, .v undef, .v undef, .v undef, .v undef, .v undef, .v undef, .v undef, .v undef, .v undef, .v undef, .v undef, .v undef, .v undef, .v undef, .v undef, .v undef, .v undef, .v undef, .v undef], []⟩ rfl ?_
 repeat' first | (refine zU 2 1 rfl (by (simp (maxSteps := 9999999) only [push_cast, seval, ↓reduceIte]) <;> rfl) ?_; simp (maxSteps := 9999999) only [push_cast, seval, ↓reduceIte, zAK, zi, fr3, fr2, fr1, fr0, zq, zn, hgA, hgB, han]) | (with_reducible first | refine zA ?_ | refine zB ?_ | refine zF ?_) | ((with_reducible refine And.intro ?_ ?_); · exact Sq) | ((first | with_reducible refine zC fun KC J hJ hKC => ?_ | with_reducible refine zY rfl fun KC J hJ hKC => ?_ | (refine hKC _ _ _ _ _ (zD (hcf) rfl rfl rfl ?_ ?_); (· exact Lq))); simp (maxSteps := 9999999) only [push_cast, seval, ↓reduceIte, hgA, hgB, han]) | ((first | with_reducible refine hJ _ _ ?_ | (with_reducible refine hJ _ _ ?_ ?_; · kernel_rfl)); clear hJ hKC KC J)
 refine zE ?_
 simp (maxSteps := 9999999) only [push_cast, seval, ↓reduceIte, show Tryz.f238.results = #[(.tmp 6)] from rfl]
 exact zK _
theorem zOe (f g : Bool) (ns : List ByteArray) (us : List Nat) (a b : Nat) (hu : U32 us) (hl : us.length ≤ 8) (ha : a < us.length) (hb : b < us.length) :
  Fn Tryz.prog 239 [.agg [.sl f 1 (zS ns), .sl g 1 (zQ us)], .v (.int .i64 (a : Int)), .v (.int .i64 (b : Int))] [] (.v (.int .i64 (zOd us a b))) [] := by
 have hd : ∀ x, zBj us x us.length < 2 ^ 32 := fun x => Nat.lt_of_lt_of_le (zIh us x _) (Nat.pow_le_pow_right (by decide) (by omega))
 have han := zRf (hd a) (hd b)
 refine Fn.of (fn := Tryz.f239) (by kernel_rfl) rfl (by kernel_rfl) ⟨[.agg [.sl f 1 (zS ns), .sl g 1 (zQ us)], .v (.int .i64 (a : Int)), .v (.int .i64 (b : Int)), .v undef, .v undef, .v undef, .v undef, .v undef, .v undef, .v undef, .v undef, .v undef, .v undef, .v undef, .v undef, .v undef, .v undef, .v undef, .v undef, .v undef, .v undef, .v undef, .v undef, .v undef, .v undef, .v undef, .v undef, .v undef, .v undef], []⟩ rfl ?_
 repeat' first | (with_reducible first | refine zA ?_ | refine zB ?_ | refine zI ?_) | ((first | with_reducible refine zC fun KC J hJ hKC => ?_ | with_reducible refine zY rfl fun KC J hJ hKC => ?_ | (refine' hKC _ _ _ _ _ (zD (zKr _ _ _ _ _ ?_ ?_) rfl rfl rfl ?_ ?_); (rotate_left 7); (· exact Lq); (rotate_left 1); (iterate 2 (· exact Hq)))); simp (maxSteps := 9999999) only [push_cast, seval, ↓reduceIte, han]) | ((first | with_reducible refine hJ _ _ ?_ | (with_reducible refine hJ _ _ ?_ ?_; · kernel_rfl)); clear hJ hKC KC J)
 refine zAJ (γ := {i : Nat // i ≤ us.length ∧ ∀ j, j < i → ¬ zBj us j us.length = (zBj us a us.length &&& zBj us b us.length)}) (fun i => ⟨[.any, .any, .any, .ptr 0 0 0, .any, .any, .any, .v (.int .u32 (uv (zBj us a us.length &&& zBj us b us.length))), .any, .any, .any, .any, .any, .any, .any, .any, .any, .any, .v (.int .i64 us.length), .v (.int .i64 i.1), .any, .any, .any, .any, .any, .any, .any, .any, .any], [.ent ⟨0, none, 25, [.sl f 1 (zS ns), .sl g 1 (zQ us)], .cells⟩]⟩) (fun i => us.length - i.1) ⟨0, by simp⟩ ⟨?_, Fq⟩ ?_
 ·exact Lq
 ·rintro ⟨i, hi, hn⟩
  by_cases hlt : (i : Int) < (us.length : Int)
  ·by_cases hz : zBj us i us.length = (zBj us a us.length &&& zBj us b us.length)
   ·skip
    repeat' first | (with_reducible first | refine zA ?_ | refine zB ?_ | refine zb ?_ | refine zAC ?_ | refine zF ?_ | refine zJ ?_ | refine zI ?_) | ((first | with_reducible refine zC fun KC J hJ hKC => ?_ | (refine' hKC _ _ _ _ _ (zD (zKr _ _ _ _ _ ?_ ?_) rfl rfl rfl ?_ ?_); (rotate_left 7); (· exact Lq); (rotate_left 1); (iterate 2 (· exact Hq)))); simp (maxSteps := 9999999) only [push_cast, seval, ↓reduceIte, hlt, hz]) | ((with_reducible refine hJ _ _ ?_); clear hJ hKC KC J) | ((with_reducible refine zG ?_ ?_); · rfl)
    refine zE ?_
    simp (maxSteps := 9999999) only [push_cast, seval, ↓reduceIte, show Tryz.f239.results = #[(.tmp 6)] from rfl]
    refine zAk (congrArg (Value.int .i64) ?_)
    exact (zCt (xs := List.range us.length) (i := i) (by simp; omega) (by simpa using hz) (fun j hj hji => by simpa using hn j hji)).symm
   ·have hz' : decide (zBj us i us.length = (zBj us a us.length &&& zBj us b us.length)) = false := decide_eq_false hz
    repeat' first | (with_reducible first | refine zA ?_ | refine zB ?_ | refine zP ?_ | refine zJ ?_ | refine zI ?_) | ((first | with_reducible refine zC fun KC J hJ hKC => ?_ | (refine' hKC _ _ _ _ _ (zD (zKr _ _ _ _ _ ?_ ?_) rfl rfl rfl ?_ ?_); (rotate_left 7); (· exact Lq); (rotate_left 1); (iterate 2 (· exact Hq)))); simp (maxSteps := 9999999) only [push_cast, seval, ↓reduceIte, hlt, hz', zp (i := i) (n := us.length) (by omega) (by omega)]) | ((with_reducible refine hJ _ _ ?_); clear hJ hKC KC J) | ((with_reducible refine zG ?_ ?_); · rfl) | ((with_reducible refine zH ?_ ?_); · rfl)
    refine ⟨⟨i + 1, by omega, fun j hj => ?_⟩, by simp only; omega, ?_, Fq⟩
    ·by_cases he : j = i
     ·subst he; exact hz
     ·exact hn j (by omega)
    ·exact Lq
  ·skip
   repeat' first | (with_reducible first | refine zA ?_ | refine zB ?_ | refine zm ?_ | refine zl ?_ | refine zF ?_ | refine zZ ?_) | ((with_reducible refine zC fun KC J hJ hKC => ?_); simp (maxSteps := 9999999) only [push_cast, seval, ↓reduceIte, hlt]) | ((with_reducible refine hJ _ _ ?_); clear hJ hKC KC J) | ((with_reducible refine zH ?_ ?_); · rfl)
   refine zE ?_
   simp (maxSteps := 9999999) only [push_cast, seval, ↓reduceIte, show Tryz.f239.results = #[(.tmp 6)] from rfl]
   refine zAk (congrArg (Value.int .i64) ?_)
   exact (zBf (xs := List.range us.length) (fun j hj => by simpa using hn j (by simp at hj; omega))).symm
def r3 (us : List Nat) (i j k : Nat) : Prop := fl us i j = true → fl us j k = true → fl us i k = true
def r2 (us : List Nat) (i j : Nat) : Prop := ¬ i = j → ¬ (fl us i j = true ∧ fl us j i = true)
def r0 (us : List Nat) (i : Nat) : Prop := fl us i i = true ∧ ∀ j, j < us.length → r2 us i j ∧ ∀ k, k < us.length → r3 us i j k
def zUy (us : List Nat) (a b c n : Nat) : Prop := (fl us a c = true ∧ fl us b c = true) ∧ ∀ d, d < n → fl us a d = true → fl us b d = true → fl us c d = true
instance (us : List Nat) (a b c n : Nat) : Decidable (zUy us a b c n) := by unfold zUy; infer_instance
def zVC (us : List Nat) (a b c n : Nat) : Prop := (fl us c a = true ∧ fl us c b = true) ∧ ∀ d, d < n → fl us d a = true → fl us d b = true → fl us d c = true
instance (us : List Nat) (a b c n : Nat) : Decidable (zVC us a b c n) := by unfold zVC; infer_instance
def jmB (us : List Nat) (a b : Nat) : Bool := decide (0 ≤ zOq us a b ∧ 0 ≤ zOd us a b)
theorem zBX (f g : Bool) (ns : List ByteArray) (us : List Nat) (hs : Szs ns) (hu : U32 us) :
  Fn Tryz.prog 139 [.agg [.sl f 1 (zS ns), .sl g 1 (zQ us)]] [] (.v (.int .i64 (zAA ns us))) [] := by
 refine Fn.of (fn := Tryz.f139) (by kernel_rfl) rfl (by kernel_rfl) ⟨[.agg [.sl f 1 (zS ns), .sl g 1 (zQ us)], .v undef, .v undef, .v undef, .v undef, .v undef, .v undef, .v undef, .v undef, .v undef, .v undef, .v undef, .v undef, .v undef, .v undef, .v undef, .v undef, .v undef, .v undef, .v undef, .v undef, .v undef, .v undef, .v undef, .v undef, .v undef, .v undef, .v undef, .v undef, .v undef, .v undef], []⟩ rfl ?_
 by_cases hm : zGA ns us = true
 ·have hl8 : us.length ≤ 8 := (zGh hm).1.2.1
  have hlw := zNm hm
  by_cases ho : Ord us
  ·have ho' : decide (Ord us) = true := decide_eq_true ho
   have hc : zAA ns us = if Lat us then 0 else 3 := by rw [zAA, if_pos hm, if_pos ho]
   rw [hc]
   repeat' first | (with_reducible first | refine zA ?_ | refine zB ?_ | refine zP ?_ | refine zJ ?_ | refine zI ?_) | ((first | with_reducible refine zC fun KC J hJ hKC => ?_ | (refine' hKC _ _ _ _ _ (zD (zGs _ _ _ _ ?_ ?_) rfl rfl rfl ?_ ?_); (rotate_left 6); (· exact Lq); (rotate_left 1); (iterate 2 (· exact Hq))) | (refine' hKC _ _ _ _ _ (zD (zLp _ _ _ _ ?_ ?_ ?_) rfl rfl rfl ?_ ?_); (rotate_left 7); (· exact Lq); (rotate_left 1); (iterate 3 (· exact Hq))) | (refine' hKC _ _ _ _ _ (zD (zMY _) rfl rfl rfl ?_ ?_); (rotate_left 1); (· exact Lq))); simp (maxSteps := 9999999) only [push_cast, seval, ↓reduceIte, hm, ho']) | ((with_reducible refine hJ _ _ ?_); clear hJ hKC KC J) | ((with_reducible refine zH ?_ ?_); · rfl)
   refine zLZ ⟨[.any, .ptr 0 0 0, .ptr 1 0 0, .any, .any, .any, .any, .any, .any, .any, .any, .any, .any, .any, .any, .any, .fn 283 [.fad [.v (.int .i64 (us.length : Int))]], .any, .any, .any, .any, .any, .any, .any, .any, .any, .any, .any, .any, .any, .any], [.ent ⟨0, none, 25, [.sl f 1 (zS ns), .sl g 1 (zQ us)], .cells⟩, .ent ⟨0, none, 40, [.v (.int .i64 0)], .cells⟩]⟩ (by exact Lq) Fq ?_
   refine zEc (f := 283) rfl rfl (zMe us.length (by omega)) (fun i hi => rfl) 2 rfl rfl
    (fun i => [.ent ⟨0, none, 25, [.sl f 1 (zS ns), .sl g 1 (zQ us)], .cells⟩, .ent ⟨0, none, 40, [.v (.int .i64 0)], .cells⟩])
    (fun i => [.ent ⟨0, none, 25, [.sl f 1 (zS ns), .sl g 1 (zQ us)], .cells⟩, .ent ⟨0, none, 40, [.v (.int .i64 3)], .cells⟩])
    rfl (fun i => ⟨rfl, rfl⟩) (fun i => ⟨rfl, rfl⟩) (fun i => ⟨rfl, rfl⟩) (fun k => jmB us (pA us.length k) (pB us.length k)) .ret .ret rfl
    (fun i => [.any, .ptr 0 0 0, .ptr 1 0 0, .v (.int .i64 (pA us.length i : Nat)), .v (.int .i64 (pB us.length i : Nat)), .any, .any, .any, .any, .any, .any, .any, .any, .any, .any, .any, .fn 283 [.fad [.v (.int .i64 (us.length : Int))]], .v (.int .i64 (pA us.length i : Nat)), .v (.int .i64 (pB us.length i : Nat)), .any, .any, .any, .any, .any, .any, .any, .any, .any, .any, .any, .any])
    (fun l' i r σ hi => ?_) (fun i => rfl) (fun l' i hi hb' => ?_) (fun hall => ?_) (fun k hk hkf hkb => ?_)
   ·skip
    repeat' first | (with_reducible first | refine zA ?_ | refine zB ?_) | ((with_reducible refine And.intro ?_ ?_); · exact Sq) | ((with_reducible refine zC fun KC J hJ hKC => ?_); simp (maxSteps := 9999999) only [push_cast, seval, ↓reduceIte]) | ((with_reducible refine hJ _ _ ?_); clear hJ hKC KC J)
    exact rfl
   ·have hpa := zQu hi
    have hpb := zRN hi
    obtain ⟨a, ha⟩ : ∃ a, pA us.length i = a := ⟨_, rfl⟩
    obtain ⟨b, hb⟩ : ∃ b, pB us.length i = b := ⟨_, rfl⟩
    simp only [ha, hb] at hpa hpb ⊢
    by_cases h1 : zOq us a b < 0
    ·skip
     repeat' first | (with_reducible first | refine zA ?_ | refine zB ?_ | refine zAC ?_ | refine zF ?_ | refine zI ?_) | ((first | with_reducible refine zC fun KC J hJ hKC => ?_ | (refine' hKC _ _ _ _ _ (zD (zLK _ _ _ _ _ _ ?_ ?_ ?_ ?_) rfl rfl rfl ?_ ?_); (rotate_left 10); (· exact Lq); (rotate_left 1); (iterate 4 (· exact Hq)))); simp (maxSteps := 9999999) only [push_cast, seval, ↓reduceIte, h1, undef]) | ((with_reducible refine hJ _ _ ?_); clear hJ hKC KC J) | ((with_reducible refine zG ?_ ?_); · rfl)
     exact .inr ⟨decide_eq_false fun h => by omega, rfl, (by first | exact zO (k := 0) rfl rfl rfl | exact zO (k := 1) rfl rfl rfl | exact zO (k := 2) rfl rfl rfl | exact zO (k := 3) rfl rfl rfl | exact zO (k := 4) rfl rfl rfl | exact zO (k := 5) rfl rfl rfl | exact zO (k := 6) rfl rfl rfl | exact zO (k := 7) rfl rfl rfl | exact zO (k := 8) rfl rfl rfl)⟩
    ·by_cases h2 : zOd us a b < 0
     ·skip
      repeat' first | (with_reducible first | refine zA ?_ | refine zB ?_ | refine zAC ?_ | refine zF ?_ | refine zI ?_) | ((first | with_reducible refine zC fun KC J hJ hKC => ?_ | (refine' hKC _ _ _ _ _ (zD (zLK _ _ _ _ _ _ ?_ ?_ ?_ ?_) rfl rfl rfl ?_ ?_); (rotate_left 10); (· exact Lq); (rotate_left 1); (iterate 4 (· exact Hq))) | (refine' hKC _ _ _ _ _ (zD (zOe _ _ _ _ _ _ ?_ ?_ ?_ ?_) rfl rfl rfl ?_ ?_); (rotate_left 10); (· exact Lq); (rotate_left 1); (iterate 4 (· exact Hq)))); simp (maxSteps := 9999999) only [push_cast, seval, ↓reduceIte, h1, h2]) | ((with_reducible refine hJ _ _ ?_); clear hJ hKC KC J) | ((with_reducible refine zG ?_ ?_); · rfl)
      exact .inr ⟨decide_eq_false fun h => by omega, rfl, (by first | exact zO (k := 0) rfl rfl rfl | exact zO (k := 1) rfl rfl rfl | exact zO (k := 2) rfl rfl rfl | exact zO (k := 3) rfl rfl rfl | exact zO (k := 4) rfl rfl rfl | exact zO (k := 5) rfl rfl rfl | exact zO (k := 6) rfl rfl rfl | exact zO (k := 7) rfl rfl rfl | exact zO (k := 8) rfl rfl rfl)⟩
     ·skip
      repeat' first | (with_reducible first | refine zA ?_ | refine zB ?_ | refine zP ?_ | refine zJ ?_ | refine zI ?_) | ((first | with_reducible refine zC fun KC J hJ hKC => ?_ | (refine' hKC _ _ _ _ _ (zD (zLK _ _ _ _ _ _ ?_ ?_ ?_ ?_) rfl rfl rfl ?_ ?_); (rotate_left 10); (· exact Lq); (rotate_left 1); (iterate 4 (· exact Hq))) | (refine' hKC _ _ _ _ _ (zD (zOe _ _ _ _ _ _ ?_ ?_ ?_ ?_) rfl rfl rfl ?_ ?_); (rotate_left 10); (· exact Lq); (rotate_left 1); (iterate 4 (· exact Hq)))); simp (maxSteps := 9999999) only [push_cast, seval, ↓reduceIte, h1, h2]) | ((with_reducible refine hJ _ _ ?_); clear hJ hKC KC J) | ((with_reducible refine zH ?_ ?_); · rfl)
      exact .inl ⟨decide_eq_true ⟨by omega, by omega⟩, rfl, (by first | exact zO (k := 0) rfl rfl rfl | exact zO (k := 1) rfl rfl rfl | exact zO (k := 2) rfl rfl rfl | exact zO (k := 3) rfl rfl rfl | exact zO (k := 4) rfl rfl rfl | exact zO (k := 5) rfl rfl rfl | exact zO (k := 6) rfl rfl rfl | exact zO (k := 7) rfl rfl rfl | exact zO (k := 8) rfl rfl rfl)⟩
   ·rw [if_pos (show Lat us from fun a ha b hb => of_decide_eq_true ((zFL (p := fun a b => jmB us a b = true)).1 hall a ha b hb))]
    repeat' first | (with_reducible first | refine zA ?_ | refine zB ?_ | refine zP ?_ | refine zF ?_) | ((with_reducible refine zC fun KC J hJ hKC => ?_); simp (maxSteps := 9999999) only [push_cast, seval, ↓reduceIte]) | ((with_reducible refine hJ _ _ ?_); clear hJ hKC KC J)
    refine zE ?_
    simp (maxSteps := 9999999) only [push_cast, seval, ↓reduceIte, show Tryz.f139.results = #[(.cell 2 40)] from rfl]
    exact Lq
   ·rw [if_neg (fun h : Lat us => by have := (zFL (p := fun a b => jmB us a b = true)).2 (fun a ha b hb => decide_eq_true (h a ha b hb)) k hk; rw [hkf] at this; cases this)]
    refine zE ?_
    simp (maxSteps := 9999999) only [push_cast, seval, ↓reduceIte, show Tryz.f139.results = #[(.cell 2 40)] from rfl]
    exact Lq
  ·have ho' : decide (Ord us) = false := decide_eq_false ho
   rw [show zAA ns us = 2 by rw [zAA, if_pos hm, if_neg ho]]
   repeat' first | (with_reducible first | refine zA ?_ | refine zB ?_ | refine zb ?_ | refine zAC ?_ | refine zF ?_ | refine zI ?_) | ((first | with_reducible refine zC fun KC J hJ hKC => ?_ | (refine' hKC _ _ _ _ _ (zD (zGs _ _ _ _ ?_ ?_) rfl rfl rfl ?_ ?_); (rotate_left 6); (· exact Lq); (rotate_left 1); (iterate 2 (· exact Hq))) | (refine' hKC _ _ _ _ _ (zD (zLp _ _ _ _ ?_ ?_ ?_) rfl rfl rfl ?_ ?_); (rotate_left 7); (· exact Lq); (rotate_left 1); (iterate 3 (· exact Hq)))); simp (maxSteps := 9999999) only [push_cast, seval, ↓reduceIte, hm, ho']) | ((with_reducible refine hJ _ _ ?_); clear hJ hKC KC J) | ((with_reducible refine zG ?_ ?_); · rfl) | ((with_reducible refine zH ?_ ?_); · rfl)
   refine zE ?_
   simp (maxSteps := 9999999) only [push_cast, seval, ↓reduceIte, show Tryz.f139.results = #[(.cell 2 40)] from rfl]
   exact zK _
 ·rw [show zAA ns us = 1 from if_neg hm]
  repeat' first | (with_reducible first | refine zA ?_ | refine zB ?_ | refine zb ?_ | refine zAC ?_ | refine zF ?_ | refine zI ?_) | ((first | with_reducible refine zC fun KC J hJ hKC => ?_ | (refine' hKC _ _ _ _ _ (zD (zGs _ _ _ _ ?_ ?_) rfl rfl rfl ?_ ?_); (rotate_left 6); (· exact Lq); (rotate_left 1); (iterate 2 (· exact Hq)))); simp (maxSteps := 9999999) only [push_cast, seval, ↓reduceIte, hm]) | ((with_reducible refine hJ _ _ ?_); clear hJ hKC KC J) | ((with_reducible refine zG ?_ ?_); · rfl)
  refine zE ?_
  simp (maxSteps := 9999999) only [push_cast, seval, ↓reduceIte, show Tryz.f139.results = #[(.cell 2 40)] from rfl]
  exact zK _
def zDM (l : List ByteArray) : List D := l.map fun s => .v (.string s)
def zLt (l : List Nat) : List D := l.map fun n => .v (.int .u32 (uv n))
@[push_cast] theorem zUn (l : List ByteArray) : zAc (zDM l) = true := by induction l with | nil => rfl | cons a l ih => simpa [zDM, zAc, frz, frz0] using ih
@[push_cast] theorem zUj (l : List Nat) : zAc (zLt l) = true := by induction l with | nil => rfl | cons a l ih => simpa [zLt, zAc, frz, frz0] using ih
@[push_cast] theorem zVJ (k g sz : Nat) (c : List D) (l : List Nat) : (zLt l).map (fr1 k g sz c) = zLt l := by simp [zLt, fr1, fr0]
@[push_cast] theorem zUw (k g sz : Nat) (c : List D) (l : List ByteArray) : (zDM l).map (fr1 k g sz c) = zDM l := by simp [zDM, fr1, fr0]
theorem zGY {l : List D} {n : Nat} (h : l.length = n) : l.take (n * 1) = l := by rw [Nat.mul_one]; exact List.take_of_length_le (by omega)
theorem zEQ {α : Type} {xs ys : List α} (hl : xs.length = ys.length) (h : ∀ j, j < xs.length → xs[j]? = ys[j]?) : xs = ys :=
 List.ext_getElem? fun j => by
  by_cases hj : j < xs.length
  ·exact h j hj
  ·rw [List.getElem?_eq_none (by omega), List.getElem?_eq_none (by omega)]
def za (l : List (Int × Int)) : List (List D) := l.map fun e => [.v (.int .i64 e.1), .v (.int .i64 e.2)]
def zk (l : List (Int × Int)) : List D := (za l).flatten
@[push_cast] theorem zTp (l : List (Int × Int)) : (za l).length = l.length := by simp [za]
@[push_cast] theorem zUz (l : List (Int × Int)) (a b : Nat) : sub (za l) a b = za ((l.take b).drop a) := by simp [za, zEP]
theorem zBh {l : List (Int × Int)} {n : Nat} {x : Int × Int} (h : l[n]? = some x) : zFb (za l) n = [.v (.int .i64 x.1), .v (.int .i64 x.2)] := by unfold za; exact zBm _ _ _ _ h
theorem zAp (l : List (Int × Int)) : (zk l).length = l.length * 2 := by
 induction l with
 | nil => rfl
 | cons a l ih => simp [zk, za] at *; omega
theorem zFw (l m : List (Int × Int)) : zk (l ++ m) = zk l ++ zk m := by simp [zk, za]
@[push_cast] theorem zTv (l : List (Int × Int)) : zAc (zk l) = true := by
 induction l with
 | nil => rfl
 | cons a l ih => simpa [zk, za, zAc, frz, frz0] using ih
@[push_cast] theorem zUm (k g sz : Nat) (c : List D) (l : List (Int × Int)) : (zk l).map (fr1 k g sz c) = zk l := by
 induction l with
 | nil => rfl
 | cons a l ih => simpa [zk, za, fr1, fr0] using ih
theorem zGF (l : List (Int × Int)) : zAh 2 l.length (zk l) = za l := by
 induction l with
 | nil => rfl
 | cons a l ih => simpa [zk, za, zAh] using ih
theorem zHu {x y : Int × Int} : (x.1 == y.1 && x.2 == y.2) = decide (x = y) := by
 rw [Bool.eq_iff_iff]
 simp [Prod.ext_iff]
theorem zV (m : Nat → Option Nat) (l : List (Int × Int)) : (zk l).map (ren m) = zk l := by
 induction l with
 | nil => rfl
 | cons a l ih => simpa [zk, za, ren, ren2, ren1, ren0] using ih
theorem zHZ {l : List (Int × Int)} (h : 0 < l.length) : zCh (za l) = false := by cases l with | nil => simp at h | cons _ _ => rfl
theorem zFG (l : List (Int × Int)) (n : Nat) : (zk l).take (n * 2) = zk (l.take n) := by
 induction l generalizing n with
 | nil => simp [zk, za]
 | cons a l ih => cases n with
  | zero => simp [zk, za]
  | succ n =>
   have : (n + 1) * 2 = n * 2 + 1 + 1 := by omega
   rw [this]
   have h2 := ih n
   simp [zk, za] at *
   exact h2
theorem zEx (l : List (Int × Int)) (n : Nat) : (zk l).drop (n * 2) = zk (l.drop n) := by
 induction l generalizing n with
 | nil => simp [zk, za]
 | cons a l ih => cases n with
  | zero => simp [zk, za]
  | succ n =>
   have : (n + 1) * 2 = n * 2 + 1 + 1 := by omega
   rw [this]
   have h2 := ih n
   simp [zk, za] at *
   exact h2
def zo (l : List (Int × Int × Int)) : List (List D) := l.map fun e => [.v (.int .i64 e.1), .v (.int .i64 e.2.1), .v (.int .i64 e.2.2)]
def zs (l : List (Int × Int × Int)) : List D := (zo l).flatten
@[push_cast] theorem zTq (l : List (Int × Int × Int)) : (zo l).length = l.length := by simp [zo]
@[push_cast] theorem zVH (l : List (Int × Int × Int)) (a b : Nat) : sub (zo l) a b = zo ((l.take b).drop a) := by simp [zo, zEP]
theorem zCj {l : List (Int × Int × Int)} {n : Nat} {x : Int × Int × Int} (h : l[n]? = some x) : zFb (zo l) n = [.v (.int .i64 x.1), .v (.int .i64 x.2.1), .v (.int .i64 x.2.2)] := by unfold zo; exact zBm _ _ _ _ h
def zg (l : List (Bool × Int × Int)) : List (List D) := l.map fun e => [.v (.bool e.1), .v (.int .i64 e.2.1), .v (.int .i64 e.2.2)]
def zj (l : List (Bool × Int × Int)) : List D := (zg l).flatten
@[push_cast] theorem zTi (l : List (Bool × Int × Int)) : (zg l).length = l.length := by simp [zg]
@[push_cast] theorem zVA (l : List (Bool × Int × Int)) (a b : Nat) : sub (zg l) a b = zg ((l.take b).drop a) := by simp [zg, zEP]
theorem zBi {l : List (Bool × Int × Int)} {n : Nat} {x : Bool × Int × Int} (h : l[n]? = some x) : zFb (zg l) n = [.v (.bool x.1), .v (.int .i64 x.2.1), .v (.int .i64 x.2.2)] := by unfold zg; exact zBm _ _ _ _ h
structure Sta where
 v : Int
 l : Int
 code : List (Int × Int × Int)
 mem : List (Int × Int)
 stack : List (Bool × Int × Int)
 out : List (Int × Int)
theorem zJm (f : Bool) (xs : List Int) (cf : Nat) (caps : List D) (p : Int → Bool) (hb : xs.length ≤ 9223372036854775807) (hc : zr caps = true)
  (hp : ∀ x ∈ xs, Fn Tryz.prog cf (.v (.int .i64 x) :: caps) [] (.v (.bool (p x))) []) : Fn Tryz.prog 271 [.sl f 1 (zM xs), .fn cf caps] [] (.v (.int .i64 (zDt p xs))) [] := by
 refine Fn.of (fn := Tryz.f271) (by kernel_rfl) rfl (by kernel_rfl) ⟨[.sl f 1 (zM xs), .fn cf caps, .v undef, .v undef, .v undef, .v undef, .v undef, .v undef, .v undef, .v undef, .v undef, .v undef, .v undef, .v undef, .v undef, .v undef, .v undef, .v undef, .v undef], []⟩ rfl ?_
 repeat' first | (with_reducible first | refine zA ?_ | refine zB ?_ | refine zI ?_) | ((with_reducible refine zC fun KC J hJ hKC => ?_); simp (maxSteps := 9999999) only [push_cast, seval, ↓reduceIte]) | ((with_reducible refine hJ _ _ ?_); clear hJ hKC KC J)
 refine zAJ (γ := {i : Nat // i ≤ xs.length ∧ ∀ (j : Nat) (hj : j < xs.length), j < i → p xs[j] = false}) (fun i => ⟨[.sl f 1 (zM xs), .fn cf caps, .any, .any, .any, .any, .any, .v (.int .i64 xs.length), .v (.int .i64 i.1), .any, .any, .any, .any, .any, .any, .any, .any, .any, .any], []⟩) (fun i => xs.length - i.1) ⟨0, by simp⟩ ⟨?_, Fq⟩ ?_
 ·exact Lq
 ·rintro ⟨i, hi, hn⟩
  by_cases hlt : (i : Int) < (xs.length : Int)
  ·have hx : xs[i]? = some xs[i] := List.getElem?_eq_getElem (by omega)
   have hfn := hp xs[i] (List.getElem_mem (by omega))
   repeat' first | (with_reducible first | refine zA ?_ | refine zB ?_ | refine zb ?_ | refine zP ?_ | refine zAC ?_ | refine zF ?_ | refine zJ ?_ | refine zI ?_) | ((with_reducible refine And.intro ?_ ?_); · exact Sq) | ((first | with_reducible refine zC fun KC J hJ hKC => ?_ | (refine hKC _ _ _ _ _ (zD (hfn) rfl rfl rfl ?_ ?_); (· exact Lq))); simp (maxSteps := 9999999) only [push_cast, seval, ↓reduceIte, hlt, zAV hx, zp (i := i) (n := xs.length) (by omega) hb]) | ((with_reducible refine hJ _ _ ?_); clear hJ hKC KC J) | ((with_reducible refine zG ?_ ?_); · rfl) | (refine zAa rfl (fun h => ?_) (fun h => ?_) <;> try simp only [decide_eq_true_eq, decide_eq_false_iff_not, Bool.not_eq_true', Bool.not_eq_false', beq_iff_eq, bne_iff_ne, ne_eq, Bool.not_eq_true, Bool.or_eq_true, Bool.and_eq_true, Bool.or_eq_false_iff, Bool.and_eq_false_imp, beq_eq_false_iff_ne, bne_eq_false_iff_eq] at h)
   ·refine zE ?_
    simp (maxSteps := 9999999) only [push_cast, seval, ↓reduceIte, show Tryz.f271.results = #[(.tmp 4)] from rfl]
    exact zAk (by rw [zCt (by omega) h hn])
   ·refine ⟨⟨i + 1, by omega, fun j hj hji => ?_⟩, by simp only; omega, ?_, Fq⟩
    ·by_cases he : j = i
     ·subst he; exact h
     ·exact hn j hj (by omega)
    ·exact Lq
  ·skip
   repeat' first | (with_reducible first | refine zA ?_ | refine zB ?_ | refine zm ?_ | refine zl ?_ | refine zF ?_ | refine zZ ?_) | ((with_reducible refine zC fun KC J hJ hKC => ?_); simp (maxSteps := 9999999) only [push_cast, seval, ↓reduceIte, hlt]) | ((with_reducible refine hJ _ _ ?_); clear hJ hKC KC J) | ((with_reducible refine zH ?_ ?_); · rfl)
   refine zE ?_
   simp (maxSteps := 9999999) only [push_cast, seval, ↓reduceIte, show Tryz.f271.results = #[(.tmp 4)] from rfl]
   exact zAk (by rw [zBf (fun j hj => hn j hj (by omega))])
theorem zCk (f : Bool) (xs : List Int) (cf : Nat) (caps : List D) (p : Int → Bool) (hb : xs.length ≤ 9223372036854775807) (hc : zr caps = true)
  (hp : ∀ x ∈ xs, Fn Tryz.prog cf (.v (.int .i64 x) :: caps) [] (.v (.bool (p x))) []) : Fn Tryz.prog 208 [.sl f 1 (zM xs), .fn cf caps] [] (.v (.bool (xs.any p))) [] := by
 have hfn := zJm f xs cf caps p hb hc hp
 refine Fn.of (fn := Tryz.f208) (by kernel_rfl) rfl (by kernel_rfl) ⟨[.sl f 1 (zM xs), .fn cf caps, .v undef, .v undef, .v undef, .v undef, .v undef, .v undef, .v undef], []⟩ rfl ?_
 repeat' first | (with_reducible first | refine zA ?_ | refine zB ?_ | refine zF ?_) | ((first | with_reducible refine zC fun KC J hJ hKC => ?_ | (refine hKC _ _ _ _ _ (zD (hfn) rfl rfl rfl ?_ ?_); (· exact Lq))); simp (maxSteps := 9999999) only [push_cast, seval, ↓reduceIte, zEK]) | ((with_reducible refine hJ _ _ ?_); clear hJ hKC KC J)
 refine zE ?_
 simp (maxSteps := 9999999) only [push_cast, seval, ↓reduceIte, show Tryz.f208.results = #[(.tmp 4)] from rfl]
 exact zK _
def zx (n : Nat) (a : Int) : Bool := decide (a < 0) || decide ((n : Int) ≤ a)
theorem zBU {n : Nat} {a : Int} (h : zx n a = false) : ∃ b : Nat, a = (b : Int) ∧ b < n := by
 simp only [zx, Bool.or_eq_false_iff, decide_eq_false_iff_not] at h
 exact ⟨a.toNat, by omega, by omega⟩
theorem zOf (f g : Bool) (ns : List ByteArray) (us : List Nat) (a : Int) : Fn Tryz.prog 209 [.v (.int .i64 a), .fad [.sl f 1 (zS ns), .sl g 1 (zQ us)]] [] (.v (.bool (zx us.length a))) [] := by
 refine Fn.of (fn := Tryz.f209) (by kernel_rfl) rfl (by kernel_rfl) ⟨[.v (.int .i64 a), .fad [.sl f 1 (zS ns), .sl g 1 (zQ us)], .v undef, .v undef, .v undef, .v undef, .v undef, .v undef, .v undef, .v undef, .v undef, .v undef, .v undef], []⟩ rfl ?_
 obtain ⟨x, hx⟩ : ∃ x, decide (a < 0) = x := ⟨_, rfl⟩
 rw [zx, hx]
 cases x
 all_goals
  repeat' first | (with_reducible first | refine zA ?_ | refine zB ?_ | refine zF ?_) | ((with_reducible refine zC fun KC J hJ hKC => ?_); simp (maxSteps := 9999999) only [push_cast, seval, ↓reduceIte, hx, undef]) | ((with_reducible refine hJ _ _ ?_); clear hJ hKC KC J)
  refine zE ?_
  simp (maxSteps := 9999999) only [push_cast, seval, ↓reduceIte, show Tryz.f209.results = #[(.tmp 3)] from rfl]
  exact zK _
theorem zPz (f g : Bool) (ns : List ByteArray) (us : List Nat) (a : Int) : Fn Tryz.prog 220 [.v (.int .i64 a), .fad [.sl f 1 (zS ns), .sl g 1 (zQ us)]] [] (.v (.bool (zx us.length a))) [] := by
 refine Fn.of (fn := Tryz.f220) (by kernel_rfl) rfl (by kernel_rfl) ⟨[.v (.int .i64 a), .fad [.sl f 1 (zS ns), .sl g 1 (zQ us)], .v undef, .v undef, .v undef, .v undef, .v undef, .v undef, .v undef, .v undef, .v undef, .v undef, .v undef], []⟩ rfl ?_
 obtain ⟨x, hx⟩ : ∃ x, decide (a < 0) = x := ⟨_, rfl⟩
 rw [zx, hx]
 cases x
 all_goals
  repeat' first | (with_reducible first | refine zA ?_ | refine zB ?_ | refine zF ?_) | ((with_reducible refine zC fun KC J hJ hKC => ?_); simp (maxSteps := 9999999) only [push_cast, seval, ↓reduceIte, hx, undef]) | ((with_reducible refine hJ _ _ ?_); clear hJ hKC KC J)
  refine zE ?_
  simp (maxSteps := 9999999) only [push_cast, seval, ↓reduceIte, show Tryz.f220.results = #[(.tmp 3)] from rfl]
  exact zK _
def zEm (ns : List ByteArray) (us : List Nat) (L : List Int) : Int := if zAA ns us = 0 then if L.any (zx us.length) = true then 9 else 0 else zAA ns us
theorem zTz (f g h : Bool) (ns : List ByteArray) (us : List Nat) (L : List Int) (hs : Szs ns) (hu : U32 us) (hl : L.length ≤ 1000) :
  Fn Tryz.prog 108 [.agg [.sl f 1 (zS ns), .sl g 1 (zQ us)], .sl h 1 (zM L)] [] (.v (.int .i64 (zEm ns us L))) [] := by
 have hcf := zCk h L 209 [.fad [.sl f 1 (zS ns), .sl g 1 (zQ us)]] (zx us.length) (by omega) rfl (fun x _ => zOf f g ns us x)
 refine Fn.of (fn := Tryz.f108) (by kernel_rfl) rfl (by kernel_rfl) ⟨[.agg [.sl f 1 (zS ns), .sl g 1 (zQ us)], .sl h 1 (zM L), .v undef, .v undef, .v undef, .v undef, .v undef, .v undef, .v undef, .v undef, .v undef, .v undef, .v undef, .v undef], []⟩ rfl ?_
 by_cases hc : zAA ns us = 0
 ·obtain ⟨x, hx⟩ : ∃ x, L.any (zx us.length) = x := ⟨_, rfl⟩
  rw [zEm, if_pos hc, hx]
  cases x
  all_goals
   repeat' first | (refine zU 4 0 rfl (by (simp (maxSteps := 9999999) only [push_cast, seval, ↓reduceIte]) <;> rfl) ?_; simp (maxSteps := 9999999) only [push_cast, seval, ↓reduceIte, zAK, zi, fr3, fr2, fr1, fr0, zq, zn, hc, hx]) | (with_reducible first | refine zA ?_ | refine zB ?_ | refine zb ?_ | refine zF ?_ | refine zJ ?_) | ((first | with_reducible refine zC fun KC J hJ hKC => ?_ | (refine' hKC _ _ _ _ _ (zD (zBX _ _ _ _ ?_ ?_) rfl rfl rfl ?_ ?_); (rotate_left 6); (· exact Lq); (rotate_left 1); (iterate 2 (· exact Hq))) | (refine hKC _ _ _ _ _ (zD (hcf) rfl rfl rfl ?_ ?_); (· exact Lq))); simp (maxSteps := 9999999) only [push_cast, seval, ↓reduceIte, hc, hx]) | ((with_reducible refine hJ _ _ ?_); clear hJ hKC KC J) | ((with_reducible refine zG ?_ ?_); · rfl) | ((with_reducible refine zH ?_ ?_); · rfl)
   refine zE ?_
   simp (maxSteps := 9999999) only [push_cast, seval, ↓reduceIte, show Tryz.f108.results = #[(.tmp 4)] from rfl]
   exact Lq
 ·have hc' : (zAA ns us != 0) = true := by simpa using hc
  rw [zEm, if_neg hc]
  repeat' first | (with_reducible first | refine zA ?_ | refine zB ?_ | refine zb ?_ | refine zF ?_) | ((first | with_reducible refine zC fun KC J hJ hKC => ?_ | (refine' hKC _ _ _ _ _ (zD (zBX _ _ _ _ ?_ ?_) rfl rfl rfl ?_ ?_); (rotate_left 6); (· exact Lq); (rotate_left 1); (iterate 2 (· exact Hq)))); simp (maxSteps := 9999999) only [push_cast, seval, ↓reduceIte, hc']) | ((with_reducible refine hJ _ _ ?_); clear hJ hKC KC J) | ((with_reducible refine zG ?_ ?_); · rfl)
  refine zE ?_
  simp (maxSteps := 9999999) only [push_cast, seval, ↓reduceIte, show Tryz.f108.results = #[(.tmp 4)] from rfl]
  exact Lq
theorem zRp (f g h : Bool) (ns : List ByteArray) (us : List Nat) (L : List Int) (hs : Szs ns) (hu : U32 us) (hl : L.length ≤ 1000) :
  Fn Tryz.prog 115 [.agg [.sl f 1 (zS ns), .sl g 1 (zQ us)], .sl h 1 (zM L)] [] (.v (.int .i64 (zEm ns us L))) [] := by
 have hcf := zCk h L 220 [.fad [.sl f 1 (zS ns), .sl g 1 (zQ us)]] (zx us.length) (by omega) rfl (fun x _ => zPz f g ns us x)
 refine Fn.of (fn := Tryz.f115) (by kernel_rfl) rfl (by kernel_rfl) ⟨[.agg [.sl f 1 (zS ns), .sl g 1 (zQ us)], .sl h 1 (zM L), .v undef, .v undef, .v undef, .v undef, .v undef, .v undef, .v undef, .v undef, .v undef, .v undef, .v undef, .v undef], []⟩ rfl ?_
 by_cases hc : zAA ns us = 0
 ·obtain ⟨x, hx⟩ : ∃ x, L.any (zx us.length) = x := ⟨_, rfl⟩
  rw [zEm, if_pos hc, hx]
  cases x
  all_goals
   repeat' first | (refine zU 4 0 rfl (by (simp (maxSteps := 9999999) only [push_cast, seval, ↓reduceIte]) <;> rfl) ?_; simp (maxSteps := 9999999) only [push_cast, seval, ↓reduceIte, zAK, zi, fr3, fr2, fr1, fr0, zq, zn, hc, hx]) | (with_reducible first | refine zA ?_ | refine zB ?_ | refine zb ?_ | refine zF ?_ | refine zJ ?_) | ((first | with_reducible refine zC fun KC J hJ hKC => ?_ | (refine' hKC _ _ _ _ _ (zD (zBX _ _ _ _ ?_ ?_) rfl rfl rfl ?_ ?_); (rotate_left 6); (· exact Lq); (rotate_left 1); (iterate 2 (· exact Hq))) | (refine hKC _ _ _ _ _ (zD (hcf) rfl rfl rfl ?_ ?_); (· exact Lq))); simp (maxSteps := 9999999) only [push_cast, seval, ↓reduceIte, hc, hx]) | ((with_reducible refine hJ _ _ ?_); clear hJ hKC KC J) | ((with_reducible refine zG ?_ ?_); · rfl) | ((with_reducible refine zH ?_ ?_); · rfl)
   refine zE ?_
   simp (maxSteps := 9999999) only [push_cast, seval, ↓reduceIte, show Tryz.f115.results = #[(.tmp 4)] from rfl]
   exact Lq
 ·have hc' : (zAA ns us != 0) = true := by simpa using hc
  rw [zEm, if_neg hc]
  repeat' first | (with_reducible first | refine zA ?_ | refine zB ?_ | refine zb ?_ | refine zF ?_) | ((first | with_reducible refine zC fun KC J hJ hKC => ?_ | (refine' hKC _ _ _ _ _ (zD (zBX _ _ _ _ ?_ ?_) rfl rfl rfl ?_ ?_); (rotate_left 6); (· exact Lq); (rotate_left 1); (iterate 2 (· exact Hq)))); simp (maxSteps := 9999999) only [push_cast, seval, ↓reduceIte, hc']) | ((with_reducible refine hJ _ _ ?_); clear hJ hKC KC J) | ((with_reducible refine zG ?_ ?_); · rfl)
  refine zE ?_
  simp (maxSteps := 9999999) only [push_cast, seval, ↓reduceIte, show Tryz.f115.results = #[(.tmp 4)] from rfl]
  exact Lq
theorem zHH (f g : Bool) (ns : List ByteArray) (us : List Nat) (a b : Nat) (hs : Szs ns) (hu : U32 us) (hc : zAA ns us = 0) (ha : a < us.length) (hb : b < us.length) :
  Fn Tryz.prog 217 [.agg [.sl f 1 (zS ns), .sl g 1 (zQ us)], .v (.int .i64 (a : Int)), .v (.int .i64 (b : Int))] [] (.tup [.v (.bool (fl us a b)), .v (.int .i64 0)]) [] := by
 have hm : zEm ns us [(a : Int), (b : Int)] = 0 := by
  rw [zEm, if_pos hc, if_neg]
  simp [zx]
  omega
 have hth := zRp f g true ns us [(a : Int), (b : Int)] hs hu (by simp)
 rw [hm] at hth
 refine Fn.of (fn := Tryz.f217) (by kernel_rfl) rfl (by kernel_rfl) ⟨[.agg [.sl f 1 (zS ns), .sl g 1 (zQ us)], .v (.int .i64 (a : Int)), .v (.int .i64 (b : Int)), .v undef, .v undef, .v undef, .v undef, .v undef, .v undef, .v undef, .v undef, .v undef, .v undef, .v undef, .v undef, .v undef, .v undef, .v undef, .v undef, .v undef, .v undef], []⟩ rfl ?_
 repeat' first | (with_reducible first | refine zA ?_ | refine zB ?_ | refine zF ?_ | refine zJ ?_) | ((first | with_reducible refine zC fun KC J hJ hKC => ?_ | (refine' hKC _ _ _ _ _ (zD (zDD _ _ _ _ _ _ ?_ ?_) rfl rfl rfl ?_ ?_); (rotate_left 8); (· exact Lq); (rotate_left 1); (iterate 2 (· exact Hq))) | (refine hKC _ _ _ _ _ (zD (hth) rfl rfl rfl ?_ ?_); (· exact Lq))); simp (maxSteps := 9999999) only [push_cast, seval, ↓reduceIte]) | ((with_reducible refine hJ _ _ ?_); clear hJ hKC KC J) | ((with_reducible refine zH ?_ ?_); · rfl)
 refine zE ?_
 simp (maxSteps := 9999999) only [push_cast, seval, ↓reduceIte, show Tryz.f217.results = #[(.tmp 6), (.tmp 7)] from rfl]
 exact Lq
theorem zBO (f g : Bool) (ns : List ByteArray) (us : List Nat) (a o : Nat) (hs : Szs ns) (hu : U32 us) (hc : zAA ns us = 0) (ha : a < us.length) (ho : o < us.length) :
  Fn Tryz.prog 112 [.agg [.sl f 1 (zS ns), .sl g 1 (zQ us), .v (.int .i64 (o : Int))], .v (.int .i64 (a : Int))] [] (.v (.bool (fl us a o))) [] := by
 refine Fn.of (fn := Tryz.f112) (by kernel_rfl) rfl (by kernel_rfl) ⟨[.agg [.sl f 1 (zS ns), .sl g 1 (zQ us), .v (.int .i64 (o : Int))], .v (.int .i64 (a : Int)), .v undef, .v undef, .v undef, .v undef, .v undef, .v undef, .v undef, .v undef, .v undef, .v undef, .v undef, .v undef, .v undef, .v undef, .v undef], []⟩ rfl ?_
 repeat' first | (with_reducible first | refine zA ?_ | refine zB ?_ | refine zF ?_) | ((first | with_reducible refine zC fun KC J hJ hKC => ?_ | (refine' hKC _ _ _ _ _ (zD (zHH _ _ _ _ _ _ ?_ ?_ ?_ ?_ ?_) rfl rfl rfl ?_ ?_); (rotate_left 11); (· exact Lq); (rotate_left 1); (iterate 5 (· exact Hq)))); simp (maxSteps := 9999999) only [push_cast, seval, ↓reduceIte]) | ((with_reducible refine hJ _ _ ?_); clear hJ hKC KC J)
 refine zE ?_
 simp (maxSteps := 9999999) only [push_cast, seval, ↓reduceIte, show Tryz.f112.results = #[(.tmp 4)] from rfl]
 exact zK _
def zt (l : List Int) : List D := l.map fun x => .v (.int .i64 x)
theorem zAM (l : List Int) : (zt l).length = l.length := by simp [zt]
theorem zAE (m : Nat → Option Nat) (l : List Int) : (zt l).map (ren m) = zt l := by simp [zt, ren, ren2, ren1, ren0]
@[push_cast] theorem zPx (l : List Int) : zAc (zt l) = true := by induction l with | nil => rfl | cons a l ih => simpa [zt, zAc, frz, frz0] using ih
@[push_cast] theorem zUs (k g sz : Nat) (c : List D) (l : List Int) : (zt l).map (fr1 k g sz c) = zt l := by simp [zt, fr1, fr0]
theorem zFW (l : List Int) : zAh 1 l.length (zt l) = zM l := zHA (fun x : Int => (.v (.int .i64 x) : D)) l
theorem zEF (l m : List Int) : zt (l ++ m) = zt l ++ zt m := by simp [zt]
theorem zSR (f g : Bool) (ns : List ByteArray) (us : List Nat) (L : List Int) (ge n : Nat) (hn : L.length = n) (hs : Szs ns) (hu : U32 us) (hl : L.length ≤ 1000) :
  Fn Tryz.prog 108 [.agg [.sl f 1 (zS ns), .sl g 1 (zQ us)], .ref 0 ge n] [.ent ⟨ge, some 1, 3, zt L, .cells⟩] (.v (.int .i64 (zEm ns us L))) [.dead] := by
 have hcf := zCk false L 209 [.fad [.sl f 1 (zS ns), .sl g 1 (zQ us)]] (zx us.length) (by omega) rfl (fun x _ => zOf f g ns us x)
 have hbm : Nat.beq ge ge = true := Nat.beq_refl ge
 have hlC : (zt L).length = n := by rw [zAM, hn]
 have hcI : zAh 1 n (zt L) = zM L := by rw [← hn]; exact zFW L
 refine Fn.of (fn := Tryz.f108) (by kernel_rfl) rfl (by kernel_rfl) ⟨[.agg [.sl f 1 (zS ns), .sl g 1 (zQ us)], .ref 0 ge n, .v undef, .v undef, .v undef, .v undef, .v undef, .v undef, .v undef, .v undef, .v undef, .v undef, .v undef, .v undef], [.ent ⟨ge, some 1, 3, zt L, .cells⟩]⟩ rfl ?_
 refine zAe 0 rfl (by simp (maxSteps := 9999999) only [push_cast, seval, ↓reduceIte]) ?_
 simp (maxSteps := 9999999) only [push_cast, seval, ↓reduceIte, zAK, zi, fr3, fr2, fr1, fr0, zq, zn, hbm, hlC, hcI]
 by_cases hc : zAA ns us = 0
 ·obtain ⟨x, hx⟩ : ∃ x, L.any (zx us.length) = x := ⟨_, rfl⟩
  rw [zEm, if_pos hc, hx]
  cases x
  all_goals
   repeat' first | (refine zU 4 1 rfl (by (simp (maxSteps := 9999999) only [push_cast, seval, ↓reduceIte]) <;> rfl) ?_; simp (maxSteps := 9999999) only [push_cast, seval, ↓reduceIte, zAK, zi, fr3, fr2, fr1, fr0, zq, zn, hc, hx]) | (with_reducible first | refine zA ?_ | refine zB ?_ | refine zb ?_ | refine zF ?_ | refine zJ ?_) | ((first | with_reducible refine zC fun KC J hJ hKC => ?_ | (refine' hKC _ _ _ _ _ (zD (zBX _ _ _ _ ?_ ?_) rfl rfl rfl ?_ ?_); (rotate_left 6); (· exact Lq); (rotate_left 1); (iterate 2 (· exact Hq))) | (refine hKC _ _ _ _ _ (zD (hcf) rfl rfl rfl ?_ ?_); (· exact Lq))); simp (maxSteps := 9999999) only [push_cast, seval, ↓reduceIte, hc, hx]) | ((with_reducible refine hJ _ _ ?_); clear hJ hKC KC J) | ((with_reducible refine zG ?_ ?_); · rfl) | ((with_reducible refine zH ?_ ?_); · rfl)
   refine zd ?_
   simp (maxSteps := 9999999) only [push_cast, seval, ↓reduceIte, show Tryz.f108.results = #[(.tmp 4)] from rfl]
   exact ⟨rfl, zK _⟩
 ·have hc' : (zAA ns us != 0) = true := by simpa using hc
  rw [zEm, if_neg hc]
  repeat' first | (with_reducible first | refine zA ?_ | refine zB ?_ | refine zb ?_ | refine zF ?_) | ((first | with_reducible refine zC fun KC J hJ hKC => ?_ | (refine' hKC _ _ _ _ _ (zD (zBX _ _ _ _ ?_ ?_) rfl rfl rfl ?_ ?_); (rotate_left 6); (· exact Lq); (rotate_left 1); (iterate 2 (· exact Hq)))); simp (maxSteps := 9999999) only [push_cast, seval, ↓reduceIte, hc']) | ((with_reducible refine hJ _ _ ?_); clear hJ hKC KC J) | ((with_reducible refine zG ?_ ?_); · rfl)
  refine zd ?_
  simp (maxSteps := 9999999) only [push_cast, seval, ↓reduceIte, show Tryz.f108.results = #[(.tmp 4)] from rfl]
  exact ⟨rfl, zK _⟩
theorem zTB (f : Bool) (l : List Int) : Fn Tryz.prog 276 [.sl f 1 (zM l)] [] (.sl true 1 (zM l)) [] := by
 refine Fn.of (fn := Tryz.f276) (by kernel_rfl) rfl (by kernel_rfl) ⟨[.sl f 1 (zM l), .v undef, .v undef, .v undef, .v undef, .v undef, .v undef, .v undef, .v undef], []⟩ rfl ?_
 repeat' first | (with_reducible first | refine zA ?_ | refine zB ?_ | refine zF ?_) | ((with_reducible refine And.intro ?_ ?_); · exact Sq) | ((with_reducible refine zC fun KC J hJ hKC => ?_); simp (maxSteps := 9999999) only [push_cast, seval, ↓reduceIte]) | ((with_reducible refine hJ _ _ ?_); clear hJ hKC KC J)
 refine zE ?_
 simp (maxSteps := 9999999) only [push_cast, seval, ↓reduceIte, show Tryz.f276.results = #[(.tmp 2)] from rfl]
 rw [List.take_length]
 exact zK _
structure Dr where
 l : List Int
 a : Int
 g : List Int
 deriving DecidableEq
def Dr.z : Dr := ⟨[], 0, []⟩
def Dr.ok (d : Dr) : Bool := zAn d.l d.g d.a
def zBC (f g : Bool) (d : Dr) : D := .agg [.sl f 1 (zM d.l), .v (.int .i64 d.a), .sl g 1 (zM d.g)]
def zAP (d : Dr) (b : Int) : Dr × Int × Int :=
 if zAn d.l d.g d.a = false ∨ b < 1 then (Dr.z, 0, 1)
 else if d.g.length = 2000 then (Dr.z, 0, 8)
 else (⟨d.l, (if d.a < d.l.length then d.a + 1 else d.a), d.g ++ [zBT d.l d.a b]⟩, zBT d.l d.a b, 0)
theorem zOu {l lg : List Int} {a b : Int} (h1 : zAn l lg a = true) (h2 : ¬ b < 1) (h3 : ¬ (lg.length : Int) = 2000) :
  zAP ⟨l, a, lg⟩ b = (⟨l, (if a < l.length then a + 1 else a), lg ++ [zBT l a b]⟩, zBT l a b, 0) := by
 unfold zAP
 have hn : ¬ (zAn l lg a = false ∨ b < 1) := by
  rintro (h | h)
  ·rw [h1] at h; cases h
  ·exact h2 h
 rw [if_neg hn, if_neg (by simp only; omega)]
theorem zGH (f g : Bool) (l lg : List Int) (a b : Int) (hB : b ≤ 9223372036854775807) :
  Fn Tryz.prog 227 [.agg [.sl f 1 (zM l), .v (.int .i64 a), .sl g 1 (zM lg)], .v (.int .i64 b)] []
   (.tup [zBC f false (zAP ⟨l, a, lg⟩ b).1, .v (.int .i64 (zAP ⟨l, a, lg⟩ b).2.1), .v (.int .i64 (zAP ⟨l, a, lg⟩ b).2.2)]) [] := by
 refine Fn.of (fn := Tryz.f227) (by kernel_rfl) rfl (by kernel_rfl) ⟨[.agg [.sl f 1 (zM l), .v (.int .i64 a), .sl g 1 (zM lg)], .v (.int .i64 b), .v undef, .v undef, .v undef, .v undef, .v undef, .v undef, .v undef, .v undef, .v undef, .v undef, .v undef, .v undef, .v undef, .v undef, .v undef, .v undef, .v undef, .v undef, .v undef, .v undef, .v undef, .v undef, .v undef, .v undef, .v undef, .v undef, .v undef, .v undef, .v undef, .v undef, .v undef, .v undef, .v undef, .v undef, .v undef, .v undef, .v undef, .v undef, .v undef, .v undef, .v undef, .v undef, .v undef], []⟩ rfl ?_
 by_cases hr : zAn l lg a = true
 ·have h0 : 0 ≤ a ∧ l.length ≤ 500 ∧ lg.length ≤ 2000 := by simp [zAn] at hr; omega
  repeat' first | (with_reducible first | refine zA ?_ | refine zB ?_ | refine zP ?_ | refine zJ ?_ | refine zI ?_) | ((with_reducible refine And.intro ?_ ?_); · exact Sq) | ((first | with_reducible refine zC fun KC J hJ hKC => ?_ | (refine' hKC _ _ _ _ _ (zD (zEa _ _ _ _ _) rfl rfl rfl ?_ ?_); (rotate_left 5); (· exact Lq)) | (refine' hKC _ _ _ _ _ (zD (zPP _ _ _ _ _ _ ?_ ?_ ?_) rfl rfl rfl ?_ ?_); (rotate_left 9); (· exact Lq); (rotate_left 1); (iterate 3 (· exact Hq))) | (refine' hKC _ _ _ _ _ (zD (zTB _ _) rfl rfl rfl ?_ ?_); (rotate_left 2); (· exact Lq))); simp (maxSteps := 9999999) only [push_cast, seval, ↓reduceIte, hr]) | ((with_reducible refine hJ _ _ ?_); clear hJ hKC KC J) | (refine zAa rfl (fun h => ?_) (fun h => ?_) <;> try simp only [decide_eq_true_eq, decide_eq_false_iff_not, Bool.not_eq_true', Bool.not_eq_false', beq_iff_eq, bne_iff_ne, ne_eq, Bool.not_eq_true, Bool.or_eq_true, Bool.and_eq_true, Bool.or_eq_false_iff, Bool.and_eq_false_imp, beq_eq_false_iff_ne, bne_eq_false_iff_eq] at h)
  ·refine zF ?_
   refine zE ?_
   simp (maxSteps := 9999999) only [push_cast, seval, ↓reduceIte, show Tryz.f227.results = #[(.cell 4 30), (.tmp 5), (.tmp 6)] from rfl]
   simp only [zAP, hr, if_pos h, Bool.true_eq_false, false_or, zBC, Dr.z]
   exact Lq
  ·refine zF ?_
   refine zE ?_
   simp (maxSteps := 9999999) only [push_cast, seval, ↓reduceIte, show Tryz.f227.results = #[(.cell 4 30), (.tmp 5), (.tmp 6)] from rfl]
   simp only [zAP, hr, Bool.true_eq_false, false_or, zBC, Dr.z]
   rw [if_neg (by assumption), if_pos (by omega)]
   exact Lq
  ·refine zAe 6 rfl (by simp (maxSteps := 9999999) only [push_cast, seval, ↓reduceIte]) ?_
   simp (maxSteps := 9999999) only [push_cast, seval, ↓reduceIte, zAK, zi, fr3, fr2, fr1, fr0, zq, zn]
   refine zF ?_
   refine zE ?_
   simp (maxSteps := 9999999) only [push_cast, seval, ↓reduceIte, show Tryz.f227.results = #[(.cell 4 30), (.tmp 5), (.tmp 6)] from rfl]
   simp only [zAP, hr, Bool.true_eq_false, false_or, zBC]
   rw [if_neg (by assumption), if_neg (by omega), zBk (by omega) (by omega)]
   simp only [if_pos h]
   exact Lq
  ·refine zAe 6 rfl (by simp (maxSteps := 9999999) only [push_cast, seval, ↓reduceIte]) ?_
   simp (maxSteps := 9999999) only [push_cast, seval, ↓reduceIte, zAK, zi, fr3, fr2, fr1, fr0, zq, zn]
   refine zF ?_
   refine zE ?_
   simp (maxSteps := 9999999) only [push_cast, seval, ↓reduceIte, show Tryz.f227.results = #[(.cell 4 30), (.tmp 5), (.tmp 6)] from rfl]
   simp only [zAP, hr, Bool.true_eq_false, false_or, zBC]
   rw [if_neg (by assumption), if_neg (by omega)]
   simp only [if_neg h]
   exact Lq
 ·have hr' : zAn l lg a = false := by simpa using hr
  repeat' first | (with_reducible first | refine zA ?_ | refine zB ?_ | refine zb ?_ | refine zAC ?_ | refine zF ?_ | refine zI ?_) | ((first | with_reducible refine zC fun KC J hJ hKC => ?_ | (refine' hKC _ _ _ _ _ (zD (zEa _ _ _ _ _) rfl rfl rfl ?_ ?_); (rotate_left 5); (· exact Lq))); simp (maxSteps := 9999999) only [push_cast, seval, ↓reduceIte, hr']) | ((with_reducible refine hJ _ _ ?_); clear hJ hKC KC J) | ((with_reducible refine zG ?_ ?_); · rfl)
  all_goals
   refine zE ?_
   simp (maxSteps := 9999999) only [push_cast, seval, ↓reduceIte, show Tryz.f227.results = #[(.cell 4 30), (.tmp 5), (.tmp 6)] from rfl]
   simp only [zAP, hr', true_or, if_true, zBC, Dr.z]
   exact Lq
def zTy (f g : Bool) (t : Dr × Int × Int) : D := .agg [.sl f 1 (zM t.1.l), .v (.int .i64 t.1.a), .sl g 1 (zM t.1.g), .v (.int .i64 t.2.1), .v (.slice none 0 0), .v (.int .i64 t.2.2)]
def zFs : List Int → List Int → Int
 | [], [] => 0
 | [], _ :: _ => -1
 | _ :: _, [] => 1
 | x :: xs, y :: ys => if zFF x y ≠ 0 then zFF x y else zFs xs ys
def zNb (xs ys : List Int) : Int := if zFF xs.length ys.length ≠ 0 then zFF xs.length ys.length else zFs xs ys
theorem zFX {x y : Int} : zFF x y = 0 ↔ x = y := by
 unfold zFF
 split
 ·omega
 ·split <;> omega
theorem zKP : ∀ {xs ys : List Int}, zFs xs ys = 0 ↔ xs = ys
 | [], [] => by simp [zFs]
 | [], _ :: _ => by simp [zFs]
 | _ :: _, [] => by simp [zFs]
 | x :: xs, y :: ys => by
  simp only [zFs, List.cons.injEq]
  by_cases h : zFF x y = 0
  ·have ih := @zKP xs ys
   have hxy := zFX.1 h
   have hyy : zFF y y = 0 := zFX.2 rfl
   simp [h, ih, hxy, hyy]
  ·simp only [ne_eq, h, not_false_eq_true, if_true]
   have : x ≠ y := fun e => h (zFX.2 e)
   simp [this]
theorem zQU {xs ys : List Int} : zNb xs ys = 0 ↔ xs = ys := by
 unfold zNb
 by_cases h : zFF xs.length ys.length = 0
 ·simp [h, zKP]
 ·simp only [ne_eq, h, not_false_eq_true, if_true, false_iff]
  intro e; subst e; exact h (zFX.2 rfl)
theorem zPL {xs ys : List Int} {i : Nat} (h1 : i < xs.length) (h2 : i < ys.length) (he : zFs xs ys = zFs (xs.drop i) (ys.drop i)) :
  zFs xs ys = if zFF xs[i] ys[i] ≠ 0 then zFF xs[i] ys[i] else zFs (xs.drop (i + 1)) (ys.drop (i + 1)) := by
 rw [he, List.drop_eq_getElem_cons h1, List.drop_eq_getElem_cons h2]
 rfl
theorem zTG (f g : Bool) (xs ys : List Int) (hb : xs.length ≤ 9223372036854775807) : Fn Tryz.prog 55 [.sl f 1 (zM xs), .sl g 1 (zM ys)] [] (.v (.int .i64 (zNb xs ys))) [] := by
 refine Fn.of (fn := Tryz.f55) (by kernel_rfl) rfl (by kernel_rfl) ⟨[.sl f 1 (zM xs), .sl g 1 (zM ys), .v undef, .v undef, .v undef, .v undef, .v undef, .v undef, .v undef, .v undef, .v undef, .v undef, .v undef, .v undef, .v undef, .v undef, .v undef, .v undef, .v undef, .v undef, .v undef, .v undef, .v undef, .v undef, .v undef, .v undef, .v undef, .v undef, .v undef, .v undef, .v undef, .v undef, .v undef, .v undef, .v undef, .v undef, .v undef, .v undef, .v undef, .v undef], []⟩ rfl ?_
 repeat' first | (with_reducible first | refine zA ?_ | refine zB ?_ | refine zb ?_ | refine zF ?_ | refine zJ ?_ | refine zI ?_) | ((with_reducible refine zC fun KC J hJ hKC => ?_); simp (maxSteps := 9999999) only [push_cast, seval, ↓reduceIte]) | ((with_reducible refine hJ _ _ ?_); clear hJ hKC KC J) | (refine zAa rfl (fun h => ?_) (fun h => ?_) <;> try simp only [decide_eq_true_eq, decide_eq_false_iff_not, Bool.not_eq_true', Bool.not_eq_false', beq_iff_eq, bne_iff_ne, ne_eq, Bool.not_eq_true, Bool.or_eq_true, Bool.and_eq_true, Bool.or_eq_false_iff, Bool.and_eq_false_imp, beq_eq_false_iff_ne, bne_eq_false_iff_eq] at h)
 ·refine zE ?_
  simp (maxSteps := 9999999) only [push_cast, seval, ↓reduceIte, show Tryz.f55.results = #[(.tmp 4)] from rfl]
  exact zAk (by simp [zNb, zFF, h])
 ·refine zE ?_
  simp (maxSteps := 9999999) only [push_cast, seval, ↓reduceIte, show Tryz.f55.results = #[(.tmp 4)] from rfl]
  have e1 : ¬ xs.length < ys.length := by omega
  have e2 : ys.length < xs.length := by omega
  exact zAk (by simp [zNb, zFF, e1, e2])
 ·have hl : xs.length = ys.length := by omega
  have hR : zNb xs ys = zFs xs ys := by simp [zNb, zFF, hl]
  refine zAJ (γ := {i : Nat // i ≤ xs.length ∧ zFs xs ys = zFs (xs.drop i) (ys.drop i)}) (fun i => ⟨[.sl f 1 (zM xs), .sl g 1 (zM ys), .any, .any, .any, .any, .any, .any, .any, .any, .any, .any, .any, .any, .any, .any, .any, .v (.int .i64 xs.length), .v (.int .i64 i.1), .any, .any, .any, .any, .any, .any, .any, .any, .any, .any, .any, .any, .any, .any, .any, .any, .any, .any, .any, .any, .any], []⟩) (fun i => xs.length - i.1) ⟨0, by simp⟩ ⟨?_, Fq⟩ ?_
  ·exact Lq
  ·rintro ⟨i, hi, he⟩
   by_cases hlt : (i : Int) < (xs.length : Int)
   ·have hx : xs[i]? = some xs[i] := List.getElem?_eq_getElem (by omega)
    have hy : ys[i]? = some ys[i] := List.getElem?_eq_getElem (by omega)
    have hd := zPL (by omega) (by omega) he
    repeat' first | (with_reducible first | refine zA ?_ | refine zB ?_ | refine zb ?_ | refine zP ?_ | refine zAC ?_ | refine zF ?_ | refine zJ ?_ | refine zI ?_) | ((with_reducible refine And.intro ?_ ?_); · exact Sq) | ((first | with_reducible refine zC fun KC J hJ hKC => ?_ | with_reducible refine zY rfl fun KC J hJ hKC => ?_); simp (maxSteps := 9999999) only [push_cast, seval, ↓reduceIte, hlt, zAV hx, zAV hy, zp (i := i) (n := xs.length) (by omega) hb]) | ((first | with_reducible refine hJ _ _ ?_ | (with_reducible refine hJ _ _ ?_ ?_; · kernel_rfl)); clear hJ hKC KC J) | ((with_reducible refine zG ?_ ?_); · rfl) | (refine zAa rfl (fun h => ?_) (fun h => ?_) <;> try simp only [decide_eq_true_eq, decide_eq_false_iff_not, Bool.not_eq_true', Bool.not_eq_false', beq_iff_eq, bne_iff_ne, ne_eq, Bool.not_eq_true, Bool.or_eq_true, Bool.and_eq_true, Bool.or_eq_false_iff, Bool.and_eq_false_imp, beq_eq_false_iff_ne, bne_eq_false_iff_eq] at h)
    ·refine zE ?_
     simp (maxSteps := 9999999) only [push_cast, seval, ↓reduceIte, show Tryz.f55.results = #[(.tmp 4)] from rfl]
     exact zAk (by rw [hR, hd]; simp [zFF, h])
    ·refine zE ?_
     simp (maxSteps := 9999999) only [push_cast, seval, ↓reduceIte, show Tryz.f55.results = #[(.tmp 4)] from rfl]
     exact zAk (by rw [hR, hd]; simp [zFF, *])
    ·refine ⟨⟨i + 1, by omega, ?_⟩, by simp only; omega, ?_, Fq⟩
     ·rw [hd]; simp [zFF, *]
     ·exact Lq
   ·have e1 : xs.drop i = [] := List.drop_eq_nil_of_le (by omega)
    have e2 : ys.drop i = [] := List.drop_eq_nil_of_le (by omega)
    repeat' first | (with_reducible first | refine zA ?_ | refine zB ?_ | refine zm ?_ | refine zl ?_ | refine zF ?_ | refine zZ ?_) | ((with_reducible refine zC fun KC J hJ hKC => ?_); simp (maxSteps := 9999999) only [push_cast, seval, ↓reduceIte, hlt]) | ((with_reducible refine hJ _ _ ?_); clear hJ hKC KC J) | ((with_reducible refine zH ?_ ?_); · rfl)
    refine zE ?_
    simp (maxSteps := 9999999) only [push_cast, seval, ↓reduceIte, show Tryz.f55.results = #[(.tmp 4)] from rfl]
    exact zAk (by rw [hR, he, e1, e2]; simp [zFs])
theorem zLo (f g : Bool) (xs ys : List Int) (hb : xs.length ≤ 9223372036854775807) : Fn Tryz.prog 15 [.sl f 1 (zM xs), .sl g 1 (zM ys)] [] (.v (.bool (decide (xs = ys)))) [] := by
 refine Fn.of (fn := Tryz.f15) (by kernel_rfl) rfl (by kernel_rfl) ⟨[.sl f 1 (zM xs), .sl g 1 (zM ys), .v undef, .v undef, .v undef, .v undef, .v undef, .v undef, .v undef], []⟩ rfl ?_
 repeat' first | (with_reducible first | refine zA ?_ | refine zB ?_ | refine zF ?_) | ((first | with_reducible refine zC fun KC J hJ hKC => ?_ | (refine' hKC _ _ _ _ _ (zD (zTG _ _ _ _ ?_) rfl rfl rfl ?_ ?_); (rotate_left 5); (· exact Lq); (rotate_left 1); (iterate 1 (· exact Hq)))); simp (maxSteps := 9999999) only [push_cast, seval, ↓reduceIte]) | ((with_reducible refine hJ _ _ ?_); clear hJ hKC KC J)
 refine zE ?_
 simp (maxSteps := 9999999) only [push_cast, seval, ↓reduceIte, show Tryz.f15.results = #[(.tmp 4)] from rfl]
 refine zAk (congrArg Value.bool (Bool.eq_iff_iff.2 ?_))
 simp [zQU]
attribute [push_cast] zBC zTy
theorem zSr (n : Int) : zDp .and .i64 n 1 = n % 2 := by
 have h : (BitVec.ofInt 64 n &&& BitVec.ofInt 64 1).toNat = (n % 2).toNat := by
  rw [BitVec.toNat_and, BitVec.toNat_ofInt, BitVec.toNat_ofInt]
  rw [show ((1 : Int) % ((2 ^ 64 : Nat) : Int)).toNat = 1 from by decide, Nat.and_one_is_mod]
  omega
 show IntKind.i64.wrap ((BitVec.ofInt 64 n &&& BitVec.ofInt 64 1).toNat : Int) = n % 2
 rw [h, zBk (by omega) (by omega)]
 omega
theorem zFg (l : List Int) (a : Int) {b : Int} (hb : 1 ≤ b) : 0 ≤ zBT l a b ∧ zBT l a b < b := by
 unfold zBT
 split
 ·exact ⟨Int.emod_nonneg _ (by omega), Int.emod_lt_of_pos _ (by omega)⟩
 ·omega
def zFc (n : Int) : Int := if n % 2 = 1 then (n + 1) / 2 else - (n / 2)
def zBt (d : Dr) (most : Int) : Dr × Int × Int :=
 if most < 0 ∨ 20 < most then (Dr.z, 0, 1)
 else if (zAP d (2 * most + 1)).2.2 = 0 then ((zAP d (2 * most + 1)).1, zFc (zAP d (2 * most + 1)).2.1, 0) else (Dr.z, 0, (zAP d (2 * most + 1)).2.2)
theorem zLl (d : Dr) (b : Int) : (∃ e, zAP d b = (Dr.z, 0, e) ∧ e ≠ 0) ∨ ((zAP d b).2.2 = 0 ∧ 1 ≤ b ∧ zAn d.l d.g d.a = true ∧ (zAP d b).2.1 = zBT d.l d.a b) := by
 unfold zAP
 split
 ·exact .inl ⟨1, rfl, by decide⟩
 ·rename_i h
  split
  ·exact .inl ⟨8, rfl, by decide⟩
  ·refine .inr ⟨rfl, by omega, ?_, rfl⟩
   cases hr : zAn d.l d.g d.a with
   | true => rfl
   | false => exact absurd (.inl hr) h
theorem zKn (d : Dr) (b : Int) (hb : 1 ≤ b) : 0 ≤ (zAP d b).2.1 ∧ (zAP d b).2.1 < b := by
 rcases zLl d b with ⟨e, h, _⟩ | ⟨_, _, _, h⟩
 ·rw [h]; simp only; omega
 ·rw [h]; exact zFg _ _ hb
theorem zHD (f g : Bool) (l lg : List Int) (a most : Int) :
  Fn Tryz.prog 274 [.agg [.sl f 1 (zM l), .v (.int .i64 a), .sl g 1 (zM lg)], .v (.int .i64 most)] []
   (.tup [zBC f false (zBt ⟨l, a, lg⟩ most).1, .v (.int .i64 (zBt ⟨l, a, lg⟩ most).2.1), .v (.int .i64 (zBt ⟨l, a, lg⟩ most).2.2)]) [] := by
 refine Fn.of (fn := Tryz.f274) (by kernel_rfl) rfl (by kernel_rfl) ⟨[.agg [.sl f 1 (zM l), .v (.int .i64 a), .sl g 1 (zM lg)], .v (.int .i64 most), .v undef, .v undef, .v undef, .v undef, .v undef, .v undef, .v undef, .v undef, .v undef, .v undef, .v undef, .v undef, .v undef, .v undef, .v undef, .v undef, .v undef, .v undef, .v undef, .v undef, .v undef, .v undef, .v undef, .v undef, .v undef, .v undef, .v undef, .v undef, .v undef, .v undef, .v undef, .v undef, .v undef, .v undef, .v undef, .v undef, .v undef, .v undef, .v undef, .v undef], []⟩ rfl ?_
 by_cases h1 : most < 0
 ·skip
  repeat' first | (with_reducible first | refine zA ?_ | refine zB ?_ | refine zb ?_ | refine zF ?_) | ((with_reducible refine zC fun KC J hJ hKC => ?_); simp (maxSteps := 9999999) only [push_cast, seval, ↓reduceIte, h1]) | ((with_reducible refine hJ _ _ ?_); clear hJ hKC KC J) | ((with_reducible refine zG ?_ ?_); · rfl)
  refine zE ?_
  simp (maxSteps := 9999999) only [push_cast, seval, ↓reduceIte, show Tryz.f274.results = #[(.cell 4 30), (.tmp 5), (.tmp 6)] from rfl]
  rw [show zBt ⟨l, a, lg⟩ most = (Dr.z, 0, 1) from if_pos (.inl h1)]
  exact Lq
 by_cases h2 : 20 < most
 ·skip
  repeat' first | (with_reducible first | refine zA ?_ | refine zB ?_ | refine zb ?_ | refine zF ?_) | ((with_reducible refine zC fun KC J hJ hKC => ?_); simp (maxSteps := 9999999) only [push_cast, seval, ↓reduceIte, h1, h2]) | ((with_reducible refine hJ _ _ ?_); clear hJ hKC KC J) | ((with_reducible refine zG ?_ ?_); · rfl)
  refine zE ?_
  simp (maxSteps := 9999999) only [push_cast, seval, ↓reduceIte, show Tryz.f274.results = #[(.cell 4 30), (.tmp 5), (.tmp 6)] from rfl]
  rw [show zBt ⟨l, a, lg⟩ most = (Dr.z, 0, 1) from if_pos (.inr h2)]
  exact Lq
 have w1 : IntKind.i64.wrap (2 * most) = 2 * most := zBk (by omega) (by omega)
 have w2 : IntKind.i64.wrap (2 * most + 1) = 2 * most + 1 := zBk (by omega) (by omega)
 obtain ⟨t, ht⟩ : ∃ t, zAP ⟨l, a, lg⟩ (2 * most + 1) = t := ⟨_, rfl⟩
 have hn := zKn ⟨l, a, lg⟩ (2 * most + 1) (by omega)
 have hs : zBt ⟨l, a, lg⟩ most = if t.2.2 = 0 then (t.1, zFc t.2.1, 0) else (Dr.z, 0, t.2.2) := by rw [← ht]; exact if_neg (by omega)
 rw [ht] at hn
 rw [hs]
 repeat' first | (with_reducible first | refine zA ?_ | refine zB ?_ | refine zb ?_ | refine zP ?_ | refine zAC ?_ | refine zF ?_ | refine zJ ?_ | refine zI ?_) | ((first | with_reducible refine zC fun KC J hJ hKC => ?_ | (refine' hKC _ _ _ _ _ (zD (zGH _ _ _ _ _ _ ?_) rfl rfl rfl ?_ ?_); (rotate_left 7); (· exact Lq); (rotate_left 1); (iterate 1 (· exact Hq)))); simp (maxSteps := 9999999) only [push_cast, seval, ↓reduceIte, h1, h2, w1, w2, zSr, ht]) | ((with_reducible refine hJ _ _ ?_); clear hJ hKC KC J) | ((with_reducible refine zH ?_ ?_); · rfl) | (refine zAa rfl (fun h => ?_) (fun h => ?_) <;> try simp only [decide_eq_true_eq, decide_eq_false_iff_not, Bool.not_eq_true', Bool.not_eq_false', beq_iff_eq, bne_iff_ne, ne_eq, Bool.not_eq_true, Bool.or_eq_true, Bool.and_eq_true, Bool.or_eq_false_iff, Bool.and_eq_false_imp, beq_eq_false_iff_ne, bne_eq_false_iff_eq] at h)
 ·refine zE ?_
  simp (maxSteps := 9999999) only [push_cast, seval, ↓reduceIte, show Tryz.f274.results = #[(.cell 4 30), (.tmp 5), (.tmp 6)] from rfl]
  rw [if_neg h]
  exact Lq
 ·refine zE ?_
  simp (maxSteps := 9999999) only [push_cast, seval, ↓reduceIte, show Tryz.f274.results = #[(.cell 4 30), (.tmp 5), (.tmp 6)] from rfl]
  rw [if_pos (by assumption), zBk (n := t.2.1 + 1) (by omega) (by omega), Int.tdiv_eq_ediv_of_nonneg (by omega), zBk (by omega) (by omega)]
  simp only [zFc, if_pos h]
  exact Lq
 ·refine zE ?_
  simp (maxSteps := 9999999) only [push_cast, seval, ↓reduceIte, show Tryz.f274.results = #[(.cell 4 30), (.tmp 5), (.tmp 6)] from rfl]
  have e : Int.tdiv (-t.2.1) 2 = - (t.2.1 / 2) := by rw [Int.neg_tdiv, Int.tdiv_eq_ediv_of_nonneg (by omega)]
  rw [if_pos (by assumption), Int.zero_sub, zBk (n := -t.2.1) (by omega) (by omega), e, zBk (by omega) (by omega)]
  simp only [zFc, if_neg h]
  exact Lq
def zCQ (most n : Int) : Int × Int :=
 if most < 0 ∨ 20 < most then (0, 1) else if n < - most ∨ most < n then (0, 9) else if 0 < n then (2 * n - 1, 0) else (-2 * n, 0)
theorem zMj (most n : Int) : Fn Tryz.prog 256 [.v (.int .i64 most), .v (.int .i64 n)] [] (.tup [.v (.int .i64 (zCQ most n).1), .v (.int .i64 (zCQ most n).2)]) [] := by
 refine Fn.of (fn := Tryz.f256) (by kernel_rfl) rfl (by kernel_rfl) ⟨[.v (.int .i64 most), .v (.int .i64 n), .v undef, .v undef, .v undef, .v undef, .v undef, .v undef, .v undef, .v undef, .v undef, .v undef, .v undef, .v undef, .v undef, .v undef, .v undef, .v undef, .v undef, .v undef, .v undef, .v undef, .v undef, .v undef, .v undef, .v undef, .v undef, .v undef, .v undef, .v undef, .v undef], []⟩ rfl ?_
 by_cases h1 : most < 0
 ·skip
  repeat' first | (with_reducible first | refine zA ?_ | refine zB ?_ | refine zb ?_ | refine zAC ?_ | refine zF ?_ | refine zI ?_) | ((with_reducible refine zC fun KC J hJ hKC => ?_); simp (maxSteps := 9999999) only [push_cast, seval, ↓reduceIte, h1]) | ((with_reducible refine hJ _ _ ?_); clear hJ hKC KC J) | ((with_reducible refine zG ?_ ?_); · rfl)
  refine zE ?_
  simp (maxSteps := 9999999) only [push_cast, seval, ↓reduceIte, show Tryz.f256.results = #[(.tmp 4), (.tmp 5)] from rfl]
  rw [show zCQ most n = (0, 1) from if_pos (.inl h1)]
  exact Lq
 by_cases h2 : 20 < most
 ·skip
  repeat' first | (with_reducible first | refine zA ?_ | refine zB ?_ | refine zb ?_ | refine zAC ?_ | refine zF ?_ | refine zI ?_) | ((with_reducible refine zC fun KC J hJ hKC => ?_); simp (maxSteps := 9999999) only [push_cast, seval, ↓reduceIte, h1, h2]) | ((with_reducible refine hJ _ _ ?_); clear hJ hKC KC J) | ((with_reducible refine zG ?_ ?_); · rfl)
  refine zE ?_
  simp (maxSteps := 9999999) only [push_cast, seval, ↓reduceIte, show Tryz.f256.results = #[(.tmp 4), (.tmp 5)] from rfl]
  rw [show zCQ most n = (0, 1) from if_pos (.inr h2)]
  exact Lq
 have w1 : IntKind.i64.wrap (0 - most) = - most := by rw [zBk (by omega) (by omega)]; omega
 have hs : zCQ most n = if n < - most ∨ most < n then (0, 9) else if 0 < n then (2 * n - 1, 0) else (-2 * n, 0) := if_neg (by omega)
 rw [hs]
 repeat' first | (with_reducible first | refine zA ?_ | refine zB ?_ | refine zb ?_ | refine zP ?_ | refine zAC ?_ | refine zF ?_ | refine zJ ?_ | refine zI ?_) | ((with_reducible refine zC fun KC J hJ hKC => ?_); simp (maxSteps := 9999999) only [push_cast, seval, ↓reduceIte, h1, h2, w1]) | ((with_reducible refine hJ _ _ ?_); clear hJ hKC KC J) | ((with_reducible refine zG ?_ ?_); · rfl) | ((with_reducible refine zH ?_ ?_); · rfl) | ((with_reducible refine zFa (fun hs => ?_) (fun hs => ?_)) <;> (try simp only [Bool.not_eq_true, Bool.not_eq_false, Bool.not_eq_true', Bool.not_eq_false', Decidable.not_not, decide_eq_true_eq, decide_eq_false_iff_not] at hs) <;> (try simp (maxSteps := 9999999) only [push_cast, seval, ↓reduceIte, hs, h1, h2, w1])) | (refine zAa rfl (fun h => ?_) (fun h => ?_) <;> try simp only [decide_eq_true_eq, decide_eq_false_iff_not, Bool.not_eq_true', Bool.not_eq_false', beq_iff_eq, bne_iff_ne, ne_eq, Bool.not_eq_true, Bool.or_eq_true, Bool.and_eq_true, Bool.or_eq_false_iff, Bool.and_eq_false_imp, beq_eq_false_iff_ne, bne_eq_false_iff_eq] at h)
 all_goals
  refine zE ?_
  simp (maxSteps := 9999999) only [push_cast, seval, ↓reduceIte, show Tryz.f256.results = #[(.tmp 4), (.tmp 5)] from rfl]
  first
   | (rw [if_pos (by omega)]; exact Lq; done)
   | (rw [if_neg (by omega), if_pos (by omega), zBk (n := 2 * n) (by omega) (by omega), zBk (by omega) (by omega)]; exact Lq; done)
   | (rw [if_neg (by omega), if_neg (by omega), zBk (by omega) (by omega)]; exact Lq; done)
theorem zHl (f : Bool) (xs : List Int) (cf : Nat) (caps : List D) (p : Int → Bool) (hb : xs.length ≤ 9223372036854775807) (hc : zr caps = true)
  (hp : ∀ x ∈ xs, Fn Tryz.prog cf (.v (.int .i64 x) :: caps) [] (.v (.bool (p x))) []) : Fn Tryz.prog 271 [.sl f 1 (zM xs), .fn cf caps] [] (.v (.int .i64 (zDt p xs))) [] := by
 refine Fn.of (fn := Tryz.f271) (by kernel_rfl) rfl (by kernel_rfl) ⟨[.sl f 1 (zM xs), .fn cf caps, .v undef, .v undef, .v undef, .v undef, .v undef, .v undef, .v undef, .v undef, .v undef, .v undef, .v undef, .v undef, .v undef, .v undef, .v undef, .v undef, .v undef], []⟩ rfl ?_
 repeat' first | (with_reducible first | refine zA ?_ | refine zB ?_ | refine zI ?_) | ((with_reducible refine zC fun KC J hJ hKC => ?_); simp (maxSteps := 9999999) only [push_cast, seval, ↓reduceIte]) | ((with_reducible refine hJ _ _ ?_); clear hJ hKC KC J)
 refine zAJ (γ := {i : Nat // i ≤ xs.length ∧ ∀ (j : Nat) (hj : j < xs.length), j < i → p xs[j] = false}) (fun i => ⟨[.sl f 1 (zM xs), .fn cf caps, .any, .any, .any, .any, .any, .v (.int .i64 xs.length), .v (.int .i64 i.1), .any, .any, .any, .any, .any, .any, .any, .any, .any, .any], []⟩) (fun i => xs.length - i.1) ⟨0, by simp⟩ ⟨?_, Fq⟩ ?_
 ·exact Lq
 ·rintro ⟨i, hi, hn⟩
  by_cases hlt : (i : Int) < (xs.length : Int)
  ·have hx : xs[i]? = some xs[i] := List.getElem?_eq_getElem (by omega)
   have hfn := hp xs[i] (List.getElem_mem (by omega))
   repeat' first | (with_reducible first | refine zA ?_ | refine zB ?_ | refine zb ?_ | refine zP ?_ | refine zAC ?_ | refine zF ?_ | refine zJ ?_ | refine zI ?_) | ((with_reducible refine And.intro ?_ ?_); · exact Sq) | ((first | with_reducible refine zC fun KC J hJ hKC => ?_ | (refine hKC _ _ _ _ _ (zD (hfn) rfl rfl rfl ?_ ?_); (· exact Lq))); simp (maxSteps := 9999999) only [push_cast, seval, ↓reduceIte, hlt, zAV hx, zp (i := i) (n := xs.length) (by omega) hb]) | ((with_reducible refine hJ _ _ ?_); clear hJ hKC KC J) | ((with_reducible refine zG ?_ ?_); · rfl) | (refine zAa rfl (fun h => ?_) (fun h => ?_) <;> try simp only [decide_eq_true_eq, decide_eq_false_iff_not, Bool.not_eq_true', Bool.not_eq_false', beq_iff_eq, bne_iff_ne, ne_eq, Bool.not_eq_true, Bool.or_eq_true, Bool.and_eq_true, Bool.or_eq_false_iff, Bool.and_eq_false_imp, beq_eq_false_iff_ne, bne_eq_false_iff_eq] at h)
   ·refine zE ?_
    simp (maxSteps := 9999999) only [push_cast, seval, ↓reduceIte, show Tryz.f271.results = #[(.tmp 4)] from rfl]
    exact zAk (by rw [zCt (by omega) h hn])
   ·refine ⟨⟨i + 1, by omega, fun j hj hji => ?_⟩, by simp only; omega, ?_, Fq⟩
    ·by_cases he : j = i
     ·subst he; exact h
     ·exact hn j hj (by omega)
    ·exact Lq
  ·skip
   repeat' first | (with_reducible first | refine zA ?_ | refine zB ?_ | refine zm ?_ | refine zl ?_ | refine zF ?_ | refine zZ ?_) | ((with_reducible refine zC fun KC J hJ hKC => ?_); simp (maxSteps := 9999999) only [push_cast, seval, ↓reduceIte, hlt]) | ((with_reducible refine hJ _ _ ?_); clear hJ hKC KC J) | ((with_reducible refine zH ?_ ?_); · rfl)
   refine zE ?_
   simp (maxSteps := 9999999) only [push_cast, seval, ↓reduceIte, show Tryz.f271.results = #[(.tmp 4)] from rfl]
   exact zAk (by rw [zBf (fun j hj => hn j hj (by omega))])
theorem zFq (f : Bool) (xs : List Int) (cf : Nat) (caps : List D) (p : Int → Bool) (hb : xs.length ≤ 9223372036854775807) (hc : zr caps = true)
  (hp : ∀ x ∈ xs, Fn Tryz.prog cf (.v (.int .i64 x) :: caps) [] (.v (.bool (p x))) []) : Fn Tryz.prog 208 [.sl f 1 (zM xs), .fn cf caps] [] (.v (.bool (xs.any p))) [] := by
 refine Fn.of (fn := Tryz.f208) (by kernel_rfl) rfl (by kernel_rfl) ⟨[.sl f 1 (zM xs), .fn cf caps, .v undef, .v undef, .v undef, .v undef, .v undef, .v undef, .v undef], []⟩ rfl ?_
 repeat' first | (with_reducible first | refine zA ?_ | refine zB ?_ | refine zF ?_) | ((first | with_reducible refine zC fun KC J hJ hKC => ?_ | (refine hKC _ _ _ _ _ (zD (zHl f xs cf caps p hb hc hp) rfl rfl rfl ?_ ?_); (· exact Lq))); simp (maxSteps := 9999999) only [push_cast, seval, ↓reduceIte]) | ((with_reducible refine hJ _ _ ?_); clear hJ hKC KC J)
 refine zE ?_
 simp (maxSteps := 9999999) only [push_cast, seval, ↓reduceIte, show Tryz.f208.results = #[(.tmp 4)] from rfl]
 exact zAk (by rw [zEK])
theorem zNw (x : Int) : Fn Tryz.prog 295 [.v (.int .i64 x)] [] (.v (.bool (decide (x < 0 ∨ 100 < x)))) [] := by
 refine Fn.of (fn := Tryz.f295) (by kernel_rfl) rfl (by kernel_rfl) ⟨[.v (.int .i64 x), .v undef, .v undef, .v undef, .v undef, .v undef, .v undef, .v undef, .v undef], []⟩ rfl ?_
 repeat' first | (with_reducible first | refine zA ?_ | refine zB ?_ | refine zF ?_) | ((with_reducible refine zC fun KC J hJ hKC => ?_); simp (maxSteps := 9999999) only [push_cast, seval, ↓reduceIte]) | ((with_reducible refine hJ _ _ ?_); clear hJ hKC KC J) | ((with_reducible refine zFa (fun hs => ?_) (fun hs => ?_)) <;> (try simp only [Bool.not_eq_true, Bool.not_eq_false, Bool.not_eq_true', Bool.not_eq_false', Decidable.not_not, decide_eq_true_eq, decide_eq_false_iff_not] at hs) <;> (try simp (maxSteps := 9999999) only [push_cast, seval, ↓reduceIte, hs]))
 all_goals
  refine zE ?_
  simp (maxSteps := 9999999) only [push_cast, seval, ↓reduceIte, show Tryz.f295.results = #[(.tmp 2)] from rfl]
  refine zAk (congrArg Value.bool (Bool.eq_iff_iff.2 ?_))
  simp
  omega
def mxI (a b : Int) : Int := if a < b then b else a
def zLP : List Int → Int
 | [] => 0
 | x :: xs => xs.foldl mxI x
theorem zPI {ws : List Int} {i : Nat} (h0 : 0 < i) (h : i < ws.length) : zLP (ws.take (i + 1)) = mxI (zLP (ws.take i)) ws[i] := by
 cases ws with
 | nil => simp at h
 | cons x xs =>
  obtain ⟨i, rfl⟩ : ∃ k, i = k + 1 := ⟨i - 1, by omega⟩
  have h' : i < xs.length := by simpa using h
  simp only [List.take_succ_cons, zLP, List.getElem_cons_succ]
  rw [List.take_succ_eq_append_getElem h', List.foldl_append]
  rfl
theorem zRT (f : Bool) (ws : List Int) (hl : 1 ≤ ws.length) (hb : ws.length ≤ 9223372036854775807) : Fn Tryz.prog 296 [.sl f 1 (zM ws)] [] (.v (.int .i64 (zLP ws))) [] := by
 have hx : ws[0]? = some ws[0] := List.getElem?_eq_getElem (by omega)
 have hn : ¬ (ws.length : Int) < 1 := by omega
 refine Fn.of (fn := Tryz.f296) (by kernel_rfl) rfl (by kernel_rfl) ⟨[.sl f 1 (zM ws), .v undef, .v undef, .v undef, .v undef, .v undef, .v undef, .v undef, .v undef, .v undef, .v undef, .v undef, .v undef, .v undef, .v undef, .v undef, .v undef, .v undef, .v undef, .v undef, .v undef, .v undef, .v undef, .v undef, .v undef], []⟩ rfl ?_
 repeat' first | (with_reducible first | refine zA ?_ | refine zB ?_ | refine zJ ?_ | refine zI ?_) | ((with_reducible refine And.intro ?_ ?_); · exact Sq) | ((with_reducible refine zC fun KC J hJ hKC => ?_); simp (maxSteps := 9999999) only [push_cast, seval, ↓reduceIte, hn, zAV hx]) | ((with_reducible refine hJ _ _ ?_); clear hJ hKC KC J) | ((with_reducible refine zH ?_ ?_); · rfl)
 refine zAJ (γ := {i : Nat // 1 ≤ i ∧ i ≤ ws.length}) (fun i => ⟨[.sl f 1 (zM ws), .any, .any, .v (.int .i64 (zLP (ws.take i.1))), .v (.int .i64 i.1), .any, .any, .any, .any, .any, .any, .any, .any, .any, .any, .any, .any, .any, .any, .any, .any, .any, .any, .any, .any], []⟩) (fun i => ws.length - i.1) ⟨1, by omega⟩ ⟨?_, Fq⟩ ?_
 ·have e : ws.take 1 = [ws[0]] := by
   cases ws with
   | nil => simp at hl
   | cons x xs => simp
  simp only [e, zLP, List.foldl_nil]
  exact Lq
 ·rintro ⟨i, h0, hi⟩
  by_cases hlt : (i : Int) < (ws.length : Int)
  ·have hx : ws[i]? = some ws[i] := List.getElem?_eq_getElem (by omega)
   have hm := zPI (by omega : 0 < i) (by omega : i < ws.length)
   unfold mxI at hm
   repeat' first | (with_reducible first | refine zA ?_ | refine zB ?_ | refine zP ?_ | refine zJ ?_ | refine zI ?_) | ((with_reducible refine And.intro ?_ ?_); · exact Sq) | ((with_reducible refine zC fun KC J hJ hKC => ?_); simp (maxSteps := 9999999) only [push_cast, seval, ↓reduceIte, hlt, zAV hx, zp (i := i) (n := ws.length) (by omega) hb, gt_iff_lt, ← hm]) | ((with_reducible refine hJ _ _ ?_); clear hJ hKC KC J) | ((with_reducible refine zG ?_ ?_); · rfl)
   refine ⟨⟨i + 1, by omega⟩, by simp only; omega, ?_, Fq⟩
   exact Lq
  ·have e : ws.take i = ws := List.take_of_length_le (by omega)
   repeat' first | (with_reducible first | refine zA ?_ | refine zB ?_ | refine zm ?_ | refine zl ?_ | refine zF ?_ | refine zZ ?_) | ((with_reducible refine zC fun KC J hJ hKC => ?_); simp (maxSteps := 9999999) only [push_cast, seval, ↓reduceIte, hlt]) | ((with_reducible refine hJ _ _ ?_); clear hJ hKC KC J) | ((with_reducible refine zH ?_ ?_); · rfl)
   refine zE ?_
   simp (maxSteps := 9999999) only [push_cast, seval, ↓reduceIte, show Tryz.f296.results = #[(.tmp 2)] from rfl]
   rw [e]
   exact zK _
def zAf (ws : List Int) : Bool := decide (1 ≤ ws.length ∧ ws.length ≤ 20 ∧ (∀ w ∈ ws, 0 ≤ w ∧ w ≤ 100) ∧ 0 < ws.sum)
theorem zMJ : ∀ {ws : List Int} (x : Int), (∀ w ∈ ws, 0 ≤ w) → 0 ≤ x → (0 < ws.foldl mxI x ↔ 0 < x + ws.sum) ∧ 0 ≤ ws.sum
 | [], x, _, hx => by simp
 | w :: ws, x, h, hx => by
  have hw := h w (by simp)
  have ih := zMJ (ws := ws) (mxI x w) (fun v hv => h v (by simp [hv])) (by unfold mxI; split <;> omega)
  simp only [List.foldl_cons, List.sum_cons]
  refine ⟨ih.1.trans ?_, by omega⟩
  unfold mxI
  split <;> omega
theorem zRW {ws : List Int} (h : ∀ w ∈ ws, 0 ≤ w) : 0 < zLP ws ↔ 0 < ws.sum := by
 cases ws with
 | nil => simp [zLP]
 | cons x xs =>
  have := (zMJ (ws := xs) x (fun v hv => h v (by simp [hv])) (h x (by simp))).1
  simpa [zLP] using this
theorem zCJ (f : Bool) (ws : List Int) (hb : ws.length ≤ 9223372036854775807) : Fn Tryz.prog 287 [.sl f 1 (zM ws)] [] (.v (.bool (zAf ws))) [] := by
 have hcf := zFq f ws 295 [] (fun x => decide (x < 0 ∨ 100 < x)) hb rfl (fun x _ => zNw x)
 refine Fn.of (fn := Tryz.f287) (by kernel_rfl) rfl (by kernel_rfl) ⟨[.sl f 1 (zM ws), .v undef, .v undef, .v undef, .v undef, .v undef, .v undef, .v undef, .v undef, .v undef, .v undef, .v undef, .v undef, .v undef, .v undef, .v undef, .v undef, .v undef, .v undef, .v undef, .v undef, .v undef, .v undef], []⟩ rfl ?_
 by_cases h1 : (1 : Int) ≤ ws.length
 ·have hmx := zRT f ws (by omega) hb
  repeat' first | (with_reducible first | refine zA ?_ | refine zB ?_ | refine zF ?_) | ((first | with_reducible refine zC fun KC J hJ hKC => ?_ | (refine' hKC _ _ _ _ _ (zD (zRT _ _ ?_ ?_) rfl rfl rfl ?_ ?_); (rotate_left 4); (· exact Lq); (rotate_left 1); (iterate 2 (· exact Hq))) | (refine hKC _ _ _ _ _ (zD (hcf) rfl rfl rfl ?_ ?_); (· exact Lq))); simp (maxSteps := 9999999) only [push_cast, seval, ↓reduceIte, h1]) | ((with_reducible refine hJ _ _ ?_); clear hJ hKC KC J) | ((with_reducible refine zFa (fun hs => ?_) (fun hs => ?_)) <;> (try simp only [Bool.not_eq_true, Bool.not_eq_false, Bool.not_eq_true', Bool.not_eq_false', Decidable.not_not, decide_eq_true_eq, decide_eq_false_iff_not] at hs) <;> (try simp (maxSteps := 9999999) only [push_cast, seval, ↓reduceIte, hs, h1]))
  all_goals
   refine zE ?_
   simp (maxSteps := 9999999) only [push_cast, seval, ↓reduceIte, show Tryz.f287.results = #[(.tmp 2)] from rfl]
   refine zAk (congrArg Value.bool (Bool.eq_iff_iff.2 ?_))
   simp only [zAf, decide_eq_true_eq, Bool.false_eq_true, false_iff]
  ·have ha : ∀ w ∈ ws, 0 ≤ w ∧ w ≤ 100 := by
    intro w hw
    have := List.any_eq_false.1 hs w hw
    simp at this
    omega
   have := zRW (fun w hw => (ha w hw).1)
   exact ⟨fun hm => ⟨by omega, by omega, ha, this.1 hm⟩, fun hm => this.2 hm.2.2.2⟩
  ·rintro ⟨_, _, ha, _⟩
   obtain ⟨w, hw, h2⟩ := List.any_eq_true.1 hs
   have := ha w hw
   simp at h2
   omega
  ·omega
 ·skip
  repeat' first | (with_reducible first | refine zA ?_ | refine zB ?_ | refine zF ?_) | ((with_reducible refine zC fun KC J hJ hKC => ?_); simp (maxSteps := 9999999) only [push_cast, seval, ↓reduceIte, h1]) | ((with_reducible refine hJ _ _ ?_); clear hJ hKC KC J)
  refine zE ?_
  simp (maxSteps := 9999999) only [push_cast, seval, ↓reduceIte, show Tryz.f287.results = #[(.tmp 2)] from rfl]
  refine zAk (congrArg Value.bool (Bool.eq_iff_iff.2 ?_))
  simp only [zAf, decide_eq_true_eq, Bool.false_eq_true, false_iff]
  omega
theorem zDq {ws : List Int} (h : ∀ w ∈ ws, 0 ≤ w ∧ w ≤ 100) (i : Nat) : 0 ≤ (ws.take i).sum ∧ (ws.take i).sum ≤ 100 * i := by
 induction i generalizing ws with
 | zero => simp
 | succ i ih =>
  cases ws with
  | nil => simp; omega
  | cons w ws =>
   have := h w (by simp)
   have := ih (ws := ws) (fun v hv => h v (by simp [hv]))
   simp only [List.take_succ_cons, List.sum_cons]
   omega
theorem zCE {ws : List Int} {i : Nat} (h : i < ws.length) : (ws.take (i + 1)).sum = (ws.take i).sum + ws[i] := by
 rw [List.take_succ_eq_append_getElem h, List.sum_append]; simp
theorem zLE (f : Bool) (ws : List Int) : Fn Tryz.prog 288 [.sl f 1 (zM ws)] [] (.fn 297 [.fad [.sl f 1 (zM ws)]]) [] := by
 refine Fn.of (fn := Tryz.f288) (by kernel_rfl) rfl (by kernel_rfl) ⟨[.sl f 1 (zM ws), .v undef, .v undef, .v undef], []⟩ rfl ?_
 repeat' first | (with_reducible first | refine zA ?_ | refine zB ?_) | ((with_reducible refine zC fun KC J hJ hKC => ?_); simp (maxSteps := 9999999) only [push_cast, seval, ↓reduceIte]) | ((with_reducible refine hJ _ _ ?_); clear hJ hKC KC J)
 refine zAe 0 rfl (by simp (maxSteps := 9999999) only [push_cast, seval, ↓reduceIte]) ?_
 simp (maxSteps := 9999999) only [push_cast, seval, ↓reduceIte, zAK, zi, fr3, fr2, fr1, fr0, zq, zn, List.drop_zero]
 refine zF ?_
 refine zE ?_
 simp (maxSteps := 9999999) only [push_cast, seval, ↓reduceIte, show Tryz.f288.results = #[(.tmp 2)] from rfl]
 exact Lq
theorem zKu (f : Bool) (ws : List Int) (hw : ∀ w ∈ ws, 0 ≤ w ∧ w ≤ 100) (hl : ws.length ≤ 1000) :
  zSQ Tryz.prog 297 [.fad [.sl f 1 (zM ws)]] ws.length (fun i => [.v (.int .i64 (i : Int)), .v (.int .i64 (ws.take (i + 1)).sum)]) := by
 intro m inv ok frr rr hrec hcl hlen hy n hn
 refine Fn.of (fn := Tryz.f297) (by kernel_rfl) rfl (by kernel_rfl) ⟨[.kref false m 0, .fad [.sl f 1 (zM ws)], .v undef, .v undef, .v undef, .v undef, .v undef, .v undef, .v undef, .v undef, .v undef, .v undef, .v undef, .v undef, .v undef, .v undef, .v undef, .v undef, .v undef, .v undef, .v undef, .v undef], inv 0⟩ rfl ?_
 repeat' first | (with_reducible first | refine zA ?_ | refine zB ?_ | refine zI ?_) | ((with_reducible refine zC fun KC J hJ hKC => ?_); simp (maxSteps := 9999999) only [push_cast, seval, ↓reduceIte]) | ((with_reducible refine hJ _ _ ?_); clear hJ hKC KC J)
 refine zAJ (γ := {i : Nat // i ≤ ws.length ∧ ∀ j, j < i → ok j = true}) (fun i => ⟨[.kref false m 0, .fad [.sl f 1 (zM ws)], .any, .v (.int .i64 (ws.take i.1).sum), .any, .any, .sl f 1 (zM ws), .v (.int .i64 ws.length), .v (.int .i64 i.1), .any, .any, .any, .any, .any, .any, .any, .any, .any, .any, .any, .any, .any], inv i.1⟩) (fun i => ws.length - i.1) ⟨0, by simp⟩ ⟨?_, Fq⟩ ?_
 ·exact Lq
 ·rintro ⟨i, hi, hok⟩
  by_cases hlt : (i : Int) < (ws.length : Int)
  ·have hx : ws[i]? = some ws[i] := List.getElem?_eq_getElem (by omega)
   have hb := zDq hw i
   have hwi := hw ws[i] (List.getElem_mem _)
   have hs : IntKind.i64.wrap ((ws.take i).sum + ws[i]) = (ws.take (i + 1)).sum := by rw [zCE (by omega), zBk (by omega) (by omega)]
   have hyi := hy i (by omega) hok
   have hL : (inv (i + 1)).length = (inv i).length := by rw [hlen, hlen]
   have hset := zFK (rest := [Slot.free]) hL
   have hj1 : ok i = true → ∀ j, j < i + 1 → ok j = true := fun h j hj => by
    by_cases he : j = i
    ·rw [he]; exact h
    ·exact hok j (by omega)
   cases hoki : ok i with
   | true =>
    rw [hoki] at hyi
    repeat' first | (with_reducible first | refine zA ?_ | refine zB ?_ | refine zP ?_ | refine zJ ?_ | refine zI ?_) | ((with_reducible refine And.intro ?_ ?_); · exact Sq) | ((first | with_reducible refine zC fun KC J hJ hKC => ?_ | (refine hKC _ _ _ _ _ (zOb hyi (hrec i) (hcl i) (hcl (i + 1)) hL rfl (Nat.le_refl _) rfl rfl rfl rfl ?_))); simp (maxSteps := 9999999) only [push_cast, seval, ↓reduceIte, hlt, zAV hx, hs, hset, zp (i := i) (n := ws.length) (by omega) (by omega)]) | ((with_reducible refine hJ _ _ ?_); clear hJ hKC KC J) | ((with_reducible refine zG ?_ ?_); · rfl) | ((with_reducible refine zH ?_ ?_); · rfl)
    refine ⟨⟨i + 1, by omega, hj1 hoki⟩, by simp only; omega, ?_, Fq⟩
    exact Lq
   | false =>
    rw [hoki] at hyi
    repeat' first | (with_reducible first | refine zA ?_ | refine zB ?_ | refine zb ?_ | refine zAC ?_ | refine zF ?_ | refine zJ ?_ | refine zI ?_) | ((with_reducible refine And.intro ?_ ?_); · exact Sq) | ((first | with_reducible refine zC fun KC J hJ hKC => ?_ | (refine hKC _ _ _ _ _ (zOb hyi (hrec i) (hcl i) (hcl (i + 1)) hL rfl (Nat.le_refl _) rfl rfl rfl rfl ?_))); simp (maxSteps := 9999999) only [push_cast, seval, ↓reduceIte, hlt, zAV hx, hs, hset, zp (i := i) (n := ws.length) (by omega) (by omega)]) | ((with_reducible refine hJ _ _ ?_); clear hJ hKC KC J) | ((with_reducible refine zG ?_ ?_); · rfl)
    have hni : n = i + 1 := by
     rcases hn with ⟨h1, h2⟩ | ⟨k, h1, h2, h3, h4⟩
     ·have := h2 i (by omega); rw [hoki] at this; cases this
     ·rcases Nat.lt_trichotomy k i with h | h | h
      ·have := hok k h; rw [h3] at this; cases this
      ·omega
      ·have := h4 i h; rw [hoki] at this; cases this
    rw [hni]
    exact zLI 1 (.inr rfl) rfl rfl (hcl _) (by rw [hlen, hlen])
  ·have hni : n = i := by
    rcases hn with ⟨h1, h2⟩ | ⟨k, h1, h2, h3, h4⟩
    ·omega
    ·have := hok k (by omega); rw [h3] at this; cases this
   repeat' first | (with_reducible first | refine zA ?_ | refine zB ?_ | refine zm ?_ | refine zl ?_ | refine zZ ?_) | ((with_reducible refine zC fun KC J hJ hKC => ?_); simp (maxSteps := 9999999) only [push_cast, seval, ↓reduceIte, hlt]) | ((with_reducible refine hJ _ _ ?_); clear hJ hKC KC J) | ((with_reducible refine zH ?_ ?_); · rfl)
   rw [hni]
   exact zLI 0 (.inl rfl) rfl (by simp) (hcl _) (by rw [hlen, hlen])
theorem zDE {ws : List Int} (h : zAf ws = true) : 1 ≤ ws.length ∧ ws.length ≤ 20 ∧ (∀ w ∈ ws, 0 ≤ w ∧ w ≤ 100) ∧ 0 < ws.sum := by simpa [zAf] using h
def zED (ws : List Int) (n : Int) : Int := match (List.range ws.length).find? (fun i => decide (n < (ws.take (i + 1)).sum)) with | some i => (i : Int) | none => 0
theorem zMU {ws : List Int} {n : Int} {k : Nat} (hk : k < ws.length) (h : n < (ws.take (k + 1)).sum) (hb : ∀ j, j < k → ¬ n < (ws.take (j + 1)).sum) : zED ws n = k := by
 have : (List.range ws.length).find? (fun i => decide (n < (ws.take (i + 1)).sum)) = some k := by
  rw [List.find?_range_eq_some]
  exact ⟨by simpa using h, by simpa using hk, fun j hj => by simpa using hb j hj⟩
 simp [zED, this]
theorem zNc {ws : List Int} {n : Int} (hb : ∀ j, j < ws.length → ¬ n < (ws.take (j + 1)).sum) : zED ws n = 0 := by
 have : (List.range ws.length).find? (fun i => decide (n < (ws.take (i + 1)).sum)) = none := by
  rw [List.find?_range_eq_none]
  exact fun j hj => by simpa using hb j hj
 simp [zED, this]
def zBP (d : Dr) (ws : List Int) : Dr × Int × Int :=
 if zAf ws = false then (Dr.z, 0, 1)
 else if (zAP d ws.sum).2.2 = 0 then ((zAP d ws.sum).1, zED ws (zAP d ws.sum).2.1, 0) else (Dr.z, 0, (zAP d ws.sum).2.2)
theorem zFA (f g e' : Bool) (l lg ws : List Int) (a : Int) (hb : ws.length ≤ 9223372036854775807) :
  Fn Tryz.prog 267 [.agg [.sl f 1 (zM l), .v (.int .i64 a), .sl g 1 (zM lg)], .sl e' 1 (zM ws)] []
   (.tup [zBC f false (zBP ⟨l, a, lg⟩ ws).1, .v (.int .i64 (zBP ⟨l, a, lg⟩ ws).2.1), .v (.int .i64 (zBP ⟨l, a, lg⟩ ws).2.2)]) [] := by
 refine Fn.of (fn := Tryz.f267) (by kernel_rfl) rfl (by kernel_rfl) ⟨[.agg [.sl f 1 (zM l), .v (.int .i64 a), .sl g 1 (zM lg)], .sl e' 1 (zM ws), .v undef, .v undef, .v undef, .v undef, .v undef, .v undef, .v undef, .v undef, .v undef, .v undef, .v undef, .v undef, .v undef, .v undef, .v undef, .v undef, .v undef, .v undef, .v undef, .v undef, .v undef, .v undef, .v undef, .v undef, .v undef, .v undef, .v undef, .v undef, .v undef, .v undef, .v undef, .v undef, .v undef, .v undef, .v undef, .v undef, .v undef, .v undef, .v undef, .v undef, .v undef, .v undef], []⟩ rfl ?_
 by_cases hw : zAf ws = true
 ·obtain ⟨h1, h2, h3, h4⟩ := zDE hw
  have hsum := zDq h3 ws.length
  rw [List.take_length] at hsum
  repeat' first | (with_reducible first | refine zA ?_ | refine zB ?_ | refine zJ ?_ | refine zI ?_) | ((first | with_reducible refine zC fun KC J hJ hKC => ?_ | (refine' hKC _ _ _ _ _ (zD (zCJ _ _ ?_) rfl rfl rfl ?_ ?_); (rotate_left 3); (· exact Lq); (rotate_left 1); (iterate 1 (· exact Hq))) | (refine' hKC _ _ _ _ _ (zD (zLE _ _) rfl rfl rfl ?_ ?_); (rotate_left 2); (· exact Lq))); simp (maxSteps := 9999999) only [push_cast, seval, ↓reduceIte, hw]) | ((with_reducible refine hJ _ _ ?_); clear hJ hKC KC J) | ((with_reducible refine zH ?_ ?_); · rfl)
  refine zKo ([.agg [.sl f 1 (zM l), .v (.int .i64 a), .sl g 1 (zM lg)], .sl e' 1 (zM ws), .ptr 0 0 0, .any, .ptr 1 0 0, .ptr 2 0 0, .ptr 3 0 0, .ptr 5 0 0, .any, .any, .any, .any, .any, .any, .any, .any, .any, .any, .any, .fn 297 [.fad [.sl e' 1 (zM ws)]], .any, .any, .any, .any, .any, .any, .any, .any, .any, .any, .any, .any, .any, .any, .any, .any, .any, .any, .any, .any, .any, .any, .any, .any]) (by exact Lq) ?_
  refine zKH (f := 297) rfl rfl (zKu e' ws h3 (by omega)) (fun i hi => rfl) 7 rfl rfl
   (fun i => [.ent ⟨0, none, 30, [.sl f 1 (zM l), .v (.int .i64 a), .sl g 1 (zM lg)], .cells⟩, .ent ⟨0, none, 30, [.v (.slice none 0 0), .v (.int .i64 0), .v (.slice none 0 0)], .cells⟩, .ent ⟨0, none, 3, [.v (.int .i64 0)], .cells⟩, .ent ⟨0, none, 40, [.v (.int .i64 0)], .cells⟩, .free, .ent ⟨0, none, 3, [.v (.int .i64 (ws.take i).sum)], .cells⟩, .free])
   rfl (fun i => rfl) (fun i => rfl) (fun i => rfl) (fun _ => true) .ret .ret rfl
   (fun i => [.agg [.sl f 1 (zM l), .v (.int .i64 a), .sl g 1 (zM lg)], .sl e' 1 (zM ws), .ptr 0 0 0, .any, .ptr 1 0 0, .ptr 2 0 0, .ptr 3 0 0, .ptr 5 0 0, .any, .v (.int .i64 (ws.take (i + 1)).sum), .any, .any, .any, .any, .any, .any, .any, .any, .any, .fn 297 [.fad [.sl e' 1 (zM ws)]], .v (.int .i64 (i : Int)), .v (.int .i64 (ws.take (i + 1)).sum), .any, .any, .any, .any, .any, .any, .any, .any, .any, .any, .any, .any, .any, .any, .any, .any, .any, .any, .any, .any, .any, .any])
   (fun l' i r hi => ?_) (fun i => rfl) (fun l' i hi _ => ?_) (fun _ => ?_) (fun k hk h _ => by cases h)
  ·skip
   repeat' first | ((with_reducible refine And.intro ?_ ?_); · exact Sq) | ((with_reducible refine zC fun KC J hJ hKC => ?_); simp (maxSteps := 9999999) only [push_cast, seval, ↓reduceIte]) | ((with_reducible refine hJ _ _ ?_); clear hJ hKC KC J)
   exact rfl
  ·skip
   repeat' first | (with_reducible first | refine zP ?_ | refine zI ?_) | ((with_reducible refine zC fun KC J hJ hKC => ?_); simp (maxSteps := 9999999) only [push_cast, seval, ↓reduceIte]) | ((with_reducible refine hJ _ _ ?_); clear hJ hKC KC J)
   exact ⟨zO (k := 0) rfl rfl rfl, rfl⟩
  ·obtain ⟨t, ht⟩ : ∃ t, zAP ⟨l, a, lg⟩ ws.sum = t := ⟨_, rfl⟩
   have hs : zBP ⟨l, a, lg⟩ ws = if t.2.2 = 0 then (t.1, zED ws t.2.1, 0) else (Dr.z, 0, t.2.2) := by rw [← ht]; exact if_neg (by simp [hw])
   rw [hs]
   repeat' first | (with_reducible first | refine zA ?_ | refine zB ?_ | refine zb ?_ | refine zP ?_ | refine zF ?_ | refine zJ ?_ | refine zI ?_) | ((first | with_reducible refine zC fun KC J hJ hKC => ?_ | (refine' hKC _ _ _ _ _ (zD (zLE _ _) rfl rfl rfl ?_ ?_); (rotate_left 2); (· exact Lq)) | (refine' hKC _ _ _ _ _ (zD (zGH _ _ _ _ _ _ ?_) rfl rfl rfl ?_ ?_); (rotate_left 7); (· exact Lq); (rotate_left 1); (iterate 1 (· exact Hq)))); simp (maxSteps := 9999999) only [push_cast, seval, ↓reduceIte, ht, List.take_length]) | ((with_reducible refine hJ _ _ ?_); clear hJ hKC KC J) | (refine zAa rfl (fun h => ?_) (fun h => ?_) <;> try simp only [decide_eq_true_eq, decide_eq_false_iff_not, Bool.not_eq_true', Bool.not_eq_false', beq_iff_eq, bne_iff_ne, ne_eq, Bool.not_eq_true, Bool.or_eq_true, Bool.and_eq_true, Bool.or_eq_false_iff, Bool.and_eq_false_imp, beq_eq_false_iff_ne, bne_eq_false_iff_eq] at h)
   ·refine zE ?_
    simp (maxSteps := 9999999) only [push_cast, seval, ↓reduceIte, show Tryz.f267.results = #[(.cell 4 30), (.cell 5 3), (.cell 6 40)] from rfl]
    rw [if_neg h]
    exact Lq
   ·rw [if_pos h]
    obtain ⟨ok, hok⟩ : ∃ ok : Nat → Bool, ok = fun i => decide (¬ t.2.1 < (ws.take (i + 1)).sum) := ⟨_, rfl⟩
    refine zKo ([.any, .sl e' 1 (zM ws), .ptr 0 0 0, .any, .ptr 1 0 0, .ptr 2 0 0, .ptr 3 0 0, .any, .any, .any, .ptr 9 0 0, .any, .any, .any, .any, .any, .any, .any, .any, .any, .any, .any, .any, .any, .any, .any, .any, .any, .any, .any, .any, .any, .any, .any, .any, .fn 297 [.fad [.sl e' 1 (zM ws)]], .any, .any, .any, .any, .any, .any, .any, .any]) (by exact Lq) ?_
    refine zTL [.ent ⟨0, none, 30, [.sl f 1 (zM t.1.l), .v (.int .i64 t.1.a), .sl false 1 (zM t.1.g)], .cells⟩, .ent ⟨0, none, 30, [.v (.slice none 0 0), .v (.int .i64 0), .v (.slice none 0 0)], .cells⟩, .ent ⟨0, none, 3, [.v (.int .i64 0)], .cells⟩, .ent ⟨0, none, 40, [.v (.int .i64 0)], .cells⟩, .free, .dead, .free, .dead, .free, .ent ⟨0, none, 3, [.v (.int .i64 t.2.1)], .cells⟩, .free] (by simp [leS]) ?_
    refine zEc (f := 297) rfl rfl (zKu e' ws h3 (by omega)) (fun i hi => rfl) 11 rfl rfl
     (fun i => [.ent ⟨0, none, 30, [.sl f 1 (zM t.1.l), .v (.int .i64 t.1.a), .sl false 1 (zM t.1.g)], .cells⟩, .ent ⟨0, none, 30, [.v (.slice none 0 0), .v (.int .i64 0), .v (.slice none 0 0)], .cells⟩, .ent ⟨0, none, 3, [.v (.int .i64 0)], .cells⟩, .ent ⟨0, none, 40, [.v (.int .i64 0)], .cells⟩, .free, .dead, .free, .dead, .free, .ent ⟨0, none, 3, [.v (.int .i64 t.2.1)], .cells⟩, .free]) (fun i => [.ent ⟨0, none, 30, [.sl f 1 (zM t.1.l), .v (.int .i64 t.1.a), .sl false 1 (zM t.1.g)], .cells⟩, .ent ⟨0, none, 30, [.sl f 1 (zM t.1.l), .v (.int .i64 t.1.a), .sl false 1 (zM t.1.g)], .cells⟩, .ent ⟨0, none, 3, [.v (.int .i64 (i : Int))], .cells⟩, .ent ⟨0, none, 40, [.v (.int .i64 0)], .cells⟩, .free, .dead, .free, .dead, .free, .ent ⟨0, none, 3, [.v (.int .i64 t.2.1)], .cells⟩, .free])
     rfl (fun i => ⟨rfl, rfl⟩) (fun i => ⟨rfl, rfl⟩) (fun i => ⟨rfl, rfl⟩) (fun i => decide (¬ t.2.1 < (ws.take (i + 1)).sum)) .ret .ret rfl
     (fun i => [.any, .sl e' 1 (zM ws), .ptr 0 0 0, .any, .ptr 1 0 0, .ptr 2 0 0, .ptr 3 0 0, .any, .any, .any, .ptr 9 0 0, .any, .v (.int .i64 (i : Int)), .v (.int .i64 (ws.take (i + 1)).sum), .any, .any, .any, .any, .any, .any, .any, .any, .any, .any, .any, .any, .any, .any, .any, .any, .any, .any, .any, .any, .any, .fn 297 [.fad [.sl e' 1 (zM ws)]], .v (.int .i64 (i : Int)), .v (.int .i64 (ws.take (i + 1)).sum), .any, .any, .any, .any, .any, .any])
     (fun l' i r σ hi => ?_) (fun i => rfl) (fun l' i hi hb' => ?_) (fun hall => ?_) (fun k hk hkf hkb => ?_)
    ·skip
     repeat' first | (with_reducible first | refine zA ?_ | refine zB ?_) | ((with_reducible refine And.intro ?_ ?_); · exact Sq) | ((with_reducible refine zC fun KC J hJ hKC => ?_); simp (maxSteps := 9999999) only [push_cast, seval, ↓reduceIte]) | ((with_reducible refine hJ _ _ ?_); clear hJ hKC KC J)
     exact rfl
    ·skip
     repeat' first | (with_reducible first | refine zA ?_ | refine zB ?_ | refine zP ?_ | refine zAC ?_ | refine zF ?_ | refine zJ ?_ | refine zI ?_) | ((with_reducible refine zC fun KC J hJ hKC => ?_); simp (maxSteps := 9999999) only [push_cast, seval, ↓reduceIte]) | ((with_reducible refine hJ _ _ ?_); clear hJ hKC KC J) | (refine zAa rfl (fun h => ?_) (fun h => ?_) <;> try simp only [decide_eq_true_eq, decide_eq_false_iff_not, Bool.not_eq_true', Bool.not_eq_false', beq_iff_eq, bne_iff_ne, ne_eq, Bool.not_eq_true, Bool.or_eq_true, Bool.and_eq_true, Bool.or_eq_false_iff, Bool.and_eq_false_imp, beq_eq_false_iff_ne, bne_eq_false_iff_eq] at h)
     ·exact .inr ⟨by simp [h], rfl, zO (k := 0) rfl rfl rfl⟩
     ·exact .inl ⟨by simp [h], rfl, zO (k := 0) rfl rfl rfl⟩
    ·rw [zNc (fun j hj => by have := hall j hj; simpa using this)]
     repeat' first | (with_reducible first | refine zA ?_ | refine zB ?_ | refine zP ?_ | refine zF ?_) | ((with_reducible refine zC fun KC J hJ hKC => ?_); simp (maxSteps := 9999999) only [push_cast, seval, ↓reduceIte]) | ((with_reducible refine hJ _ _ ?_); clear hJ hKC KC J)
     refine zE ?_
     simp (maxSteps := 9999999) only [push_cast, seval, ↓reduceIte, show Tryz.f267.results = #[(.cell 4 30), (.cell 5 3), (.cell 6 40)] from rfl]
     exact Lq
    ·rw [zMU hk (by simpa using hkf) (fun j hj => by have := hkb j hj; simpa using this)]
     repeat' first | (with_reducible first | refine zb ?_ | refine zAC ?_)
     refine zE ?_
     simp (maxSteps := 9999999) only [push_cast, seval, ↓reduceIte, show Tryz.f267.results = #[(.cell 4 30), (.cell 5 3), (.cell 6 40)] from rfl]
     exact Lq
 ·have hw' : zAf ws = false := by simpa using hw
  repeat' first | (with_reducible first | refine zA ?_ | refine zB ?_ | refine zb ?_ | refine zF ?_) | ((first | with_reducible refine zC fun KC J hJ hKC => ?_ | (refine' hKC _ _ _ _ _ (zD (zCJ _ _ ?_) rfl rfl rfl ?_ ?_); (rotate_left 3); (· exact Lq); (rotate_left 1); (iterate 1 (· exact Hq)))); simp (maxSteps := 9999999) only [push_cast, seval, ↓reduceIte, hw']) | ((with_reducible refine hJ _ _ ?_); clear hJ hKC KC J) | ((with_reducible refine zG ?_ ?_); · rfl)
  refine zE ?_
  simp (maxSteps := 9999999) only [push_cast, seval, ↓reduceIte, show Tryz.f267.results = #[(.cell 4 30), (.cell 5 3), (.cell 6 40)] from rfl]
  rw [show zBP ⟨l, a, lg⟩ ws = (Dr.z, 0, 1) from if_pos hw']
  exact Lq
section
inductive Cp (α : Type) where
 | ret (x : α)
 | bad (e : Int)
 | take (b : Int) (k : Int → Cp α)
namespace Cp
variable {α β γ : Type}
def bind : Cp α → (α → Cp β) → Cp β
 | .ret x, f => f x
 | .bad e, _ => .bad e
 | .take b k, f => .take b fun n => (k n).bind f
theorem zNH (c : Cp α) (f : α → Cp β) (g : β → Cp γ) : (c.bind f).bind g = c.bind fun x => (f x).bind g := by
 induction c with
 | ret x => rfl
 | bad e => rfl
 | take b k ih => simp only [bind, ih]
def run : Cp α → Dr → Except Int (Dr × α)
 | .ret x, d => .ok (d, x)
 | .bad e, _ => .error e
 | .take b k, d => if (zAP d b).2.2 = 0 then (k (zAP d b).2.1).run (zAP d b).1 else .error (zAP d b).2.2
theorem run_bind (c : Cp α) (f : α → Cp β) (d : Dr) : (c.bind f).run d = match c.run d with | .ok (d', x) => (f x).run d' | .error e => .error e := by
 induction c generalizing d with
 | ret x => rfl
 | bad e => rfl
 | take b k ih =>
  simp only [bind, run]
  by_cases h : (zAP d b).2.2 = 0
  ·rw [if_pos h, if_pos h, ih]
  ·rw [if_neg h, if_neg h]
def path : Cp α → List Int → Option α
 | .ret x, [] => some x
 | .take b k, n :: cs => if 0 ≤ n ∧ n < b then (k n).path cs else none
 | _, _ => none
theorem path_bind (c : Cp α) (f : α → Cp β) {cs ds : List Int} {x : α} {y : β} (h1 : c.path cs = some x) (h2 : (f x).path ds = some y) : (c.bind f).path (cs ++ ds) = some y := by
 induction c generalizing cs with
 | ret z =>
  cases cs with
  | nil => simp only [path, Option.some.injEq] at h1; subst h1; exact h2
  | cons _ _ => simp [path] at h1
 | bad e => cases cs <;> simp [path] at h1
 | take b k ih =>
  cases cs with
  | nil => simp [path] at h1
  | cons n cs =>
   simp only [path] at h1
   split at h1
   ·rename_i hn
    simp only [bind, List.cons_append, path]
    rw [if_pos hn]
    exact ih n h1
   ·cases h1
theorem takeF_ok {d : Dr} {b : Int} (h : (zAP d b).2.2 = 0) : zAn d.l d.g d.a = true ∧ 1 ≤ b ∧ d.g.length < 2000 ∧ 0 ≤ (zAP d b).2.1 ∧ (zAP d b).2.1 < b ∧ (zAP d b).1 = ⟨d.l, (if d.a < d.l.length then d.a + 1 else d.a), d.g ++ [(zAP d b).2.1]⟩ ∧ (zAP d b).2.1 = zBT d.l d.a b := by
 unfold zAP at h ⊢
 split
 ·rename_i hc; rw [if_pos hc] at h; cases h
 ·rename_i hc
  rw [if_neg hc] at h
  split
  ·rename_i hg; rw [if_pos hg] at h; cases h
  ·rename_i hg
   have hr : zAn d.l d.g d.a = true := by
    cases hh : zAn d.l d.g d.a with
    | true => rfl
    | false => exact absurd (.inl hh) hc
   have hb : 1 ≤ b := by
    by_cases hb : b < 1
    ·exact absurd (.inr hb) hc
    ·omega
   have hgl : d.g.length ≤ 2000 := by
    simp only [zAn, Bool.and_eq_true, decide_eq_true_eq] at hr
    exact hr.1.2
   have := zFg d.l d.a hb
   exact ⟨hr, hb, by omega, this.1, this.2, rfl, rfl⟩
theorem run_path (c : Cp α) {d d' : Dr} {x : α} (h : c.run d = .ok (d', x)) : ∃ cs, c.path cs = some x ∧ d'.g = d.g ++ cs ∧ d'.l = d.l := by
 induction c generalizing d with
 | ret z => simp only [run, Except.ok.injEq, Prod.mk.injEq] at h; obtain ⟨rfl, rfl⟩ := h; exact ⟨[], rfl, by simp, rfl⟩
 | bad e => simp [run] at h
 | take b k ih =>
  simp only [run] at h
  split at h
  ·rename_i h0
   obtain ⟨cs, h1, h2, h3⟩ := ih _ h
   obtain ⟨_, _, _, h4, h5, h6, _⟩ := takeF_ok h0
   refine ⟨(zAP d b).2.1 :: cs, by simp only [path]; rw [if_pos ⟨h4, h5⟩]; exact h1, ?_, ?_⟩
   ·rw [h2, h6]; simp
   ·rw [h3, h6]
  ·cases h
theorem path_run (c : Cp α) {cs L g : List Int} {a : Nat} {x : α} (h : c.path cs = some x) (hL : L.length ≤ 500) (hg : g.length + cs.length ≤ 2000) (hp : ∃ post, L.drop a = cs ++ post) :
  c.run ⟨L, a, g⟩ = .ok (⟨L, ((a + cs.length : Nat) : Int), g ++ cs⟩, x) := by
 induction c generalizing cs g a with
 | ret z =>
  cases cs with
  | nil => simp only [path, Option.some.injEq] at h; subst h; simp [run]
  | cons _ _ => simp [path] at h
 | bad e => cases cs <;> simp [path] at h
 | take b k ih =>
  cases cs with
  | nil => simp [path] at h
  | cons n cs =>
   simp only [path] at h
   split at h
   ·rename_i hn
    obtain ⟨post, hp⟩ := hp
    simp only [List.length_cons] at hg
    have ha : L[a]? = some n := by
     have : (L.drop a)[0]? = some n := by rw [hp]; rfl
     rw [List.getElem?_drop] at this; simpa using this
    have hal : a < L.length := (List.getElem?_eq_some_iff.1 ha).1
    have hr : zAn L g (a : Int) = true := by simp [zAn]; omega
    have ht : zAP ⟨L, a, g⟩ b = (⟨L, ((a + 1 : Nat) : Int), g ++ [n]⟩, n, 0) := by
     rw [zOu hr (by omega) (by omega)]
     have hc : zBT L (a : Int) b = n := by
      unfold zBT
      rw [if_pos (by omega), Int.toNat_natCast, List.getD_eq_getElem?_getD, ha]
      exact Int.emod_eq_of_lt hn.1 hn.2
     rw [hc, if_pos (by omega)]
     simp
    simp only [run, ht, if_true]
    rw [ih n h (by simp; omega) ⟨post, by rw [← List.drop_drop, hp]; rfl⟩]
    simp only [List.length_cons, List.append_assoc, List.cons_append, List.nil_append]
    rw [show a + 1 + cs.length = a + (cs.length + 1) from by omega]
   ·cases h
def All (p : α → Prop) : Cp α → Prop
 | .ret x => p x
 | .bad _ => True
 | .take b k => ∀ n, 0 ≤ n → n < b → (k n).All p
theorem all_path {p : α → Prop} (c : Cp α) (h : c.All p) {cs : List Int} {x : α} (hc : c.path cs = some x) : p x := by
 induction c generalizing cs with
 | ret z =>
  cases cs with
  | nil => simp only [path, Option.some.injEq] at hc; subst hc; exact h
  | cons _ _ => simp [path] at hc
 | bad e => cases cs <;> simp [path] at hc
 | take b k ih =>
  cases cs with
  | nil => simp [path] at hc
  | cons n cs =>
   simp only [path] at hc
   split at hc
   ·rename_i hn; exact ih n (h n hn.1 hn.2) hc
   ·cases hc
theorem all_bind {p : α → Prop} {q : β → Prop} (c : Cp α) (f : α → Cp β) (h : c.All p) (hf : ∀ x, p x → (f x).All q) : (c.bind f).All q := by
 induction c with
 | ret z => exact hf z h
 | bad e => trivial
 | take b k ih => exact fun n h0 h1 => ih n (h n h0 h1)
theorem all_mono {p q : α → Prop} (c : Cp α) (h : c.All p) (hpq : ∀ x, p x → q x) : c.All q := by
 induction c with
 | ret z => exact hpq z h
 | bad e => trivial
 | take b k ih => exact fun n h0 h1 => ih n (h n h0 h1)
def Deep : Nat → Cp α → Prop
 | _, .ret _ => True
 | _, .bad _ => True
 | 0, .take _ _ => False
 | n + 1, .take b k => ∀ m, 0 ≤ m → m < b → Deep n (k m)
theorem deep_mono {n m : Nat} (c : Cp α) (h : Deep n c) (hm : n ≤ m) : Deep m c := by
 induction c generalizing n m with
 | ret z => cases m <;> trivial
 | bad e => cases m <;> trivial
 | take b k ih =>
  cases n with
  | zero => exact h.elim
  | succ n =>
   cases m with
   | zero => omega
   | succ m => exact fun j h0 h1 => ih j (h j h0 h1) (by omega)
theorem deep_bind {n m : Nat} {p : α → Prop} (c : Cp α) (f : α → Cp β) (h : Deep n c) (hp : c.All p) (hf : ∀ x, p x → Deep m (f x)) : Deep (n + m) (c.bind f) := by
 induction c generalizing n with
 | ret z => exact deep_mono _ (hf z hp) (by omega)
 | bad e => cases n + m <;> trivial
 | take b k ih =>
  cases n with
  | zero => exact h.elim
  | succ n =>
   rw [show n + 1 + m = (n + m) + 1 from by omega]
   exact fun j h0 h1 => ih j (h j h0 h1) (hp j h0 h1)
theorem path_deep {n : Nat} (c : Cp α) (h : Deep n c) {cs : List Int} {x : α} (hc : c.path cs = some x) : cs.length ≤ n := by
 induction c generalizing n cs with
 | ret z =>
  cases cs with
  | nil => simp
  | cons _ _ => simp [path] at hc
 | bad e => cases cs <;> simp [path] at hc
 | take b k ih =>
  cases cs with
  | nil => simp
  | cons j cs =>
   cases n with
   | zero => exact h.elim
   | succ n =>
    simp only [path] at hc
    split at hc
    ·rename_i hn
     have := ih j (h j hn.1 hn.2) hc
     simp only [List.length_cons]; omega
    ·cases hc
def times (c : Cp α) : Nat → Cp (List α)
 | 0 => .ret []
 | n + 1 => (times c n).bind fun l => c.bind fun x => .ret (l ++ [x])
theorem all_times {p : α → Prop} {c : Cp α} (h : c.All p) : ∀ n, (c.times n).All fun l => l.length = n ∧ ∀ x ∈ l, p x
 | 0 => ⟨rfl, fun x hx => by cases hx⟩
 | n + 1 => all_bind _ _ (all_times h n) fun l hl => all_bind _ _ h fun x hx => ⟨by simp [hl.1], fun y hy => by
   rcases List.mem_append.1 hy with hy | hy
   ·exact hl.2 y hy
   ·rw [List.mem_singleton.1 hy]; exact hx⟩
theorem all_true (c : Cp α) : c.All fun _ => True := by
 induction c with
 | ret z => trivial
 | bad e => trivial
 | take b k ih => exact fun n _ _ => ih n
theorem deep_times {m : Nat} {c : Cp α} (h : Deep m c) : ∀ n, Deep (n * m) (c.times n)
 | 0 => by cases 0 * m <;> trivial
 | n + 1 => by
  rw [Nat.succ_mul]
  exact deep_bind _ _ (deep_times h n) (all_true _) fun l _ => deep_mono _ (deep_bind (m := 0) _ _ h (all_true _) fun x _ => trivial) (by omega)
def rows (c : Cp α) (most : Int) : Cp (List α) := .take (most + 1) fun n => c.times n.toNat
end Cp
abbrev M3 := Dr × Int × Int
def Is {α : Type} (f : M3 → M3 × α) (c : Cp α) : Prop :=
 (∀ d n, match c.run d with | .ok (d', x) => ∃ n', f (d, n, 0) = ((d', n', 0), x) | .error e => e ≠ 0 ∧ (f (d, n, 0)).1.2.2 = e) ∧ ∀ d n e, e ≠ 0 → (f (d, n, e)).1.2.2 = e
section
variable {α β : Type}
theorem Is.bind {f : M3 → M3 × α} {c : Cp α} {g : α → M3 → M3 × β} {k : α → Cp β} (h : Is f c) (hg : ∀ x, Is (g x) (k x)) : Is (fun m => g (f m).2 (f m).1) (c.bind k) := by
 refine ⟨fun d n => ?_, fun d n e he => ?_⟩
 ·have h1 := h.1 d n
  rw [Cp.run_bind]
  cases hr : c.run d with
  | error e =>
   rw [hr] at h1
   obtain ⟨he, h2⟩ := h1
   obtain ⟨⟨⟨d1, n1, e1⟩, x⟩, hf⟩ : ∃ r, f (d, n, 0) = r := ⟨_, rfl⟩
   rw [hf] at h2
   simp only at h2
   subst h2
   exact ⟨he, by simp only [hf]; exact (hg x).2 d1 n1 e1 he⟩
  | ok r =>
   obtain ⟨d', x⟩ := r
   rw [hr] at h1
   obtain ⟨n', hf⟩ := h1
   have h3 := (hg x).1 d' n'
   simp only [hf]
   exact h3
 ·have h1 := h.2 d n e he
  obtain ⟨⟨⟨d1, n1, e1⟩, x⟩, hf⟩ : ∃ r, f (d, n, e) = r := ⟨_, rfl⟩
  rw [hf] at h1
  simp only at h1
  subst h1
  simp only [hf]
  exact (hg x).2 d1 n1 e1 he
theorem Is.ret (x : α) : Is (fun m => (m, x)) (.ret x) := ⟨fun d n => ⟨n, rfl⟩, fun _ _ _ _ => rfl⟩
theorem Is.ext {f g : M3 → M3 × α} {c : Cp α} (h : Is f c) (he : ∀ m, f m = g m) : Is g c := by
 rw [show g = f from (funext he).symm]; exact h
def ze (one : M3 → M3 × α) : Nat → M3 → M3 × List α
 | 0, m => (m, [])
 | n + 1, m => let r := ze one n m; let x := one r.1; (x.1, r.2 ++ [x.2])
theorem Is.times {f : M3 → M3 × α} {c : Cp α} (h : Is f c) : ∀ n, Is (ze f n) (c.times n)
 | 0 => .ret []
 | n + 1 => (Is.bind (Is.times h n) (g := fun l m => ((f m).1, l ++ [(f m).2])) (k := fun l => c.bind fun x => .ret (l ++ [x])) fun l => (Is.bind h (g := fun x m => (m, l ++ [x])) (k := fun x => .ret (l ++ [x])) fun x => .ret (l ++ [x]))).ext fun m => rfl
end
def zBz (m t : M3) : M3 := if m.2.2 = 0 then if t.2.2 = 0 then t else (m.1, 0, t.2.2) else (m.1, 0, m.2.2)
def Ans (t : Dr → M3) (c : Cp Int) : Prop := ∀ d, match c.run d with | .ok (d', x) => t d = (d', x, 0) | .error e => e ≠ 0 ∧ (t d).2.2 = e
theorem zIZ {t : Dr → M3} {c : Cp Int} (h : Ans t c) : Is (fun m => (zBz m (t m.1), (zBz m (t m.1)).2.1)) c := by
 refine ⟨fun d n => ?_, fun d n e he => by simp only [zBz]; rw [if_neg he]⟩
 have := h d
 cases hr : c.run d with
 | error e =>
  rw [hr] at this
  obtain ⟨he, h2⟩ := this
  refine ⟨he, ?_⟩
  simp only [zBz, if_true]
  rw [if_neg (by rw [h2]; exact he)]
  exact h2
 | ok r =>
  obtain ⟨d', x⟩ := r
  rw [hr] at this
  simp only at this
  simp only [zBz, this, if_true]
  exact ⟨x, rfl⟩
def zCR (b : Int) : Cp Int := .take b .ret
def zFp (v : Int) : Cp Int := if v < 0 ∨ 20 < v then .bad 1 else .take (2 * v + 1) fun n => .ret (zFc n)
def opC (ws : List Int) : Cp Int := if zAf ws = false then .bad 1 else .take ws.sum fun n => .ret (zED ws n)
theorem zTC (b : Int) : Ans (fun d => zAP d b) (zCR b) := fun d => by
 simp only [zCR, Cp.run]
 split
 ·rename_i h
  split at h
  ·rename_i h0; cases h; exact Prod.ext rfl (Prod.ext rfl h0)
  ·cases h
 ·rename_i h
  split at h
  ·cases h
  ·rename_i h0; cases h; exact ⟨h0, rfl⟩
theorem zSd (v : Int) : Ans (fun d => zBt d v) (zFp v) := fun d => by
 simp only [zFp, zBt]
 by_cases hv : v < 0 ∨ 20 < v
 ·rw [if_pos hv, if_pos hv]; exact ⟨by decide, rfl⟩
 ·rw [if_neg hv, if_neg hv]
  simp only [Cp.run]
  by_cases h0 : (zAP d (2 * v + 1)).2.2 = 0
  ·rw [if_pos h0, if_pos h0]
  ·rw [if_neg h0, if_neg h0]; exact ⟨h0, rfl⟩
theorem zUD (ws : List Int) : Ans (fun d => zBP d ws) (opC ws) := fun d => by
 simp only [opC, zBP]
 by_cases hv : zAf ws = false
 ·rw [if_pos hv, if_pos hv]; exact ⟨by decide, rfl⟩
 ·rw [if_neg hv, if_neg hv]
  simp only [Cp.run]
  by_cases h0 : (zAP d ws.sum).2.2 = 0
  ·rw [if_pos h0, if_pos h0]
  ·rw [if_neg h0, if_neg h0]; exact ⟨h0, rfl⟩
end
structure Sp where
 code : Int
 mem : Int
 stack : Int
 val : Int
 ws : List Int
section
variable {α β : Type}
theorem Is.ret0 (x : α) : Is (fun m => ((m.1, 0, m.2.2), x)) (.ret x) := ⟨fun d n => ⟨0, rfl⟩, fun _ _ _ _ => rfl⟩
end
theorem Is.rows {α : Type} {b : M3 → M3 × Int} {f : M3 → M3 × α} {c : Cp α} {most : Int} (hb : Is b (zCR (most + 1))) (h : Is f c) : Is (fun m => ze f (b m).2.toNat (b m).1) (c.rows most) :=
 Is.bind hb (g := fun n => ze f n.toNat) (k := fun n => c.times n.toNat) fun n => h.times _
def nC (sp : Sp) (o : Int) : Cp Int := if o = 1 then zFp sp.val else if o = 8 then zCR 13 else if o = 9 then zCR 4 else if o = 10 then zCR 2 else .ret 0
def zHE (nl : Int) (sp : Sp) : Cp (Int × Int × Int) := (opC sp.ws).bind fun o => (nC sp o).bind fun v => (if o = 1 then zCR nl else .ret 0).bind fun l => .ret (o, v, l)
def zMG (nl : Int) (sp : Sp) : Cp (Int × Int) := (zFp sp.val).bind fun v => (zCR nl).bind fun l => .ret (v, l)
def zMC (nl : Int) (sp : Sp) : Cp (Bool × Int × Int) := (zCR 2).bind fun r => (if r = 1 then zCR 13 else zFp sp.val).bind fun v => (zCR nl).bind fun l => .ret (decide (r = 1), v, l)
def zGe (nl : Int) (sp : Sp) : Cp Sta := ((zHE nl sp).rows sp.code).bind fun c => ((zMG nl sp).rows sp.mem).bind fun m => ((zMC nl sp).rows sp.stack).bind fun s => (zCR 13).bind fun v => (zCR nl).bind fun l => .ret ⟨v, l, c, m, s, []⟩
def Sta.z : Sta := ⟨0, 0, [], [], [], []⟩
def zQA {α : Type} (z : α) (r : Except Int (Dr × α)) : Dr × α × Int := match r with | .ok (d, x) => (d, x, 0) | .error e => (Dr.z, z, e)
theorem Is.end {α : Type} {f : M3 → M3 × α} {c : Cp α} (h : Is f c) (z : α) (d : Dr) (n : Int) : zQA z (c.run d) = if (f (d, n, 0)).1.2.2 = 0 then ((f (d, n, 0)).1.1, (f (d, n, 0)).2, 0) else (Dr.z, z, (f (d, n, 0)).1.2.2) := by
 have := h.1 d n
 cases hr : c.run d with
 | error e =>
  rw [hr] at this
  obtain ⟨he, h2⟩ := this
  rw [h2, if_neg he]; rfl
 | ok r =>
  obtain ⟨d', x⟩ := r
  rw [hr] at this
  obtain ⟨n', hf⟩ := this
  rw [hf, if_pos rfl]; rfl
def zR (m : M3) (b : Int) : M3 := zBz m (zAP m.1 b)
def zAL (m : M3) (v : Int) : M3 := zBz m (zBt m.1 v)
def opP (m : M3) (ws : List Int) : M3 := zBz m (zBP m.1 ws)
def zDz (nl : Int) (sp : Sp) (m : M3) : M3 × (Int × Int) := let a := zAL m sp.val; let b := zR a nl; (b, a.2.1, b.2.1)
def zDi (nl : Int) (sp : Sp) (m : M3) : M3 × (Bool × Int × Int) :=
 let r := zR m 2
 let v := if r.2.1 = 1 then zR r 13 else zAL r sp.val
 let b := zR v nl
 (b, decide (r.2.1 = 1), v.2.1, b.2.1)
def zCC (sp : Sp) (o : Int) (m : M3) : M3 := if o = 1 then zAL m sp.val else if o = 8 then zR m 13 else if o = 9 then zR m 4 else if o = 10 then zR m 2 else (m.1, 0, m.2.2)
def zCq (nl : Int) (sp : Sp) (m : M3) : M3 × (Int × Int × Int) :=
 let o := opP m sp.ws
 let v := zCC sp o.2.1 o
 let b := if o.2.1 = 1 then zR v nl else (v.1, 0, v.2.2)
 (b, o.2.1, v.2.1, b.2.1)
def zCB {α : Type} (f : M3 → M3 × α) (most : Int) (m : M3) : M3 × List α := ze f (zR m (most + 1)).2.1.toNat (zR m (most + 1))
def zVF (nl : Int) (sp : Sp) (m : M3) : M3 × Sta :=
 let c := zCB (zCq nl sp) sp.code m
 let a := zCB (zDz nl sp) sp.mem c.1
 let s := zCB (zDi nl sp) sp.stack a.1
 let v := zR s.1 13
 let l := zR v nl
 (l, ⟨v.2.1, l.2.1, c.2, a.2, s.2, []⟩)
theorem zAs (b : Int) : Is (fun m => (zR m b, (zR m b).2.1)) (zCR b) := zIZ (zTC b)
theorem zDQ (v : Int) : Is (fun m => (zAL m v, (zAL m v).2.1)) (zFp v) := zIZ (zSd v)
theorem zUr (ws : List Int) : Is (fun m => (opP m ws, (opP m ws).2.1)) (opC ws) := zIZ (zUD ws)
theorem zVV (sp : Sp) (o : Int) : Is (fun m => (zCC sp o m, (zCC sp o m).2.1)) (nC sp o) := by
 unfold zCC nC
 by_cases h1 : o = 1
 ·simp only [if_pos h1]; exact zDQ _
 by_cases h8 : o = 8
 ·simp only [if_neg h1, if_pos h8]; exact zAs _
 by_cases h9 : o = 9
 ·simp only [if_neg h1, if_neg h8, if_pos h9]; exact zAs _
 by_cases h10 : o = 10
 ·simp only [if_neg h1, if_neg h8, if_neg h9, if_pos h10]; exact zAs _
 simp only [if_neg h1, if_neg h8, if_neg h9, if_neg h10]; exact Is.ret0 0
theorem zSS (nl : Int) (sp : Sp) : Is (zDz nl sp) (zMG nl sp) :=
 (Is.bind (zDQ sp.val) (g := fun v m => (zR m nl, v, (zR m nl).2.1)) fun v => Is.bind (zAs nl) (g := fun l m => (m, v, l)) fun l => .ret (v, l)).ext fun m => rfl
theorem zSU (nl : Int) (sp : Sp) : Is (zDi nl sp) (zMC nl sp) :=
 (Is.bind (zAs 2) (g := fun r m => (zR (if r = 1 then zR m 13 else zAL m sp.val) nl, decide (r = 1), (if r = 1 then zR m 13 else zAL m sp.val).2.1, (zR (if r = 1 then zR m 13 else zAL m sp.val) nl).2.1)) fun r =>
  Is.bind (f := fun m => (if r = 1 then zR m 13 else zAL m sp.val, (if r = 1 then zR m 13 else zAL m sp.val).2.1)) (by
   by_cases h : r = 1
   ·simp only [if_pos h]; exact zAs 13
   ·simp only [if_neg h]; exact zDQ _) (g := fun v m => (zR m nl, decide (r = 1), v, (zR m nl).2.1)) fun v => Is.bind (zAs nl) (g := fun l m => (m, decide (r = 1), v, l)) fun l => .ret _).ext fun m => rfl
theorem zRr (nl : Int) (sp : Sp) : Is (zCq nl sp) (zHE nl sp) :=
 (Is.bind (zUr sp.ws) (g := fun o m => ((if o = 1 then zR (zCC sp o m) nl else ((zCC sp o m).1, 0, (zCC sp o m).2.2)), o, (zCC sp o m).2.1, (if o = 1 then zR (zCC sp o m) nl else ((zCC sp o m).1, 0, (zCC sp o m).2.2)).2.1)) fun o =>
  Is.bind (zVV sp o) (g := fun v m => ((if o = 1 then zR m nl else (m.1, 0, m.2.2)), o, v, (if o = 1 then zR m nl else (m.1, 0, m.2.2)).2.1)) fun v =>
   Is.bind (f := fun m => (if o = 1 then zR m nl else (m.1, 0, m.2.2), (if o = 1 then zR m nl else (m.1, 0, m.2.2)).2.1)) (by
    by_cases h : o = 1
    ·simp only [if_pos h]; exact zAs nl
    ·simp only [if_neg h]; exact Is.ret0 0) (g := fun l m => (m, o, v, l)) fun l => .ret _).ext fun m => rfl
theorem zJi {α : Type} {f : M3 → M3 × α} {c : Cp α} (h : Is f c) (most : Int) : Is (zCB f most) (c.rows most) := Is.rows (zAs (most + 1)) h
theorem zQs (nl : Int) (sp : Sp) : Is (zVF nl sp) (zGe nl sp) :=
 (Is.bind (zJi (zRr nl sp) sp.code) (g := fun c m => let a := zCB (zDz nl sp) sp.mem m; let s := zCB (zDi nl sp) sp.stack a.1; let v := zR s.1 13; let l := zR v nl; (l, (⟨v.2.1, l.2.1, c, a.2, s.2, []⟩ : Sta))) fun c =>
  Is.bind (zJi (zSS nl sp) sp.mem) (g := fun a m => let s := zCB (zDi nl sp) sp.stack m; let v := zR s.1 13; let l := zR v nl; (l, (⟨v.2.1, l.2.1, c, a, s.2, []⟩ : Sta))) fun a =>
   Is.bind (zJi (zSU nl sp) sp.stack) (g := fun s m => let v := zR m 13; let l := zR v nl; (l, (⟨v.2.1, l.2.1, c, a, s, []⟩ : Sta))) fun s =>
    Is.bind (zAs 13) (g := fun v m => let l := zR m nl; (l, (⟨v, l.2.1, c, a, s, []⟩ : Sta))) fun v =>
     Is.bind (zAs nl) (g := fun l m => (m, (⟨v, l, c, a, s, []⟩ : Sta))) fun l => .ret _).ext fun m => rfl
theorem zGC {ws : List Int} (hw : ∀ w ∈ ws, 0 ≤ w ∧ w ≤ 100) {i j : Nat} (h : i ≤ j) : (ws.take i).sum ≤ (ws.take j).sum := by
 induction j with
 | zero => simp at h; subst h; simp
 | succ j ih =>
  by_cases he : i = j + 1
  ·rw [he]; omega
  ·have := ih (by omega)
   by_cases hj : j < ws.length
   ·rw [zCE hj]
    have := hw ws[j] (List.getElem_mem _)
    omega
   ·rw [List.take_of_length_le (by omega : ws.length ≤ j)] at this
    rw [List.take_of_length_le (by omega : ws.length ≤ j + 1)]
    exact this
theorem zKa {ws : List Int} (hw : ∀ w ∈ ws, 0 ≤ w ∧ w ≤ 100) {n i : Int} (h0 : 0 ≤ n) (hn : n < ws.sum) :
  zED ws n = i ↔ ∃ k : Nat, k < ws.length ∧ i = k ∧ (ws.take k).sum ≤ n ∧ n < (ws.take (k + 1)).sum := by
 have hex : ∃ k : Nat, k < ws.length ∧ (ws.take k).sum ≤ n ∧ n < (ws.take (k + 1)).sum := by
  rcases zRU ws.length (fun k => decide (¬ n < (ws.take (k + 1)).sum)) with h | ⟨k, hk, h1, h2⟩
  ·exfalso
   cases hl : ws.length with
   | zero => rw [List.length_eq_zero_iff.1 hl] at hn; simp at hn; omega
   | succ m =>
    have := h m (by omega)
    rw [← hl, List.take_length] at this
    simp at this; omega
  ·refine ⟨k, hk, ?_, by simpa using h1⟩
   cases k with
   | zero => simpa using h0
   | succ k => have := h2 k (by omega); simp at this; exact this
 obtain ⟨k, hk, hk1, hk2⟩ := hex
 have hp : zED ws n = k := zMU hk hk2 (fun j hj => by have := zGC hw (show j + 1 ≤ k by omega); omega)
 constructor
 ·intro h; exact ⟨k, hk, by omega, hk1, hk2⟩
 ·rintro ⟨k', hk', rfl, h1, h2⟩
  rw [hp]
  rcases Nat.lt_trichotomy k k' with h | h | h
  ·have := zGC hw (show k + 1 ≤ k' by omega); omega
  ·rw [h]
  ·have := zGC hw (show k' + 1 ≤ k by omega); omega
def zFl (ws : List Int) (i : Int) : Int × Int :=
 if zAf ws = false then (0, 1) else if i < 0 ∨ ws.length ≤ i ∨ ws.getD i.toNat 0 = 0 then (0, 9) else ((ws.take i.toNat).sum, 0)
def inB (a b n : Int) : Bool := decide (a ≤ n) && decide (n ≤ b)
def zBR (n : Nat) (x : Int × Int × Int) : Bool :=
 if x.1 = 1 then inB (-20) 20 x.2.1 && !zx n x.2.2
 else inB 0 12 x.1 && (decide (x.2.2 = 0) && (if x.1 = 8 then inB 0 12 x.2.1 else if x.1 = 9 then inB 0 3 x.2.1 else if x.1 = 10 then inB 0 1 x.2.1 else decide (x.2.1 = 0)))
def zCf (n : Nat) (x : Int × Int) : Bool := inB (-20) 20 x.1 && !zx n x.2
def zCT (n : Nat) (x : Bool × Int × Int) : Bool := !zx n x.2.2 && (if x.1 = true then inB 0 12 x.2.1 else inB (-20) 20 x.2.1)
def zFd (n : Nat) (c : List (Int × Int × Int)) : Bool := c.all (zBR n) && decide (c.length ≤ 12)
def zIl (n : Nat) (s : Sta) : Bool :=
 zFd n s.code && (inB 0 12 s.v && (!zx n s.l && (s.mem.all (zCf n) && (decide (s.mem.length ≤ 6) && (s.stack.all (zCT n) && (decide (s.stack.length ≤ 12) && (s.out.all (zCf n) && decide (s.out.length ≤ 8))))))))
def spB (sp : Sp) : Bool := inB 0 12 sp.code && (inB 0 6 sp.mem && (inB 0 12 sp.stack && (inB 0 20 sp.val && (decide (sp.ws.length = 13) && zAf sp.ws))))
def zBS (sp : Sp) (x : Int × Int × Int) : Bool := !decide (sp.ws.getD x.1.toNat 0 = 0) && (!decide (x.1 = 1) || inB (-sp.val) sp.val x.2.1)
def zDx (n : Nat) (sp : Sp) (s : Sta) : Bool :=
 zIl n s && (decide ((s.code.length : Int) ≤ sp.code) && (decide ((s.mem.length : Int) ≤ sp.mem) && (decide ((s.stack.length : Int) ≤ sp.stack) && (decide (s.out.length = 0) &&
  (s.code.all (zBS sp) && (s.mem.all (fun a => inB (-sp.val) sp.val a.1) && s.stack.all (fun x => x.1 || inB (-sp.val) sp.val x.2.1)))))))
theorem zAb {a b n : Int} : inB a b n = true ↔ a ≤ n ∧ n ≤ b := by simp [inB]
theorem zAG {n : Nat} {a : Int} : zx n a = false ↔ 0 ≤ a ∧ a < n := by simp [zx]
structure SpOk (sp : Sp) : Prop where
 c0 : 0 ≤ sp.code
 c1 : sp.code ≤ 12
 m0 : 0 ≤ sp.mem
 m1 : sp.mem ≤ 6
 s0 : 0 ≤ sp.stack
 s1 : sp.stack ≤ 12
 v0 : 0 ≤ sp.val
 v1 : sp.val ≤ 20
 wl : sp.ws.length = 13
 ww : zAf sp.ws = true
theorem zHs {sp : Sp} : spB sp = true ↔ SpOk sp := by
 simp only [spB, Bool.and_eq_true, zAb, decide_eq_true_eq]
 constructor
 ·rintro ⟨⟨h1, h2⟩, ⟨h3, h4⟩, ⟨h5, h6⟩, ⟨h7, h8⟩, h9, h10⟩; exact ⟨h1, h2, h3, h4, h5, h6, h7, h8, h9, h10⟩
 ·rintro ⟨h1, h2, h3, h4, h5, h6, h7, h8, h9, h10⟩; exact ⟨⟨h1, h2⟩, ⟨h3, h4⟩, ⟨h5, h6⟩, ⟨h7, h8⟩, h9, h10⟩
theorem zRo {v n : Int} (hv : 0 ≤ v) (h0 : 0 ≤ n) (h1 : n < 2 * v + 1) : -v ≤ zFc n ∧ zFc n ≤ v := by
 unfold zFc; split <;> omega
theorem zIn {v : Int} (hv : 0 ≤ v) : (zFp v).All fun x => -v ≤ x ∧ x ≤ v := by
 unfold zFp
 split
 ·trivial
 ·exact fun n h0 h1 => zRo hv h0 h1
theorem zCD (b : Int) : (zCR b).All fun x => 0 ≤ x ∧ x < b := fun n h0 h1 => ⟨h0, h1⟩
theorem zTa {ws : List Int} (h : zAf ws = true) : (opC ws).All fun (x : Int) => 0 ≤ x ∧ x < ws.length ∧ ws.getD x.toNat 0 ≠ 0 := by
 have hw := zDE h
 unfold opC
 rw [if_neg (by rw [h]; simp)]
 intro n h0 h1
 have hp := (zKa hw.2.2.1 h0 h1 (i := zED ws n)).1 rfl
 obtain ⟨k, hkl, hk, h2, h3⟩ := hp
 show 0 ≤ zED ws n ∧ zED ws n < (ws.length : Int) ∧ ws.getD (zED ws n).toNat 0 ≠ 0
 rw [hk]
 refine ⟨by omega, by omega, ?_⟩
 rw [Int.toNat_natCast, List.getD_eq_getElem?_getD, List.getElem?_eq_getElem hkl]
 have := zCE hkl
 simp only [Option.getD_some]
 omega
theorem zNj {nl : Nat} {sp : Sp} (h : SpOk sp) : (zHE nl sp).All fun x => zBR nl x = true ∧ zBS sp x = true := by
 refine Cp.all_bind _ _ (zTa h.ww) fun o ho => ?_
 rw [h.wl] at ho
 obtain ⟨h0, h1, h2⟩ := ho
 have hv0 := h.v0
 have hv1 := h.v1
 by_cases e1 : o = 1
 ·subst e1
  refine Cp.all_bind (p := fun x => -sp.val ≤ x ∧ x ≤ sp.val) _ _ (by unfold nC; rw [if_pos rfl]; exact zIn h.v0) fun v hv => ?_
  refine Cp.all_bind (p := fun x => 0 ≤ x ∧ x < (nl : Int)) _ _ (by rw [if_pos rfl]; exact zCD _) fun l hl => ?_
  refine ⟨?_, ?_⟩
  ·simp only [zBR, if_true, Bool.and_eq_true, zAb, Bool.not_eq_true', zAG]
   omega
  ·simp only [zBS, Bool.and_eq_true, Bool.not_eq_true', decide_eq_false_iff_not, Bool.or_eq_true, zAb]
   exact ⟨h2, .inr hv⟩
 ·have hin : ∀ v, zBS sp (o, v, 0) = true := fun v => by
   simp only [zBS, Bool.and_eq_true, Bool.not_eq_true', decide_eq_false_iff_not, Bool.or_eq_true]
   exact ⟨h2, .inl e1⟩
  refine Cp.all_bind (p := fun v => zBR nl (o, v, 0) = true) _ _ ?_ fun v hv => ?_
  ·have ho : inB 0 12 o = true := zAb.2 (by omega)
   unfold nC
   rw [if_neg e1]
   split
   ·rename_i e; refine Cp.all_mono _ (zCD _) fun x hx => ?_
    simp only [zBR]; rw [if_neg e1, if_pos e, ho]; simp [inB]; omega
   split
   ·rename_i e8 e; refine Cp.all_mono _ (zCD _) fun x hx => ?_
    simp only [zBR]; rw [if_neg e1, if_neg e8, if_pos e, ho]; simp [inB]; omega
   split
   ·rename_i e8 e9 e; refine Cp.all_mono _ (zCD _) fun x hx => ?_
    simp only [zBR]; rw [if_neg e1, if_neg e8, if_neg e9, if_pos e, ho]; simp [inB]; omega
   ·rename_i e8 e9 e10
    show zBR nl (o, 0, 0) = true
    simp only [zBR]; rw [if_neg e1, if_neg e8, if_neg e9, if_neg e10, ho]; rfl
  ·rw [if_neg e1]
   exact ⟨hv, hin v⟩
theorem zQR {nl : Nat} {sp : Sp} (h : SpOk sp) : (zMG nl sp).All fun x => zCf nl x = true ∧ inB (-sp.val) sp.val x.1 = true := by
 have hv1 := h.v1
 refine Cp.all_bind _ _ (zIn h.v0) fun v hv => Cp.all_bind _ _ (zCD _) fun l hl => ?_
 simp only [Cp.All, zCf, Bool.and_eq_true, zAb, Bool.not_eq_true', zAG]
 omega
theorem zQG {nl : Nat} {sp : Sp} (h : SpOk sp) : (zMC nl sp).All fun x => zCT nl x = true ∧ (x.1 || inB (-sp.val) sp.val x.2.1) = true := by
 have hv1 := h.v1
 refine Cp.all_bind _ _ (Cp.all_true _) fun r _ => ?_
 by_cases hr : r = 1
 ·rw [if_pos hr, decide_eq_true hr]
  refine Cp.all_bind _ _ (zCD _) fun v hv => Cp.all_bind _ _ (zCD _) fun l hl => ?_
  simp only [Cp.All, zCT, if_true, Bool.and_eq_true, zAb, Bool.not_eq_true', zAG, Bool.true_or, and_true]
  omega
 ·rw [if_neg hr, decide_eq_false hr]
  refine Cp.all_bind _ _ (zIn h.v0) fun v hv => Cp.all_bind _ _ (zCD _) fun l hl => ?_
  simp only [Cp.All, zCT, Bool.false_eq_true, if_false, Bool.and_eq_true, zAb, Bool.not_eq_true', zAG, Bool.false_or]
  omega
theorem zJb {α : Type} {p : α → Prop} {c : Cp α} (h : c.All p) (most : Int) : (c.rows most).All fun l => (l.length : Int) ≤ most ∧ ∀ x ∈ l, p x := fun n h0 h1 =>
 Cp.all_mono _ (Cp.all_times h n.toNat) fun l hl => ⟨by omega, hl.2⟩
theorem zLz {nl : Nat} {sp : Sp} (h : SpOk sp) : (zGe nl sp).All fun s => zDx nl sp s = true := by
 refine Cp.all_bind _ _ (zJb (zNj h) _) fun c hc => Cp.all_bind _ _ (zJb (zQR h) _) fun m hm => Cp.all_bind _ _ (zJb (zQG h) _) fun s hs => Cp.all_bind _ _ (zCD _) fun v hv => Cp.all_bind _ _ (zCD _) fun l hl => ?_
 obtain ⟨h1, h2, h3, h4, h5, h6, h7, h8, _, _⟩ := h
 simp only [Cp.All, zDx, zIl, zFd, Bool.and_eq_true, zAb, decide_eq_true_eq, Bool.not_eq_true', zAG, List.all_eq_true, List.length_nil, List.not_mem_nil, false_implies, implies_true, and_true]
 refine ⟨⟨⟨fun x hx => (hc.2 x hx).1, by omega⟩, by omega, hl, fun x hx => (hm.2 x hx).1, by omega, fun x hx => (hs.2 x hx).1, by omega, by first | omega | trivial | (simp; done)⟩, hc.1, hm.1, hs.1, trivial, fun x hx => (hc.2 x hx).2, fun x hx => ?_, fun x hx => (hs.2 x hx).2⟩
 exact zAb.1 (hm.2 x hx).2
theorem zBK (b : Int) : Cp.Deep 1 (zCR b) := fun _ _ _ => trivial
theorem zEL (b : Int) : Cp.Deep 1 (zFp b) := by unfold zFp; split; trivial; exact fun _ _ _ => trivial
theorem zSw (ws : List Int) : Cp.Deep 1 (opC ws) := by unfold opC; split; trivial; exact fun _ _ _ => trivial
theorem zEu {α : Type} (n : Nat) (x : α) : Cp.Deep n (.ret x) := by cases n <;> trivial
theorem zNz (nl : Int) (sp : Sp) : Cp.Deep 3 (zHE nl sp) :=
 Cp.deep_bind (n := 1) (m := 2) _ _ (zSw _) (Cp.all_true _) fun o _ => Cp.deep_bind (n := 1) (m := 1) _ _ (by unfold nC; split; exact zEL _; split; exact zBK _; split; exact zBK _; split; exact zBK _; exact zEu _ _) (Cp.all_true _) fun v _ => Cp.deep_bind (n := 1) (m := 0) _ _ (by split; exact zBK _; exact zEu _ _) (Cp.all_true _) fun l _ => trivial
theorem zQB (nl : Int) (sp : Sp) : Cp.Deep 2 (zMG nl sp) :=
 Cp.deep_bind (n := 1) (m := 1) _ _ (zEL _) (Cp.all_true _) fun o _ => Cp.deep_bind (n := 1) (m := 0) _ _ (zBK _) (Cp.all_true _) fun l _ => trivial
theorem zPv (nl : Int) (sp : Sp) : Cp.Deep 3 (zMC nl sp) :=
 Cp.deep_bind (n := 1) (m := 2) _ _ (zBK _) (Cp.all_true _) fun o _ => Cp.deep_bind (n := 1) (m := 1) _ _ (by split; exact zBK _; exact zEL _) (Cp.all_true _) fun v _ => Cp.deep_bind (n := 1) (m := 0) _ _ (zBK _) (Cp.all_true _) fun l _ => trivial
theorem zGx {α : Type} {n k : Nat} {c : Cp α} (h : Cp.Deep n c) {most : Int} (hm : most ≤ k) : Cp.Deep (1 + k * n) (c.rows most) := by
 rw [Nat.add_comm]
 intro j h0 h1
 exact Cp.deep_mono _ (Cp.deep_times h j.toNat) (Nat.mul_le_mul_right n (by omega))
theorem zJY {nl : Nat} {sp : Sp} (h : SpOk sp) : Cp.Deep 89 (zGe nl sp) :=
 Cp.deep_bind (n := 37) (m := 52) _ _ (zGx (k := 12) (zNz _ _) h.c1) (Cp.all_true _) fun c _ => Cp.deep_bind (n := 13) (m := 39) _ _ (zGx (k := 6) (zQB _ _) h.m1) (Cp.all_true _) fun m _ =>
  Cp.deep_bind (n := 37) (m := 2) _ _ (zGx (k := 12) (zPv _ _) h.s1) (Cp.all_true _) fun s _ => Cp.deep_bind (n := 1) (m := 1) _ _ (zBK _) (Cp.all_true _) fun v _ => Cp.deep_bind (n := 1) (m := 0) _ _ (zBK _) (Cp.all_true _) fun l _ => trivial
theorem zPo {a : Int} {g : List Int} {b : Int} (ha : 0 ≤ a) (hg : g.length < 2000) (hb : 1 ≤ b) : zAP ⟨[], a, g⟩ b = (⟨[], a, g ++ [0]⟩, 0, 0) := by
 rw [zOu (by simp [zAn]; omega) (by omega) (by omega)]
 simp [zBT]; omega
end Go.Proofs.YtabliglgeiajlaaGreat.AM
