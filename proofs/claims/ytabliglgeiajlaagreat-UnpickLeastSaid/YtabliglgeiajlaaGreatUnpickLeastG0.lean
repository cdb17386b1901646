/- Walks and plain laws, put together: part 0. -/
import Derived.Test.YtabliglgeiajlaaGreatMc
set_option linter.unusedSimpArgs false
set_option linter.unusedVariables false
namespace Go.Proofs.YtabliglgeiajlaaGreat.AM
open Go Go.RowKit Go.Proofs
set_option maxRecDepth 100000
set_option maxHeartbeats 1000000
def zM (xs : List Int) : List (List D) := xs.map fun x => [.v (.int .i64 x)]
@[push_cast] theorem zSW (l : List Int) : (zM l).length = l.length := by simp [zM]
@[push_cast] theorem zUW (l : List Int) (a b : Nat) : sub (zM l) a b = zM ((l.take b).drop a) := by simp [zM, zEd]
theorem zAV {l : List Int} {n : Nat} {x : Int} (h : l[n]? = some x) : zFk (zM l) n = [.v (.int .i64 x)] := by unfold zM; exact zBs _ _ _ _ h
theorem zCi (l : List Int) : (zM l).flatten = l.map fun x => .v (.int .i64 x) := by
 induction l with
 | nil => rfl
 | cons a l ih => simp only [zM, List.map_cons, List.flatten_cons] at ih ⊢; rw [ih]; rfl
@[push_cast] theorem zMB (l : List Int) : (zM l).flatten.length = l.length := by rw [zCi]; simp
@[push_cast] theorem zUs (l : List Int) (x : Int) : zAh 1 (l.length + 1) ((zM l).flatten ++ [.v (.int .i64 x)]) = zM (l ++ [x]) := by
 rw [zCi, show ([.v (.int .i64 x)] : List D) = [x].map (fun x => .v (.int .i64 x)) from rfl, ← List.map_append, show l.length + 1 = (l ++ [x]).length by simp]
 exact zHI _ _
@[push_cast] theorem zSU (a b : List D) : zAc (a ++ b) = (zAc a && zAc b) := by
 induction a with
 | nil => simp [zAc]
 | cons x a ih => simp only [List.cons_append, zAc, ih, Bool.and_assoc]
@[push_cast] theorem zMT (l : List Int) : zAc (l.map fun x => .v (.int .i64 x)) = true := by
 induction l with
 | nil => rfl
 | cons x l ih => simp only [List.map_cons, zAc, ih]; rfl
@[push_cast] theorem zSX (l : List Int) : zAc (zM l).flatten = true := by rw [zCi]; exact zMT l
@[push_cast] theorem zTf (x : Int) (l : List Int) : zCo (zM (x :: l)) = false := rfl
@[push_cast] theorem zSZ : zCo (zM []) = true := rfl
theorem zRt (n : Nat) : Nat.ble n n = true := Nat.ble_self_eq_true n
attribute [push_cast] Nat.zero_add zRt Nat.mul_one List.length_append
def zEw (x y : Int) : Int := if x < y then -1 else if y < x then 1 else 0
def zAg (l lg : List Int) (a : Int) : Bool := decide (l.length ≤ 500) && decide (lg.length ≤ 2000) && decide (0 ≤ a)
theorem zEl (f g : Bool) (l lg : List Int) (a : Int) : Fn Tryz.prog 52 [.agg [.sl f 1 (zM l), .v (.int .i64 a), .sl g 1 (zM lg)]] [] (.v (.bool (zAg l lg a))) [] := by
 refine Fn.of (fn := Tryz.f52) (by kernel_rfl) rfl (by kernel_rfl) ⟨[.agg [.sl f 1 (zM l), .v (.int .i64 a), .sl g 1 (zM lg)], .v undef, .v undef, .v undef, .v undef, .v undef, .v undef, .v undef, .v undef, .v undef, .v undef, .v undef, .v undef, .v undef, .v undef, .v undef, .v undef, .v undef], []⟩ rfl ?_
 repeat' first | (with_reducible first | refine zA ?_ | refine zB ?_ | refine zF ?_) | ((with_reducible refine zC fun KC J hJ hKC => ?_); simp (maxSteps := 9999999) only [push_cast, seval, ↓reduceIte]) | ((with_reducible refine hJ _ _ ?_); clear hJ hKC KC J) | ((with_reducible refine zFj (fun hs => ?_) (fun hs => ?_)) <;> (try simp only [Bool.not_eq_true, Bool.not_eq_false, Bool.not_eq_true', Bool.not_eq_false', Decidable.not_not, decide_eq_true_eq, decide_eq_false_iff_not] at hs) <;> (try simp (maxSteps := 9999999) only [push_cast, seval, ↓reduceIte, hs]))
 all_goals
  refine zD ?_
  simp (maxSteps := 9999999) only [push_cast, seval, ↓reduceIte, show Tryz.f52.results = #[(.tmp 2)] from rfl]
  refine zAk (congrArg Value.bool (Bool.eq_iff_iff.2 ?_))
  simp [zAg]
  omega
theorem zIu (f : Bool) (l : List Int) : Fn Tryz.prog 46 [.sl f 1 (zM l)] [] (.agg [.sl f 1 (zM l), .v (.int .i64 0), .sl false 1 (zM [])]) [] := by
 refine Fn.of (fn := Tryz.f46) (by kernel_rfl) rfl (by kernel_rfl) ⟨[.sl f 1 (zM l), .v undef, .v undef, .v undef, .v undef], []⟩ rfl ?_
 repeat' first | (with_reducible first | refine zA ?_ | refine zB ?_ | refine zF ?_) | ((with_reducible refine zC fun KC J hJ hKC => ?_); simp (maxSteps := 9999999) only [push_cast, seval, ↓reduceIte]) | ((with_reducible refine hJ _ _ ?_); clear hJ hKC KC J)
 refine zD ?_
 simp (maxSteps := 9999999) only [push_cast, seval, ↓reduceIte, show Tryz.f46.results = #[(.cell 2 30)] from rfl]
 exact Lq
def zBY (l : List Int) (a b : Int) : Int := if a < l.length then l.getD a.toNat 0 % b else 0
theorem zQr {x b : Int} (hb : 1 ≤ b) (hB : b ≤ 9223372036854775807) : (if Int.tmod x b < 0 then IntKind.i64.wrap (Int.tmod x b + b) else Int.tmod x b) = x % b := by
 have h1 := Int.tmod_eq_emod_of_nonneg (a := x) (b := b)
 rcases Int.lt_or_le x 0 with hx | hx
 ·have h2 : Int.tmod x b = - ((-x) % b) := by
   have := Int.neg_tmod (-x) b
   rw [Int.neg_neg] at this
   rw [this, Int.tmod_eq_emod_of_nonneg (by omega)]
  have h3 := Int.emod_nonneg (-x) (b := b) (by omega)
  have h4 := Int.emod_lt_of_pos (-x) (b := b) (by omega)
  have h5 := Int.emod_add_mul_ediv x b
  have h6 := Int.emod_add_mul_ediv (-x) b
  have h7 := Int.emod_nonneg x (b := b) (by omega)
  have h8 := Int.emod_lt_of_pos x (b := b) (by omega)
  rw [h2]
  by_cases h0 : (-x) % b = 0
  ·have : x % b = 0 := by
    have hd : b ∣ -x := Int.dvd_of_emod_eq_zero h0
    exact Int.emod_eq_zero_of_dvd (Int.dvd_neg.1 hd)
   simp [h0, this]
  ·rw [if_pos (by omega), zBq (by omega) (by omega)]
   have : x % b = b - (-x) % b := by
    have h9 := @Int.neg_emod (-x) b
    rw [Int.neg_neg, if_neg (fun hd => h0 (Int.emod_eq_zero_of_dvd hd))] at h9
    omega
   omega
 ·rw [Int.tmod_eq_emod_of_nonneg hx, if_neg (by have := Int.emod_nonneg x (b := b) (by omega); omega)]
theorem zQG (f g : Bool) (l lg : List Int) (a b : Int) (h0 : 0 ≤ a) (hb : 1 ≤ b) (hB : b ≤ 9223372036854775807) : Fn Tryz.prog 275 [.agg [.sl f 1 (zM l), .v (.int .i64 a), .sl g 1 (zM lg)], .v (.int .i64 b)] [] (.v (.int .i64 (zBY l a b))) [] := by
 refine Fn.of (fn := Tryz.f275) (by kernel_rfl) rfl (by kernel_rfl) ⟨[.agg [.sl f 1 (zM l), .v (.int .i64 a), .sl g 1 (zM lg)], .v (.int .i64 b), .v undef, .v undef, .v undef, .v undef, .v undef, .v undef, .v undef, .v undef, .v undef, .v undef, .v undef, .v undef, .v undef, .v undef, .v undef, .v undef, .v undef, .v undef, .v undef, .v undef, .v undef, .v undef, .v undef, .v undef], []⟩ rfl ?_
 by_cases hlt : a < l.length
 ·have hx : l[a.toNat]? = some (l.getD a.toNat 0) := by rw [List.getD_eq_getElem?_getD, List.getElem?_eq_getElem (by omega)]; rfl
  have hfix := zQr (x := l.getD a.toNat 0) hb hB
  repeat' first | (with_reducible first | refine zA ?_ | refine zB ?_ | refine zb ?_ | refine zF ?_ | refine zJ ?_) | ((with_reducible refine And.intro ?_ ?_); · exact Sq) | ((with_reducible refine zC fun KC J hJ hKC => ?_); simp (maxSteps := 9999999) only [push_cast, seval, ↓reduceIte, zAV hx]) | ((with_reducible refine hJ _ _ ?_); clear hJ hKC KC J) | (refine zAa rfl (fun h => ?_) (fun h => ?_) <;> try simp only [decide_eq_true_eq, decide_eq_false_iff_not, Bool.not_eq_true', Bool.not_eq_false', beq_iff_eq, bne_iff_ne, ne_eq, Bool.not_eq_true, Bool.or_eq_true, Bool.and_eq_true, Bool.or_eq_false_iff, Bool.and_eq_false_imp, beq_eq_false_iff_ne, bne_eq_false_iff_eq] at h)
  ·omega
  ·rw [if_pos h] at hfix
   refine zD ?_
   simp (maxSteps := 9999999) only [push_cast, seval, ↓reduceIte, show Tryz.f275.results = #[(.tmp 4)] from rfl]
   exact zAk (by rw [hfix]; simp [zBY, hlt])
  ·rw [if_neg (by omega)] at hfix
   refine zD ?_
   simp (maxSteps := 9999999) only [push_cast, seval, ↓reduceIte, show Tryz.f275.results = #[(.tmp 4)] from rfl]
   exact zAk (by rw [hfix]; simp [zBY, hlt])
 ·skip
  repeat' first | (with_reducible first | refine zA ?_ | refine zB ?_ | refine zb ?_ | refine zF ?_ | refine zJ ?_) | ((with_reducible refine And.intro ?_ ?_); · exact Sq) | ((with_reducible refine zC fun KC J hJ hKC => ?_); simp (maxSteps := 9999999) only [push_cast, seval, ↓reduceIte]) | ((with_reducible refine hJ _ _ ?_); clear hJ hKC KC J) | (refine zAa rfl (fun h => ?_) (fun h => ?_) <;> try simp only [decide_eq_true_eq, decide_eq_false_iff_not, Bool.not_eq_true', Bool.not_eq_false', beq_iff_eq, bne_iff_ne, ne_eq, Bool.not_eq_true, Bool.or_eq_true, Bool.and_eq_true, Bool.or_eq_false_iff, Bool.and_eq_false_imp, beq_eq_false_iff_ne, bne_eq_false_iff_eq] at h)
  ·refine zD ?_
   simp (maxSteps := 9999999) only [push_cast, seval, ↓reduceIte, show Tryz.f275.results = #[(.tmp 4)] from rfl]
   exact zAk (by simp [zBY, hlt])
  ·omega
def zEC {α : Type} (p : α → Bool) (xs : List α) : Int := match xs.findIdx? p with | some i => i | none => -1
theorem zCz {α : Type} {p : α → Bool} {xs : List α} {i : Nat} (h : i < xs.length) (hp : p xs[i] = true) (hn : ∀ (j : Nat) (hj : j < xs.length), j < i → p xs[j] = false) : zEC p xs = i := by
 have : xs.findIdx? p = some i := by
  rw [List.findIdx?_eq_some_iff_getElem]
  exact ⟨h, hp, fun j hj => by rw [hn j (by omega) hj]; simp⟩
 simp [zEC, this]
theorem zBj {α : Type} {p : α → Bool} {xs : List α} (hn : ∀ (j : Nat) (hj : j < xs.length), p xs[j] = false) : zEC p xs = -1 := by
 have : xs.findIdx? p = none := by
  rw [List.findIdx?_eq_none_iff]
  intro x hx
  obtain ⟨j, hj, rfl⟩ := List.mem_iff_getElem.1 hx
  exact hn j hj
 simp [zEC, this]
theorem zEL {α : Type} {p : α → Bool} {xs : List α} : decide (0 ≤ zEC p xs) = xs.any p := by
 unfold zEC
 cases h : xs.findIdx? p with
 | none =>
  rw [List.findIdx?_eq_none_iff] at h
  have : xs.any p = false := by rw [List.any_eq_false]; intro x hx; rw [h x hx]; simp
  simp [this]
 | some i =>
  rw [List.findIdx?_eq_some_iff_getElem] at h
  obtain ⟨h1, h2, _⟩ := h
  have : xs.any p = true := List.any_eq_true.2 ⟨_, List.getElem_mem h1, h2⟩
  simp [this]
theorem zSc (b : ByteArray) (i : Nat) (r : List UInt8) : ByteArray.toList.loop b i r = r.reverse ++ b.data.toList.drop i := by
 fun_induction ByteArray.toList.loop b i r with
 | case1 i r h ih =>
  rw [ih]
  have hi : i < b.data.toList.length := by simpa using h
  rw [List.drop_eq_getElem_cons hi]
  have : b.get! i = b.data.toList[i] := by
   simp [ByteArray.get!]
   rw [getElem!_pos]
  simp [this]
 | case2 i r h =>
  have : b.data.toList.length ≤ i := by simpa using h
  rw [List.drop_eq_nil_of_le this]; simp
theorem zKl (b : ByteArray) : b.toList = b.data.toList := by
 unfold ByteArray.toList
 rw [zSc]; simp
@[push_cast] theorem zVi {a b : ByteArray} : (a.toList == b.toList) = decide (a = b) := by
 rw [zKl, zKl, Bool.eq_iff_iff]
 simp
 constructor
 ·intro h; cases a; cases b; simp_all
 ·intro h; rw [h]
theorem zGk {n : Int} (h0 : 0 ≤ n) (h : n < 4294967296) : IntKind.u32.wrap n = n := by
 simp [IntKind.wrap, IntKind.signed, IntKind.bits, BitVec.toNat_ofInt]
 omega
theorem zRg {a b : Nat} (h : a < 2 ^ 32) : zTb .u32 (a : Int) (b : Int) = ((a >>> b : Nat) : Int) := by
 show (a : Int).fdiv (2 ^ min (b : Int).toNat 32) = _
 rw [Int.toNat_natCast, Int.fdiv_eq_ediv_of_nonneg _ (Int.pow_nonneg (by decide)), Nat.shiftRight_eq_div_pow]
 rcases Nat.le_total b 32 with hb | hb
 ·rw [Nat.min_eq_left hb]; simp
 ·rw [Nat.min_eq_right hb]
  have h1 : a / 2 ^ b = 0 := Nat.div_eq_of_lt (Nat.lt_of_lt_of_le h (Nat.pow_le_pow_right (by decide) hb))
  have h2 : (a : Int) / 2 ^ 32 = ((a / 2 ^ 32 : Nat) : Int) := by simp
  rw [h1, h2, Nat.div_eq_of_lt h]
theorem zHW {a : Nat} (h : a < 2 ^ 32) : (BitVec.ofInt 32 (a : Int)).toNat = a := by
 rw [BitVec.toNat_ofInt]
 have : ((a : Int) % ((2 ^ 32 : Nat) : Int)).toNat = a % 2 ^ 32 := by omega
 rw [this, Nat.mod_eq_of_lt h]
theorem zOe {a b : Nat} (ha : a < 2 ^ 32) (hb : b < 2 ^ 32) : zDx .and .u32 (a : Int) (b : Int) = ((a &&& b : Nat) : Int) := by
 show IntKind.u32.wrap ((BitVec.ofInt 32 (a : Int) &&& BitVec.ofInt 32 (b : Int)).toNat : Int) = _
 rw [BitVec.toNat_and, zHW ha, zHW hb]
 have : a &&& b ≤ a := Nat.and_le_left
 exact zGk (by omega) (by omega)
theorem zUR {a b : Nat} (ha : a < 2 ^ 32) (hb : b < 2 ^ 32) : zDx .or .u32 (a : Int) (b : Int) = ((a ||| b : Nat) : Int) := by
 show IntKind.u32.wrap ((BitVec.ofInt 32 (a : Int) ||| BitVec.ofInt 32 (b : Int)).toNat : Int) = _
 rw [BitVec.toNat_or, zHW ha, zHW hb]
 have : a ||| b < 2 ^ 32 := Nat.or_lt_two_pow ha hb
 exact zGk (by omega) (by omega)
def anB (a b : Nat) : Nat := a &&& (4294967295 - b)
theorem zUQ {a b : Nat} (ha : a < 2 ^ 32) : anB a b < 2 ^ 32 := Nat.lt_of_le_of_lt Nat.and_le_left ha
theorem zUy {a b : Nat} (ha : a < 2 ^ 32) (hb : b < 2 ^ 32) : zDx .andNot .u32 (a : Int) (b : Int) = ((anB a b : Nat) : Int) := by
 show IntKind.u32.wrap ((BitVec.ofInt 32 (a : Int) &&& ~~~ BitVec.ofInt 32 (b : Int)).toNat : Int) = _
 rw [BitVec.toNat_and, BitVec.toNat_not, zHW ha, zHW hb]
 have := zUQ (a := a) (b := b) ha
 rw [show a &&& 2 ^ 32 - 1 - b = anB a b from rfl]
 exact zGk (by omega) (by omega)
theorem zOl {a b : Nat} (ha : a < 2 ^ 32) (hb : b < 2 ^ 32) (i : Nat) : (anB a b).testBit i = (a.testBit i && !b.testBit i) := by
 unfold anB
 rw [Nat.testBit_and]
 have h1 : 4294967295 - b = 2 ^ 32 - (b + 1) := by omega
 rw [h1, Nat.testBit_two_pow_sub_succ hb]
 by_cases hi : i < 32
 ·simp [hi]
 ·have : a.testBit i = false := Nat.testBit_lt_two_pow (Nat.lt_of_lt_of_le ha (Nat.pow_le_pow_right (by decide) (by omega)))
  simp [this]
theorem zMq {a b : Nat} (ha : a < 2 ^ 32) (hb : b < 2 ^ 32) : anB a b = 0 ↔ ∀ i, a.testBit i = true → b.testBit i = true := by
 constructor
 ·intro h i hi
  have := zOl ha hb i
  rw [h, hi] at this
  simpa using this
 ·intro h
  refine Nat.eq_of_testBit_eq fun i => ?_
  rw [zOl ha hb, Nat.zero_testBit]
  cases hi : a.testBit i with
  | false => rfl
  | true => rw [h i hi]; rfl
theorem zTd {a b : Nat} (ha : a ≤ 1) (hb : b < 32) : zTt .u32 (a : Int) (b : Int) = ((a <<< b : Nat) : Int) := by
 show IntKind.u32.wrap ((a : Int) * 2 ^ min (b : Int).toNat 32) = _
 rw [Int.toNat_natCast, Nat.min_eq_left (by omega), Nat.shiftLeft_eq]
 have h2 : 2 ^ b ≤ 2 ^ 31 := Nat.pow_le_pow_right (by decide) (by omega)
 have h3 : a * 2 ^ b ≤ 2 ^ 31 := Nat.le_trans (Nat.mul_le_mul_right _ ha) (by omega)
 have h4 : (a : Int) * 2 ^ b = ((a * 2 ^ b : Nat) : Int) := by simp
 rw [h4]
 exact zGk (by omega) (by omega)
theorem zOu (a b : Nat) : (a >>> b) &&& 1 = if a.testBit b then 1 else 0 := by
 rw [Nat.and_one_is_mod, Nat.testBit_eq_decide_div_mod_eq, Nat.shiftRight_eq_div_pow]
 have := Nat.mod_two_eq_zero_or_one (a / 2 ^ b)
 rcases this with h | h <;> simp [h]
def uv (n : Nat) : Int := n
theorem zLN {a b : Nat} (h : a < 2 ^ 32) : zTb .u32 (uv a) (b : Int) = uv (a >>> b) := zRg h
theorem zRk {a b : Nat} (ha : a < 2 ^ 32) (hb : b < 2 ^ 32) : zDx .and .u32 (uv a) (uv b) = uv (a &&& b) := zOe ha hb
theorem zOy {a : Nat} (ha : a < 2 ^ 32) : zDx .and .u32 (uv a) 1 = uv (a &&& 1) := zOe (b := 1) ha (by decide)
theorem zVI {a b : Nat} (ha : a < 2 ^ 32) (hb : b < 2 ^ 32) : zDx .or .u32 (uv a) (uv b) = uv (a ||| b) := zUR ha hb
theorem zVU {a b : Nat} (ha : a < 2 ^ 32) (hb : b < 2 ^ 32) : zDx .andNot .u32 (uv a) (uv b) = uv (anB a b) := zUy ha hb
theorem zUc {a b : Nat} (ha : a ≤ 1) (hb : b < 32) : zTt .u32 (uv a) (b : Int) = uv (a <<< b) := zTd ha hb
@[push_cast] theorem zOa {a b : Nat} : (uv a == uv b) = decide (a = b) := by rw [Bool.eq_iff_iff]; simp [uv]; omega
@[push_cast] theorem zUw {a b : Nat} : (uv a != uv b) = !decide (a = b) := by rw [bne, zOa]
@[push_cast] theorem zVd {a : Nat} : (uv a == 1) = decide (a = 1) := zOa (b := 1)
@[push_cast] theorem zVe {a : Nat} : (uv a == 0) = decide (a = 0) := zOa (b := 0)
@[push_cast] theorem zVc {a : Nat} : (uv a != 0) = !decide (a = 0) := zUw (b := 0)
@[push_cast] theorem zVq {a : Nat} : (0 < uv a) ↔ (0 < a) := by show 0 < (a : Int) ↔ _; omega
def zR (l : List Nat) : List (List D) := l.map fun (n : Nat) => [.v (.int .u32 (uv n))]
def zS (l : List ByteArray) : List (List D) := l.map fun s => [.v (.string s)]
@[push_cast] theorem zSY (l : List Nat) : (zR l).length = l.length := by simp [zR]
@[push_cast] theorem zSV (l : List ByteArray) : (zS l).length = l.length := by simp [zS]
@[push_cast] theorem zUU (l : List Nat) (a b : Nat) : sub (zR l) a b = zR ((l.take b).drop a) := by simp [zR, zEd]
@[push_cast] theorem zUe (l : List ByteArray) (a b : Nat) : sub (zS l) a b = zS ((l.take b).drop a) := by simp [zS, zEd]
theorem zBy {l : List Nat} {n : Nat} {x : Nat} (h : l[n]? = some x) : zFk (zR l) n = [.v (.int .u32 (uv x))] := by unfold zR; exact zBs _ _ _ _ h
theorem zDd {l : List ByteArray} {n : Nat} {x : ByteArray} (h : l[n]? = some x) : zFk (zS l) n = [.v (.string x)] := by unfold zS; exact zBs _ _ _ _ h
theorem zDy {α : Type} {l : List α} {n : Nat} (d : α) (h : n < l.length) : l[n]? = some (l.getD n d) := by rw [List.getD_eq_getElem?_getD, List.getElem?_eq_getElem h]; rfl
def zGg (s : ByteArray) : Bool := decide (1 ≤ s.size ∧ s.size ≤ 12 ∧ ∀ i, i < s.size → 97 ≤ zCq s i ∧ zCq s i ≤ 122)
theorem zKy {s : ByteArray} {i : Nat} (h : i < s.size) (hb : zCq s i < 97 ∨ 122 < zCq s i) : zGg s = false := by
 cases hc : zGg s with
 | false => rfl
 | true => simp only [zGg, decide_eq_true_eq] at hc; have := hc.2.2 i h; omega
theorem zRl {s : ByteArray} : s.size = 0 ↔ s = { data := #[] } := by
 cases s with
 | mk d => simp [ByteArray.size]
theorem zII (s : ByteArray) (hb : s.size ≤ 9223372036854775807) : Fn Tryz.prog 281 [.v (.string s)] [] (.v (.bool (zGg s))) [] := by
 refine Fn.of (fn := Tryz.f281) (by kernel_rfl) rfl (by kernel_rfl) ⟨[.v (.string s), .v undef, .v undef, .v undef, .v undef, .v undef, .v undef, .v undef, .v undef, .v undef, .v undef, .v undef, .v undef, .v undef, .v undef, .v undef, .v undef, .v undef, .v undef, .v undef, .v undef, .v undef, .v undef, .v undef, .v undef, .v undef, .v undef], []⟩ rfl ?_
 repeat' first | (with_reducible first | refine zA ?_ | refine zB ?_ | refine zH ?_) | ((with_reducible refine zC fun KC J hJ hKC => ?_); simp (maxSteps := 9999999) only [push_cast, seval, ↓reduceIte]) | ((with_reducible refine hJ _ _ ?_); clear hJ hKC KC J)
 refine zAI (γ := {i : Nat // i ≤ s.size ∧ ∀ j, j < i → 97 ≤ zCq s j ∧ zCq s j ≤ 122}) (fun i => ⟨[.v (.string s), .any, .any, .any, .any, .v (.int .i64 s.size), .v (.int .i64 i.1), .any, .any, .any, .any, .any, .any, .any, .any, .any, .any, .any, .any, .any, .any, .any, .any, .any, .any, .any, .any], []⟩) (fun i => s.size - i.1) ⟨0, by simp⟩ ⟨?_, Fq⟩ ?_
 ·exact Lq
 ·rintro ⟨i, hi, hn⟩
  by_cases hlt : (i : Int) < (s.size : Int)
  ·by_cases h1 : zCq s i < 97
   ·skip
    repeat' first | (with_reducible first | refine zA ?_ | refine zB ?_ | refine zb ?_ | refine zAD ?_ | refine zF ?_ | refine zJ ?_ | refine zH ?_) | ((with_reducible refine And.intro ?_ ?_); · exact Sq) | ((with_reducible refine zC fun KC J hJ hKC => ?_); simp (maxSteps := 9999999) only [push_cast, seval, ↓reduceIte, hlt, h1]) | ((with_reducible refine hJ _ _ ?_); clear hJ hKC KC J) | ((with_reducible refine zG ?_ ?_); · rfl)
    refine zD ?_
    simp (maxSteps := 9999999) only [push_cast, seval, ↓reduceIte, show Tryz.f281.results = #[(.tmp 2)] from rfl]
    rw [zKy (by omega) (.inl h1)]
    exact zL _
   by_cases h2 : 122 < zCq s i
   ·skip
    repeat' first | (with_reducible first | refine zA ?_ | refine zB ?_ | refine zb ?_ | refine zAD ?_ | refine zF ?_ | refine zJ ?_ | refine zH ?_) | ((with_reducible refine And.intro ?_ ?_); · exact Sq) | ((with_reducible refine zC fun KC J hJ hKC => ?_); simp (maxSteps := 9999999) only [push_cast, seval, ↓reduceIte, hlt, h1, h2]) | ((with_reducible refine hJ _ _ ?_); clear hJ hKC KC J) | ((with_reducible refine zG ?_ ?_); · rfl)
    refine zD ?_
    simp (maxSteps := 9999999) only [push_cast, seval, ↓reduceIte, show Tryz.f281.results = #[(.tmp 2)] from rfl]
    rw [zKy (by omega) (.inr h2)]
    exact zL _
   repeat' first | (with_reducible first | refine zA ?_ | refine zB ?_ | refine zP ?_ | refine zJ ?_ | refine zH ?_) | ((with_reducible refine And.intro ?_ ?_); · exact Sq) | ((with_reducible refine zC fun KC J hJ hKC => ?_); simp (maxSteps := 9999999) only [push_cast, seval, ↓reduceIte, hlt, h1, h2, zo (i := i) (n := s.size) (by omega) hb]) | ((with_reducible refine hJ _ _ ?_); clear hJ hKC KC J) | ((with_reducible refine zG ?_ ?_); · rfl) | ((with_reducible refine zI ?_ ?_); · rfl)
   refine ⟨⟨i + 1, by omega, fun j hj => ?_⟩, by simp only; omega, ?_, Fq⟩
   ·by_cases he : j = i
    ·subst he; omega
    ·exact hn j (by omega)
   ·exact Lq
  ·have hall : ∀ j, j < s.size → 97 ≤ zCq s j ∧ zCq s j ≤ 122 := fun j hj => hn j (by omega)
   have he := @zRl s
   by_cases h0 : s = { data := #[] }
   ·have h0' := he.2 h0
    have hd : decide (s = { data := #[] }) = true := by simp [h0]
    repeat' first | (with_reducible first | refine zA ?_ | refine zB ?_ | refine zm ?_ | refine zl ?_ | refine zF ?_ | refine zZ ?_) | ((with_reducible refine zC fun KC J hJ hKC => ?_); simp (maxSteps := 9999999) only [push_cast, seval, ↓reduceIte, hlt, hd]) | ((with_reducible refine hJ _ _ ?_); clear hJ hKC KC J) | ((with_reducible refine zI ?_ ?_); · rfl)
    refine zD ?_
    simp (maxSteps := 9999999) only [push_cast, seval, ↓reduceIte, show Tryz.f281.results = #[(.tmp 2)] from rfl]
    refine zAk (congrArg Value.bool (Bool.eq_iff_iff.2 ?_))
    simp only [zGg, decide_eq_true_eq, Bool.false_eq_true, false_iff]
    omega
   ·have h1 : 1 ≤ s.size := Nat.one_le_iff_ne_zero.2 fun h => h0 (he.1 h)
    have hd : decide (s = { data := #[] }) = false := by simp [h0]
    repeat' first | (with_reducible first | refine zA ?_ | refine zB ?_ | refine zm ?_ | refine zl ?_ | refine zF ?_ | refine zZ ?_) | ((with_reducible refine zC fun KC J hJ hKC => ?_); simp (maxSteps := 9999999) only [push_cast, seval, ↓reduceIte, hlt, hd]) | ((with_reducible refine hJ _ _ ?_); clear hJ hKC KC J) | ((with_reducible refine zI ?_ ?_); · rfl)
    refine zD ?_
    simp (maxSteps := 9999999) only [push_cast, seval, ↓reduceIte, show Tryz.f281.results = #[(.tmp 2)] from rfl]
    refine zAk (congrArg Value.bool (Bool.eq_iff_iff.2 ?_))
    simp only [zGg, decide_eq_true_eq]
    exact ⟨fun h => ⟨h1, by omega, hall⟩, fun h => by omega⟩
theorem zMu (f : Bool) (xs : List ByteArray) (s : ByteArray) (hb : xs.length ≤ 9223372036854775807) : Fn Tryz.prog 294 [.sl f 1 (zS xs), .v (.string s)] [] (.v (.int .i64 (zEC (fun x => decide (s = x)) xs))) [] := by
 refine Fn.of (fn := Tryz.f294) (by kernel_rfl) rfl (by kernel_rfl) ⟨[.sl f 1 (zS xs), .v (.string s), .v undef, .v undef, .v undef, .v undef, .v undef, .v undef, .v undef, .v undef, .v undef, .v undef, .v undef, .v undef, .v undef, .v undef, .v undef, .v undef, .v undef], []⟩ rfl ?_
 repeat' first | (with_reducible first | refine zA ?_ | refine zB ?_ | refine zH ?_) | ((with_reducible refine zC fun KC J hJ hKC => ?_); simp (maxSteps := 9999999) only [push_cast, seval, ↓reduceIte]) | ((with_reducible refine hJ _ _ ?_); clear hJ hKC KC J)
 refine zAI (γ := {i : Nat // i ≤ xs.length ∧ ∀ (j : Nat) (hj : j < xs.length), j < i → decide (s = xs[j]) = false}) (fun i => ⟨[.sl f 1 (zS xs), .v (.string s), .any, .any, .any, .any, .any, .v (.int .i64 xs.length), .v (.int .i64 i.1), .any, .any, .any, .any, .any, .any, .any, .any, .any, .any], []⟩) (fun i => xs.length - i.1) ⟨0, by simp⟩ ⟨?_, Fq⟩ ?_
 ·exact Lq
 ·rintro ⟨i, hi, hn⟩
  by_cases hlt : (i : Int) < (xs.length : Int)
  ·have hx : xs[i]? = some xs[i] := List.getElem?_eq_getElem (by omega)
   repeat' first | (with_reducible first | refine zA ?_ | refine zB ?_ | refine zb ?_ | refine zP ?_ | refine zAD ?_ | refine zF ?_ | refine zJ ?_ | refine zH ?_) | ((with_reducible refine And.intro ?_ ?_); · exact Sq) | ((with_reducible refine zC fun KC J hJ hKC => ?_); simp (maxSteps := 9999999) only [push_cast, seval, ↓reduceIte, hlt, zDd hx, zo (i := i) (n := xs.length) (by omega) hb]) | ((with_reducible refine hJ _ _ ?_); clear hJ hKC KC J) | ((with_reducible refine zG ?_ ?_); · rfl) | (refine zAa rfl (fun h => ?_) (fun h => ?_) <;> try simp only [decide_eq_true_eq, decide_eq_false_iff_not, Bool.not_eq_true', Bool.not_eq_false', beq_iff_eq, bne_iff_ne, ne_eq, Bool.not_eq_true, Bool.or_eq_true, Bool.and_eq_true, Bool.or_eq_false_iff, Bool.and_eq_false_imp, beq_eq_false_iff_ne, bne_eq_false_iff_eq] at h)
   ·refine zD ?_
    simp (maxSteps := 9999999) only [push_cast, seval, ↓reduceIte, show Tryz.f294.results = #[(.tmp 4)] from rfl]
    exact zAk (by rw [zCz (by omega) (by simpa using h) hn])
   ·refine ⟨⟨i + 1, by omega, fun j hj hji => ?_⟩, by simp only; omega, ?_, Fq⟩
    ·by_cases he : j = i
     ·subst he; simpa using h
     ·exact hn j hj (by omega)
    ·exact Lq
  ·skip
   repeat' first | (with_reducible first | refine zA ?_ | refine zB ?_ | refine zm ?_ | refine zl ?_ | refine zF ?_ | refine zZ ?_) | ((with_reducible refine zC fun KC J hJ hKC => ?_); simp (maxSteps := 9999999) only [push_cast, seval, ↓reduceIte, hlt]) | ((with_reducible refine hJ _ _ ?_); clear hJ hKC KC J) | ((with_reducible refine zI ?_ ?_); · rfl)
   refine zD ?_
   simp (maxSteps := 9999999) only [push_cast, seval, ↓reduceIte, show Tryz.f294.results = #[(.tmp 4)] from rfl]
   exact zAk (by rw [zBj (fun j hj => hn j hj (by omega))])
def zTe (s : ByteArray) (xs : List ByteArray) : Bool := xs.any (fun x => decide (s = x))
theorem zDq (f : Bool) (xs : List ByteArray) (s : ByteArray) (hb : xs.length ≤ 9223372036854775807) : Fn Tryz.prog 282 [.sl f 1 (zS xs), .v (.string s)] [] (.v (.bool (zTe s xs))) [] := by
 refine Fn.of (fn := Tryz.f282) (by kernel_rfl) rfl (by kernel_rfl) ⟨[.sl f 1 (zS xs), .v (.string s), .v undef, .v undef, .v undef, .v undef, .v undef, .v undef, .v undef], []⟩ rfl ?_
 repeat' first | (with_reducible first | refine zA ?_ | refine zB ?_ | refine zF ?_) | ((first | with_reducible refine zC fun KC J hJ hKC => ?_ | (refine' hKC _ _ _ _ _ (zE (zMu _ _ _ ?_) rfl rfl rfl ?_ ?_); (rotate_left 4); (· exact Lq); (rotate_left 1); (iterate 1 (· exact Hq)))); simp (maxSteps := 9999999) only [push_cast, seval, ↓reduceIte]) | ((with_reducible refine hJ _ _ ?_); clear hJ hKC KC J)
 refine zD ?_
 simp (maxSteps := 9999999) only [push_cast, seval, ↓reduceIte, show Tryz.f282.results = #[(.tmp 4)] from rfl]
 exact zAk (congrArg Value.bool zEL)
def fl (us : List Nat) (a b : Nat) : Bool := (us.getD a 0).testBit b
def U32 (us : List Nat) : Prop := ∀ u ∈ us, u < 2 ^ 32
theorem U32.get {us : List Nat} (h : U32 us) {i : Nat} (hi : i < us.length) : us.getD i 0 < 2 ^ 32 := by
 rw [List.getD_eq_getElem?_getD, List.getElem?_eq_getElem hi]; exact h _ (List.getElem_mem _)
theorem zDD (f g : Bool) (ns : List ByteArray) (us : List Nat) (a b : Nat) (hu : U32 us) (ha : a < us.length) :
  Fn Tryz.prog 272 [.agg [.sl f 1 (zS ns), .sl g 1 (zR us)], .v (.int .i64 (a : Int)), .v (.int .i64 (b : Int))] [] (.v (.bool (fl us a b))) [] := by
 have hx := zDy 0 ha
 have h1 : us.getD a 0 >>> b < 2 ^ 32 := Nat.lt_of_le_of_lt (Nat.shiftRight_le _ _) (hu.get ha)
 refine Fn.of (fn := Tryz.f272) (by kernel_rfl) rfl (by kernel_rfl) ⟨[.agg [.sl f 1 (zS ns), .sl g 1 (zR us)], .v (.int .i64 (a : Int)), .v (.int .i64 (b : Int)), .v undef, .v undef, .v undef, .v undef, .v undef, .v undef, .v undef, .v undef, .v undef, .v undef, .v undef, .v undef, .v undef], []⟩ rfl ?_
 repeat' first | (with_reducible first | refine zA ?_ | refine zB ?_ | refine zF ?_) | ((with_reducible refine And.intro ?_ ?_); · exact Sq) | ((with_reducible refine zC fun KC J hJ hKC => ?_); simp (maxSteps := 9999999) only [push_cast, seval, ↓reduceIte, zBy hx, zLN (hu.get ha) (b := b), zOy h1]) | ((with_reducible refine hJ _ _ ?_); clear hJ hKC KC J)
 refine zD ?_
 simp (maxSteps := 9999999) only [push_cast, seval, ↓reduceIte, show Tryz.f272.results = #[(.tmp 6)] from rfl]
 refine zAk (congrArg Value.bool ?_)
 rw [zOu, fl]
 cases (us.getD a 0).testBit b <;> rfl
def zFQ (ns : List ByteArray) (us : List Nat) (i : Nat) : Bool := zGg (ns.getD i { data := #[] }) && !zTe (ns.getD i { data := #[] }) (ns.take i) && decide (us.getD i 0 >>> us.length = 0)
def zGx (ns : List ByteArray) (us : List Nat) : Bool := decide (1 ≤ us.length ∧ us.length ≤ 8 ∧ ns.length = us.length) && (List.range us.length).all (zFQ ns us)
theorem zLV {ns : List ByteArray} {us : List Nat} (h : ¬ (1 ≤ us.length ∧ us.length ≤ 8 ∧ ns.length = us.length)) : zGx ns us = false := by simp [zGx, h]
theorem zLb {ns : List ByteArray} {us : List Nat} {i : Nat} (hi : i < us.length) (h : zFQ ns us i = false) : zGx ns us = false := by
 have : (List.range us.length).all (zFQ ns us) = false := by
  rw [List.all_eq_false]
  exact ⟨i, by simpa using hi, by simp [h]⟩
 simp [zGx, this]
theorem zRz {ns : List ByteArray} {us : List Nat} (h : 1 ≤ us.length ∧ us.length ≤ 8 ∧ ns.length = us.length) (ha : ∀ i, i < us.length → zFQ ns us i = true) : zGx ns us = true := by
 simp only [zGx, Bool.and_eq_true, decide_eq_true_eq, List.all_eq_true]
 exact ⟨h, fun i hi => ha i (by simpa using hi)⟩
theorem zGL {ns : List ByteArray} {us : List Nat} (h : zGx ns us = true) : (1 ≤ us.length ∧ us.length ≤ 8 ∧ ns.length = us.length) ∧ ∀ i, i < us.length → zFQ ns us i = true := by
 simp only [zGx, Bool.and_eq_true, decide_eq_true_eq, List.all_eq_true] at h
 exact ⟨h.1, fun i hi => h.2 i (by simpa using hi)⟩
def Szs (ns : List ByteArray) : Prop := ∀ s ∈ ns, s.size ≤ 9223372036854775807
theorem Szs.get {ns : List ByteArray} (h : Szs ns) {i : Nat} (hi : i < ns.length) : (ns.getD i { data := #[] }).size ≤ 9223372036854775807 := by
 rw [List.getD_eq_getElem?_getD, List.getElem?_eq_getElem hi]; exact h _ (List.getElem_mem _)
theorem zHN (f g : Bool) (ns : List ByteArray) (us : List Nat) (hs : Szs ns) (hu : U32 us) :
  Fn Tryz.prog 235 [.agg [.sl f 1 (zS ns), .sl g 1 (zR us)]] [] (.v (.bool (zGx ns us))) [] := by
 refine Fn.of (fn := Tryz.f235) (by kernel_rfl) rfl (by kernel_rfl) ⟨[.agg [.sl f 1 (zS ns), .sl g 1 (zR us)], .v undef, .v undef, .v undef, .v undef, .v undef, .v undef, .v undef, .v undef, .v undef, .v undef, .v undef, .v undef, .v undef, .v undef, .v undef, .v undef, .v undef, .v undef, .v undef, .v undef, .v undef, .v undef, .v undef, .v undef, .v undef, .v undef, .v undef, .v undef, .v undef, .v undef, .v undef, .v undef, .v undef, .v undef, .v undef, .v undef, .v undef, .v undef, .v undef, .v undef, .v undef, .v undef, .v undef, .v undef, .v undef, .v undef, .v undef, .v undef, .v undef, .v undef, .v undef], []⟩ rfl ?_
 by_cases h1 : (us.length : Int) < 1
 ·skip
  repeat' first | (with_reducible first | refine zA ?_ | refine zB ?_ | refine zb ?_ | refine zF ?_) | ((with_reducible refine zC fun KC J hJ hKC => ?_); simp (maxSteps := 9999999) only [push_cast, seval, ↓reduceIte, h1]) | ((with_reducible refine hJ _ _ ?_); clear hJ hKC KC J) | ((with_reducible refine zG ?_ ?_); · rfl)
  refine zD ?_
  simp (maxSteps := 9999999) only [push_cast, seval, ↓reduceIte, show Tryz.f235.results = #[(.tmp 2)] from rfl]
  rw [zLV (by omega)]
  exact zL _
 by_cases h2 : (8 : Int) < us.length
 ·skip
  repeat' first | (with_reducible first | refine zA ?_ | refine zB ?_ | refine zb ?_ | refine zF ?_) | ((with_reducible refine zC fun KC J hJ hKC => ?_); simp (maxSteps := 9999999) only [push_cast, seval, ↓reduceIte, h1, h2]) | ((with_reducible refine hJ _ _ ?_); clear hJ hKC KC J) | ((with_reducible refine zG ?_ ?_); · rfl)
  refine zD ?_
  simp (maxSteps := 9999999) only [push_cast, seval, ↓reduceIte, show Tryz.f235.results = #[(.tmp 2)] from rfl]
  rw [zLV (by omega)]
  exact zL _
 by_cases h3 : ns.length = us.length
 ·have h3' : ((ns.length : Int) != (us.length : Int)) = false := by simp [h3]
  repeat' first | (with_reducible first | refine zA ?_ | refine zB ?_ | refine zJ ?_ | refine zH ?_) | ((with_reducible refine zC fun KC J hJ hKC => ?_); simp (maxSteps := 9999999) only [push_cast, seval, ↓reduceIte, h1, h2, h3']) | ((with_reducible refine hJ _ _ ?_); clear hJ hKC KC J) | ((with_reducible refine zI ?_ ?_); · rfl)
  refine zAI (γ := {i : Nat // i ≤ us.length ∧ ∀ j, j < i → zFQ ns us j = true}) (fun i => ⟨[.any, .ptr 0 0 0, .any, .v (.int .i64 us.length), .any, .any, .any, .any, .any, .any, .any, .any, .any, .any, .any, .any, .any, .any, .any, .any, .any, .any, .any, .sl f 1 (zS ns), .v (.int .i64 ns.length), .v (.int .i64 i.1), .any, .any, .any, .any, .any, .any, .any, .any, .any, .any, .any, .any, .any, .any, .any, .any, .any, .any, .any, .any, .any, .any, .any, .any, .any, .any], [.ent ⟨0, none, 25, [.sl f 1 (zS ns), .sl g 1 (zR us)], .cells⟩]⟩) (fun i => us.length - i.1) ⟨0, by simp⟩ ⟨?_, Fq⟩ ?_
  ·exact Lq
  ·rintro ⟨i, hi, hn⟩
   by_cases hlt : (i : Int) < (ns.length : Int)
   ·have hlu : i < us.length := by omega
    have hx := zDy ({ data := #[] } : ByteArray) (show i < ns.length by omega)
    have hy := zDy 0 hlu
    have hsz := hs.get (show i < ns.length by omega)
    have hul := hu.get hlu
    by_cases c1 : zGg (ns.getD i { data := #[] }) = true
    ·by_cases c2 : zTe (ns.getD i { data := #[] }) (ns.take i) = true
     ·skip
      repeat' first | (with_reducible first | refine zA ?_ | refine zB ?_ | refine zb ?_ | refine zAD ?_ | refine zF ?_ | refine zJ ?_ | refine zH ?_) | ((with_reducible refine And.intro ?_ ?_); · exact Sq) | ((first | with_reducible refine zC fun KC J hJ hKC => ?_ | (refine' hKC _ _ _ _ _ (zE (zII _ ?_) rfl rfl rfl ?_ ?_); (rotate_left 2); (· exact Lq); (rotate_left 1); (iterate 1 (· exact Hq))) | (refine' hKC _ _ _ _ _ (zE (zDq _ _ _ ?_) rfl rfl rfl ?_ ?_); (rotate_left 4); (· exact Lq); (rotate_left 1); (iterate 1 (· exact Hq)))); simp (maxSteps := 9999999) only [push_cast, seval, ↓reduceIte, hlt, zDd hx, zBy hy, c1, c2]) | ((with_reducible refine hJ _ _ ?_); clear hJ hKC KC J) | ((with_reducible refine zG ?_ ?_); · rfl)
      refine zD ?_
      simp (maxSteps := 9999999) only [push_cast, seval, ↓reduceIte, show Tryz.f235.results = #[(.tmp 2)] from rfl]
      rw [zLb hlu (by simp only [zFQ, c1, c2]; rfl)]
      exact zL _
     have c2' : zTe (ns.getD i { data := #[] }) (ns.take i) = false := by simpa using c2
     by_cases c3 : us.getD i 0 >>> us.length = 0
     ·skip
      repeat' first | (with_reducible first | refine zA ?_ | refine zB ?_ | refine zP ?_ | refine zJ ?_ | refine zH ?_) | ((with_reducible refine And.intro ?_ ?_); · exact Sq) | ((first | with_reducible refine zC fun KC J hJ hKC => ?_ | (refine' hKC _ _ _ _ _ (zE (zII _ ?_) rfl rfl rfl ?_ ?_); (rotate_left 2); (· exact Lq); (rotate_left 1); (iterate 1 (· exact Hq))) | (refine' hKC _ _ _ _ _ (zE (zDq _ _ _ ?_) rfl rfl rfl ?_ ?_); (rotate_left 4); (· exact Lq); (rotate_left 1); (iterate 1 (· exact Hq)))); simp (maxSteps := 9999999) only [push_cast, seval, ↓reduceIte, hlt, zDd hx, zBy hy, c1, c2', zLN hul (b := us.length), c3, zo (i := i) (n := us.length) (by omega) (by omega)]) | ((with_reducible refine hJ _ _ ?_); clear hJ hKC KC J) | ((with_reducible refine zG ?_ ?_); · rfl) | ((with_reducible refine zI ?_ ?_); · rfl)
      refine ⟨⟨i + 1, by omega, fun j hj => ?_⟩, by simp only; omega, ?_, Fq⟩
      ·by_cases he : j = i
       ·subst he; simp only [zFQ, c1, c2', c3]; rfl
       ·exact hn j (by omega)
      ·exact Lq
     ·have c3' : decide (us.getD i 0 >>> us.length = 0) = false := by simpa using c3
      repeat' first | (with_reducible first | refine zA ?_ | refine zB ?_ | refine zb ?_ | refine zAD ?_ | refine zF ?_ | refine zJ ?_ | refine zH ?_) | ((with_reducible refine And.intro ?_ ?_); · exact Sq) | ((first | with_reducible refine zC fun KC J hJ hKC => ?_ | (refine' hKC _ _ _ _ _ (zE (zII _ ?_) rfl rfl rfl ?_ ?_); (rotate_left 2); (· exact Lq); (rotate_left 1); (iterate 1 (· exact Hq))) | (refine' hKC _ _ _ _ _ (zE (zDq _ _ _ ?_) rfl rfl rfl ?_ ?_); (rotate_left 4); (· exact Lq); (rotate_left 1); (iterate 1 (· exact Hq)))); simp (maxSteps := 9999999) only [push_cast, seval, ↓reduceIte, hlt, zDd hx, zBy hy, c1, c2', zLN hul (b := us.length), c3']) | ((with_reducible refine hJ _ _ ?_); clear hJ hKC KC J) | ((with_reducible refine zG ?_ ?_); · rfl)
      refine zD ?_
      simp (maxSteps := 9999999) only [push_cast, seval, ↓reduceIte, show Tryz.f235.results = #[(.tmp 2)] from rfl]
      rw [zLb hlu (by simp only [zFQ, c1, c2', c3']; rfl)]
      exact zL _
    ·have c1' : zGg (ns.getD i { data := #[] }) = false := by simpa using c1
     repeat' first | (with_reducible first | refine zA ?_ | refine zB ?_ | refine zb ?_ | refine zAD ?_ | refine zF ?_ | refine zJ ?_ | refine zH ?_) | ((with_reducible refine And.intro ?_ ?_); · exact Sq) | ((first | with_reducible refine zC fun KC J hJ hKC => ?_ | (refine' hKC _ _ _ _ _ (zE (zII _ ?_) rfl rfl rfl ?_ ?_); (rotate_left 2); (· exact Lq); (rotate_left 1); (iterate 1 (· exact Hq)))); simp (maxSteps := 9999999) only [push_cast, seval, ↓reduceIte, hlt, zDd hx, zBy hy, c1']) | ((with_reducible refine hJ _ _ ?_); clear hJ hKC KC J) | ((with_reducible refine zG ?_ ?_); · rfl)
     refine zD ?_
     simp (maxSteps := 9999999) only [push_cast, seval, ↓reduceIte, show Tryz.f235.results = #[(.tmp 2)] from rfl]
     rw [zLb hlu (by simp only [zFQ, c1']; rfl)]
     exact zL _
   ·skip
    repeat' first | (with_reducible first | refine zA ?_ | refine zB ?_ | refine zm ?_ | refine zl ?_ | refine zF ?_ | refine zZ ?_) | ((with_reducible refine zC fun KC J hJ hKC => ?_); simp (maxSteps := 9999999) only [push_cast, seval, ↓reduceIte, hlt]) | ((with_reducible refine hJ _ _ ?_); clear hJ hKC KC J) | ((with_reducible refine zI ?_ ?_); · rfl)
    refine zD ?_
    simp (maxSteps := 9999999) only [push_cast, seval, ↓reduceIte, show Tryz.f235.results = #[(.tmp 2)] from rfl]
    rw [zRz ⟨by omega, by omega, h3⟩ (fun j hj => hn j (by omega))]
    exact zL _
 ·have h3' : ((ns.length : Int) != (us.length : Int)) = true := by simp; omega
  repeat' first | (with_reducible first | refine zA ?_ | refine zB ?_ | refine zb ?_ | refine zF ?_) | ((with_reducible refine zC fun KC J hJ hKC => ?_); simp (maxSteps := 9999999) only [push_cast, seval, ↓reduceIte, h1, h2, h3']) | ((with_reducible refine hJ _ _ ?_); clear hJ hKC KC J) | ((with_reducible refine zG ?_ ?_); · rfl)
  refine zD ?_
  simp (maxSteps := 9999999) only [push_cast, seval, ↓reduceIte, show Tryz.f235.results = #[(.tmp 2)] from rfl]
  rw [zLV (by omega)]
  exact zL _
def Low (us : List Nat) : Prop := ∀ a, a < us.length → us.getD a 0 < 2 ^ us.length
theorem zNy {ns : List ByteArray} {us : List Nat} (h : zGx ns us = true) : Low us := fun a ha => by
 have := (zGL h).2 a ha
 simp only [zFQ, Bool.and_eq_true, decide_eq_true_eq] at this
 have h2 := this.2
 rw [Nat.shiftRight_eq_div_pow] at h2
 exact (Nat.div_eq_zero_iff_lt (Nat.two_pow_pos _)).1 h2
theorem Low.bit {us : List Nat} (h : Low us) {a : Nat} (ha : a < us.length) {i : Nat} (hi : fl us a i = true) : i < us.length := by
 rcases Nat.lt_or_ge i us.length with h1 | h1
 ·exact h1
 ·exfalso
  have : (us.getD a 0).testBit i = false := Nat.testBit_lt_two_pow (Nat.lt_of_lt_of_le (h a ha) (Nat.pow_le_pow_right (by decide) h1))
  rw [fl, this] at hi; cases hi
def Ord (us : List Nat) : Prop := (∀ a, a < us.length → fl us a a = true) ∧ (∀ a, a < us.length → ∀ b, b < us.length → ¬ a = b → ¬ (fl us a b = true ∧ fl us b a = true)) ∧
 (∀ a, a < us.length → ∀ b, b < us.length → ∀ c, c < us.length → fl us a b = true → fl us b c = true → fl us a c = true)
instance (us : List Nat) : Decidable (Ord us) := by unfold Ord; infer_instance
def zED (us : List Nat) (a b : Nat) : Bool := (if a = b then fl us a a else !(fl us a b && fl us b a)) && (!fl us a b || decide (anB (us.getD b 0) (us.getD a 0) = 0))
theorem zMk {us : List Nat} (hu : U32 us) (hl : Low us) : (∀ a, a < us.length → ∀ b, b < us.length → zED us a b = true) ↔ Ord us := by
 constructor
 ·intro h
  refine ⟨fun a ha => ?_, fun a ha b hb hab ⟨h1, h2⟩ => ?_, fun a ha b hb c hc h1 h2 => ?_⟩
  ·have := h a ha a ha
   simp only [zED, if_true, Bool.and_eq_true] at this
   exact this.1
  ·have := h a ha b hb
   simp only [zED, if_neg hab, h1, h2] at this
   simp at this
  ·have := h a ha b hb
   simp only [zED, h1, Bool.not_true, Bool.false_or, Bool.and_eq_true, decide_eq_true_eq] at this
   exact (zMq (hu.get hb) (hu.get ha)).1 this.2 c h2
 ·rintro ⟨h1, h2, h3⟩ a ha b hb
  simp only [zED, Bool.and_eq_true, Bool.or_eq_true, Bool.not_eq_true', decide_eq_true_eq]
  constructor
  ·split
   ·exact h1 a ha
   ·rename_i hab
    have := h2 a ha b hb hab
    cases hx : fl us a b with
    | false => rfl
    | true =>
     cases hy : fl us b a with
     | false => rfl
     | true => exact absurd ⟨hx, hy⟩ this
  ·cases hx : fl us a b with
   | false => exact .inl rfl
   | true => exact .inr ((zMq (hu.get hb) (hu.get ha)).2 fun i hi => h3 a ha b hb i (hl.bit hb hi) hx hi)
def zBp (us : List Nat) (a : Nat) : Nat → Nat
 | 0 => 0
 | i + 1 => zBp us a i ||| (((us.getD i 0 >>> a) &&& 1) <<< i)
theorem zKa (us : List Nat) (a : Nat) : ∀ (n j : Nat), (zBp us a n).testBit j = (decide (j < n) && fl us j a)
 | 0, j => by simp [zBp]
 | n + 1, j => by
  rw [zBp, Nat.testBit_or, zKa us a n j, zOu, Nat.testBit_shiftLeft]
  by_cases h : j = n
  ·subst h
   have e : decide (j < j) = false := by simp
   have e2 : decide (j < j + 1) = true := by simp
   rw [e, e2]
   simp only [Bool.false_and, Bool.false_or, Bool.true_and, fl, ge_iff_le, Nat.le_refl, decide_true, Nat.sub_self]
   cases (us.getD j 0).testBit a <;> simp
  ·by_cases h2 : j < n
   ·have e : decide (j < n) = true := by simp [h2]
    have e2 : decide (j < n + 1) = true := by simp; omega
    have e3 : decide (j ≥ n) = false := by simp; omega
    rw [e, e2, e3]; simp
   ·have e : decide (j < n) = false := by simp; omega
    have e2 : decide (j < n + 1) = false := by simp; omega
    rw [e, e2]
    simp only [Bool.false_and, Bool.false_or]
    have hj : j - n ≠ 0 := by omega
    split
    ·obtain ⟨m, hm⟩ := Nat.exists_eq_succ_of_ne_zero hj
     rw [hm, Nat.succ_eq_add_one, Nat.testBit_succ]
     simp
    ·simp
theorem zJj (us : List Nat) (a n : Nat) : zBp us a n < 2 ^ n := by
 refine Nat.lt_pow_two_of_testBit _ fun i hi => ?_
 rw [zKa]
 have : decide (i < n) = false := by simp; omega
 simp [this]
def zOh (us : List Nat) (a b : Nat) : Int := zEC (fun u => decide (u = us.getD a 0 &&& us.getD b 0)) us
def zOr (us : List Nat) (a b : Nat) : Int := zEC (fun i => decide (zBp us i us.length = (zBp us a us.length &&& zBp us b us.length))) (List.range us.length)
def Lat (us : List Nat) : Prop := ∀ a, a < us.length → ∀ b, b < us.length → 0 ≤ zOh us a b ∧ 0 ≤ zOr us a b
instance (us : List Nat) : Decidable (Lat us) := by unfold Lat; infer_instance
def zAB (ns : List ByteArray) (us : List Nat) : Int := if zGx ns us = true then if Ord us then if Lat us then 0 else 3 else 2 else 1
def pA (n k : Nat) : Nat := k / n
def pB (n k : Nat) : Nat := k % n
theorem zUD {n i j : Nat} (h : j < n) : pA n (i * n + j) = i := by
 unfold pA
 rw [Nat.mul_comm, Nat.mul_add_div (by omega), Nat.div_eq_of_lt h]; rfl
theorem zTx {n i j : Nat} (h : j < n) : pB n (i * n + j) = j := by
 unfold pB
 rw [Nat.mul_comm, Nat.mul_add_mod, Nat.mod_eq_of_lt h]
theorem zRJ {n k : Nat} (h : k < n * n) : pA n k < n := Nat.div_lt_of_lt_mul h
theorem zRZ {n k : Nat} (h : k < n * n) : pB n k < n := Nat.mod_lt _ (Nat.pos_of_ne_zero fun h0 => by subst h0; simp at h)
theorem zFU {n : Nat} {p : Nat → Nat → Prop} : (∀ k, k < n * n → p (pA n k) (pB n k)) ↔ ∀ a, a < n → ∀ b, b < n → p a b := by
 constructor
 ·intro h a ha b hb
  have h1 : a * n + b < n * n := Nat.lt_of_lt_of_le (Nat.add_lt_add_left hb _) (by rw [← Nat.succ_mul]; exact Nat.mul_le_mul_right _ ha)
  have := h _ h1
  rw [zUD hb, zTx hb] at this
  exact this
 ·exact fun h k hk => h _ (zRJ hk) _ (zRZ hk)
theorem zMc (n : Nat) : Fn Tryz.prog 237 [.v (.int .i64 (n : Int))] [] (.fn 283 [.fad [.v (.int .i64 (n : Int))]]) [] := by
 refine Fn.of (fn := Tryz.f237) (by kernel_rfl) rfl (by kernel_rfl) ⟨[.v (.int .i64 (n : Int)), .v undef, .v undef, .v undef], []⟩ rfl ?_
 repeat' first | (with_reducible first | refine zA ?_ | refine zB ?_) | ((with_reducible refine zC fun KC J hJ hKC => ?_); simp (maxSteps := 9999999) only [push_cast, seval, ↓reduceIte]) | ((with_reducible refine hJ _ _ ?_); clear hJ hKC KC J)
 refine zAf 0 rfl (by simp (maxSteps := 9999999) only [push_cast, seval, ↓reduceIte]) ?_
 simp (maxSteps := 9999999) only [push_cast, seval, ↓reduceIte, zAK, zh, fr3, fr2, fr1, fr0, zp, zn]
 refine zF ?_
 refine zD ?_
 simp (maxSteps := 9999999) only [push_cast, seval, ↓reduceIte, show Tryz.f237.results = #[(.tmp 2)] from rfl]
 exact Lq
theorem zMM (n : Nat) (hl : n ≤ 1000) :
  zTI Tryz.prog 283 [.fad [.v (.int .i64 (n : Int))]] (n * n) (fun k => [.v (.int .i64 ((pA n k : Nat) : Int)), .v (.int .i64 ((pB n k : Nat) : Int))]) := by
 intro m inv ok frr rr hrec hcl hlen hy t ht
 refine Fn.of (fn := Tryz.f283) (by kernel_rfl) rfl (by kernel_rfl) ⟨[.kref false m 0, .fad [.v (.int .i64 (n : Int))], .v undef, .v undef, .v undef, .v undef, .v undef, .v undef, .v undef, .v undef, .v undef, .v undef, .v undef, .v undef, .v undef, .v undef, .v undef, .v undef, .v undef, .v undef], inv 0⟩ rfl ?_
 repeat' first | (with_reducible first | refine zA ?_ | refine zB ?_ | refine zH ?_) | ((with_reducible refine zC fun KC J hJ hKC => ?_); simp (maxSteps := 9999999) only [push_cast, seval, ↓reduceIte]) | ((with_reducible refine hJ _ _ ?_); clear hJ hKC KC J)
 refine zAI (γ := {i : Nat // i ≤ n ∧ ∀ k, k < i * n → ok k = true}) (fun i => ⟨[.kref false m 0, .fad [.v (.int .i64 (n : Int))], .any, .any, .any, .v (.int .i64 (n : Int)), .v (.int .i64 i.1), .any, .any, .any, .any, .any, .any, .any, .any, .any, .any, .any, .any, .any], inv (i.1 * n)⟩) (fun i => n - i.1) ⟨0, by simp⟩ ⟨?_, ?_⟩ ?_
 ·exact Lq
 ·simp only [Nat.zero_mul]; exact Fq
 ·rintro ⟨i, hi, hok⟩
  by_cases hlt : (i : Int) < (n : Int)
  ·skip
   repeat' first | (with_reducible first | refine zA ?_ | refine zB ?_ | refine zJ ?_ | refine zH ?_) | ((with_reducible refine zC fun KC J hJ hKC => ?_); simp (maxSteps := 9999999) only [push_cast, seval, ↓reduceIte, hlt]) | ((with_reducible refine hJ _ _ ?_); clear hJ hKC KC J) | ((with_reducible refine zG ?_ ?_); · rfl)
   refine zAI (γ := {j : Nat // j ≤ n ∧ ∀ k, k < i * n + j → ok k = true}) (fun j => ⟨[.kref false m 0, .fad [.v (.int .i64 (n : Int))], .any, .v (.int .i64 i), .any, .v (.int .i64 (n : Int)), .v (.int .i64 i), .any, .any, .v (.int .i64 (n : Int)), .v (.int .i64 j.1), .any, .any, .any, .any, .any, .any, .any, .any, .any], inv (i * n + j.1)⟩) (fun j => n - j.1) ⟨0, by simpa using hok⟩ ⟨?_, ?_⟩ ?_
   ·exact Lq
   ·exact Fq
   ·rintro ⟨j, hj, hokj⟩
    by_cases hlj : (j : Int) < (n : Int)
    ·have hjn : j < n := by omega
     have hin : i < n := by omega
     have hk : i * n + j < n * n := Nat.lt_of_lt_of_le (Nat.add_lt_add_left hjn _) (by rw [← Nat.succ_mul]; exact Nat.mul_le_mul_right _ hin)
     have hyi := hy (i * n + j) hk hokj
     simp only [zUD hjn, zTx hjn] at hyi
     have hL : (inv (i * n + j + 1)).length = (inv (i * n + j)).length := by rw [hlen, hlen]
     have hset := zFf (rest := [Slot.free]) hL
     obtain ⟨k, hkk⟩ : ∃ k, i * n + j = k := ⟨_, rfl⟩
     have hkk1 : i * n + (j + 1) = k + 1 := by omega
     rw [hkk] at hyi hL hset hk hokj
     cases hoki : ok k with
     | true =>
      rw [hoki] at hyi
      repeat' first | (with_reducible first | refine zA ?_ | refine zB ?_ | refine zP ?_ | refine zJ ?_ | refine zH ?_) | ((first | with_reducible refine zC fun KC J hJ hKC => ?_ | (refine hKC _ _ _ _ _ (zOq hyi (hrec k) (hcl k) (hcl (k + 1)) hL rfl (Nat.le_refl _) rfl rfl rfl rfl ?_))); simp (maxSteps := 9999999) only [push_cast, seval, ↓reduceIte, hlj, hkk, hset, zo (i := j) (n := n) (by omega) (by omega)]) | ((with_reducible refine hJ _ _ ?_); clear hJ hKC KC J) | ((with_reducible refine zG ?_ ?_); · rfl) | ((with_reducible refine zI ?_ ?_); · rfl)
      refine ⟨⟨j + 1, by omega, fun q hq => ?_⟩, by simp only; omega, ?_, ?_⟩
      ·by_cases he : q = k
       ·rw [he]; exact hoki
       ·exact hokj q (by omega)
      ·exact Lq
      ·simp only [hkk1]; exact Fq
     | false =>
      rw [hoki] at hyi
      repeat' first | (with_reducible first | refine zA ?_ | refine zB ?_ | refine zb ?_ | refine zAD ?_ | refine zF ?_ | refine zJ ?_ | refine zH ?_) | ((first | with_reducible refine zC fun KC J hJ hKC => ?_ | (refine hKC _ _ _ _ _ (zOq hyi (hrec k) (hcl k) (hcl (k + 1)) hL rfl (Nat.le_refl _) rfl rfl rfl rfl ?_))); simp (maxSteps := 9999999) only [push_cast, seval, ↓reduceIte, hlj, hkk, hset, zo (i := j) (n := n) (by omega) (by omega)]) | ((with_reducible refine hJ _ _ ?_); clear hJ hKC KC J) | ((with_reducible refine zG ?_ ?_); · rfl)
      have hni : t = k + 1 := by
       rcases ht with ⟨h1, h2⟩ | ⟨q, h1, h2, h3, h4⟩
       ·have := h2 k (by omega); rw [hoki] at this; cases this
       ·rcases Nat.lt_trichotomy q k with h | h | h
        ·have := hokj q h; rw [h3] at this; cases this
        ·omega
        ·have := h4 k h; rw [hoki] at this; cases this
      rw [hni]
      exact zLz 1 (.inr rfl) rfl rfl (hcl _) (by rw [hlen, hlen])
    ·have hjn : j = n := by omega
     have hkk : i * n + j = (i + 1) * n := by rw [hjn, Nat.succ_mul]
     repeat' first | (with_reducible first | refine zA ?_ | refine zB ?_ | refine zm ?_ | refine zP ?_ | refine zl ?_ | refine zZ ?_) | ((with_reducible refine zC fun KC J hJ hKC => ?_); simp (maxSteps := 9999999) only [push_cast, seval, ↓reduceIte, hlj, hkk, zo (i := i) (n := n) (by omega) (by omega)]) | ((with_reducible refine hJ _ _ ?_); clear hJ hKC KC J) | ((with_reducible refine zI ?_ ?_); · rfl)
     refine ⟨⟨i + 1, by omega, fun q hq => hokj q (by omega)⟩, by simp only; omega, ?_, ?_⟩
     ·exact Lq
     ·simp only [hkk]; exact Fq
  ·have hin : i = n := by omega
   subst hin
   have hni : t = i * i := by
    rcases ht with ⟨h1, h2⟩ | ⟨q, h1, h2, h3, h4⟩
    ·exact h1
    ·have := hok q h1; rw [h3] at this; cases this
   repeat' first | (with_reducible first | refine zA ?_ | refine zB ?_ | refine zm ?_ | refine zl ?_ | refine zZ ?_) | ((with_reducible refine zC fun KC J hJ hKC => ?_); simp (maxSteps := 9999999) only [push_cast, seval, ↓reduceIte, hlt]) | ((with_reducible refine hJ _ _ ?_); clear hJ hKC KC J) | ((with_reducible refine zI ?_ ?_); · rfl)
   rw [hni]
   exact zLz 0 (.inl rfl) rfl (by simp) (hcl _) (by rw [hlen, hlen])
set_option maxHeartbeats 1000000 in
theorem zMY (f g : Bool) (ns : List ByteArray) (us : List Nat) (hu : U32 us) (hlw : Low us) (hl : us.length ≤ 8) :
  Fn Tryz.prog 236 [.agg [.sl f 1 (zS ns), .sl g 1 (zR us)]] [] (.v (.bool (decide (Ord us)))) [] := by
 refine Fn.of (fn := Tryz.f236) (by kernel_rfl) rfl (by kernel_rfl) ⟨[.agg [.sl f 1 (zS ns), .sl g 1 (zR us)], .v undef, .v undef, .v undef, .v undef, .v undef, .v undef, .v undef, .v undef, .v undef, .v undef, .v undef, .v undef, .v undef, .v undef, .v undef, .v undef, .v undef, .v undef, .v undef, .v undef, .v undef, .v undef, .v undef, .v undef, .v undef, .v undef, .v undef, .v undef, .v undef, .v undef, .v undef, .v undef, .v undef, .v undef, .v undef, .v undef, .v undef, .v undef, .v undef, .v undef, .v undef, .v undef, .v undef, .v undef, .v undef, .v undef, .v undef, .v undef, .v undef, .v undef, .v undef, .v undef, .v undef, .v undef, .v undef], []⟩ rfl ?_
 repeat' first | (with_reducible first | refine zA ?_ | refine zB ?_ | refine zH ?_) | ((first | with_reducible refine zC fun KC J hJ hKC => ?_ | (refine' hKC _ _ _ _ _ (zE (zMc _) rfl rfl rfl ?_ ?_); (rotate_left 1); (· exact Lq))); simp (maxSteps := 9999999) only [push_cast, seval, ↓reduceIte]) | ((with_reducible refine hJ _ _ ?_); clear hJ hKC KC J)
 refine zLa ([.any, .ptr 0 0 0, .ptr 1 0 0, .any, .any, .any, .any, .any, .fn 283 [.fad [.v (.int .i64 (us.length : Int))]], .any, .any, .any, .any, .any, .any, .any, .any, .any, .any, .any, .any, .any, .any, .any, .any, .any, .any, .any, .any, .any, .any, .any, .any, .any, .any, .any, .any, .any, .any, .any, .any, .any, .any, .any, .any, .any, .any, .any, .any, .any, .any, .any, .any, .any, .any, .any]) (by exact Lq) ?_
 refine zEc (f := 283) rfl rfl (zMM us.length (by omega)) (fun i hi => rfl) 3 rfl rfl
  (fun i => [.ent ⟨0, none, 25, [.sl f 1 (zS ns), .sl g 1 (zR us)], .cells⟩, .ent ⟨0, none, 4, [.v (.bool false)], .cells⟩, .free])
  (fun i => [.ent ⟨0, none, 25, [.sl f 1 (zS ns), .sl g 1 (zR us)], .cells⟩, .ent ⟨0, none, 4, [.v (.bool false)], .cells⟩, .free])
  rfl (fun i => ⟨rfl, rfl⟩) (fun i => ⟨rfl, rfl⟩) (fun i => ⟨rfl, rfl⟩) (fun k => zED us (pA us.length k) (pB us.length k)) .ret .ret rfl
  (fun i => [.any, .ptr 0 0 0, .ptr 1 0 0, .v (.int .i64 (pA us.length i : Nat)), .v (.int .i64 (pB us.length i : Nat)), .any, .any, .any, .fn 283 [.fad [.v (.int .i64 (us.length : Int))]], .v (.int .i64 (pA us.length i : Nat)), .v (.int .i64 (pB us.length i : Nat)), .any, .any, .any, .any, .any, .any, .any, .any, .any, .any, .any, .any, .any, .any, .any, .any, .any, .any, .any, .any, .any, .any, .any, .any, .any, .any, .any, .any, .any, .any, .any, .any, .any, .any, .any, .any, .any, .any, .any, .any, .any, .any, .any, .any, .any])
  (fun l' i r σ hi => ?_) (fun i => rfl) (fun l' i hi hb' => ?_) (fun hall => ?_) (fun k hk hkf hkb => ?_)
 ·skip
  repeat' first | (with_reducible first | refine zA ?_ | refine zB ?_) | ((with_reducible refine And.intro ?_ ?_); · exact Sq) | ((with_reducible refine zC fun KC J hJ hKC => ?_); simp (maxSteps := 9999999) only [push_cast, seval, ↓reduceIte]) | ((with_reducible refine hJ _ _ ?_); clear hJ hKC KC J)
  exact rfl
 ·have hpa := zRJ hi
  have hpb := zRZ hi
  obtain ⟨a, ha⟩ : ∃ a, pA us.length i = a := ⟨_, rfl⟩
  obtain ⟨b, hb⟩ : ∃ b, pB us.length i = b := ⟨_, rfl⟩
  simp only [ha, hb] at hpa hpb ⊢
  have hgA := zBy (zDy 0 hpa)
  have hgB := zBy (zDy 0 hpb)
  have han := zVU (hu.get hpb) (hu.get hpa)
  by_cases hab : a = b
  ·subst hab
   by_cases hf : fl us a a = true
   ·by_cases hz : anB (us.getD a 0) (us.getD a 0) = 0
    ·have hok : zED us a a = true := by rw [zED, if_pos rfl, hf, decide_eq_true hz]; rfl
     repeat' first | (with_reducible first | refine zA ?_ | refine zB ?_ | refine zP ?_ | refine zJ ?_ | refine zH ?_) | ((with_reducible refine And.intro ?_ ?_); · exact Sq) | ((first | with_reducible refine zC fun KC J hJ hKC => ?_ | with_reducible refine zY rfl fun KC J hJ hKC => ?_ | (refine' hKC _ _ _ _ _ (zE (zDD _ _ _ _ _ _ ?_ ?_) rfl rfl rfl ?_ ?_); (rotate_left 8); (· exact Lq); (rotate_left 1); (iterate 2 (· exact Hq)))); simp (maxSteps := 9999999) only [push_cast, seval, ↓reduceIte, hf, hz, hgA, han]) | ((first | with_reducible refine hJ _ _ ?_ | (with_reducible refine hJ _ _ ?_ ?_; · kernel_rfl)); clear hJ hKC KC J) | ((with_reducible refine zI ?_ ?_); · rfl)
     exact .inl ⟨hok, rfl, (by first | exact zO (k := 0) rfl rfl rfl | exact zO (k := 1) rfl rfl rfl | exact zO (k := 2) rfl rfl rfl | exact zO (k := 3) rfl rfl rfl | exact zO (k := 4) rfl rfl rfl | exact zO (k := 5) rfl rfl rfl | exact zO (k := 6) rfl rfl rfl | exact zO (k := 7) rfl rfl rfl | exact zO (k := 8) rfl rfl rfl)⟩
    ·have hok : zED us a a = false := by rw [zED, if_pos rfl, hf, decide_eq_false hz]; rfl
     repeat' first | (with_reducible first | refine zA ?_ | refine zB ?_ | refine zAD ?_ | refine zF ?_ | refine zJ ?_ | refine zH ?_) | ((with_reducible refine And.intro ?_ ?_); · exact Sq) | ((first | with_reducible refine zC fun KC J hJ hKC => ?_ | with_reducible refine zY rfl fun KC J hJ hKC => ?_ | (refine' hKC _ _ _ _ _ (zE (zDD _ _ _ _ _ _ ?_ ?_) rfl rfl rfl ?_ ?_); (rotate_left 8); (· exact Lq); (rotate_left 1); (iterate 2 (· exact Hq)))); simp (maxSteps := 9999999) only [push_cast, seval, ↓reduceIte, hf, hz, hgA, han]) | ((first | with_reducible refine hJ _ _ ?_ | (with_reducible refine hJ _ _ ?_ ?_; · kernel_rfl)); clear hJ hKC KC J) | ((with_reducible refine zG ?_ ?_); · rfl) | ((with_reducible refine zI ?_ ?_); · rfl)
     exact .inr ⟨hok, rfl, (by first | exact zO (k := 0) rfl rfl rfl | exact zO (k := 1) rfl rfl rfl | exact zO (k := 2) rfl rfl rfl | exact zO (k := 3) rfl rfl rfl | exact zO (k := 4) rfl rfl rfl | exact zO (k := 5) rfl rfl rfl | exact zO (k := 6) rfl rfl rfl | exact zO (k := 7) rfl rfl rfl | exact zO (k := 8) rfl rfl rfl)⟩
   ·have hok : zED us a a = false := by rw [zED, if_pos rfl, show fl us a a = false by simpa using hf]; rfl
    repeat' first | (with_reducible first | refine zA ?_ | refine zB ?_ | refine zb ?_ | refine zAD ?_ | refine zF ?_ | refine zH ?_) | ((first | with_reducible refine zC fun KC J hJ hKC => ?_ | (refine' hKC _ _ _ _ _ (zE (zDD _ _ _ _ _ _ ?_ ?_) rfl rfl rfl ?_ ?_); (rotate_left 8); (· exact Lq); (rotate_left 1); (iterate 2 (· exact Hq)))); simp (maxSteps := 9999999) only [push_cast, seval, ↓reduceIte, hf, undef]) | ((with_reducible refine hJ _ _ ?_); clear hJ hKC KC J) | ((with_reducible refine zG ?_ ?_); · rfl)
    exact .inr ⟨hok, rfl, (by first | exact zO (k := 0) rfl rfl rfl | exact zO (k := 1) rfl rfl rfl | exact zO (k := 2) rfl rfl rfl | exact zO (k := 3) rfl rfl rfl | exact zO (k := 4) rfl rfl rfl | exact zO (k := 5) rfl rfl rfl | exact zO (k := 6) rfl rfl rfl | exact zO (k := 7) rfl rfl rfl | exact zO (k := 8) rfl rfl rfl)⟩
  ·have hab' : ¬ (a : Int) = (b : Int) := by omega
   have hab'' : ((a : Int) != (b : Int)) = true := by simpa using hab'
   have hab3 : ((a : Int) == (b : Int)) = false := by simpa using hab'
   by_cases hf : fl us a b = true
   ·by_cases hf' : fl us b a = true
    ·have hok : zED us a b = false := by rw [zED, if_neg hab, hf, hf']; rfl
     repeat' first | (with_reducible first | refine zA ?_ | refine zB ?_ | refine zb ?_ | refine zAD ?_ | refine zF ?_ | refine zH ?_) | ((first | with_reducible refine zC fun KC J hJ hKC => ?_ | (refine' hKC _ _ _ _ _ (zE (zDD _ _ _ _ _ _ ?_ ?_) rfl rfl rfl ?_ ?_); (rotate_left 8); (· exact Lq); (rotate_left 1); (iterate 2 (· exact Hq)))); simp (maxSteps := 9999999) only [push_cast, seval, ↓reduceIte, hf, hf', hab, hab', hab'', hab3, undef]) | ((with_reducible refine hJ _ _ ?_); clear hJ hKC KC J) | ((with_reducible refine zG ?_ ?_); · rfl)
     exact .inr ⟨hok, rfl, (by first | exact zO (k := 0) rfl rfl rfl | exact zO (k := 1) rfl rfl rfl | exact zO (k := 2) rfl rfl rfl | exact zO (k := 3) rfl rfl rfl | exact zO (k := 4) rfl rfl rfl | exact zO (k := 5) rfl rfl rfl | exact zO (k := 6) rfl rfl rfl | exact zO (k := 7) rfl rfl rfl | exact zO (k := 8) rfl rfl rfl)⟩
    ·have hfF : fl us b a = false := by simpa using hf'
     by_cases hz : anB (us.getD b 0) (us.getD a 0) = 0
     ·have hok : zED us a b = true := by rw [zED, if_neg hab, hf, hfF, decide_eq_true hz]; rfl
      repeat' first | (with_reducible first | refine zA ?_ | refine zB ?_ | refine zP ?_ | refine zJ ?_ | refine zH ?_) | ((with_reducible refine And.intro ?_ ?_); · exact Sq) | ((first | with_reducible refine zC fun KC J hJ hKC => ?_ | with_reducible refine zY rfl fun KC J hJ hKC => ?_ | (refine' hKC _ _ _ _ _ (zE (zDD _ _ _ _ _ _ ?_ ?_) rfl rfl rfl ?_ ?_); (rotate_left 8); (· exact Lq); (rotate_left 1); (iterate 2 (· exact Hq)))); simp (maxSteps := 9999999) only [push_cast, seval, ↓reduceIte, hf, hfF, hz, hgA, hgB, han, hab, hab', hab'', hab3, undef]) | ((first | with_reducible refine hJ _ _ ?_ | (with_reducible refine hJ _ _ ?_ ?_; · kernel_rfl)); clear hJ hKC KC J) | ((with_reducible refine zI ?_ ?_); · rfl)
      exact .inl ⟨hok, rfl, (by first | exact zO (k := 0) rfl rfl rfl | exact zO (k := 1) rfl rfl rfl | exact zO (k := 2) rfl rfl rfl | exact zO (k := 3) rfl rfl rfl | exact zO (k := 4) rfl rfl rfl | exact zO (k := 5) rfl rfl rfl | exact zO (k := 6) rfl rfl rfl | exact zO (k := 7) rfl rfl rfl | exact zO (k := 8) rfl rfl rfl)⟩
     ·have hok : zED us a b = false := by rw [zED, if_neg hab, hf, hfF, decide_eq_false hz]; rfl
      repeat' first | (with_reducible first | refine zA ?_ | refine zB ?_ | refine zAD ?_ | refine zF ?_ | refine zJ ?_ | refine zH ?_) | ((with_reducible refine And.intro ?_ ?_); · exact Sq) | ((first | with_reducible refine zC fun KC J hJ hKC => ?_ | with_reducible refine zY rfl fun KC J hJ hKC => ?_ | (refine' hKC _ _ _ _ _ (zE (zDD _ _ _ _ _ _ ?_ ?_) rfl rfl rfl ?_ ?_); (rotate_left 8); (· exact Lq); (rotate_left 1); (iterate 2 (· exact Hq)))); simp (maxSteps := 9999999) only [push_cast, seval, ↓reduceIte, hf, hfF, hz, hgA, hgB, han, hab, hab', hab'', hab3, undef]) | ((first | with_reducible refine hJ _ _ ?_ | (with_reducible refine hJ _ _ ?_ ?_; · kernel_rfl)); clear hJ hKC KC J) | ((with_reducible refine zG ?_ ?_); · rfl) | ((with_reducible refine zI ?_ ?_); · rfl)
      exact .inr ⟨hok, rfl, (by first | exact zO (k := 0) rfl rfl rfl | exact zO (k := 1) rfl rfl rfl | exact zO (k := 2) rfl rfl rfl | exact zO (k := 3) rfl rfl rfl | exact zO (k := 4) rfl rfl rfl | exact zO (k := 5) rfl rfl rfl | exact zO (k := 6) rfl rfl rfl | exact zO (k := 7) rfl rfl rfl | exact zO (k := 8) rfl rfl rfl)⟩
   ·have hfF : fl us a b = false := by simpa using hf
    have hok : zED us a b = true := by rw [zED, if_neg hab, hfF]; rfl
    repeat' first | (with_reducible first | refine zA ?_ | refine zB ?_ | refine zP ?_ | refine zJ ?_ | refine zH ?_) | ((first | with_reducible refine zC fun KC J hJ hKC => ?_ | with_reducible refine zY rfl fun KC J hJ hKC => ?_ | (refine' hKC _ _ _ _ _ (zE (zDD _ _ _ _ _ _ ?_ ?_) rfl rfl rfl ?_ ?_); (rotate_left 8); (· exact Lq); (rotate_left 1); (iterate 2 (· exact Hq)))); simp (maxSteps := 9999999) only [push_cast, seval, ↓reduceIte, hfF, hab, hab', hab'', hab3, undef]) | ((first | with_reducible refine hJ _ _ ?_ | (with_reducible refine hJ _ _ ?_ ?_; · kernel_rfl)); clear hJ hKC KC J) | ((with_reducible refine zI ?_ ?_); · rfl)
    exact .inl ⟨hok, rfl, (by first | exact zO (k := 0) rfl rfl rfl | exact zO (k := 1) rfl rfl rfl | exact zO (k := 2) rfl rfl rfl | exact zO (k := 3) rfl rfl rfl | exact zO (k := 4) rfl rfl rfl | exact zO (k := 5) rfl rfl rfl | exact zO (k := 6) rfl rfl rfl | exact zO (k := 7) rfl rfl rfl | exact zO (k := 8) rfl rfl rfl)⟩
 ·rw [decide_eq_true ((zMk hu hlw).1 (zFU.1 hall))]
  repeat' first | (with_reducible first | refine zA ?_ | refine zB ?_ | refine zP ?_ | refine zF ?_) | ((with_reducible refine zC fun KC J hJ hKC => ?_); simp (maxSteps := 9999999) only [push_cast, seval, ↓reduceIte]) | ((with_reducible refine hJ _ _ ?_); clear hJ hKC KC J)
  refine zD ?_
  simp (maxSteps := 9999999) only [push_cast, seval, ↓reduceIte, show Tryz.f236.results = #[(.cell 2 4)] from rfl]
  exact Lq
 ·rw [decide_eq_false (fun h => by have := (zFU (p := fun a b => zED us a b = true)).2 ((zMk hu hlw).2 h) k hk; rw [hkf] at this; cases this)]
  refine zD ?_
  simp (maxSteps := 9999999) only [push_cast, seval, ↓reduceIte, show Tryz.f236.results = #[(.cell 2 4)] from rfl]
  exact Lq
theorem zLp (f g : Bool) (ns : List ByteArray) (us : List Nat) (a : Nat) (hu : U32 us) (hl : us.length ≤ 8) :
  Fn Tryz.prog 285 [.agg [.sl f 1 (zS ns), .sl g 1 (zR us)], .v (.int .i64 (a : Int))] [] (.v (.int .u32 (uv (zBp us a us.length)))) [] := by
 refine Fn.of (fn := Tryz.f285) (by kernel_rfl) rfl (by kernel_rfl) ⟨[.agg [.sl f 1 (zS ns), .sl g 1 (zR us)], .v (.int .i64 (a : Int)), .v undef, .v undef, .v undef, .v undef, .v undef, .v undef, .v undef, .v undef, .v undef, .v undef, .v undef, .v undef, .v undef, .v undef, .v undef, .v undef, .v undef, .v undef, .v undef, .v undef, .v undef, .v undef, .v undef, .v undef, .v undef], []⟩ rfl ?_
 repeat' first | (with_reducible first | refine zA ?_ | refine zB ?_ | refine zH ?_) | ((with_reducible refine zC fun KC J hJ hKC => ?_); simp (maxSteps := 9999999) only [push_cast, seval, ↓reduceIte]) | ((with_reducible refine hJ _ _ ?_); clear hJ hKC KC J)
 refine zAI (γ := {i : Nat // i ≤ us.length}) (fun i => ⟨[.any, .v (.int .i64 (a : Int)), .ptr 0 0 0, .any, .any, .v (.int .u32 (uv (zBp us a i.1))), .any, .any, .any, .v (.int .i64 us.length), .v (.int .i64 i.1), .any, .any, .any, .any, .any, .any, .any, .any, .any, .any, .any, .any, .any, .any, .any, .any], [.ent ⟨0, none, 25, [.sl f 1 (zS ns), .sl g 1 (zR us)], .cells⟩]⟩) (fun i => us.length - i.1) ⟨0, by simp⟩ ⟨?_, Fq⟩ ?_
 ·exact Lq
 ·rintro ⟨i, hi⟩
  by_cases hlt : (i : Int) < (us.length : Int)
  ·have hil : i < us.length := by omega
   have hx := zDy 0 hil
   have h1 : us.getD i 0 >>> a < 2 ^ 32 := Nat.lt_of_le_of_lt (Nat.shiftRight_le _ _) (hu.get hil)
   have h2 : (us.getD i 0 >>> a) &&& 1 ≤ 1 := Nat.and_le_right
   have h3 : zBp us a i < 2 ^ 32 := Nat.lt_of_lt_of_le (zJj us a i) (Nat.pow_le_pow_right (by decide) (by omega))
   have h4 : ((us.getD i 0 >>> a) &&& 1) <<< i < 2 ^ 32 := by
    have e := zJj us a (i + 1)
    have : ((us.getD i 0 >>> a) &&& 1) <<< i ≤ zBp us a (i + 1) := Nat.right_le_or
    have : 2 ^ (i + 1) ≤ 2 ^ 32 := Nat.pow_le_pow_right (by decide) (by omega)
    omega
   repeat' first | (with_reducible first | refine zA ?_ | refine zB ?_ | refine zP ?_ | refine zJ ?_ | refine zH ?_) | ((with_reducible refine And.intro ?_ ?_); · exact Sq) | ((with_reducible refine zC fun KC J hJ hKC => ?_); simp (maxSteps := 9999999) only [push_cast, seval, ↓reduceIte, hlt, zBy hx, zLN (hu.get hil) (b := a), zOy h1, zUc h2 (by omega : i < 32), zVI h3 h4, zo (i := i) (n := us.length) (by omega) (by omega)]) | ((with_reducible refine hJ _ _ ?_); clear hJ hKC KC J) | ((with_reducible refine zG ?_ ?_); · rfl)
   refine ⟨⟨i + 1, by omega⟩, by simp only; omega, ?_, Fq⟩
   exact Lq
  ·have e : i = us.length := by omega
   subst e
   repeat' first | (with_reducible first | refine zA ?_ | refine zB ?_ | refine zm ?_ | refine zl ?_ | refine zF ?_ | refine zZ ?_) | ((with_reducible refine zC fun KC J hJ hKC => ?_); simp (maxSteps := 9999999) only [push_cast, seval, ↓reduceIte, hlt]) | ((with_reducible refine hJ _ _ ?_); clear hJ hKC KC J) | ((with_reducible refine zI ?_ ?_); · rfl)
   refine zD ?_
   simp (maxSteps := 9999999) only [push_cast, seval, ↓reduceIte, show Tryz.f285.results = #[(.tmp 4)] from rfl]
   exact zL _
theorem zHq (f : Bool) (xs : List Nat) (cf : Nat) (caps : List D) (p : Nat → Bool) (hb : xs.length ≤ 9223372036854775807) (hc : zq caps = true)
  (hp : ∀ x ∈ xs, Fn Tryz.prog cf (.v (.int .u32 (uv x)) :: caps) [] (.v (.bool (p x))) []) : Fn Tryz.prog 116 [.sl f 1 (zR xs), .fn cf caps] [] (.v (.int .i64 (zEC p xs))) [] := by
 refine Fn.of (fn := Tryz.f116) (by kernel_rfl) rfl (by kernel_rfl) ⟨[.sl f 1 (zR xs), .fn cf caps, .v undef, .v undef, .v undef, .v undef, .v undef, .v undef, .v undef, .v undef, .v undef, .v undef, .v undef, .v undef, .v undef, .v undef, .v undef, .v undef, .v undef], []⟩ rfl ?_
 repeat' first | (with_reducible first | refine zA ?_ | refine zB ?_ | refine zH ?_) | ((with_reducible refine zC fun KC J hJ hKC => ?_); simp (maxSteps := 9999999) only [push_cast, seval, ↓reduceIte]) | ((with_reducible refine hJ _ _ ?_); clear hJ hKC KC J)
 refine zAI (γ := {i : Nat // i ≤ xs.length ∧ ∀ (j : Nat) (hj : j < xs.length), j < i → p xs[j] = false}) (fun i => ⟨[.sl f 1 (zR xs), .fn cf caps, .any, .any, .any, .any, .any, .v (.int .i64 xs.length), .v (.int .i64 i.1), .any, .any, .any, .any, .any, .any, .any, .any, .any, .any], []⟩) (fun i => xs.length - i.1) ⟨0, by simp⟩ ⟨?_, Fq⟩ ?_
 ·exact Lq
 ·rintro ⟨i, hi, hn⟩
  by_cases hlt : (i : Int) < (xs.length : Int)
  ·have hx : xs[i]? = some xs[i] := List.getElem?_eq_getElem (by omega)
   have hfn := hp xs[i] (List.getElem_mem (by omega))
   repeat' first | (with_reducible first | refine zA ?_ | refine zB ?_ | refine zb ?_ | refine zP ?_ | refine zAD ?_ | refine zF ?_ | refine zJ ?_ | refine zH ?_) | ((with_reducible refine And.intro ?_ ?_); · exact Sq) | ((first | with_reducible refine zC fun KC J hJ hKC => ?_ | (refine hKC _ _ _ _ _ (zE (hfn) rfl rfl rfl ?_ ?_); (· exact Lq))); simp (maxSteps := 9999999) only [push_cast, seval, ↓reduceIte, hlt, zBy hx, zo (i := i) (n := xs.length) (by omega) hb]) | ((with_reducible refine hJ _ _ ?_); clear hJ hKC KC J) | ((with_reducible refine zG ?_ ?_); · rfl) | (refine zAa rfl (fun h => ?_) (fun h => ?_) <;> try simp only [decide_eq_true_eq, decide_eq_false_iff_not, Bool.not_eq_true', Bool.not_eq_false', beq_iff_eq, bne_iff_ne, ne_eq, Bool.not_eq_true, Bool.or_eq_true, Bool.and_eq_true, Bool.or_eq_false_iff, Bool.and_eq_false_imp, beq_eq_false_iff_ne, bne_eq_false_iff_eq] at h)
   ·refine zD ?_
    simp (maxSteps := 9999999) only [push_cast, seval, ↓reduceIte, show Tryz.f116.results = #[(.tmp 4)] from rfl]
    exact zAk (by rw [zCz (by omega) h hn])
   ·refine ⟨⟨i + 1, by omega, fun j hj hji => ?_⟩, by simp only; omega, ?_, Fq⟩
    ·by_cases he : j = i
     ·subst he; exact h
     ·exact hn j hj (by omega)
    ·exact Lq
  ·skip
   repeat' first | (with_reducible first | refine zA ?_ | refine zB ?_ | refine zm ?_ | refine zl ?_ | refine zF ?_ | refine zZ ?_) | ((with_reducible refine zC fun KC J hJ hKC => ?_); simp (maxSteps := 9999999) only [push_cast, seval, ↓reduceIte, hlt]) | ((with_reducible refine hJ _ _ ?_); clear hJ hKC KC J) | ((with_reducible refine zI ?_ ?_); · rfl)
   refine zD ?_
   simp (maxSteps := 9999999) only [push_cast, seval, ↓reduceIte, show Tryz.f116.results = #[(.tmp 4)] from rfl]
   exact zAk (by rw [zBj (fun j hj => hn j hj (by omega))])
theorem zRs (x c : Nat) : Fn Tryz.prog 284 [.v (.int .u32 (uv x)), .fad [.v (.int .u32 (uv c))]] [] (.v (.bool (decide (x = c)))) [] := by
 refine Fn.of (fn := Tryz.f284) (by kernel_rfl) rfl (by kernel_rfl) ⟨[.v (.int .u32 (uv x)), .fad [.v (.int .u32 (uv c))], .v undef, .v undef, .v undef, .v undef, .v undef], []⟩ rfl ?_
 repeat' first | (with_reducible first | refine zA ?_ | refine zB ?_ | refine zF ?_) | ((with_reducible refine zC fun KC J hJ hKC => ?_); simp (maxSteps := 9999999) only [push_cast, seval, ↓reduceIte]) | ((with_reducible refine hJ _ _ ?_); clear hJ hKC KC J)
 refine zD ?_
 simp (maxSteps := 9999999) only [push_cast, seval, ↓reduceIte, show Tryz.f284.results = #[(.tmp 3)] from rfl]
 exact zL _
theorem zLQ (f g : Bool) (ns : List ByteArray) (us : List Nat) (a b : Nat) (hu : U32 us) (hl : us.length ≤ 8) (ha : a < us.length) (hb : b < us.length) :
  Fn Tryz.prog 238 [.agg [.sl f 1 (zS ns), .sl g 1 (zR us)], .v (.int .i64 (a : Int)), .v (.int .i64 (b : Int))] [] (.v (.int .i64 (zOh us a b))) [] := by
 have hcf := zHq g us 284 [.fad [.v (.int .u32 (uv (us.getD a 0 &&& us.getD b 0)))]] (fun x => decide (x = us.getD a 0 &&& us.getD b 0)) (by omega) rfl (fun x _ => zRs x _)
 have hgA := zBy (zDy 0 ha)
 have hgB := zBy (zDy 0 hb)
 have han := zRk (hu.get ha) (hu.get hb)
 refine Fn.of (fn := Tryz.f238) (by kernel_rfl) rfl (by kernel_rfl) ⟨[.agg [.sl f 1 (zS ns), .sl g 1 (zR us)], .v (.int .i64 (a : Int)), .v (.int .i64 (b : Int)), .v undef, .v undef, .v undef, .v undef, .v undef, .v undef, .v undef, .v undef, .v undef, .v undef, .v undef, .v undef, .v undef, .v undef, .v undef, .v undef, .v undef, .v undef, .v undef, .v undef], []⟩ rfl ?_
 repeat' first | (refine zU 2 1 rfl (by (simp (maxSteps := 9999999) only [push_cast, seval, ↓reduceIte]) <;> rfl) ?_; simp (maxSteps := 9999999) only [push_cast, seval, ↓reduceIte, zAK, zh, fr3, fr2, fr1, fr0, zp, zn, hgA, hgB, han]) | (with_reducible first | refine zA ?_ | refine zB ?_ | refine zF ?_) | ((with_reducible refine And.intro ?_ ?_); · exact Sq) | ((first | with_reducible refine zC fun KC J hJ hKC => ?_ | with_reducible refine zY rfl fun KC J hJ hKC => ?_ | (refine hKC _ _ _ _ _ (zE (hcf) rfl rfl rfl ?_ ?_); (· exact Lq))); simp (maxSteps := 9999999) only [push_cast, seval, ↓reduceIte, hgA, hgB, han]) | ((first | with_reducible refine hJ _ _ ?_ | (with_reducible refine hJ _ _ ?_ ?_; · kernel_rfl)); clear hJ hKC KC J)
 refine zD ?_
 simp (maxSteps := 9999999) only [push_cast, seval, ↓reduceIte, show Tryz.f238.results = #[(.tmp 6)] from rfl]
 exact zL _
theorem zPF (f g : Bool) (ns : List ByteArray) (us : List Nat) (a b : Nat) (hu : U32 us) (hl : us.length ≤ 8) (ha : a < us.length) (hb : b < us.length) :
  Fn Tryz.prog 239 [.agg [.sl f 1 (zS ns), .sl g 1 (zR us)], .v (.int .i64 (a : Int)), .v (.int .i64 (b : Int))] [] (.v (.int .i64 (zOr us a b))) [] := by
 have hd : ∀ x, zBp us x us.length < 2 ^ 32 := fun x => Nat.lt_of_lt_of_le (zJj us x _) (Nat.pow_le_pow_right (by decide) (by omega))
 have han := zRk (hd a) (hd b)
 refine Fn.of (fn := Tryz.f239) (by kernel_rfl) rfl (by kernel_rfl) ⟨[.agg [.sl f 1 (zS ns), .sl g 1 (zR us)], .v (.int .i64 (a : Int)), .v (.int .i64 (b : Int)), .v undef, .v undef, .v undef, .v undef, .v undef, .v undef, .v undef, .v undef, .v undef, .v undef, .v undef, .v undef, .v undef, .v undef, .v undef, .v undef, .v undef, .v undef, .v undef, .v undef, .v undef, .v undef, .v undef, .v undef, .v undef, .v undef], []⟩ rfl ?_
 repeat' first | (with_reducible first | refine zA ?_ | refine zB ?_ | refine zH ?_) | ((first | with_reducible refine zC fun KC J hJ hKC => ?_ | with_reducible refine zY rfl fun KC J hJ hKC => ?_ | (refine' hKC _ _ _ _ _ (zE (zLp _ _ _ _ _ ?_ ?_) rfl rfl rfl ?_ ?_); (rotate_left 7); (· exact Lq); (rotate_left 1); (iterate 2 (· exact Hq)))); simp (maxSteps := 9999999) only [push_cast, seval, ↓reduceIte, han]) | ((first | with_reducible refine hJ _ _ ?_ | (with_reducible refine hJ _ _ ?_ ?_; · kernel_rfl)); clear hJ hKC KC J)
 refine zAI (γ := {i : Nat // i ≤ us.length ∧ ∀ j, j < i → ¬ zBp us j us.length = (zBp us a us.length &&& zBp us b us.length)}) (fun i => ⟨[.any, .any, .any, .ptr 0 0 0, .any, .any, .any, .v (.int .u32 (uv (zBp us a us.length &&& zBp us b us.length))), .any, .any, .any, .any, .any, .any, .any, .any, .any, .any, .v (.int .i64 us.length), .v (.int .i64 i.1), .any, .any, .any, .any, .any, .any, .any, .any, .any], [.ent ⟨0, none, 25, [.sl f 1 (zS ns), .sl g 1 (zR us)], .cells⟩]⟩) (fun i => us.length - i.1) ⟨0, by simp⟩ ⟨?_, Fq⟩ ?_
 ·exact Lq
 ·rintro ⟨i, hi, hn⟩
  by_cases hlt : (i : Int) < (us.length : Int)
  ·by_cases hz : zBp us i us.length = (zBp us a us.length &&& zBp us b us.length)
   ·skip
    repeat' first | (with_reducible first | refine zA ?_ | refine zB ?_ | refine zb ?_ | refine zAD ?_ | refine zF ?_ | refine zJ ?_ | refine zH ?_) | ((first | with_reducible refine zC fun KC J hJ hKC => ?_ | (refine' hKC _ _ _ _ _ (zE (zLp _ _ _ _ _ ?_ ?_) rfl rfl rfl ?_ ?_); (rotate_left 7); (· exact Lq); (rotate_left 1); (iterate 2 (· exact Hq)))); simp (maxSteps := 9999999) only [push_cast, seval, ↓reduceIte, hlt, hz]) | ((with_reducible refine hJ _ _ ?_); clear hJ hKC KC J) | ((with_reducible refine zG ?_ ?_); · rfl)
    refine zD ?_
    simp (maxSteps := 9999999) only [push_cast, seval, ↓reduceIte, show Tryz.f239.results = #[(.tmp 6)] from rfl]
    refine zAk (congrArg (Value.int .i64) ?_)
    exact (zCz (xs := List.range us.length) (i := i) (by simp; omega) (by simpa using hz) (fun j hj hji => by simpa using hn j hji)).symm
   ·have hz' : decide (zBp us i us.length = (zBp us a us.length &&& zBp us b us.length)) = false := decide_eq_false hz
    repeat' first | (with_reducible first | refine zA ?_ | refine zB ?_ | refine zP ?_ | refine zJ ?_ | refine zH ?_) | ((first | with_reducible refine zC fun KC J hJ hKC => ?_ | (refine' hKC _ _ _ _ _ (zE (zLp _ _ _ _ _ ?_ ?_) rfl rfl rfl ?_ ?_); (rotate_left 7); (· exact Lq); (rotate_left 1); (iterate 2 (· exact Hq)))); simp (maxSteps := 9999999) only [push_cast, seval, ↓reduceIte, hlt, hz', zo (i := i) (n := us.length) (by omega) (by omega)]) | ((with_reducible refine hJ _ _ ?_); clear hJ hKC KC J) | ((with_reducible refine zG ?_ ?_); · rfl) | ((with_reducible refine zI ?_ ?_); · rfl)
    refine ⟨⟨i + 1, by omega, fun j hj => ?_⟩, by simp only; omega, ?_, Fq⟩
    ·by_cases he : j = i
     ·subst he; exact hz
     ·exact hn j (by omega)
    ·exact Lq
  ·skip
   repeat' first | (with_reducible first | refine zA ?_ | refine zB ?_ | refine zm ?_ | refine zl ?_ | refine zF ?_ | refine zZ ?_) | ((with_reducible refine zC fun KC J hJ hKC => ?_); simp (maxSteps := 9999999) only [push_cast, seval, ↓reduceIte, hlt]) | ((with_reducible refine hJ _ _ ?_); clear hJ hKC KC J) | ((with_reducible refine zI ?_ ?_); · rfl)
   refine zD ?_
   simp (maxSteps := 9999999) only [push_cast, seval, ↓reduceIte, show Tryz.f239.results = #[(.tmp 6)] from rfl]
   refine zAk (congrArg (Value.int .i64) ?_)
   exact (zBj (xs := List.range us.length) (fun j hj => by simpa using hn j (by simp at hj; omega))).symm
def r3 (us : List Nat) (i j k : Nat) : Prop := fl us i j = true → fl us j k = true → fl us i k = true
def r2 (us : List Nat) (i j : Nat) : Prop := ¬ i = j → ¬ (fl us i j = true ∧ fl us j i = true)
def r0 (us : List Nat) (i : Nat) : Prop := fl us i i = true ∧ ∀ j, j < us.length → r2 us i j ∧ ∀ k, k < us.length → r3 us i j k
def zVO (us : List Nat) (a b c n : Nat) : Prop := (fl us a c = true ∧ fl us b c = true) ∧ ∀ d, d < n → fl us a d = true → fl us b d = true → fl us c d = true
instance (us : List Nat) (a b c n : Nat) : Decidable (zVO us a b c n) := by unfold zVO; infer_instance
def zVH (us : List Nat) (a b c n : Nat) : Prop := (fl us c a = true ∧ fl us c b = true) ∧ ∀ d, d < n → fl us d a = true → fl us d b = true → fl us d c = true
instance (us : List Nat) (a b c n : Nat) : Decidable (zVH us a b c n) := by unfold zVH; infer_instance
def jmB (us : List Nat) (a b : Nat) : Bool := decide (0 ≤ zOh us a b ∧ 0 ≤ zOr us a b)
theorem zBb (f g : Bool) (ns : List ByteArray) (us : List Nat) (hs : Szs ns) (hu : U32 us) :
  Fn Tryz.prog 139 [.agg [.sl f 1 (zS ns), .sl g 1 (zR us)]] [] (.v (.int .i64 (zAB ns us))) [] := by
 refine Fn.of (fn := Tryz.f139) (by kernel_rfl) rfl (by kernel_rfl) ⟨[.agg [.sl f 1 (zS ns), .sl g 1 (zR us)], .v undef, .v undef, .v undef, .v undef, .v undef, .v undef, .v undef, .v undef, .v undef, .v undef, .v undef, .v undef, .v undef, .v undef, .v undef, .v undef, .v undef, .v undef, .v undef, .v undef, .v undef, .v undef, .v undef, .v undef, .v undef, .v undef, .v undef, .v undef, .v undef, .v undef], []⟩ rfl ?_
 by_cases hm : zGx ns us = true
 ·have hl8 : us.length ≤ 8 := (zGL hm).1.2.1
  have hlw := zNy hm
  by_cases ho : Ord us
  ·have ho' : decide (Ord us) = true := decide_eq_true ho
   have hc : zAB ns us = if Lat us then 0 else 3 := by rw [zAB, if_pos hm, if_pos ho]
   rw [hc]
   repeat' first | (with_reducible first | refine zA ?_ | refine zB ?_ | refine zP ?_ | refine zJ ?_ | refine zH ?_) | ((first | with_reducible refine zC fun KC J hJ hKC => ?_ | (refine' hKC _ _ _ _ _ (zE (zHN _ _ _ _ ?_ ?_) rfl rfl rfl ?_ ?_); (rotate_left 6); (· exact Lq); (rotate_left 1); (iterate 2 (· exact Hq))) | (refine' hKC _ _ _ _ _ (zE (zMY _ _ _ _ ?_ ?_ ?_) rfl rfl rfl ?_ ?_); (rotate_left 7); (· exact Lq); (rotate_left 1); (iterate 3 (· exact Hq))) | (refine' hKC _ _ _ _ _ (zE (zMc _) rfl rfl rfl ?_ ?_); (rotate_left 1); (· exact Lq))); simp (maxSteps := 9999999) only [push_cast, seval, ↓reduceIte, hm, ho']) | ((with_reducible refine hJ _ _ ?_); clear hJ hKC KC J) | ((with_reducible refine zI ?_ ?_); · rfl)
   refine zLo ⟨[.any, .ptr 0 0 0, .ptr 1 0 0, .any, .any, .any, .any, .any, .any, .any, .any, .any, .any, .any, .any, .any, .fn 283 [.fad [.v (.int .i64 (us.length : Int))]], .any, .any, .any, .any, .any, .any, .any, .any, .any, .any, .any, .any, .any, .any], [.ent ⟨0, none, 25, [.sl f 1 (zS ns), .sl g 1 (zR us)], .cells⟩, .ent ⟨0, none, 40, [.v (.int .i64 0)], .cells⟩]⟩ (by exact Lq) Fq ?_
   refine zEc (f := 283) rfl rfl (zMM us.length (by omega)) (fun i hi => rfl) 2 rfl rfl
    (fun i => [.ent ⟨0, none, 25, [.sl f 1 (zS ns), .sl g 1 (zR us)], .cells⟩, .ent ⟨0, none, 40, [.v (.int .i64 0)], .cells⟩])
    (fun i => [.ent ⟨0, none, 25, [.sl f 1 (zS ns), .sl g 1 (zR us)], .cells⟩, .ent ⟨0, none, 40, [.v (.int .i64 3)], .cells⟩])
    rfl (fun i => ⟨rfl, rfl⟩) (fun i => ⟨rfl, rfl⟩) (fun i => ⟨rfl, rfl⟩) (fun k => jmB us (pA us.length k) (pB us.length k)) .ret .ret rfl
    (fun i => [.any, .ptr 0 0 0, .ptr 1 0 0, .v (.int .i64 (pA us.length i : Nat)), .v (.int .i64 (pB us.length i : Nat)), .any, .any, .any, .any, .any, .any, .any, .any, .any, .any, .any, .fn 283 [.fad [.v (.int .i64 (us.length : Int))]], .v (.int .i64 (pA us.length i : Nat)), .v (.int .i64 (pB us.length i : Nat)), .any, .any, .any, .any, .any, .any, .any, .any, .any, .any, .any, .any])
    (fun l' i r σ hi => ?_) (fun i => rfl) (fun l' i hi hb' => ?_) (fun hall => ?_) (fun k hk hkf hkb => ?_)
   ·skip
    repeat' first | (with_reducible first | refine zA ?_ | refine zB ?_) | ((with_reducible refine And.intro ?_ ?_); · exact Sq) | ((with_reducible refine zC fun KC J hJ hKC => ?_); simp (maxSteps := 9999999) only [push_cast, seval, ↓reduceIte]) | ((with_reducible refine hJ _ _ ?_); clear hJ hKC KC J)
    exact rfl
   ·have hpa := zRJ hi
    have hpb := zRZ hi
    obtain ⟨a, ha⟩ : ∃ a, pA us.length i = a := ⟨_, rfl⟩
    obtain ⟨b, hb⟩ : ∃ b, pB us.length i = b := ⟨_, rfl⟩
    simp only [ha, hb] at hpa hpb ⊢
    by_cases h1 : zOh us a b < 0
    ·skip
     repeat' first | (with_reducible first | refine zA ?_ | refine zB ?_ | refine zAD ?_ | refine zF ?_ | refine zH ?_) | ((first | with_reducible refine zC fun KC J hJ hKC => ?_ | (refine' hKC _ _ _ _ _ (zE (zLQ _ _ _ _ _ _ ?_ ?_ ?_ ?_) rfl rfl rfl ?_ ?_); (rotate_left 10); (· exact Lq); (rotate_left 1); (iterate 4 (· exact Hq)))); simp (maxSteps := 9999999) only [push_cast, seval, ↓reduceIte, h1, undef]) | ((with_reducible refine hJ _ _ ?_); clear hJ hKC KC J) | ((with_reducible refine zG ?_ ?_); · rfl)
     exact .inr ⟨decide_eq_false fun h => by omega, rfl, (by first | exact zO (k := 0) rfl rfl rfl | exact zO (k := 1) rfl rfl rfl | exact zO (k := 2) rfl rfl rfl | exact zO (k := 3) rfl rfl rfl | exact zO (k := 4) rfl rfl rfl | exact zO (k := 5) rfl rfl rfl | exact zO (k := 6) rfl rfl rfl | exact zO (k := 7) rfl rfl rfl | exact zO (k := 8) rfl rfl rfl)⟩
    ·by_cases h2 : zOr us a b < 0
     ·skip
      repeat' first | (with_reducible first | refine zA ?_ | refine zB ?_ | refine zAD ?_ | refine zF ?_ | refine zH ?_) | ((first | with_reducible refine zC fun KC J hJ hKC => ?_ | (refine' hKC _ _ _ _ _ (zE (zLQ _ _ _ _ _ _ ?_ ?_ ?_ ?_) rfl rfl rfl ?_ ?_); (rotate_left 10); (· exact Lq); (rotate_left 1); (iterate 4 (· exact Hq))) | (refine' hKC _ _ _ _ _ (zE (zPF _ _ _ _ _ _ ?_ ?_ ?_ ?_) rfl rfl rfl ?_ ?_); (rotate_left 10); (· exact Lq); (rotate_left 1); (iterate 4 (· exact Hq)))); simp (maxSteps := 9999999) only [push_cast, seval, ↓reduceIte, h1, h2]) | ((with_reducible refine hJ _ _ ?_); clear hJ hKC KC J) | ((with_reducible refine zG ?_ ?_); · rfl)
      exact .inr ⟨decide_eq_false fun h => by omega, rfl, (by first | exact zO (k := 0) rfl rfl rfl | exact zO (k := 1) rfl rfl rfl | exact zO (k := 2) rfl rfl rfl | exact zO (k := 3) rfl rfl rfl | exact zO (k := 4) rfl rfl rfl | exact zO (k := 5) rfl rfl rfl | exact zO (k := 6) rfl rfl rfl | exact zO (k := 7) rfl rfl rfl | exact zO (k := 8) rfl rfl rfl)⟩
     ·skip
      repeat' first | (with_reducible first | refine zA ?_ | refine zB ?_ | refine zP ?_ | refine zJ ?_ | refine zH ?_) | ((first | with_reducible refine zC fun KC J hJ hKC => ?_ | (refine' hKC _ _ _ _ _ (zE (zLQ _ _ _ _ _ _ ?_ ?_ ?_ ?_) rfl rfl rfl ?_ ?_); (rotate_left 10); (· exact Lq); (rotate_left 1); (iterate 4 (· exact Hq))) | (refine' hKC _ _ _ _ _ (zE (zPF _ _ _ _ _ _ ?_ ?_ ?_ ?_) rfl rfl rfl ?_ ?_); (rotate_left 10); (· exact Lq); (rotate_left 1); (iterate 4 (· exact Hq)))); simp (maxSteps := 9999999) only [push_cast, seval, ↓reduceIte, h1, h2]) | ((with_reducible refine hJ _ _ ?_); clear hJ hKC KC J) | ((with_reducible refine zI ?_ ?_); · rfl)
      exact .inl ⟨decide_eq_true ⟨by omega, by omega⟩, rfl, (by first | exact zO (k := 0) rfl rfl rfl | exact zO (k := 1) rfl rfl rfl | exact zO (k := 2) rfl rfl rfl | exact zO (k := 3) rfl rfl rfl | exact zO (k := 4) rfl rfl rfl | exact zO (k := 5) rfl rfl rfl | exact zO (k := 6) rfl rfl rfl | exact zO (k := 7) rfl rfl rfl | exact zO (k := 8) rfl rfl rfl)⟩
   ·rw [if_pos (show Lat us from fun a ha b hb => of_decide_eq_true ((zFU (p := fun a b => jmB us a b = true)).1 hall a ha b hb))]
    repeat' first | (with_reducible first | refine zA ?_ | refine zB ?_ | refine zP ?_ | refine zF ?_) | ((with_reducible refine zC fun KC J hJ hKC => ?_); simp (maxSteps := 9999999) only [push_cast, seval, ↓reduceIte]) | ((with_reducible refine hJ _ _ ?_); clear hJ hKC KC J)
    refine zD ?_
    simp (maxSteps := 9999999) only [push_cast, seval, ↓reduceIte, show Tryz.f139.results = #[(.cell 2 40)] from rfl]
    exact Lq
   ·rw [if_neg (fun h : Lat us => by have := (zFU (p := fun a b => jmB us a b = true)).2 (fun a ha b hb => decide_eq_true (h a ha b hb)) k hk; rw [hkf] at this; cases this)]
    refine zD ?_
    simp (maxSteps := 9999999) only [push_cast, seval, ↓reduceIte, show Tryz.f139.results = #[(.cell 2 40)] from rfl]
    exact Lq
  ·have ho' : decide (Ord us) = false := decide_eq_false ho
   rw [show zAB ns us = 2 by rw [zAB, if_pos hm, if_neg ho]]
   repeat' first | (with_reducible first | refine zA ?_ | refine zB ?_ | refine zb ?_ | refine zAD ?_ | refine zF ?_ | refine zH ?_) | ((first | with_reducible refine zC fun KC J hJ hKC => ?_ | (refine' hKC _ _ _ _ _ (zE (zHN _ _ _ _ ?_ ?_) rfl rfl rfl ?_ ?_); (rotate_left 6); (· exact Lq); (rotate_left 1); (iterate 2 (· exact Hq))) | (refine' hKC _ _ _ _ _ (zE (zMY _ _ _ _ ?_ ?_ ?_) rfl rfl rfl ?_ ?_); (rotate_left 7); (· exact Lq); (rotate_left 1); (iterate 3 (· exact Hq)))); simp (maxSteps := 9999999) only [push_cast, seval, ↓reduceIte, hm, ho']) | ((with_reducible refine hJ _ _ ?_); clear hJ hKC KC J) | ((with_reducible refine zG ?_ ?_); · rfl) | ((with_reducible refine zI ?_ ?_); · rfl)
   refine zD ?_
   simp (maxSteps := 9999999) only [push_cast, seval, ↓reduceIte, show Tryz.f139.results = #[(.cell 2 40)] from rfl]
   exact zL _
 ·rw [show zAB ns us = 1 from if_neg hm]
  repeat' first | (with_reducible first | refine zA ?_ | refine zB ?_ | refine zb ?_ | refine zAD ?_ | refine zF ?_ | refine zH ?_) | ((first | with_reducible refine zC fun KC J hJ hKC => ?_ | (refine' hKC _ _ _ _ _ (zE (zHN _ _ _ _ ?_ ?_) rfl rfl rfl ?_ ?_); (rotate_left 6); (· exact Lq); (rotate_left 1); (iterate 2 (· exact Hq)))); simp (maxSteps := 9999999) only [push_cast, seval, ↓reduceIte, hm]) | ((with_reducible refine hJ _ _ ?_); clear hJ hKC KC J) | ((with_reducible refine zG ?_ ?_); · rfl)
  refine zD ?_
  simp (maxSteps := 9999999) only [push_cast, seval, ↓reduceIte, show Tryz.f139.results = #[(.cell 2 40)] from rfl]
  exact zL _
def zDS (l : List ByteArray) : List D := l.map fun s => .v (.string s)
def zMv (l : List Nat) : List D := l.map fun n => .v (.int .u32 (uv n))
@[push_cast] theorem zUz (l : List ByteArray) : zAc (zDS l) = true := by induction l with | nil => rfl | cons a l ih => simpa [zDS, zAc, frz, frz0] using ih
@[push_cast] theorem zVC (l : List Nat) : zAc (zMv l) = true := by induction l with | nil => rfl | cons a l ih => simpa [zMv, zAc, frz, frz0] using ih
@[push_cast] theorem zVX (k g sz : Nat) (c : List D) (l : List Nat) : (zMv l).map (fr1 k g sz c) = zMv l := by simp [zMv, fr1, fr0]
@[push_cast] theorem zVW (k g sz : Nat) (c : List D) (l : List ByteArray) : (zDS l).map (fr1 k g sz c) = zDS l := by simp [zDS, fr1, fr0]
theorem zGn {l : List D} {n : Nat} (h : l.length = n) : l.take (n * 1) = l := by rw [Nat.mul_one]; exact List.take_of_length_le (by omega)
theorem zEZ {α : Type} {xs ys : List α} (hl : xs.length = ys.length) (h : ∀ j, j < xs.length → xs[j]? = ys[j]?) : xs = ys :=
 List.ext_getElem? fun j => by
  by_cases hj : j < xs.length
  ·exact h j hj
  ·rw [List.getElem?_eq_none (by omega), List.getElem?_eq_none (by omega)]
def za (l : List (Int × Int)) : List (List D) := l.map fun e => [.v (.int .i64 e.1), .v (.int .i64 e.2)]
def zk (l : List (Int × Int)) : List D := (za l).flatten
@[push_cast] theorem zUC (l : List (Int × Int)) : (za l).length = l.length := by simp [za]
@[push_cast] theorem zVb (l : List (Int × Int)) (a b : Nat) : sub (za l) a b = za ((l.take b).drop a) := by simp [za, zEd]
theorem zBn {l : List (Int × Int)} {n : Nat} {x : Int × Int} (h : l[n]? = some x) : zFk (za l) n = [.v (.int .i64 x.1), .v (.int .i64 x.2)] := by unfold za; exact zBs _ _ _ _ h
theorem zAp (l : List (Int × Int)) : (zk l).length = l.length * 2 := by
 induction l with
 | nil => rfl
 | cons a l ih => simp [zk, za] at *; omega
theorem zGE (l m : List (Int × Int)) : zk (l ++ m) = zk l ++ zk m := by simp [zk, za]
@[push_cast] theorem zUf (l : List (Int × Int)) : zAc (zk l) = true := by
 induction l with
 | nil => rfl
 | cons a l ih => simpa [zk, za, zAc, frz, frz0] using ih
@[push_cast] theorem zVA (k g sz : Nat) (c : List D) (l : List (Int × Int)) : (zk l).map (fr1 k g sz c) = zk l := by
 induction l with
 | nil => rfl
 | cons a l ih => simpa [zk, za, fr1, fr0] using ih
theorem zGw (l : List (Int × Int)) : zAh 2 l.length (zk l) = za l := by
 induction l with
 | nil => rfl
 | cons a l ih => simpa [zk, za, zAh] using ih
theorem zHz {x y : Int × Int} : (x.1 == y.1 && x.2 == y.2) = decide (x = y) := by
 rw [Bool.eq_iff_iff]
 simp [Prod.ext_iff]
theorem zV (m : Nat → Option Nat) (l : List (Int × Int)) : (zk l).map (ren m) = zk l := by
 induction l with
 | nil => rfl
 | cons a l ih => simpa [zk, za, ren, ren2, ren1, ren0] using ih
theorem zHn {l : List (Int × Int)} (h : 0 < l.length) : zCo (za l) = false := by cases l with | nil => simp at h | cons _ _ => rfl
theorem zFB (l : List (Int × Int)) (n : Nat) : (zk l).take (n * 2) = zk (l.take n) := by
 induction l generalizing n with
 | nil => simp [zk, za]
 | cons a l ih => cases n with
  | zero => simp [zk, za]
  | succ n =>
   have : (n + 1) * 2 = n * 2 + 1 + 1 := by omega
   rw [this]
   have h2 := ih n
   simp [zk, za] at *
   exact h2
theorem zEv (l : List (Int × Int)) (n : Nat) : (zk l).drop (n * 2) = zk (l.drop n) := by
 induction l generalizing n with
 | nil => simp [zk, za]
 | cons a l ih => cases n with
  | zero => simp [zk, za]
  | succ n =>
   have : (n + 1) * 2 = n * 2 + 1 + 1 := by omega
   rw [this]
   have h2 := ih n
   simp [zk, za] at *
   exact h2
def zr (l : List (Int × Int × Int)) : List (List D) := l.map fun e => [.v (.int .i64 e.1), .v (.int .i64 e.2.1), .v (.int .i64 e.2.2)]
def zu (l : List (Int × Int × Int)) : List D := (zr l).flatten
@[push_cast] theorem zUE (l : List (Int × Int × Int)) : (zr l).length = l.length := by simp [zr]
@[push_cast] theorem zVR (l : List (Int × Int × Int)) (a b : Nat) : sub (zr l) a b = zr ((l.take b).drop a) := by simp [zr, zEd]
theorem zCx {l : List (Int × Int × Int)} {n : Nat} {x : Int × Int × Int} (h : l[n]? = some x) : zFk (zr l) n = [.v (.int .i64 x.1), .v (.int .i64 x.2.1), .v (.int .i64 x.2.2)] := by unfold zr; exact zBs _ _ _ _ h
def zj (l : List (Bool × Int × Int)) : List (List D) := l.map fun e => [.v (.bool e.1), .v (.int .i64 e.2.1), .v (.int .i64 e.2.2)]
def zi (l : List (Bool × Int × Int)) : List D := (zj l).flatten
@[push_cast] theorem zUB (l : List (Bool × Int × Int)) : (zj l).length = l.length := by simp [zj]
@[push_cast] theorem zVa (l : List (Bool × Int × Int)) (a b : Nat) : sub (zj l) a b = zj ((l.take b).drop a) := by simp [zj, zEd]
theorem zBm {l : List (Bool × Int × Int)} {n : Nat} {x : Bool × Int × Int} (h : l[n]? = some x) : zFk (zj l) n = [.v (.bool x.1), .v (.int .i64 x.2.1), .v (.int .i64 x.2.2)] := by unfold zj; exact zBs _ _ _ _ h
structure Sta where
 v : Int
 l : Int
 code : List (Int × Int × Int)
 mem : List (Int × Int)
 stack : List (Bool × Int × Int)
 out : List (Int × Int)
theorem zJx (f : Bool) (xs : List Int) (cf : Nat) (caps : List D) (p : Int → Bool) (hb : xs.length ≤ 9223372036854775807) (hc : zq caps = true)
  (hp : ∀ x ∈ xs, Fn Tryz.prog cf (.v (.int .i64 x) :: caps) [] (.v (.bool (p x))) []) : Fn Tryz.prog 271 [.sl f 1 (zM xs), .fn cf caps] [] (.v (.int .i64 (zEC p xs))) [] := by
 refine Fn.of (fn := Tryz.f271) (by kernel_rfl) rfl (by kernel_rfl) ⟨[.sl f 1 (zM xs), .fn cf caps, .v undef, .v undef, .v undef, .v undef, .v undef, .v undef, .v undef, .v undef, .v undef, .v undef, .v undef, .v undef, .v undef, .v undef, .v undef, .v undef, .v undef], []⟩ rfl ?_
 repeat' first | (with_reducible first | refine zA ?_ | refine zB ?_ | refine zH ?_) | ((with_reducible refine zC fun KC J hJ hKC => ?_); simp (maxSteps := 9999999) only [push_cast, seval, ↓reduceIte]) | ((with_reducible refine hJ _ _ ?_); clear hJ hKC KC J)
 refine zAI (γ := {i : Nat // i ≤ xs.length ∧ ∀ (j : Nat) (hj : j < xs.length), j < i → p xs[j] = false}) (fun i => ⟨[.sl f 1 (zM xs), .fn cf caps, .any, .any, .any, .any, .any, .v (.int .i64 xs.length), .v (.int .i64 i.1), .any, .any, .any, .any, .any, .any, .any, .any, .any, .any], []⟩) (fun i => xs.length - i.1) ⟨0, by simp⟩ ⟨?_, Fq⟩ ?_
 ·exact Lq
 ·rintro ⟨i, hi, hn⟩
  by_cases hlt : (i : Int) < (xs.length : Int)
  ·have hx : xs[i]? = some xs[i] := List.getElem?_eq_getElem (by omega)
   have hfn := hp xs[i] (List.getElem_mem (by omega))
   repeat' first | (with_reducible first | refine zA ?_ | refine zB ?_ | refine zb ?_ | refine zP ?_ | refine zAD ?_ | refine zF ?_ | refine zJ ?_ | refine zH ?_) | ((with_reducible refine And.intro ?_ ?_); · exact Sq) | ((first | with_reducible refine zC fun KC J hJ hKC => ?_ | (refine hKC _ _ _ _ _ (zE (hfn) rfl rfl rfl ?_ ?_); (· exact Lq))); simp (maxSteps := 9999999) only [push_cast, seval, ↓reduceIte, hlt, zAV hx, zo (i := i) (n := xs.length) (by omega) hb]) | ((with_reducible refine hJ _ _ ?_); clear hJ hKC KC J) | ((with_reducible refine zG ?_ ?_); · rfl) | (refine zAa rfl (fun h => ?_) (fun h => ?_) <;> try simp only [decide_eq_true_eq, decide_eq_false_iff_not, Bool.not_eq_true', Bool.not_eq_false', beq_iff_eq, bne_iff_ne, ne_eq, Bool.not_eq_true, Bool.or_eq_true, Bool.and_eq_true, Bool.or_eq_false_iff, Bool.and_eq_false_imp, beq_eq_false_iff_ne, bne_eq_false_iff_eq] at h)
   ·refine zD ?_
    simp (maxSteps := 9999999) only [push_cast, seval, ↓reduceIte, show Tryz.f271.results = #[(.tmp 4)] from rfl]
    exact zAk (by rw [zCz (by omega) h hn])
   ·refine ⟨⟨i + 1, by omega, fun j hj hji => ?_⟩, by simp only; omega, ?_, Fq⟩
    ·by_cases he : j = i
     ·subst he; exact h
     ·exact hn j hj (by omega)
    ·exact Lq
  ·skip
   repeat' first | (with_reducible first | refine zA ?_ | refine zB ?_ | refine zm ?_ | refine zl ?_ | refine zF ?_ | refine zZ ?_) | ((with_reducible refine zC fun KC J hJ hKC => ?_); simp (maxSteps := 9999999) only [push_cast, seval, ↓reduceIte, hlt]) | ((with_reducible refine hJ _ _ ?_); clear hJ hKC KC J) | ((with_reducible refine zI ?_ ?_); · rfl)
   refine zD ?_
   simp (maxSteps := 9999999) only [push_cast, seval, ↓reduceIte, show Tryz.f271.results = #[(.tmp 4)] from rfl]
   exact zAk (by rw [zBj (fun j hj => hn j hj (by omega))])
theorem zCy (f : Bool) (xs : List Int) (cf : Nat) (caps : List D) (p : Int → Bool) (hb : xs.length ≤ 9223372036854775807) (hc : zq caps = true)
  (hp : ∀ x ∈ xs, Fn Tryz.prog cf (.v (.int .i64 x) :: caps) [] (.v (.bool (p x))) []) : Fn Tryz.prog 208 [.sl f 1 (zM xs), .fn cf caps] [] (.v (.bool (xs.any p))) [] := by
 have hfn := zJx f xs cf caps p hb hc hp
 refine Fn.of (fn := Tryz.f208) (by kernel_rfl) rfl (by kernel_rfl) ⟨[.sl f 1 (zM xs), .fn cf caps, .v undef, .v undef, .v undef, .v undef, .v undef, .v undef, .v undef], []⟩ rfl ?_
 repeat' first | (with_reducible first | refine zA ?_ | refine zB ?_ | refine zF ?_) | ((first | with_reducible refine zC fun KC J hJ hKC => ?_ | (refine hKC _ _ _ _ _ (zE (hfn) rfl rfl rfl ?_ ?_); (· exact Lq))); simp (maxSteps := 9999999) only [push_cast, seval, ↓reduceIte, zEL]) | ((with_reducible refine hJ _ _ ?_); clear hJ hKC KC J)
 refine zD ?_
 simp (maxSteps := 9999999) only [push_cast, seval, ↓reduceIte, show Tryz.f208.results = #[(.tmp 4)] from rfl]
 exact zL _
def zv (n : Nat) (a : Int) : Bool := decide (a < 0) || decide ((n : Int) ≤ a)
theorem zBV {n : Nat} {a : Int} (h : zv n a = false) : ∃ b : Nat, a = (b : Int) ∧ b < n := by
 simp only [zv, Bool.or_eq_false_iff, decide_eq_false_iff_not] at h
 exact ⟨a.toNat, by omega, by omega⟩
theorem zOb (f g : Bool) (ns : List ByteArray) (us : List Nat) (a : Int) : Fn Tryz.prog 209 [.v (.int .i64 a), .fad [.sl f 1 (zS ns), .sl g 1 (zR us)]] [] (.v (.bool (zv us.length a))) [] := by
 refine Fn.of (fn := Tryz.f209) (by kernel_rfl) rfl (by kernel_rfl) ⟨[.v (.int .i64 a), .fad [.sl f 1 (zS ns), .sl g 1 (zR us)], .v undef, .v undef, .v undef, .v undef, .v undef, .v undef, .v undef, .v undef, .v undef, .v undef, .v undef], []⟩ rfl ?_
 obtain ⟨x, hx⟩ : ∃ x, decide (a < 0) = x := ⟨_, rfl⟩
 rw [zv, hx]
 cases x
 all_goals
  repeat' first | (with_reducible first | refine zA ?_ | refine zB ?_ | refine zF ?_) | ((with_reducible refine zC fun KC J hJ hKC => ?_); simp (maxSteps := 9999999) only [push_cast, seval, ↓reduceIte, hx, undef]) | ((with_reducible refine hJ _ _ ?_); clear hJ hKC KC J)
  refine zD ?_
  simp (maxSteps := 9999999) only [push_cast, seval, ↓reduceIte, show Tryz.f209.results = #[(.tmp 3)] from rfl]
  exact zL _
theorem zQJ (f g : Bool) (ns : List ByteArray) (us : List Nat) (a : Int) : Fn Tryz.prog 220 [.v (.int .i64 a), .fad [.sl f 1 (zS ns), .sl g 1 (zR us)]] [] (.v (.bool (zv us.length a))) [] := by
 refine Fn.of (fn := Tryz.f220) (by kernel_rfl) rfl (by kernel_rfl) ⟨[.v (.int .i64 a), .fad [.sl f 1 (zS ns), .sl g 1 (zR us)], .v undef, .v undef, .v undef, .v undef, .v undef, .v undef, .v undef, .v undef, .v undef, .v undef, .v undef], []⟩ rfl ?_
 obtain ⟨x, hx⟩ : ∃ x, decide (a < 0) = x := ⟨_, rfl⟩
 rw [zv, hx]
 cases x
 all_goals
  repeat' first | (with_reducible first | refine zA ?_ | refine zB ?_ | refine zF ?_) | ((with_reducible refine zC fun KC J hJ hKC => ?_); simp (maxSteps := 9999999) only [push_cast, seval, ↓reduceIte, hx, undef]) | ((with_reducible refine hJ _ _ ?_); clear hJ hKC KC J)
  refine zD ?_
  simp (maxSteps := 9999999) only [push_cast, seval, ↓reduceIte, show Tryz.f220.results = #[(.tmp 3)] from rfl]
  exact zL _
def zEt (ns : List ByteArray) (us : List Nat) (L : List Int) : Int := if zAB ns us = 0 then if L.any (zv us.length) = true then 9 else 0 else zAB ns us
theorem zUN (f g h : Bool) (ns : List ByteArray) (us : List Nat) (L : List Int) (hs : Szs ns) (hu : U32 us) (hl : L.length ≤ 1000) :
  Fn Tryz.prog 108 [.agg [.sl f 1 (zS ns), .sl g 1 (zR us)], .sl h 1 (zM L)] [] (.v (.int .i64 (zEt ns us L))) [] := by
 have hcf := zCy h L 209 [.fad [.sl f 1 (zS ns), .sl g 1 (zR us)]] (zv us.length) (by omega) rfl (fun x _ => zOb f g ns us x)
 refine Fn.of (fn := Tryz.f108) (by kernel_rfl) rfl (by kernel_rfl) ⟨[.agg [.sl f 1 (zS ns), .sl g 1 (zR us)], .sl h 1 (zM L), .v undef, .v undef, .v undef, .v undef, .v undef, .v undef, .v undef, .v undef, .v undef, .v undef, .v undef, .v undef], []⟩ rfl ?_
 by_cases hc : zAB ns us = 0
 ·obtain ⟨x, hx⟩ : ∃ x, L.any (zv us.length) = x := ⟨_, rfl⟩
  rw [zEt, if_pos hc, hx]
  cases x
  all_goals
   repeat' first | (refine zU 4 0 rfl (by (simp (maxSteps := 9999999) only [push_cast, seval, ↓reduceIte]) <;> rfl) ?_; simp (maxSteps := 9999999) only [push_cast, seval, ↓reduceIte, zAK, zh, fr3, fr2, fr1, fr0, zp, zn, hc, hx]) | (with_reducible first | refine zA ?_ | refine zB ?_ | refine zb ?_ | refine zF ?_ | refine zJ ?_) | ((first | with_reducible refine zC fun KC J hJ hKC => ?_ | (refine' hKC _ _ _ _ _ (zE (zBb _ _ _ _ ?_ ?_) rfl rfl rfl ?_ ?_); (rotate_left 6); (· exact Lq); (rotate_left 1); (iterate 2 (· exact Hq))) | (refine hKC _ _ _ _ _ (zE (hcf) rfl rfl rfl ?_ ?_); (· exact Lq))); simp (maxSteps := 9999999) only [push_cast, seval, ↓reduceIte, hc, hx]) | ((with_reducible refine hJ _ _ ?_); clear hJ hKC KC J) | ((with_reducible refine zG ?_ ?_); · rfl) | ((with_reducible refine zI ?_ ?_); · rfl)
   refine zD ?_
   simp (maxSteps := 9999999) only [push_cast, seval, ↓reduceIte, show Tryz.f108.results = #[(.tmp 4)] from rfl]
   exact Lq
 ·have hc' : (zAB ns us != 0) = true := by simpa using hc
  rw [zEt, if_neg hc]
  repeat' first | (with_reducible first | refine zA ?_ | refine zB ?_ | refine zb ?_ | refine zF ?_) | ((first | with_reducible refine zC fun KC J hJ hKC => ?_ | (refine' hKC _ _ _ _ _ (zE (zBb _ _ _ _ ?_ ?_) rfl rfl rfl ?_ ?_); (rotate_left 6); (· exact Lq); (rotate_left 1); (iterate 2 (· exact Hq)))); simp (maxSteps := 9999999) only [push_cast, seval, ↓reduceIte, hc']) | ((with_reducible refine hJ _ _ ?_); clear hJ hKC KC J) | ((with_reducible refine zG ?_ ?_); · rfl)
  refine zD ?_
  simp (maxSteps := 9999999) only [push_cast, seval, ↓reduceIte, show Tryz.f108.results = #[(.tmp 4)] from rfl]
  exact Lq
theorem zSK (f g h : Bool) (ns : List ByteArray) (us : List Nat) (L : List Int) (hs : Szs ns) (hu : U32 us) (hl : L.length ≤ 1000) :
  Fn Tryz.prog 115 [.agg [.sl f 1 (zS ns), .sl g 1 (zR us)], .sl h 1 (zM L)] [] (.v (.int .i64 (zEt ns us L))) [] := by
 have hcf := zCy h L 220 [.fad [.sl f 1 (zS ns), .sl g 1 (zR us)]] (zv us.length) (by omega) rfl (fun x _ => zQJ f g ns us x)
 refine Fn.of (fn := Tryz.f115) (by kernel_rfl) rfl (by kernel_rfl) ⟨[.agg [.sl f 1 (zS ns), .sl g 1 (zR us)], .sl h 1 (zM L), .v undef, .v undef, .v undef, .v undef, .v undef, .v undef, .v undef, .v undef, .v undef, .v undef, .v undef, .v undef], []⟩ rfl ?_
 by_cases hc : zAB ns us = 0
 ·obtain ⟨x, hx⟩ : ∃ x, L.any (zv us.length) = x := ⟨_, rfl⟩
  rw [zEt, if_pos hc, hx]
  cases x
  all_goals
   repeat' first | (refine zU 4 0 rfl (by (simp (maxSteps := 9999999) only [push_cast, seval, ↓reduceIte]) <;> rfl) ?_; simp (maxSteps := 9999999) only [push_cast, seval, ↓reduceIte, zAK, zh, fr3, fr2, fr1, fr0, zp, zn, hc, hx]) | (with_reducible first | refine zA ?_ | refine zB ?_ | refine zb ?_ | refine zF ?_ | refine zJ ?_) | ((first | with_reducible refine zC fun KC J hJ hKC => ?_ | (refine' hKC _ _ _ _ _ (zE (zBb _ _ _ _ ?_ ?_) rfl rfl rfl ?_ ?_); (rotate_left 6); (· exact Lq); (rotate_left 1); (iterate 2 (· exact Hq))) | (refine hKC _ _ _ _ _ (zE (hcf) rfl rfl rfl ?_ ?_); (· exact Lq))); simp (maxSteps := 9999999) only [push_cast, seval, ↓reduceIte, hc, hx]) | ((with_reducible refine hJ _ _ ?_); clear hJ hKC KC J) | ((with_reducible refine zG ?_ ?_); · rfl) | ((with_reducible refine zI ?_ ?_); · rfl)
   refine zD ?_
   simp (maxSteps := 9999999) only [push_cast, seval, ↓reduceIte, show Tryz.f115.results = #[(.tmp 4)] from rfl]
   exact Lq
 ·have hc' : (zAB ns us != 0) = true := by simpa using hc
  rw [zEt, if_neg hc]
  repeat' first | (with_reducible first | refine zA ?_ | refine zB ?_ | refine zb ?_ | refine zF ?_) | ((first | with_reducible refine zC fun KC J hJ hKC => ?_ | (refine' hKC _ _ _ _ _ (zE (zBb _ _ _ _ ?_ ?_) rfl rfl rfl ?_ ?_); (rotate_left 6); (· exact Lq); (rotate_left 1); (iterate 2 (· exact Hq)))); simp (maxSteps := 9999999) only [push_cast, seval, ↓reduceIte, hc']) | ((with_reducible refine hJ _ _ ?_); clear hJ hKC KC J) | ((with_reducible refine zG ?_ ?_); · rfl)
  refine zD ?_
  simp (maxSteps := 9999999) only [push_cast, seval, ↓reduceIte, show Tryz.f115.results = #[(.tmp 4)] from rfl]
  exact Lq
theorem zHR (f g : Bool) (ns : List ByteArray) (us : List Nat) (a b : Nat) (hs : Szs ns) (hu : U32 us) (hc : zAB ns us = 0) (ha : a < us.length) (hb : b < us.length) :
  Fn Tryz.prog 217 [.agg [.sl f 1 (zS ns), .sl g 1 (zR us)], .v (.int .i64 (a : Int)), .v (.int .i64 (b : Int))] [] (.tup [.v (.bool (fl us a b)), .v (.int .i64 0)]) [] := by
 have hm : zEt ns us [(a : Int), (b : Int)] = 0 := by
  rw [zEt, if_pos hc, if_neg]
  simp [zv]
  omega
 have hth := zSK f g true ns us [(a : Int), (b : Int)] hs hu (by simp)
 rw [hm] at hth
 refine Fn.of (fn := Tryz.f217) (by kernel_rfl) rfl (by kernel_rfl) ⟨[.agg [.sl f 1 (zS ns), .sl g 1 (zR us)], .v (.int .i64 (a : Int)), .v (.int .i64 (b : Int)), .v undef, .v undef, .v undef, .v undef, .v undef, .v undef, .v undef, .v undef, .v undef, .v undef, .v undef, .v undef, .v undef, .v undef, .v undef, .v undef, .v undef, .v undef], []⟩ rfl ?_
 repeat' first | (with_reducible first | refine zA ?_ | refine zB ?_ | refine zF ?_ | refine zJ ?_) | ((first | with_reducible refine zC fun KC J hJ hKC => ?_ | (refine' hKC _ _ _ _ _ (zE (zDD _ _ _ _ _ _ ?_ ?_) rfl rfl rfl ?_ ?_); (rotate_left 8); (· exact Lq); (rotate_left 1); (iterate 2 (· exact Hq))) | (refine hKC _ _ _ _ _ (zE (hth) rfl rfl rfl ?_ ?_); (· exact Lq))); simp (maxSteps := 9999999) only [push_cast, seval, ↓reduceIte]) | ((with_reducible refine hJ _ _ ?_); clear hJ hKC KC J) | ((with_reducible refine zI ?_ ?_); · rfl)
 refine zD ?_
 simp (maxSteps := 9999999) only [push_cast, seval, ↓reduceIte, show Tryz.f217.results = #[(.tmp 6), (.tmp 7)] from rfl]
 exact Lq
theorem zBS (f g : Bool) (ns : List ByteArray) (us : List Nat) (a o : Nat) (hs : Szs ns) (hu : U32 us) (hc : zAB ns us = 0) (ha : a < us.length) (ho : o < us.length) :
  Fn Tryz.prog 112 [.agg [.sl f 1 (zS ns), .sl g 1 (zR us), .v (.int .i64 (o : Int))], .v (.int .i64 (a : Int))] [] (.v (.bool (fl us a o))) [] := by
 refine Fn.of (fn := Tryz.f112) (by kernel_rfl) rfl (by kernel_rfl) ⟨[.agg [.sl f 1 (zS ns), .sl g 1 (zR us), .v (.int .i64 (o : Int))], .v (.int .i64 (a : Int)), .v undef, .v undef, .v undef, .v undef, .v undef, .v undef, .v undef, .v undef, .v undef, .v undef, .v undef, .v undef, .v undef, .v undef, .v undef], []⟩ rfl ?_
 repeat' first | (with_reducible first | refine zA ?_ | refine zB ?_ | refine zF ?_) | ((first | with_reducible refine zC fun KC J hJ hKC => ?_ | (refine' hKC _ _ _ _ _ (zE (zHR _ _ _ _ _ _ ?_ ?_ ?_ ?_ ?_) rfl rfl rfl ?_ ?_); (rotate_left 11); (· exact Lq); (rotate_left 1); (iterate 5 (· exact Hq)))); simp (maxSteps := 9999999) only [push_cast, seval, ↓reduceIte]) | ((with_reducible refine hJ _ _ ?_); clear hJ hKC KC J)
 refine zD ?_
 simp (maxSteps := 9999999) only [push_cast, seval, ↓reduceIte, show Tryz.f112.results = #[(.tmp 4)] from rfl]
 exact zL _
def zw (l : List Int) : List D := l.map fun x => .v (.int .i64 x)
theorem zAL (l : List Int) : (zw l).length = l.length := by simp [zw]
theorem zAE (m : Nat → Option Nat) (l : List Int) : (zw l).map (ren m) = zw l := by simp [zw, ren, ren2, ren1, ren0]
@[push_cast] theorem zPq (l : List Int) : zAc (zw l) = true := by induction l with | nil => rfl | cons a l ih => simpa [zw, zAc, frz, frz0] using ih
@[push_cast] theorem zVK (k g sz : Nat) (c : List D) (l : List Int) : (zw l).map (fr1 k g sz c) = zw l := by simp [zw, fr1, fr0]
theorem zFb (l : List Int) : zAh 1 l.length (zw l) = zM l := zHI (fun x : Int => (.v (.int .i64 x) : D)) l
theorem zEW (l m : List Int) : zw (l ++ m) = zw l ++ zw m := by simp [zw]
theorem zTB (f g : Bool) (ns : List ByteArray) (us : List Nat) (L : List Int) (ge n : Nat) (hn : L.length = n) (hs : Szs ns) (hu : U32 us) (hl : L.length ≤ 1000) :
  Fn Tryz.prog 108 [.agg [.sl f 1 (zS ns), .sl g 1 (zR us)], .ref 0 ge n] [.ent ⟨ge, some 1, 3, zw L, .cells⟩] (.v (.int .i64 (zEt ns us L))) [.dead] := by
 have hcf := zCy false L 209 [.fad [.sl f 1 (zS ns), .sl g 1 (zR us)]] (zv us.length) (by omega) rfl (fun x _ => zOb f g ns us x)
 have hbm : Nat.beq ge ge = true := Nat.beq_refl ge
 have hlC : (zw L).length = n := by rw [zAL, hn]
 have hcI : zAh 1 n (zw L) = zM L := by rw [← hn]; exact zFb L
 refine Fn.of (fn := Tryz.f108) (by kernel_rfl) rfl (by kernel_rfl) ⟨[.agg [.sl f 1 (zS ns), .sl g 1 (zR us)], .ref 0 ge n, .v undef, .v undef, .v undef, .v undef, .v undef, .v undef, .v undef, .v undef, .v undef, .v undef, .v undef, .v undef], [.ent ⟨ge, some 1, 3, zw L, .cells⟩]⟩ rfl ?_
 refine zAf 0 rfl (by simp (maxSteps := 9999999) only [push_cast, seval, ↓reduceIte]) ?_
 simp (maxSteps := 9999999) only [push_cast, seval, ↓reduceIte, zAK, zh, fr3, fr2, fr1, fr0, zp, zn, hbm, hlC, hcI]
 by_cases hc : zAB ns us = 0
 ·obtain ⟨x, hx⟩ : ∃ x, L.any (zv us.length) = x := ⟨_, rfl⟩
  rw [zEt, if_pos hc, hx]
  cases x
  all_goals
   repeat' first | (refine zU 4 1 rfl (by (simp (maxSteps := 9999999) only [push_cast, seval, ↓reduceIte]) <;> rfl) ?_; simp (maxSteps := 9999999) only [push_cast, seval, ↓reduceIte, zAK, zh, fr3, fr2, fr1, fr0, zp, zn, hc, hx]) | (with_reducible first | refine zA ?_ | refine zB ?_ | refine zb ?_ | refine zF ?_ | refine zJ ?_) | ((first | with_reducible refine zC fun KC J hJ hKC => ?_ | (refine' hKC _ _ _ _ _ (zE (zBb _ _ _ _ ?_ ?_) rfl rfl rfl ?_ ?_); (rotate_left 6); (· exact Lq); (rotate_left 1); (iterate 2 (· exact Hq))) | (refine hKC _ _ _ _ _ (zE (hcf) rfl rfl rfl ?_ ?_); (· exact Lq))); simp (maxSteps := 9999999) only [push_cast, seval, ↓reduceIte, hc, hx]) | ((with_reducible refine hJ _ _ ?_); clear hJ hKC KC J) | ((with_reducible refine zG ?_ ?_); · rfl) | ((with_reducible refine zI ?_ ?_); · rfl)
   refine zd ?_
   simp (maxSteps := 9999999) only [push_cast, seval, ↓reduceIte, show Tryz.f108.results = #[(.tmp 4)] from rfl]
   exact ⟨rfl, zL _⟩
 ·have hc' : (zAB ns us != 0) = true := by simpa using hc
  rw [zEt, if_neg hc]
  repeat' first | (with_reducible first | refine zA ?_ | refine zB ?_ | refine zb ?_ | refine zF ?_) | ((first | with_reducible refine zC fun KC J hJ hKC => ?_ | (refine' hKC _ _ _ _ _ (zE (zBb _ _ _ _ ?_ ?_) rfl rfl rfl ?_ ?_); (rotate_left 6); (· exact Lq); (rotate_left 1); (iterate 2 (· exact Hq)))); simp (maxSteps := 9999999) only [push_cast, seval, ↓reduceIte, hc']) | ((with_reducible refine hJ _ _ ?_); clear hJ hKC KC J) | ((with_reducible refine zG ?_ ?_); · rfl)
  refine zd ?_
  simp (maxSteps := 9999999) only [push_cast, seval, ↓reduceIte, show Tryz.f108.results = #[(.tmp 4)] from rfl]
  exact ⟨rfl, zL _⟩
theorem zTl (f : Bool) (l : List Int) : Fn Tryz.prog 276 [.sl f 1 (zM l)] [] (.sl true 1 (zM l)) [] := by
 refine Fn.of (fn := Tryz.f276) (by kernel_rfl) rfl (by kernel_rfl) ⟨[.sl f 1 (zM l), .v undef, .v undef, .v undef, .v undef, .v undef, .v undef, .v undef, .v undef], []⟩ rfl ?_
 repeat' first | (with_reducible first | refine zA ?_ | refine zB ?_ | refine zF ?_) | ((with_reducible refine And.intro ?_ ?_); · exact Sq) | ((with_reducible refine zC fun KC J hJ hKC => ?_); simp (maxSteps := 9999999) only [push_cast, seval, ↓reduceIte]) | ((with_reducible refine hJ _ _ ?_); clear hJ hKC KC J)
 refine zD ?_
 simp (maxSteps := 9999999) only [push_cast, seval, ↓reduceIte, show Tryz.f276.results = #[(.tmp 2)] from rfl]
 rw [List.take_length]
 exact zL _
structure Dr where
 l : List Int
 a : Int
 g : List Int
 deriving DecidableEq
def Dr.z : Dr := ⟨[], 0, []⟩
def Dr.ok (d : Dr) : Bool := zAg d.l d.g d.a
def zBK (f g : Bool) (d : Dr) : D := .agg [.sl f 1 (zM d.l), .v (.int .i64 d.a), .sl g 1 (zM d.g)]
def zAP (d : Dr) (b : Int) : Dr × Int × Int :=
 if zAg d.l d.g d.a = false ∨ b < 1 then (Dr.z, 0, 1)
 else if d.g.length = 2000 then (Dr.z, 0, 8)
 else (⟨d.l, (if d.a < d.l.length then d.a + 1 else d.a), d.g ++ [zBY d.l d.a b]⟩, zBY d.l d.a b, 0)
theorem zPL {l lg : List Int} {a b : Int} (h1 : zAg l lg a = true) (h2 : ¬ b < 1) (h3 : ¬ (lg.length : Int) = 2000) :
  zAP ⟨l, a, lg⟩ b = (⟨l, (if a < l.length then a + 1 else a), lg ++ [zBY l a b]⟩, zBY l a b, 0) := by
 unfold zAP
 have hn : ¬ (zAg l lg a = false ∨ b < 1) := by
  rintro (h | h)
  ·rw [h1] at h; cases h
  ·exact h2 h
 rw [if_neg hn, if_neg (by simp only; omega)]
theorem zGo (f g : Bool) (l lg : List Int) (a b : Int) (hB : b ≤ 9223372036854775807) :
  Fn Tryz.prog 227 [.agg [.sl f 1 (zM l), .v (.int .i64 a), .sl g 1 (zM lg)], .v (.int .i64 b)] []
   (.tup [zBK f false (zAP ⟨l, a, lg⟩ b).1, .v (.int .i64 (zAP ⟨l, a, lg⟩ b).2.1), .v (.int .i64 (zAP ⟨l, a, lg⟩ b).2.2)]) [] := by
 refine Fn.of (fn := Tryz.f227) (by kernel_rfl) rfl (by kernel_rfl) ⟨[.agg [.sl f 1 (zM l), .v (.int .i64 a), .sl g 1 (zM lg)], .v (.int .i64 b), .v undef, .v undef, .v undef, .v undef, .v undef, .v undef, .v undef, .v undef, .v undef, .v undef, .v undef, .v undef, .v undef, .v undef, .v undef, .v undef, .v undef, .v undef, .v undef, .v undef, .v undef, .v undef, .v undef, .v undef, .v undef, .v undef, .v undef, .v undef, .v undef, .v undef, .v undef, .v undef, .v undef, .v undef, .v undef, .v undef, .v undef, .v undef, .v undef, .v undef, .v undef, .v undef, .v undef], []⟩ rfl ?_
 by_cases hr : zAg l lg a = true
 ·have h0 : 0 ≤ a ∧ l.length ≤ 500 ∧ lg.length ≤ 2000 := by simp [zAg] at hr; omega
  repeat' first | (with_reducible first | refine zA ?_ | refine zB ?_ | refine zP ?_ | refine zJ ?_ | refine zH ?_) | ((with_reducible refine And.intro ?_ ?_); · exact Sq) | ((first | with_reducible refine zC fun KC J hJ hKC => ?_ | (refine' hKC _ _ _ _ _ (zE (zEl _ _ _ _ _) rfl rfl rfl ?_ ?_); (rotate_left 5); (· exact Lq)) | (refine' hKC _ _ _ _ _ (zE (zQG _ _ _ _ _ _ ?_ ?_ ?_) rfl rfl rfl ?_ ?_); (rotate_left 9); (· exact Lq); (rotate_left 1); (iterate 3 (· exact Hq))) | (refine' hKC _ _ _ _ _ (zE (zTl _ _) rfl rfl rfl ?_ ?_); (rotate_left 2); (· exact Lq))); simp (maxSteps := 9999999) only [push_cast, seval, ↓reduceIte, hr]) | ((with_reducible refine hJ _ _ ?_); clear hJ hKC KC J) | (refine zAa rfl (fun h => ?_) (fun h => ?_) <;> try simp only [decide_eq_true_eq, decide_eq_false_iff_not, Bool.not_eq_true', Bool.not_eq_false', beq_iff_eq, bne_iff_ne, ne_eq, Bool.not_eq_true, Bool.or_eq_true, Bool.and_eq_true, Bool.or_eq_false_iff, Bool.and_eq_false_imp, beq_eq_false_iff_ne, bne_eq_false_iff_eq] at h)
  ·refine zF ?_
   refine zD ?_
   simp (maxSteps := 9999999) only [push_cast, seval, ↓reduceIte, show Tryz.f227.results = #[(.cell 4 30), (.tmp 5), (.tmp 6)] from rfl]
   simp only [zAP, hr, if_pos h, Bool.true_eq_false, false_or, zBK, Dr.z]
   exact Lq
  ·refine zF ?_
   refine zD ?_
   simp (maxSteps := 9999999) only [push_cast, seval, ↓reduceIte, show Tryz.f227.results = #[(.cell 4 30), (.tmp 5), (.tmp 6)] from rfl]
   simp only [zAP, hr, Bool.true_eq_false, false_or, zBK, Dr.z]
   rw [if_neg (by assumption), if_pos (by omega)]
   exact Lq
  ·refine zAf 6 rfl (by simp (maxSteps := 9999999) only [push_cast, seval, ↓reduceIte]) ?_
   simp (maxSteps := 9999999) only [push_cast, seval, ↓reduceIte, zAK, zh, fr3, fr2, fr1, fr0, zp, zn]
   refine zF ?_
   refine zD ?_
   simp (maxSteps := 9999999) only [push_cast, seval, ↓reduceIte, show Tryz.f227.results = #[(.cell 4 30), (.tmp 5), (.tmp 6)] from rfl]
   simp only [zAP, hr, Bool.true_eq_false, false_or, zBK]
   rw [if_neg (by assumption), if_neg (by omega), zBq (by omega) (by omega)]
   simp only [if_pos h]
   exact Lq
  ·refine zAf 6 rfl (by simp (maxSteps := 9999999) only [push_cast, seval, ↓reduceIte]) ?_
   simp (maxSteps := 9999999) only [push_cast, seval, ↓reduceIte, zAK, zh, fr3, fr2, fr1, fr0, zp, zn]
   refine zF ?_
   refine zD ?_
   simp (maxSteps := 9999999) only [push_cast, seval, ↓reduceIte, show Tryz.f227.results = #[(.cell 4 30), (.tmp 5), (.tmp 6)] from rfl]
   simp only [zAP, hr, Bool.true_eq_false, false_or, zBK]
   rw [if_neg (by assumption), if_neg (by omega)]
   simp only [if_neg h]
   exact Lq
 ·have hr' : zAg l lg a = false := by simpa using hr
  repeat' first | (with_reducible first | refine zA ?_ | refine zB ?_ | refine zb ?_ | refine zAD ?_ | refine zF ?_ | refine zH ?_) | ((first | with_reducible refine zC fun KC J hJ hKC => ?_ | (refine' hKC _ _ _ _ _ (zE (zEl _ _ _ _ _) rfl rfl rfl ?_ ?_); (rotate_left 5); (· exact Lq))); simp (maxSteps := 9999999) only [push_cast, seval, ↓reduceIte, hr']) | ((with_reducible refine hJ _ _ ?_); clear hJ hKC KC J) | ((with_reducible refine zG ?_ ?_); · rfl)
  all_goals
   refine zD ?_
   simp (maxSteps := 9999999) only [push_cast, seval, ↓reduceIte, show Tryz.f227.results = #[(.cell 4 30), (.tmp 5), (.tmp 6)] from rfl]
   simp only [zAP, hr', true_or, if_true, zBK, Dr.z]
   exact Lq
def zUi (f g : Bool) (t : Dr × Int × Int) : D := .agg [.sl f 1 (zM t.1.l), .v (.int .i64 t.1.a), .sl g 1 (zM t.1.g), .v (.int .i64 t.2.1), .v (.slice none 0 0), .v (.int .i64 t.2.2)]
def zGC : List Int → List Int → Int
 | [], [] => 0
 | [], _ :: _ => -1
 | _ :: _, [] => 1
 | x :: xs, y :: ys => if zEw x y ≠ 0 then zEw x y else zGC xs ys
def zNi (xs ys : List Int) : Int := if zEw xs.length ys.length ≠ 0 then zEw xs.length ys.length else zGC xs ys
theorem zFh {x y : Int} : zEw x y = 0 ↔ x = y := by
 unfold zEw
 split
 ·omega
 ·split <;> omega
theorem zKr : ∀ {xs ys : List Int}, zGC xs ys = 0 ↔ xs = ys
 | [], [] => by simp [zGC]
 | [], _ :: _ => by simp [zGC]
 | _ :: _, [] => by simp [zGC]
 | x :: xs, y :: ys => by
  simp only [zGC, List.cons.injEq]
  by_cases h : zEw x y = 0
  ·have ih := @zKr xs ys
   have hxy := zFh.1 h
   have hyy : zEw y y = 0 := zFh.2 rfl
   simp [h, ih, hxy, hyy]
  ·simp only [ne_eq, h, not_false_eq_true, if_true]
   have : x ≠ y := fun e => h (zFh.2 e)
   simp [this]
theorem zQI {xs ys : List Int} : zNi xs ys = 0 ↔ xs = ys := by
 unfold zNi
 by_cases h : zEw xs.length ys.length = 0
 ·simp [h, zKr]
 ·simp only [ne_eq, h, not_false_eq_true, if_true, false_iff]
  intro e; subst e; exact h (zFh.2 rfl)
theorem zQe {xs ys : List Int} {i : Nat} (h1 : i < xs.length) (h2 : i < ys.length) (he : zGC xs ys = zGC (xs.drop i) (ys.drop i)) :
  zGC xs ys = if zEw xs[i] ys[i] ≠ 0 then zEw xs[i] ys[i] else zGC (xs.drop (i + 1)) (ys.drop (i + 1)) := by
 rw [he, List.drop_eq_getElem_cons h1, List.drop_eq_getElem_cons h2]
 rfl
theorem zTC (f g : Bool) (xs ys : List Int) (hb : xs.length ≤ 9223372036854775807) : Fn Tryz.prog 55 [.sl f 1 (zM xs), .sl g 1 (zM ys)] [] (.v (.int .i64 (zNi xs ys))) [] := by
 refine Fn.of (fn := Tryz.f55) (by kernel_rfl) rfl (by kernel_rfl) ⟨[.sl f 1 (zM xs), .sl g 1 (zM ys), .v undef, .v undef, .v undef, .v undef, .v undef, .v undef, .v undef, .v undef, .v undef, .v undef, .v undef, .v undef, .v undef, .v undef, .v undef, .v undef, .v undef, .v undef, .v undef, .v undef, .v undef, .v undef, .v undef, .v undef, .v undef, .v undef, .v undef, .v undef, .v undef, .v undef, .v undef, .v undef, .v undef, .v undef, .v undef, .v undef, .v undef, .v undef], []⟩ rfl ?_
 repeat' first | (with_reducible first | refine zA ?_ | refine zB ?_ | refine zb ?_ | refine zF ?_ | refine zJ ?_ | refine zH ?_) | ((with_reducible refine zC fun KC J hJ hKC => ?_); simp (maxSteps := 9999999) only [push_cast, seval, ↓reduceIte]) | ((with_reducible refine hJ _ _ ?_); clear hJ hKC KC J) | (refine zAa rfl (fun h => ?_) (fun h => ?_) <;> try simp only [decide_eq_true_eq, decide_eq_false_iff_not, Bool.not_eq_true', Bool.not_eq_false', beq_iff_eq, bne_iff_ne, ne_eq, Bool.not_eq_true, Bool.or_eq_true, Bool.and_eq_true, Bool.or_eq_false_iff, Bool.and_eq_false_imp, beq_eq_false_iff_ne, bne_eq_false_iff_eq] at h)
 ·refine zD ?_
  simp (maxSteps := 9999999) only [push_cast, seval, ↓reduceIte, show Tryz.f55.results = #[(.tmp 4)] from rfl]
  exact zAk (by simp [zNi, zEw, h])
 ·refine zD ?_
  simp (maxSteps := 9999999) only [push_cast, seval, ↓reduceIte, show Tryz.f55.results = #[(.tmp 4)] from rfl]
  have e1 : ¬ xs.length < ys.length := by omega
  have e2 : ys.length < xs.length := by omega
  exact zAk (by simp [zNi, zEw, e1, e2])
 ·have hl : xs.length = ys.length := by omega
  have hR : zNi xs ys = zGC xs ys := by simp [zNi, zEw, hl]
  refine zAI (γ := {i : Nat // i ≤ xs.length ∧ zGC xs ys = zGC (xs.drop i) (ys.drop i)}) (fun i => ⟨[.sl f 1 (zM xs), .sl g 1 (zM ys), .any, .any, .any, .any, .any, .any, .any, .any, .any, .any, .any, .any, .any, .any, .any, .v (.int .i64 xs.length), .v (.int .i64 i.1), .any, .any, .any, .any, .any, .any, .any, .any, .any, .any, .any, .any, .any, .any, .any, .any, .any, .any, .any, .any, .any], []⟩) (fun i => xs.length - i.1) ⟨0, by simp⟩ ⟨?_, Fq⟩ ?_
  ·exact Lq
  ·rintro ⟨i, hi, he⟩
   by_cases hlt : (i : Int) < (xs.length : Int)
   ·have hx : xs[i]? = some xs[i] := List.getElem?_eq_getElem (by omega)
    have hy : ys[i]? = some ys[i] := List.getElem?_eq_getElem (by omega)
    have hd := zQe (by omega) (by omega) he
    repeat' first | (with_reducible first | refine zA ?_ | refine zB ?_ | refine zb ?_ | refine zP ?_ | refine zAD ?_ | refine zF ?_ | refine zJ ?_ | refine zH ?_) | ((with_reducible refine And.intro ?_ ?_); · exact Sq) | ((first | with_reducible refine zC fun KC J hJ hKC => ?_ | with_reducible refine zY rfl fun KC J hJ hKC => ?_); simp (maxSteps := 9999999) only [push_cast, seval, ↓reduceIte, hlt, zAV hx, zAV hy, zo (i := i) (n := xs.length) (by omega) hb]) | ((first | with_reducible refine hJ _ _ ?_ | (with_reducible refine hJ _ _ ?_ ?_; · kernel_rfl)); clear hJ hKC KC J) | ((with_reducible refine zG ?_ ?_); · rfl) | (refine zAa rfl (fun h => ?_) (fun h => ?_) <;> try simp only [decide_eq_true_eq, decide_eq_false_iff_not, Bool.not_eq_true', Bool.not_eq_false', beq_iff_eq, bne_iff_ne, ne_eq, Bool.not_eq_true, Bool.or_eq_true, Bool.and_eq_true, Bool.or_eq_false_iff, Bool.and_eq_false_imp, beq_eq_false_iff_ne, bne_eq_false_iff_eq] at h)
    ·refine zD ?_
     simp (maxSteps := 9999999) only [push_cast, seval, ↓reduceIte, show Tryz.f55.results = #[(.tmp 4)] from rfl]
     exact zAk (by rw [hR, hd]; simp [zEw, h])
    ·refine zD ?_
     simp (maxSteps := 9999999) only [push_cast, seval, ↓reduceIte, show Tryz.f55.results = #[(.tmp 4)] from rfl]
     exact zAk (by rw [hR, hd]; simp [zEw, *])
    ·refine ⟨⟨i + 1, by omega, ?_⟩, by simp only; omega, ?_, Fq⟩
     ·rw [hd]; simp [zEw, *]
     ·exact Lq
   ·have e1 : xs.drop i = [] := List.drop_eq_nil_of_le (by omega)
    have e2 : ys.drop i = [] := List.drop_eq_nil_of_le (by omega)
    repeat' first | (with_reducible first | refine zA ?_ | refine zB ?_ | refine zm ?_ | refine zl ?_ | refine zF ?_ | refine zZ ?_) | ((with_reducible refine zC fun KC J hJ hKC => ?_); simp (maxSteps := 9999999) only [push_cast, seval, ↓reduceIte, hlt]) | ((with_reducible refine hJ _ _ ?_); clear hJ hKC KC J) | ((with_reducible refine zI ?_ ?_); · rfl)
    refine zD ?_
    simp (maxSteps := 9999999) only [push_cast, seval, ↓reduceIte, show Tryz.f55.results = #[(.tmp 4)] from rfl]
    exact zAk (by rw [hR, he, e1, e2]; simp [zGC])
theorem zRh (f g : Bool) (xs ys : List Int) (hb : xs.length ≤ 9223372036854775807) : Fn Tryz.prog 15 [.sl f 1 (zM xs), .sl g 1 (zM ys)] [] (.v (.bool (decide (xs = ys)))) [] := by
 refine Fn.of (fn := Tryz.f15) (by kernel_rfl) rfl (by kernel_rfl) ⟨[.sl f 1 (zM xs), .sl g 1 (zM ys), .v undef, .v undef, .v undef, .v undef, .v undef, .v undef, .v undef], []⟩ rfl ?_
 repeat' first | (with_reducible first | refine zA ?_ | refine zB ?_ | refine zF ?_) | ((first | with_reducible refine zC fun KC J hJ hKC => ?_ | (refine' hKC _ _ _ _ _ (zE (zTC _ _ _ _ ?_) rfl rfl rfl ?_ ?_); (rotate_left 5); (· exact Lq); (rotate_left 1); (iterate 1 (· exact Hq)))); simp (maxSteps := 9999999) only [push_cast, seval, ↓reduceIte]) | ((with_reducible refine hJ _ _ ?_); clear hJ hKC KC J)
 refine zD ?_
 simp (maxSteps := 9999999) only [push_cast, seval, ↓reduceIte, show Tryz.f15.results = #[(.tmp 4)] from rfl]
 refine zAk (congrArg Value.bool (Bool.eq_iff_iff.2 ?_))
 simp [zQI]
attribute [push_cast] zBK zUi
theorem zTh (n : Int) : zDx .and .i64 n 1 = n % 2 := by
 have h : (BitVec.ofInt 64 n &&& BitVec.ofInt 64 1).toNat = (n % 2).toNat := by
  rw [BitVec.toNat_and, BitVec.toNat_ofInt, BitVec.toNat_ofInt]
  rw [show ((1 : Int) % ((2 ^ 64 : Nat) : Int)).toNat = 1 from by decide, Nat.and_one_is_mod]
  omega
 show IntKind.i64.wrap ((BitVec.ofInt 64 n &&& BitVec.ofInt 64 1).toNat : Int) = n % 2
 rw [h, zBq (by omega) (by omega)]
 omega
theorem zFq (l : List Int) (a : Int) {b : Int} (hb : 1 ≤ b) : 0 ≤ zBY l a b ∧ zBY l a b < b := by
 unfold zBY
 split
 ·exact ⟨Int.emod_nonneg _ (by omega), Int.emod_lt_of_pos _ (by omega)⟩
 ·omega
def zFp (n : Int) : Int := if n % 2 = 1 then (n + 1) / 2 else - (n / 2)
def zCG (d : Dr) (most : Int) : Dr × Int × Int :=
 if most < 0 ∨ 20 < most then (Dr.z, 0, 1)
 else if (zAP d (2 * most + 1)).2.2 = 0 then ((zAP d (2 * most + 1)).1, zFp (zAP d (2 * most + 1)).2.1, 0) else (Dr.z, 0, (zAP d (2 * most + 1)).2.2)
theorem zMt (d : Dr) (b : Int) : (∃ e, zAP d b = (Dr.z, 0, e) ∧ e ≠ 0) ∨ ((zAP d b).2.2 = 0 ∧ 1 ≤ b ∧ zAg d.l d.g d.a = true ∧ (zAP d b).2.1 = zBY d.l d.a b) := by
 unfold zAP
 split
 ·exact .inl ⟨1, rfl, by decide⟩
 ·rename_i h
  split
  ·exact .inl ⟨8, rfl, by decide⟩
  ·refine .inr ⟨rfl, by omega, ?_, rfl⟩
   cases hr : zAg d.l d.g d.a with
   | true => rfl
   | false => exact absurd (.inl hr) h
theorem zKo (d : Dr) (b : Int) (hb : 1 ≤ b) : 0 ≤ (zAP d b).2.1 ∧ (zAP d b).2.1 < b := by
 rcases zMt d b with ⟨e, h, _⟩ | ⟨_, _, _, h⟩
 ·rw [h]; simp only; omega
 ·rw [h]; exact zFq _ _ hb
theorem zHB (f g : Bool) (l lg : List Int) (a most : Int) :
  Fn Tryz.prog 274 [.agg [.sl f 1 (zM l), .v (.int .i64 a), .sl g 1 (zM lg)], .v (.int .i64 most)] []
   (.tup [zBK f false (zCG ⟨l, a, lg⟩ most).1, .v (.int .i64 (zCG ⟨l, a, lg⟩ most).2.1), .v (.int .i64 (zCG ⟨l, a, lg⟩ most).2.2)]) [] := by
 refine Fn.of (fn := Tryz.f274) (by kernel_rfl) rfl (by kernel_rfl) ⟨[.agg [.sl f 1 (zM l), .v (.int .i64 a), .sl g 1 (zM lg)], .v (.int .i64 most), .v undef, .v undef, .v undef, .v undef, .v undef, .v undef, .v undef, .v undef, .v undef, .v undef, .v undef, .v undef, .v undef, .v undef, .v undef, .v undef, .v undef, .v undef, .v undef, .v undef, .v undef, .v undef, .v undef, .v undef, .v undef, .v undef, .v undef, .v undef, .v undef, .v undef, .v undef, .v undef, .v undef, .v undef, .v undef, .v undef, .v undef, .v undef, .v undef, .v undef], []⟩ rfl ?_
 by_cases h1 : most < 0
 ·skip
  repeat' first | (with_reducible first | refine zA ?_ | refine zB ?_ | refine zb ?_ | refine zF ?_) | ((with_reducible refine zC fun KC J hJ hKC => ?_); simp (maxSteps := 9999999) only [push_cast, seval, ↓reduceIte, h1]) | ((with_reducible refine hJ _ _ ?_); clear hJ hKC KC J) | ((with_reducible refine zG ?_ ?_); · rfl)
  refine zD ?_
  simp (maxSteps := 9999999) only [push_cast, seval, ↓reduceIte, show Tryz.f274.results = #[(.cell 4 30), (.tmp 5), (.tmp 6)] from rfl]
  rw [show zCG ⟨l, a, lg⟩ most = (Dr.z, 0, 1) from if_pos (.inl h1)]
  exact Lq
 by_cases h2 : 20 < most
 ·skip
  repeat' first | (with_reducible first | refine zA ?_ | refine zB ?_ | refine zb ?_ | refine zF ?_) | ((with_reducible refine zC fun KC J hJ hKC => ?_); simp (maxSteps := 9999999) only [push_cast, seval, ↓reduceIte, h1, h2]) | ((with_reducible refine hJ _ _ ?_); clear hJ hKC KC J) | ((with_reducible refine zG ?_ ?_); · rfl)
  refine zD ?_
  simp (maxSteps := 9999999) only [push_cast, seval, ↓reduceIte, show Tryz.f274.results = #[(.cell 4 30), (.tmp 5), (.tmp 6)] from rfl]
  rw [show zCG ⟨l, a, lg⟩ most = (Dr.z, 0, 1) from if_pos (.inr h2)]
  exact Lq
 have w1 : IntKind.i64.wrap (2 * most) = 2 * most := zBq (by omega) (by omega)
 have w2 : IntKind.i64.wrap (2 * most + 1) = 2 * most + 1 := zBq (by omega) (by omega)
 obtain ⟨t, ht⟩ : ∃ t, zAP ⟨l, a, lg⟩ (2 * most + 1) = t := ⟨_, rfl⟩
 have hn := zKo ⟨l, a, lg⟩ (2 * most + 1) (by omega)
 have hs : zCG ⟨l, a, lg⟩ most = if t.2.2 = 0 then (t.1, zFp t.2.1, 0) else (Dr.z, 0, t.2.2) := by rw [← ht]; exact if_neg (by omega)
 rw [ht] at hn
 rw [hs]
 repeat' first | (with_reducible first | refine zA ?_ | refine zB ?_ | refine zb ?_ | refine zP ?_ | refine zAD ?_ | refine zF ?_ | refine zJ ?_ | refine zH ?_) | ((first | with_reducible refine zC fun KC J hJ hKC => ?_ | (refine' hKC _ _ _ _ _ (zE (zGo _ _ _ _ _ _ ?_) rfl rfl rfl ?_ ?_); (rotate_left 7); (· exact Lq); (rotate_left 1); (iterate 1 (· exact Hq)))); simp (maxSteps := 9999999) only [push_cast, seval, ↓reduceIte, h1, h2, w1, w2, zTh, ht]) | ((with_reducible refine hJ _ _ ?_); clear hJ hKC KC J) | ((with_reducible refine zI ?_ ?_); · rfl) | (refine zAa rfl (fun h => ?_) (fun h => ?_) <;> try simp only [decide_eq_true_eq, decide_eq_false_iff_not, Bool.not_eq_true', Bool.not_eq_false', beq_iff_eq, bne_iff_ne, ne_eq, Bool.not_eq_true, Bool.or_eq_true, Bool.and_eq_true, Bool.or_eq_false_iff, Bool.and_eq_false_imp, beq_eq_false_iff_ne, bne_eq_false_iff_eq] at h)
 ·refine zD ?_
  simp (maxSteps := 9999999) only [push_cast, seval, ↓reduceIte, show Tryz.f274.results = #[(.cell 4 30), (.tmp 5), (.tmp 6)] from rfl]
  rw [if_neg h]
  exact Lq
 ·refine zD ?_
  simp (maxSteps := 9999999) only [push_cast, seval, ↓reduceIte, show Tryz.f274.results = #[(.cell 4 30), (.tmp 5), (.tmp 6)] from rfl]
  rw [if_pos (by assumption), zBq (n := t.2.1 + 1) (by omega) (by omega), Int.tdiv_eq_ediv_of_nonneg (by omega), zBq (by omega) (by omega)]
  simp only [zFp, if_pos h]
  exact Lq
 ·refine zD ?_
  simp (maxSteps := 9999999) only [push_cast, seval, ↓reduceIte, show Tryz.f274.results = #[(.cell 4 30), (.tmp 5), (.tmp 6)] from rfl]
  have e : Int.tdiv (-t.2.1) 2 = - (t.2.1 / 2) := by rw [Int.neg_tdiv, Int.tdiv_eq_ediv_of_nonneg (by omega)]
  rw [if_pos (by assumption), Int.zero_sub, zBq (n := -t.2.1) (by omega) (by omega), e, zBq (by omega) (by omega)]
  simp only [zFp, if_neg h]
  exact Lq
def zCZ (most n : Int) : Int × Int :=
 if most < 0 ∨ 20 < most then (0, 1) else if n < - most ∨ most < n then (0, 9) else if 0 < n then (2 * n - 1, 0) else (-2 * n, 0)
theorem zMf (most n : Int) : Fn Tryz.prog 256 [.v (.int .i64 most), .v (.int .i64 n)] [] (.tup [.v (.int .i64 (zCZ most n).1), .v (.int .i64 (zCZ most n).2)]) [] := by
 refine Fn.of (fn := Tryz.f256) (by kernel_rfl) rfl (by kernel_rfl) ⟨[.v (.int .i64 most), .v (.int .i64 n), .v undef, .v undef, .v undef, .v undef, .v undef, .v undef, .v undef, .v undef, .v undef, .v undef, .v undef, .v undef, .v undef, .v undef, .v undef, .v undef, .v undef, .v undef, .v undef, .v undef, .v undef, .v undef, .v undef, .v undef, .v undef, .v undef, .v undef, .v undef, .v undef], []⟩ rfl ?_
 by_cases h1 : most < 0
 ·skip
  repeat' first | (with_reducible first | refine zA ?_ | refine zB ?_ | refine zb ?_ | refine zAD ?_ | refine zF ?_ | refine zH ?_) | ((with_reducible refine zC fun KC J hJ hKC => ?_); simp (maxSteps := 9999999) only [push_cast, seval, ↓reduceIte, h1]) | ((with_reducible refine hJ _ _ ?_); clear hJ hKC KC J) | ((with_reducible refine zG ?_ ?_); · rfl)
  refine zD ?_
  simp (maxSteps := 9999999) only [push_cast, seval, ↓reduceIte, show Tryz.f256.results = #[(.tmp 4), (.tmp 5)] from rfl]
  rw [show zCZ most n = (0, 1) from if_pos (.inl h1)]
  exact Lq
 by_cases h2 : 20 < most
 ·skip
  repeat' first | (with_reducible first | refine zA ?_ | refine zB ?_ | refine zb ?_ | refine zAD ?_ | refine zF ?_ | refine zH ?_) | ((with_reducible refine zC fun KC J hJ hKC => ?_); simp (maxSteps := 9999999) only [push_cast, seval, ↓reduceIte, h1, h2]) | ((with_reducible refine hJ _ _ ?_); clear hJ hKC KC J) | ((with_reducible refine zG ?_ ?_); · rfl)
  refine zD ?_
  simp (maxSteps := 9999999) only [push_cast, seval, ↓reduceIte, show Tryz.f256.results = #[(.tmp 4), (.tmp 5)] from rfl]
  rw [show zCZ most n = (0, 1) from if_pos (.inr h2)]
  exact Lq
 have w1 : IntKind.i64.wrap (0 - most) = - most := by rw [zBq (by omega) (by omega)]; omega
 have hs : zCZ most n = if n < - most ∨ most < n then (0, 9) else if 0 < n then (2 * n - 1, 0) else (-2 * n, 0) := if_neg (by omega)
 rw [hs]
 repeat' first | (with_reducible first | refine zA ?_ | refine zB ?_ | refine zb ?_ | refine zP ?_ | refine zAD ?_ | refine zF ?_ | refine zJ ?_ | refine zH ?_) | ((with_reducible refine zC fun KC J hJ hKC => ?_); simp (maxSteps := 9999999) only [push_cast, seval, ↓reduceIte, h1, h2, w1]) | ((with_reducible refine hJ _ _ ?_); clear hJ hKC KC J) | ((with_reducible refine zG ?_ ?_); · rfl) | ((with_reducible refine zI ?_ ?_); · rfl) | ((with_reducible refine zFj (fun hs => ?_) (fun hs => ?_)) <;> (try simp only [Bool.not_eq_true, Bool.not_eq_false, Bool.not_eq_true', Bool.not_eq_false', Decidable.not_not, decide_eq_true_eq, decide_eq_false_iff_not] at hs) <;> (try simp (maxSteps := 9999999) only [push_cast, seval, ↓reduceIte, hs, h1, h2, w1])) | (refine zAa rfl (fun h => ?_) (fun h => ?_) <;> try simp only [decide_eq_true_eq, decide_eq_false_iff_not, Bool.not_eq_true', Bool.not_eq_false', beq_iff_eq, bne_iff_ne, ne_eq, Bool.not_eq_true, Bool.or_eq_true, Bool.and_eq_true, Bool.or_eq_false_iff, Bool.and_eq_false_imp, beq_eq_false_iff_ne, bne_eq_false_iff_eq] at h)
 all_goals
  refine zD ?_
  simp (maxSteps := 9999999) only [push_cast, seval, ↓reduceIte, show Tryz.f256.results = #[(.tmp 4), (.tmp 5)] from rfl]
  first
   | (rw [if_pos (by omega)]; exact Lq; done)
   | (rw [if_neg (by omega), if_pos (by omega), zBq (n := 2 * n) (by omega) (by omega), zBq (by omega) (by omega)]; exact Lq; done)
   | (rw [if_neg (by omega), if_neg (by omega), zBq (by omega) (by omega)]; exact Lq; done)
theorem zHt (f : Bool) (xs : List Int) (cf : Nat) (caps : List D) (p : Int → Bool) (hb : xs.length ≤ 9223372036854775807) (hc : zq caps = true)
  (hp : ∀ x ∈ xs, Fn Tryz.prog cf (.v (.int .i64 x) :: caps) [] (.v (.bool (p x))) []) : Fn Tryz.prog 271 [.sl f 1 (zM xs), .fn cf caps] [] (.v (.int .i64 (zEC p xs))) [] := by
 refine Fn.of (fn := Tryz.f271) (by kernel_rfl) rfl (by kernel_rfl) ⟨[.sl f 1 (zM xs), .fn cf caps, .v undef, .v undef, .v undef, .v undef, .v undef, .v undef, .v undef, .v undef, .v undef, .v undef, .v undef, .v undef, .v undef, .v undef, .v undef, .v undef, .v undef], []⟩ rfl ?_
 repeat' first | (with_reducible first | refine zA ?_ | refine zB ?_ | refine zH ?_) | ((with_reducible refine zC fun KC J hJ hKC => ?_); simp (maxSteps := 9999999) only [push_cast, seval, ↓reduceIte]) | ((with_reducible refine hJ _ _ ?_); clear hJ hKC KC J)
 refine zAI (γ := {i : Nat // i ≤ xs.length ∧ ∀ (j : Nat) (hj : j < xs.length), j < i → p xs[j] = false}) (fun i => ⟨[.sl f 1 (zM xs), .fn cf caps, .any, .any, .any, .any, .any, .v (.int .i64 xs.length), .v (.int .i64 i.1), .any, .any, .any, .any, .any, .any, .any, .any, .any, .any], []⟩) (fun i => xs.length - i.1) ⟨0, by simp⟩ ⟨?_, Fq⟩ ?_
 ·exact Lq
 ·rintro ⟨i, hi, hn⟩
  by_cases hlt : (i : Int) < (xs.length : Int)
  ·have hx : xs[i]? = some xs[i] := List.getElem?_eq_getElem (by omega)
   have hfn := hp xs[i] (List.getElem_mem (by omega))
   repeat' first | (with_reducible first | refine zA ?_ | refine zB ?_ | refine zb ?_ | refine zP ?_ | refine zAD ?_ | refine zF ?_ | refine zJ ?_ | refine zH ?_) | ((with_reducible refine And.intro ?_ ?_); · exact Sq) | ((first | with_reducible refine zC fun KC J hJ hKC => ?_ | (refine hKC _ _ _ _ _ (zE (hfn) rfl rfl rfl ?_ ?_); (· exact Lq))); simp (maxSteps := 9999999) only [push_cast, seval, ↓reduceIte, hlt, zAV hx, zo (i := i) (n := xs.length) (by omega) hb]) | ((with_reducible refine hJ _ _ ?_); clear hJ hKC KC J) | ((with_reducible refine zG ?_ ?_); · rfl) | (refine zAa rfl (fun h => ?_) (fun h => ?_) <;> try simp only [decide_eq_true_eq, decide_eq_false_iff_not, Bool.not_eq_true', Bool.not_eq_false', beq_iff_eq, bne_iff_ne, ne_eq, Bool.not_eq_true, Bool.or_eq_true, Bool.and_eq_true, Bool.or_eq_false_iff, Bool.and_eq_false_imp, beq_eq_false_iff_ne, bne_eq_false_iff_eq] at h)
   ·refine zD ?_
    simp (maxSteps := 9999999) only [push_cast, seval, ↓reduceIte, show Tryz.f271.results = #[(.tmp 4)] from rfl]
    exact zAk (by rw [zCz (by omega) h hn])
   ·refine ⟨⟨i + 1, by omega, fun j hj hji => ?_⟩, by simp only; omega, ?_, Fq⟩
    ·by_cases he : j = i
     ·subst he; exact h
     ·exact hn j hj (by omega)
    ·exact Lq
  ·skip
   repeat' first | (with_reducible first | refine zA ?_ | refine zB ?_ | refine zm ?_ | refine zl ?_ | refine zF ?_ | refine zZ ?_) | ((with_reducible refine zC fun KC J hJ hKC => ?_); simp (maxSteps := 9999999) only [push_cast, seval, ↓reduceIte, hlt]) | ((with_reducible refine hJ _ _ ?_); clear hJ hKC KC J) | ((with_reducible refine zI ?_ ?_); · rfl)
   refine zD ?_
   simp (maxSteps := 9999999) only [push_cast, seval, ↓reduceIte, show Tryz.f271.results = #[(.tmp 4)] from rfl]
   exact zAk (by rw [zBj (fun j hj => hn j hj (by omega))])
theorem zGI (f : Bool) (xs : List Int) (cf : Nat) (caps : List D) (p : Int → Bool) (hb : xs.length ≤ 9223372036854775807) (hc : zq caps = true)
  (hp : ∀ x ∈ xs, Fn Tryz.prog cf (.v (.int .i64 x) :: caps) [] (.v (.bool (p x))) []) : Fn Tryz.prog 208 [.sl f 1 (zM xs), .fn cf caps] [] (.v (.bool (xs.any p))) [] := by
 refine Fn.of (fn := Tryz.f208) (by kernel_rfl) rfl (by kernel_rfl) ⟨[.sl f 1 (zM xs), .fn cf caps, .v undef, .v undef, .v undef, .v undef, .v undef, .v undef, .v undef], []⟩ rfl ?_
 repeat' first | (with_reducible first | refine zA ?_ | refine zB ?_ | refine zF ?_) | ((first | with_reducible refine zC fun KC J hJ hKC => ?_ | (refine hKC _ _ _ _ _ (zE (zHt f xs cf caps p hb hc hp) rfl rfl rfl ?_ ?_); (· exact Lq))); simp (maxSteps := 9999999) only [push_cast, seval, ↓reduceIte]) | ((with_reducible refine hJ _ _ ?_); clear hJ hKC KC J)
 refine zD ?_
 simp (maxSteps := 9999999) only [push_cast, seval, ↓reduceIte, show Tryz.f208.results = #[(.tmp 4)] from rfl]
 exact zAk (by rw [zEL])
theorem zNW (x : Int) : Fn Tryz.prog 295 [.v (.int .i64 x)] [] (.v (.bool (decide (x < 0 ∨ 100 < x)))) [] := by
 refine Fn.of (fn := Tryz.f295) (by kernel_rfl) rfl (by kernel_rfl) ⟨[.v (.int .i64 x), .v undef, .v undef, .v undef, .v undef, .v undef, .v undef, .v undef, .v undef], []⟩ rfl ?_
 repeat' first | (with_reducible first | refine zA ?_ | refine zB ?_ | refine zF ?_) | ((with_reducible refine zC fun KC J hJ hKC => ?_); simp (maxSteps := 9999999) only [push_cast, seval, ↓reduceIte]) | ((with_reducible refine hJ _ _ ?_); clear hJ hKC KC J) | ((with_reducible refine zFj (fun hs => ?_) (fun hs => ?_)) <;> (try simp only [Bool.not_eq_true, Bool.not_eq_false, Bool.not_eq_true', Bool.not_eq_false', Decidable.not_not, decide_eq_true_eq, decide_eq_false_iff_not] at hs) <;> (try simp (maxSteps := 9999999) only [push_cast, seval, ↓reduceIte, hs]))
 all_goals
  refine zD ?_
  simp (maxSteps := 9999999) only [push_cast, seval, ↓reduceIte, show Tryz.f295.results = #[(.tmp 2)] from rfl]
  refine zAk (congrArg Value.bool (Bool.eq_iff_iff.2 ?_))
  simp
  omega
def mxI (a b : Int) : Int := if a < b then b else a
def zLT : List Int → Int
 | [] => 0
 | x :: xs => xs.foldl mxI x
theorem zQk {ws : List Int} {i : Nat} (h0 : 0 < i) (h : i < ws.length) : zLT (ws.take (i + 1)) = mxI (zLT (ws.take i)) ws[i] := by
 cases ws with
 | nil => simp at h
 | cons x xs =>
  obtain ⟨i, rfl⟩ : ∃ k, i = k + 1 := ⟨i - 1, by omega⟩
  have h' : i < xs.length := by simpa using h
  simp only [List.take_succ_cons, zLT, List.getElem_cons_succ]
  rw [List.take_succ_eq_append_getElem h', List.foldl_append]
  rfl
theorem zRy (f : Bool) (ws : List Int) (hl : 1 ≤ ws.length) (hb : ws.length ≤ 9223372036854775807) : Fn Tryz.prog 296 [.sl f 1 (zM ws)] [] (.v (.int .i64 (zLT ws))) [] := by
 have hx : ws[0]? = some ws[0] := List.getElem?_eq_getElem (by omega)
 have hn : ¬ (ws.length : Int) < 1 := by omega
 refine Fn.of (fn := Tryz.f296) (by kernel_rfl) rfl (by kernel_rfl) ⟨[.sl f 1 (zM ws), .v undef, .v undef, .v undef, .v undef, .v undef, .v undef, .v undef, .v undef, .v undef, .v undef, .v undef, .v undef, .v undef, .v undef, .v undef, .v undef, .v undef, .v undef, .v undef, .v undef, .v undef, .v undef, .v undef, .v undef], []⟩ rfl ?_
 repeat' first | (with_reducible first | refine zA ?_ | refine zB ?_ | refine zJ ?_ | refine zH ?_) | ((with_reducible refine And.intro ?_ ?_); · exact Sq) | ((with_reducible refine zC fun KC J hJ hKC => ?_); simp (maxSteps := 9999999) only [push_cast, seval, ↓reduceIte, hn, zAV hx]) | ((with_reducible refine hJ _ _ ?_); clear hJ hKC KC J) | ((with_reducible refine zI ?_ ?_); · rfl)
 refine zAI (γ := {i : Nat // 1 ≤ i ∧ i ≤ ws.length}) (fun i => ⟨[.sl f 1 (zM ws), .any, .any, .v (.int .i64 (zLT (ws.take i.1))), .v (.int .i64 i.1), .any, .any, .any, .any, .any, .any, .any, .any, .any, .any, .any, .any, .any, .any, .any, .any, .any, .any, .any, .any], []⟩) (fun i => ws.length - i.1) ⟨1, by omega⟩ ⟨?_, Fq⟩ ?_
 ·have e : ws.take 1 = [ws[0]] := by
   cases ws with
   | nil => simp at hl
   | cons x xs => simp
  simp only [e, zLT, List.foldl_nil]
  exact Lq
 ·rintro ⟨i, h0, hi⟩
  by_cases hlt : (i : Int) < (ws.length : Int)
  ·have hx : ws[i]? = some ws[i] := List.getElem?_eq_getElem (by omega)
   have hm := zQk (by omega : 0 < i) (by omega : i < ws.length)
   unfold mxI at hm
   repeat' first | (with_reducible first | refine zA ?_ | refine zB ?_ | refine zP ?_ | refine zJ ?_ | refine zH ?_) | ((with_reducible refine And.intro ?_ ?_); · exact Sq) | ((with_reducible refine zC fun KC J hJ hKC => ?_); simp (maxSteps := 9999999) only [push_cast, seval, ↓reduceIte, hlt, zAV hx, zo (i := i) (n := ws.length) (by omega) hb, gt_iff_lt, ← hm]) | ((with_reducible refine hJ _ _ ?_); clear hJ hKC KC J) | ((with_reducible refine zG ?_ ?_); · rfl)
   refine ⟨⟨i + 1, by omega⟩, by simp only; omega, ?_, Fq⟩
   exact Lq
  ·have e : ws.take i = ws := List.take_of_length_le (by omega)
   repeat' first | (with_reducible first | refine zA ?_ | refine zB ?_ | refine zm ?_ | refine zl ?_ | refine zF ?_ | refine zZ ?_) | ((with_reducible refine zC fun KC J hJ hKC => ?_); simp (maxSteps := 9999999) only [push_cast, seval, ↓reduceIte, hlt]) | ((with_reducible refine hJ _ _ ?_); clear hJ hKC KC J) | ((with_reducible refine zI ?_ ?_); · rfl)
   refine zD ?_
   simp (maxSteps := 9999999) only [push_cast, seval, ↓reduceIte, show Tryz.f296.results = #[(.tmp 2)] from rfl]
   rw [e]
   exact zL _
def zAe (ws : List Int) : Bool := decide (1 ≤ ws.length ∧ ws.length ≤ 20 ∧ (∀ w ∈ ws, 0 ≤ w ∧ w ≤ 100) ∧ 0 < ws.sum)
theorem zMn : ∀ {ws : List Int} (x : Int), (∀ w ∈ ws, 0 ≤ w) → 0 ≤ x → (0 < ws.foldl mxI x ↔ 0 < x + ws.sum) ∧ 0 ≤ ws.sum
 | [], x, _, hx => by simp
 | w :: ws, x, h, hx => by
  have hw := h w (by simp)
  have ih := zMn (ws := ws) (mxI x w) (fun v hv => h v (by simp [hv])) (by unfold mxI; split <;> omega)
  simp only [List.foldl_cons, List.sum_cons]
  refine ⟨ih.1.trans ?_, by omega⟩
  unfold mxI
  split <;> omega
theorem zSH {ws : List Int} (h : ∀ w ∈ ws, 0 ≤ w) : 0 < zLT ws ↔ 0 < ws.sum := by
 cases ws with
 | nil => simp [zLT]
 | cons x xs =>
  have := (zMn (ws := xs) x (fun v hv => h v (by simp [hv])) (h x (by simp))).1
  simpa [zLT] using this
theorem zCU (f : Bool) (ws : List Int) (hb : ws.length ≤ 9223372036854775807) : Fn Tryz.prog 287 [.sl f 1 (zM ws)] [] (.v (.bool (zAe ws))) [] := by
 have hcf := zGI f ws 295 [] (fun x => decide (x < 0 ∨ 100 < x)) hb rfl (fun x _ => zNW x)
 refine Fn.of (fn := Tryz.f287) (by kernel_rfl) rfl (by kernel_rfl) ⟨[.sl f 1 (zM ws), .v undef, .v undef, .v undef, .v undef, .v undef, .v undef, .v undef, .v undef, .v undef, .v undef, .v undef, .v undef, .v undef, .v undef, .v undef, .v undef, .v undef, .v undef, .v undef, .v undef, .v undef, .v undef], []⟩ rfl ?_
 by_cases h1 : (1 : Int) ≤ ws.length
 ·have hmx := zRy f ws (by omega) hb
  repeat' first | (with_reducible first | refine zA ?_ | refine zB ?_ | refine zF ?_) | ((first | with_reducible refine zC fun KC J hJ hKC => ?_ | (refine' hKC _ _ _ _ _ (zE (zRy _ _ ?_ ?_) rfl rfl rfl ?_ ?_); (rotate_left 4); (· exact Lq); (rotate_left 1); (iterate 2 (· exact Hq))) | (refine hKC _ _ _ _ _ (zE (hcf) rfl rfl rfl ?_ ?_); (· exact Lq))); simp (maxSteps := 9999999) only [push_cast, seval, ↓reduceIte, h1]) | ((with_reducible refine hJ _ _ ?_); clear hJ hKC KC J) | ((with_reducible refine zFj (fun hs => ?_) (fun hs => ?_)) <;> (try simp only [Bool.not_eq_true, Bool.not_eq_false, Bool.not_eq_true', Bool.not_eq_false', Decidable.not_not, decide_eq_true_eq, decide_eq_false_iff_not] at hs) <;> (try simp (maxSteps := 9999999) only [push_cast, seval, ↓reduceIte, hs, h1]))
  all_goals
   refine zD ?_
   simp (maxSteps := 9999999) only [push_cast, seval, ↓reduceIte, show Tryz.f287.results = #[(.tmp 2)] from rfl]
   refine zAk (congrArg Value.bool (Bool.eq_iff_iff.2 ?_))
   simp only [zAe, decide_eq_true_eq, Bool.false_eq_true, false_iff]
  ·have ha : ∀ w ∈ ws, 0 ≤ w ∧ w ≤ 100 := by
    intro w hw
    have := List.any_eq_false.1 hs w hw
    simp at this
    omega
   have := zSH (fun w hw => (ha w hw).1)
   exact ⟨fun hm => ⟨by omega, by omega, ha, this.1 hm⟩, fun hm => this.2 hm.2.2.2⟩
  ·rintro ⟨_, _, ha, _⟩
   obtain ⟨w, hw, h2⟩ := List.any_eq_true.1 hs
   have := ha w hw
   simp at h2
   omega
  ·omega
 ·skip
  repeat' first | (with_reducible first | refine zA ?_ | refine zB ?_ | refine zF ?_) | ((with_reducible refine zC fun KC J hJ hKC => ?_); simp (maxSteps := 9999999) only [push_cast, seval, ↓reduceIte, h1]) | ((with_reducible refine hJ _ _ ?_); clear hJ hKC KC J)
  refine zD ?_
  simp (maxSteps := 9999999) only [push_cast, seval, ↓reduceIte, show Tryz.f287.results = #[(.tmp 2)] from rfl]
  refine zAk (congrArg Value.bool (Bool.eq_iff_iff.2 ?_))
  simp only [zAe, decide_eq_true_eq, Bool.false_eq_true, false_iff]
  omega
theorem zDw {ws : List Int} (h : ∀ w ∈ ws, 0 ≤ w ∧ w ≤ 100) (i : Nat) : 0 ≤ (ws.take i).sum ∧ (ws.take i).sum ≤ 100 * i := by
 induction i generalizing ws with
 | zero => simp
 | succ i ih =>
  cases ws with
  | nil => simp; omega
  | cons w ws =>
   have := h w (by simp)
   have := ih (ws := ws) (fun v hv => h v (by simp [hv]))
   simp only [List.take_succ_cons, List.sum_cons]
   omega
theorem zCP {ws : List Int} {i : Nat} (h : i < ws.length) : (ws.take (i + 1)).sum = (ws.take i).sum + ws[i] := by
 rw [List.take_succ_eq_append_getElem h, List.sum_append]; simp
theorem zLR (f : Bool) (ws : List Int) : Fn Tryz.prog 288 [.sl f 1 (zM ws)] [] (.fn 297 [.fad [.sl f 1 (zM ws)]]) [] := by
 refine Fn.of (fn := Tryz.f288) (by kernel_rfl) rfl (by kernel_rfl) ⟨[.sl f 1 (zM ws), .v undef, .v undef, .v undef], []⟩ rfl ?_
 repeat' first | (with_reducible first | refine zA ?_ | refine zB ?_) | ((with_reducible refine zC fun KC J hJ hKC => ?_); simp (maxSteps := 9999999) only [push_cast, seval, ↓reduceIte]) | ((with_reducible refine hJ _ _ ?_); clear hJ hKC KC J)
 refine zAf 0 rfl (by simp (maxSteps := 9999999) only [push_cast, seval, ↓reduceIte]) ?_
 simp (maxSteps := 9999999) only [push_cast, seval, ↓reduceIte, zAK, zh, fr3, fr2, fr1, fr0, zp, zn, List.drop_zero]
 refine zF ?_
 refine zD ?_
 simp (maxSteps := 9999999) only [push_cast, seval, ↓reduceIte, show Tryz.f288.results = #[(.tmp 2)] from rfl]
 exact Lq
theorem zLX (f : Bool) (ws : List Int) (hw : ∀ w ∈ ws, 0 ≤ w ∧ w ≤ 100) (hl : ws.length ≤ 1000) :
  zTI Tryz.prog 297 [.fad [.sl f 1 (zM ws)]] ws.length (fun i => [.v (.int .i64 (i : Int)), .v (.int .i64 (ws.take (i + 1)).sum)]) := by
 intro m inv ok frr rr hrec hcl hlen hy n hn
 refine Fn.of (fn := Tryz.f297) (by kernel_rfl) rfl (by kernel_rfl) ⟨[.kref false m 0, .fad [.sl f 1 (zM ws)], .v undef, .v undef, .v undef, .v undef, .v undef, .v undef, .v undef, .v undef, .v undef, .v undef, .v undef, .v undef, .v undef, .v undef, .v undef, .v undef, .v undef, .v undef, .v undef, .v undef], inv 0⟩ rfl ?_
 repeat' first | (with_reducible first | refine zA ?_ | refine zB ?_ | refine zH ?_) | ((with_reducible refine zC fun KC J hJ hKC => ?_); simp (maxSteps := 9999999) only [push_cast, seval, ↓reduceIte]) | ((with_reducible refine hJ _ _ ?_); clear hJ hKC KC J)
 refine zAI (γ := {i : Nat // i ≤ ws.length ∧ ∀ j, j < i → ok j = true}) (fun i => ⟨[.kref false m 0, .fad [.sl f 1 (zM ws)], .any, .v (.int .i64 (ws.take i.1).sum), .any, .any, .sl f 1 (zM ws), .v (.int .i64 ws.length), .v (.int .i64 i.1), .any, .any, .any, .any, .any, .any, .any, .any, .any, .any, .any, .any, .any], inv i.1⟩) (fun i => ws.length - i.1) ⟨0, by simp⟩ ⟨?_, Fq⟩ ?_
 ·exact Lq
 ·rintro ⟨i, hi, hok⟩
  by_cases hlt : (i : Int) < (ws.length : Int)
  ·have hx : ws[i]? = some ws[i] := List.getElem?_eq_getElem (by omega)
   have hb := zDw hw i
   have hwi := hw ws[i] (List.getElem_mem _)
   have hs : IntKind.i64.wrap ((ws.take i).sum + ws[i]) = (ws.take (i + 1)).sum := by rw [zCP (by omega), zBq (by omega) (by omega)]
   have hyi := hy i (by omega) hok
   have hL : (inv (i + 1)).length = (inv i).length := by rw [hlen, hlen]
   have hset := zFf (rest := [Slot.free]) hL
   have hj1 : ok i = true → ∀ j, j < i + 1 → ok j = true := fun h j hj => by
    by_cases he : j = i
    ·rw [he]; exact h
    ·exact hok j (by omega)
   cases hoki : ok i with
   | true =>
    rw [hoki] at hyi
    repeat' first | (with_reducible first | refine zA ?_ | refine zB ?_ | refine zP ?_ | refine zJ ?_ | refine zH ?_) | ((with_reducible refine And.intro ?_ ?_); · exact Sq) | ((first | with_reducible refine zC fun KC J hJ hKC => ?_ | (refine hKC _ _ _ _ _ (zOq hyi (hrec i) (hcl i) (hcl (i + 1)) hL rfl (Nat.le_refl _) rfl rfl rfl rfl ?_))); simp (maxSteps := 9999999) only [push_cast, seval, ↓reduceIte, hlt, zAV hx, hs, hset, zo (i := i) (n := ws.length) (by omega) (by omega)]) | ((with_reducible refine hJ _ _ ?_); clear hJ hKC KC J) | ((with_reducible refine zG ?_ ?_); · rfl) | ((with_reducible refine zI ?_ ?_); · rfl)
    refine ⟨⟨i + 1, by omega, hj1 hoki⟩, by simp only; omega, ?_, Fq⟩
    exact Lq
   | false =>
    rw [hoki] at hyi
    repeat' first | (with_reducible first | refine zA ?_ | refine zB ?_ | refine zb ?_ | refine zAD ?_ | refine zF ?_ | refine zJ ?_ | refine zH ?_) | ((with_reducible refine And.intro ?_ ?_); · exact Sq) | ((first | with_reducible refine zC fun KC J hJ hKC => ?_ | (refine hKC _ _ _ _ _ (zOq hyi (hrec i) (hcl i) (hcl (i + 1)) hL rfl (Nat.le_refl _) rfl rfl rfl rfl ?_))); simp (maxSteps := 9999999) only [push_cast, seval, ↓reduceIte, hlt, zAV hx, hs, hset, zo (i := i) (n := ws.length) (by omega) (by omega)]) | ((with_reducible refine hJ _ _ ?_); clear hJ hKC KC J) | ((with_reducible refine zG ?_ ?_); · rfl)
    have hni : n = i + 1 := by
     rcases hn with ⟨h1, h2⟩ | ⟨k, h1, h2, h3, h4⟩
     ·have := h2 i (by omega); rw [hoki] at this; cases this
     ·rcases Nat.lt_trichotomy k i with h | h | h
      ·have := hok k h; rw [h3] at this; cases this
      ·omega
      ·have := h4 i h; rw [hoki] at this; cases this
    rw [hni]
    exact zLz 1 (.inr rfl) rfl rfl (hcl _) (by rw [hlen, hlen])
  ·have hni : n = i := by
    rcases hn with ⟨h1, h2⟩ | ⟨k, h1, h2, h3, h4⟩
    ·omega
    ·have := hok k (by omega); rw [h3] at this; cases this
   repeat' first | (with_reducible first | refine zA ?_ | refine zB ?_ | refine zm ?_ | refine zl ?_ | refine zZ ?_) | ((with_reducible refine zC fun KC J hJ hKC => ?_); simp (maxSteps := 9999999) only [push_cast, seval, ↓reduceIte, hlt]) | ((with_reducible refine hJ _ _ ?_); clear hJ hKC KC J) | ((with_reducible refine zI ?_ ?_); · rfl)
   rw [hni]
   exact zLz 0 (.inl rfl) rfl (by simp) (hcl _) (by rw [hlen, hlen])
theorem zDE {ws : List Int} (h : zAe ws = true) : 1 ≤ ws.length ∧ ws.length ≤ 20 ∧ (∀ w ∈ ws, 0 ≤ w ∧ w ≤ 100) ∧ 0 < ws.sum := by simpa [zAe] using h
def zEJ (ws : List Int) (n : Int) : Int := match (List.range ws.length).find? (fun i => decide (n < (ws.take (i + 1)).sum)) with | some i => (i : Int) | none => 0
theorem zNJ {ws : List Int} {n : Int} {k : Nat} (hk : k < ws.length) (h : n < (ws.take (k + 1)).sum) (hb : ∀ j, j < k → ¬ n < (ws.take (j + 1)).sum) : zEJ ws n = k := by
 have : (List.range ws.length).find? (fun i => decide (n < (ws.take (i + 1)).sum)) = some k := by
  rw [List.find?_range_eq_some]
  exact ⟨by simpa using h, by simpa using hk, fun j hj => by simpa using hb j hj⟩
 simp [zEJ, this]
theorem zNo {ws : List Int} {n : Int} (hb : ∀ j, j < ws.length → ¬ n < (ws.take (j + 1)).sum) : zEJ ws n = 0 := by
 have : (List.range ws.length).find? (fun i => decide (n < (ws.take (i + 1)).sum)) = none := by
  rw [List.find?_range_eq_none]
  exact fun j hj => by simpa using hb j hj
 simp [zEJ, this]
def zBU (d : Dr) (ws : List Int) : Dr × Int × Int :=
 if zAe ws = false then (Dr.z, 0, 1)
 else if (zAP d ws.sum).2.2 = 0 then ((zAP d ws.sum).1, zEJ ws (zAP d ws.sum).2.1, 0) else (Dr.z, 0, (zAP d ws.sum).2.2)
theorem zFF (f g e' : Bool) (l lg ws : List Int) (a : Int) (hb : ws.length ≤ 9223372036854775807) :
  Fn Tryz.prog 267 [.agg [.sl f 1 (zM l), .v (.int .i64 a), .sl g 1 (zM lg)], .sl e' 1 (zM ws)] []
   (.tup [zBK f false (zBU ⟨l, a, lg⟩ ws).1, .v (.int .i64 (zBU ⟨l, a, lg⟩ ws).2.1), .v (.int .i64 (zBU ⟨l, a, lg⟩ ws).2.2)]) [] := by
 refine Fn.of (fn := Tryz.f267) (by kernel_rfl) rfl (by kernel_rfl) ⟨[.agg [.sl f 1 (zM l), .v (.int .i64 a), .sl g 1 (zM lg)], .sl e' 1 (zM ws), .v undef, .v undef, .v undef, .v undef, .v undef, .v undef, .v undef, .v undef, .v undef, .v undef, .v undef, .v undef, .v undef, .v undef, .v undef, .v undef, .v undef, .v undef, .v undef, .v undef, .v undef, .v undef, .v undef, .v undef, .v undef, .v undef, .v undef, .v undef, .v undef, .v undef, .v undef, .v undef, .v undef, .v undef, .v undef, .v undef, .v undef, .v undef, .v undef, .v undef, .v undef, .v undef], []⟩ rfl ?_
 by_cases hw : zAe ws = true
 ·obtain ⟨h1, h2, h3, h4⟩ := zDE hw
  have hsum := zDw h3 ws.length
  rw [List.take_length] at hsum
  repeat' first | (with_reducible first | refine zA ?_ | refine zB ?_ | refine zJ ?_ | refine zH ?_) | ((first | with_reducible refine zC fun KC J hJ hKC => ?_ | (refine' hKC _ _ _ _ _ (zE (zCU _ _ ?_) rfl rfl rfl ?_ ?_); (rotate_left 3); (· exact Lq); (rotate_left 1); (iterate 1 (· exact Hq))) | (refine' hKC _ _ _ _ _ (zE (zLR _ _) rfl rfl rfl ?_ ?_); (rotate_left 2); (· exact Lq))); simp (maxSteps := 9999999) only [push_cast, seval, ↓reduceIte, hw]) | ((with_reducible refine hJ _ _ ?_); clear hJ hKC KC J) | ((with_reducible refine zI ?_ ?_); · rfl)
  refine zLa ([.agg [.sl f 1 (zM l), .v (.int .i64 a), .sl g 1 (zM lg)], .sl e' 1 (zM ws), .ptr 0 0 0, .any, .ptr 1 0 0, .ptr 2 0 0, .ptr 3 0 0, .ptr 5 0 0, .any, .any, .any, .any, .any, .any, .any, .any, .any, .any, .any, .fn 297 [.fad [.sl e' 1 (zM ws)]], .any, .any, .any, .any, .any, .any, .any, .any, .any, .any, .any, .any, .any, .any, .any, .any, .any, .any, .any, .any, .any, .any, .any, .any]) (by exact Lq) ?_
  refine zKh (f := 297) rfl rfl (zLX e' ws h3 (by omega)) (fun i hi => rfl) 7 rfl rfl
   (fun i => [.ent ⟨0, none, 30, [.sl f 1 (zM l), .v (.int .i64 a), .sl g 1 (zM lg)], .cells⟩, .ent ⟨0, none, 30, [.v (.slice none 0 0), .v (.int .i64 0), .v (.slice none 0 0)], .cells⟩, .ent ⟨0, none, 3, [.v (.int .i64 0)], .cells⟩, .ent ⟨0, none, 40, [.v (.int .i64 0)], .cells⟩, .free, .ent ⟨0, none, 3, [.v (.int .i64 (ws.take i).sum)], .cells⟩, .free])
   rfl (fun i => rfl) (fun i => rfl) (fun i => rfl) (fun _ => true) .ret .ret rfl
   (fun i => [.agg [.sl f 1 (zM l), .v (.int .i64 a), .sl g 1 (zM lg)], .sl e' 1 (zM ws), .ptr 0 0 0, .any, .ptr 1 0 0, .ptr 2 0 0, .ptr 3 0 0, .ptr 5 0 0, .any, .v (.int .i64 (ws.take (i + 1)).sum), .any, .any, .any, .any, .any, .any, .any, .any, .any, .fn 297 [.fad [.sl e' 1 (zM ws)]], .v (.int .i64 (i : Int)), .v (.int .i64 (ws.take (i + 1)).sum), .any, .any, .any, .any, .any, .any, .any, .any, .any, .any, .any, .any, .any, .any, .any, .any, .any, .any, .any, .any, .any, .any])
   (fun l' i r hi => ?_) (fun i => rfl) (fun l' i hi _ => ?_) (fun _ => ?_) (fun k hk h _ => by cases h)
  ·skip
   repeat' first | ((with_reducible refine And.intro ?_ ?_); · exact Sq) | ((with_reducible refine zC fun KC J hJ hKC => ?_); simp (maxSteps := 9999999) only [push_cast, seval, ↓reduceIte]) | ((with_reducible refine hJ _ _ ?_); clear hJ hKC KC J)
   exact rfl
  ·skip
   repeat' first | (with_reducible first | refine zP ?_ | refine zH ?_) | ((with_reducible refine zC fun KC J hJ hKC => ?_); simp (maxSteps := 9999999) only [push_cast, seval, ↓reduceIte]) | ((with_reducible refine hJ _ _ ?_); clear hJ hKC KC J)
   exact ⟨zO (k := 0) rfl rfl rfl, rfl⟩
  ·obtain ⟨t, ht⟩ : ∃ t, zAP ⟨l, a, lg⟩ ws.sum = t := ⟨_, rfl⟩
   have hs : zBU ⟨l, a, lg⟩ ws = if t.2.2 = 0 then (t.1, zEJ ws t.2.1, 0) else (Dr.z, 0, t.2.2) := by rw [← ht]; exact if_neg (by simp [hw])
   rw [hs]
   repeat' first | (with_reducible first | refine zA ?_ | refine zB ?_ | refine zb ?_ | refine zP ?_ | refine zF ?_ | refine zJ ?_ | refine zH ?_) | ((first | with_reducible refine zC fun KC J hJ hKC => ?_ | (refine' hKC _ _ _ _ _ (zE (zLR _ _) rfl rfl rfl ?_ ?_); (rotate_left 2); (· exact Lq)) | (refine' hKC _ _ _ _ _ (zE (zGo _ _ _ _ _ _ ?_) rfl rfl rfl ?_ ?_); (rotate_left 7); (· exact Lq); (rotate_left 1); (iterate 1 (· exact Hq)))); simp (maxSteps := 9999999) only [push_cast, seval, ↓reduceIte, ht, List.take_length]) | ((with_reducible refine hJ _ _ ?_); clear hJ hKC KC J) | (refine zAa rfl (fun h => ?_) (fun h => ?_) <;> try simp only [decide_eq_true_eq, decide_eq_false_iff_not, Bool.not_eq_true', Bool.not_eq_false', beq_iff_eq, bne_iff_ne, ne_eq, Bool.not_eq_true, Bool.or_eq_true, Bool.and_eq_true, Bool.or_eq_false_iff, Bool.and_eq_false_imp, beq_eq_false_iff_ne, bne_eq_false_iff_eq] at h)
   ·refine zD ?_
    simp (maxSteps := 9999999) only [push_cast, seval, ↓reduceIte, show Tryz.f267.results = #[(.cell 4 30), (.cell 5 3), (.cell 6 40)] from rfl]
    rw [if_neg h]
    exact Lq
   ·rw [if_pos h]
    obtain ⟨ok, hok⟩ : ∃ ok : Nat → Bool, ok = fun i => decide (¬ t.2.1 < (ws.take (i + 1)).sum) := ⟨_, rfl⟩
    refine zLa ([.any, .sl e' 1 (zM ws), .ptr 0 0 0, .any, .ptr 1 0 0, .ptr 2 0 0, .ptr 3 0 0, .any, .any, .any, .ptr 9 0 0, .any, .any, .any, .any, .any, .any, .any, .any, .any, .any, .any, .any, .any, .any, .any, .any, .any, .any, .any, .any, .any, .any, .any, .any, .fn 297 [.fad [.sl e' 1 (zM ws)]], .any, .any, .any, .any, .any, .any, .any, .any]) (by exact Lq) ?_
    refine zSb [.ent ⟨0, none, 30, [.sl f 1 (zM t.1.l), .v (.int .i64 t.1.a), .sl false 1 (zM t.1.g)], .cells⟩, .ent ⟨0, none, 30, [.v (.slice none 0 0), .v (.int .i64 0), .v (.slice none 0 0)], .cells⟩, .ent ⟨0, none, 3, [.v (.int .i64 0)], .cells⟩, .ent ⟨0, none, 40, [.v (.int .i64 0)], .cells⟩, .free, .dead, .free, .dead, .free, .ent ⟨0, none, 3, [.v (.int .i64 t.2.1)], .cells⟩, .free] (by simp [leS]) ?_
    refine zEc (f := 297) rfl rfl (zLX e' ws h3 (by omega)) (fun i hi => rfl) 11 rfl rfl
     (fun i => [.ent ⟨0, none, 30, [.sl f 1 (zM t.1.l), .v (.int .i64 t.1.a), .sl false 1 (zM t.1.g)], .cells⟩, .ent ⟨0, none, 30, [.v (.slice none 0 0), .v (.int .i64 0), .v (.slice none 0 0)], .cells⟩, .ent ⟨0, none, 3, [.v (.int .i64 0)], .cells⟩, .ent ⟨0, none, 40, [.v (.int .i64 0)], .cells⟩, .free, .dead, .free, .dead, .free, .ent ⟨0, none, 3, [.v (.int .i64 t.2.1)], .cells⟩, .free]) (fun i => [.ent ⟨0, none, 30, [.sl f 1 (zM t.1.l), .v (.int .i64 t.1.a), .sl false 1 (zM t.1.g)], .cells⟩, .ent ⟨0, none, 30, [.sl f 1 (zM t.1.l), .v (.int .i64 t.1.a), .sl false 1 (zM t.1.g)], .cells⟩, .ent ⟨0, none, 3, [.v (.int .i64 (i : Int))], .cells⟩, .ent ⟨0, none, 40, [.v (.int .i64 0)], .cells⟩, .free, .dead, .free, .dead, .free, .ent ⟨0, none, 3, [.v (.int .i64 t.2.1)], .cells⟩, .free])
     rfl (fun i => ⟨rfl, rfl⟩) (fun i => ⟨rfl, rfl⟩) (fun i => ⟨rfl, rfl⟩) (fun i => decide (¬ t.2.1 < (ws.take (i + 1)).sum)) .ret .ret rfl
     (fun i => [.any, .sl e' 1 (zM ws), .ptr 0 0 0, .any, .ptr 1 0 0, .ptr 2 0 0, .ptr 3 0 0, .any, .any, .any, .ptr 9 0 0, .any, .v (.int .i64 (i : Int)), .v (.int .i64 (ws.take (i + 1)).sum), .any, .any, .any, .any, .any, .any, .any, .any, .any, .any, .any, .any, .any, .any, .any, .any, .any, .any, .any, .any, .any, .fn 297 [.fad [.sl e' 1 (zM ws)]], .v (.int .i64 (i : Int)), .v (.int .i64 (ws.take (i + 1)).sum), .any, .any, .any, .any, .any, .any])
     (fun l' i r σ hi => ?_) (fun i => rfl) (fun l' i hi hb' => ?_) (fun hall => ?_) (fun k hk hkf hkb => ?_)
    ·skip
     repeat' first | (with_reducible first | refine zA ?_ | refine zB ?_) | ((with_reducible refine And.intro ?_ ?_); · exact Sq) | ((with_reducible refine zC fun KC J hJ hKC => ?_); simp (maxSteps := 9999999) only [push_cast, seval, ↓reduceIte]) | ((with_reducible refine hJ _ _ ?_); clear hJ hKC KC J)
     exact rfl
    ·skip
     repeat' first | (with_reducible first | refine zA ?_ | refine zB ?_ | refine zP ?_ | refine zAD ?_ | refine zF ?_ | refine zJ ?_ | refine zH ?_) | ((with_reducible refine zC fun KC J hJ hKC => ?_); simp (maxSteps := 9999999) only [push_cast, seval, ↓reduceIte]) | ((with_reducible refine hJ _ _ ?_); clear hJ hKC KC J) | (refine zAa rfl (fun h => ?_) (fun h => ?_) <;> try simp only [decide_eq_true_eq, decide_eq_false_iff_not, Bool.not_eq_true', Bool.not_eq_false', beq_iff_eq, bne_iff_ne, ne_eq, Bool.not_eq_true, Bool.or_eq_true, Bool.and_eq_true, Bool.or_eq_false_iff, Bool.and_eq_false_imp, beq_eq_false_iff_ne, bne_eq_false_iff_eq] at h)
     ·exact .inr ⟨by simp [h], rfl, zO (k := 0) rfl rfl rfl⟩
     ·exact .inl ⟨by simp [h], rfl, zO (k := 0) rfl rfl rfl⟩
    ·rw [zNo (fun j hj => by have := hall j hj; simpa using this)]
     repeat' first | (with_reducible first | refine zA ?_ | refine zB ?_ | refine zP ?_ | refine zF ?_) | ((with_reducible refine zC fun KC J hJ hKC => ?_); simp (maxSteps := 9999999) only [push_cast, seval, ↓reduceIte]) | ((with_reducible refine hJ _ _ ?_); clear hJ hKC KC J)
     refine zD ?_
     simp (maxSteps := 9999999) only [push_cast, seval, ↓reduceIte, show Tryz.f267.results = #[(.cell 4 30), (.cell 5 3), (.cell 6 40)] from rfl]
     exact Lq
    ·rw [zNJ hk (by simpa using hkf) (fun j hj => by have := hkb j hj; simpa using this)]
     repeat' first | (with_reducible first | refine zb ?_ | refine zAD ?_)
     refine zD ?_
     simp (maxSteps := 9999999) only [push_cast, seval, ↓reduceIte, show Tryz.f267.results = #[(.cell 4 30), (.cell 5 3), (.cell 6 40)] from rfl]
     exact Lq
 ·have hw' : zAe ws = false := by simpa using hw
  repeat' first | (with_reducible first | refine zA ?_ | refine zB ?_ | refine zb ?_ | refine zF ?_) | ((first | with_reducible refine zC fun KC J hJ hKC => ?_ | (refine' hKC _ _ _ _ _ (zE (zCU _ _ ?_) rfl rfl rfl ?_ ?_); (rotate_left 3); (· exact Lq); (rotate_left 1); (iterate 1 (· exact Hq)))); simp (maxSteps := 9999999) only [push_cast, seval, ↓reduceIte, hw']) | ((with_reducible refine hJ _ _ ?_); clear hJ hKC KC J) | ((with_reducible refine zG ?_ ?_); · rfl)
  refine zD ?_
  simp (maxSteps := 9999999) only [push_cast, seval, ↓reduceIte, show Tryz.f267.results = #[(.cell 4 30), (.cell 5 3), (.cell 6 40)] from rfl]
  rw [show zBU ⟨l, a, lg⟩ ws = (Dr.z, 0, 1) from if_pos hw']
  exact Lq
section
inductive Cp (α : Type) where
 | ret (x : α)
 | bad (e : Int)
 | take (b : Int) (k : Int → Cp α)
namespace Cp
variable {α β γ : Type}
def bind : Cp α → (α → Cp β) → Cp β
 | .ret x, f => f x
 | .bad e, _ => .bad e
 | .take b k, f => .take b fun n => (k n).bind f
theorem zNz (c : Cp α) (f : α → Cp β) (g : β → Cp γ) : (c.bind f).bind g = c.bind fun x => (f x).bind g := by
 induction c with
 | ret x => rfl
 | bad e => rfl
 | take b k ih => simp only [bind, ih]
def run : Cp α → Dr → Except Int (Dr × α)
 | .ret x, d => .ok (d, x)
 | .bad e, _ => .error e
 | .take b k, d => if (zAP d b).2.2 = 0 then (k (zAP d b).2.1).run (zAP d b).1 else .error (zAP d b).2.2
theorem run_bind (c : Cp α) (f : α → Cp β) (d : Dr) : (c.bind f).run d = match c.run d with | .ok (d', x) => (f x).run d' | .error e => .error e := by
 induction c generalizing d with
 | ret x => rfl
 | bad e => rfl
 | take b k ih =>
  simp only [bind, run]
  by_cases h : (zAP d b).2.2 = 0
  ·rw [if_pos h, if_pos h, ih]
  ·rw [if_neg h, if_neg h]
def path : Cp α → List Int → Option α
 | .ret x, [] => some x
 | .take b k, n :: cs => if 0 ≤ n ∧ n < b then (k n).path cs else none
 | _, _ => none
theorem path_bind (c : Cp α) (f : α → Cp β) {cs ds : List Int} {x : α} {y : β} (h1 : c.path cs = some x) (h2 : (f x).path ds = some y) : (c.bind f).path (cs ++ ds) = some y := by
 induction c generalizing cs with
 | ret z =>
  cases cs with
  | nil => simp only [path, Option.some.injEq] at h1; subst h1; exact h2
  | cons _ _ => simp [path] at h1
 | bad e => cases cs <;> simp [path] at h1
 | take b k ih =>
  cases cs with
  | nil => simp [path] at h1
  | cons n cs =>
   simp only [path] at h1
   split at h1
   ·rename_i hn
    simp only [bind, List.cons_append, path]
    rw [if_pos hn]
    exact ih n h1
   ·cases h1
theorem bind_path (c : Cp α) (f : α → Cp β) {cs : List Int} {y : β} (h : (c.bind f).path cs = some y) : ∃ xs bs x, cs = xs ++ bs ∧ c.path xs = some x ∧ (f x).path bs = some y := by
 induction c generalizing cs with
 | ret z => exact ⟨[], cs, z, rfl, rfl, h⟩
 | bad e => cases cs <;> simp [bind, path] at h
 | take b k ih =>
  cases cs with
  | nil => simp [bind, path] at h
  | cons n cs =>
   simp only [bind, path] at h
   split at h
   ·rename_i hn
    obtain ⟨xs, bs, x, h1, h2, h3⟩ := ih n h
    exact ⟨n :: xs, bs, x, by rw [h1]; rfl, by simp only [path]; rw [if_pos hn]; exact h2, h3⟩
   ·cases h
theorem takeF_ok {d : Dr} {b : Int} (h : (zAP d b).2.2 = 0) : zAg d.l d.g d.a = true ∧ 1 ≤ b ∧ d.g.length < 2000 ∧ 0 ≤ (zAP d b).2.1 ∧ (zAP d b).2.1 < b ∧ (zAP d b).1 = ⟨d.l, (if d.a < d.l.length then d.a + 1 else d.a), d.g ++ [(zAP d b).2.1]⟩ ∧ (zAP d b).2.1 = zBY d.l d.a b := by
 unfold zAP at h ⊢
 split
 ·rename_i hc; rw [if_pos hc] at h; cases h
 ·rename_i hc
  rw [if_neg hc] at h
  split
  ·rename_i hg; rw [if_pos hg] at h; cases h
  ·rename_i hg
   have hr : zAg d.l d.g d.a = true := by
    cases hh : zAg d.l d.g d.a with
    | true => rfl
    | false => exact absurd (.inl hh) hc
   have hb : 1 ≤ b := by
    by_cases hb : b < 1
    ·exact absurd (.inr hb) hc
    ·omega
   have hgl : d.g.length ≤ 2000 := by
    simp only [zAg, Bool.and_eq_true, decide_eq_true_eq] at hr
    exact hr.1.2
   have := zFq d.l d.a hb
   exact ⟨hr, hb, by omega, this.1, this.2, rfl, rfl⟩
theorem run_path (c : Cp α) {d d' : Dr} {x : α} (h : c.run d = .ok (d', x)) : ∃ cs, c.path cs = some x ∧ d'.g = d.g ++ cs ∧ d'.l = d.l := by
 induction c generalizing d with
 | ret z => simp only [run, Except.ok.injEq, Prod.mk.injEq] at h; obtain ⟨rfl, rfl⟩ := h; exact ⟨[], rfl, by simp, rfl⟩
 | bad e => simp [run] at h
 | take b k ih =>
  simp only [run] at h
  split at h
  ·rename_i h0
   obtain ⟨cs, h1, h2, h3⟩ := ih _ h
   obtain ⟨_, _, _, h4, h5, h6, _⟩ := takeF_ok h0
   refine ⟨(zAP d b).2.1 :: cs, by simp only [path]; rw [if_pos ⟨h4, h5⟩]; exact h1, ?_, ?_⟩
   ·rw [h2, h6]; simp
   ·rw [h3, h6]
  ·cases h
theorem path_run (c : Cp α) {cs L g : List Int} {a : Nat} {x : α} (h : c.path cs = some x) (hL : L.length ≤ 500) (hg : g.length + cs.length ≤ 2000) (hp : ∃ post, L.drop a = cs ++ post) :
  c.run ⟨L, a, g⟩ = .ok (⟨L, ((a + cs.length : Nat) : Int), g ++ cs⟩, x) := by
 induction c generalizing cs g a with
 | ret z =>
  cases cs with
  | nil => simp only [path, Option.some.injEq] at h; subst h; simp [run]
  | cons _ _ => simp [path] at h
 | bad e => cases cs <;> simp [path] at h
 | take b k ih =>
  cases cs with
  | nil => simp [path] at h
  | cons n cs =>
   simp only [path] at h
   split at h
   ·rename_i hn
    obtain ⟨post, hp⟩ := hp
    simp only [List.length_cons] at hg
    have ha : L[a]? = some n := by
     have : (L.drop a)[0]? = some n := by rw [hp]; rfl
     rw [List.getElem?_drop] at this; simpa using this
    have hal : a < L.length := (List.getElem?_eq_some_iff.1 ha).1
    have hr : zAg L g (a : Int) = true := by simp [zAg]; omega
    have ht : zAP ⟨L, a, g⟩ b = (⟨L, ((a + 1 : Nat) : Int), g ++ [n]⟩, n, 0) := by
     rw [zPL hr (by omega) (by omega)]
     have hc : zBY L (a : Int) b = n := by
      unfold zBY
      rw [if_pos (by omega), Int.toNat_natCast, List.getD_eq_getElem?_getD, ha]
      exact Int.emod_eq_of_lt hn.1 hn.2
     rw [hc, if_pos (by omega)]
     simp
    simp only [run, ht, if_true]
    rw [ih n h (by simp; omega) ⟨post, by rw [← List.drop_drop, hp]; rfl⟩]
    simp only [List.length_cons, List.append_assoc, List.cons_append, List.nil_append]
    rw [show a + 1 + cs.length = a + (cs.length + 1) from by omega]
   ·cases h
def All (p : α → Prop) : Cp α → Prop
 | .ret x => p x
 | .bad _ => True
 | .take b k => ∀ n, 0 ≤ n → n < b → (k n).All p
theorem all_path {p : α → Prop} (c : Cp α) (h : c.All p) {cs : List Int} {x : α} (hc : c.path cs = some x) : p x := by
 induction c generalizing cs with
 | ret z =>
  cases cs with
  | nil => simp only [path, Option.some.injEq] at hc; subst hc; exact h
  | cons _ _ => simp [path] at hc
 | bad e => cases cs <;> simp [path] at hc
 | take b k ih =>
  cases cs with
  | nil => simp [path] at hc
  | cons n cs =>
   simp only [path] at hc
   split at hc
   ·rename_i hn; exact ih n (h n hn.1 hn.2) hc
   ·cases hc
theorem all_bind {p : α → Prop} {q : β → Prop} (c : Cp α) (f : α → Cp β) (h : c.All p) (hf : ∀ x, p x → (f x).All q) : (c.bind f).All q := by
 induction c with
 | ret z => exact hf z h
 | bad e => trivial
 | take b k ih => exact fun n h0 h1 => ih n (h n h0 h1)
theorem all_mono {p q : α → Prop} (c : Cp α) (h : c.All p) (hpq : ∀ x, p x → q x) : c.All q := by
 induction c with
 | ret z => exact hpq z h
 | bad e => trivial
 | take b k ih => exact fun n h0 h1 => ih n (h n h0 h1)
def Deep : Nat → Cp α → Prop
 | _, .ret _ => True
 | _, .bad _ => True
 | 0, .take _ _ => False
 | n + 1, .take b k => ∀ m, 0 ≤ m → m < b → Deep n (k m)
theorem deep_mono {n m : Nat} (c : Cp α) (h : Deep n c) (hm : n ≤ m) : Deep m c := by
 induction c generalizing n m with
 | ret z => cases m <;> trivial
 | bad e => cases m <;> trivial
 | take b k ih =>
  cases n with
  | zero => exact h.elim
  | succ n =>
   cases m with
   | zero => omega
   | succ m => exact fun j h0 h1 => ih j (h j h0 h1) (by omega)
theorem deep_bind {n m : Nat} {p : α → Prop} (c : Cp α) (f : α → Cp β) (h : Deep n c) (hp : c.All p) (hf : ∀ x, p x → Deep m (f x)) : Deep (n + m) (c.bind f) := by
 induction c generalizing n with
 | ret z => exact deep_mono _ (hf z hp) (by omega)
 | bad e => cases n + m <;> trivial
 | take b k ih =>
  cases n with
  | zero => exact h.elim
  | succ n =>
   rw [show n + 1 + m = (n + m) + 1 from by omega]
   exact fun j h0 h1 => ih j (h j h0 h1) (hp j h0 h1)
theorem path_deep {n : Nat} (c : Cp α) (h : Deep n c) {cs : List Int} {x : α} (hc : c.path cs = some x) : cs.length ≤ n := by
 induction c generalizing n cs with
 | ret z =>
  cases cs with
  | nil => simp
  | cons _ _ => simp [path] at hc
 | bad e => cases cs <;> simp [path] at hc
 | take b k ih =>
  cases cs with
  | nil => simp
  | cons j cs =>
   cases n with
   | zero => exact h.elim
   | succ n =>
    simp only [path] at hc
    split at hc
    ·rename_i hn
     have := ih j (h j hn.1 hn.2) hc
     simp only [List.length_cons]; omega
    ·cases hc
def times (c : Cp α) : Nat → Cp (List α)
 | 0 => .ret []
 | n + 1 => (times c n).bind fun l => c.bind fun x => .ret (l ++ [x])
theorem all_times {p : α → Prop} {c : Cp α} (h : c.All p) : ∀ n, (c.times n).All fun l => l.length = n ∧ ∀ x ∈ l, p x
 | 0 => ⟨rfl, fun x hx => by cases hx⟩
 | n + 1 => all_bind _ _ (all_times h n) fun l hl => all_bind _ _ h fun x hx => ⟨by simp [hl.1], fun y hy => by
   rcases List.mem_append.1 hy with hy | hy
   ·exact hl.2 y hy
   ·rw [List.mem_singleton.1 hy]; exact hx⟩
theorem all_true (c : Cp α) : c.All fun _ => True := by
 induction c with
 | ret z => trivial
 | bad e => trivial
 | take b k ih => exact fun n _ _ => ih n
theorem deep_times {m : Nat} {c : Cp α} (h : Deep m c) : ∀ n, Deep (n * m) (c.times n)
 | 0 => by cases 0 * m <;> trivial
 | n + 1 => by
  rw [Nat.succ_mul]
  exact deep_bind _ _ (deep_times h n) (all_true _) fun l _ => deep_mono _ (deep_bind (m := 0) _ _ h (all_true _) fun x _ => trivial) (by omega)
def rows (c : Cp α) (most : Int) : Cp (List α) := .take (most + 1) fun n => c.times n.toNat
end Cp
abbrev M3 := Dr × Int × Int
def Is {α : Type} (f : M3 → M3 × α) (c : Cp α) : Prop :=
 (∀ d n, match c.run d with | .ok (d', x) => ∃ n', f (d, n, 0) = ((d', n', 0), x) | .error e => e ≠ 0 ∧ (f (d, n, 0)).1.2.2 = e) ∧ ∀ d n e, e ≠ 0 → (f (d, n, e)).1.2.2 = e
section
variable {α β : Type}
theorem Is.bind {f : M3 → M3 × α} {c : Cp α} {g : α → M3 → M3 × β} {k : α → Cp β} (h : Is f c) (hg : ∀ x, Is (g x) (k x)) : Is (fun m => g (f m).2 (f m).1) (c.bind k) := by
 refine ⟨fun d n => ?_, fun d n e he => ?_⟩
 ·have h1 := h.1 d n
  rw [Cp.run_bind]
  cases hr : c.run d with
  | error e =>
   rw [hr] at h1
   obtain ⟨he, h2⟩ := h1
   obtain ⟨⟨⟨d1, n1, e1⟩, x⟩, hf⟩ : ∃ r, f (d, n, 0) = r := ⟨_, rfl⟩
   rw [hf] at h2
   simp only at h2
   subst h2
   exact ⟨he, by simp only [hf]; exact (hg x).2 d1 n1 e1 he⟩
  | ok r =>
   obtain ⟨d', x⟩ := r
   rw [hr] at h1
   obtain ⟨n', hf⟩ := h1
   have h3 := (hg x).1 d' n'
   simp only [hf]
   exact h3
 ·have h1 := h.2 d n e he
  obtain ⟨⟨⟨d1, n1, e1⟩, x⟩, hf⟩ : ∃ r, f (d, n, e) = r := ⟨_, rfl⟩
  rw [hf] at h1
  simp only at h1
  subst h1
  simp only [hf]
  exact (hg x).2 d1 n1 e1 he
theorem Is.ret (x : α) : Is (fun m => (m, x)) (.ret x) := ⟨fun d n => ⟨n, rfl⟩, fun _ _ _ _ => rfl⟩
theorem Is.ext {f g : M3 → M3 × α} {c : Cp α} (h : Is f c) (he : ∀ m, f m = g m) : Is g c := by
 rw [show g = f from (funext he).symm]; exact h
def ze (one : M3 → M3 × α) : Nat → M3 → M3 × List α
 | 0, m => (m, [])
 | n + 1, m => let r := ze one n m; let x := one r.1; (x.1, r.2 ++ [x.2])
theorem Is.times {f : M3 → M3 × α} {c : Cp α} (h : Is f c) : ∀ n, Is (ze f n) (c.times n)
 | 0 => .ret []
 | n + 1 => (Is.bind (Is.times h n) (g := fun l m => ((f m).1, l ++ [(f m).2])) (k := fun l => c.bind fun x => .ret (l ++ [x])) fun l => (Is.bind h (g := fun x m => (m, l ++ [x])) (k := fun x => .ret (l ++ [x])) fun x => .ret (l ++ [x]))).ext fun m => rfl
end
def zCK (m t : M3) : M3 := if m.2.2 = 0 then if t.2.2 = 0 then t else (m.1, 0, t.2.2) else (m.1, 0, m.2.2)
def Ans (t : Dr → M3) (c : Cp Int) : Prop := ∀ d, match c.run d with | .ok (d', x) => t d = (d', x, 0) | .error e => e ≠ 0 ∧ (t d).2.2 = e
theorem zJl {t : Dr → M3} {c : Cp Int} (h : Ans t c) : Is (fun m => (zCK m (t m.1), (zCK m (t m.1)).2.1)) c := by
 refine ⟨fun d n => ?_, fun d n e he => by simp only [zCK]; rw [if_neg he]⟩
 have := h d
 cases hr : c.run d with
 | error e =>
  rw [hr] at this
  obtain ⟨he, h2⟩ := this
  refine ⟨he, ?_⟩
  simp only [zCK, if_true]
  rw [if_neg (by rw [h2]; exact he)]
  exact h2
 | ok r =>
  obtain ⟨d', x⟩ := r
  rw [hr] at this
  simp only at this
  simp only [zCK, this, if_true]
  exact ⟨x, rfl⟩
def zCN (b : Int) : Cp Int := .take b .ret
def zFH (v : Int) : Cp Int := if v < 0 ∨ 20 < v then .bad 1 else .take (2 * v + 1) fun n => .ret (zFp n)
def opC (ws : List Int) : Cp Int := if zAe ws = false then .bad 1 else .take ws.sum fun n => .ret (zEJ ws n)
theorem zSr (b : Int) : Ans (fun d => zAP d b) (zCN b) := fun d => by
 simp only [zCN, Cp.run]
 split
 ·rename_i h
  split at h
  ·rename_i h0; cases h; exact Prod.ext rfl (Prod.ext rfl h0)
  ·cases h
 ·rename_i h
  split at h
  ·cases h
  ·rename_i h0; cases h; exact ⟨h0, rfl⟩
theorem zTs (v : Int) : Ans (fun d => zCG d v) (zFH v) := fun d => by
 simp only [zFH, zCG]
 by_cases hv : v < 0 ∨ 20 < v
 ·rw [if_pos hv, if_pos hv]; exact ⟨by decide, rfl⟩
 ·rw [if_neg hv, if_neg hv]
  simp only [Cp.run]
  by_cases h0 : (zAP d (2 * v + 1)).2.2 = 0
  ·rw [if_pos h0, if_pos h0]
  ·rw [if_neg h0, if_neg h0]; exact ⟨h0, rfl⟩
theorem zUn (ws : List Int) : Ans (fun d => zBU d ws) (opC ws) := fun d => by
 simp only [opC, zBU]
 by_cases hv : zAe ws = false
 ·rw [if_pos hv, if_pos hv]; exact ⟨by decide, rfl⟩
 ·rw [if_neg hv, if_neg hv]
  simp only [Cp.run]
  by_cases h0 : (zAP d ws.sum).2.2 = 0
  ·rw [if_pos h0, if_pos h0]
  ·rw [if_neg h0, if_neg h0]; exact ⟨h0, rfl⟩
end
structure Sp where
 code : Int
 mem : Int
 stack : Int
 val : Int
 ws : List Int
section
variable {α β : Type}
theorem Is.ret0 (x : α) : Is (fun m => ((m.1, 0, m.2.2), x)) (.ret x) := ⟨fun d n => ⟨0, rfl⟩, fun _ _ _ _ => rfl⟩
end
theorem Is.rows {α : Type} {b : M3 → M3 × Int} {f : M3 → M3 × α} {c : Cp α} {most : Int} (hb : Is b (zCN (most + 1))) (h : Is f c) : Is (fun m => ze f (b m).2.toNat (b m).1) (c.rows most) :=
 Is.bind hb (g := fun n => ze f n.toNat) (k := fun n => c.times n.toNat) fun n => h.times _
def nC (sp : Sp) (o : Int) : Cp Int := if o = 1 then zFH sp.val else if o = 8 then zCN 13 else if o = 9 then zCN 4 else if o = 10 then zCN 2 else .ret 0
def zFt (nl : Int) (sp : Sp) : Cp (Int × Int × Int) := (opC sp.ws).bind fun o => (nC sp o).bind fun v => (if o = 1 then zCN nl else .ret 0).bind fun l => .ret (o, v, l)
def zKT (nl : Int) (sp : Sp) : Cp (Int × Int) := (zFH sp.val).bind fun v => (zCN nl).bind fun l => .ret (v, l)
def zKs (nl : Int) (sp : Sp) : Cp (Bool × Int × Int) := (zCN 2).bind fun r => (if r = 1 then zCN 13 else zFH sp.val).bind fun v => (zCN nl).bind fun l => .ret (decide (r = 1), v, l)
def zGd (nl : Int) (sp : Sp) : Cp Sta := ((zFt nl sp).rows sp.code).bind fun c => ((zKT nl sp).rows sp.mem).bind fun m => ((zKs nl sp).rows sp.stack).bind fun s => (zCN 13).bind fun v => (zCN nl).bind fun l => .ret ⟨v, l, c, m, s, []⟩
def Sta.z : Sta := ⟨0, 0, [], [], [], []⟩
def zQi {α : Type} (z : α) (r : Except Int (Dr × α)) : Dr × α × Int := match r with | .ok (d, x) => (d, x, 0) | .error e => (Dr.z, z, e)
theorem Is.end {α : Type} {f : M3 → M3 × α} {c : Cp α} (h : Is f c) (z : α) (d : Dr) (n : Int) : zQi z (c.run d) = if (f (d, n, 0)).1.2.2 = 0 then ((f (d, n, 0)).1.1, (f (d, n, 0)).2, 0) else (Dr.z, z, (f (d, n, 0)).1.2.2) := by
 have := h.1 d n
 cases hr : c.run d with
 | error e =>
  rw [hr] at this
  obtain ⟨he, h2⟩ := this
  rw [h2, if_neg he]; rfl
 | ok r =>
  obtain ⟨d', x⟩ := r
  rw [hr] at this
  obtain ⟨n', hf⟩ := this
  rw [hf, if_pos rfl]; rfl
def zQ (m : M3) (b : Int) : M3 := zCK m (zAP m.1 b)
def zAJ (m : M3) (v : Int) : M3 := zCK m (zCG m.1 v)
def opP (m : M3) (ws : List Int) : M3 := zCK m (zBU m.1 ws)
def zET (nl : Int) (sp : Sp) (m : M3) : M3 × (Int × Int) := let a := zAJ m sp.val; let b := zQ a nl; (b, a.2.1, b.2.1)
def zDl (nl : Int) (sp : Sp) (m : M3) : M3 × (Bool × Int × Int) :=
 let r := zQ m 2
 let v := if r.2.1 = 1 then zQ r 13 else zAJ r sp.val
 let b := zQ v nl
 (b, decide (r.2.1 = 1), v.2.1, b.2.1)
def zCL (sp : Sp) (o : Int) (m : M3) : M3 := if o = 1 then zAJ m sp.val else if o = 8 then zQ m 13 else if o = 9 then zQ m 4 else if o = 10 then zQ m 2 else (m.1, 0, m.2.2)
def zCu (nl : Int) (sp : Sp) (m : M3) : M3 × (Int × Int × Int) :=
 let o := opP m sp.ws
 let v := zCL sp o.2.1 o
 let b := if o.2.1 = 1 then zQ v nl else (v.1, 0, v.2.2)
 (b, o.2.1, v.2.1, b.2.1)
def zCJ {α : Type} (f : M3 → M3 × α) (most : Int) (m : M3) : M3 × List α := ze f (zQ m (most + 1)).2.1.toNat (zQ m (most + 1))
def zVN (nl : Int) (sp : Sp) (m : M3) : M3 × Sta :=
 let c := zCJ (zCu nl sp) sp.code m
 let a := zCJ (zET nl sp) sp.mem c.1
 let s := zCJ (zDl nl sp) sp.stack a.1
 let v := zQ s.1 13
 let l := zQ v nl
 (l, ⟨v.2.1, l.2.1, c.2, a.2, s.2, []⟩)
theorem zAr (b : Int) : Is (fun m => (zQ m b, (zQ m b).2.1)) (zCN b) := zJl (zSr b)
theorem zDX (v : Int) : Is (fun m => (zAJ m v, (zAJ m v).2.1)) (zFH v) := zJl (zTs v)
theorem zVT (ws : List Int) : Is (fun m => (opP m ws, (opP m ws).2.1)) (opC ws) := zJl (zUn ws)
theorem zVp (sp : Sp) (o : Int) : Is (fun m => (zCL sp o m, (zCL sp o m).2.1)) (nC sp o) := by
 unfold zCL nC
 by_cases h1 : o = 1
 ·simp only [if_pos h1]; exact zDX _
 by_cases h8 : o = 8
 ·simp only [if_neg h1, if_pos h8]; exact zAr _
 by_cases h9 : o = 9
 ·simp only [if_neg h1, if_neg h8, if_pos h9]; exact zAr _
 by_cases h10 : o = 10
 ·simp only [if_neg h1, if_neg h8, if_neg h9, if_pos h10]; exact zAr _
 simp only [if_neg h1, if_neg h8, if_neg h9, if_neg h10]; exact Is.ret0 0
theorem zTm (nl : Int) (sp : Sp) : Is (zET nl sp) (zKT nl sp) :=
 (Is.bind (zDX sp.val) (g := fun v m => (zQ m nl, v, (zQ m nl).2.1)) fun v => Is.bind (zAr nl) (g := fun l m => (m, v, l)) fun l => .ret (v, l)).ext fun m => rfl
theorem zTQ (nl : Int) (sp : Sp) : Is (zDl nl sp) (zKs nl sp) :=
 (Is.bind (zAr 2) (g := fun r m => (zQ (if r = 1 then zQ m 13 else zAJ m sp.val) nl, decide (r = 1), (if r = 1 then zQ m 13 else zAJ m sp.val).2.1, (zQ (if r = 1 then zQ m 13 else zAJ m sp.val) nl).2.1)) fun r =>
  Is.bind (f := fun m => (if r = 1 then zQ m 13 else zAJ m sp.val, (if r = 1 then zQ m 13 else zAJ m sp.val).2.1)) (by
   by_cases h : r = 1
   ·simp only [if_pos h]; exact zAr 13
   ·simp only [if_neg h]; exact zDX _) (g := fun v m => (zQ m nl, decide (r = 1), v, (zQ m nl).2.1)) fun v => Is.bind (zAr nl) (g := fun l m => (m, decide (r = 1), v, l)) fun l => .ret _).ext fun m => rfl
theorem zRB (nl : Int) (sp : Sp) : Is (zCu nl sp) (zFt nl sp) :=
 (Is.bind (zVT sp.ws) (g := fun o m => ((if o = 1 then zQ (zCL sp o m) nl else ((zCL sp o m).1, 0, (zCL sp o m).2.2)), o, (zCL sp o m).2.1, (if o = 1 then zQ (zCL sp o m) nl else ((zCL sp o m).1, 0, (zCL sp o m).2.2)).2.1)) fun o =>
  Is.bind (zVp sp o) (g := fun v m => ((if o = 1 then zQ m nl else (m.1, 0, m.2.2)), o, v, (if o = 1 then zQ m nl else (m.1, 0, m.2.2)).2.1)) fun v =>
   Is.bind (f := fun m => (if o = 1 then zQ m nl else (m.1, 0, m.2.2), (if o = 1 then zQ m nl else (m.1, 0, m.2.2)).2.1)) (by
    by_cases h : o = 1
    ·simp only [if_pos h]; exact zAr nl
    ·simp only [if_neg h]; exact Is.ret0 0) (g := fun l m => (m, o, v, l)) fun l => .ret _).ext fun m => rfl
theorem zJZ {α : Type} {f : M3 → M3 × α} {c : Cp α} (h : Is f c) (most : Int) : Is (zCJ f most) (c.rows most) := Is.rows (zAr (most + 1)) h
theorem zRU (nl : Int) (sp : Sp) : Is (zVN nl sp) (zGd nl sp) :=
 (Is.bind (zJZ (zRB nl sp) sp.code) (g := fun c m => let a := zCJ (zET nl sp) sp.mem m; let s := zCJ (zDl nl sp) sp.stack a.1; let v := zQ s.1 13; let l := zQ v nl; (l, (⟨v.2.1, l.2.1, c, a.2, s.2, []⟩ : Sta))) fun c =>
  Is.bind (zJZ (zTm nl sp) sp.mem) (g := fun a m => let s := zCJ (zDl nl sp) sp.stack m; let v := zQ s.1 13; let l := zQ v nl; (l, (⟨v.2.1, l.2.1, c, a, s.2, []⟩ : Sta))) fun a =>
   Is.bind (zJZ (zTQ nl sp) sp.stack) (g := fun s m => let v := zQ m 13; let l := zQ v nl; (l, (⟨v.2.1, l.2.1, c, a, s, []⟩ : Sta))) fun s =>
    Is.bind (zAr 13) (g := fun v m => let l := zQ m nl; (l, (⟨v, l.2.1, c, a, s, []⟩ : Sta))) fun v =>
     Is.bind (zAr nl) (g := fun l m => (m, (⟨v, l, c, a, s, []⟩ : Sta))) fun l => .ret _).ext fun m => rfl
theorem zGf {ws : List Int} (hw : ∀ w ∈ ws, 0 ≤ w ∧ w ≤ 100) {i j : Nat} (h : i ≤ j) : (ws.take i).sum ≤ (ws.take j).sum := by
 induction j with
 | zero => simp at h; subst h; simp
 | succ j ih =>
  by_cases he : i = j + 1
  ·rw [he]; omega
  ·have := ih (by omega)
   by_cases hj : j < ws.length
   ·rw [zCP hj]
    have := hw ws[j] (List.getElem_mem _)
    omega
   ·rw [List.take_of_length_le (by omega : ws.length ≤ j)] at this
    rw [List.take_of_length_le (by omega : ws.length ≤ j + 1)]
    exact this
theorem zKK {ws : List Int} (hw : ∀ w ∈ ws, 0 ≤ w ∧ w ≤ 100) {n i : Int} (h0 : 0 ≤ n) (hn : n < ws.sum) :
  zEJ ws n = i ↔ ∃ k : Nat, k < ws.length ∧ i = k ∧ (ws.take k).sum ≤ n ∧ n < (ws.take (k + 1)).sum := by
 have hex : ∃ k : Nat, k < ws.length ∧ (ws.take k).sum ≤ n ∧ n < (ws.take (k + 1)).sum := by
  rcases zQv ws.length (fun k => decide (¬ n < (ws.take (k + 1)).sum)) with h | ⟨k, hk, h1, h2⟩
  ·exfalso
   cases hl : ws.length with
   | zero => rw [List.length_eq_zero_iff.1 hl] at hn; simp at hn; omega
   | succ m =>
    have := h m (by omega)
    rw [← hl, List.take_length] at this
    simp at this; omega
  ·refine ⟨k, hk, ?_, by simpa using h1⟩
   cases k with
   | zero => simpa using h0
   | succ k => have := h2 k (by omega); simp at this; exact this
 obtain ⟨k, hk, hk1, hk2⟩ := hex
 have hp : zEJ ws n = k := zNJ hk hk2 (fun j hj => by have := zGf hw (show j + 1 ≤ k by omega); omega)
 constructor
 ·intro h; exact ⟨k, hk, by omega, hk1, hk2⟩
 ·rintro ⟨k', hk', rfl, h1, h2⟩
  rw [hp]
  rcases Nat.lt_trichotomy k k' with h | h | h
  ·have := zGf hw (show k + 1 ≤ k' by omega); omega
  ·rw [h]
  ·have := zGf hw (show k' + 1 ≤ k by omega); omega
def zFw (ws : List Int) (i : Int) : Int × Int :=
 if zAe ws = false then (0, 1) else if i < 0 ∨ ws.length ≤ i ∨ ws.getD i.toNat 0 = 0 then (0, 9) else ((ws.take i.toNat).sum, 0)
def inB (a b n : Int) : Bool := decide (a ≤ n) && decide (n ≤ b)
def zAm (n : Nat) (x : Int × Int × Int) : Bool :=
 if x.1 = 1 then inB (-20) 20 x.2.1 && !zv n x.2.2
 else inB 0 12 x.1 && (decide (x.2.2 = 0) && (if x.1 = 8 then inB 0 12 x.2.1 else if x.1 = 9 then inB 0 3 x.2.1 else if x.1 = 10 then inB 0 1 x.2.1 else decide (x.2.1 = 0)))
def zBg (n : Nat) (x : Int × Int) : Bool := inB (-20) 20 x.1 && !zv n x.2
def zBI (n : Nat) (x : Bool × Int × Int) : Bool := !zv n x.2.2 && (if x.1 = true then inB 0 12 x.2.1 else inB (-20) 20 x.2.1)
def zFm (n : Nat) (c : List (Int × Int × Int)) : Bool := c.all (zAm n) && decide (c.length ≤ 12)
def zIp (n : Nat) (s : Sta) : Bool :=
 zFm n s.code && (inB 0 12 s.v && (!zv n s.l && (s.mem.all (zBg n) && (decide (s.mem.length ≤ 6) && (s.stack.all (zBI n) && (decide (s.stack.length ≤ 12) && (s.out.all (zBg n) && decide (s.out.length ≤ 8))))))))
def spB (sp : Sp) : Bool := inB 0 12 sp.code && (inB 0 6 sp.mem && (inB 0 12 sp.stack && (inB 0 20 sp.val && (decide (sp.ws.length = 13) && zAe sp.ws))))
def zAn (sp : Sp) (x : Int × Int × Int) : Bool := !decide (sp.ws.getD x.1.toNat 0 = 0) && (!decide (x.1 = 1) || inB (-sp.val) sp.val x.2.1)
def zEV (n : Nat) (sp : Sp) (s : Sta) : Bool :=
 zIp n s && (decide ((s.code.length : Int) ≤ sp.code) && (decide ((s.mem.length : Int) ≤ sp.mem) && (decide ((s.stack.length : Int) ≤ sp.stack) && (decide (s.out.length = 0) &&
  (s.code.all (zAn sp) && (s.mem.all (fun a => inB (-sp.val) sp.val a.1) && s.stack.all (fun x => x.1 || inB (-sp.val) sp.val x.2.1)))))))
theorem zAM {a b n : Int} : inB a b n = true ↔ a ≤ n ∧ n ≤ b := by simp [inB]
theorem zAH {n : Nat} {a : Int} : zv n a = false ↔ 0 ≤ a ∧ a < n := by simp [zv]
structure SpOk (sp : Sp) : Prop where
 c0 : 0 ≤ sp.code
 c1 : sp.code ≤ 12
 m0 : 0 ≤ sp.mem
 m1 : sp.mem ≤ 6
 s0 : 0 ≤ sp.stack
 s1 : sp.stack ≤ 12
 v0 : 0 ≤ sp.val
 v1 : sp.val ≤ 20
 wl : sp.ws.length = 13
 ww : zAe sp.ws = true
theorem zIG {sp : Sp} : spB sp = true ↔ SpOk sp := by
 simp only [spB, Bool.and_eq_true, zAM, decide_eq_true_eq]
 constructor
 ·rintro ⟨⟨h1, h2⟩, ⟨h3, h4⟩, ⟨h5, h6⟩, ⟨h7, h8⟩, h9, h10⟩; exact ⟨h1, h2, h3, h4, h5, h6, h7, h8, h9, h10⟩
 ·rintro ⟨h1, h2, h3, h4, h5, h6, h7, h8, h9, h10⟩; exact ⟨⟨h1, h2⟩, ⟨h3, h4⟩, ⟨h5, h6⟩, ⟨h7, h8⟩, h9, h10⟩
theorem zRI {v n : Int} (hv : 0 ≤ v) (h0 : 0 ≤ n) (h1 : n < 2 * v + 1) : -v ≤ zFp n ∧ zFp n ≤ v := by
 unfold zFp; split <;> omega
theorem zER {v : Int} (hv : 0 ≤ v) : (zFH v).All fun x => -v ≤ x ∧ x ≤ v := by
 unfold zFH
 split
 ·trivial
 ·exact fun n h0 h1 => zRI hv h0 h1
theorem zBL (b : Int) : (zCN b).All fun x => 0 ≤ x ∧ x < b := fun n h0 h1 => ⟨h0, h1⟩
theorem zTo {ws : List Int} (h : zAe ws = true) : (opC ws).All fun (x : Int) => 0 ≤ x ∧ x < ws.length ∧ ws.getD x.toNat 0 ≠ 0 := by
 have hw := zDE h
 unfold opC
 rw [if_neg (by rw [h]; simp)]
 intro n h0 h1
 have hp := (zKK hw.2.2.1 h0 h1 (i := zEJ ws n)).1 rfl
 obtain ⟨k, hkl, hk, h2, h3⟩ := hp
 show 0 ≤ zEJ ws n ∧ zEJ ws n < (ws.length : Int) ∧ ws.getD (zEJ ws n).toNat 0 ≠ 0
 rw [hk]
 refine ⟨by omega, by omega, ?_⟩
 rw [Int.toNat_natCast, List.getD_eq_getElem?_getD, List.getElem?_eq_getElem hkl]
 have := zCP hkl
 simp only [Option.getD_some]
 omega
theorem zOT {nl : Nat} {sp : Sp} (h : SpOk sp) : (zFt nl sp).All fun x => zAm nl x = true ∧ zAn sp x = true := by
 refine Cp.all_bind _ _ (zTo h.ww) fun o ho => ?_
 rw [h.wl] at ho
 obtain ⟨h0, h1, h2⟩ := ho
 have hv0 := h.v0
 have hv1 := h.v1
 by_cases e1 : o = 1
 ·subst e1
  refine Cp.all_bind (p := fun x => -sp.val ≤ x ∧ x ≤ sp.val) _ _ (by unfold nC; rw [if_pos rfl]; exact zER h.v0) fun v hv => ?_
  refine Cp.all_bind (p := fun x => 0 ≤ x ∧ x < (nl : Int)) _ _ (by rw [if_pos rfl]; exact zBL _) fun l hl => ?_
  refine ⟨?_, ?_⟩
  ·simp only [zAm, if_true, Bool.and_eq_true, zAM, Bool.not_eq_true', zAH]
   omega
  ·simp only [zAn, Bool.and_eq_true, Bool.not_eq_true', decide_eq_false_iff_not, Bool.or_eq_true, zAM]
   exact ⟨h2, .inr hv⟩
 ·have hin : ∀ v, zAn sp (o, v, 0) = true := fun v => by
   simp only [zAn, Bool.and_eq_true, Bool.not_eq_true', decide_eq_false_iff_not, Bool.or_eq_true]
   exact ⟨h2, .inl e1⟩
  refine Cp.all_bind (p := fun v => zAm nl (o, v, 0) = true) _ _ ?_ fun v hv => ?_
  ·have ho : inB 0 12 o = true := zAM.2 (by omega)
   unfold nC
   rw [if_neg e1]
   split
   ·rename_i e; refine Cp.all_mono _ (zBL _) fun x hx => ?_
    simp only [zAm]; rw [if_neg e1, if_pos e, ho]; simp [inB]; omega
   split
   ·rename_i e8 e; refine Cp.all_mono _ (zBL _) fun x hx => ?_
    simp only [zAm]; rw [if_neg e1, if_neg e8, if_pos e, ho]; simp [inB]; omega
   split
   ·rename_i e8 e9 e; refine Cp.all_mono _ (zBL _) fun x hx => ?_
    simp only [zAm]; rw [if_neg e1, if_neg e8, if_neg e9, if_pos e, ho]; simp [inB]; omega
   ·rename_i e8 e9 e10
    show zAm nl (o, 0, 0) = true
    simp only [zAm]; rw [if_neg e1, if_neg e8, if_neg e9, if_neg e10, ho]; rfl
  ·rw [if_neg e1]
   exact ⟨hv, hin v⟩
theorem zPj {nl : Nat} {sp : Sp} (h : SpOk sp) : (zKT nl sp).All fun x => zBg nl x = true ∧ inB (-sp.val) sp.val x.1 = true := by
 have hv1 := h.v1
 refine Cp.all_bind _ _ (zER h.v0) fun v hv => Cp.all_bind _ _ (zBL _) fun l hl => ?_
 simp only [Cp.All, zBg, Bool.and_eq_true, zAM, Bool.not_eq_true', zAH]
 omega
theorem zQY {nl : Nat} {sp : Sp} (h : SpOk sp) : (zKs nl sp).All fun x => zBI nl x = true ∧ (x.1 || inB (-sp.val) sp.val x.2.1) = true := by
 have hv1 := h.v1
 refine Cp.all_bind _ _ (Cp.all_true _) fun r _ => ?_
 by_cases hr : r = 1
 ·rw [if_pos hr, decide_eq_true hr]
  refine Cp.all_bind _ _ (zBL _) fun v hv => Cp.all_bind _ _ (zBL _) fun l hl => ?_
  simp only [Cp.All, zBI, if_true, Bool.and_eq_true, zAM, Bool.not_eq_true', zAH, Bool.true_or, and_true]
  omega
 ·rw [if_neg hr, decide_eq_false hr]
  refine Cp.all_bind _ _ (zER h.v0) fun v hv => Cp.all_bind _ _ (zBL _) fun l hl => ?_
  simp only [Cp.All, zBI, Bool.false_eq_true, if_false, Bool.and_eq_true, zAM, Bool.not_eq_true', zAH, Bool.false_or]
  omega
theorem zIM {α : Type} {p : α → Prop} {c : Cp α} (h : c.All p) (most : Int) : (c.rows most).All fun l => (l.length : Int) ≤ most ∧ ∀ x ∈ l, p x := fun n h0 h1 =>
 Cp.all_mono _ (Cp.all_times h n.toNat) fun l hl => ⟨by omega, hl.2⟩
theorem zGM {nl : Nat} {sp : Sp} (h : SpOk sp) : (zGd nl sp).All fun s => zEV nl sp s = true := by
 refine Cp.all_bind _ _ (zIM (zOT h) _) fun c hc => Cp.all_bind _ _ (zIM (zPj h) _) fun m hm => Cp.all_bind _ _ (zIM (zQY h) _) fun s hs => Cp.all_bind _ _ (zBL _) fun v hv => Cp.all_bind _ _ (zBL _) fun l hl => ?_
 obtain ⟨h1, h2, h3, h4, h5, h6, h7, h8, _, _⟩ := h
 simp only [Cp.All, zEV, zIp, zFm, Bool.and_eq_true, zAM, decide_eq_true_eq, Bool.not_eq_true', zAH, List.all_eq_true, List.length_nil, List.not_mem_nil, false_implies, implies_true, and_true]
 refine ⟨⟨⟨fun x hx => (hc.2 x hx).1, by omega⟩, by omega, hl, fun x hx => (hm.2 x hx).1, by omega, fun x hx => (hs.2 x hx).1, by omega, by first | omega | trivial | (simp; done)⟩, hc.1, hm.1, hs.1, trivial, fun x hx => (hc.2 x hx).2, fun x hx => ?_, fun x hx => (hs.2 x hx).2⟩
 exact zAM.1 (hm.2 x hx).2
theorem zBM (b : Int) : Cp.Deep 1 (zCN b) := fun _ _ _ => trivial
theorem zEK (b : Int) : Cp.Deep 1 (zFH b) := by unfold zFH; split; trivial; exact fun _ _ _ => trivial
theorem zTL (ws : List Int) : Cp.Deep 1 (opC ws) := by unfold opC; split; trivial; exact fun _ _ _ => trivial
theorem zFN {α : Type} (n : Nat) (x : α) : Cp.Deep n (.ret x) := by cases n <;> trivial
theorem zOM (nl : Int) (sp : Sp) : Cp.Deep 3 (zFt nl sp) :=
 Cp.deep_bind (n := 1) (m := 2) _ _ (zTL _) (Cp.all_true _) fun o _ => Cp.deep_bind (n := 1) (m := 1) _ _ (by unfold nC; split; exact zEK _; split; exact zBM _; split; exact zBM _; split; exact zBM _; exact zFN _ _) (Cp.all_true _) fun v _ => Cp.deep_bind (n := 1) (m := 0) _ _ (by split; exact zBM _; exact zFN _ _) (Cp.all_true _) fun l _ => trivial
theorem zPZ (nl : Int) (sp : Sp) : Cp.Deep 2 (zKT nl sp) :=
 Cp.deep_bind (n := 1) (m := 1) _ _ (zEK _) (Cp.all_true _) fun o _ => Cp.deep_bind (n := 1) (m := 0) _ _ (zBM _) (Cp.all_true _) fun l _ => trivial
theorem zPR (nl : Int) (sp : Sp) : Cp.Deep 3 (zKs nl sp) :=
 Cp.deep_bind (n := 1) (m := 2) _ _ (zBM _) (Cp.all_true _) fun o _ => Cp.deep_bind (n := 1) (m := 1) _ _ (by split; exact zBM _; exact zEK _) (Cp.all_true _) fun v _ => Cp.deep_bind (n := 1) (m := 0) _ _ (zBM _) (Cp.all_true _) fun l _ => trivial
theorem zHP {α : Type} {n k : Nat} {c : Cp α} (h : Cp.Deep n c) {most : Int} (hm : most ≤ k) : Cp.Deep (1 + k * n) (c.rows most) := by
 rw [Nat.add_comm]
 intro j h0 h1
 exact Cp.deep_mono _ (Cp.deep_times h j.toNat) (Nat.mul_le_mul_right n (by omega))
theorem zMj {nl : Nat} {sp : Sp} (h : SpOk sp) : Cp.Deep 89 (zGd nl sp) :=
 Cp.deep_bind (n := 37) (m := 52) _ _ (zHP (k := 12) (zOM _ _) h.c1) (Cp.all_true _) fun c _ => Cp.deep_bind (n := 13) (m := 39) _ _ (zHP (k := 6) (zPZ _ _) h.m1) (Cp.all_true _) fun m _ =>
  Cp.deep_bind (n := 37) (m := 2) _ _ (zHP (k := 12) (zPR _ _) h.s1) (Cp.all_true _) fun s _ => Cp.deep_bind (n := 1) (m := 1) _ _ (zBM _) (Cp.all_true _) fun v _ => Cp.deep_bind (n := 1) (m := 0) _ _ (zBM _) (Cp.all_true _) fun l _ => trivial
theorem zPx {α : Type} {c : Cp α} {k : Nat} (hd : Cp.Deep k c) (hk : k ≤ 500) {l : List Int} {d : Dr} {x : α} (h : c.run ⟨l, 0, []⟩ = .ok (d, x)) : c.path d.g = some x ∧ d.g.length ≤ k ∧ c.run ⟨d.g, 0, []⟩ = .ok (⟨d.g, (d.g.length : Int), d.g⟩, x) := by
 obtain ⟨cs, h1, h2, _⟩ := Cp.run_path c h
 simp only [List.nil_append] at h2
 rw [h2]
 have hl := Cp.path_deep c hd h1
 have := Cp.path_run c (L := cs) (g := []) (a := 0) h1 (by omega) (by simp; omega) ⟨[], by simp⟩
 simp only [Nat.zero_add, List.nil_append] at this
 exact ⟨h1, hl, this⟩
theorem zPW {a : Int} {g : List Int} {b : Int} (ha : 0 ≤ a) (hg : g.length < 2000) (hb : 1 ≤ b) : zAP ⟨[], a, g⟩ b = (⟨[], a, g ++ [0]⟩, 0, 0) := by
 rw [zPL (by simp [zAg]; omega) (by omega) (by omega)]
 simp [zBY]; omega
end Go.Proofs.YtabliglgeiajlaaGreat.AM
