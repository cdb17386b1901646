/- Alike is an equivalence; to the top, what is alike is the same. -/
import Derived.Test.YtabliglgeiajlaaP4
import Derived.Test.YtabliglgeiajlaaP6
set_option linter.unusedSimpArgs false
set_option linter.unusedVariables false
namespace Go.Proofs.Ytabliglgeiajlaa.AM
open Go Go.RowKit Go.Proofs
set_option maxRecDepth 100000
set_option maxHeartbeats 1000000

def rowsG {α : Type} (p : α → α → Bool) : List α → List α → Bool
  | [], [] => true
  | x :: xs, y :: ys => p x y && rowsG p xs ys
  | _, _ => false
theorem rowsBA_eq (p : Int × Int → Int × Int → Bool) : ∀ xs ys, rowsBA p xs ys = rowsG p xs ys
  | [], [] => rfl
  | [], _ :: _ => rfl
  | _ :: _, [] => rfl
  | x :: xs, y :: ys => by rw [rowsBA, rowsG, rowsBA_eq p xs ys]
theorem rowsBI_eq (p : Int × Int × Int → Int × Int × Int → Bool) : ∀ xs ys, rowsBI p xs ys = rowsG p xs ys
  | [], [] => rfl
  | [], _ :: _ => rfl
  | _ :: _, [] => rfl
  | x :: xs, y :: ys => by rw [rowsBI, rowsG, rowsBI_eq p xs ys]
theorem rowsBS_eq (p : Bool × Int × Int → Bool × Int × Int → Bool) : ∀ xs ys, rowsBS p xs ys = rowsG p xs ys
  | [], [] => rfl
  | [], _ :: _ => rfl
  | _ :: _, [] => rfl
  | x :: xs, y :: ys => by rw [rowsBS, rowsG, rowsBS_eq p xs ys]
theorem rowsG_refl {α : Type} {p : α → α → Bool} (h : ∀ x, p x x = true) : ∀ xs, rowsG p xs xs = true
  | [] => rfl
  | x :: xs => by rw [rowsG, h, rowsG_refl h xs]; rfl
theorem rowsG_symm {α : Type} {p : α → α → Bool} (h : ∀ x y, p x y = p y x) : ∀ xs ys, rowsG p xs ys = rowsG p ys xs
  | [], [] => rfl
  | [], _ :: _ => rfl
  | _ :: _, [] => rfl
  | x :: xs, y :: ys => by rw [rowsG, rowsG, h, rowsG_symm h xs ys]
theorem rowsG_trans {α : Type} {p : α → α → Bool} (h : ∀ x y z, p x y = true → p y z = true → p x z = true) : ∀ xs ys zs, rowsG p xs ys = true → rowsG p ys zs = true → rowsG p xs zs = true
  | [], [], [], _, _ => rfl
  | [], [], _ :: _, _, h2 => by cases h2
  | [], _ :: _, _, h1, _ => by cases h1
  | _ :: _, [], _, h1, _ => by cases h1
  | _ :: _, _ :: _, [], _, h2 => by cases h2
  | x :: xs, y :: ys, z :: zs, h1, h2 => by
    simp only [rowsG, Bool.and_eq_true] at h1 h2 ⊢
    exact ⟨h _ _ _ h1.1 h2.1, rowsG_trans h xs ys zs h1.2 h2.2⟩
theorem rowsG_same {α : Type} [DecidableEq α] {p : α → α → Bool} : ∀ (xs ys : List α), (∀ x ∈ xs, ∀ y, p x y = decide (x = y)) → rowsG p xs ys = decide (xs = ys)
  | [], [], _ => rfl
  | [], _ :: _, _ => rfl
  | _ :: _, [], _ => rfl
  | x :: xs, y :: ys, h => by
    rw [rowsG, h x List.mem_cons_self, rowsG_same xs ys (fun a ha => h a (List.mem_cons_of_mem _ ha)), Bool.eq_iff_iff]
    simp
def alG {α : Type} (us : List Nat) (o : Nat) (S : α → α → Bool) (lab : α → Int) (E : α → α → Bool) (x y : α) : Bool := S x y && (lab x == lab y && (!fl us (lab x).toNat o || E x y))
section
variable {α : Type} {us : List Nat} {o : Nat} {S : α → α → Bool} {lab : α → Int} {E : α → α → Bool}
theorem alG_iff {x y : α} : alG us o S lab E x y = true ↔ S x y = true ∧ lab x = lab y ∧ (fl us (lab x).toNat o = true → E x y = true) := by
  simp only [alG, Bool.and_eq_true, beq_iff_eq, Bool.or_eq_true, Bool.not_eq_true']
  constructor
  · rintro ⟨h1, h2, h3⟩
    refine ⟨h1, h2, fun h => ?_⟩
    rcases h3 with h3 | h3
    · rw [h] at h3; cases h3
    · exact h3
  · rintro ⟨h1, h2, h3⟩
    refine ⟨h1, h2, ?_⟩
    cases h : fl us (lab x).toNat o with
    | false => exact .inl rfl
    | true => exact .inr (h3 h)
theorem alG_refl (hS : ∀ x, S x x = true) (hE : ∀ x, E x x = true) (x : α) : alG us o S lab E x x = true := alG_iff.2 ⟨hS x, rfl, fun _ => hE x⟩
theorem alG_symm (hS : ∀ x y, S x y = S y x) (hE : ∀ x y, E x y = E y x) (x y : α) : alG us o S lab E x y = alG us o S lab E y x := by
  rw [Bool.eq_iff_iff, alG_iff, alG_iff]
  constructor
  · rintro ⟨h1, h2, h3⟩
    exact ⟨by rw [hS]; exact h1, h2.symm, fun h => by rw [hE]; exact h3 (by rw [h2]; exact h)⟩
  · rintro ⟨h1, h2, h3⟩
    exact ⟨by rw [hS]; exact h1, h2.symm, fun h => by rw [hE]; exact h3 (by rw [h2]; exact h)⟩
theorem alG_trans (hS : ∀ x y z, S x y = true → S y z = true → S x z = true) (hE : ∀ x y z, E x y = true → E y z = true → E x z = true) (x y z : α) (h1 : alG us o S lab E x y = true) (h2 : alG us o S lab E y z = true) : alG us o S lab E x z = true := by
  rw [alG_iff] at *
  obtain ⟨a1, a2, a3⟩ := h1
  obtain ⟨b1, b2, b3⟩ := h2
  exact ⟨hS _ _ _ a1 b1, a2.trans b2, fun h => hE _ _ _ (a3 h) (b3 (by rw [← a2]; exact h))⟩
theorem alG_top [DecidableEq α] {x y : α} (hx : fl us (lab x).toNat o = true) (hSE : (S x y = true ∧ lab x = lab y ∧ E x y = true) ↔ x = y) : alG us o S lab E x y = decide (x = y) := by
  rw [Bool.eq_iff_iff, alG_iff, decide_eq_true_eq, ← hSE]
  constructor
  · rintro ⟨h1, h2, h3⟩; exact ⟨h1, h2, h3 hx⟩
  · rintro ⟨h1, h2, h3⟩; exact ⟨h1, h2, fun _ => h3⟩
end
theorem alA_eq (us : List Nat) (o : Nat) : alA us o = alG us o sameA (·.2) seenA := rfl
theorem alI_eq (us : List Nat) (o : Nat) : alI us o = alG us o sameI (·.2.2) seenI := rfl
theorem alS_eq (us : List Nat) (o : Nat) : alS us o = alG us o sameS (·.2.2) seenS := rfl
theorem beq_symm (a b : Int) : (a == b) = (b == a) := by rw [Bool.eq_iff_iff]; simp only [beq_iff_eq]; exact eq_comm
theorem sameI_iff {x y : Int × Int × Int} : sameI x y = true ↔ x.1 = y.1 ∧ (x.1 = 1 ∨ x.2.1 = y.2.1) := by simp [sameI]
theorem sameI_symm (x y : Int × Int × Int) : sameI x y = sameI y x := by
  rw [Bool.eq_iff_iff, sameI_iff, sameI_iff]
  constructor <;> (rintro ⟨h1, h2⟩; exact ⟨h1.symm, by rcases h2 with h2 | h2; exact .inl (by omega); exact .inr h2.symm⟩)
theorem sameI_trans (x y z : Int × Int × Int) (h1 : sameI x y = true) (h2 : sameI y z = true) : sameI x z = true := by
  rw [sameI_iff] at *
  obtain ⟨a, b⟩ := h1
  obtain ⟨c, d⟩ := h2
  refine ⟨a.trans c, ?_⟩
  rcases b with b | b
  · exact .inl b
  · rcases d with d | d
    · exact .inl (by omega)
    · exact .inr (b.trans d)
section
variable (us : List Nat) (o : Nat)
theorem rA_refl (l) : rowsBA (alA us o) l l = true := by rw [rowsBA_eq, alA_eq]; exact rowsG_refl (alG_refl (fun _ => rfl) (fun x => by simp [seenA])) l
theorem rI_refl (l) : rowsBI (alI us o) l l = true := by rw [rowsBI_eq, alI_eq]; exact rowsG_refl (alG_refl (fun x => sameI_iff.2 ⟨rfl, .inr rfl⟩) (fun x => by simp [seenI])) l
theorem rS_refl (l) : rowsBS (alS us o) l l = true := by rw [rowsBS_eq, alS_eq]; exact rowsG_refl (alG_refl (fun x => by simp [sameS]) (fun x => by simp [seenS])) l
theorem rA_symm (l m) : rowsBA (alA us o) l m = rowsBA (alA us o) m l := by rw [rowsBA_eq, rowsBA_eq, alA_eq]; exact rowsG_symm (alG_symm (fun _ _ => rfl) (fun x y => beq_symm _ _)) l m
theorem rI_symm (l m) : rowsBI (alI us o) l m = rowsBI (alI us o) m l := by rw [rowsBI_eq, rowsBI_eq, alI_eq]; exact rowsG_symm (alG_symm sameI_symm (fun x y => beq_symm _ _)) l m
theorem sameS_symm (x y : Bool × Int × Int) : sameS x y = sameS y x := by simp only [sameS]; rw [Bool.eq_iff_iff]; simp only [beq_iff_eq]; exact eq_comm
theorem rS_symm (l m) : rowsBS (alS us o) l m = rowsBS (alS us o) m l := by rw [rowsBS_eq, rowsBS_eq, alS_eq]; exact rowsG_symm (alG_symm sameS_symm (fun x y => beq_symm _ _)) l m
theorem rA_trans (l m n) (h1 : rowsBA (alA us o) l m = true) (h2 : rowsBA (alA us o) m n = true) : rowsBA (alA us o) l n = true := by
  rw [rowsBA_eq, alA_eq] at *
  exact rowsG_trans (alG_trans (fun _ _ _ _ _ => rfl) (fun x y z h1 h2 => by simp only [seenA, beq_iff_eq] at *; exact h1.trans h2)) l m n h1 h2
theorem rI_trans (l m n) (h1 : rowsBI (alI us o) l m = true) (h2 : rowsBI (alI us o) m n = true) : rowsBI (alI us o) l n = true := by
  rw [rowsBI_eq, alI_eq] at *
  exact rowsG_trans (alG_trans sameI_trans (fun x y z h1 h2 => by simp only [seenI, beq_iff_eq] at *; exact h1.trans h2)) l m n h1 h2
theorem rS_trans (l m n) (h1 : rowsBS (alS us o) l m = true) (h2 : rowsBS (alS us o) m n = true) : rowsBS (alS us o) l n = true := by
  rw [rowsBS_eq, alS_eq] at *
  exact rowsG_trans (alG_trans (fun x y z h1 h2 => by simp only [sameS, beq_iff_eq] at *; exact h1.trans h2) (fun x y z h1 h2 => by simp only [seenS, beq_iff_eq] at *; exact h1.trans h2)) l m n h1 h2
theorem statesB_refl (a : Sta) : statesB us o a a = true := by
  unfold statesB
  rw [rI_refl, rA_refl, decide_eq_true rfl, rS_refl, rS_refl, beq_self_eq_true, beq_self_eq_true]
  cases fl us a.l.toNat o <;> rfl
theorem statesB_symm (a b : Sta) : statesB us o a b = statesB us o b a := by
  unfold statesB
  rw [rI_symm us o a.code, rA_symm us o a.mem, rS_symm us o a.stack, rS_symm us o (cropS us o a.stack), beq_symm a.v, beq_symm a.l, show decide (a.out.filter (keepA us o) = b.out.filter (keepA us o)) = decide (b.out.filter (keepA us o) = a.out.filter (keepA us o)) from by rw [Bool.eq_iff_iff]; simp only [decide_eq_true_eq]; exact eq_comm]
  cases fl us a.l.toNat o <;> cases fl us b.l.toNat o <;> rfl
theorem statesB_trans (a b c : Sta) (h1 : statesB us o a b = true) (h2 : statesB us o b c = true) : statesB us o a c = true := by
  unfold statesB at *
  simp only [Bool.and_eq_true, decide_eq_true_eq] at h1 h2 ⊢
  obtain ⟨a1, a2, a3, a4⟩ := h1
  obtain ⟨b1, b2, b3, b4⟩ := h2
  refine ⟨rI_trans us o _ _ _ a1 b1, rA_trans us o _ _ _ a2 b2, a3.trans b3, ?_⟩
  cases ha : fl us a.l.toNat o <;> cases hb : fl us b.l.toNat o <;> cases hc : fl us c.l.toNat o <;> rw [ha, hb] at a4 <;> rw [hb, hc] at b4
  all_goals simp only [Bool.not_true, Bool.not_false, Bool.false_and, Bool.true_and, Bool.false_eq_true, Bool.and_eq_true, beq_iff_eq] at a4 b4 ⊢
  · exact rS_trans us o _ _ _ a4 b4
  · exact ⟨⟨a4.1.1.trans b4.1.1, a4.1.2.trans b4.1.2⟩, rS_trans us o _ _ _ a4.2 b4.2⟩
end
/-- Two are the same. -/
def sameT (a b : Sta) : Bool := !(!(a.v == b.v && a.l == b.l) || (!decide (a.code = b.code) || (!decide (a.mem = b.mem) || !decide (a.out = b.out)))) && decide (a.stack = b.stack)
theorem sameT_iff {a b : Sta} : sameT a b = true ↔ a = b := by
  obtain ⟨v, l, c, m, s, o⟩ := a
  obtain ⟨v', l', c', m', s', o'⟩ := b
  simp [sameT]
  constructor
  · rintro ⟨⟨⟨h1, h2⟩, h3, h4, h5⟩, h6⟩; exact ⟨h1, h2, h3, h4, h6, h5⟩
  · rintro ⟨h1, h2, h3, h4, h5, h6⟩; exact ⟨⟨⟨h1, h2⟩, h3, h4, h6⟩, h5⟩
theorem seenTop {us : List Nat} {t : Nat} (ht : ∀ a, a < us.length → fl us a t = true) {a : Int} (ha : oddL us.length a = false) : fl us a.toNat t = true := by
  obtain ⟨b, rfl, hb⟩ := oddL_no ha
  rw [Int.toNat_natCast]; exact ht b hb
theorem statesB_top {ns : List ByteArray} {us : List Nat} {o : Int} {a b : Sta} {t : Nat} (ht : ∀ a, a < us.length → fl us a t = true) (h : OkT ns us o a b) : statesB us t a b = sameT a b := by
  obtain ⟨_, _, la, lb, ca, cb, ma, mb, sa, sb, oa, oo⟩ := h
  have e1 : rowsBI (alI us t) a.code b.code = decide (a.code = b.code) := by
    rw [rowsBI_eq, alI_eq]
    refine rowsG_same _ _ fun x hx y => alG_top (seenTop ht (ca x hx)) ?_
    obtain ⟨x1, x2, x3⟩ := x
    obtain ⟨y1, y2, y3⟩ := y
    rw [sameI_iff]
    simp only [seenI, beq_iff_eq, Prod.mk.injEq]
    constructor
    · rintro ⟨⟨h1, _⟩, h2, h3⟩; exact ⟨h1, h3, h2⟩
    · rintro ⟨h1, h2, h3⟩; exact ⟨⟨h1, .inr h2⟩, h3, h2⟩
  have e2 : rowsBA (alA us t) a.mem b.mem = decide (a.mem = b.mem) := by
    rw [rowsBA_eq, alA_eq]
    refine rowsG_same _ _ fun x hx y => alG_top (seenTop ht (ma x hx)) ?_
    obtain ⟨x1, x2⟩ := x
    obtain ⟨y1, y2⟩ := y
    simp only [sameA, seenA, beq_iff_eq, Prod.mk.injEq]
    constructor
    · rintro ⟨_, h2, h3⟩; exact ⟨h3, h2⟩
    · rintro ⟨h1, h2⟩; exact ⟨trivial, h2, h1⟩
  have e3 : rowsBS (alS us t) a.stack b.stack = decide (a.stack = b.stack) := by
    rw [rowsBS_eq, alS_eq]
    refine rowsG_same _ _ fun x hx y => alG_top (seenTop ht (sa x hx)) ?_
    obtain ⟨x1, x2, x3⟩ := x
    obtain ⟨y1, y2, y3⟩ := y
    simp only [sameS, seenS, beq_iff_eq, Prod.mk.injEq]
    constructor
    · rintro ⟨h1, h2, h3⟩; exact ⟨h1, h3, h2⟩
    · rintro ⟨h1, h2, h3⟩; exact ⟨h1, h3, h2⟩
  have e4 : a.out.filter (keepA us t) = a.out := List.filter_eq_self.2 fun x hx => seenTop ht (oa x hx)
  have e5 : b.out.filter (keepA us t) = b.out := List.filter_eq_self.2 fun x hx => seenTop ht (oo x hx)
  unfold statesB sameT
  rw [e1, e2, e3, e4, e5, seenTop ht la, seenTop ht lb]
  cases (a.v == b.v && a.l == b.l) <;> cases decide (a.code = b.code) <;> cases decide (a.mem = b.mem) <;> cases decide (a.out = b.out) <;> cases decide (a.stack = b.stack) <;> rfl
theorem may12F_symm (ns : List ByteArray) (us : List Nat) (o : Int) (a b : Sta) : may12F ns us o a b = may12F ns us o b a := by
  unfold may12F
  rw [Bool.and_comm (labF us.length a)]
theorem may12F_top {ns : List ByteArray} {us : List Nat} {o : Int} {a b : Sta} {t : Nat} (ht : t < us.length) (h : may12F ns us o a b = 0) : may12F ns us (t : Int) a b = 0 := by
  unfold may12F at *
  split at h
  · rename_i hc
    rw [if_pos hc]
    split at h
    · rename_i hh
      rw [Bool.and_eq_true] at hh
      rw [hh.2, show oddL us.length (t : Int) = false from by simp [oddL]; omega]
      rfl
    · cases h
  · rename_i hc; exact absurd h hc
theorem may12F_two {ns : List ByteArray} {us : List Nat} {o : Int} {a b : Sta} (h : may12F ns us o a b = 0) (c : Sta) : may12F ns us o b c = may12F ns us o a c := by
  unfold may12F at *
  split at h
  · rename_i hc
    rw [if_pos hc, if_pos hc]
    split at h
    · rename_i hh
      simp only [Bool.and_eq_true] at hh
      rw [hh.2.1, hh.2.2]
    · cases h
  · rename_i hc; exact absurd h hc
end Go.Proofs.Ytabliglgeiajlaa.AM
