/- Rows of one's own that grow: of instructions, atoms, slots. -/
import Derived.Test.YtabliglgeiajlaaGreatQ1
import Derived.Test.YtabliglgeiajlaaGreatMc
set_option linter.unusedSimpArgs false
set_option linter.unusedVariables false
namespace Go.Proofs.YtabliglgeiajlaaGreat.AM
open Go Go.RowKit Go.Proofs

theorem tCells_length (l : List (Int × Int × Int)) : (tCells l).length = l.length * 3 := by
  induction l with
  | nil => rfl
  | cons a l ih => simp [tCells, tRow] at *; omega
theorem tCells_app (l m : List (Int × Int × Int)) : tCells (l ++ m) = tCells l ++ tCells m := by simp [tCells, tRow]
@[push_cast] theorem frz_tCells (l : List (Int × Int × Int)) : frzAll (tCells l) = true := by
  induction l with
  | nil => rfl
  | cons a l ih => simpa [tCells, tRow, frzAll, frz, frz0] using ih
@[push_cast] theorem fr_tCells (k g sz : Nat) (c : List D) (l : List (Int × Int × Int)) : (tCells l).map (fr1 k g sz c) = tCells l := by
  induction l with
  | nil => rfl
  | cons a l ih => simpa [tCells, tRow, fr1, fr0] using ih
theorem chunk_t (l : List (Int × Int × Int)) : chunk 3 l.length (tCells l) = tRow l := by
  induction l with
  | nil => rfl
  | cons a l ih => simpa [tCells, tRow, chunk] using ih
theorem ren_tCells (m : Nat → Option Nat) (l : List (Int × Int × Int)) : (tCells l).map (ren m) = tCells l := by
  induction l with
  | nil => rfl
  | cons a l ih => simpa [tCells, tRow, ren, ren2, ren1, ren0] using ih
theorem sCells_length (l : List (Bool × Int × Int)) : (sCells l).length = l.length * 3 := by
  induction l with
  | nil => rfl
  | cons a l ih => simp [sCells, sRow] at *; omega
theorem sCells_app (l m : List (Bool × Int × Int)) : sCells (l ++ m) = sCells l ++ sCells m := by simp [sCells, sRow]
@[push_cast] theorem frz_sCells (l : List (Bool × Int × Int)) : frzAll (sCells l) = true := by
  induction l with
  | nil => rfl
  | cons a l ih => simpa [sCells, sRow, frzAll, frz, frz0] using ih
@[push_cast] theorem fr_sCells (k g sz : Nat) (c : List D) (l : List (Bool × Int × Int)) : (sCells l).map (fr1 k g sz c) = sCells l := by
  induction l with
  | nil => rfl
  | cons a l ih => simpa [sCells, sRow, fr1, fr0] using ih
theorem chunk_s (l : List (Bool × Int × Int)) : chunk 3 l.length (sCells l) = sRow l := by
  induction l with
  | nil => rfl
  | cons a l ih => simpa [sCells, sRow, chunk] using ih
theorem ren_sCells (m : Nat → Option Nat) (l : List (Bool × Int × Int)) : (sCells l).map (ren m) = sCells l := by
  induction l with
  | nil => rfl
  | cons a l ih => simpa [sCells, sRow, ren, ren2, ren1, ren0] using ih
theorem take_len {l : List D} {n : Nat} (h : l.length = n) : l.take n = l := List.take_of_length_le (by omega)
/-- A row of n, of key k, that grew from nothing; and the store: what lies ahead, so many that are gone, the row. -/
def eR (k n : Nat) : D := if n = 0 then .v (.slice none 0 0) else .ref k (n - 1) n
def σR (p : List Slot) (dd n sz ty : Nat) (cs : List D) : List Slot := if n = 0 then p else p ++ List.replicate dd .dead ++ [.ent ⟨n - 1, some sz, ty, cs, .cells⟩]
theorem rCase (p : List Slot) (k dd n sz ty : Nat) (cs : List D) : (n = 0 ∧ eR k n = .v (.slice none 0 0) ∧ σR p dd n sz ty cs = p) ∨ (∃ j, n = j + 1 ∧ eR k n = .ref k j (j + 1) ∧ σR p dd n sz ty cs = p ++ List.replicate dd .dead ++ [.ent ⟨j, some sz, ty, cs, .cells⟩]) := by
  cases n with
  | zero => exact .inl ⟨rfl, rfl, rfl⟩
  | succ j => exact .inr ⟨j, rfl, rfl, rfl⟩
theorem rSucc (p : List Slot) (k dd n sz ty : Nat) (cs : List D) : eR k (n + 1) = .ref k n (n + 1) ∧ σR p dd (n + 1) sz ty cs = p ++ List.replicate dd .dead ++ [.ent ⟨n, some sz, ty, cs, .cells⟩] := ⟨rfl, rfl⟩
theorem σR_le (p : List Slot) (dd n sz ty : Nat) (cs : List D) : p.length ≤ (σR p dd n sz ty cs).length := by
  unfold σR; split
  · exact Nat.le_refl _
  · simp
end Go.Proofs.YtabliglgeiajlaaGreat.AM
