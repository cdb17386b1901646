/- Rows of two numbers. -/
import Derived.Test.YtabliglgeiajlaaGreatW0
set_option linter.unusedSimpArgs false
set_option linter.unusedVariables false
namespace Go.Proofs.YtabliglgeiajlaaGreat.AM
open Go Go.RowKit Go.Proofs
set_option maxRecDepth 100000
set_option maxHeartbeats 1000000

/-! ### Rows of two numbers -/
def pRow (l : List (Int × Int)) : List (List D) := l.map fun e => [.v (.int .i64 e.1), .v (.int .i64 e.2)]
def pCells (l : List (Int × Int)) : List D := (pRow l).flatten
@[push_cast] theorem pRow_length (l : List (Int × Int)) : (pRow l).length = l.length := by simp [pRow]
@[push_cast] theorem sub_pRow (l : List (Int × Int)) (a b : Nat) : sub (pRow l) a b = pRow ((l.take b).drop a) := by simp [pRow, sub_map]
theorem getE_p {l : List (Int × Int)} {n : Nat} {x : Int × Int} (h : l[n]? = some x) : getE (pRow l) n = [.v (.int .i64 x.1), .v (.int .i64 x.2)] := by unfold pRow; exact getE_map _ _ _ _ h
theorem pCells_length (l : List (Int × Int)) : (pCells l).length = l.length * 2 := by
  induction l with
  | nil => rfl
  | cons a l ih => simp [pCells, pRow] at *; omega
theorem pCells_app (l m : List (Int × Int)) : pCells (l ++ m) = pCells l ++ pCells m := by simp [pCells, pRow]
@[push_cast] theorem frz_pCells (l : List (Int × Int)) : frzAll (pCells l) = true := by
  induction l with
  | nil => rfl
  | cons a l ih => simpa [pCells, pRow, frzAll, frz, frz0] using ih
@[push_cast] theorem fr_pCells (k g sz : Nat) (c : List D) (l : List (Int × Int)) : (pCells l).map (fr1 k g sz c) = pCells l := by
  induction l with
  | nil => rfl
  | cons a l ih => simpa [pCells, pRow, fr1, fr0] using ih
theorem chunk_p (l : List (Int × Int)) : chunk 2 l.length (pCells l) = pRow l := by
  induction l with
  | nil => rfl
  | cons a l ih => simpa [pCells, pRow, chunk] using ih
theorem pair_eq {x y : Int × Int} : (x.1 == y.1 && x.2 == y.2) = decide (x = y) := by
  rw [Bool.eq_iff_iff]
  simp [Prod.ext_iff]
theorem ren_pCells (m : Nat → Option Nat) (l : List (Int × Int)) : (pCells l).map (ren m) = pCells l := by
  induction l with
  | nil => rfl
  | cons a l ih => simpa [pCells, pRow, ren, ren2, ren1, ren0] using ih
theorem isNilL_pRow {l : List (Int × Int)} (h : 0 < l.length) : isNilL (pRow l) = false := by cases l with | nil => simp at h | cons _ _ => rfl
theorem pCells_take (l : List (Int × Int)) (n : Nat) : (pCells l).take (n * 2) = pCells (l.take n) := by
  induction l generalizing n with
  | nil => simp [pCells, pRow]
  | cons a l ih => cases n with
    | zero => simp [pCells, pRow]
    | succ n =>
      have : (n + 1) * 2 = n * 2 + 1 + 1 := by omega
      rw [this]
      have h2 := ih n
      simp [pCells, pRow] at *
      exact h2
theorem pCells_drop (l : List (Int × Int)) (n : Nat) : (pCells l).drop (n * 2) = pCells (l.drop n) := by
  induction l generalizing n with
  | nil => simp [pCells, pRow]
  | cons a l ih => cases n with
    | zero => simp [pCells, pRow]
    | succ n =>
      have : (n + 1) * 2 = n * 2 + 1 + 1 := by omega
      rw [this]
      have h2 := ih n
      simp [pCells, pRow] at *
      exact h2
end Go.Proofs.YtabliglgeiajlaaGreat.AM
