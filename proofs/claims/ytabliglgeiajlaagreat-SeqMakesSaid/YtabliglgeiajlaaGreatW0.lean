/- Rows of cells. -/
import Derived.Test.YtabliglgeiajlaaGreatV1
set_option linter.unusedSimpArgs false
set_option linter.unusedVariables false
namespace Go.Proofs.YtabliglgeiajlaaGreat.AM
open Go Go.RowKit Go.Proofs
set_option maxRecDepth 100000
set_option maxHeartbeats 1000000

theorem uv_shl1 {b : Nat} (hb : b < 32) : ishl .u32 1 (b : Int) = uv (1 <<< b) := uv_shl (a := 1) (by decide) hb
def cellS (l : List ByteArray) : List D := l.map fun s => .v (.string s)
def cellU (l : List Nat) : List D := l.map fun n => .v (.int .u32 (uv n))
@[push_cast] theorem frz_cellS (l : List ByteArray) : frzAll (cellS l) = true := by induction l with | nil => rfl | cons a l ih => simpa [cellS, frzAll, frz, frz0] using ih
@[push_cast] theorem frz_cellU (l : List Nat) : frzAll (cellU l) = true := by induction l with | nil => rfl | cons a l ih => simpa [cellU, frzAll, frz, frz0] using ih
@[push_cast] theorem fr_cellU (k g sz : Nat) (c : List D) (l : List Nat) : (cellU l).map (fr1 k g sz c) = cellU l := by simp [cellU, fr1, fr0]
@[push_cast] theorem fr_cellS (k g sz : Nat) (c : List D) (l : List ByteArray) : (cellS l).map (fr1 k g sz c) = cellS l := by simp [cellS, fr1, fr0]
theorem take_of {l : List D} {n : Nat} (h : l.length = n) : l.take (n * 1) = l := by rw [Nat.mul_one]; exact List.take_of_length_le (by omega)
theorem list_eq_of {α : Type} {xs ys : List α} (hl : xs.length = ys.length) (h : ∀ j, j < xs.length → xs[j]? = ys[j]?) : xs = ys :=
  List.ext_getElem? fun j => by
    by_cases hj : j < xs.length
    · exact h j hj
    · rw [List.getElem?_eq_none (by omega), List.getElem?_eq_none (by omega)]
end Go.Proofs.YtabliglgeiajlaaGreat.AM
