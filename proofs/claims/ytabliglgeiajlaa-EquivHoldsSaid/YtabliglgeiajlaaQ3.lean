/- A row of labels that grows. -/
import Derived.Test.YtabliglgeiajlaaQ2
import Derived.Test.YtabliglgeiajlaaMc
set_option linter.unusedSimpArgs false
set_option linter.unusedVariables false
namespace Go.Proofs.Ytabliglgeiajlaa.AM
open Go Go.RowKit Go.Proofs

def eL (L : List Int) : D := if L.length = 0 then .v (.slice none 0 0) else .ref 4 (L.length - 1) L.length
def lσ (kb : Ent) (L : List Int) : List Slot := if L.length = 0 then [.ent kb] else [.ent kb, .dead, .dead, .dead, .ent ⟨L.length - 1, some 1, 3, cellI L, .cells⟩]
theorem lCase (kb : Ent) (L : List Int) : (L = [] ∧ eL L = .v (.slice none 0 0) ∧ lσ kb L = [.ent kb]) ∨ (∃ j, L.length = j + 1 ∧ eL L = .ref 4 j (j + 1) ∧ lσ kb L = [.ent kb, .dead, .dead, .dead, .ent ⟨j, some 1, 3, cellI L, .cells⟩]) := by
  cases L with
  | nil => exact .inl ⟨rfl, rfl, rfl⟩
  | cons x L => exact .inr ⟨L.length, rfl, rfl, rfl⟩
theorem lApp (kb : Ent) (L : List Int) (x : Int) : eL (L ++ [x]) = .ref 4 L.length (L.length + 1) ∧ lσ kb (L ++ [x]) = [.ent kb, .dead, .dead, .dead, .ent ⟨L.length, some 1, 3, cellI L ++ [.v (.int .i64 x)], .cells⟩] := by
  have hl : (L ++ [x]).length = L.length + 1 := by simp
  unfold eL lσ
  rw [hl, cellI_app]
  exact ⟨rfl, rfl⟩
theorem lσ_one (kb : Ent) (L : List Int) : 1 ≤ (lσ kb L).length := by
  rcases lCase kb L with ⟨_, _, h⟩ | ⟨j, _, _, h⟩ <;> rw [h] <;> simp
theorem lσ_le (kb : Ent) (L M : List Int) : (lσ kb L).length ≤ (lσ kb (L ++ M)).length := by
  rcases lCase kb L with ⟨_, _, h⟩ | ⟨j, hj, _, h⟩
  · rw [h]; exact lσ_one kb _
  · rcases lCase kb (L ++ M) with ⟨h2, _, _⟩ | ⟨k, _, _, h2⟩
    · have := congrArg List.length h2
      rw [List.length_append, List.length_nil] at this; omega
    · rw [h, h2]; exact Nat.le_refl _
theorem lσ_clsd {kb : Ent} (hk : ∀ m, kb.cells.map (ren m) = kb.cells) (L : List Int) : Clsd (lσ kb L) := by
  refine clsd_all ?_
  rcases lCase kb L with ⟨_, _, h⟩ | ⟨j, _, _, h⟩
  all_goals
    rw [h]
    simp only [List.map_cons, List.map_nil, renSlot, hk, ren_cellI]
/-- The same, as it is handed back. -/
def lD (L : List Int) : D := if L.length = 0 then .v (.slice none 0 0) else .ref 0 (L.length - 1) L.length
def lOut (L : List Int) : List Slot := if L.length = 0 then [] else [.ent ⟨L.length - 1, some 1, 3, cellI L, .cells⟩]
end Go.Proofs.Ytabliglgeiajlaa.AM
