/- Lattices cut short. -/
import Derived.Test.YtabliglgeiajlaaGreatW0
import Derived.Test.YtabliglgeiajlaaGreatV2
set_option linter.unusedSimpArgs false
set_option linter.unusedVariables false
namespace Go.Proofs.YtabliglgeiajlaaGreat.AM
open Go Go.RowKit Go.Proofs
set_option maxRecDepth 100000
set_option maxHeartbeats 1000000

theorem take_minL {α : Type} {K : Int} {k : Nat} (h : K = k) (l : List α) : l.take (if K < (l.length : Int) then K else (l.length : Int)).toNat = l.take k := by
  subst h
  split
  · simp
  · rw [Int.toNat_natCast, List.take_length, List.take_of_length_le (by omega)]
def cutS (s : ByteArray) : ByteArray := s.extract 0 (if (15 : Int) < (s.size : Int) then 15 else (s.size : Int)).toNat
def fewL (xs : List ByteArray) (i : Nat) : List ByteArray := (xs.take i).map cutS
theorem fewL_length {xs : List ByteArray} {i : Nat} (h : i ≤ xs.length) : (fewL xs i).length = i := by simp [fewL]; omega
theorem fewL_succ {xs : List ByteArray} {i : Nat} {a : ByteArray} (h : xs[i]? = some a) : fewL xs (i + 1) = fewL xs i ++ [cutS a] := by
  obtain ⟨hi, rfl⟩ := List.getElem?_eq_some_iff.1 h
  rw [fewL, List.take_succ_eq_append_getElem hi, List.map_append]; rfl
def fσ (e1 e2 : Ent) (u : D) (xs : List ByteArray) : Nat → List Slot
  | 0 => [.ent e1, .ent e2, .ent ⟨0, none, 25, [.v (.slice none 0 0), u], .cells⟩]
  | i + 1 => [.ent e1, .ent e2, .ent ⟨0, none, 25, [.ref 4 i (i + 1), u], .cells⟩, .free, .ent ⟨i, some 1, 9, cellS (fewL xs (i + 1)), .cells⟩]
section
variable (e1 e2 : Ent) (u : D) (xs : List ByteArray)
theorem fσ_zero : fσ e1 e2 u xs 0 = [.ent e1, .ent e2, .ent ⟨0, none, 25, [.v (.slice none 0 0), u], .cells⟩] := rfl
theorem fσ_pos {i j : Nat} (h : i = j + 1) : fσ e1 e2 u xs i = [.ent e1, .ent e2, .ent ⟨0, none, 25, [.ref 4 j i, u], .cells⟩, .free, .ent ⟨j, some 1, 9, cellS (fewL xs i), .cells⟩] := by subst h; rfl
theorem fσ_one {a : ByteArray} (h : xs[0]? = some a) : fσ e1 e2 u xs (0 + 1) = [.ent e1, .ent e2, .ent ⟨0, none, 25, [.ref 4 0 1, u], .cells⟩, .free, .ent ⟨0, some 1, 9, [.v (.string (cutS a))], .cells⟩] := by
  rw [fσ_pos e1 e2 u xs rfl, fewL_succ h]; rfl
theorem fσ_succ {i j : Nat} (h : i = j + 1) {a : ByteArray} (hx : xs[i]? = some a) : fσ e1 e2 u xs (i + 1) = [.ent e1, .ent e2, .ent ⟨0, none, 25, [.ref 4 (j + 1) (i + 1), u], .cells⟩, .free, .ent ⟨j + 1, some 1, 9, cellS (fewL xs i) ++ [.v (.string (cutS a))], .cells⟩] := by
  rw [fσ_pos e1 e2 u xs rfl, fewL_succ hx, h]; simp [cellS]
end
theorem cutS_size (s : ByteArray) : (cutS s).size ≤ 9223372036854775807 := by
  unfold cutS
  rw [ByteArray.size_extract]
  split <;> omega
theorem szs_few (ns : List ByteArray) : Szs ((ns.take 10).map cutS) := by
  intro s hs
  obtain ⟨x, _, rfl⟩ := List.mem_map.1 hs
  exact cutS_size x
theorem u32_few {us : List Nat} (h : U32 us) : U32 (us.take 10) := fun u hu => h u (List.mem_of_mem_take hu)
end Go.Proofs.YtabliglgeiajlaaGreat.AM
