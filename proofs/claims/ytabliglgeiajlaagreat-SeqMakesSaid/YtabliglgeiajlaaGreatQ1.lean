/- Rows of instructions and of slots; states. -/
import Derived.Test.YtabliglgeiajlaaGreatX0
import Derived.Test.YtabliglgeiajlaaGreatV6
import Derived.Test.YtabliglgeiajlaaGreatMc
set_option linter.unusedSimpArgs false
set_option linter.unusedVariables false
namespace Go.Proofs.YtabliglgeiajlaaGreat.AM
open Go Go.RowKit Go.Proofs
set_option maxRecDepth 100000
set_option maxHeartbeats 1000000

def tRow (l : List (Int × Int × Int)) : List (List D) := l.map fun e => [.v (.int .i64 e.1), .v (.int .i64 e.2.1), .v (.int .i64 e.2.2)]
def tCells (l : List (Int × Int × Int)) : List D := (tRow l).flatten
@[push_cast] theorem tRow_length (l : List (Int × Int × Int)) : (tRow l).length = l.length := by simp [tRow]
@[push_cast] theorem sub_tRow (l : List (Int × Int × Int)) (a b : Nat) : sub (tRow l) a b = tRow ((l.take b).drop a) := by simp [tRow, sub_map]
theorem getE_t {l : List (Int × Int × Int)} {n : Nat} {x : Int × Int × Int} (h : l[n]? = some x) : getE (tRow l) n = [.v (.int .i64 x.1), .v (.int .i64 x.2.1), .v (.int .i64 x.2.2)] := by unfold tRow; exact getE_map _ _ _ _ h
def sRow (l : List (Bool × Int × Int)) : List (List D) := l.map fun e => [.v (.bool e.1), .v (.int .i64 e.2.1), .v (.int .i64 e.2.2)]
def sCells (l : List (Bool × Int × Int)) : List D := (sRow l).flatten
@[push_cast] theorem sRow_length (l : List (Bool × Int × Int)) : (sRow l).length = l.length := by simp [sRow]
@[push_cast] theorem sub_sRow (l : List (Bool × Int × Int)) (a b : Nat) : sub (sRow l) a b = sRow ((l.take b).drop a) := by simp [sRow, sub_map]
theorem getE_s {l : List (Bool × Int × Int)} {n : Nat} {x : Bool × Int × Int} (h : l[n]? = some x) : getE (sRow l) n = [.v (.bool x.1), .v (.int .i64 x.2.1), .v (.int .i64 x.2.2)] := by unfold sRow; exact getE_map _ _ _ _ h
/-- A state: its place and label, program, memory, stack, and what was put out. -/
structure Sta where
  v : Int
  l : Int
  code : List (Int × Int × Int)
  mem : List (Int × Int)
  stack : List (Bool × Int × Int)
  out : List (Int × Int)
def staD (s : Sta) : List D := [.v (.int .i64 s.v), .v (.int .i64 s.l), .sl false 3 (tRow s.code), .sl false 2 (pRow s.mem), .sl false 3 (sRow s.stack), .sl false 2 (pRow s.out)]
end Go.Proofs.YtabliglgeiajlaaGreat.AM
