/- Spaces, plainly: what is in one, and that what is made is. -/
import Derived.Test.YtabliglgeiajlaaHD
import Derived.Test.YtabliglgeiajlaaU6
import Derived.Test.YtabliglgeiajlaaQ2
set_option linter.unusedSimpArgs false
set_option linter.unusedVariables false
namespace Go.Proofs.Ytabliglgeiajlaa.AM
open Go Go.RowKit Go.Proofs

def inB (a b n : Int) : Bool := decide (a ≤ n) && decide (n ≤ b)
def instrB (n : Nat) (x : Int × Int × Int) : Bool :=
  if x.1 = 1 then inB (-20) 20 x.2.1 && !oddL n x.2.2
  else inB 0 12 x.1 && (decide (x.2.2 = 0) && (if x.1 = 8 then inB 0 12 x.2.1 else if x.1 = 9 then inB 0 3 x.2.1 else if x.1 = 10 then inB 0 1 x.2.1 else decide (x.2.1 = 0)))
def atomB (n : Nat) (x : Int × Int) : Bool := inB (-20) 20 x.1 && !oddL n x.2
def slotB (n : Nat) (x : Bool × Int × Int) : Bool := !oddL n x.2.2 && (if x.1 = true then inB 0 12 x.2.1 else inB (-20) 20 x.2.1)
def codeB (n : Nat) (c : List (Int × Int × Int)) : Bool := c.all (instrB n) && decide (c.length ≤ 12)
def staB (n : Nat) (s : Sta) : Bool :=
  codeB n s.code && (inB 0 12 s.v && (!oddL n s.l && (s.mem.all (atomB n) && (decide (s.mem.length ≤ 6) && (s.stack.all (slotB n) && (decide (s.stack.length ≤ 12) && (s.out.all (atomB n) && decide (s.out.length ≤ 8))))))))
def spB (sp : Sp) : Bool := inB 0 12 sp.code && (inB 0 6 sp.mem && (inB 0 12 sp.stack && (inB 0 20 sp.val && (decide (sp.ws.length = 13) && weightsB sp.ws))))
def instrIn (sp : Sp) (x : Int × Int × Int) : Bool := !decide (sp.ws.getD x.1.toNat 0 = 0) && (!decide (x.1 = 1) || inB (-sp.val) sp.val x.2.1)
def hasB (n : Nat) (sp : Sp) (s : Sta) : Bool :=
  staB n s && (decide ((s.code.length : Int) ≤ sp.code) && (decide ((s.mem.length : Int) ≤ sp.mem) && (decide ((s.stack.length : Int) ≤ sp.stack) && (decide (s.out.length = 0) &&
    (s.code.all (instrIn sp) && (s.mem.all (fun a => inB (-sp.val) sp.val a.1) && s.stack.all (fun x => x.1 || inB (-sp.val) sp.val x.2.1)))))))
theorem inB_iff {a b n : Int} : inB a b n = true ↔ a ≤ n ∧ n ≤ b := by simp [inB]
structure SpOk (sp : Sp) : Prop where
  c0 : 0 ≤ sp.code
  c1 : sp.code ≤ 12
  m0 : 0 ≤ sp.mem
  m1 : sp.mem ≤ 6
  s0 : 0 ≤ sp.stack
  s1 : sp.stack ≤ 12
  v0 : 0 ≤ sp.val
  v1 : sp.val ≤ 20
  wl : sp.ws.length = 13
  ww : weightsB sp.ws = true
theorem spB_iff {sp : Sp} : spB sp = true ↔ SpOk sp := by
  simp only [spB, Bool.and_eq_true, inB_iff, decide_eq_true_eq]
  constructor
  · rintro ⟨⟨h1, h2⟩, ⟨h3, h4⟩, ⟨h5, h6⟩, ⟨h7, h8⟩, h9, h10⟩; exact ⟨h1, h2, h3, h4, h5, h6, h7, h8, h9, h10⟩
  · rintro ⟨h1, h2, h3, h4, h5, h6, h7, h8, h9, h10⟩; exact ⟨⟨h1, h2⟩, ⟨h3, h4⟩, ⟨h5, h6⟩, ⟨h7, h8⟩, h9, h10⟩
/-! ### What each part makes -/
/-! ### How many choices -/
/-! ### What choices of one's own make -/
theorem take_none {a : Int} {g : List Int} {b : Int} (ha : 0 ≤ a) (hg : g.length < 2000) (hb : 1 ≤ b) : takeF ⟨[], a, g⟩ b = (⟨[], a, g ++ [0]⟩, 0, 0) := by
  rw [takeF_0 (by simp [rightB]; omega) (by omega) (by omega)]
  simp [choiceI]; omega
end Go.Proofs.Ytabliglgeiajlaa.AM
