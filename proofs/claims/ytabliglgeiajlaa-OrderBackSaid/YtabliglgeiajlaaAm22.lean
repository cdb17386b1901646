/- The abstract machine: small steps of a proof. -/
import Derived.Test.YtabliglgeiajlaaAm21
import Derived.Laws.BitsLemmas
set_option linter.unusedSimpArgs false
set_option linter.unusedVariables false
namespace Go.Proofs.Ytabliglgeiajlaa.AM
open Go Go.RowKit

section
variable {P : Program} {ro : Option Nat} {K : Exit → St → Prop} {s : St} {J : St → Prop}
theorem k_normal {y : Code} (h : AWP P ro y s K) : thenK (fun s => AWP P ro y s K) K .normal s := h
theorem k_ret (h : K .ret s) : thenK J K .ret s := h
theorem k_exit {i : Nat} (h : K (.exit i) s) : thenK J K (.exit i) s := h
theorem b_normal {id : Nat} (h : K .normal s) : blockK id K .normal s := h
theorem b_ret {id : Nat} (h : K .ret s) : blockK id K .ret s := h
theorem b_exit {id : Nat} (h : K .normal s) : blockK id K (.exit id) s := by
  unfold blockK
  simp [h]
theorem b_pass {id i : Nat} (hne : Nat.beq i id = false) (h : K (.exit i) s) : blockK id K (.exit i) s := by
  unfold blockK
  have : i ≠ id := fun e => by subst e; simp at hne
  simp [this, h]
theorem AWP_condT {c : Operand} {x y : Code} (hc : s.eval c = .v (.bool true)) (h : AWP P ro x s K) : AWP P ro (.cond c x y) s K := AWP_cond hc (fun _ => h) (fun h => by cases h)
theorem AWP_condF {c : Operand} {x y : Code} (hc : s.eval c = .v (.bool false)) (h : AWP P ro y s K) : AWP P ro (.cond c x y) s K := AWP_cond hc (fun h => by cases h) (fun _ => h)
/-- A region's rule, with what simp is to reckon behind letters. -/
theorem AWP_reg {id : Nat} {ops : List Oper} (h : ∀ (KC : Oper → List Oper → Nat → St → List Rec → Prop) (J : List Rec → St → Prop), (∀ recs s, K .normal s → J recs s) →
      (∀ o os nx s recs, CallV P ro o s.eval s.σ (if allocB o then nx else farS) (fun rd out => rvc (stepOp P) ops.toArray KC J os (if allocB o then nx + 1 else nx) (out.app o.dst s) (recs ++ [⟨true, rd, out⟩])) → KC o os nx s recs) →
      rvc (stepOp P) ops.toArray KC J ops s.σ.length (roomy s (nalloc ops)) []) : AWP P ro (.region id ops.toArray false) s K := AWP_region (stepOp_sound P ro) h
theorem AWP_regD {st : St} {id : Nat} {ops : List Oper} (hm : P.follows .mixedOrders = true) (h : ∀ (KC : Oper → List Oper → Nat → St → List Rec → Prop) (J : List Rec → St → Prop), (∀ recs s, chk ops (fun j => (slots ops st.σ.length).getD j 0) recs = true → K .normal s → J recs s) →
      (∀ o os nx s recs, CallV P ro o s.eval s.σ (if allocB o then nx else farS) (fun rd out => rvc (stepOp P) ops.toArray KC J os (if allocB o then nx + 1 else nx) (out.app o.dst s) (recs ++ [⟨true, rd, out⟩])) → KC o os nx s recs) →
      rvc (stepOp P) ops.toArray KC J ops st.σ.length (roomy st (nalloc ops)) []) : AWP P ro (.region id ops.toArray true) st K := AWP_region_draw (stepOp_sound P ro) hm h
end

theorem ret_plain {P : Program} {fn : Func} {res : D} {st : St} (h : match resD P fn st with | some (c, d) => c ∧ leD (ren (mOf []) d) res | none => False) : retK P fn 0 res [] .ret st := by
  split at h
  · rename_i c d hd
    exact ⟨.inr rfl, [], c, d, hd, h.1, by simp, fun k hk => by omega, rfl, h.2⟩
  · exact h.elim
theorem weak_plain {s t : St} (h : leF (s.fr.map (ren (mOf []))) t.fr) (ht : t.σ = []) : Weak 0 s t := ⟨[], by simp, fun k hk => by omega, h, by rw [ht]; exact trivial⟩

theorem wrapI {n : Int} (h1 : -9223372036854775808 ≤ n) (h2 : n ≤ 9223372036854775807) : IntKind.i64.wrap n = n := by rw [IntKind.wrap_i64]; omega
theorem wrapN {i n : Nat} (h : i < n) (hn : n ≤ 9223372036854775807) : IntKind.i64.wrap ((i : Int) + 1) = ((i + 1 : Nat) : Int) := by rw [wrapI (by omega) (by omega)]; rfl

theorem getF_map {α : Type} (f : α → D) (l : List α) (n : Nat) (a : α) (h : l[n]? = some a) : getF (l.map f) n = f a := by
  rw [getF_eq, List.getElem?_map, h]; rfl
theorem getE_map {α : Type} (f : α → List D) (l : List α) (n : Nat) (a : α) (h : l[n]? = some a) : getE (l.map f) n = f a := by
  unfold getE; rw [List.getElem?_map, h]; rfl
theorem beqT (b : Bool) : (b == true) = b := by cases b <;> rfl
theorem beqF (b : Bool) : (b == false) = !b := by cases b <;> rfl
attribute [push_cast] beqT beqF Bool.not_true Bool.not_false
theorem sub_map {α : Type} (f : α → List D) (l : List α) (a b : Nat) : sub (l.map f) a b = ((l.take b).drop a).map f := by simp [sub, List.map_take, List.map_drop]
theorem isNilL_nil {α : Type} : isNilL ([] : List α) = true := rfl
theorem isNilL_cons {α : Type} (a : α) (l : List α) : isNilL (a :: l) = false := rfl
attribute [push_cast] List.flatten_cons List.flatten_nil sub_map Int.toNat_zero List.drop_zero rvc guardB stepOp builtinStep St.eval getF getS getC Out.app putF setsF roomy nalloc allocB callAlloc SR.pureO SR.readO SR.valO SR.vO SR.cvO SR.rdO pickD binD nilBin aggBin eqOffs eqV valBin intBin strBin boolBin unD convD beqK lenD minD maxD loadD isAggD storeD isLive beqN fieldAddrD fieldOf fieldD indexAddrD indexD sliceD sliceStr boundD allocD boxD makeMapD insertD lookupD mapTy mapE findD keyB zeroOf Instr.sameNow isFree buildD placesD fillD buildSliceD rfillD appendD srcD appendInD clearD isNilL_nil isNilL_cons isZ extractD nilCheckD zeroD cellsD solidAll D.solid frzRows frzAll frz frz0 splice Value.cells Value.oneCell' Nat.beq_eq_true_eq Nat.beq_eq List.set_cons_zero List.set_cons_succ List.length_cons List.length_nil List.map_cons List.map_nil List.toList_toArray List.getElem?_toArray List.getElem?_cons_zero List.getElem?_cons_succ Option.bind_some Option.map_some Option.map_none List.nil_append List.cons_append List.append_nil List.replicate List.drop_zero List.drop_succ_cons List.take_zero List.take_succ_cons if_true if_false Bool.false_eq_true true_and and_true Bool.and_true Bool.true_and ne_eq not_false_eq_true List.length_map decide_eq_true_eq Int.toNat_natCast
end Go.Proofs.Ytabliglgeiajlaa.AM
