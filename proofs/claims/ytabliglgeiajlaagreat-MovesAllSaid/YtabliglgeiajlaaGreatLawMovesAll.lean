/- The row of MovesAll. -/
import Derived.Test.YtabliglgeiajlaaGreatRows
import Derived.Test.YtabliglgeiajlaaGreatLawMovesAllF
import Derived.Test.YtabliglgeiajlaaGreatMovesAllG4
set_option linter.unusedSimpArgs false
set_option linter.unusedVariables false
namespace Go.Proofs.YtabliglgeiajlaaGreat.movesAll
open Go Go.RowKit Go.Proofs
open Go.ChangeShapes Go.WideShapes Go.ChangeAt
open Go.ChangeMaps (open_string shut_string)
theorem own : ownKnob Tryz.prog.godebug = none := by kernel_rfl
theorem laidOut : laidOutB Tryz.prog = true := by kernel_rfl
set_option maxRecDepth 100000 in
theorem lifted (os : Os) (started : os.Started) (H : Type) (enc : TypeId × Value → H) :
    ReturnsInHanded {} Tryz.checked os 4 .any (Rows.movesAllSpec.pre6 enc Tryz.prog Tryz.f4 Rows.movesAllRow.domain false) (Rows.movesAllSpec.post enc Tryz.prog Tryz.f4 false true false false) := by
  refine returnsInHanded_of_change_sized (C := Tryz.checked) own started (by kernel_rfl) Tryz.func4
    (ChangeSpec.witness6 (enc := enc) (C := Tryz.checked) false ⟨#[], #[Value.agg #[Value.slice none 0 0, Value.slice none 0 0], Value.agg #[Value.int IntKind.i64 0, Value.int IntKind.i64 0, Value.slice none 0 0, Value.slice none 0 0, Value.slice none 0 0, Value.slice none 0 0, Value.int IntKind.i64 0, Value.int IntKind.i64 0, Value.slice none 0 0, Value.slice none 0 0, Value.slice none 0 0, Value.slice none 0 0]], []⟩ 8 (by kernel_rfl) (by kernel_rfl) (by kernel_rfl) (by kernel_rfl)) ?_
  intro W base args ds gs before hval0 hW hcnd hsz0 _
  have hval : ∀ (j : Nat) t v, Tryz.f4.params[j]? = some t → args[j]? = some v → Value.okWide Tryz.prog W .any base t v := hval0
  have hW' := hW
  obtain ⟨p, q, hA0, hV, rfl, hfz, hnd⟩ := hW
  have hA : DataW.TrodAll enc Tryz.prog W 0 (fun _ => true) true Tryz.f4.params.toList args.toList ds p := hA0
  rw [Tryz.params4] at hA hval
  obtain ⟨v0, vs0, d0, ds0, p0, q0, hargs, rfl, rfl, h0, r0⟩ := trodAll_cons hA
  obtain ⟨v1, vs1, d1, ds1, p1, q1, rfl, rfl, rfl, h1, r1⟩ := trodAll_cons r0
  obtain ⟨rfl, rfl, rfl⟩ := trodAll_nil r1
  obtain rfl : args = #[v0, v1] := by cases args; simp_all
  obtain ⟨rfl, rfl⟩ := trodVars_none hV
  have lt0 : ∀ x ∈ p0, x.block < W.heap.size := by obtain ⟨m, hm⟩ := h0; exact DataW.trod_lt m _ _ _ hm
  obtain ⟨e0, s0, rp0⟩ := AM.arg_struct AM.conf_lat (hval 0 25 v0 rfl rfl) h0
  obtain ⟨x0a, x0b, he0, hx0a, hx0b⟩ := AM.is_lat s0
  rw [he0] at rp0
  have lt1 : ∀ x ∈ p1, x.block < W.heap.size := by obtain ⟨m, hm⟩ := h1; exact DataW.trod_lt m _ _ _ hm
  obtain ⟨e1, s1, rp1⟩ := AM.arg_struct AM.conf_two (hval 1 56 v1 rfl rfl) h1
  obtain ⟨x1a, x1b, he1⟩ := AM.is_two s1
  rw [he1] at rp1
  clear hA0 hval0 hsz0
  refine (AM.law_of (AM.movesAll_fn x0a x0b x1a x1b hx0a.1 hx0b.1) (vs := #[v0, v1]) rfl (fun j d u hd hu => ?_)).mono fun e W' ⟨he, bel⟩ => ?_
  · match j, hd, hu with
    | 0, hd, hu => cases hd; cases hu; exact rp0
    | 1, hd, hu => cases hd; cases hu; exact rp1
    | j + 2, hd, hu => simp at hd
  subst he
  exact ⟨_, rfl, _, _, _, [], _, [], hW', trodAll_mk1 (shut_bool Tryz.underlying4 _), (trodAll_cons_mk (Below.trod laidOut (by kernel_rfl) (of_decide_eq_true (by kernel_rfl)) h0 bel lt0) (trodAll_cons_mk (Below.trod laidOut (by kernel_rfl) (of_decide_eq_true (by kernel_rfl)) h1 bel lt1) trodAll_mk0)), rfl, bel.frame _, fun h => by cases h⟩
theorem over : Rows.movesAllRow.holds Tryz.pinned (OpenSpec.ofChange Rows.movesAllSpec) :=
  OpenClaim.holds_of_wide 4 Tryz.f4 rfl rfl rfl rfl rfl rfl rfl ⟨rfl, rfl, rfl, rfl, rfl⟩ rfl rfl rfl rfl rfl closed1 Tryz.func4 closed2 closed3 closed4
    (fun os started H enc _ => lifted os started H enc)
theorem proved : Rows.MovesAllSaid := over
#print axioms proved
end Go.Proofs.YtabliglgeiajlaaGreat.movesAll
namespace Go.Proofs.YtabliglgeiajlaaGreat
/-- The row, under a short name, for the claim. -/
theorem movesAll_holds : Rows.MovesAllSaid := movesAll.proved
end Go.Proofs.YtabliglgeiajlaaGreat
