/- The row of OrderEdges. -/
import Derived.Test.YtabliglgeiajlaaRows
import Derived.Test.YtabliglgeiajlaaLawOrderEdgesF
import Derived.Test.YtabliglgeiajlaaX2
import Derived.Test.YtabliglgeiajlaaK2
set_option linter.unusedSimpArgs false
set_option linter.unusedVariables false
namespace Go.Proofs.Ytabliglgeiajlaa.orderEdges
open Go Go.RowKit Go.Proofs
open Go.ChangeShapes Go.WideShapes Go.ChangeAt
open Go.ChangeMaps (open_string shut_string)
theorem own : ownKnob Try.prog.godebug = none := by kernel_rfl
theorem laidOut : laidOutB Try.prog = true := by kernel_rfl
set_option maxRecDepth 100000 in
theorem lifted (os : Os) (started : os.Started) (H : Type) (enc : TypeId × Value → H) :
    ReturnsInHanded {} Try.checked os 8 .any (Rows.orderEdgesSpec.pre6 enc Try.prog Try.f8 Rows.orderEdgesRow.domain false) (Rows.orderEdgesSpec.post enc Try.prog Try.f8 false true false false) := by
  refine returnsInHanded_of_change_sized (C := Try.checked) own started (by kernel_rfl) Try.func8
    (ChangeSpec.witness6 (enc := enc) (C := Try.checked) false ⟨#[], #[Value.agg #[Value.slice none 0 0, Value.slice none 0 0], Value.string { data := #[] }], []⟩ 8 (by kernel_rfl) (by kernel_rfl) (by kernel_rfl) (by kernel_rfl)) ?_
  intro W base args ds gs before hval0 hW hcnd hsz0 _
  have hval : ∀ (j : Nat) t v, Try.f8.params[j]? = some t → args[j]? = some v → Value.okWide Try.prog W .any base t v := hval0
  have hW' := hW
  obtain ⟨p, q, hA0, hV, rfl, hfz, hnd⟩ := hW
  have hA : DataW.TrodAll enc Try.prog W 0 (fun _ => true) true Try.f8.params.toList args.toList ds p := hA0
  rw [Try.params8] at hA hval
  obtain ⟨v0, vs0, d0, ds0, p0, q0, hargs, rfl, rfl, h0, r0⟩ := trodAll_cons hA
  obtain ⟨v1, vs1, d1, ds1, p1, q1, rfl, rfl, rfl, h1, r1⟩ := trodAll_cons r0
  obtain ⟨rfl, rfl, rfl⟩ := trodAll_nil r1
  obtain rfl : args = #[v0, v1] := by cases args; simp_all
  obtain ⟨rfl, rfl⟩ := trodVars_none hV
  have lt0 : ∀ x ∈ p0, x.block < W.heap.size := by obtain ⟨m, hm⟩ := h0; exact DataW.trod_lt m _ _ _ hm
  obtain ⟨e0, s0, rp0⟩ := AM.arg_struct AM.conf_lat (hval 0 25 v0 rfl rfl) h0
  obtain ⟨x0a, x0b, he0, hx0a, hx0b⟩ := AM.is_lat s0
  rw [he0] at rp0
  have lt1 : ∀ x ∈ p1, x.block < W.heap.size := by obtain ⟨m, hm⟩ := h1; exact DataW.trod_lt m _ _ _ hm
  obtain ⟨e1, s1, rp1⟩ := AM.arg_one AM.conf_str (hval 1 9 v1 rfl rfl) h1 trivial
  obtain ⟨x1a, rfl, hx1a⟩ := AM.is_str s1
  clear hA0 hval0 hsz0
  refine (AM.law_of (AM.orderEdges_fn false false x0a x0b hx0b.u32 x1a) (vs := #[v0, v1]) rfl (fun j d u hd hu => ?_)).mono fun e W' ⟨he, bel⟩ => ?_
  · match j, hd, hu with
    | 0, hd, hu => cases hd; cases hu; exact rp0
    | 1, hd, hu => cases hd; cases hu; exact rp1
    | j + 2, hd, hu => simp at hd
  subst he
  exact ⟨_, rfl, _, _, _, [], _, [], hW', trodAll_mk1 (shut_bool Try.underlying4 _), (trodAll_cons_mk (Below.trod laidOut (by kernel_rfl) (of_decide_eq_true (by kernel_rfl)) h0 bel lt0) (trodAll_cons_mk (Below.trod laidOut (by kernel_rfl) (of_decide_eq_true (by kernel_rfl)) h1 bel lt1) trodAll_mk0)), rfl, bel.frame _, fun h => by cases h⟩
theorem over : Rows.orderEdgesRow.holds Try.pinned (OpenSpec.ofChange Rows.orderEdgesSpec) :=
  OpenClaim.holds_of_wide 8 Try.f8 rfl rfl rfl rfl rfl rfl rfl ⟨rfl, rfl, rfl, rfl, rfl⟩ rfl rfl rfl rfl rfl closed1 Try.func8 closed2 closed3 closed4
    (fun os started H enc _ => lifted os started H enc)
theorem proved : Rows.OrderEdgesSaid := over
#print axioms proved
end Go.Proofs.Ytabliglgeiajlaa.orderEdges
namespace Go.Proofs.Ytabliglgeiajlaa
/-- The row, under a short name, for the claim. -/
theorem orderEdges_holds : Rows.OrderEdgesSaid := orderEdges.proved
end Go.Proofs.Ytabliglgeiajlaa
