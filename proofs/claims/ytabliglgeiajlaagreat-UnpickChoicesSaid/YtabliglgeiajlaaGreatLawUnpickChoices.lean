/- The row of UnpickChoices. -/
import Derived.Test.YtabliglgeiajlaaGreatRows
import Derived.Test.YtabliglgeiajlaaGreatLawUnpickChoicesF
import Derived.Test.YtabliglgeiajlaaGreatUnpickChoicesG4
set_option linter.unusedSimpArgs false
set_option linter.unusedVariables false
namespace Go.Proofs.YtabliglgeiajlaaGreat.unpickChoices
open Go Go.RowKit Go.Proofs
open Go.ChangeShapes Go.WideShapes Go.ChangeAt
open Go.ChangeMaps (open_string shut_string)
theorem own : ownKnob Tryz.prog.godebug = none := by kernel_rfl
theorem laidOut : laidOutB Tryz.prog = true := by kernel_rfl
set_option maxRecDepth 100000 in
theorem lifted (os : Os) (started : os.Started) (H : Type) (enc : TypeId × Value → H) :
    ReturnsInHanded {} Tryz.checked os 6 .any (Rows.unpickChoicesSpec.pre6 enc Tryz.prog Tryz.f6 Rows.unpickChoicesRow.domain false) (Rows.unpickChoicesSpec.post enc Tryz.prog Tryz.f6 false true false false) := by
  refine returnsInHanded_of_change_sized (C := Tryz.checked) own started (by kernel_rfl) Tryz.func6
    (ChangeSpec.witness6 (enc := enc) (C := Tryz.checked) false ⟨#[], #[Value.agg #[Value.slice none 0 0, Value.slice none 0 0], Value.agg #[Value.int IntKind.i64 0, Value.int IntKind.i64 0, Value.int IntKind.i64 0, Value.int IntKind.i64 0, Value.slice none 0 0], Value.int IntKind.i64 0, Value.agg #[Value.int IntKind.i64 0, Value.int IntKind.i64 0, Value.slice none 0 0, Value.slice none 0 0, Value.slice none 0 0, Value.slice none 0 0], Value.agg #[Value.int IntKind.i64 0, Value.int IntKind.i64 0, Value.slice none 0 0, Value.slice none 0 0, Value.slice none 0 0, Value.slice none 0 0]], []⟩ 8 (by kernel_rfl) (by kernel_rfl) (by kernel_rfl) (by kernel_rfl)) ?_
  intro W base args ds gs before hval0 hW hcnd hsz0 _
  have hval : ∀ (j : Nat) t v, Tryz.f6.params[j]? = some t → args[j]? = some v → Value.okWide Tryz.prog W .any base t v := hval0
  have hW' := hW
  obtain ⟨p, q, hA0, hV, rfl, hfz, hnd⟩ := hW
  have hA : DataW.TrodAll enc Tryz.prog W 0 (fun _ => true) true Tryz.f6.params.toList args.toList ds p := hA0
  rw [Tryz.params6] at hA hval
  obtain ⟨v0, vs0, d0, ds0, p0, q0, hargs, rfl, rfl, h0, r0⟩ := trodAll_cons hA
  obtain ⟨v1, vs1, d1, ds1, p1, q1, rfl, rfl, rfl, h1, r1⟩ := trodAll_cons r0
  obtain ⟨v2, vs2, d2, ds2, p2, q2, rfl, rfl, rfl, h2, r2⟩ := trodAll_cons r1
  obtain ⟨v3, vs3, d3, ds3, p3, q3, rfl, rfl, rfl, h3, r3⟩ := trodAll_cons r2
  obtain ⟨v4, vs4, d4, ds4, p4, q4, rfl, rfl, rfl, h4, r4⟩ := trodAll_cons r3
  obtain ⟨rfl, rfl, rfl⟩ := trodAll_nil r4
  obtain rfl : args = #[v0, v1, v2, v3, v4] := by cases args; simp_all
  obtain ⟨rfl, rfl⟩ := trodVars_none hV
  have lt0 : ∀ x ∈ p0, x.block < W.heap.size := by obtain ⟨m, hm⟩ := h0; exact DataW.trod_lt m _ _ _ hm
  obtain ⟨e0, s0, rp0⟩ := AM.arg_struct AM.conf_lat (hval 0 25 v0 rfl rfl) h0
  obtain ⟨x0a, x0b, he0, hx0a, hx0b⟩ := AM.is_lat s0
  rw [he0] at rp0
  have lt1 : ∀ x ∈ p1, x.block < W.heap.size := by obtain ⟨m, hm⟩ := h1; exact DataW.trod_lt m _ _ _ hm
  obtain ⟨e1, s1, rp1⟩ := AM.arg_struct AM.conf_space (hval 1 28 v1 rfl rfl) h1
  obtain ⟨x1a, he1⟩ := AM.is_space s1
  rw [he1] at rp1
  have lt2 : ∀ x ∈ p2, x.block < W.heap.size := by obtain ⟨m, hm⟩ := h2; exact DataW.trod_lt m _ _ _ hm
  obtain ⟨e2, s2, rp2⟩ := AM.arg_one AM.conf_int (hval 2 3 v2 rfl rfl) h2 trivial
  obtain ⟨x2a, rfl⟩ := AM.is_int s2
  have lt3 : ∀ x ∈ p3, x.block < W.heap.size := by obtain ⟨m, hm⟩ := h3; exact DataW.trod_lt m _ _ _ hm
  obtain ⟨e3, s3, rp3⟩ := AM.arg_struct AM.conf_state (hval 3 39 v3 rfl rfl) h3
  obtain ⟨x3a, he3⟩ := AM.is_stateK s3
  rw [he3] at rp3
  have lt4 : ∀ x ∈ p4, x.block < W.heap.size := by obtain ⟨m, hm⟩ := h4; exact DataW.trod_lt m _ _ _ hm
  obtain ⟨e4, s4, rp4⟩ := AM.arg_struct AM.conf_state (hval 4 39 v4 rfl rfl) h4
  obtain ⟨x4a, he4⟩ := AM.is_stateK s4
  rw [he4] at rp4
  clear hA0 hval0 hsz0
  refine (AM.law_of (AM.unpickChoices_fn false false false false false false false false false false x0a x0b x1a x2a x3a x4a hx0b.u32) (vs := #[v0, v1, v2, v3, v4]) rfl (fun j d u hd hu => ?_)).mono fun e W' ⟨he, bel⟩ => ?_
  · match j, hd, hu with
    | 0, hd, hu => cases hd; cases hu; exact rp0
    | 1, hd, hu => cases hd; cases hu; exact rp1
    | 2, hd, hu => cases hd; cases hu; exact rp2
    | 3, hd, hu => cases hd; cases hu; exact rp3
    | 4, hd, hu => cases hd; cases hu; exact rp4
    | j + 5, hd, hu => simp at hd
  subst he
  exact ⟨_, rfl, _, _, _, [], _, [], hW', trodAll_mk1 (shut_bool Tryz.underlying4 _), (trodAll_cons_mk (Below.trod laidOut (by kernel_rfl) (of_decide_eq_true (by kernel_rfl)) h0 bel lt0) (trodAll_cons_mk (Below.trod laidOut (by kernel_rfl) (of_decide_eq_true (by kernel_rfl)) h1 bel lt1) (trodAll_cons_mk (Below.trod laidOut (by kernel_rfl) (of_decide_eq_true (by kernel_rfl)) h2 bel lt2) (trodAll_cons_mk (Below.trod laidOut (by kernel_rfl) (of_decide_eq_true (by kernel_rfl)) h3 bel lt3) (trodAll_cons_mk (Below.trod laidOut (by kernel_rfl) (of_decide_eq_true (by kernel_rfl)) h4 bel lt4) trodAll_mk0))))), rfl, bel.frame _, fun h => by cases h⟩
theorem over : Rows.unpickChoicesRow.holds Tryz.pinned (OpenSpec.ofChange Rows.unpickChoicesSpec) :=
  OpenClaim.holds_of_wide 6 Tryz.f6 rfl rfl rfl rfl rfl rfl rfl ⟨rfl, rfl, rfl, rfl, rfl⟩ rfl rfl rfl rfl rfl closed1 Tryz.func6 closed2 closed3 closed4
    (fun os started H enc _ => lifted os started H enc)
theorem proved : Rows.UnpickChoicesSaid := over
#print axioms proved
end Go.Proofs.YtabliglgeiajlaaGreat.unpickChoices
namespace Go.Proofs.YtabliglgeiajlaaGreat
/-- The row, under a short name, for the claim. -/
theorem unpickChoices_holds : Rows.UnpickChoicesSaid := unpickChoices.proved
end Go.Proofs.YtabliglgeiajlaaGreat
