/- The row of SeqMakes. -/
import Derived.Test.YtabliglgeiajlaaGreatRows
import Derived.Test.YtabliglgeiajlaaGreatLawSeqMakesF
import Derived.Test.YtabliglgeiajlaaGreatSM
import Derived.Test.YtabliglgeiajlaaGreatK2
import Derived.Test.YtabliglgeiajlaaGreatK5
set_option linter.unusedSimpArgs false
set_option linter.unusedVariables false
namespace Go.Proofs.YtabliglgeiajlaaGreat.seqMakes
open Go Go.RowKit Go.Proofs
open Go.ChangeShapes Go.WideShapes Go.ChangeAt
open Go.ChangeMaps (open_string shut_string)
theorem own : ownKnob Tryz.prog.godebug = none := by kernel_rfl
theorem laidOut : laidOutB Tryz.prog = true := by kernel_rfl
set_option maxRecDepth 100000 in
theorem lifted (os : Os) (started : os.Started) (H : Type) (enc : TypeId × Value → H) :
    ReturnsInHanded {} Tryz.checked os 3 .any (Rows.seqMakesSpec.pre6 enc Tryz.prog Tryz.f3 Rows.seqMakesRow.domain false) (Rows.seqMakesSpec.post enc Tryz.prog Tryz.f3 false true false false) := by
  refine returnsInHanded_of_change_sized (C := Tryz.checked) own started (by kernel_rfl) Tryz.func3
    (ChangeSpec.witness6 (enc := enc) (C := Tryz.checked) false ⟨#[], #[Value.agg #[Value.slice none 0 0, Value.slice none 0 0], Value.agg #[Value.int IntKind.i64 0, Value.int IntKind.i64 0, Value.int IntKind.i64 0, Value.int IntKind.i64 0, Value.slice none 0 0], Value.agg #[Value.slice none 0 0, Value.int IntKind.i64 0, Value.slice none 0 0]], []⟩ 8 (by kernel_rfl) (by kernel_rfl) (by kernel_rfl) (by kernel_rfl)) ?_
  intro W base args ds gs before hval0 hW hcnd hsz0 _
  have hval : ∀ (j : Nat) t v, Tryz.f3.params[j]? = some t → args[j]? = some v → Value.okWide Tryz.prog W .any base t v := hval0
  have hW' := hW
  obtain ⟨p, q, hA0, hV, rfl, hfz, hnd⟩ := hW
  have hA : DataW.TrodAll enc Tryz.prog W 0 (fun _ => true) true Tryz.f3.params.toList args.toList ds p := hA0
  rw [Tryz.params3] at hA hval
  obtain ⟨v0, vs0, d0, ds0, p0, q0, hargs, rfl, rfl, h0, r0⟩ := trodAll_cons hA
  obtain ⟨v1, vs1, d1, ds1, p1, q1, rfl, rfl, rfl, h1, r1⟩ := trodAll_cons r0
  obtain ⟨v2, vs2, d2, ds2, p2, q2, rfl, rfl, rfl, h2, r2⟩ := trodAll_cons r1
  obtain ⟨rfl, rfl, rfl⟩ := trodAll_nil r2
  obtain rfl : args = #[v0, v1, v2] := by cases args; simp_all
  obtain ⟨rfl, rfl⟩ := trodVars_none hV
  have lt0 : ∀ x ∈ p0, x.block < W.heap.size := by obtain ⟨m, hm⟩ := h0; exact DataW.trod_lt m _ _ _ hm
  obtain ⟨e0, s0, rp0⟩ := AM.arg_struct AM.conf_lat (hval 0 25 v0 rfl rfl) h0
  obtain ⟨x0a, x0b, he0, hx0a, hx0b⟩ := AM.is_lat s0
  rw [he0] at rp0
  have lt1 : ∀ x ∈ p1, x.block < W.heap.size := by obtain ⟨m, hm⟩ := h1; exact DataW.trod_lt m _ _ _ hm
  obtain ⟨e1, s1, rp1⟩ := AM.arg_struct AM.conf_space (hval 1 28 v1 rfl rfl) h1
  obtain ⟨x1a, he1⟩ := AM.is_space s1
  rw [he1] at rp1
  have lt2 : ∀ x ∈ p2, x.block < W.heap.size := by obtain ⟨m, hm⟩ := h2; exact DataW.trod_lt m _ _ _ hm
  obtain ⟨e2, s2, rp2⟩ := AM.arg_struct AM.conf_dr (hval 2 30 v2 rfl rfl) h2
  obtain ⟨x2a, x2b, x2c, he2⟩ := AM.is_dr s2
  rw [he2] at rp2
  clear hA0 hval0 hsz0
  refine (AM.law_of (AM.seqMakes_fn false false false false false x0a x0b x1a ⟨x2a, x2c, x2b⟩ hx0b.u32) (vs := #[v0, v1, v2]) rfl (fun j d u hd hu => ?_)).mono fun e W' ⟨he, bel⟩ => ?_
  · match j, hd, hu with
    | 0, hd, hu => cases hd; cases hu; exact rp0
    | 1, hd, hu => cases hd; cases hu; exact rp1
    | 2, hd, hu => cases hd; cases hu; exact rp2
    | j + 3, hd, hu => simp at hd
  subst he
  exact ⟨_, rfl, _, _, _, [], _, [], hW', trodAll_mk1 (shut_bool Tryz.underlying4 _), (trodAll_cons_mk (Below.trod laidOut (by kernel_rfl) (of_decide_eq_true (by kernel_rfl)) h0 bel lt0) (trodAll_cons_mk (Below.trod laidOut (by kernel_rfl) (of_decide_eq_true (by kernel_rfl)) h1 bel lt1) (trodAll_cons_mk (Below.trod laidOut (by kernel_rfl) (of_decide_eq_true (by kernel_rfl)) h2 bel lt2) trodAll_mk0))), rfl, bel.frame _, fun h => by cases h⟩
theorem over : Rows.seqMakesRow.holds Tryz.pinned (OpenSpec.ofChange Rows.seqMakesSpec) :=
  OpenClaim.holds_of_wide 3 Tryz.f3 rfl rfl rfl rfl rfl rfl rfl ⟨rfl, rfl, rfl, rfl, rfl⟩ rfl rfl rfl rfl rfl closed1 Tryz.func3 closed2 closed3 closed4
    (fun os started H enc _ => lifted os started H enc)
theorem proved : Rows.SeqMakesSaid := over
#print axioms proved
end Go.Proofs.YtabliglgeiajlaaGreat.seqMakes
namespace Go.Proofs.YtabliglgeiajlaaGreat
/-- The row, under a short name, for the claim. -/
theorem seqMakes_holds : Rows.SeqMakesSaid := seqMakes.proved
end Go.Proofs.YtabliglgeiajlaaGreat
