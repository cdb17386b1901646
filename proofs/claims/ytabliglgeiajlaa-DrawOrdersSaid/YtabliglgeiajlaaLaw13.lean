/- The row of DrawOrders. -/
import Derived.Test.YtabliglgeiajlaaRows
import Derived.Test.YtabliglgeiajlaaT3
import Derived.WalkKit
import Derived.ProofKit
import Derived.OpenShut
import Derived.ShutString
import Derived.ChangeOld
import Derived.Below
import Derived.SizedLaws
set_option linter.unusedSimpArgs false
set_option linter.unusedVariables false
namespace Go.Proofs.Ytabliglgeiajlaa.AM
open Go Go.RowKit Go.Proofs

/-- The rows of numbers that come in. -/
def IsRow (k : IntKind) (w : World) (a : Option Addr) (len cap : Nat) (zs : List Int) : Prop :=
  (a = none ∧ len = 0 ∧ cap = 0 ∧ zs = []) ∨
  ∃ x, a = some x ∧ len ≤ cap ∧ cap ≤ maxLen ∧ zs.length = cap ∧ (∀ i, i < zs.length → w.cell? (x.add i) = some (.int k (zs.getD i 0))) ∧ ∀ n ∈ zs, (Lit.int k n).wf = true
theorem hp0 (w : World) : Hp (base0 w (fun _ => False) [] (fun _ => (0, 0))) [] (fun _ => (0, 0)) w where
  ent := fun k e h => by simp at h
  inj := fun k k' ⟨e, h⟩ => by simp at h
  nf := fun k ⟨e, h⟩ => by simp at h
  own := fun k ⟨e, h⟩ => by simp at h
  size := Nat.le_refl _
  os := rfl
  tape := rfl
  output := rfl
  base := fun _ _ _ => rfl
  n0 := fun _ h => h.elim
  hist := fun k g hk => ⟨hk, fun _ h => h⟩
theorem row_rep {w : World} {a : Option Addr} {len cap : Nat} {zs : List Int} (h : IsRow .i64 w a len cap zs) :
    Rp (base0 w (fun _ => False) [] (fun _ => (0, 0))) [] (fun _ => (0, 0)) w (.sl false 1 (intRow (zs.take len))) (.slice a len cap) := by
  refine .fro _ _ ?_
  rcases h with ⟨rfl, rfl, rfl, rfl⟩ | ⟨x, rfl, h1, _, h2, h3, _⟩
  · exact .sl0 _ _ _ _ (fun _ => rfl)
  · by_cases h0 : len = 0
    · subst h0
      exact .sl0 _ _ _ _ (fun h => by cases h)
    · have hlt : 0 < zs.length := by omega
      have hc := h3 0 hlt
      obtain ⟨b, o, sp⟩ := x
      have hsp : sp = none := by
        cases sp with
        | none => rfl
        | some s =>
          exfalso
          simp only [World.cell?] at hc
          split at hc
          · have : ((⟨b, o, some s⟩ : Addr).add 0).spot.isSome = true := by unfold Addr.add; rfl
            rw [this] at hc
            simp at hc
          · cases hc
      subst hsp
      have hb : b < w.heap.size := by
        rw [add_plain] at hc
        simp only [World.cell?] at hc
        split at hc
        · rename_i hh; exact (Array.getElem?_eq_some_iff.1 hh).1
        · cases hc
      have hget : ∀ (i : Nat) (x : List D) (j : Nat) (d : D), (intRow (zs.take len))[i]? = some x → x[j]? = some d → j = 0 ∧ i < zs.length ∧ d = .v (.int .i64 (zs.getD i 0)) := by
        intro i x j d hi hj
        obtain ⟨z, hz, rfl⟩ := map_get hi
        cases j with
        | succ j => simp at hj
        | zero =>
          simp only [List.getElem?_cons_zero, Option.some.injEq] at hj
          have hil : i < len := by have := (List.getElem?_eq_some_iff.1 hz).1; simp at this; omega
          rw [List.getElem?_take_of_lt hil] at hz
          refine ⟨rfl, (List.getElem?_eq_some_iff.1 hz).1, ?_⟩
          rw [← hj, List.getD_eq_getElem?_getD, hz]
          rfl
      refine .sl false 1 _ b o cap len (fun i _ => .int .i64 (zs.getD i 0)) (by simp [intRow]; omega) (by omega) h1 (fun h => by cases h) ⟨hb, fun h => h, fun k ⟨e, h⟩ => by simp at h⟩ (fun x hx => ?_) (fun i x j d hi hj => ?_) (fun i x j d hi hj => ?_)
      · obtain ⟨z, _, rfl⟩ := List.mem_map.1 hx
        rfl
      · obtain ⟨rfl, h5, _⟩ := hget i x j d hi hj
        have := h3 i h5
        rw [add_plain] at this
        exact ⟨by rw [Nat.mul_one, Nat.add_zero]; exact this, rfl⟩
      · obtain ⟨_, _, rfl⟩ := hget i x j d hi hj
        exact .v _
/-- A law's walk, out of its function. -/
theorem law_of {P : Program} {n : Nat} {args : List D} {vs : Array Value} {w : World} (h : Fn P n args [] (.v (.bool true)) []) (hs : vs.size = args.length)
    (ha : ∀ (j : Nat) (d : D) (u : Value), args[j]? = some d → vs[j]? = some u → Rp (base0 w (fun _ => False) [] (fun _ => (0, 0))) [] (fun _ => (0, 0)) w d u) :
    Calls P n vs w (fun e w' => e = .returned (.bool true) ∧ Below w.heap.size w w') := by
  refine (h.spec (fun _ => False) (fun _ => (0, 0)) w vs (hp0 w) hs ha).mono ?_
  rintro e w' ⟨v, ρ', rfl, hp, hr⟩
  rw [hr.v_inv]
  exact ⟨rfl, hp.os, hp.tape, hp.output, hp.size, fun k hk => hp.base k hk (fun ⟨j, ⟨e, he⟩, _⟩ => by simp at he)⟩
end Go.Proofs.Ytabliglgeiajlaa.AM
namespace Go.Proofs.Ytabliglgeiajlaa.drawOrders
open Go.ChangeShapes Go.WideShapes Go.ChangeAt Go.RowKit
open Go.ChangeMaps (open_string shut_string)
set_option linter.unusedVariables false
theorem own : ownKnob Try.prog.godebug = none := by kernel_rfl
theorem laidOut : laidOutB Try.prog = true := by kernel_rfl
set_option maxRecDepth 100000 in
theorem lifted (os : Os) (started : os.Started) (H : Type) (enc : TypeId × Value → H) :
    ReturnsInHanded {} Try.checked os 4 .any (Rows.drawOrdersSpec.pre6 enc Try.prog Try.f4 Rows.drawOrdersRow.domain false) (Rows.drawOrdersSpec.post enc Try.prog Try.f4 false true false false) := by
  refine returnsInHanded_of_change_sized (C := Try.checked) own started (by kernel_rfl) Try.func4
    (ChangeSpec.witness6 (enc := enc) (C := Try.checked) false ⟨#[], #[.slice none 0 0, .slice none 0 0], []⟩ 8 (by kernel_rfl) (by kernel_rfl) (by kernel_rfl) (by kernel_rfl)) ?_
  intro W base args ds gs before hval0 hW hcnd hsz0 _
  have hsz : (DataW.weightsEach Try.prog (Try.f4.params.toList ++ Rows.drawOrdersSpec.plain.varTypes Try.prog) (ds ++ gs)).all (· ≤ reachBytes) = true := hsz0
  have hval : ∀ (j : Nat) t v, Try.f4.params[j]? = some t → args[j]? = some v → Value.okWide Try.prog W .any base t v := hval0
  have hW' := hW
  obtain ⟨p, q, hA0, hV, rfl, hfz, hnd⟩ := hW
  have hA : DataW.TrodAll enc Try.prog W 0 (fun _ => true) true Try.f4.params.toList args.toList ds p := hA0
  rw [Try.params4] at hA hval hsz
  obtain ⟨v0, vs0, d0, ds0, p0, q0, hargs, rfl, rfl, h0, r0⟩ := trodAll_cons hA
  obtain ⟨v1, vs1, d1, ds1, p1, q1, rfl, rfl, rfl, h1, r1⟩ := trodAll_cons r0
  obtain ⟨rfl, rfl, rfl⟩ := trodAll_nil r1
  obtain rfl : args = #[v0, v1] := by cases args; simp_all
  obtain ⟨rfl, rfl⟩ := trodVars_none hV
  obtain ⟨a0, len0, cap0, rfl⟩ := okWide_slice Try.underlying36 (hval 0 36 v0 rfl rfl)
  have k0 := h0
  have lt0 : ∀ x ∈ p0, x.block < W.heap.size := by obtain ⟨m, hm⟩ := k0; exact DataW.trod_lt m _ _ _ hm
  obtain ⟨z0, w0⟩ : ∃ zs, AM.IsRow .i64 W a0 len0 cap0 zs := by
    obtain ⟨fuel, hf⟩ := h0
    rcases open_ints Try.underlying36 Try.underlying3 (by kernel_rfl) hf with ⟨hcs, _⟩ | ⟨x, l, c, zs, hcs, _, hl, hm, hz, _, hcell, hwz⟩
    · simp [Value.cells] at hcs
      obtain ⟨rfl, rfl, rfl⟩ := hcs
      exact ⟨[], .inl ⟨rfl, rfl, rfl, rfl⟩⟩
    · simp [Value.cells] at hcs
      obtain ⟨rfl, rfl, rfl⟩ := hcs
      exact ⟨zs, .inr ⟨_, rfl, hl, hm, by simpa using hz, hcell, hwz⟩⟩
  obtain ⟨a1, len1, cap1, rfl⟩ := okWide_slice Try.underlying36 (hval 1 36 v1 rfl rfl)
  have k1 := h1
  have lt1 : ∀ x ∈ p1, x.block < W.heap.size := by obtain ⟨m, hm⟩ := k1; exact DataW.trod_lt m _ _ _ hm
  obtain ⟨z1, w1⟩ : ∃ zs, AM.IsRow .i64 W a1 len1 cap1 zs := by
    obtain ⟨fuel, hf⟩ := h1
    rcases open_ints Try.underlying36 Try.underlying3 (by kernel_rfl) hf with ⟨hcs, _⟩ | ⟨x, l, c, zs, hcs, _, hl, hm, hz, _, hcell, hwz⟩
    · simp [Value.cells] at hcs
      obtain ⟨rfl, rfl, rfl⟩ := hcs
      exact ⟨[], .inl ⟨rfl, rfl, rfl, rfl⟩⟩
    · simp [Value.cells] at hcs
      obtain ⟨rfl, rfl, rfl⟩ := hcs
      exact ⟨zs, .inr ⟨_, rfl, hl, hm, by simpa using hz, hcell, hwz⟩⟩
  clear hA0 hval0 hsz0 hsz
  refine (AM.law_of (AM.drawOrders_fn false false (z0.take len0) (z1.take len1)) (vs := #[.slice a0 len0 cap0, .slice a1 len1 cap1]) rfl (fun j d u hd hu => ?_)).mono fun e W' ⟨he, bel⟩ => ?_
  · match j, hd, hu with
    | 0, hd, hu => cases hd; cases hu; exact AM.row_rep w0
    | 1, hd, hu => cases hd; cases hu; exact AM.row_rep w1
    | j + 2, hd, hu => simp at hd
  subst he
  exact ⟨_, rfl, _, _, _, [], _, [], hW', trodAll_mk1 (shut_bool Try.underlying4 _), (trodAll_cons_mk (Below.trod laidOut (by kernel_rfl) (of_decide_eq_true (by kernel_rfl)) k0 bel lt0) (trodAll_cons_mk (Below.trod laidOut (by kernel_rfl) (of_decide_eq_true (by kernel_rfl)) k1 bel lt1) trodAll_mk0)), rfl, bel.frame _, fun h => by cases h⟩
theorem closed1 : Try.pinned.checked.prog.funcNamed Rows.drawOrdersRow.func = some 4 := by kernel_rfl
theorem closed2 : joinedFacts Try.pinned.checked.prog 4 Try.f4 Rows.drawOrdersSpec Rows.drawOrdersRow = true := by kernel_rfl
theorem closed3 : Try.f4.isInstance Try.pinned.checked.prog Rows.drawOrdersRow.origin Rows.drawOrdersRow.targs := of_decide_eq_true (by kernel_rfl)
theorem closed4 : Try.f4.isWrapper Try.pinned.checked.prog Rows.drawOrdersRow.wrapper Rows.drawOrdersRow.mainSum := by
  unfold Func.isWrapper
  rw [if_neg (by decide +kernel)]
  exact ⟨rfl, rfl⟩
theorem over : Rows.drawOrdersRow.holds Try.pinned (OpenSpec.ofChange Rows.drawOrdersSpec) :=
  OpenClaim.holds_of_wide 4 Try.f4 rfl rfl rfl rfl rfl rfl rfl ⟨rfl, rfl, rfl, rfl, rfl⟩ rfl rfl rfl rfl rfl closed1 Try.func4 closed2 closed3 closed4
    (fun os started H enc _ => lifted os started H enc)
theorem proved : Rows.DrawOrdersSaid := over
#print axioms proved
end Go.Proofs.Ytabliglgeiajlaa.drawOrders
namespace Go.Proofs.Ytabliglgeiajlaa
/-- The row, under a short name, for the claim. -/
theorem drawOrders_holds : Rows.DrawOrdersSaid := drawOrders.proved
end Go.Proofs.Ytabliglgeiajlaa
