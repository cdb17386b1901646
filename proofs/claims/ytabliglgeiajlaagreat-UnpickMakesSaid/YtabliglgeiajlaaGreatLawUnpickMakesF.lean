/- Closed facts of the row of UnpickMakes. -/
import Derived.Test.YtabliglgeiajlaaGreatFx
set_option linter.unusedSimpArgs false
namespace Go.Proofs.YtabliglgeiajlaaGreat.unpickMakes
open Go Go.RowKit Go.Proofs
theorem fact0 : (Rows.unpickMakesRow.wf (OpenSpec.ofChange Rows.unpickMakesSpec)) = true := by kernel_rfl
theorem fact1 : (laidOutB Tryz.pinned.checked.prog) = true := Fx.fact1
theorem fact2 : (mapsRowed Tryz.pinned.checked.prog) = true := Fx.fact2
theorem fact3 : (Tryz.f8.params.all (Tryz.pinned.checked.prog.readableRec ·)) = true := by kernel_rfl
theorem fact4 : (namedTie Tryz.pinned.checked.prog Rows.unpickMakesRow.named Rows.unpickMakesSpec.vars) = true := by kernel_rfl
theorem fact5 : ((Rows.unpickMakesRow.stops == [])) = true := by kernel_rfl
theorem fact6 : ((Tryz.pinned.checked.prog.stops == [])) = true := Fx.fact6
theorem fact7 : ((Rows.unpickMakesRow.knobs == [])) = true := by kernel_rfl
theorem fact8 : ((Tryz.pinned.checked.prog.stopKnobs == [])) = true := Fx.fact8
theorem fact9 : ((Rows.unpickMakesRow.inPlace == Tryz.pinned.checked.prog.inPlace 8)) = true := by kernel_rfl
theorem fact10 : ((Rows.unpickMakesRow.unfollowed == Tryz.pinned.checked.prog.unfollowed 8)) = true := by kernel_rfl
theorem fact11 : ((Rows.unpickMakesRow.recurses == Tryz.pinned.checked.prog.recurses 8)) = true := by kernel_rfl
theorem fact12 : ((Rows.unpickMakesRow.named == Tryz.pinned.checked.prog.varsNamed 8)) = true := by kernel_rfl
theorem fact13 : ((Rows.unpickMakesRow.maps == (Tryz.f8.params.toList ++ Rows.unpickMakesSpec.plain.varTypes Tryz.pinned.checked.prog).any (Tryz.pinned.checked.prog.mapsRec ·))) = true := by kernel_rfl
theorem fact14 : ((Rows.unpickMakesRow.ifaces == (Tryz.f8.params.toList ++ Rows.unpickMakesSpec.plain.varTypes Tryz.pinned.checked.prog).any (Tryz.pinned.checked.prog.ifacesRec ·))) = true := by kernel_rfl
theorem fact15 : ((Rows.unpickMakesRow.mapsOut == Tryz.pinned.checked.prog.mapsAmong Tryz.f8.resultTypes.toList)) = true := by kernel_rfl
theorem fact16 : ((Rows.unpickMakesRow.loops == (Tryz.f8.params.toList ++ Rows.unpickMakesSpec.plain.varTypes Tryz.pinned.checked.prog).any (Tryz.pinned.checked.prog.loopsFrom ·))) = true := by kernel_rfl
theorem fact17 : ((Rows.unpickMakesRow.wideKeys == (Tryz.f8.params.toList ++ Rows.unpickMakesSpec.plain.varTypes Tryz.pinned.checked.prog ++ Tryz.f8.resultTypes.toList).any (Tryz.pinned.checked.prog.wideKeysFrom ·))) = true := by kernel_rfl
theorem fact18 : (Rows.unpickMakesSpec.vars.all (Tryz.pinned.checked.prog.varReadable ·)) = true := by kernel_rfl
theorem fact19 : (Tryz.f8.resultTypes.all (fun t => Tryz.pinned.checked.prog.readableRec t && decide (t < Tryz.pinned.checked.prog.types.size))) = true := by kernel_rfl
theorem fact20 : ((Rows.unpickMakesRow.ifacesOut == Tryz.f8.resultTypes.toList.any (Tryz.pinned.checked.prog.ifacesRec ·))) = true := by kernel_rfl
theorem fact21 : ((Rows.unpickMakesRow.loopsOut == Tryz.f8.resultTypes.toList.any (Tryz.pinned.checked.prog.loopsFrom ·))) = true := by kernel_rfl
theorem fact22 : ((Rows.unpickMakesRow.plainKeys == Tryz.pinned.checked.prog.plainKeys)) = true := Fx.fact22
theorem fact23 : (Rows.unpickMakesRow.shortTexts.isNone) = true := by kernel_rfl
theorem fact24 : (Tryz.pinned.checked.prog.stopsHeard) = true := Fx.fact24
theorem fact25 : (Tryz.pinned.checked.prog.mayEnter) = true := Fx.fact25
theorem fact26 : ((Rows.unpickMakesRow.lifted == Tryz.pinned.checked.prog.liftsFinal)) = true := Fx.fact26
theorem fact27 : ((Tryz.pinned.checked.prog.make == some Rows.unpickMakesRow.make)) = true := Fx.fact27
theorem fact28 : ((Rows.unpickMakesRow.kinds == (if Rows.unpickMakesRow.domain.isEmpty then [] else Tryz.f8.params.toList.map fun t => match Tryz.pinned.checked.prog.underlying t with | some (.int k) => some k | _ => none))) = true := by kernel_rfl
theorem fact29 : ((Rows.unpickMakesRow.pinned == Rows.unpickMakesRow.pinnedBy)) = true := by kernel_rfl
theorem fact30 : ((Rows.unpickMakesRow.veiled == (Tryz.f8.params.toList ++ Rows.unpickMakesSpec.plain.varTypes Tryz.pinned.checked.prog ++ Tryz.f8.resultTypes.toList).any (Tryz.pinned.checked.prog.veiledRec ·))) = true := by kernel_rfl
theorem fact31 : (Rows.unpickMakesRow.veiledFits Tryz.pinned.checked.prog Tryz.f8.params.toList (Tryz.f8.params.toList ++ Rows.unpickMakesSpec.plain.varTypes Tryz.pinned.checked.prog ++ Tryz.f8.resultTypes.toList)) = true := by kernel_rfl
theorem closed1 : Tryz.pinned.checked.prog.funcNamed Rows.unpickMakesRow.func = some 8 := by kernel_rfl
set_option maxRecDepth 100000 in
theorem closed2 : joinedFacts Tryz.pinned.checked.prog 8 Tryz.f8 Rows.unpickMakesSpec Rows.unpickMakesRow = true := by
  unfold joinedFacts
  simp only [Bool.and_eq_true]
  exact ⟨⟨⟨⟨⟨⟨⟨⟨⟨⟨⟨⟨⟨⟨⟨⟨⟨⟨⟨⟨⟨⟨⟨⟨⟨⟨⟨⟨⟨⟨⟨fact0, fact1⟩, fact2⟩, fact3⟩, fact4⟩, fact5⟩, fact6⟩, fact7⟩, fact8⟩, fact9⟩, fact10⟩, fact11⟩, fact12⟩, fact13⟩, fact14⟩, fact15⟩, fact16⟩, fact17⟩, fact18⟩, fact19⟩, fact20⟩, fact21⟩, fact22⟩, fact23⟩, fact24⟩, fact25⟩, fact26⟩, fact27⟩, fact28⟩, fact29⟩, fact30⟩, fact31⟩
theorem closed3 : Tryz.f8.isInstance Tryz.pinned.checked.prog Rows.unpickMakesRow.origin Rows.unpickMakesRow.targs := of_decide_eq_true (by kernel_rfl)
theorem closed4 : Tryz.f8.isWrapper Tryz.pinned.checked.prog Rows.unpickMakesRow.wrapper Rows.unpickMakesRow.mainSum := by
  unfold Func.isWrapper
  rw [if_neg (by decide +kernel)]
  exact ⟨rfl, rfl⟩
end Go.Proofs.YtabliglgeiajlaaGreat.unpickMakes
