/- Closed facts of the row of PickWeighted. -/
import Derived.Test.YtabliglgeiajlaaFx
set_option linter.unusedSimpArgs false
namespace Go.Proofs.Ytabliglgeiajlaa.pickWeighted
open Go Go.RowKit Go.Proofs
theorem fact0 : (Rows.pickWeightedRow.wf (OpenSpec.ofChange Rows.pickWeightedSpec)) = true := by kernel_rfl
theorem fact1 : (laidOutB Try.pinned.checked.prog) = true := Fx.fact1
theorem fact2 : (mapsRowed Try.pinned.checked.prog) = true := Fx.fact2
theorem fact3 : (Try.f6.params.all (Try.pinned.checked.prog.readableRec ·)) = true := by kernel_rfl
theorem fact4 : (namedTie Try.pinned.checked.prog Rows.pickWeightedRow.named Rows.pickWeightedSpec.vars) = true := by kernel_rfl
theorem fact5 : ((Rows.pickWeightedRow.stops == [])) = true := by kernel_rfl
theorem fact6 : ((Try.pinned.checked.prog.stops == [])) = true := Fx.fact6
theorem fact7 : ((Rows.pickWeightedRow.knobs == [])) = true := by kernel_rfl
theorem fact8 : ((Try.pinned.checked.prog.stopKnobs == [])) = true := Fx.fact8
theorem fact9 : ((Rows.pickWeightedRow.inPlace == Try.pinned.checked.prog.inPlace 6)) = true := by kernel_rfl
theorem fact10 : ((Rows.pickWeightedRow.unfollowed == Try.pinned.checked.prog.unfollowed 6)) = true := by kernel_rfl
theorem fact11 : ((Rows.pickWeightedRow.recurses == Try.pinned.checked.prog.recurses 6)) = true := by kernel_rfl
theorem fact12 : ((Rows.pickWeightedRow.named == Try.pinned.checked.prog.varsNamed 6)) = true := by kernel_rfl
theorem fact13 : ((Rows.pickWeightedRow.maps == (Try.f6.params.toList ++ Rows.pickWeightedSpec.plain.varTypes Try.pinned.checked.prog).any (Try.pinned.checked.prog.mapsRec ·))) = true := by kernel_rfl
theorem fact14 : ((Rows.pickWeightedRow.ifaces == (Try.f6.params.toList ++ Rows.pickWeightedSpec.plain.varTypes Try.pinned.checked.prog).any (Try.pinned.checked.prog.ifacesRec ·))) = true := by kernel_rfl
theorem fact15 : ((Rows.pickWeightedRow.mapsOut == Try.pinned.checked.prog.mapsAmong Try.f6.resultTypes.toList)) = true := by kernel_rfl
theorem fact16 : ((Rows.pickWeightedRow.loops == (Try.f6.params.toList ++ Rows.pickWeightedSpec.plain.varTypes Try.pinned.checked.prog).any (Try.pinned.checked.prog.loopsFrom ·))) = true := by kernel_rfl
theorem fact17 : ((Rows.pickWeightedRow.wideKeys == (Try.f6.params.toList ++ Rows.pickWeightedSpec.plain.varTypes Try.pinned.checked.prog ++ Try.f6.resultTypes.toList).any (Try.pinned.checked.prog.wideKeysFrom ·))) = true := by kernel_rfl
theorem fact18 : (Rows.pickWeightedSpec.vars.all (Try.pinned.checked.prog.varReadable ·)) = true := by kernel_rfl
theorem fact19 : (Try.f6.resultTypes.all (fun t => Try.pinned.checked.prog.readableRec t && decide (t < Try.pinned.checked.prog.types.size))) = true := by kernel_rfl
theorem fact20 : ((Rows.pickWeightedRow.ifacesOut == Try.f6.resultTypes.toList.any (Try.pinned.checked.prog.ifacesRec ·))) = true := by kernel_rfl
theorem fact21 : ((Rows.pickWeightedRow.loopsOut == Try.f6.resultTypes.toList.any (Try.pinned.checked.prog.loopsFrom ·))) = true := by kernel_rfl
theorem fact22 : ((Rows.pickWeightedRow.plainKeys == Try.pinned.checked.prog.plainKeys)) = true := Fx.fact22
theorem fact23 : (Rows.pickWeightedRow.shortTexts.isNone) = true := by kernel_rfl
theorem fact24 : (Try.pinned.checked.prog.stopsHeard) = true := Fx.fact24
theorem fact25 : (Try.pinned.checked.prog.mayEnter) = true := Fx.fact25
theorem fact26 : ((Rows.pickWeightedRow.lifted == Try.pinned.checked.prog.liftsFinal)) = true := Fx.fact26
theorem fact27 : ((Try.pinned.checked.prog.make == some Rows.pickWeightedRow.make)) = true := Fx.fact27
theorem fact28 : ((Rows.pickWeightedRow.kinds == (if Rows.pickWeightedRow.domain.isEmpty then [] else Try.f6.params.toList.map fun t => match Try.pinned.checked.prog.underlying t with | some (.int k) => some k | _ => none))) = true := by kernel_rfl
theorem fact29 : ((Rows.pickWeightedRow.pinned == Rows.pickWeightedRow.pinnedBy)) = true := by kernel_rfl
theorem fact30 : ((Rows.pickWeightedRow.veiled == (Try.f6.params.toList ++ Rows.pickWeightedSpec.plain.varTypes Try.pinned.checked.prog ++ Try.f6.resultTypes.toList).any (Try.pinned.checked.prog.veiledRec ·))) = true := by kernel_rfl
theorem fact31 : (Rows.pickWeightedRow.veiledFits Try.pinned.checked.prog Try.f6.params.toList (Try.f6.params.toList ++ Rows.pickWeightedSpec.plain.varTypes Try.pinned.checked.prog ++ Try.f6.resultTypes.toList)) = true := by kernel_rfl
theorem closed1 : Try.pinned.checked.prog.funcNamed Rows.pickWeightedRow.func = some 6 := by kernel_rfl
set_option maxRecDepth 100000 in
theorem closed2 : joinedFacts Try.pinned.checked.prog 6 Try.f6 Rows.pickWeightedSpec Rows.pickWeightedRow = true := by
  unfold joinedFacts
  simp only [Bool.and_eq_true]
  exact ⟨⟨⟨⟨⟨⟨⟨⟨⟨⟨⟨⟨⟨⟨⟨⟨⟨⟨⟨⟨⟨⟨⟨⟨⟨⟨⟨⟨⟨⟨⟨fact0, fact1⟩, fact2⟩, fact3⟩, fact4⟩, fact5⟩, fact6⟩, fact7⟩, fact8⟩, fact9⟩, fact10⟩, fact11⟩, fact12⟩, fact13⟩, fact14⟩, fact15⟩, fact16⟩, fact17⟩, fact18⟩, fact19⟩, fact20⟩, fact21⟩, fact22⟩, fact23⟩, fact24⟩, fact25⟩, fact26⟩, fact27⟩, fact28⟩, fact29⟩, fact30⟩, fact31⟩
theorem closed3 : Try.f6.isInstance Try.pinned.checked.prog Rows.pickWeightedRow.origin Rows.pickWeightedRow.targs := of_decide_eq_true (by kernel_rfl)
theorem closed4 : Try.f6.isWrapper Try.pinned.checked.prog Rows.pickWeightedRow.wrapper Rows.pickWeightedRow.mainSum := by
  unfold Func.isWrapper
  rw [if_neg (by decide +kernel)]
  exact ⟨rfl, rfl⟩
end Go.Proofs.Ytabliglgeiajlaa.pickWeighted
