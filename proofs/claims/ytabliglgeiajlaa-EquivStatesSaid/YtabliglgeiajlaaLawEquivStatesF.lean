/- Closed facts of the row of EquivStates. -/
import Derived.Test.YtabliglgeiajlaaFx
set_option linter.unusedSimpArgs false
namespace Go.Proofs.Ytabliglgeiajlaa.equivStates
open Go Go.RowKit Go.Proofs
theorem fact0 : (Rows.equivStatesRow.wf (OpenSpec.ofChange Rows.equivStatesSpec)) = true := by kernel_rfl
theorem fact1 : (laidOutB Try.pinned.checked.prog) = true := Fx.fact1
theorem fact2 : (mapsRowed Try.pinned.checked.prog) = true := Fx.fact2
theorem fact3 : (Try.f13.params.all (Try.pinned.checked.prog.readableRec ·)) = true := by kernel_rfl
theorem fact4 : (namedTie Try.pinned.checked.prog Rows.equivStatesRow.named Rows.equivStatesSpec.vars) = true := by kernel_rfl
theorem fact5 : ((Rows.equivStatesRow.stops == [])) = true := by kernel_rfl
theorem fact6 : ((Try.pinned.checked.prog.stops == [])) = true := Fx.fact6
theorem fact7 : ((Rows.equivStatesRow.knobs == [])) = true := by kernel_rfl
theorem fact8 : ((Try.pinned.checked.prog.stopKnobs == [])) = true := Fx.fact8
theorem fact9 : ((Rows.equivStatesRow.inPlace == Try.pinned.checked.prog.inPlace 13)) = true := by kernel_rfl
theorem fact10 : ((Rows.equivStatesRow.unfollowed == Try.pinned.checked.prog.unfollowed 13)) = true := by kernel_rfl
theorem fact11 : ((Rows.equivStatesRow.recurses == Try.pinned.checked.prog.recurses 13)) = true := by kernel_rfl
theorem fact12 : ((Rows.equivStatesRow.named == Try.pinned.checked.prog.varsNamed 13)) = true := by kernel_rfl
theorem fact13 : ((Rows.equivStatesRow.maps == (Try.f13.params.toList ++ Rows.equivStatesSpec.plain.varTypes Try.pinned.checked.prog).any (Try.pinned.checked.prog.mapsRec ·))) = true := by kernel_rfl
theorem fact14 : ((Rows.equivStatesRow.ifaces == (Try.f13.params.toList ++ Rows.equivStatesSpec.plain.varTypes Try.pinned.checked.prog).any (Try.pinned.checked.prog.ifacesRec ·))) = true := by kernel_rfl
theorem fact15 : ((Rows.equivStatesRow.mapsOut == Try.pinned.checked.prog.mapsAmong Try.f13.resultTypes.toList)) = true := by kernel_rfl
theorem fact16 : ((Rows.equivStatesRow.loops == (Try.f13.params.toList ++ Rows.equivStatesSpec.plain.varTypes Try.pinned.checked.prog).any (Try.pinned.checked.prog.loopsFrom ·))) = true := by kernel_rfl
theorem fact17 : ((Rows.equivStatesRow.wideKeys == (Try.f13.params.toList ++ Rows.equivStatesSpec.plain.varTypes Try.pinned.checked.prog ++ Try.f13.resultTypes.toList).any (Try.pinned.checked.prog.wideKeysFrom ·))) = true := by kernel_rfl
theorem fact18 : (Rows.equivStatesSpec.vars.all (Try.pinned.checked.prog.varReadable ·)) = true := by kernel_rfl
theorem fact19 : (Try.f13.resultTypes.all (fun t => Try.pinned.checked.prog.readableRec t && decide (t < Try.pinned.checked.prog.types.size))) = true := by kernel_rfl
theorem fact20 : ((Rows.equivStatesRow.ifacesOut == Try.f13.resultTypes.toList.any (Try.pinned.checked.prog.ifacesRec ·))) = true := by kernel_rfl
theorem fact21 : ((Rows.equivStatesRow.loopsOut == Try.f13.resultTypes.toList.any (Try.pinned.checked.prog.loopsFrom ·))) = true := by kernel_rfl
theorem fact22 : ((Rows.equivStatesRow.plainKeys == Try.pinned.checked.prog.plainKeys)) = true := Fx.fact22
theorem fact23 : (Rows.equivStatesRow.shortTexts.isNone) = true := by kernel_rfl
theorem fact24 : (Try.pinned.checked.prog.stopsHeard) = true := Fx.fact24
theorem fact25 : (Try.pinned.checked.prog.mayEnter) = true := Fx.fact25
theorem fact26 : ((Rows.equivStatesRow.lifted == Try.pinned.checked.prog.liftsFinal)) = true := Fx.fact26
theorem fact27 : ((Try.pinned.checked.prog.make == some Rows.equivStatesRow.make)) = true := Fx.fact27
theorem fact28 : ((Rows.equivStatesRow.kinds == (if Rows.equivStatesRow.domain.isEmpty then [] else Try.f13.params.toList.map fun t => match Try.pinned.checked.prog.underlying t with | some (.int k) => some k | _ => none))) = true := by kernel_rfl
theorem fact29 : ((Rows.equivStatesRow.pinned == Rows.equivStatesRow.pinnedBy)) = true := by kernel_rfl
theorem fact30 : ((Rows.equivStatesRow.veiled == (Try.f13.params.toList ++ Rows.equivStatesSpec.plain.varTypes Try.pinned.checked.prog ++ Try.f13.resultTypes.toList).any (Try.pinned.checked.prog.veiledRec ·))) = true := by kernel_rfl
theorem fact31 : (Rows.equivStatesRow.veiledFits Try.pinned.checked.prog Try.f13.params.toList (Try.f13.params.toList ++ Rows.equivStatesSpec.plain.varTypes Try.pinned.checked.prog ++ Try.f13.resultTypes.toList)) = true := by kernel_rfl
theorem closed1 : Try.pinned.checked.prog.funcNamed Rows.equivStatesRow.func = some 13 := by kernel_rfl
set_option maxRecDepth 100000 in
theorem closed2 : joinedFacts Try.pinned.checked.prog 13 Try.f13 Rows.equivStatesSpec Rows.equivStatesRow = true := by
  unfold joinedFacts
  simp only [Bool.and_eq_true]
  exact ⟨⟨⟨⟨⟨⟨⟨⟨⟨⟨⟨⟨⟨⟨⟨⟨⟨⟨⟨⟨⟨⟨⟨⟨⟨⟨⟨⟨⟨⟨⟨fact0, fact1⟩, fact2⟩, fact3⟩, fact4⟩, fact5⟩, fact6⟩, fact7⟩, fact8⟩, fact9⟩, fact10⟩, fact11⟩, fact12⟩, fact13⟩, fact14⟩, fact15⟩, fact16⟩, fact17⟩, fact18⟩, fact19⟩, fact20⟩, fact21⟩, fact22⟩, fact23⟩, fact24⟩, fact25⟩, fact26⟩, fact27⟩, fact28⟩, fact29⟩, fact30⟩, fact31⟩
theorem closed3 : Try.f13.isInstance Try.pinned.checked.prog Rows.equivStatesRow.origin Rows.equivStatesRow.targs := of_decide_eq_true (by kernel_rfl)
theorem closed4 : Try.f13.isWrapper Try.pinned.checked.prog Rows.equivStatesRow.wrapper Rows.equivStatesRow.mainSum := by
  unfold Func.isWrapper
  rw [if_neg (by decide +kernel)]
  exact ⟨rfl, rfl⟩
end Go.Proofs.Ytabliglgeiajlaa.equivStates
