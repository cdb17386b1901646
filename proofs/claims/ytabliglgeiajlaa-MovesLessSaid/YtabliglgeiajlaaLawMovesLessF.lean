/- Closed facts of the row of MovesLess. -/
import Derived.Test.YtabliglgeiajlaaFx
set_option linter.unusedSimpArgs false
namespace Go.Proofs.Ytabliglgeiajlaa.movesLess
open Go Go.RowKit Go.Proofs
theorem fact0 : (Rows.movesLessRow.wf (OpenSpec.ofChange Rows.movesLessSpec)) = true := by kernel_rfl
theorem fact1 : (laidOutB Try.pinned.checked.prog) = true := Fx.fact1
theorem fact2 : (mapsRowed Try.pinned.checked.prog) = true := Fx.fact2
theorem fact3 : (Try.f18.params.all (Try.pinned.checked.prog.readableRec ·)) = true := by kernel_rfl
theorem fact4 : (namedTie Try.pinned.checked.prog Rows.movesLessRow.named Rows.movesLessSpec.vars) = true := by kernel_rfl
theorem fact5 : ((Rows.movesLessRow.stops == [])) = true := by kernel_rfl
theorem fact6 : ((Try.pinned.checked.prog.stops == [])) = true := Fx.fact6
theorem fact7 : ((Rows.movesLessRow.knobs == [])) = true := by kernel_rfl
theorem fact8 : ((Try.pinned.checked.prog.stopKnobs == [])) = true := Fx.fact8
theorem fact9 : ((Rows.movesLessRow.inPlace == Try.pinned.checked.prog.inPlace 18)) = true := by kernel_rfl
theorem fact10 : ((Rows.movesLessRow.unfollowed == Try.pinned.checked.prog.unfollowed 18)) = true := by kernel_rfl
theorem fact11 : ((Rows.movesLessRow.recurses == Try.pinned.checked.prog.recurses 18)) = true := by kernel_rfl
theorem fact12 : ((Rows.movesLessRow.named == Try.pinned.checked.prog.varsNamed 18)) = true := by kernel_rfl
theorem fact13 : ((Rows.movesLessRow.maps == (Try.f18.params.toList ++ Rows.movesLessSpec.plain.varTypes Try.pinned.checked.prog).any (Try.pinned.checked.prog.mapsRec ·))) = true := by kernel_rfl
theorem fact14 : ((Rows.movesLessRow.ifaces == (Try.f18.params.toList ++ Rows.movesLessSpec.plain.varTypes Try.pinned.checked.prog).any (Try.pinned.checked.prog.ifacesRec ·))) = true := by kernel_rfl
theorem fact15 : ((Rows.movesLessRow.mapsOut == Try.pinned.checked.prog.mapsAmong Try.f18.resultTypes.toList)) = true := by kernel_rfl
theorem fact16 : ((Rows.movesLessRow.loops == (Try.f18.params.toList ++ Rows.movesLessSpec.plain.varTypes Try.pinned.checked.prog).any (Try.pinned.checked.prog.loopsFrom ·))) = true := by kernel_rfl
theorem fact17 : ((Rows.movesLessRow.wideKeys == (Try.f18.params.toList ++ Rows.movesLessSpec.plain.varTypes Try.pinned.checked.prog ++ Try.f18.resultTypes.toList).any (Try.pinned.checked.prog.wideKeysFrom ·))) = true := by kernel_rfl
theorem fact18 : (Rows.movesLessSpec.vars.all (Try.pinned.checked.prog.varReadable ·)) = true := by kernel_rfl
theorem fact19 : (Try.f18.resultTypes.all (fun t => Try.pinned.checked.prog.readableRec t && decide (t < Try.pinned.checked.prog.types.size))) = true := by kernel_rfl
theorem fact20 : ((Rows.movesLessRow.ifacesOut == Try.f18.resultTypes.toList.any (Try.pinned.checked.prog.ifacesRec ·))) = true := by kernel_rfl
theorem fact21 : ((Rows.movesLessRow.loopsOut == Try.f18.resultTypes.toList.any (Try.pinned.checked.prog.loopsFrom ·))) = true := by kernel_rfl
theorem fact22 : ((Rows.movesLessRow.plainKeys == Try.pinned.checked.prog.plainKeys)) = true := Fx.fact22
theorem fact23 : (Rows.movesLessRow.shortTexts.isNone) = true := by kernel_rfl
theorem fact24 : (Try.pinned.checked.prog.stopsHeard) = true := Fx.fact24
theorem fact25 : (Try.pinned.checked.prog.mayEnter) = true := Fx.fact25
theorem fact26 : ((Rows.movesLessRow.lifted == Try.pinned.checked.prog.liftsFinal)) = true := Fx.fact26
theorem fact27 : ((Try.pinned.checked.prog.make == some Rows.movesLessRow.make)) = true := Fx.fact27
theorem fact28 : ((Rows.movesLessRow.kinds == (if Rows.movesLessRow.domain.isEmpty then [] else Try.f18.params.toList.map fun t => match Try.pinned.checked.prog.underlying t with | some (.int k) => some k | _ => none))) = true := by kernel_rfl
theorem fact29 : ((Rows.movesLessRow.pinned == Rows.movesLessRow.pinnedBy)) = true := by kernel_rfl
theorem fact30 : ((Rows.movesLessRow.veiled == (Try.f18.params.toList ++ Rows.movesLessSpec.plain.varTypes Try.pinned.checked.prog ++ Try.f18.resultTypes.toList).any (Try.pinned.checked.prog.veiledRec ·))) = true := by kernel_rfl
theorem fact31 : (Rows.movesLessRow.veiledFits Try.pinned.checked.prog Try.f18.params.toList (Try.f18.params.toList ++ Rows.movesLessSpec.plain.varTypes Try.pinned.checked.prog ++ Try.f18.resultTypes.toList)) = true := by kernel_rfl
theorem closed1 : Try.pinned.checked.prog.funcNamed Rows.movesLessRow.func = some 18 := by kernel_rfl
set_option maxRecDepth 100000 in
theorem closed2 : joinedFacts Try.pinned.checked.prog 18 Try.f18 Rows.movesLessSpec Rows.movesLessRow = true := by
  unfold joinedFacts
  simp only [Bool.and_eq_true]
  exact ⟨⟨⟨⟨⟨⟨⟨⟨⟨⟨⟨⟨⟨⟨⟨⟨⟨⟨⟨⟨⟨⟨⟨⟨⟨⟨⟨⟨⟨⟨⟨fact0, fact1⟩, fact2⟩, fact3⟩, fact4⟩, fact5⟩, fact6⟩, fact7⟩, fact8⟩, fact9⟩, fact10⟩, fact11⟩, fact12⟩, fact13⟩, fact14⟩, fact15⟩, fact16⟩, fact17⟩, fact18⟩, fact19⟩, fact20⟩, fact21⟩, fact22⟩, fact23⟩, fact24⟩, fact25⟩, fact26⟩, fact27⟩, fact28⟩, fact29⟩, fact30⟩, fact31⟩
theorem closed3 : Try.f18.isInstance Try.pinned.checked.prog Rows.movesLessRow.origin Rows.movesLessRow.targs := of_decide_eq_true (by kernel_rfl)
theorem closed4 : Try.f18.isWrapper Try.pinned.checked.prog Rows.movesLessRow.wrapper Rows.movesLessRow.mainSum := by
  unfold Func.isWrapper
  rw [if_neg (by decide +kernel)]
  exact ⟨rfl, rfl⟩
end Go.Proofs.Ytabliglgeiajlaa.movesLess
