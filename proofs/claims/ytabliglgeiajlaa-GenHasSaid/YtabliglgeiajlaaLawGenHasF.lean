/- Closed facts of the row of GenHas. -/
import Derived.Test.YtabliglgeiajlaaFx
set_option linter.unusedSimpArgs false
namespace Go.Proofs.Ytabliglgeiajlaa.genHas
open Go Go.RowKit Go.Proofs
theorem fact0 : (Rows.genHasRow.wf (OpenSpec.ofChange Rows.genHasSpec)) = true := by kernel_rfl
theorem fact1 : (laidOutB Try.pinned.checked.prog) = true := Fx.fact1
theorem fact2 : (mapsRowed Try.pinned.checked.prog) = true := Fx.fact2
theorem fact3 : (Try.f15.params.all (Try.pinned.checked.prog.readableRec ·)) = true := by kernel_rfl
theorem fact4 : (namedTie Try.pinned.checked.prog Rows.genHasRow.named Rows.genHasSpec.vars) = true := by kernel_rfl
theorem fact5 : ((Rows.genHasRow.stops == [])) = true := by kernel_rfl
theorem fact6 : ((Try.pinned.checked.prog.stops == [])) = true := Fx.fact6
theorem fact7 : ((Rows.genHasRow.knobs == [])) = true := by kernel_rfl
theorem fact8 : ((Try.pinned.checked.prog.stopKnobs == [])) = true := Fx.fact8
theorem fact9 : ((Rows.genHasRow.inPlace == Try.pinned.checked.prog.inPlace 15)) = true := by kernel_rfl
theorem fact10 : ((Rows.genHasRow.unfollowed == Try.pinned.checked.prog.unfollowed 15)) = true := by kernel_rfl
theorem fact11 : ((Rows.genHasRow.recurses == Try.pinned.checked.prog.recurses 15)) = true := by kernel_rfl
theorem fact12 : ((Rows.genHasRow.named == Try.pinned.checked.prog.varsNamed 15)) = true := by kernel_rfl
theorem fact13 : ((Rows.genHasRow.maps == (Try.f15.params.toList ++ Rows.genHasSpec.plain.varTypes Try.pinned.checked.prog).any (Try.pinned.checked.prog.mapsRec ·))) = true := by kernel_rfl
theorem fact14 : ((Rows.genHasRow.ifaces == (Try.f15.params.toList ++ Rows.genHasSpec.plain.varTypes Try.pinned.checked.prog).any (Try.pinned.checked.prog.ifacesRec ·))) = true := by kernel_rfl
theorem fact15 : ((Rows.genHasRow.mapsOut == Try.pinned.checked.prog.mapsAmong Try.f15.resultTypes.toList)) = true := by kernel_rfl
theorem fact16 : ((Rows.genHasRow.loops == (Try.f15.params.toList ++ Rows.genHasSpec.plain.varTypes Try.pinned.checked.prog).any (Try.pinned.checked.prog.loopsFrom ·))) = true := by kernel_rfl
theorem fact17 : ((Rows.genHasRow.wideKeys == (Try.f15.params.toList ++ Rows.genHasSpec.plain.varTypes Try.pinned.checked.prog ++ Try.f15.resultTypes.toList).any (Try.pinned.checked.prog.wideKeysFrom ·))) = true := by kernel_rfl
theorem fact18 : (Rows.genHasSpec.vars.all (Try.pinned.checked.prog.varReadable ·)) = true := by kernel_rfl
theorem fact19 : (Try.f15.resultTypes.all (fun t => Try.pinned.checked.prog.readableRec t && decide (t < Try.pinned.checked.prog.types.size))) = true := by kernel_rfl
theorem fact20 : ((Rows.genHasRow.ifacesOut == Try.f15.resultTypes.toList.any (Try.pinned.checked.prog.ifacesRec ·))) = true := by kernel_rfl
theorem fact21 : ((Rows.genHasRow.loopsOut == Try.f15.resultTypes.toList.any (Try.pinned.checked.prog.loopsFrom ·))) = true := by kernel_rfl
theorem fact22 : ((Rows.genHasRow.plainKeys == Try.pinned.checked.prog.plainKeys)) = true := Fx.fact22
theorem fact23 : (Rows.genHasRow.shortTexts.isNone) = true := by kernel_rfl
theorem fact24 : (Try.pinned.checked.prog.stopsHeard) = true := Fx.fact24
theorem fact25 : (Try.pinned.checked.prog.mayEnter) = true := Fx.fact25
theorem fact26 : ((Rows.genHasRow.lifted == Try.pinned.checked.prog.liftsFinal)) = true := Fx.fact26
theorem fact27 : ((Try.pinned.checked.prog.make == some Rows.genHasRow.make)) = true := Fx.fact27
theorem fact28 : ((Rows.genHasRow.kinds == (if Rows.genHasRow.domain.isEmpty then [] else Try.f15.params.toList.map fun t => match Try.pinned.checked.prog.underlying t with | some (.int k) => some k | _ => none))) = true := by kernel_rfl
theorem fact29 : ((Rows.genHasRow.pinned == Rows.genHasRow.pinnedBy)) = true := by kernel_rfl
theorem fact30 : ((Rows.genHasRow.veiled == (Try.f15.params.toList ++ Rows.genHasSpec.plain.varTypes Try.pinned.checked.prog ++ Try.f15.resultTypes.toList).any (Try.pinned.checked.prog.veiledRec ·))) = true := by kernel_rfl
theorem fact31 : (Rows.genHasRow.veiledFits Try.pinned.checked.prog Try.f15.params.toList (Try.f15.params.toList ++ Rows.genHasSpec.plain.varTypes Try.pinned.checked.prog ++ Try.f15.resultTypes.toList)) = true := by kernel_rfl
theorem closed1 : Try.pinned.checked.prog.funcNamed Rows.genHasRow.func = some 15 := by kernel_rfl
set_option maxRecDepth 100000 in
theorem closed2 : joinedFacts Try.pinned.checked.prog 15 Try.f15 Rows.genHasSpec Rows.genHasRow = true := by
  unfold joinedFacts
  simp only [Bool.and_eq_true]
  exact ⟨⟨⟨⟨⟨⟨⟨⟨⟨⟨⟨⟨⟨⟨⟨⟨⟨⟨⟨⟨⟨⟨⟨⟨⟨⟨⟨⟨⟨⟨⟨fact0, fact1⟩, fact2⟩, fact3⟩, fact4⟩, fact5⟩, fact6⟩, fact7⟩, fact8⟩, fact9⟩, fact10⟩, fact11⟩, fact12⟩, fact13⟩, fact14⟩, fact15⟩, fact16⟩, fact17⟩, fact18⟩, fact19⟩, fact20⟩, fact21⟩, fact22⟩, fact23⟩, fact24⟩, fact25⟩, fact26⟩, fact27⟩, fact28⟩, fact29⟩, fact30⟩, fact31⟩
theorem closed3 : Try.f15.isInstance Try.pinned.checked.prog Rows.genHasRow.origin Rows.genHasRow.targs := of_decide_eq_true (by kernel_rfl)
theorem closed4 : Try.f15.isWrapper Try.pinned.checked.prog Rows.genHasRow.wrapper Rows.genHasRow.mainSum := by
  unfold Func.isWrapper
  rw [if_neg (by decide +kernel)]
  exact ⟨rfl, rfl⟩
end Go.Proofs.Ytabliglgeiajlaa.genHas
