/- Closed facts of the row of SeqStays. -/
import Derived.Test.YtabliglgeiajlaaFx
set_option linter.unusedSimpArgs false
namespace Go.Proofs.Ytabliglgeiajlaa.seqStays
open Go Go.RowKit Go.Proofs
theorem fact0 : (Rows.seqStaysRow.wf (OpenSpec.ofChange Rows.seqStaysSpec)) = true := by kernel_rfl
theorem fact1 : (laidOutB Try.pinned.checked.prog) = true := Fx.fact1
theorem fact2 : (mapsRowed Try.pinned.checked.prog) = true := Fx.fact2
theorem fact3 : (Try.f17.params.all (Try.pinned.checked.prog.readableRec ·)) = true := by kernel_rfl
theorem fact4 : (namedTie Try.pinned.checked.prog Rows.seqStaysRow.named Rows.seqStaysSpec.vars) = true := by kernel_rfl
theorem fact5 : ((Rows.seqStaysRow.stops == [])) = true := by kernel_rfl
theorem fact6 : ((Try.pinned.checked.prog.stops == [])) = true := Fx.fact6
theorem fact7 : ((Rows.seqStaysRow.knobs == [])) = true := by kernel_rfl
theorem fact8 : ((Try.pinned.checked.prog.stopKnobs == [])) = true := Fx.fact8
theorem fact9 : ((Rows.seqStaysRow.inPlace == Try.pinned.checked.prog.inPlace 17)) = true := by kernel_rfl
theorem fact10 : ((Rows.seqStaysRow.unfollowed == Try.pinned.checked.prog.unfollowed 17)) = true := by kernel_rfl
theorem fact11 : ((Rows.seqStaysRow.recurses == Try.pinned.checked.prog.recurses 17)) = true := by kernel_rfl
theorem fact12 : ((Rows.seqStaysRow.named == Try.pinned.checked.prog.varsNamed 17)) = true := by kernel_rfl
theorem fact13 : ((Rows.seqStaysRow.maps == (Try.f17.params.toList ++ Rows.seqStaysSpec.plain.varTypes Try.pinned.checked.prog).any (Try.pinned.checked.prog.mapsRec ·))) = true := by kernel_rfl
theorem fact14 : ((Rows.seqStaysRow.ifaces == (Try.f17.params.toList ++ Rows.seqStaysSpec.plain.varTypes Try.pinned.checked.prog).any (Try.pinned.checked.prog.ifacesRec ·))) = true := by kernel_rfl
theorem fact15 : ((Rows.seqStaysRow.mapsOut == Try.pinned.checked.prog.mapsAmong Try.f17.resultTypes.toList)) = true := by kernel_rfl
theorem fact16 : ((Rows.seqStaysRow.loops == (Try.f17.params.toList ++ Rows.seqStaysSpec.plain.varTypes Try.pinned.checked.prog).any (Try.pinned.checked.prog.loopsFrom ·))) = true := by kernel_rfl
theorem fact17 : ((Rows.seqStaysRow.wideKeys == (Try.f17.params.toList ++ Rows.seqStaysSpec.plain.varTypes Try.pinned.checked.prog ++ Try.f17.resultTypes.toList).any (Try.pinned.checked.prog.wideKeysFrom ·))) = true := by kernel_rfl
theorem fact18 : (Rows.seqStaysSpec.vars.all (Try.pinned.checked.prog.varReadable ·)) = true := by kernel_rfl
theorem fact19 : (Try.f17.resultTypes.all (fun t => Try.pinned.checked.prog.readableRec t && decide (t < Try.pinned.checked.prog.types.size))) = true := by kernel_rfl
theorem fact20 : ((Rows.seqStaysRow.ifacesOut == Try.f17.resultTypes.toList.any (Try.pinned.checked.prog.ifacesRec ·))) = true := by kernel_rfl
theorem fact21 : ((Rows.seqStaysRow.loopsOut == Try.f17.resultTypes.toList.any (Try.pinned.checked.prog.loopsFrom ·))) = true := by kernel_rfl
theorem fact22 : ((Rows.seqStaysRow.plainKeys == Try.pinned.checked.prog.plainKeys)) = true := Fx.fact22
theorem fact23 : (Rows.seqStaysRow.shortTexts.isNone) = true := by kernel_rfl
theorem fact24 : (Try.pinned.checked.prog.stopsHeard) = true := Fx.fact24
theorem fact25 : (Try.pinned.checked.prog.mayEnter) = true := Fx.fact25
theorem fact26 : ((Rows.seqStaysRow.lifted == Try.pinned.checked.prog.liftsFinal)) = true := Fx.fact26
theorem fact27 : ((Try.pinned.checked.prog.make == some Rows.seqStaysRow.make)) = true := Fx.fact27
theorem fact28 : ((Rows.seqStaysRow.kinds == (if Rows.seqStaysRow.domain.isEmpty then [] else Try.f17.params.toList.map fun t => match Try.pinned.checked.prog.underlying t with | some (.int k) => some k | _ => none))) = true := by kernel_rfl
theorem fact29 : ((Rows.seqStaysRow.pinned == Rows.seqStaysRow.pinnedBy)) = true := by kernel_rfl
theorem fact30 : ((Rows.seqStaysRow.veiled == (Try.f17.params.toList ++ Rows.seqStaysSpec.plain.varTypes Try.pinned.checked.prog ++ Try.f17.resultTypes.toList).any (Try.pinned.checked.prog.veiledRec ·))) = true := by kernel_rfl
theorem fact31 : (Rows.seqStaysRow.veiledFits Try.pinned.checked.prog Try.f17.params.toList (Try.f17.params.toList ++ Rows.seqStaysSpec.plain.varTypes Try.pinned.checked.prog ++ Try.f17.resultTypes.toList)) = true := by kernel_rfl
theorem closed1 : Try.pinned.checked.prog.funcNamed Rows.seqStaysRow.func = some 17 := by kernel_rfl
set_option maxRecDepth 100000 in
theorem closed2 : joinedFacts Try.pinned.checked.prog 17 Try.f17 Rows.seqStaysSpec Rows.seqStaysRow = true := by
  unfold joinedFacts
  simp only [Bool.and_eq_true]
  exact ⟨⟨⟨⟨⟨⟨⟨⟨⟨⟨⟨⟨⟨⟨⟨⟨⟨⟨⟨⟨⟨⟨⟨⟨⟨⟨⟨⟨⟨⟨⟨fact0, fact1⟩, fact2⟩, fact3⟩, fact4⟩, fact5⟩, fact6⟩, fact7⟩, fact8⟩, fact9⟩, fact10⟩, fact11⟩, fact12⟩, fact13⟩, fact14⟩, fact15⟩, fact16⟩, fact17⟩, fact18⟩, fact19⟩, fact20⟩, fact21⟩, fact22⟩, fact23⟩, fact24⟩, fact25⟩, fact26⟩, fact27⟩, fact28⟩, fact29⟩, fact30⟩, fact31⟩
theorem closed3 : Try.f17.isInstance Try.pinned.checked.prog Rows.seqStaysRow.origin Rows.seqStaysRow.targs := of_decide_eq_true (by kernel_rfl)
theorem closed4 : Try.f17.isWrapper Try.pinned.checked.prog Rows.seqStaysRow.wrapper Rows.seqStaysRow.mainSum := by
  unfold Func.isWrapper
  rw [if_neg (by decide +kernel)]
  exact ⟨rfl, rfl⟩
end Go.Proofs.Ytabliglgeiajlaa.seqStays
