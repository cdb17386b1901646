/- Closed facts of the row of OrderMakes. -/
import Derived.Test.YtabliglgeiajlaaFx
set_option linter.unusedSimpArgs false
namespace Go.Proofs.Ytabliglgeiajlaa.orderMakes
open Go Go.RowKit Go.Proofs
theorem fact0 : (Rows.orderMakesRow.wf (OpenSpec.ofChange Rows.orderMakesSpec)) = true := by kernel_rfl
theorem fact1 : (laidOutB Try.pinned.checked.prog) = true := Fx.fact1
theorem fact2 : (mapsRowed Try.pinned.checked.prog) = true := Fx.fact2
theorem fact3 : (Try.f3.params.all (Try.pinned.checked.prog.readableRec ·)) = true := by kernel_rfl
theorem fact4 : (namedTie Try.pinned.checked.prog Rows.orderMakesRow.named Rows.orderMakesSpec.vars) = true := by kernel_rfl
theorem fact5 : ((Rows.orderMakesRow.stops == [])) = true := by kernel_rfl
theorem fact6 : ((Try.pinned.checked.prog.stops == [])) = true := Fx.fact6
theorem fact7 : ((Rows.orderMakesRow.knobs == [])) = true := by kernel_rfl
theorem fact8 : ((Try.pinned.checked.prog.stopKnobs == [])) = true := Fx.fact8
theorem fact9 : ((Rows.orderMakesRow.inPlace == Try.pinned.checked.prog.inPlace 3)) = true := by kernel_rfl
theorem fact10 : ((Rows.orderMakesRow.unfollowed == Try.pinned.checked.prog.unfollowed 3)) = true := by kernel_rfl
theorem fact11 : ((Rows.orderMakesRow.recurses == Try.pinned.checked.prog.recurses 3)) = true := by kernel_rfl
theorem fact12 : ((Rows.orderMakesRow.named == Try.pinned.checked.prog.varsNamed 3)) = true := by kernel_rfl
theorem fact13 : ((Rows.orderMakesRow.maps == (Try.f3.params.toList ++ Rows.orderMakesSpec.plain.varTypes Try.pinned.checked.prog).any (Try.pinned.checked.prog.mapsRec ·))) = true := by kernel_rfl
theorem fact14 : ((Rows.orderMakesRow.ifaces == (Try.f3.params.toList ++ Rows.orderMakesSpec.plain.varTypes Try.pinned.checked.prog).any (Try.pinned.checked.prog.ifacesRec ·))) = true := by kernel_rfl
theorem fact15 : ((Rows.orderMakesRow.mapsOut == Try.pinned.checked.prog.mapsAmong Try.f3.resultTypes.toList)) = true := by kernel_rfl
theorem fact16 : ((Rows.orderMakesRow.loops == (Try.f3.params.toList ++ Rows.orderMakesSpec.plain.varTypes Try.pinned.checked.prog).any (Try.pinned.checked.prog.loopsFrom ·))) = true := by kernel_rfl
theorem fact17 : ((Rows.orderMakesRow.wideKeys == (Try.f3.params.toList ++ Rows.orderMakesSpec.plain.varTypes Try.pinned.checked.prog ++ Try.f3.resultTypes.toList).any (Try.pinned.checked.prog.wideKeysFrom ·))) = true := by kernel_rfl
theorem fact18 : (Rows.orderMakesSpec.vars.all (Try.pinned.checked.prog.varReadable ·)) = true := by kernel_rfl
theorem fact19 : (Try.f3.resultTypes.all (fun t => Try.pinned.checked.prog.readableRec t && decide (t < Try.pinned.checked.prog.types.size))) = true := by kernel_rfl
theorem fact20 : ((Rows.orderMakesRow.ifacesOut == Try.f3.resultTypes.toList.any (Try.pinned.checked.prog.ifacesRec ·))) = true := by kernel_rfl
theorem fact21 : ((Rows.orderMakesRow.loopsOut == Try.f3.resultTypes.toList.any (Try.pinned.checked.prog.loopsFrom ·))) = true := by kernel_rfl
theorem fact22 : ((Rows.orderMakesRow.plainKeys == Try.pinned.checked.prog.plainKeys)) = true := Fx.fact22
theorem fact23 : (Rows.orderMakesRow.shortTexts.isNone) = true := by kernel_rfl
theorem fact24 : (Try.pinned.checked.prog.stopsHeard) = true := Fx.fact24
theorem fact25 : (Try.pinned.checked.prog.mayEnter) = true := Fx.fact25
theorem fact26 : ((Rows.orderMakesRow.lifted == Try.pinned.checked.prog.liftsFinal)) = true := Fx.fact26
theorem fact27 : ((Try.pinned.checked.prog.make == some Rows.orderMakesRow.make)) = true := Fx.fact27
theorem fact28 : ((Rows.orderMakesRow.kinds == (if Rows.orderMakesRow.domain.isEmpty then [] else Try.f3.params.toList.map fun t => match Try.pinned.checked.prog.underlying t with | some (.int k) => some k | _ => none))) = true := by kernel_rfl
theorem fact29 : ((Rows.orderMakesRow.pinned == Rows.orderMakesRow.pinnedBy)) = true := by kernel_rfl
theorem fact30 : ((Rows.orderMakesRow.veiled == (Try.f3.params.toList ++ Rows.orderMakesSpec.plain.varTypes Try.pinned.checked.prog ++ Try.f3.resultTypes.toList).any (Try.pinned.checked.prog.veiledRec ·))) = true := by kernel_rfl
theorem fact31 : (Rows.orderMakesRow.veiledFits Try.pinned.checked.prog Try.f3.params.toList (Try.f3.params.toList ++ Rows.orderMakesSpec.plain.varTypes Try.pinned.checked.prog ++ Try.f3.resultTypes.toList)) = true := by kernel_rfl
theorem closed1 : Try.pinned.checked.prog.funcNamed Rows.orderMakesRow.func = some 3 := by kernel_rfl
set_option maxRecDepth 100000 in
theorem closed2 : joinedFacts Try.pinned.checked.prog 3 Try.f3 Rows.orderMakesSpec Rows.orderMakesRow = true := by
  unfold joinedFacts
  simp only [Bool.and_eq_true]
  exact ⟨⟨⟨⟨⟨⟨⟨⟨⟨⟨⟨⟨⟨⟨⟨⟨⟨⟨⟨⟨⟨⟨⟨⟨⟨⟨⟨⟨⟨⟨⟨fact0, fact1⟩, fact2⟩, fact3⟩, fact4⟩, fact5⟩, fact6⟩, fact7⟩, fact8⟩, fact9⟩, fact10⟩, fact11⟩, fact12⟩, fact13⟩, fact14⟩, fact15⟩, fact16⟩, fact17⟩, fact18⟩, fact19⟩, fact20⟩, fact21⟩, fact22⟩, fact23⟩, fact24⟩, fact25⟩, fact26⟩, fact27⟩, fact28⟩, fact29⟩, fact30⟩, fact31⟩
theorem closed3 : Try.f3.isInstance Try.pinned.checked.prog Rows.orderMakesRow.origin Rows.orderMakesRow.targs := of_decide_eq_true (by kernel_rfl)
theorem closed4 : Try.f3.isWrapper Try.pinned.checked.prog Rows.orderMakesRow.wrapper Rows.orderMakesRow.mainSum := by
  unfold Func.isWrapper
  rw [if_neg (by decide +kernel)]
  exact ⟨rfl, rfl⟩
end Go.Proofs.Ytabliglgeiajlaa.orderMakes
