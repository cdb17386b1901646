/- Closed facts of the row of UnpickChoices. -/
import Derived.Test.YtabliglgeiajlaaGreatFx
set_option linter.unusedSimpArgs false
namespace Go.Proofs.YtabliglgeiajlaaGreat.unpickChoices
open Go Go.RowKit Go.Proofs
theorem fact0 : (Rows.unpickChoicesRow.wf (OpenSpec.ofChange Rows.unpickChoicesSpec)) = true := by kernel_rfl
theorem fact1 : (laidOutB Tryz.pinned.checked.prog) = true := Fx.fact1
theorem fact2 : (mapsRowed Tryz.pinned.checked.prog) = true := Fx.fact2
theorem fact3 : (Tryz.f6.params.all (Tryz.pinned.checked.prog.readableRec ·)) = true := by kernel_rfl
theorem fact4 : (namedTie Tryz.pinned.checked.prog Rows.unpickChoicesRow.named Rows.unpickChoicesSpec.vars) = true := by kernel_rfl
theorem fact5 : ((Rows.unpickChoicesRow.stops == [])) = true := by kernel_rfl
theorem fact6 : ((Tryz.pinned.checked.prog.stops == [])) = true := Fx.fact6
theorem fact7 : ((Rows.unpickChoicesRow.knobs == [])) = true := by kernel_rfl
theorem fact8 : ((Tryz.pinned.checked.prog.stopKnobs == [])) = true := Fx.fact8
theorem fact9 : ((Rows.unpickChoicesRow.inPlace == Tryz.pinned.checked.prog.inPlace 6)) = true := by kernel_rfl
theorem fact10 : ((Rows.unpickChoicesRow.unfollowed == Tryz.pinned.checked.prog.unfollowed 6)) = true := by kernel_rfl
theorem fact11 : ((Rows.unpickChoicesRow.recurses == Tryz.pinned.checked.prog.recurses 6)) = true := by kernel_rfl
theorem fact12 : ((Rows.unpickChoicesRow.named == Tryz.pinned.checked.prog.varsNamed 6)) = true := by kernel_rfl
theorem fact13 : ((Rows.unpickChoicesRow.maps == (Tryz.f6.params.toList ++ Rows.unpickChoicesSpec.plain.varTypes Tryz.pinned.checked.prog).any (Tryz.pinned.checked.prog.mapsRec ·))) = true := by kernel_rfl
theorem fact14 : ((Rows.unpickChoicesRow.ifaces == (Tryz.f6.params.toList ++ Rows.unpickChoicesSpec.plain.varTypes Tryz.pinned.checked.prog).any (Tryz.pinned.checked.prog.ifacesRec ·))) = true := by kernel_rfl
theorem fact15 : ((Rows.unpickChoicesRow.mapsOut == Tryz.pinned.checked.prog.mapsAmong Tryz.f6.resultTypes.toList)) = true := by kernel_rfl
theorem fact16 : ((Rows.unpickChoicesRow.loops == (Tryz.f6.params.toList ++ Rows.unpickChoicesSpec.plain.varTypes Tryz.pinned.checked.prog).any (Tryz.pinned.checked.prog.loopsFrom ·))) = true := by kernel_rfl
theorem fact17 : ((Rows.unpickChoicesRow.wideKeys == (Tryz.f6.params.toList ++ Rows.unpickChoicesSpec.plain.varTypes Tryz.pinned.checked.prog ++ Tryz.f6.resultTypes.toList).any (Tryz.pinned.checked.prog.wideKeysFrom ·))) = true := by kernel_rfl
theorem fact18 : (Rows.unpickChoicesSpec.vars.all (Tryz.pinned.checked.prog.varReadable ·)) = true := by kernel_rfl
theorem fact19 : (Tryz.f6.resultTypes.all (fun t => Tryz.pinned.checked.prog.readableRec t && decide (t < Tryz.pinned.checked.prog.types.size))) = true := by kernel_rfl
theorem fact20 : ((Rows.unpickChoicesRow.ifacesOut == Tryz.f6.resultTypes.toList.any (Tryz.pinned.checked.prog.ifacesRec ·))) = true := by kernel_rfl
theorem fact21 : ((Rows.unpickChoicesRow.loopsOut == Tryz.f6.resultTypes.toList.any (Tryz.pinned.checked.prog.loopsFrom ·))) = true := by kernel_rfl
theorem fact22 : ((Rows.unpickChoicesRow.plainKeys == Tryz.pinned.checked.prog.plainKeys)) = true := Fx.fact22
theorem fact23 : (Rows.unpickChoicesRow.shortTexts.isNone) = true := by kernel_rfl
theorem fact24 : (Tryz.pinned.checked.prog.stopsHeard) = true := Fx.fact24
theorem fact25 : (Tryz.pinned.checked.prog.mayEnter) = true := Fx.fact25
theorem fact26 : ((Rows.unpickChoicesRow.lifted == Tryz.pinned.checked.prog.liftsFinal)) = true := Fx.fact26
theorem fact27 : ((Tryz.pinned.checked.prog.make == some Rows.unpickChoicesRow.make)) = true := Fx.fact27
theorem fact28 : ((Rows.unpickChoicesRow.kinds == (if Rows.unpickChoicesRow.domain.isEmpty then [] else Tryz.f6.params.toList.map fun t => match Tryz.pinned.checked.prog.underlying t with | some (.int k) => some k | _ => none))) = true := by kernel_rfl
theorem fact29 : ((Rows.unpickChoicesRow.pinned == Rows.unpickChoicesRow.pinnedBy)) = true := by kernel_rfl
theorem fact30 : ((Rows.unpickChoicesRow.veiled == (Tryz.f6.params.toList ++ Rows.unpickChoicesSpec.plain.varTypes Tryz.pinned.checked.prog ++ Tryz.f6.resultTypes.toList).any (Tryz.pinned.checked.prog.veiledRec ·))) = true := by kernel_rfl
theorem fact31 : (Rows.unpickChoicesRow.veiledFits Tryz.pinned.checked.prog Tryz.f6.params.toList (Tryz.f6.params.toList ++ Rows.unpickChoicesSpec.plain.varTypes Tryz.pinned.checked.prog ++ Tryz.f6.resultTypes.toList)) = true := by kernel_rfl
theorem closed1 : Tryz.pinned.checked.prog.funcNamed Rows.unpickChoicesRow.func = some 6 := by kernel_rfl
set_option maxRecDepth 100000 in
theorem closed2 : joinedFacts Tryz.pinned.checked.prog 6 Tryz.f6 Rows.unpickChoicesSpec Rows.unpickChoicesRow = true := by
  unfold joinedFacts
  simp only [Bool.and_eq_true]
  exact ⟨⟨⟨⟨⟨⟨⟨⟨⟨⟨⟨⟨⟨⟨⟨⟨⟨⟨⟨⟨⟨⟨⟨⟨⟨⟨⟨⟨⟨⟨⟨fact0, fact1⟩, fact2⟩, fact3⟩, fact4⟩, fact5⟩, fact6⟩, fact7⟩, fact8⟩, fact9⟩, fact10⟩, fact11⟩, fact12⟩, fact13⟩, fact14⟩, fact15⟩, fact16⟩, fact17⟩, fact18⟩, fact19⟩, fact20⟩, fact21⟩, fact22⟩, fact23⟩, fact24⟩, fact25⟩, fact26⟩, fact27⟩, fact28⟩, fact29⟩, fact30⟩, fact31⟩
theorem closed3 : Tryz.f6.isInstance Tryz.pinned.checked.prog Rows.unpickChoicesRow.origin Rows.unpickChoicesRow.targs := of_decide_eq_true (by kernel_rfl)
theorem closed4 : Tryz.f6.isWrapper Tryz.pinned.checked.prog Rows.unpickChoicesRow.wrapper Rows.unpickChoicesRow.mainSum := by
  unfold Func.isWrapper
  rw [if_neg (by decide +kernel)]
  exact ⟨rfl, rfl⟩
end Go.Proofs.YtabliglgeiajlaaGreat.unpickChoices
