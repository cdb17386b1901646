/- Closed facts of the row of VaryAlike. -/
import Derived.Test.YtabliglgeiajlaaGreatFx
set_option linter.unusedSimpArgs false
namespace Go.Proofs.YtabliglgeiajlaaGreat.varyAlike
open Go Go.RowKit Go.Proofs
theorem fact0 : (Rows.varyAlikeRow.wf (OpenSpec.ofChange Rows.varyAlikeSpec)) = true := by kernel_rfl
theorem fact1 : (laidOutB Tryz.pinned.checked.prog) = true := Fx.fact1
theorem fact2 : (mapsRowed Tryz.pinned.checked.prog) = true := Fx.fact2
theorem fact3 : (Tryz.f7.params.all (Tryz.pinned.checked.prog.readableRec ·)) = true := by kernel_rfl
theorem fact4 : (namedTie Tryz.pinned.checked.prog Rows.varyAlikeRow.named Rows.varyAlikeSpec.vars) = true := by kernel_rfl
theorem fact5 : ((Rows.varyAlikeRow.stops == [])) = true := by kernel_rfl
theorem fact6 : ((Tryz.pinned.checked.prog.stops == [])) = true := Fx.fact6
theorem fact7 : ((Rows.varyAlikeRow.knobs == [])) = true := by kernel_rfl
theorem fact8 : ((Tryz.pinned.checked.prog.stopKnobs == [])) = true := Fx.fact8
theorem fact9 : ((Rows.varyAlikeRow.inPlace == Tryz.pinned.checked.prog.inPlace 7)) = true := by kernel_rfl
theorem fact10 : ((Rows.varyAlikeRow.unfollowed == Tryz.pinned.checked.prog.unfollowed 7)) = true := by kernel_rfl
theorem fact11 : ((Rows.varyAlikeRow.recurses == Tryz.pinned.checked.prog.recurses 7)) = true := by kernel_rfl
theorem fact12 : ((Rows.varyAlikeRow.named == Tryz.pinned.checked.prog.varsNamed 7)) = true := by kernel_rfl
theorem fact13 : ((Rows.varyAlikeRow.maps == (Tryz.f7.params.toList ++ Rows.varyAlikeSpec.plain.varTypes Tryz.pinned.checked.prog).any (Tryz.pinned.checked.prog.mapsRec ·))) = true := by kernel_rfl
theorem fact14 : ((Rows.varyAlikeRow.ifaces == (Tryz.f7.params.toList ++ Rows.varyAlikeSpec.plain.varTypes Tryz.pinned.checked.prog).any (Tryz.pinned.checked.prog.ifacesRec ·))) = true := by kernel_rfl
theorem fact15 : ((Rows.varyAlikeRow.mapsOut == Tryz.pinned.checked.prog.mapsAmong Tryz.f7.resultTypes.toList)) = true := by kernel_rfl
theorem fact16 : ((Rows.varyAlikeRow.loops == (Tryz.f7.params.toList ++ Rows.varyAlikeSpec.plain.varTypes Tryz.pinned.checked.prog).any (Tryz.pinned.checked.prog.loopsFrom ·))) = true := by kernel_rfl
theorem fact17 : ((Rows.varyAlikeRow.wideKeys == (Tryz.f7.params.toList ++ Rows.varyAlikeSpec.plain.varTypes Tryz.pinned.checked.prog ++ Tryz.f7.resultTypes.toList).any (Tryz.pinned.checked.prog.wideKeysFrom ·))) = true := by kernel_rfl
theorem fact18 : (Rows.varyAlikeSpec.vars.all (Tryz.pinned.checked.prog.varReadable ·)) = true := by kernel_rfl
theorem fact19 : (Tryz.f7.resultTypes.all (fun t => Tryz.pinned.checked.prog.readableRec t && decide (t < Tryz.pinned.checked.prog.types.size))) = true := by kernel_rfl
theorem fact20 : ((Rows.varyAlikeRow.ifacesOut == Tryz.f7.resultTypes.toList.any (Tryz.pinned.checked.prog.ifacesRec ·))) = true := by kernel_rfl
theorem fact21 : ((Rows.varyAlikeRow.loopsOut == Tryz.f7.resultTypes.toList.any (Tryz.pinned.checked.prog.loopsFrom ·))) = true := by kernel_rfl
theorem fact22 : ((Rows.varyAlikeRow.plainKeys == Tryz.pinned.checked.prog.plainKeys)) = true := Fx.fact22
theorem fact23 : (Rows.varyAlikeRow.shortTexts.isNone) = true := by kernel_rfl
theorem fact24 : (Tryz.pinned.checked.prog.stopsHeard) = true := Fx.fact24
theorem fact25 : (Tryz.pinned.checked.prog.mayEnter) = true := Fx.fact25
theorem fact26 : ((Rows.varyAlikeRow.lifted == Tryz.pinned.checked.prog.liftsFinal)) = true := Fx.fact26
theorem fact27 : ((Tryz.pinned.checked.prog.make == some Rows.varyAlikeRow.make)) = true := Fx.fact27
theorem fact28 : ((Rows.varyAlikeRow.kinds == (if Rows.varyAlikeRow.domain.isEmpty then [] else Tryz.f7.params.toList.map fun t => match Tryz.pinned.checked.prog.underlying t with | some (.int k) => some k | _ => none))) = true := by kernel_rfl
theorem fact29 : ((Rows.varyAlikeRow.pinned == Rows.varyAlikeRow.pinnedBy)) = true := by kernel_rfl
theorem fact30 : ((Rows.varyAlikeRow.veiled == (Tryz.f7.params.toList ++ Rows.varyAlikeSpec.plain.varTypes Tryz.pinned.checked.prog ++ Tryz.f7.resultTypes.toList).any (Tryz.pinned.checked.prog.veiledRec ·))) = true := by kernel_rfl
theorem fact31 : (Rows.varyAlikeRow.veiledFits Tryz.pinned.checked.prog Tryz.f7.params.toList (Tryz.f7.params.toList ++ Rows.varyAlikeSpec.plain.varTypes Tryz.pinned.checked.prog ++ Tryz.f7.resultTypes.toList)) = true := by kernel_rfl
theorem closed1 : Tryz.pinned.checked.prog.funcNamed Rows.varyAlikeRow.func = some 7 := by kernel_rfl
set_option maxRecDepth 100000 in
theorem closed2 : joinedFacts Tryz.pinned.checked.prog 7 Tryz.f7 Rows.varyAlikeSpec Rows.varyAlikeRow = true := by
  unfold joinedFacts
  simp only [Bool.and_eq_true]
  exact ⟨⟨⟨⟨⟨⟨⟨⟨⟨⟨⟨⟨⟨⟨⟨⟨⟨⟨⟨⟨⟨⟨⟨⟨⟨⟨⟨⟨⟨⟨⟨fact0, fact1⟩, fact2⟩, fact3⟩, fact4⟩, fact5⟩, fact6⟩, fact7⟩, fact8⟩, fact9⟩, fact10⟩, fact11⟩, fact12⟩, fact13⟩, fact14⟩, fact15⟩, fact16⟩, fact17⟩, fact18⟩, fact19⟩, fact20⟩, fact21⟩, fact22⟩, fact23⟩, fact24⟩, fact25⟩, fact26⟩, fact27⟩, fact28⟩, fact29⟩, fact30⟩, fact31⟩
theorem closed3 : Tryz.f7.isInstance Tryz.pinned.checked.prog Rows.varyAlikeRow.origin Rows.varyAlikeRow.targs := of_decide_eq_true (by kernel_rfl)
theorem closed4 : Tryz.f7.isWrapper Tryz.pinned.checked.prog Rows.varyAlikeRow.wrapper Rows.varyAlikeRow.mainSum := by
  unfold Func.isWrapper
  rw [if_neg (by decide +kernel)]
  exact ⟨rfl, rfl⟩
end Go.Proofs.YtabliglgeiajlaaGreat.varyAlike
