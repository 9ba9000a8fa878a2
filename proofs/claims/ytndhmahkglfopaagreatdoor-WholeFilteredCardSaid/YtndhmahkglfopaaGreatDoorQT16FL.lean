/- The row's closed facts, one by one. -/
import Derived.Test.YtndhmahkglfopaaGreatDoorRows
import Derived.Test.YtndhmahkglfopaaGreatDoorCards
import Derived.JoinedOf
namespace Go.Proofs.YtndhmahkglfopaaGreatDoor
open Go
theorem ff0 : (Rows.wholeFilteredRow.wf (OpenSpec.ofChange Rows.wholeFilteredSpec)) = true := by kernel_rfl
theorem ff1 : (laidOutB Tryz.prog) = true := by kernel_rfl
theorem ff2 : (mapsRowed Tryz.prog) = true := by kernel_rfl
theorem ff3 : (Tryz.f3.params.all (Tryz.prog.readableRec ·)) = true := by kernel_rfl
theorem ff4 : (namedTie Tryz.prog Rows.wholeFilteredRow.named Rows.wholeFilteredSpec.vars) = true := by kernel_rfl
theorem ff5 : ((Rows.wholeFilteredRow.stops == [])) = true := by kernel_rfl
theorem ff6 : ((Tryz.prog.stops == [])) = true := by kernel_rfl
theorem ff7 : ((Rows.wholeFilteredRow.knobs == [])) = true := by kernel_rfl
theorem ff8 : ((Tryz.prog.stopKnobs == [])) = true := by kernel_rfl
theorem ff9 : ((Rows.wholeFilteredRow.inPlace == Tryz.prog.inPlace 3)) = true := by kernel_rfl
theorem ff10 : ((Rows.wholeFilteredRow.unfollowed == Tryz.prog.unfollowed 3)) = true := by kernel_rfl
theorem ff11 : ((Rows.wholeFilteredRow.recurses == Tryz.prog.recurses 3)) = true := by kernel_rfl
theorem ff12 : ((Rows.wholeFilteredRow.named == Tryz.prog.varsNamed 3)) = true := by kernel_rfl
theorem ff13 : ((Rows.wholeFilteredRow.maps == (Tryz.f3.params.toList ++ Rows.wholeFilteredSpec.plain.varTypes Tryz.prog).any (Tryz.prog.mapsRec ·))) = true := by kernel_rfl
theorem ff14 : ((Rows.wholeFilteredRow.ifaces == (Tryz.f3.params.toList ++ Rows.wholeFilteredSpec.plain.varTypes Tryz.prog).any (Tryz.prog.ifacesRec ·))) = true := by kernel_rfl
theorem ff15 : ((Rows.wholeFilteredRow.mapsOut == Tryz.prog.mapsAmong Tryz.f3.resultTypes.toList)) = true := by kernel_rfl
theorem ff16 : ((Rows.wholeFilteredRow.loops == (Tryz.f3.params.toList ++ Rows.wholeFilteredSpec.plain.varTypes Tryz.prog).any (Tryz.prog.loopsFrom ·))) = true := by kernel_rfl
theorem ff17 : ((Rows.wholeFilteredRow.wideKeys == (Tryz.f3.params.toList ++ Rows.wholeFilteredSpec.plain.varTypes Tryz.prog ++ Tryz.f3.resultTypes.toList).any (Tryz.prog.wideKeysFrom ·))) = true := by kernel_rfl
theorem ff18 : (Rows.wholeFilteredSpec.vars.all (Tryz.prog.varReadable ·)) = true := by kernel_rfl
theorem ff19 : (Tryz.f3.resultTypes.all (fun t => Tryz.prog.readableRec t && decide (t < Tryz.prog.types.size))) = true := by kernel_rfl
theorem ff20 : ((Rows.wholeFilteredRow.ifacesOut == Tryz.f3.resultTypes.toList.any (Tryz.prog.ifacesRec ·))) = true := by kernel_rfl
theorem ff21 : ((Rows.wholeFilteredRow.loopsOut == Tryz.f3.resultTypes.toList.any (Tryz.prog.loopsFrom ·))) = true := by kernel_rfl
theorem ff22 : ((Rows.wholeFilteredRow.plainKeys == Tryz.prog.plainKeys)) = true := by kernel_rfl
theorem ff23 : (Rows.wholeFilteredRow.shortTexts.isNone) = true := by kernel_rfl
theorem ff24 : (Tryz.prog.stopsHeard) = true := by kernel_rfl
theorem ff25 : (Tryz.prog.mayEnter) = true := by kernel_rfl
theorem ff26 : ((Rows.wholeFilteredRow.lifted == Tryz.prog.liftsFinal)) = true := by kernel_rfl
theorem ff27 : ((Tryz.prog.make == some Rows.wholeFilteredRow.make)) = true := by kernel_rfl
theorem ff28 : ((Rows.wholeFilteredRow.kinds == (if Rows.wholeFilteredRow.domain.isEmpty then [] else Tryz.f3.params.toList.map fun t => match Tryz.prog.underlying t with | some (.int k) => some k | _ => none))) = true := by kernel_rfl
theorem ff29 : ((Rows.wholeFilteredRow.pinned == Rows.wholeFilteredRow.pinnedBy)) = true := by kernel_rfl
theorem ff30 : ((Rows.wholeFilteredRow.veiled == (Tryz.f3.params.toList ++ Rows.wholeFilteredSpec.plain.varTypes Tryz.prog ++ Tryz.f3.resultTypes.toList).any (Tryz.prog.veiledRec ·))) = true := by kernel_rfl
theorem ff31 : (Rows.wholeFilteredRow.veiledFits Tryz.prog Tryz.f3.params.toList (Tryz.f3.params.toList ++ Rows.wholeFilteredSpec.plain.varTypes Tryz.prog ++ Tryz.f3.resultTypes.toList)) = true := by kernel_rfl
set_option maxRecDepth 100000 in
theorem filtered_joined : joinedFacts Tryz.pinned.checked.prog 3 Tryz.f3 Rows.wholeFilteredSpec Rows.wholeFilteredRow = true := by
  unfold joinedFacts
  simp only [Bool.and_eq_true]
  exact ⟨⟨⟨⟨⟨⟨⟨⟨⟨⟨⟨⟨⟨⟨⟨⟨⟨⟨⟨⟨⟨⟨⟨⟨⟨⟨⟨⟨⟨⟨⟨ff0, ff1⟩, ff2⟩, ff3⟩, ff4⟩, ff5⟩, ff6⟩, ff7⟩, ff8⟩, ff9⟩, ff10⟩, ff11⟩, ff12⟩, ff13⟩, ff14⟩, ff15⟩, ff16⟩, ff17⟩, ff18⟩, ff19⟩, ff20⟩, ff21⟩, ff22⟩, ff23⟩, ff24⟩, ff25⟩, ff26⟩, ff27⟩, ff28⟩, ff29⟩, ff30⟩, ff31⟩
end Go.Proofs.YtndhmahkglfopaaGreatDoor
