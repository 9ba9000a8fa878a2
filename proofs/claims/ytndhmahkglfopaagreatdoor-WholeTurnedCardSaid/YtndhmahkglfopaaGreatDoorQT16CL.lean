/- The row's closed facts, one by one. -/
import Derived.Test.YtndhmahkglfopaaGreatDoorRows
import Derived.Test.YtndhmahkglfopaaGreatDoorCards
import Derived.JoinedOf
namespace Go.Proofs.YtndhmahkglfopaaGreatDoor
open Go
theorem tf0 : (Rows.wholeTurnedRow.wf (OpenSpec.ofChange Rows.wholeTurnedSpec)) = true := by kernel_rfl
theorem tf1 : (laidOutB Tryz.prog) = true := by kernel_rfl
theorem tf2 : (mapsRowed Tryz.prog) = true := by kernel_rfl
theorem tf3 : (Tryz.f4.params.all (Tryz.prog.readableRec ·)) = true := by kernel_rfl
theorem tf4 : (namedTie Tryz.prog Rows.wholeTurnedRow.named Rows.wholeTurnedSpec.vars) = true := by kernel_rfl
theorem tf5 : ((Rows.wholeTurnedRow.stops == [])) = true := by kernel_rfl
theorem tf6 : ((Tryz.prog.stops == [])) = true := by kernel_rfl
theorem tf7 : ((Rows.wholeTurnedRow.knobs == [])) = true := by kernel_rfl
theorem tf8 : ((Tryz.prog.stopKnobs == [])) = true := by kernel_rfl
theorem tf9 : ((Rows.wholeTurnedRow.inPlace == Tryz.prog.inPlace 4)) = true := by kernel_rfl
theorem tf10 : ((Rows.wholeTurnedRow.unfollowed == Tryz.prog.unfollowed 4)) = true := by kernel_rfl
theorem tf11 : ((Rows.wholeTurnedRow.recurses == Tryz.prog.recurses 4)) = true := by kernel_rfl
theorem tf12 : ((Rows.wholeTurnedRow.named == Tryz.prog.varsNamed 4)) = true := by kernel_rfl
theorem tf13 : ((Rows.wholeTurnedRow.maps == (Tryz.f4.params.toList ++ Rows.wholeTurnedSpec.plain.varTypes Tryz.prog).any (Tryz.prog.mapsRec ·))) = true := by kernel_rfl
theorem tf14 : ((Rows.wholeTurnedRow.ifaces == (Tryz.f4.params.toList ++ Rows.wholeTurnedSpec.plain.varTypes Tryz.prog).any (Tryz.prog.ifacesRec ·))) = true := by kernel_rfl
theorem tf15 : ((Rows.wholeTurnedRow.mapsOut == Tryz.prog.mapsAmong Tryz.f4.resultTypes.toList)) = true := by kernel_rfl
theorem tf16 : ((Rows.wholeTurnedRow.loops == (Tryz.f4.params.toList ++ Rows.wholeTurnedSpec.plain.varTypes Tryz.prog).any (Tryz.prog.loopsFrom ·))) = true := by kernel_rfl
theorem tf17 : ((Rows.wholeTurnedRow.wideKeys == (Tryz.f4.params.toList ++ Rows.wholeTurnedSpec.plain.varTypes Tryz.prog ++ Tryz.f4.resultTypes.toList).any (Tryz.prog.wideKeysFrom ·))) = true := by kernel_rfl
theorem tf18 : (Rows.wholeTurnedSpec.vars.all (Tryz.prog.varReadable ·)) = true := by kernel_rfl
theorem tf19 : (Tryz.f4.resultTypes.all (fun t => Tryz.prog.readableRec t && decide (t < Tryz.prog.types.size))) = true := by kernel_rfl
theorem tf20 : ((Rows.wholeTurnedRow.ifacesOut == Tryz.f4.resultTypes.toList.any (Tryz.prog.ifacesRec ·))) = true := by kernel_rfl
theorem tf21 : ((Rows.wholeTurnedRow.loopsOut == Tryz.f4.resultTypes.toList.any (Tryz.prog.loopsFrom ·))) = true := by kernel_rfl
theorem tf22 : ((Rows.wholeTurnedRow.plainKeys == Tryz.prog.plainKeys)) = true := by kernel_rfl
theorem tf23 : (Rows.wholeTurnedRow.shortTexts.isNone) = true := by kernel_rfl
theorem tf24 : (Tryz.prog.stopsHeard) = true := by kernel_rfl
theorem tf25 : (Tryz.prog.mayEnter) = true := by kernel_rfl
theorem tf26 : ((Rows.wholeTurnedRow.lifted == Tryz.prog.liftsFinal)) = true := by kernel_rfl
theorem tf27 : ((Tryz.prog.make == some Rows.wholeTurnedRow.make)) = true := by kernel_rfl
theorem tf28 : ((Rows.wholeTurnedRow.kinds == (if Rows.wholeTurnedRow.domain.isEmpty then [] else Tryz.f4.params.toList.map fun t => match Tryz.prog.underlying t with | some (.int k) => some k | _ => none))) = true := by kernel_rfl
theorem tf29 : ((Rows.wholeTurnedRow.pinned == Rows.wholeTurnedRow.pinnedBy)) = true := by kernel_rfl
theorem tf30 : ((Rows.wholeTurnedRow.veiled == (Tryz.f4.params.toList ++ Rows.wholeTurnedSpec.plain.varTypes Tryz.prog ++ Tryz.f4.resultTypes.toList).any (Tryz.prog.veiledRec ·))) = true := by kernel_rfl
theorem tf31 : (Rows.wholeTurnedRow.veiledFits Tryz.prog Tryz.f4.params.toList (Tryz.f4.params.toList ++ Rows.wholeTurnedSpec.plain.varTypes Tryz.prog ++ Tryz.f4.resultTypes.toList)) = true := by kernel_rfl
set_option maxRecDepth 100000 in
theorem turned_joined : joinedFacts Tryz.pinned.checked.prog 4 Tryz.f4 Rows.wholeTurnedSpec Rows.wholeTurnedRow = true := by
  unfold joinedFacts
  simp only [Bool.and_eq_true]
  exact ⟨⟨⟨⟨⟨⟨⟨⟨⟨⟨⟨⟨⟨⟨⟨⟨⟨⟨⟨⟨⟨⟨⟨⟨⟨⟨⟨⟨⟨⟨⟨tf0, tf1⟩, tf2⟩, tf3⟩, tf4⟩, tf5⟩, tf6⟩, tf7⟩, tf8⟩, tf9⟩, tf10⟩, tf11⟩, tf12⟩, tf13⟩, tf14⟩, tf15⟩, tf16⟩, tf17⟩, tf18⟩, tf19⟩, tf20⟩, tf21⟩, tf22⟩, tf23⟩, tf24⟩, tf25⟩, tf26⟩, tf27⟩, tf28⟩, tf29⟩, tf30⟩, tf31⟩
end Go.Proofs.YtndhmahkglfopaaGreatDoor
