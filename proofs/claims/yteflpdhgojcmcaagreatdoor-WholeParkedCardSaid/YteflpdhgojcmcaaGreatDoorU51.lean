/- The closed facts of the row of WholeParked, one by one. No conditions but those that each theorem names. -/
import Derived.Test.YteflpdhgojcmcaaGreatDoorU01
import Derived.Test.YteflpdhgojcmcaaGreatDoorU50
namespace Go.Proofs.YteflpdhgojcmcaaGreatDoor.lawWholeParked
open Go.ChangeShapes Go.WideShapes Go.ChangeAt Go.RowKit
theorem fact0 : Rows.wholeParkedRow.wf (OpenSpec.ofChange (OpenSpec.ofChange Rows.wholeParkedSpec).bare) = true := by kernel_rfl
theorem fact1 : laidOutB Tryz.pinned.checked.prog = true := by kernel_rfl
theorem fact2 : mapsRowed Tryz.pinned.checked.prog = true := by kernel_rfl
theorem fact3 : Tryz.f4.params.all (Tryz.pinned.checked.prog.readableRec ·) = true := by kernel_rfl
theorem fact4 : namedTie Tryz.pinned.checked.prog Rows.wholeParkedRow.named (OpenSpec.ofChange Rows.wholeParkedSpec).bare.vars = true := by kernel_rfl
theorem fact5 : (Rows.wholeParkedRow.stops == []) = true := by kernel_rfl
theorem fact6 : (Tryz.pinned.checked.prog.stops == []) = true := by kernel_rfl
theorem fact7 : (Rows.wholeParkedRow.knobs == []) = true := by kernel_rfl
theorem fact8 : (Tryz.pinned.checked.prog.stopKnobs == []) = true := by kernel_rfl
theorem fact9 : (Rows.wholeParkedRow.inPlace == Tryz.pinned.checked.prog.inPlace 4) = true := by kernel_rfl
theorem fact10 : (Rows.wholeParkedRow.unfollowed == Tryz.pinned.checked.prog.unfollowed 4) = true := by kernel_rfl
theorem fact11 : (Rows.wholeParkedRow.recurses == Tryz.pinned.checked.prog.recurses 4) = true := by kernel_rfl
theorem fact12 : (Rows.wholeParkedRow.named == Tryz.pinned.checked.prog.varsNamed 4) = true := by kernel_rfl
theorem fact13 : (Rows.wholeParkedRow.maps == (Tryz.f4.params.toList ++ (OpenSpec.ofChange Rows.wholeParkedSpec).bare.plain.varTypes Tryz.pinned.checked.prog).any (Tryz.pinned.checked.prog.mapsRec ·)) = true := by kernel_rfl
theorem fact14 : (Rows.wholeParkedRow.ifaces == (Tryz.f4.params.toList ++ (OpenSpec.ofChange Rows.wholeParkedSpec).bare.plain.varTypes Tryz.pinned.checked.prog).any (Tryz.pinned.checked.prog.ifacesRec ·)) = true := by kernel_rfl
theorem fact15 : (Rows.wholeParkedRow.mapsOut == Tryz.pinned.checked.prog.mapsAmong Tryz.f4.resultTypes.toList) = true := by kernel_rfl
theorem fact16 : (Rows.wholeParkedRow.loops == (Tryz.f4.params.toList ++ (OpenSpec.ofChange Rows.wholeParkedSpec).bare.plain.varTypes Tryz.pinned.checked.prog).any (Tryz.pinned.checked.prog.loopsFrom ·)) = true := by kernel_rfl
theorem fact17 : (Rows.wholeParkedRow.wideKeys == (Tryz.f4.params.toList ++ (OpenSpec.ofChange Rows.wholeParkedSpec).bare.plain.varTypes Tryz.pinned.checked.prog ++ Tryz.f4.resultTypes.toList).any (Tryz.pinned.checked.prog.wideKeysFrom ·)) = true := by kernel_rfl
theorem fact18 : (OpenSpec.ofChange Rows.wholeParkedSpec).bare.vars.all (Tryz.pinned.checked.prog.varReadable ·) = true := by kernel_rfl
theorem fact19 : Tryz.f4.resultTypes.all (fun t => Tryz.pinned.checked.prog.readableRec t && decide (t < Tryz.pinned.checked.prog.types.size)) = true := by kernel_rfl
theorem fact20 : (Rows.wholeParkedRow.ifacesOut == Tryz.f4.resultTypes.toList.any (Tryz.pinned.checked.prog.ifacesRec ·)) = true := by kernel_rfl
theorem fact21 : (Rows.wholeParkedRow.loopsOut == Tryz.f4.resultTypes.toList.any (Tryz.pinned.checked.prog.loopsFrom ·)) = true := by kernel_rfl
theorem fact22 : (Rows.wholeParkedRow.plainKeys == Tryz.pinned.checked.prog.plainKeys) = true := by kernel_rfl
theorem fact23 : Rows.wholeParkedRow.shortTexts.isNone = true := by kernel_rfl
theorem fact24 : Tryz.pinned.checked.prog.stopsHeard = true := by kernel_rfl
theorem fact25 : Tryz.pinned.checked.prog.mayEnter = true := by kernel_rfl
theorem fact26 : (Rows.wholeParkedRow.lifted == Tryz.pinned.checked.prog.liftsFinal) = true := by kernel_rfl
theorem fact27 : (Tryz.pinned.checked.prog.make == some Rows.wholeParkedRow.make) = true := by kernel_rfl
theorem fact29 : (Rows.wholeParkedRow.pinned == Rows.wholeParkedRow.pinnedBy) = true := by kernel_rfl
theorem fact30 : (Rows.wholeParkedRow.veiled == (Tryz.f4.params.toList ++ (OpenSpec.ofChange Rows.wholeParkedSpec).bare.plain.varTypes Tryz.pinned.checked.prog ++ Tryz.f4.resultTypes.toList).any (Tryz.pinned.checked.prog.veiledRec ·)) = true := by kernel_rfl
theorem fact31 : Rows.wholeParkedRow.veiledFits Tryz.pinned.checked.prog Tryz.f4.params.toList (Tryz.f4.params.toList ++ (OpenSpec.ofChange Rows.wholeParkedSpec).bare.plain.varTypes Tryz.pinned.checked.prog ++ Tryz.f4.resultTypes.toList) = true := by kernel_rfl
theorem closed : joinedFacts Tryz.pinned.checked.prog 4 Tryz.f4 (OpenSpec.ofChange Rows.wholeParkedSpec).bare Rows.wholeParkedRow = true := by
  simp only [joinedFacts, Bool.and_eq_true]
  refine ⟨⟨⟨⟨⟨⟨⟨⟨⟨⟨⟨⟨⟨⟨⟨⟨⟨⟨⟨⟨⟨⟨⟨⟨⟨⟨⟨⟨⟨⟨⟨fact0, fact1⟩, fact2⟩, fact3⟩, fact4⟩, fact5⟩, fact6⟩, fact7⟩, fact8⟩, fact9⟩, fact10⟩, fact11⟩, fact12⟩, fact13⟩, fact14⟩, fact15⟩, fact16⟩, fact17⟩, fact18⟩, fact19⟩, fact20⟩, fact21⟩, fact22⟩, fact23⟩, fact24⟩, fact25⟩, fact26⟩, fact27⟩, ?_⟩, fact29⟩, fact30⟩, fact31⟩
  kernel_rfl
end Go.Proofs.YteflpdhgojcmcaaGreatDoor.lawWholeParked
