/- The row's closed facts, one by one. -/
import Derived.Test.YtopkcgdfebkbaaaGreatDoorCards
import Derived.Test.YtopkcgdfebkbaaaGreatDoorTie
import Derived.JoinedCond
import Derived.ProofKit
set_option maxRecDepth 100000
namespace Go.Proofs.YtopkcgdfebkbaaaGreatDoor.vaP
open Go
theorem cf0 : (Rows.varsAppendRow.wf (OpenSpec.ofChange (OpenSpec.ofChange Rows.varsAppendSpec).bare)) = true := by kernel_rfl
theorem cf1 : (laidOutB Tryz.prog) = true := by kernel_rfl
theorem cf2 : (mapsRowed Tryz.prog) = true := by kernel_rfl
theorem cf3 : (Tryz.f6.params.all (Tryz.prog.readableRec ·)) = true := by kernel_rfl
theorem cf4 : (namedTie Tryz.prog Rows.varsAppendRow.named (OpenSpec.ofChange Rows.varsAppendSpec).bare.vars) = true := by kernel_rfl
theorem cf5 : ((Rows.varsAppendRow.stops == [])) = true := by kernel_rfl
theorem cf6 : ((Tryz.prog.stops == [])) = true := by kernel_rfl
theorem cf7 : ((Rows.varsAppendRow.knobs == [])) = true := by kernel_rfl
theorem cf8 : ((Tryz.prog.stopKnobs == [])) = true := by kernel_rfl
theorem cf9 : ((Rows.varsAppendRow.inPlace == Tryz.prog.inPlace 6)) = true := by kernel_rfl
theorem cf10 : ((Rows.varsAppendRow.unfollowed == Tryz.prog.unfollowed 6)) = true := by kernel_rfl
theorem cf11 : ((Rows.varsAppendRow.recurses == Tryz.prog.recurses 6)) = true := by kernel_rfl
theorem cf12 : ((Rows.varsAppendRow.named == Tryz.prog.varsNamed 6)) = true := by kernel_rfl
theorem cf13 : ((Rows.varsAppendRow.maps == (Tryz.f6.params.toList ++ (OpenSpec.ofChange Rows.varsAppendSpec).bare.plain.varTypes Tryz.prog).any (Tryz.prog.mapsRec ·))) = true := by kernel_rfl
theorem cf14 : ((Rows.varsAppendRow.ifaces == (Tryz.f6.params.toList ++ (OpenSpec.ofChange Rows.varsAppendSpec).bare.plain.varTypes Tryz.prog).any (Tryz.prog.ifacesRec ·))) = true := by kernel_rfl
theorem cf15 : ((Rows.varsAppendRow.mapsOut == Tryz.prog.mapsAmong Tryz.f6.resultTypes.toList)) = true := by kernel_rfl
theorem cf16 : ((Rows.varsAppendRow.loops == (Tryz.f6.params.toList ++ (OpenSpec.ofChange Rows.varsAppendSpec).bare.plain.varTypes Tryz.prog).any (Tryz.prog.loopsFrom ·))) = true := by kernel_rfl
theorem cf17 : ((Rows.varsAppendRow.wideKeys == (Tryz.f6.params.toList ++ (OpenSpec.ofChange Rows.varsAppendSpec).bare.plain.varTypes Tryz.prog ++ Tryz.f6.resultTypes.toList).any (Tryz.prog.wideKeysFrom ·))) = true := by kernel_rfl
theorem cf18 : ((OpenSpec.ofChange Rows.varsAppendSpec).bare.vars.all (Tryz.prog.varReadable ·)) = true := by kernel_rfl
theorem cf19 : (Tryz.f6.resultTypes.all (fun t => Tryz.prog.readableRec t && decide (t < Tryz.prog.types.size))) = true := by kernel_rfl
theorem cf20 : ((Rows.varsAppendRow.ifacesOut == Tryz.f6.resultTypes.toList.any (Tryz.prog.ifacesRec ·))) = true := by kernel_rfl
theorem cf21 : ((Rows.varsAppendRow.loopsOut == Tryz.f6.resultTypes.toList.any (Tryz.prog.loopsFrom ·))) = true := by kernel_rfl
theorem cf22 : ((Rows.varsAppendRow.plainKeys == Tryz.prog.plainKeys)) = true := by kernel_rfl
theorem cf23 : (Rows.varsAppendRow.shortTexts.isNone) = true := by kernel_rfl
theorem cf24 : (Tryz.prog.stopsHeard) = true := by kernel_rfl
theorem cf25 : (Tryz.prog.mayEnter) = true := by kernel_rfl
theorem cf26 : ((Rows.varsAppendRow.lifted == Tryz.prog.liftsFinal)) = true := by kernel_rfl
theorem cf27 : ((Tryz.prog.make == some Rows.varsAppendRow.make)) = true := by kernel_rfl
theorem cf28 : ((Rows.varsAppendRow.kinds == (if Rows.varsAppendRow.domain.isEmpty then [] else Tryz.f6.params.toList.map fun t => match Tryz.prog.underlying t with | some (.int k) => some k | _ => none))) = true := by kernel_rfl
theorem cf29 : ((Rows.varsAppendRow.pinned == Rows.varsAppendRow.pinnedBy)) = true := by kernel_rfl
theorem cf30 : ((Rows.varsAppendRow.veiled == (Tryz.f6.params.toList ++ (OpenSpec.ofChange Rows.varsAppendSpec).bare.plain.varTypes Tryz.prog ++ Tryz.f6.resultTypes.toList).any (Tryz.prog.veiledRec ·))) = true := by kernel_rfl
theorem cf31 : (Rows.varsAppendRow.veiledFits Tryz.prog Tryz.f6.params.toList (Tryz.f6.params.toList ++ (OpenSpec.ofChange Rows.varsAppendSpec).bare.plain.varTypes Tryz.prog ++ Tryz.f6.resultTypes.toList)) = true := by kernel_rfl
theorem facts : joinedFacts Tryz.prog 6 Tryz.f6 (OpenSpec.ofChange Rows.varsAppendSpec).bare Rows.varsAppendRow = true := by
  unfold joinedFacts
  rw [cf0, cf1, cf2, cf3, cf4, cf5, cf6, cf7, cf8, cf9, cf10, cf11, cf12, cf13, cf14, cf15, cf16, cf17, cf18, cf19, cf20, cf21, cf22, cf23, cf24, cf25, cf26, cf27, cf29, cf30, cf31]
  simp only [Bool.true_and, Bool.and_true]
  kernel_rfl
end Go.Proofs.YtopkcgdfebkbaaaGreatDoor.vaP
