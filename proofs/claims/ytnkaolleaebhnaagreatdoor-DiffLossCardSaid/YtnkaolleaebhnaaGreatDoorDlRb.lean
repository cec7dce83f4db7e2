/- Texts of this claim: plain laws of what the program's functions compute. No condition of their own. -/
import Derived.Test.YtnkaolleaebhnaaGreatDoorDlRa
namespace Go.Proofs.YtnkaolleaebhnaaGreatDoor
set_option linter.unusedSimpArgs false
set_option linter.unusedVariables false
set_option linter.unusedSectionVars false
open Go Go.PL Go.Proofs Go.ChangeShapes Go.WideShapes Go.RowKit Rs
set_option maxRecDepth 100000
theorem Axw : (Rows.diffLossRow.wf (OpenSpec.ofChange Rows.diffLossSpec)) = true := by kernel_rfl
theorem Axx : (laidOutB Tryz.pinned.checked.prog) = true := by kernel_rfl
theorem Axy : (mapsRowed Tryz.pinned.checked.prog) = true := by kernel_rfl
theorem Axz : (Tryz.f5.params.all (Tryz.pinned.checked.prog.readableRec ·)) = true := by kernel_rfl
theorem Ax0 : (namedTie Tryz.pinned.checked.prog Rows.diffLossRow.named Rows.diffLossSpec.vars) = true := by kernel_rfl
theorem Ax1 : ((Rows.diffLossRow.stops == [])) = true := by kernel_rfl
theorem Ax2 : ((Tryz.pinned.checked.prog.stops == [])) = true := by kernel_rfl
theorem Ax3 : ((Rows.diffLossRow.knobs == [])) = true := by kernel_rfl
theorem Ax4 : ((Tryz.pinned.checked.prog.stopKnobs == [])) = true := by kernel_rfl
theorem Ax5 : ((Rows.diffLossRow.inPlace == Tryz.pinned.checked.prog.inPlace 5)) = true := by kernel_rfl
theorem Avs : ((Rows.diffLossRow.unfollowed == Tryz.pinned.checked.prog.unfollowed 5)) = true := by kernel_rfl
theorem Avt : ((Rows.diffLossRow.recurses == Tryz.pinned.checked.prog.recurses 5)) = true := by kernel_rfl
theorem Avu : ((Rows.diffLossRow.named == Tryz.pinned.checked.prog.varsNamed 5)) = true := by kernel_rfl
theorem Avv : ((Rows.diffLossRow.maps == (Tryz.f5.params.toList ++ Rows.diffLossSpec.plain.varTypes Tryz.pinned.checked.prog).any (Tryz.pinned.checked.prog.mapsRec ·))) = true := by kernel_rfl
theorem Avw : ((Rows.diffLossRow.ifaces == (Tryz.f5.params.toList ++ Rows.diffLossSpec.plain.varTypes Tryz.pinned.checked.prog).any (Tryz.pinned.checked.prog.ifacesRec ·))) = true := by kernel_rfl
theorem Avx : ((Rows.diffLossRow.mapsOut == Tryz.pinned.checked.prog.mapsAmong Tryz.f5.resultTypes.toList)) = true := by kernel_rfl
end Go.Proofs.YtnkaolleaebhnaaGreatDoor
