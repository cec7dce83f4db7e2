/- Texts of this claim: plain laws of what the program's functions compute. No condition of their own. -/
import Derived.Test.YtnkaolleaebhnaaGreatDoorDlRa
namespace Go.Proofs.YtnkaolleaebhnaaGreatDoor
set_option linter.unusedSimpArgs false
set_option linter.unusedVariables false
set_option linter.unusedSectionVars false
open Go Go.PL Go.Proofs Go.ChangeShapes Go.WideShapes Go.RowKit Rs
set_option maxRecDepth 100000
theorem Avy : ((Rows.diffLossRow.loops == (Tryz.f5.params.toList ++ Rows.diffLossSpec.plain.varTypes Tryz.pinned.checked.prog).any (Tryz.pinned.checked.prog.loopsFrom ·))) = true := by kernel_rfl
theorem Avz : ((Rows.diffLossRow.wideKeys == (Tryz.f5.params.toList ++ Rows.diffLossSpec.plain.varTypes Tryz.pinned.checked.prog ++ Tryz.f5.resultTypes.toList).any (Tryz.pinned.checked.prog.wideKeysFrom ·))) = true := by kernel_rfl
theorem Av0 : (Rows.diffLossSpec.vars.all (Tryz.pinned.checked.prog.varReadable ·)) = true := by kernel_rfl
theorem Av1 : (Tryz.f5.resultTypes.all (fun t => Tryz.pinned.checked.prog.readableRec t && decide (t < Tryz.pinned.checked.prog.types.size))) = true := by kernel_rfl
theorem Av2 : ((Rows.diffLossRow.ifacesOut == Tryz.f5.resultTypes.toList.any (Tryz.pinned.checked.prog.ifacesRec ·))) = true := by kernel_rfl
theorem Av3 : ((Rows.diffLossRow.loopsOut == Tryz.f5.resultTypes.toList.any (Tryz.pinned.checked.prog.loopsFrom ·))) = true := by kernel_rfl
theorem Av4 : ((Rows.diffLossRow.plainKeys == Tryz.pinned.checked.prog.plainKeys)) = true := by kernel_rfl
theorem Av5 : (Rows.diffLossRow.shortTexts.isNone) = true := by kernel_rfl
theorem Av6 : (Tryz.pinned.checked.prog.stopsHeard) = true := by kernel_rfl
theorem Av7 : (Tryz.pinned.checked.prog.mayEnter) = true := by kernel_rfl
theorem Av8 : ((Rows.diffLossRow.lifted == Tryz.pinned.checked.prog.liftsFinal)) = true := by kernel_rfl
theorem Av9 : ((Tryz.pinned.checked.prog.make == some Rows.diffLossRow.make)) = true := by kernel_rfl
theorem Awa : ((Rows.diffLossRow.kinds == (if Rows.diffLossRow.domain.isEmpty then [] else Tryz.f5.params.toList.map fun t => match Tryz.pinned.checked.prog.underlying t with | some (.int k) => some k | _ => none))) = true := by kernel_rfl
theorem Awb : ((Rows.diffLossRow.pinned == Rows.diffLossRow.pinnedBy)) = true := by kernel_rfl
theorem Awc : ((Rows.diffLossRow.veiled == (Tryz.f5.params.toList ++ Rows.diffLossSpec.plain.varTypes Tryz.pinned.checked.prog ++ Tryz.f5.resultTypes.toList).any (Tryz.pinned.checked.prog.veiledRec ·))) = true := by kernel_rfl
theorem Awd : (Rows.diffLossRow.veiledFits Tryz.pinned.checked.prog Tryz.f5.params.toList (Tryz.f5.params.toList ++ Rows.diffLossSpec.plain.varTypes Tryz.pinned.checked.prog ++ Tryz.f5.resultTypes.toList)) = true := by kernel_rfl
theorem Ax6 : Tryz.pinned.checked.prog.funcNamed Rows.diffLossRow.func = some 5 := by kernel_rfl
theorem Ax7 : Tryz.f5.isInstance Tryz.pinned.checked.prog Rows.diffLossRow.origin Rows.diffLossRow.targs := of_decide_eq_true (by kernel_rfl)
theorem Ax8 : Tryz.f5.isWrapper Tryz.pinned.checked.prog Rows.diffLossRow.wrapper Rows.diffLossRow.mainSum := by unfold Func.isWrapper; first | (rw [if_pos (by decide +kernel)]; kernel_rfl) | (rw [if_neg (by decide +kernel)]; exact ⟨rfl, rfl⟩)
theorem Ax9 : Rows.diffLossRow.wfByText (OpenSpec.ofChange Rows.diffLossSpec) = true := by kernel_rfl
theorem Aya : Tryz.pinned.checked.prog.mainIs = some (true, "16dc5b216e9e4ba74633c5eb29ed2d8ba72d9e2f4a073134c4cdc249a0f54b8c".toList) := by kernel_rfl
theorem Ayb : Tryz.prog.funcNamed "transhipment/transhipmentlaw18.DiffLoss" = some 5 := by kernel_rfl
theorem Ayc : false = Tryz.prog.looks [] := by kernel_rfl
theorem Ayd : ([31].all fun u => !Tryz.prog.wantsStandIn u) = true := by kernel_rfl
theorem Aye : false = Rows.diffLossRow.goesBy Tryz.pinned.checked.prog := by kernel_rfl
end Go.Proofs.YtnkaolleaebhnaaGreatDoor
