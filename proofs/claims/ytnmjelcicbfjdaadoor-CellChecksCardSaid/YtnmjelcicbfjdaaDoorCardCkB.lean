-- WRITTEN by a program of this session's own (wip/gen/card.py)
/- decklelaw04.CellChecks: a part of its card. -/
import Derived.Test.YtnmjelcicbfjdaaDoorCardCkF
import Derived.ProofKit
namespace Go.Proofs.YtnmjelcicbfjdaaDoor.cellChecks
open Go.ChangeShapes Go.WideShapes Go.ChangeAt Go.RowKit Go.Lib Go.Proofs.YtnmjelcicbfjdaaDoorW.PrintWords
open Go.ChangeMaps (open_string shut_string)
set_option linter.unusedVariables false
set_option maxRecDepth 100000
theorem named_ : Tryd.pinned.checked.prog.funcNamed Rows.cellChecksRow.func = some 6 := by kernel_rfl
theorem inst_ : Tryd.f6.isInstance Tryd.pinned.checked.prog Rows.cellChecksRow.origin Rows.cellChecksRow.targs := of_decide_eq_true (by kernel_rfl)
theorem wrap_ : Tryd.f6.isWrapper Tryd.pinned.checked.prog Rows.cellChecksRow.wrapper Rows.cellChecksRow.mainSum := by unfold Func.isWrapper; first | (rw [if_pos (by decide +kernel)]; kernel_rfl) | (rw [if_neg (by decide +kernel)]; exact ⟨rfl, rfl⟩)
theorem said : Rows.CellChecksSaid :=
  OpenClaim.holds_of_cond 6 Tryd.f6 rfl rfl rfl rfl rfl rfl rfl ⟨rfl, rfl, rfl, rfl, rfl⟩ rfl rfl rfl rfl rfl named_ Tryd.func6 closed_ inst_ wrap_
    (fun os started H enc _ F => by rw [OpenClaim.pre_eq_preRow]; exact lifted os started H enc F)
end Go.Proofs.YtnmjelcicbfjdaaDoor.cellChecks
