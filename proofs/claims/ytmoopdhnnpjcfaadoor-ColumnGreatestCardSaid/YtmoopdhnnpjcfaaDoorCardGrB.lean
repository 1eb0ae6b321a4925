import Derived.Test.YtmoopdhnnpjcfaaDoorCardGrF
import Derived.ProofKit
/-! ColumnGreatest: the card, further. -/
namespace Go.Proofs.YtmoopdhnnpjcfaaDoor.columnGreatest
open Go.ChangeShapes Go.WideShapes Go.ChangeAt Go.RowKit Go.Lib
set_option linter.unusedVariables false
set_option maxRecDepth 100000
theorem named_ : Tryd.pinned.checked.prog.funcNamed Rows.columnGreatestRow.func = some 8 := by kernel_rfl
theorem inst_ : Tryd.f8.isInstance Tryd.pinned.checked.prog Rows.columnGreatestRow.origin Rows.columnGreatestRow.targs := of_decide_eq_true (by kernel_rfl)
theorem wrap_ : Tryd.f8.isWrapper Tryd.pinned.checked.prog Rows.columnGreatestRow.wrapper Rows.columnGreatestRow.mainSum := by unfold Func.isWrapper; first | (rw [if_pos (by decide +kernel)]; kernel_rfl) | (rw [if_neg (by decide +kernel)]; exact ⟨rfl, rfl⟩)
theorem said : Rows.ColumnGreatestSaid :=
  OpenClaim.holds_of_cond 8 Tryd.f8 rfl rfl rfl rfl rfl rfl rfl ⟨rfl, rfl, rfl, rfl, rfl⟩ rfl rfl rfl rfl rfl named_ Tryd.func8 closed_ inst_ wrap_
    (fun os started H enc _ F => by rw [OpenClaim.pre_eq_preRow]; exact lifted os started H enc F)
end Go.Proofs.YtmoopdhnnpjcfaaDoor.columnGreatest
