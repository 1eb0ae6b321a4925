-- WRITTEN by a program of this session's own (wip/gen/card.py)
/- decklelaw05.SchemaPrints: a part of its card. -/
import Derived.Test.YtnmjelcicbfjdaaDoorCardSpF
import Derived.ProofKit
namespace Go.Proofs.YtnmjelcicbfjdaaDoor.schemaPrints
open Go.ChangeShapes Go.WideShapes Go.ChangeAt Go.RowKit Go.Lib Go.Proofs.YtnmjelcicbfjdaaDoorW.PrintWords
open Go.ChangeMaps (open_string shut_string)
set_option linter.unusedVariables false
set_option maxRecDepth 100000
theorem named_ : Tryd.pinned.checked.prog.funcNamed Rows.schemaPrintsRow.func = some 7 := by kernel_rfl
theorem inst_ : Tryd.f7.isInstance Tryd.pinned.checked.prog Rows.schemaPrintsRow.origin Rows.schemaPrintsRow.targs := of_decide_eq_true (by kernel_rfl)
theorem wrap_ : Tryd.f7.isWrapper Tryd.pinned.checked.prog Rows.schemaPrintsRow.wrapper Rows.schemaPrintsRow.mainSum := by unfold Func.isWrapper; first | (rw [if_pos (by decide +kernel)]; kernel_rfl) | (rw [if_neg (by decide +kernel)]; exact ⟨rfl, rfl⟩)
theorem said : Rows.SchemaPrintsSaid :=
  OpenClaim.holds_of_cond 7 Tryd.f7 rfl rfl rfl rfl rfl rfl rfl ⟨rfl, rfl, rfl, rfl, rfl⟩ rfl rfl rfl rfl rfl named_ Tryd.func7 closed_ inst_ wrap_
    (fun os started H enc _ F => by rw [OpenClaim.pre_eq_preRow]; exact lifted os started H enc F)
end Go.Proofs.YtnmjelcicbfjdaaDoor.schemaPrints
