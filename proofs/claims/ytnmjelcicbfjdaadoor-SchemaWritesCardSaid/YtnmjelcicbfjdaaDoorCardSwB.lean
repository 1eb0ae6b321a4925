-- WRITTEN by a program of this session's own (wip/gen/card.py)
/- decklelaw05.SchemaWrites: a part of its card. -/
import Derived.Test.YtnmjelcicbfjdaaDoorCardSwF
import Derived.ProofKit
namespace Go.Proofs.YtnmjelcicbfjdaaDoor.schemaWrites
open Go.ChangeShapes Go.WideShapes Go.ChangeAt Go.RowKit Go.Lib Go.Proofs.YtnmjelcicbfjdaaDoorW.PrintWords
open Go.ChangeMaps (open_string shut_string)
set_option linter.unusedVariables false
set_option maxRecDepth 100000
theorem named_ : Tryd.pinned.checked.prog.funcNamed Rows.schemaWritesRow.func = some 8 := by kernel_rfl
theorem inst_ : Tryd.f8.isInstance Tryd.pinned.checked.prog Rows.schemaWritesRow.origin Rows.schemaWritesRow.targs := of_decide_eq_true (by kernel_rfl)
theorem wrap_ : Tryd.f8.isWrapper Tryd.pinned.checked.prog Rows.schemaWritesRow.wrapper Rows.schemaWritesRow.mainSum := by unfold Func.isWrapper; first | (rw [if_pos (by decide +kernel)]; kernel_rfl) | (rw [if_neg (by decide +kernel)]; exact ⟨rfl, rfl⟩)
theorem said : Rows.SchemaWritesSaid :=
  OpenClaim.holds_of_cond 8 Tryd.f8 rfl rfl rfl rfl rfl rfl rfl ⟨rfl, rfl, rfl, rfl, rfl⟩ rfl rfl rfl rfl rfl named_ Tryd.func8 closed_ inst_ wrap_
    (fun os started H enc _ F => by rw [OpenClaim.pre_eq_preRow]; exact lifted os started H enc F)
end Go.Proofs.YtnmjelcicbfjdaaDoor.schemaWrites
