-- WRITTEN by a program of this session's own (wip/gen/card.py)
/- decklelaw05.SchemaBack: a part of its card. -/
import Derived.Test.YtciolchdihlgfaaDoorCardSbF
import Derived.ProofKit
namespace Go.Proofs.YtciolchdihlgfaaDoor.schemaBack
open Go.ChangeShapes Go.WideShapes Go.ChangeAt Go.RowKit Go.Lib Go.Proofs.YtciolchdihlgfaaDoorW.PrintWords
open Go.ChangeMaps (open_string shut_string)
set_option linter.unusedVariables false
set_option maxRecDepth 100000
theorem named_ : Tryd.pinned.checked.prog.funcNamed Rows.schemaBackRow.func = some 5 := by kernel_rfl
theorem inst_ : Tryd.f5.isInstance Tryd.pinned.checked.prog Rows.schemaBackRow.origin Rows.schemaBackRow.targs := of_decide_eq_true (by kernel_rfl)
theorem wrap_ : Tryd.f5.isWrapper Tryd.pinned.checked.prog Rows.schemaBackRow.wrapper Rows.schemaBackRow.mainSum := by unfold Func.isWrapper; first | (rw [if_pos (by decide +kernel)]; kernel_rfl) | (rw [if_neg (by decide +kernel)]; exact ⟨rfl, rfl⟩)
theorem said : Rows.SchemaBackSaid :=
  OpenClaim.holds_of_cond 5 Tryd.f5 rfl rfl rfl rfl rfl rfl rfl ⟨rfl, rfl, rfl, rfl, rfl⟩ rfl rfl rfl rfl rfl named_ Tryd.func5 closed_ inst_ wrap_
    (fun os started H enc _ F => by rw [OpenClaim.pre_eq_preRow]; exact lifted os started H enc F)
end Go.Proofs.YtciolchdihlgfaaDoor.schemaBack
