-- WRITTEN by a program of this session's own (wip/gen/card.py)
/- decklelaw05.SchemaOne: a part of its card. -/
import Derived.Test.YtciolchdihlgfaaDoorCardSoF
import Derived.ProofKit
namespace Go.Proofs.YtciolchdihlgfaaDoor.schemaOne
open Go.ChangeShapes Go.WideShapes Go.ChangeAt Go.RowKit Go.Lib Go.Proofs.YtciolchdihlgfaaDoorW.PrintWords
open Go.ChangeMaps (open_string shut_string)
set_option linter.unusedVariables false
set_option maxRecDepth 100000
theorem named_ : Tryd.pinned.checked.prog.funcNamed Rows.schemaOneRow.func = some 4 := by kernel_rfl
theorem inst_ : Tryd.f4.isInstance Tryd.pinned.checked.prog Rows.schemaOneRow.origin Rows.schemaOneRow.targs := of_decide_eq_true (by kernel_rfl)
theorem wrap_ : Tryd.f4.isWrapper Tryd.pinned.checked.prog Rows.schemaOneRow.wrapper Rows.schemaOneRow.mainSum := by unfold Func.isWrapper; first | (rw [if_pos (by decide +kernel)]; kernel_rfl) | (rw [if_neg (by decide +kernel)]; exact ⟨rfl, rfl⟩)
theorem said : Rows.SchemaOneSaid :=
  OpenClaim.holds_of_cond 4 Tryd.f4 rfl rfl rfl rfl rfl rfl rfl ⟨rfl, rfl, rfl, rfl, rfl⟩ rfl rfl rfl rfl rfl named_ Tryd.func4 closed_ inst_ wrap_
    (fun os started H enc _ F => by rw [OpenClaim.pre_eq_preRow]; exact lifted os started H enc F)
end Go.Proofs.YtciolchdihlgfaaDoor.schemaOne
