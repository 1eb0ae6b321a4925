-- WRITTEN by a program of this session's own (wip/gen/card.py)
/- decklelaw05.SchemaReads: a part of its card. -/
import Derived.Test.YtciolchdihlgfaaDoorCardSrF
import Derived.ProofKit
namespace Go.Proofs.YtciolchdihlgfaaDoor.schemaReads
open Go.ChangeShapes Go.WideShapes Go.ChangeAt Go.RowKit Go.Lib Go.Proofs.YtciolchdihlgfaaDoorW.PrintWords
open Go.ChangeMaps (open_string shut_string)
set_option linter.unusedVariables false
set_option maxRecDepth 100000
theorem named_ : Tryd.pinned.checked.prog.funcNamed Rows.schemaReadsRow.func = some 3 := by kernel_rfl
theorem inst_ : Tryd.f3.isInstance Tryd.pinned.checked.prog Rows.schemaReadsRow.origin Rows.schemaReadsRow.targs := of_decide_eq_true (by kernel_rfl)
theorem wrap_ : Tryd.f3.isWrapper Tryd.pinned.checked.prog Rows.schemaReadsRow.wrapper Rows.schemaReadsRow.mainSum := by unfold Func.isWrapper; first | (rw [if_pos (by decide +kernel)]; kernel_rfl) | (rw [if_neg (by decide +kernel)]; exact ⟨rfl, rfl⟩)
theorem said : Rows.SchemaReadsSaid :=
  OpenClaim.holds_of_cond 3 Tryd.f3 rfl rfl rfl rfl rfl rfl rfl ⟨rfl, rfl, rfl, rfl, rfl⟩ rfl rfl rfl rfl rfl named_ Tryd.func3 closed_ inst_ wrap_
    (fun os started H enc _ F => by rw [OpenClaim.pre_eq_preRow]; exact lifted os started H enc F)
end Go.Proofs.YtciolchdihlgfaaDoor.schemaReads
