-- WRITTEN by a program of this session's own (wip/gen/card.py)
/- decklelaw04.CellBack: the card: for every input the call returns true; each argument reads afterwards as before. No condition. -/
import Derived.Test.YtciolchdihlgfaaGreatDoorCardCbA
import Derived.ProofKit
namespace Go.Proofs.YtciolchdihlgfaaGreatDoor.cellBack
open Go.ChangeShapes Go.WideShapes Go.ChangeAt Go.RowKit Go.Lib Go.Proofs.YtciolchdihlgfaaGreatDoorW.PrintWords
open Go.ChangeMaps (open_string shut_string)
set_option linter.unusedVariables false
set_option maxRecDepth 100000
theorem closed_ : joinedFacts Tryz.pinned.checked.prog 4 Tryz.f4 (OpenSpec.ofChange Rows.cellBackSpec).bare Rows.cellBackRow = true := by kernel_rfl
end Go.Proofs.YtciolchdihlgfaaGreatDoor.cellBack
namespace Go.Proofs.YtciolchdihlgfaaGreatDoor.cellBack
open Go.ChangeShapes Go.WideShapes Go.ChangeAt Go.RowKit Go.Lib Go.Proofs.YtciolchdihlgfaaGreatDoorW.PrintWords
open Go.ChangeMaps (open_string shut_string)
set_option linter.unusedVariables false
set_option maxRecDepth 100000
theorem named_ : Tryz.pinned.checked.prog.funcNamed Rows.cellBackRow.func = some 4 := by kernel_rfl
theorem inst_ : Tryz.f4.isInstance Tryz.pinned.checked.prog Rows.cellBackRow.origin Rows.cellBackRow.targs := of_decide_eq_true (by kernel_rfl)
theorem wrap_ : Tryz.f4.isWrapper Tryz.pinned.checked.prog Rows.cellBackRow.wrapper Rows.cellBackRow.mainSum := by unfold Func.isWrapper; first | (rw [if_pos (by decide +kernel)]; kernel_rfl) | (rw [if_neg (by decide +kernel)]; exact ⟨rfl, rfl⟩)
theorem said : Rows.CellBackSaid :=
  OpenClaim.holds_of_cond 4 Tryz.f4 rfl rfl rfl rfl rfl rfl rfl ⟨rfl, rfl, rfl, rfl, rfl⟩ rfl rfl rfl rfl rfl named_ Tryz.func4 closed_ inst_ wrap_
    (fun os started H enc _ F => by rw [OpenClaim.pre_eq_preRow]; exact lifted os started H enc F)
end Go.Proofs.YtciolchdihlgfaaGreatDoor.cellBack

namespace Go.Proofs.YtciolchdihlgfaaGreatDoor.cellBack
open Go.ChangeShapes Go.WideShapes Go.ChangeAt Go.RowKit Go.Lib Go.Proofs.YtciolchdihlgfaaGreatDoorW.PrintWords
open Go.ChangeMaps (open_string shut_string)
set_option linter.unusedVariables false
set_option maxRecDepth 100000
theorem plain (f : FuncId) (fn : Func) (hf : Tryz.pinned.checked.prog.funcNamed "deckle/decklelaw04.CellBack" = some f) (hfn : Tryz.pinned.checked.prog.funcs[f]? = some fn) :
    true = Tryz.pinned.checked.prog.looks [] ∧ ∀ (j : Nat) t, fn.params[j]? = some t → Tryz.pinned.checked.prog.wantsStandIn t = false := by
  obtain rfl : f = 4 := Option.some.inj ((show Tryz.prog.funcNamed "deckle/decklelaw04.CellBack" = some 4 by kernel_rfl).symm.trans hf) |>.symm
  obtain rfl : fn = Tryz.f4 := (Option.some.inj (Tryz.func4.symm.trans hfn)).symm
  refine ⟨by kernel_rfl, fun j t ht => ?_⟩
  rw [Tryz.params4] at ht
  have hm : t ∈ ([3, 24, 36] : List Nat) := Array.mem_def.1 (Array.mem_of_getElem? ht)
  rcases List.mem_cons.1 hm with rfl | hm
  · exact (show Tryz.prog.wantsStandIn 3 = false by kernel_rfl)
  rcases List.mem_cons.1 hm with rfl | hm
  · exact (show Tryz.prog.wantsStandIn 24 = false by kernel_rfl)
  rcases List.mem_cons.1 hm with rfl | hm
  · exact (show Tryz.prog.wantsStandIn 36 = false by kernel_rfl)
  cases hm
theorem card : Rows.CellBackCardSaid :=
  Claim7.holds_tied_plain_at .later [] _ _ _ _ said (fun _ h => by cases h) (by kernel_rfl) (fun _ h => by cases h) cellBack_row_tie rfl ⟨rfl, rfl⟩ (by kernel_rfl) rfl plain (by kernel_rfl)
#print axioms card
end Go.Proofs.YtciolchdihlgfaaGreatDoor.cellBack
