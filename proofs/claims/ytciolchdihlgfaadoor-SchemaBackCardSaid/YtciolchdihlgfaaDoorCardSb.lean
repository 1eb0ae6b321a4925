-- WRITTEN by a program of this session's own (wip/gen/card.py)
/- decklelaw05.SchemaBack: the card: for every input the call returns true; each argument reads afterwards as before. No condition. -/
import Derived.Test.YtciolchdihlgfaaDoorCardSbB
import Derived.ProofKit
namespace Go.Proofs.YtciolchdihlgfaaDoor.schemaBack
open Go.ChangeShapes Go.WideShapes Go.ChangeAt Go.RowKit Go.Lib Go.Proofs.YtciolchdihlgfaaDoorW.PrintWords
open Go.ChangeMaps (open_string shut_string)
set_option linter.unusedVariables false
set_option maxRecDepth 100000
theorem plain (f : FuncId) (fn : Func) (hf : Tryd.pinned.checked.prog.funcNamed "deckle/decklelaw05.SchemaBack" = some f) (hfn : Tryd.pinned.checked.prog.funcs[f]? = some fn) :
    true = Tryd.pinned.checked.prog.looks [] ∧ ∀ (j : Nat) t, fn.params[j]? = some t → Tryd.pinned.checked.prog.wantsStandIn t = false := by
  obtain rfl : f = 5 := Option.some.inj ((show Tryd.prog.funcNamed "deckle/decklelaw05.SchemaBack" = some 5 by kernel_rfl).symm.trans hf) |>.symm
  obtain rfl : fn = Tryd.f5 := (Option.some.inj (Tryd.func5.symm.trans hfn)).symm
  refine ⟨by kernel_rfl, fun j t ht => ?_⟩
  rw [Tryd.params5] at ht
  have hm : t ∈ ([24, 5] : List Nat) := Array.mem_def.1 (Array.mem_of_getElem? ht)
  rcases List.mem_cons.1 hm with rfl | hm
  · exact (show Tryd.prog.wantsStandIn 24 = false by kernel_rfl)
  rcases List.mem_cons.1 hm with rfl | hm
  · exact (show Tryd.prog.wantsStandIn 5 = false by kernel_rfl)
  cases hm
theorem card : Rows.SchemaBackCardSaid :=
  Claim7.holds_tied_plain_at .later [] _ _ _ _ said (fun _ h => by cases h) (by kernel_rfl) (fun _ h => by cases h) schemaBack_row_tie rfl ⟨rfl, rfl⟩ (by kernel_rfl) rfl plain (by kernel_rfl)
#print axioms card
end Go.Proofs.YtciolchdihlgfaaDoor.schemaBack
