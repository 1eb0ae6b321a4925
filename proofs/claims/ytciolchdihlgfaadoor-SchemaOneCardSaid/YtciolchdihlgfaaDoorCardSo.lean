-- WRITTEN by a program of this session's own (wip/gen/card.py)
/- decklelaw05.SchemaOne: the card: for every input the call returns true; each argument reads afterwards as before. No condition. -/
import Derived.Test.YtciolchdihlgfaaDoorCardSoB
import Derived.ProofKit
namespace Go.Proofs.YtciolchdihlgfaaDoor.schemaOne
open Go.ChangeShapes Go.WideShapes Go.ChangeAt Go.RowKit Go.Lib Go.Proofs.YtciolchdihlgfaaDoorW.PrintWords
open Go.ChangeMaps (open_string shut_string)
set_option linter.unusedVariables false
set_option maxRecDepth 100000
theorem plain (f : FuncId) (fn : Func) (hf : Tryd.pinned.checked.prog.funcNamed "deckle/decklelaw05.SchemaOne" = some f) (hfn : Tryd.pinned.checked.prog.funcs[f]? = some fn) :
    true = Tryd.pinned.checked.prog.looks [] ∧ ∀ (j : Nat) t, fn.params[j]? = some t → Tryd.pinned.checked.prog.wantsStandIn t = false := by
  obtain rfl : f = 4 := Option.some.inj ((show Tryd.prog.funcNamed "deckle/decklelaw05.SchemaOne" = some 4 by kernel_rfl).symm.trans hf) |>.symm
  obtain rfl : fn = Tryd.f4 := (Option.some.inj (Tryd.func4.symm.trans hfn)).symm
  refine ⟨by kernel_rfl, fun j t ht => ?_⟩
  rw [Tryd.params4] at ht
  have hm : t ∈ ([22, 9] : List Nat) := Array.mem_def.1 (Array.mem_of_getElem? ht)
  rcases List.mem_cons.1 hm with rfl | hm
  · exact (show Tryd.prog.wantsStandIn 22 = false by kernel_rfl)
  rcases List.mem_cons.1 hm with rfl | hm
  · exact (show Tryd.prog.wantsStandIn 9 = false by kernel_rfl)
  cases hm
theorem card : Rows.SchemaOneCardSaid :=
  Claim7.holds_tied_plain_at .later [] _ _ _ _ said (fun _ h => by cases h) (by kernel_rfl) (fun _ h => by cases h) schemaOne_row_tie rfl ⟨rfl, rfl⟩ (by kernel_rfl) rfl plain (by kernel_rfl)
#print axioms card
end Go.Proofs.YtciolchdihlgfaaDoor.schemaOne
