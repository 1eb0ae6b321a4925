/- decklelaw03.ReaderNone: for every input the call returns true; each argument reads afterwards as before. No condition. -/
import Derived.Test.YtamnnaadnjkdiaaPReaderNonex1
import Derived.Test.YtamnnaadnjkdiaaWireSpec2
namespace Go.Proofs.Ytamnnaadnjkdiaa.Pure
open Go.RowKit Go.Proofs.Ytamnnaadnjkdiaa.PReaderNone Go.Proofs.YtamnnaadnjkdiaaW.PrintWords Go.Proofs.YtamnnaadnjkdiaaW.PrintLast Go.Proofs.YtamnnaadnjkdiaaW.PrintMore Go.Proofs.Ytamnnaadnjkdiaa.Wire
set_option linter.unusedVariables false

theorem ReaderNone : decklelaw03_ReaderNone.Pure := by
  intro l0 a1 m0 s0 w0 w1
  unfold decklelaw03_ReaderNone.f
  rw [if_pos (by omega)]
end Go.Proofs.Ytamnnaadnjkdiaa.Pure
