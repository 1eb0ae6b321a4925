/- decklelaw03.ReaderMust: for every input the call returns true; each argument reads afterwards as before. No condition. -/
import Derived.Test.YtamnnaadnjkdiaaPReaderMustx1
import Derived.Test.YtamnnaadnjkdiaaWireSpec2
namespace Go.Proofs.Ytamnnaadnjkdiaa.Pure
open Go.RowKit Go.Proofs.Ytamnnaadnjkdiaa.PReaderMust Go.Proofs.YtamnnaadnjkdiaaW.PrintWords Go.Proofs.YtamnnaadnjkdiaaW.PrintLast Go.Proofs.YtamnnaadnjkdiaaW.PrintMore Go.Proofs.Ytamnnaadnjkdiaa.Wire
set_option linter.unusedVariables false

theorem ReaderMust : decklelaw03_ReaderMust.Pure := by
  intro l0 a1 a2 m0 s0 w0 w1 w2
  have hb := Bytes.of w0
  have h1 := wf_u8 w1
  have h2 := wf_u8 w2
  unfold decklelaw03_ReaderMust.f
  rw [if_pos ⟨hb, h1, h2⟩]
end Go.Proofs.Ytamnnaadnjkdiaa.Pure
