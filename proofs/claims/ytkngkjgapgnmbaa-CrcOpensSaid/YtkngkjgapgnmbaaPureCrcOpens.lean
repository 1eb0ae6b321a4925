/- decklelaw02.CrcOpens: for every input the call returns true; each argument reads afterwards as before. No condition. -/
import Derived.Test.YtkngkjgapgnmbaaGCrcOpens
namespace Go.Proofs.Ytkngkjgapgnmbaa.Pure
open Go.RowKit Go.Proofs.Ytkngkjgapgnmbaa.PCrcOpens Go.Proofs.YtkngkjgapgnmbaaW.PrintWords Go.Proofs.YtkngkjgapgnmbaaW.PrintLast Go.Proofs.YtkngkjgapgnmbaaW.PrintMore Go.Proofs.Ytkngkjgapgnmbaa.Wire Go.Proofs.Ytkngkjgapgnmbaa.Crc Go.Proofs.Ytkngkjgapgnmbaa.CrcOpensC
set_option linter.unusedVariables false

theorem CrcOpens : decklelaw02_CrcOpens.Pure := by
  intro l0 m0 s0 w0
  have hb0 := Bytes.of w0
  have hal : decklelaw02_alive.f = some true := rfl
  refine ⟨10 * l0.length + 20, ?_⟩
  unfold decklelaw02_CrcOpens.f
  by_cases g1 : (l0.length : Int) > 3000
  · rw [if_pos g1, hal]
    rfl
  rw [if_neg g1, copen hb0 (by omega) _ (by omega), ropen hb0 (by omega) _ (by omega), hal]
  simp
end Go.Proofs.Ytkngkjgapgnmbaa.Pure
