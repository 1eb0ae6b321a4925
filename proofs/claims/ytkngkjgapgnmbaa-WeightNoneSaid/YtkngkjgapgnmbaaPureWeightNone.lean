/- decklelaw07.WeightNone: for every input the call returns true; each argument reads afterwards as before. No condition. -/
import Derived.Test.YtkngkjgapgnmbaaGWeightNone
namespace Go.Proofs.Ytkngkjgapgnmbaa.Pure
open Go.RowKit Go.Proofs.Ytkngkjgapgnmbaa.PWeightNone Go.Proofs.YtkngkjgapgnmbaaW.PrintWords Go.Proofs.YtkngkjgapgnmbaaW.PrintLast Go.Proofs.YtkngkjgapgnmbaaW.PrintMore Go.Proofs.Ytkngkjgapgnmbaa.Wire Go.Proofs.Ytkngkjgapgnmbaa.WeightNoneD

theorem WeightNone : decklelaw07_WeightNone.Pure := by
  intro a0 h0
  obtain ⟨b0, c0⟩ := wf_i64 h0
  exact if_pos ⟨alive, b0, c0⟩
end Go.Proofs.Ytkngkjgapgnmbaa.Pure
