/- decklelaw07.WeightAdds: for every input the call returns true; each argument reads afterwards as before. No condition. -/
import Derived.Test.YtkngkjgapgnmbaaGWeightAdds
namespace Go.Proofs.Ytkngkjgapgnmbaa.Pure
open Go.RowKit Go.Proofs.Ytkngkjgapgnmbaa.PWeightAdds Go.Proofs.YtkngkjgapgnmbaaW.PrintWords Go.Proofs.YtkngkjgapgnmbaaW.PrintLast Go.Proofs.YtkngkjgapgnmbaaW.PrintMore Go.Proofs.Ytkngkjgapgnmbaa.Wire Go.Proofs.Ytkngkjgapgnmbaa.WeightAddsD
set_option linter.unusedVariables false

theorem WeightAdds : decklelaw07_WeightAdds.Pure := by
  intro a0 a1 h0 h1
  obtain ⟨b0, c0⟩ := wf_i64 h0
  obtain ⟨b1, c1⟩ := wf_i64 h1
  refine ⟨10, ?_⟩
  unfold decklelaw07_WeightAdds.f
  rw [wadd b0 c0 b1 c1, rsum (show Ws [a0, a1] from (Ws.one b0 c0).app (Ws.one b1 c1)) (by simp) 10 (by simp), alive]
  have e : ([a0, a1] : List Int).sum = a0 + a1 := by simp
  rw [e]
  unfold weight_Neg.f deckleref07_Neg.f
  by_cases h : a0 = -9223372036854775808
  · rw [if_pos h]
    simp
  · rw [if_neg h]
    simp
end Go.Proofs.Ytkngkjgapgnmbaa.Pure
