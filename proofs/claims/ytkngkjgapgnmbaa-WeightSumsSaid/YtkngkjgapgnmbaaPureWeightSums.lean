/- decklelaw07.WeightSums: for every input the call returns true; each argument reads afterwards as before. No condition. -/
import Derived.Test.YtkngkjgapgnmbaaGWeightSums
namespace Go.Proofs.Ytkngkjgapgnmbaa.Pure
open Go.RowKit Go.Proofs.Ytkngkjgapgnmbaa.PWeightSums Go.Proofs.YtkngkjgapgnmbaaW.PrintWords Go.Proofs.YtkngkjgapgnmbaaW.PrintLast Go.Proofs.YtkngkjgapgnmbaaW.PrintMore Go.Proofs.Ytkngkjgapgnmbaa.Wire Go.Proofs.Ytkngkjgapgnmbaa.WeightSumsD
set_option linter.unusedVariables false

theorem WeightSums : decklelaw07_WeightSums.Pure := by
  intro l0 m0 s0 w0
  have hW := Ws.of w0
  refine ⟨l0.length + 1, ?_⟩
  refine if_pos ⟨alive, hW, fun hl => rsum hW (by omega) _ (by omega), fun hl => ?_⟩
  refine ⟨fun i => (hiP (l0.take i).sum, loP (l0.take i).sum), rfl, fun i h => ?_⟩
  have hb := part_bound (hW.take i) (by rw [List.length_take]; omega)
  have hb2 := part_bound (hW.take (i + 1)) (by rw [List.length_take]; omega)
  have hg := hW _ (List.getElem_mem h)
  have hs : (l0.take (i + 1)).sum = (l0.take i).sum + l0[i] := by
    rw [List.take_succ_eq_append_getElem h, List.sum_append]
    simp
  obtain ⟨p1, p2⟩ := part_plus (l0.take i).sum l0[i]
  refine ⟨?_, ?_⟩
  · rw [rplus hb.1 hb.2.1 hb.2.2.1 hb.2.2.2 hg.1 hg.2, p1, p2, ← hs]
  · rw [rwhole hb2.2.2.1 hb2.2.2.2, part_whole]
    rfl
end Go.Proofs.Ytkngkjgapgnmbaa.Pure
