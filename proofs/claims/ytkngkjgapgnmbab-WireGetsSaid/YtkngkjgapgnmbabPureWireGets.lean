/- decklelaw01.WireGets: for every input the call returns true; each argument reads afterwards as before. No condition. -/
import Derived.Test.YtkngkjgapgnmbabGWireGets
namespace Go.Proofs.Ytkngkjgapgnmbab.Pure
open Go.RowKit Go.Proofs.Ytkngkjgapgnmbab.PWireGets Go.Proofs.YtkngkjgapgnmbabW.PrintWords Go.Proofs.YtkngkjgapgnmbabW.PrintLast Go.Proofs.YtkngkjgapgnmbabW.PrintMore Go.Proofs.Ytkngkjgapgnmbab.Wire Go.Proofs.Ytkngkjgapgnmbab.WireGetsG

theorem WireGets : decklelaw01_WireGets.Pure := by
  intro l0 a1 m1 s1 w1 h1
  obtain ⟨b1, c1⟩ := wf_i64 h1
  have hb := Bytes.of w1
  refine ⟨40, ?_⟩
  unfold decklelaw01_WireGets.f
  rw [getUint l0 hb 40 (by omega), refGetUint l0 hb (by omega) 40 (by omega), getInt l0 hb 40 (by omega), getBytes l0 hb (by omega) a1 c1 40 (by omega), refGetBytes l0 hb (by omega) a1 c1 40 (by omega), show decklelaw01_alive.f = some true from rfl]
  simp only [Option.bind_some, if_true]
  by_cases h : (gu l0).2.2 = 0
  · obtain ⟨x, _, _, _, _, h5, h6⟩ := gu_ok hb h
    rw [if_pos h, h6]
    simp only
    rw [refZag (by omega) (by omega)]
    simp
  · rw [if_neg h, gu_err h]
    simp [zagS]
end Go.Proofs.Ytkngkjgapgnmbab.Pure
