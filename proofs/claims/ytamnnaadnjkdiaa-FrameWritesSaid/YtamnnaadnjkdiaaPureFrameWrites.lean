/- decklelaw11.FrameWrites: for every input the call returns true; each argument reads afterwards as before. No condition. -/
import Derived.Test.YtamnnaadnjkdiaaEFrameWrites
namespace Go.Proofs.Ytamnnaadnjkdiaa.Pure
open Go.RowKit Go.Proofs.Ytamnnaadnjkdiaa.PFrameWrites Go.Proofs.YtamnnaadnjkdiaaW.PrintWords Go.Proofs.YtamnnaadnjkdiaaW.PrintLast Go.Proofs.YtamnnaadnjkdiaaW.PrintMore Go.Proofs.Ytamnnaadnjkdiaa.Wire Go.Proofs.Ytamnnaadnjkdiaa.Crc Go.Proofs.Ytamnnaadnjkdiaa.Frame Go.Proofs.Ytamnnaadnjkdiaa.FrameWritesG Go.Proofs.Ytamnnaadnjkdiaa.FrameWritesC Go.Proofs.Ytamnnaadnjkdiaa.FrameWritesE
set_option linter.unusedVariables false

theorem FrameWrites : decklelaw11_FrameWrites.Pure := by
  intro a0 l1 a2 w0 m1 s1 w1 w2
  have hb1 := Bytes.of w1
  refine ⟨50000 + 1, ?_⟩
  unfold decklelaw11_FrameWrites.f
  rw [alive _ (by decide)]
  simp only [Option.bind_some, if_true]
  rw [decklelaw11_FrameWrites.j0]
  by_cases h : (l1.length : Int) > 4000
  · rw [if_pos (decide_eq_true h), alive _ (by decide)]; rfl
  rw [if_neg (show ¬ (decide ((l1.length : Int) > 4000) = true) by rw [decide_eq_true_eq]; exact h), fwrite hb1 (by omega) _ (by decide)]
  simp only [Option.bind_some]
  rw [rwrite hb1 (by omega) _ (by omega)]
  simp only [Option.bind_some]
  rw [if_pos trivial, if_pos trivial, fsize, fsize, rsize]
  all_goals first | decide | skip
  simp only [Option.bind_some]
  by_cases hk : a0 < 0 ∨ 2 < a0
  · rw [if_pos hk]; simp
  have e : (if a0 < 0 ∨ 2 < a0 then (([] : List Int), (10 : Int)) else if 1048576 < (l1.length : Int) then ([], 13) else (fput a0 l1, 0)) = (fput a0 l1, 0) := by
    rw [if_neg hk, if_neg (show ¬ (1048576 < (l1.length : Int)) by omega)]
  rw [e]
  have hl := fput_len a0 l1
  have hs : fsz (l1.length : Int) = ((fput a0 l1).length : Int) := by
    unfold fsz
    rw [if_neg (by omega), if_neg (by omega), hl, Int.toNat_natCast]
    omega
  simp [hs]
end Go.Proofs.Ytamnnaadnjkdiaa.Pure
