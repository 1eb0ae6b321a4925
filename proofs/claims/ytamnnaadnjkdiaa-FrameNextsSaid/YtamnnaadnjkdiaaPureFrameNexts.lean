/- decklelaw11.FrameNexts: for every input the call returns true; each argument reads afterwards as before. No condition. -/
import Derived.Test.YtamnnaadnjkdiaaAFrameNexts
namespace Go.Proofs.Ytamnnaadnjkdiaa.Pure
open Go.RowKit Go.Proofs.Ytamnnaadnjkdiaa.PFrameNexts Go.Proofs.YtamnnaadnjkdiaaW.PrintWords Go.Proofs.YtamnnaadnjkdiaaW.PrintLast Go.Proofs.YtamnnaadnjkdiaaW.PrintMore Go.Proofs.Ytamnnaadnjkdiaa.Wire Go.Proofs.Ytamnnaadnjkdiaa.Crc Go.Proofs.Ytamnnaadnjkdiaa.Frame Go.Proofs.Ytamnnaadnjkdiaa.FrameNextsG Go.Proofs.Ytamnnaadnjkdiaa.FrameNextsC Go.Proofs.Ytamnnaadnjkdiaa.FrameNextsE Go.Proofs.Ytamnnaadnjkdiaa.FrameNextsA
set_option linter.unusedVariables false

theorem FrameNexts_loop (L : List (Int × List Int × Int)) (hL : L.length ≤ 1000000) : ∀ d k i, L.length - i = d → i ≤ L.length → d < k → decklelaw11_FrameNexts.l0 k (L.map m80) (L.map m81) (L.length : Int) (i : Int) = some true := by
  intro d
  induction d with
  | zero =>
    intro k i hd hi hk
    obtain ⟨k, rfl⟩ : ∃ j, k = j + 1 := ⟨k - 1, by omega⟩
    rw [decklelaw11_FrameNexts.l0, if_neg (by omega)]
  | succ d ih =>
    intro k i hd hi hk
    obtain ⟨k, rfl⟩ : ∃ j, k = j + 1 := ⟨k - 1, by omega⟩
    have h8 : ((L.map m80).length : Int) = L.length := by rw [List.length_map]
    have h9 : ((L.map m81).length : Int) = L.length := by rw [List.length_map]
    rw [decklelaw11_FrameNexts.l0, h8, h9, rd80 L i (by omega), rd81 L i (by omega), if_pos (by omega), if_pos (by omega), if_pos (by omega), if_pos (by omega), if_pos (by rfl), if_pos (by rfl), if_pos (by rfl), cw64 (by omega) (by omega)]
    exact ih k (i + 1) (by omega) (by omega) (by omega)

theorem FrameNexts : decklelaw11_FrameNexts.Pure := by
  intro l0 m0 s0 w0
  have hb := Bytes.of w0
  refine ⟨90000 + 1, ?_⟩
  unfold decklelaw11_FrameNexts.f
  rw [alive _ (by decide)]
  simp only [Option.bind_some, if_true]
  rw [decklelaw11_FrameNexts.j0]
  by_cases h : (l0.length : Int) > 4000
  · rw [if_pos (decide_eq_true h), alive _ (by decide)]; rfl
  rw [if_neg (show ¬ (decide ((l0.length : Int) > 4000) = true) by rw [decide_eq_true_eq]; exact h), next hb (by omega) _ (by decide), rnext hb (by omega) _ (by omega), all80 hb (by omega) _ (by omega), all81 hb (by omega) _ (by omega)]
  simp only [Option.bind_some]
  have hle := fa_le l0 (l0.length + 1) 0
  have hs : ((fa l0 (l0.length + 1) 0).2.2 != (fa l0 (l0.length + 1) 0).2.2) = false := by simp
  rw [if_pos trivial, if_pos trivial, if_pos trivial, if_pos trivial, if_pos (by rw [List.length_map, List.length_map]), if_pos trivial, hs]
  show decklelaw11_FrameNexts.j1 (89999 + 1) _ _ _ = _
  rw [decklelaw11_FrameNexts.j1, if_neg (by decide), List.length_map]
  exact FrameNexts_loop _ (by omega) _ _ 0 rfl (by omega) (by omega)
end Go.Proofs.Ytamnnaadnjkdiaa.Pure
