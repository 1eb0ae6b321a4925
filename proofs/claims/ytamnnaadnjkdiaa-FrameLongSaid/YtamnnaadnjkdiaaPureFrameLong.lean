/- decklelaw11.FrameLong: for every input the call returns true; each argument reads afterwards as before. No condition. -/
import Derived.Test.YtamnnaadnjkdiaaEFrameLong
namespace Go.Proofs.Ytamnnaadnjkdiaa.Pure
open Go.RowKit Go.Proofs.Ytamnnaadnjkdiaa.PFrameLong Go.Proofs.YtamnnaadnjkdiaaW.PrintWords Go.Proofs.YtamnnaadnjkdiaaW.PrintLast Go.Proofs.YtamnnaadnjkdiaaW.PrintMore Go.Proofs.Ytamnnaadnjkdiaa.Wire Go.Proofs.Ytamnnaadnjkdiaa.Crc Go.Proofs.Ytamnnaadnjkdiaa.Frame Go.Proofs.Ytamnnaadnjkdiaa.FrameLongG Go.Proofs.Ytamnnaadnjkdiaa.FrameLongC Go.Proofs.Ytamnnaadnjkdiaa.FrameLongE
set_option linter.unusedVariables false

theorem FrameLong : decklelaw11_FrameLong.Pure := by
  intro a0 w0
  have ha := wf_u8 w0
  refine ⟨100, ?_⟩
  have e : wrap64 (1048575 + wrap64 (Int.tmod a0 3)) = 1048575 + a0 % 3 := by
    rw [Int.tmod_eq_emod_of_nonneg ha.1, cw64 (n := a0 % 3) (by omega) (by omega)]
    exact cw64 (by omega) (by omega)
  unfold decklelaw11_FrameLong.f
  rw [e]
  obtain ⟨n, hn⟩ := Int.eq_ofNat_of_zero_le (show 0 ≤ 1048575 + a0 % 3 by omega)
  have hn1 : n ≤ 1048577 := by omega
  have hn0 : 1048575 ≤ n := by omega
  rw [hn]
  clear hn e
  have hb : Bytes (List.replicate n 0) := fun c hc => by rw [List.eq_of_mem_replicate hc]; omega
  have hl : (List.replicate n (0 : Int)).length = n := List.length_replicate
  rw [if_pos (show (0 : Int) ≤ (n : Int) by omega), Int.toNat_natCast, if_pos (show n ≤ 281474976710656 by omega), fwrite hb (by omega) _ (by decide)]
  simp only [Option.bind_some]
  by_cases h : (n : Int) > 1048576
  · have e1 : (if (1 : Int) < 0 ∨ 2 < (1 : Int) then (([] : List Int), (10 : Int)) else if 1048576 < ((List.replicate n (0 : Int)).length : Int) then ([], 13) else (fput 1 (List.replicate n 0), 0)) = ([], 13) := by
      rw [if_neg (show ¬ ((1 : Int) < 0 ∨ 2 < (1 : Int)) by decide), if_pos (show 1048576 < ((List.replicate n (0 : Int)).length : Int) by rw [hl]; omega)]
    have hs : fsz (n : Int) = 0 := by
      unfold fsz
      rw [if_neg (show ¬ ((n : Int) < 0) by omega), if_pos h]
    rw [e1, if_pos h, alive _ (by decide), fsize _ _ (by decide), hs]
    rfl
  · have e1 : (if (1 : Int) < 0 ∨ 2 < (1 : Int) then (([] : List Int), (10 : Int)) else if 1048576 < ((List.replicate n (0 : Int)).length : Int) then ([], 13) else (fput 1 (List.replicate n 0), 0)) = (fput 1 (List.replicate n 0), 0) := by
      rw [if_neg (show ¬ ((1 : Int) < 0 ∨ 2 < (1 : Int)) by decide), if_neg (show ¬ (1048576 < ((List.replicate n (0 : Int)).length : Int)) by rw [hl]; omega)]
    have hfl := fput_len 1 (List.replicate n 0)
    rw [hl] at hfl
    have hs : fsz (n : Int) = ((fput 1 (List.replicate n 0)).length : Int) := by
      unfold fsz
      rw [if_neg (show ¬ ((n : Int) < 0) by omega), if_neg h, hfl, Int.toNat_natCast]
      omega
    have hu : usz n ≤ 10 := usz_le10 (by omega)
    have hnx := next_put (t := []) (kd := 1) (p := List.replicate n 0) (by decide) (by decide) (by omega)
    rw [List.append_nil] at hnx
    rw [e1, if_neg h]
    dsimp only
    rw [next (fput_bytes (by decide) (by decide) hb) (by omega) _ (by decide), hnx, alive _ (by decide), fsize _ _ (by decide), hs]
    simp only [Option.bind_some, if_true, hl, beq_self_eq_true]
end Go.Proofs.Ytamnnaadnjkdiaa.Pure
