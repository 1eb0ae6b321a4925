import Derived.Test.YtamnnaadnjkdiaaFrameSpec
import Derived.Test.YtamnnaadnjkdiaaGFb
import Derived.Test.YtamnnaadnjkdiaaCFb
import Derived.Test.YtamnnaadnjkdiaaPFbx1
import Derived.Test.YtamnnaadnjkdiaaPFbx2
import Derived.Test.YtamnnaadnjkdiaaPFbx3
namespace Go.Proofs.Ytamnnaadnjkdiaa.FbE
open Go.RowKit Go.Proofs.YtamnnaadnjkdiaaW.PrintWords Go.Proofs.YtamnnaadnjkdiaaW.PrintLast Go.Proofs.YtamnnaadnjkdiaaW.PrintMore Go.Proofs.Ytamnnaadnjkdiaa.Wire Go.Proofs.Ytamnnaadnjkdiaa.Crc Go.Proofs.Ytamnnaadnjkdiaa.Frame Go.Proofs.Ytamnnaadnjkdiaa.PFb Go.Proofs.Ytamnnaadnjkdiaa.FbG Go.Proofs.Ytamnnaadnjkdiaa.FbC
set_option linter.unusedVariables false
set_option linter.unusedSimpArgs false

theorem fwrite {kd : Int} {p : List Int} (hb : Bytes p) (hp : p.length ≤ 140737488000000) (k : Nat) (hk : 14 ≤ k) : frame_Write.f k kd p = some (if kd < 0 ∨ 2 < kd then ([], 10) else if 1048576 < (p.length : Int) then ([], 13) else (fput kd p, 0)) := by
  obtain ⟨k, rfl⟩ : ∃ j, k = j + 1 := ⟨k - 1, by omega⟩
  unfold frame_Write.f
  have key : ∀ b : Bool, b = decide (kd < 0 ∨ 2 < kd) → frame_Write.j0 (k + 1) kd p b = some (if kd < 0 ∨ 2 < kd then ([], 10) else if 1048576 < (p.length : Int) then ([], 13) else (fput kd p, 0)) := by
    rintro b rfl
    rw [frame_Write.j0]
    by_cases h1 : kd < 0 ∨ 2 < kd
    · rw [if_pos h1, if_pos (decide_eq_true h1)]
    rw [if_neg h1, if_neg (show ¬ (decide (kd < 0 ∨ 2 < kd) = true) by rw [decide_eq_true_eq]; exact h1)]
    by_cases h2 : (p.length : Int) > 1048576
    · rw [if_pos h2, if_pos h2]
    rw [if_neg h2, if_neg h2]
    simp only [Option.bind_some]
    have hu : usz p.length ≤ 10 := usz_le10 (by omega)
    have e0 : kd % 256 = kd := by omega
    have hby : Bytes (kd :: (uv p.length ++ p)) := fun c hc => by
      rcases List.mem_cons.mp hc with rfl | hc
      · omega
      · exact ((Bytes.uv _).app hb) c hc
    rw [putBytes p (by omega) k (by omega)]
    simp only [Option.bind_some]
    rw [if_pos (by rw [List.length_append, uv_len]; simp; omega), e0, List.singleton_append, cseal hby (by rw [List.length_cons, List.length_append, uv_len]; omega) k (by omega)]
    rfl
  by_cases h : kd < 0
  · rw [if_pos h]; exact key _ (by simp [h])
  · rw [if_neg h]; exact key _ (by simp [h])
theorem next {l : List Int} (hb : Bytes l) (hl : l.length ≤ 140737488351232) (k : Nat) (hk : 12 ≤ k) : frame_Next.f k l = some (fnext l) := by
  unfold frame_Next.f fnext
  by_cases h1 : l.length = 0
  · rw [if_pos h1, if_pos h1]
  rw [if_neg h1, if_neg h1]
  by_cases h2 : 2 < rd l 0
  · rw [if_pos h2, if_pos h2]
  rw [if_neg h2, if_neg h2, getBytes (l.drop 1) (hb.drop 1) (by rw [List.length_drop]; omega) 1048576 (by decide) k hk]
  simp only [Option.bind_some]
  unfold frame_Next.go
  by_cases h3 : (gb (l.drop 1) 1048576).2.2 = 0
  · obtain ⟨n, e, hn, -⟩ := gb_ok (hb.drop 1) h3
    rw [if_pos h3, if_pos h3, e]
    rw [List.length_drop] at hn
    rw [if_pos (by omega)]
    by_cases h4 : (l.length : Int) < 1 + (n : Int) + 4
    · rw [if_pos h4, if_pos h4]
    rw [if_neg h4, if_neg h4, copen (hb.take _) (by rw [List.length_take]; omega) k (by omega)]
    simp only [Option.bind_some]
    have hr : 0 ≤ rd l 0 := (hb.rd_ 0).1
    have hw : wrap64 (rd l 0) = rd l 0 := cw64 (by omega) (by omega)
    unfold openS
    by_cases h5 : opened (l.take (1 + (n : Int) + 4).toNat)
    · rw [if_pos h5, if_pos h5, if_pos rfl, hw]
    · rw [if_neg h5, if_neg h5, if_neg (by decide)]
  · rw [if_neg h3, if_neg h3]
def fsz (n : Int) : Int := if n < 0 then 0 else if n > 1048576 then 0 else (usz n.toNat : Int) + n + 5
theorem alive (k : Nat) (hk : 14 ≤ k) : decklelaw11_alive.f k = some true := by
  unfold decklelaw11_alive.f
  have h7 : Bytes [7] := fun c hc => by simp at hc; omega
  have h9 : Bytes [9, 9] := fun c hc => by simp at hc; omega
  have hl : (fput 2 [7]).length = 7 := by decide +kernel
  rw [fwrite h7 (by decide) k hk, if_neg (by decide), if_neg (by decide)]
  simp only [Option.bind_some]
  rw [copen (fput_bytes (by decide) (by decide) h7) (by omega) k (by omega)]
  simp only [Option.bind_some]
  rw [if_pos (by rw [hl]; decide), next ((fput_bytes (by decide) (by decide) h7).app h9) (by rw [List.length_append, hl]; decide) k (by omega)]
  simp only [Option.bind_some]
  rw [next_put (by decide) (by decide) (by decide), hl]
  have ho : openS (fput 2 [7]) = ([2, 1, 7], true) := by
    unfold openS
    rw [if_pos (show opened (fput 2 [7]) from seal_opened _)]
    decide +kernel
  rw [ho]
  dsimp only
  have s1 : (strOfNums [2, 1, 7]).toList = ([2, 1, 7] : List UInt8) := by rw [Wire.str_list]; decide
  have s2 : (strOfNums [7]).toList = ([7] : List UInt8) := by rw [Wire.str_list]; decide
  rw [s1, s2]
  rfl
end Go.Proofs.Ytamnnaadnjkdiaa.FbE
