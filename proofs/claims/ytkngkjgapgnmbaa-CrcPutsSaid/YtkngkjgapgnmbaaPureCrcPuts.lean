/- decklelaw02.CrcPuts: for every input the call returns true; each argument reads afterwards as before. No condition. -/
import Derived.Test.YtkngkjgapgnmbaaGCrcPuts
namespace Go.Proofs.Ytkngkjgapgnmbaa.Pure
open Go.RowKit Go.Proofs.Ytkngkjgapgnmbaa.PCrcPuts Go.Proofs.YtkngkjgapgnmbaaW.PrintWords Go.Proofs.YtkngkjgapgnmbaaW.PrintLast Go.Proofs.YtkngkjgapgnmbaaW.PrintMore Go.Proofs.Ytkngkjgapgnmbaa.Wire Go.Proofs.Ytkngkjgapgnmbaa.Crc Go.Proofs.Ytkngkjgapgnmbaa.CrcPutsC
set_option linter.unusedVariables false

theorem u32_join (i : Nat) (x y : Int) (hy₀ : 0 ≤ y) (hy : y % 2 ^ i = 0) (hy₁ : y < 2 ^ 32) (hx₀ : 0 ≤ x) (hx : x < 2 ^ i) (hx₁ : x < 2 ^ 32) : bits .or .u32 x y = x + y := by
  rw [show bits .or .u32 x y = bits .or .u32 y x by simp only [bits, BitVec.or_comm], bits_join .u32 32 (by decide) (fun n a b => by rw [IntKind.wrap_u32]; omega) i y x hy₀ hy hy₁ hx₀ hx hx₁]
  omega
theorem CrcPuts : decklelaw02_CrcPuts.Pure := by
  intro a0 a1 h0 h1
  obtain ⟨b0, c0⟩ := wf_u32 h0
  obtain ⟨b1, c1⟩ := wf_u32 h1
  obtain ⟨x, rfl⟩ := Int.eq_ofNat_of_zero_le b0
  obtain ⟨y, rfl⟩ := Int.eq_ofNat_of_zero_le b1
  refine ⟨10, ?_⟩
  unfold decklelaw02_CrcPuts.f
  rw [cput x 10 (by omega), cput y 10 (by omega)]
  simp only [Option.bind_some]
  rw [if_pos (show ((put x).length : Int) = 4 from rfl), if_pos (show ((put y).length : Int) = 4 from rfl), if_pos (show (0 : Int) < ((put x).length : Int) from by rw [put_len]; decide), if_pos (show (1 : Int) < ((put x).length : Int) from by rw [put_len]; decide), if_pos (show (2 : Int) < ((put x).length : Int) from by rw [put_len]; decide), if_pos (show (3 : Int) < ((put x).length : Int) from by rw [put_len]; decide), show decklelaw02_alive.f = some true from rfl]
  simp only [Option.bind_some, if_true]
  have r0 : rd (put x) 0 = ((x % 256 : Nat) : Int) := rfl
  have r1 : rd (put x) 1 = ((x / 256 % 256 : Nat) : Int) := rfl
  have r2 : rd (put x) 2 = ((x / 65536 % 256 : Nat) : Int) := rfl
  have r3 : rd (put x) 3 = ((x / 16777216 % 256 : Nat) : Int) := rfl
  rw [r0, r1, r2, r3]
  rw [u32_join 8 (((x % 256 : Nat) : Int) % 4294967296) _ (by omega) (by omega) (by omega) (by omega) (by omega) (by omega)]
  rw [u32_join 16 _ ((((x / 65536 % 256 : Nat) : Int) % 4294967296 * 65536) % 4294967296) (by omega) (by omega) (by omega) (by omega) (by omega) (by omega)]
  rw [u32_join 24 _ ((((x / 16777216 % 256 : Nat) : Int) % 4294967296 * 16777216) % 4294967296) (by omega) (by omega) (by omega) (by omega) (by omega) (by omega)]
  rw [if_pos (by omega)]
  by_cases e : x = y
  · subst e
    simp
  · have hn : ¬ (strOfNums (put x)).toList = (strOfNums (put y)).toList := fun h => e (put_inj (by omega) (by omega) (strs_inj (put_bytes _) (put_bytes _) h))
    have hn2 : ¬ ((x : Int) = (y : Int)) := by omega
    rw [beq_eq_false_iff_ne.mpr hn, beq_eq_false_iff_ne.mpr hn2]
    rfl
end Go.Proofs.Ytkngkjgapgnmbaa.Pure
