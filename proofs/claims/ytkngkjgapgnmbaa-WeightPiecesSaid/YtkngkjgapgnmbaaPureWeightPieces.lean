/- decklelaw07.WeightPieces: for every input the call returns true; each argument reads afterwards as before. No condition. -/
import Derived.Test.YtkngkjgapgnmbaaGWeightPieces
namespace Go.Proofs.Ytkngkjgapgnmbaa.Pure
open Go.RowKit Go.Proofs.Ytkngkjgapgnmbaa.PWeightPieces Go.Proofs.YtkngkjgapgnmbaaW.PrintWords Go.Proofs.YtkngkjgapgnmbaaW.PrintLast Go.Proofs.YtkngkjgapgnmbaaW.PrintMore Go.Proofs.Ytkngkjgapgnmbaa.Wire Go.Proofs.Ytkngkjgapgnmbaa.WeightPiecesD
set_option linter.unusedVariables false

theorem WeightPieces : decklelaw07_WeightPieces.Pure := by
  intro l0 a1 m0 s0 w0 h1
  obtain ⟨b1, c1⟩ := wf_u8 h1
  obtain ⟨x1, rfl⟩ := Int.eq_ofNat_of_zero_le b1
  have hW := Ws.of w0
  refine ⟨5, ?_⟩
  unfold decklelaw07_WeightPieces.f
  rw [alive]
  simp only [Option.bind_some, if_true]
  by_cases g : (l0.length : Int) > 300
  · rw [decide_eq_true g]
    simp only [decklelaw07_WeightPieces.j0]
    rw [if_pos (by simp), alive]
    rfl
  rw [decide_eq_false g]
  simp only [decklelaw07_WeightPieces.j0]
  have e1 : Int.tmod (wrap64 (x1 : Int)) (wrap64 ((l0.length : Int) + 1)) = ((x1 % (l0.length + 1) : Nat) : Int) := by
    rw [w64 (n := (x1 : Int)) (by omega) (by omega), w64 (n := (l0.length : Int) + 1) (by omega) (by omega), Int.tmod_eq_emod_of_nonneg (by omega)]
    simp
  have hk : x1 % (l0.length + 1) < l0.length + 1 := Nat.mod_lt _ (by omega)
  rw [if_neg (by simp), e1, w64 (by omega) (by omega)]
  clear e1
  generalize x1 % (l0.length + 1) = p at *
  rw [if_neg (by omega), if_pos (by omega), if_pos (by omega), Int.toNat_natCast, wsum (hW.take p), wsum (hW.drop p), wsum hW]
  simp only [Option.bind_some]
  have hs : (l0.take p).sum + (l0.drop p).sum = l0.sum := by rw [← List.sum_append, List.take_append_drop]
  have ra := fits_range (l0.take p).sum
  have rb := fits_range (l0.drop p).sum
  rw [wadd ra.1 ra.2 rb.1 rb.2, wadd rb.1 rb.2 ra.1 ra.2, wadd ra.1 ra.2 (by decide) (by decide)]
  simp only [Option.bind_some]
  rw [Int.add_comm (fits (l0.drop p).sum).1, if_pos rfl, if_pos rfl, Int.add_zero, fits_yes (S := (fits (l0.take p).sum).1) ra, if_pos rfl, if_pos rfl]
  by_cases ea : -9223372036854775808 ≤ (l0.take p).sum ∧ (l0.take p).sum ≤ 9223372036854775807
  · rw [fits_yes ea, if_pos rfl]
    by_cases eb : -9223372036854775808 ≤ (l0.drop p).sum ∧ (l0.drop p).sum ≤ 9223372036854775807
    · rw [fits_yes eb, if_pos rfl]
      simp only
      rw [hs, if_pos rfl]
      simp
    · rw [fits_no eb]
      rfl
  · rw [fits_no ea]
    rfl
end Go.Proofs.Ytkngkjgapgnmbaa.Pure
