/- decklelaw02.CrcSums: for every input the call returns true; each argument reads afterwards as before. No condition. -/
import Derived.Test.YtkngkjgapgnmbaaGCrcSums
namespace Go.Proofs.Ytkngkjgapgnmbaa.Pure
open Go.RowKit Go.Proofs.Ytkngkjgapgnmbaa.PCrcSums Go.Proofs.YtkngkjgapgnmbaaW.PrintWords Go.Proofs.YtkngkjgapgnmbaaW.PrintLast Go.Proofs.YtkngkjgapgnmbaaW.PrintMore Go.Proofs.Ytkngkjgapgnmbaa.Wire Go.Proofs.Ytkngkjgapgnmbaa.Crc Go.Proofs.Ytkngkjgapgnmbaa.CrcSumsC
set_option linter.unusedVariables false

theorem CrcSums : decklelaw02_CrcSums.Pure := by
  intro l0 l1 m0 s0 w0 m1 s1 w1
  have hb0 := Bytes.of w0
  have hb1 := Bytes.of w1
  have hal : decklelaw02_alive.f = some true := rfl
  refine ⟨10 * (l0.length + l1.length) + 20, ?_⟩
  unfold decklelaw02_CrcSums.f
  by_cases g1 : (l0.length : Int) > 3000
  · rw [if_pos g1]
    simp only [decklelaw02_CrcSums.j0]
    rw [if_pos (by simp), hal]
    rfl
  rw [if_neg g1]
  by_cases g2 : (l1.length : Int) > 3000
  · rw [decide_eq_true g2]
    simp only [decklelaw02_CrcSums.j0]
    rw [if_pos (by simp), hal]
    rfl
  rw [decide_eq_false g2]
  simp only [decklelaw02_CrcSums.j0]
  generalize hk : 10 * (l0.length + l1.length) + 19 = k
  rw [if_neg (by simp)]
  simp only [Option.bind_some, List.nil_append, List.length_nil]
  have hs := sum_lt l0
  have hF0 := F_lt hb0
  rw [if_pos (by omega), if_pos (by omega), rsum hb0 (by omega) k (by omega), hal]
  simp only [Option.bind_some, if_true]
  rw [csum hb0]
  simp only [Option.bind_some]
  rw [if_pos (by simp), more hb1 (sum l0) hs, rsum (hb0.app hb1) (by rw [List.length_append]; omega) k (by rw [List.length_append]; omega)]
  simp only [Option.bind_some]
  have e : (4294967295 - fold (4294967295 - sum l0) l1) = sum (l0 ++ l1) := by
    unfold sum
    rw [show 4294967295 - (4294967295 - F l0) = F l0 by omega]
    show _ = 4294967295 - fold 4294967295 (l0 ++ l1)
    rw [fold_append]
    rfl
  have e2 := more hb1 0 (by decide)
  rw [show ((0 : Nat) : Int) = 0 from rfl] at e2
  rw [e, if_pos (by simp), e2, csum hb1]
  simp only [Option.bind_some]
  rw [if_pos (show ((4294967295 - fold (4294967295 - 0) l1 : Nat) : Int) = (sum l1 : Int) from rfl), cput _ k (by omega), rput _ hs]
  simp only [Option.bind_some]
  rw [if_pos (by simp), cseal hb0 (by omega) k (by omega), rseal hb0 (by omega) k (by omega)]
  simp
end Go.Proofs.Ytkngkjgapgnmbaa.Pure
