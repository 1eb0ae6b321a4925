/- decklelaw01.WirePuts: for every input the call returns true; each argument reads afterwards as before. No condition. -/
import Derived.Test.YtkngkjgapgnmbabGWirePuts
namespace Go.Proofs.Ytkngkjgapgnmbab.Pure
open Go.RowKit Go.Proofs.Ytkngkjgapgnmbab.PWirePuts Go.Proofs.YtkngkjgapgnmbabW.PrintWords Go.Proofs.YtkngkjgapgnmbabW.PrintLast Go.Proofs.YtkngkjgapgnmbabW.PrintMore Go.Proofs.Ytkngkjgapgnmbab.Wire Go.Proofs.Ytkngkjgapgnmbab.WirePutsG

theorem WirePuts : decklelaw01_WirePuts.Pure := by
  intro a0 a1 l2 h0 h1 m2 s2 w2
  obtain ⟨b0, c0⟩ := wf_u64 h0
  obtain ⟨b1, c1⟩ := wf_i64 h1
  obtain ⟨n0, rfl⟩ := Int.eq_ofNat_of_zero_le b0
  refine ⟨40, ?_⟩
  unfold decklelaw01_WirePuts.f
  rw [show decklelaw01_alive.f = some true from rfl]
  by_cases g : (l2.length : Int) > 2000
  · rw [if_pos g]
    rfl
  rw [if_neg g, uint n0 (by omega) 40 (by omega), refUint n0 (by omega) 40 (by omega), size n0 (by omega) 40 (by omega), putInt b1 c1 40 (by omega), refInt b1 c1 40 (by omega), putBytes l2 (by omega) 40 (by omega), refBytes l2 (by omega) 40 (by omega), zig b1 c1, refZig b1 c1, zag b0 c0, refZag b0 c0]
  simp only [Option.bind_some, if_true]
  rw [if_pos (show ((usz n0 : Nat) : Int) = ((uv n0).length : Int) from rfl)]
  simp
end Go.Proofs.Ytkngkjgapgnmbab.Pure
