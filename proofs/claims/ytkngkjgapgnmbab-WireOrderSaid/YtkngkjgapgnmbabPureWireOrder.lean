/- decklelaw01.WireOrder: for every input the call returns true; each argument reads afterwards as before. No condition. -/
import Derived.Test.YtkngkjgapgnmbabGWireOrder
namespace Go.Proofs.Ytkngkjgapgnmbab.Pure
open Go.RowKit Go.Proofs.Ytkngkjgapgnmbab.PWireOrder Go.Proofs.YtkngkjgapgnmbabW.PrintWords Go.Proofs.YtkngkjgapgnmbabW.PrintLast Go.Proofs.YtkngkjgapgnmbabW.PrintMore Go.Proofs.Ytkngkjgapgnmbab.Wire Go.Proofs.Ytkngkjgapgnmbab.WireOrderG

theorem WireOrder : decklelaw01_WireOrder.Pure := by
  intro a0 a1 a2 h0 h1 h2
  obtain ⟨b0, c0⟩ := wf_u64 h0
  obtain ⟨b1, c1⟩ := wf_u64 h1
  obtain ⟨b2, c2⟩ := wf_i64 h2
  obtain ⟨n0, rfl⟩ := Int.eq_ofNat_of_zero_le b0
  obtain ⟨n1, rfl⟩ := Int.eq_ofNat_of_zero_le b1
  have hz := zig_range b2 c2
  have hg := zag_range b0 c0
  have hm := usz_mono (show min n0 n1 ≤ max n0 n1 by omega)
  refine ⟨12, ?_⟩
  unfold decklelaw01_WireOrder.f
  rw [show decklelaw01_alive.f = some true from rfl]
  simp only [Option.bind_some, if_true]
  rw [mn_nat, mx_nat, size _ (by omega) 12 (by omega), size _ (by omega) 12 (by omega)]
  simp only [Option.bind_some]
  rw [if_pos (by omega), zig b2 c2]
  simp only [Option.bind_some]
  rw [zag hz.1 hz.2]
  simp only [Option.bind_some]
  rw [zag_zig, if_pos rfl, zag b0 c0]
  simp only [Option.bind_some]
  rw [zig hg.1 hg.2]
  simp only [Option.bind_some]
  rw [zig_zag b0, if_pos rfl]
  congr 1
  have e : Int.tmod (zigS a2) 2 = zigS a2 % 2 := Int.tmod_eq_emod_of_nonneg hz.1
  rw [e]
  unfold zigS
  by_cases h : 0 ≤ a2
  · rw [if_pos h, show (2 * a2) % 2 = 0 by omega]
    simp
    omega
  · rw [if_neg h, show (-2 * a2 - 1) % 2 = 1 by omega]
    simp
    omega
end Go.Proofs.Ytkngkjgapgnmbab.Pure
