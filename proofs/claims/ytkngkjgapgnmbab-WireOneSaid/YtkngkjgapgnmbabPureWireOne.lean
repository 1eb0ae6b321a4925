/- decklelaw01.WireOne: for every input the call returns true; each argument reads afterwards as before. No condition. -/
import Derived.Test.YtkngkjgapgnmbabGWireOne
namespace Go.Proofs.Ytkngkjgapgnmbab.Pure
open Go.RowKit Go.Proofs.Ytkngkjgapgnmbab.PWireOne Go.Proofs.YtkngkjgapgnmbabW.PrintWords Go.Proofs.YtkngkjgapgnmbabW.PrintLast Go.Proofs.YtkngkjgapgnmbabW.PrintMore Go.Proofs.Ytkngkjgapgnmbab.Wire Go.Proofs.Ytkngkjgapgnmbab.WireOneG
set_option linter.unusedVariables false

theorem second (l : List Int) (hb : Bytes l) (hl : l.length ≤ 2000) (k : Nat) (hk : 20 ≤ k) : decklelaw01_WireOne.j0 k l false = some true := by
  have hal : decklelaw01_alive.f = some true := rfl
  obtain ⟨k, rfl⟩ : ∃ m, k = m + 1 := ⟨k - 1, by omega⟩
  simp only [decklelaw01_WireOne.j0]
  rw [if_neg (by simp), getBytes l hb (by omega) _ (by omega) k (by omega)]
  simp only [Option.bind_some]
  by_cases h : (gu l).2.2 = 0
  · obtain ⟨x, h1, h2, h3, h4, h5, h6⟩ := gu_ok hb h
    have hg : gb l (l.length : Int) = if x + usz x > l.length then ([], 0, if x > l.length then 13 else 5) else ((l.take (usz x + x)).drop (usz x), ((usz x + x : Nat) : Int), 0) := by
      unfold gb
      rw [h6]
      simp only [ne_eq, not_true_eq_false, if_false, Int.toNat_natCast]
      by_cases a : x > l.length
      · rw [if_pos (by omega), if_pos (by omega), if_pos a]
      · rw [if_neg (by omega)]
        by_cases b : x + usz x > l.length
        · rw [if_pos (by omega), if_pos b, if_neg a]
        · rw [if_neg (by omega), if_neg b]
          simp
    rw [hg]
    by_cases b : x + usz x > l.length
    · rw [if_pos b]
      by_cases a : x > l.length
      · rw [if_pos a]
        simp [hal]
      · rw [if_neg a]
        simp [hal]
    · rw [if_neg b]
      simp only [if_true]
      have hc : ((l.take (usz x + x)).drop (usz x)).length = x := by rw [List.length_drop, List.length_take]; omega
      rw [if_neg (by omega), if_neg (by omega), putBytes _ (by omega) k (by omega), hc]
      simp only [Option.bind_some, Int.toNat_natCast]
      have e : uv x ++ (l.take (usz x + x)).drop (usz x) = l.take (usz x + x) := by
        rw [h1]
        have := List.take_append_drop (usz x) (l.take (usz x + x))
        rw [List.take_take, Nat.min_eq_left (by omega)] at this
        exact this
      rw [e, if_pos (by omega), if_pos (by omega), if_pos rfl, hal]
      rfl
  · have hg : gb l (l.length : Int) = ([], 0, (gu l).2.2) := by
      unfold gb
      rw [if_pos h]
    rw [hg]
    simp only
    rw [if_neg h, hal]
    rfl
theorem WireOne : decklelaw01_WireOne.Pure := by
  intro l0 m0 s0 w0
  have hb := Bytes.of w0
  have hal : decklelaw01_alive.f = some true := rfl
  refine ⟨40, ?_⟩
  unfold decklelaw01_WireOne.f
  by_cases g1 : (l0.length : Int) > 2000
  · rw [if_pos g1, hal]
    rfl
  rw [if_neg g1, getUint l0 hb 40 (by omega)]
  simp only [Option.bind_some]
  by_cases h : (gu l0).2.2 = 0
  · obtain ⟨x, h1, h2, h3, h4, h5, h6⟩ := gu_ok hb h
    rw [if_pos h, h6]
    simp only [Int.toNat_natCast]
    rw [if_neg (by omega), if_neg (by omega), if_neg (by omega), uint x h5 40 (by omega)]
    simp only [Option.bind_some]
    rw [if_pos (by omega), if_pos (by omega), ← h1]
    simp only [bne_self_eq_false]
    exact second l0 hb (by omega) 40 (by omega)
  · rw [if_neg h]
    exact second l0 hb (by omega) 40 (by omega)
end Go.Proofs.Ytkngkjgapgnmbab.Pure
