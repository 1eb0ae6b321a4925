/- decklelaw01.WireBack: for every input the call returns true; each argument reads afterwards as before. No condition. -/
import Derived.Test.YtkngkjgapgnmbabGWireBack
namespace Go.Proofs.Ytkngkjgapgnmbab.Pure
open Go.RowKit Go.Proofs.Ytkngkjgapgnmbab.PWireBack Go.Proofs.YtkngkjgapgnmbabW.PrintWords Go.Proofs.YtkngkjgapgnmbabW.PrintLast Go.Proofs.YtkngkjgapgnmbabW.PrintMore Go.Proofs.Ytkngkjgapgnmbab.Wire Go.Proofs.Ytkngkjgapgnmbab.WireBackG
set_option linter.unusedVariables false
set_option linter.unusedSimpArgs false

theorem gb_app {n : Nat} (hn : n < 18446744073709551616) (t : List Int) (m : Int) : gb (uv n ++ t) m =
    if m < 0 ∨ (n : Int) > m then ([], 0, 13) else if n > t.length then ([], 0, 5) else (t.take n, ((usz n + n : Nat) : Int), 0) := by
  have hl : (uv n).length = usz n := rfl
  unfold gb
  rw [gu_uv hn]
  simp only [ne_eq, not_true_eq_false, if_false, Int.toNat_natCast, List.length_append, hl]
  by_cases h1 : m < 0 ∨ (n : Int) > m
  · rw [if_pos h1, if_pos h1]
  · rw [if_neg h1, if_neg h1]
    by_cases h2 : n > t.length
    · rw [if_pos (by omega), if_pos h2]
    · rw [if_neg (by omega), if_neg h2, List.take_append, hl, List.take_of_length_le (by omega), List.drop_append, hl, List.drop_eq_nil_of_le (by omega)]
      simp
theorem loopB (l : List Int) (hb : Bytes l) (hl : l.length ≤ 1000) : ∀ d k i, (uv l.length ++ l).length - i = d → i ≤ (uv l.length ++ l).length → d + 20 < k →
    decklelaw01_WireBack.l1 k l (uv l.length ++ l) (((uv l.length ++ l).length : Nat) : Int) (i : Int) = some true := by
  have hu : (uv l.length).length = usz l.length := rfl
  have hq : Bytes (uv l.length ++ l) := (Bytes.uv _).app hb
  have hs := usz_le10 (x := l.length) (by omega)
  have hle : (uv l.length ++ l).length ≤ 1010 := by rw [List.length_append, hu]; omega
  intro d
  induction d with
  | zero =>
    intro k i hd hi hk
    obtain ⟨k, rfl⟩ : ∃ m, k = m + 1 := ⟨k - 1, by omega⟩
    simp only [decklelaw01_WireBack.l1]
    rw [if_neg (by omega), w64 (by omega) (by omega), getBytes _ hq (by omega) _ (by omega) k (by omega)]
    simp only [Option.bind_some]
    rw [gb_app (by omega), if_pos (by omega), show decklelaw01_alive.f = some true from rfl]
    simp
  | succ d ih =>
    intro k i hd hi hk
    obtain ⟨k, rfl⟩ : ∃ m, k = m + 1 := ⟨k - 1, by omega⟩
    simp only [decklelaw01_WireBack.l1]
    rw [if_pos (by omega), if_pos (by omega), if_pos (by omega), Int.toNat_natCast, getBytes _ (hq.take i) (by rw [List.length_take]; omega) _ (by omega) k (by omega)]
    simp only [Option.bind_some]
    have e : gb ((uv l.length ++ l).take i) (l.length : Int) = ([], 0, 5) := by
      rw [List.take_append, hu]
      by_cases h : i < usz l.length
      · rw [show i - usz l.length = 0 by omega, List.take_zero, List.append_nil]
        unfold gb
        rw [gu_short (by omega) h]
        simp
      · rw [List.take_of_length_le (by omega), gb_app (by omega), if_neg (by omega), if_pos (by rw [List.length_take]; rw [List.length_append, hu] at hd; omega)]
    rw [e]
    simp only [List.length_nil]
    rw [if_pos (by simp), if_pos (by simp), w64 (by omega) (by omega)]
    exact ih k (i + 1) (by omega) (by omega) (by omega)
theorem loopA (z : Nat) (hz : z < 18446744073709551616) (l : List Int) (hb : Bytes l) (hl : l.length ≤ 1000) : ∀ d k i, (uv z).length - i = d → i ≤ (uv z).length → d + 1100 < k →
    decklelaw01_WireBack.l0 k l (uv z) (uv l.length ++ l) (((uv z).length : Nat) : Int) (i : Int) = some true := by
  have hu : (uv l.length).length = usz l.length := rfl
  have hs := usz_le10 (x := l.length) (by omega)
  have hle : (uv l.length ++ l).length ≤ 1010 := by rw [List.length_append, hu]; omega
  have hzl : (uv z).length = usz z := rfl
  have hs2 := usz_le10 hz
  intro d
  induction d with
  | zero =>
    intro k i hd hi hk
    obtain ⟨k, rfl⟩ : ∃ m, k = m + 1 := ⟨k - 1, by omega⟩
    simp only [decklelaw01_WireBack.l0]
    rw [if_neg (by omega)]
    exact loopB l hb hl _ k 0 rfl (by omega) (by omega)
  | succ d ih =>
    intro k i hd hi hk
    obtain ⟨k, rfl⟩ : ∃ m, k = m + 1 := ⟨k - 1, by omega⟩
    simp only [decklelaw01_WireBack.l0]
    rw [if_pos (by omega), if_pos (by omega), if_pos (by omega), Int.toNat_natCast, getInt _ ((Bytes.uv z).take i) k (by omega)]
    simp only [Option.bind_some]
    rw [gu_short hz (by omega)]
    simp only
    rw [if_pos (by simp), w64 (by omega) (by omega)]
    exact ih k (i + 1) (by omega) (by omega) (by omega)
theorem WireBack : decklelaw01_WireBack.Pure := by
  intro a0 l1 l2 h0 m1 s1 w1 m2 s2 w2
  obtain ⟨b0, c0⟩ := wf_i64 h0
  have hb1 := Bytes.of w1
  have hb2 := Bytes.of w2
  have hz := zig_range b0 c0
  refine ⟨3000, ?_⟩
  have hal : decklelaw01_alive.f = some true := rfl
  unfold decklelaw01_WireBack.f
  by_cases g1 : (l1.length : Int) > 1000
  · rw [if_pos g1]
    simp only [decklelaw01_WireBack.j0]
    rw [if_pos (by simp), hal]
    rfl
  rw [if_neg g1]
  by_cases g2 : (l2.length : Int) > 1000
  · rw [decide_eq_true g2]
    simp only [decklelaw01_WireBack.j0]
    rw [if_pos (by simp), hal]
    rfl
  rw [decide_eq_false g2]
  simp only [decklelaw01_WireBack.j0]
  generalize hzn : (zigS a0).toNat = z
  have hzz : z < 18446744073709551616 := by omega
  have hzi : (z : Int) = zigS a0 := by omega
  have hu : (uv l1.length).length = usz l1.length := rfl
  have hs := usz_le10 (x := l1.length) (by omega)
  have hzl : (uv z).length = usz z := rfl
  have hs2 := usz_le10 hzz
  have hi := putInt b0 c0 2999 (by omega)
  rw [hzn] at hi
  rw [if_neg (by simp), hi]
  simp only [Option.bind_some]
  rw [putBytes l1 (by omega) 2999 (by omega)]
  simp only [Option.bind_some, List.nil_append, List.length_append, List.length_nil]
  rw [if_pos (by omega), if_pos (by omega), getInt _ ((Bytes.uv z).app hb2) 2999 (by omega), gu_uv hzz]
  simp only [Option.bind_some]
  have hgb : gb (uv l1.length ++ (l1 ++ l2)) (l1.length : Int) = (l1, ((usz l1.length + l1.length : Nat) : Int), 0) := by
    rw [gb_app (by omega), if_neg (by omega), if_neg (by rw [List.length_append]; omega)]
    simp
  rw [if_pos (by omega), if_pos (by omega), getBytes _ (((Bytes.uv _).app hb1).app hb2) (by simp only [List.length_append]; omega) _ (by omega) 2999 (by omega), List.append_assoc, hgb]
  simp only [Option.bind_some]
  rw [hzi, zag_zig, hzl, hu]
  simp only [eq_self, if_true, bne_self_eq_false]
  simp only [decklelaw01_WireBack.j1]
  rw [if_neg (by simp)]
  exact loopA z hzz l1 hb1 (by omega) _ 2998 0 rfl (by omega) (by omega)
end Go.Proofs.Ytkngkjgapgnmbab.Pure
