/- decklelaw11.FrameCuts: for every input the call returns true; each argument reads afterwards as before. No condition. -/
import Derived.Test.YtamnnaadnjkdiaaEFrameCuts
namespace Go.Proofs.Ytamnnaadnjkdiaa.Pure
open Go.RowKit Go.Proofs.Ytamnnaadnjkdiaa.PFrameCuts Go.Proofs.YtamnnaadnjkdiaaW.PrintWords Go.Proofs.YtamnnaadnjkdiaaW.PrintLast Go.Proofs.YtamnnaadnjkdiaaW.PrintMore Go.Proofs.Ytamnnaadnjkdiaa.Wire Go.Proofs.Ytamnnaadnjkdiaa.Crc Go.Proofs.Ytamnnaadnjkdiaa.Frame Go.Proofs.Ytamnnaadnjkdiaa.FrameCutsG Go.Proofs.Ytamnnaadnjkdiaa.FrameCutsC Go.Proofs.Ytamnnaadnjkdiaa.FrameCutsE
set_option linter.unusedVariables false

theorem FrameCuts_loop (a0 kd : Int) (p t b : List Int) (hk : kd = wrap64 (Int.tmod a0 3)) (h0 : 0 ≤ kd) (h1 : kd ≤ 2) (hp : Bytes p) (hpl : p.length ≤ 300) (ht : Bytes t) (htl : t.length ≤ 300) (hb : b = fput kd p) :
    ∀ d k i, b.length - i = d → i ≤ b.length → d + 12 < k → decklelaw11_FrameCuts.l0 k a0 p t b (b.length : Int) (i : Int) = some true := by
  have hbl : b.length ≤ 400 := by rw [hb, fput_len]; have := usz_le10 (x := p.length) (by omega); omega
  have hbb : Bytes b := by rw [hb]; exact fput_bytes h0 h1 hp
  intro d
  induction d with
  | zero =>
    intro k i hd hi hk'
    obtain ⟨k, rfl⟩ : ∃ j, k = j + 1 := ⟨k - 1, by omega⟩
    rw [decklelaw11_FrameCuts.l0]
    rw [if_neg (by omega)]
    simp only [Option.bind_some, List.nil_append, List.length_nil]
    rw [if_pos (by omega), if_pos (by omega), next (hbb.app ht) (by rw [List.length_append]; omega) k (by omega)]
    simp only [Option.bind_some]
    rw [hb, next_put h0 h1 (by omega), ← hk]
    dsimp only
    rw [if_pos rfl, if_pos rfl, if_pos rfl]
    simp
  | succ d ih =>
    intro k i hd hi hk'
    obtain ⟨k, rfl⟩ : ∃ j, k = j + 1 := ⟨k - 1, by omega⟩
    rw [decklelaw11_FrameCuts.l0]
    rw [if_pos (by omega), if_pos (by omega), if_pos (by omega), Int.toNat_natCast, next (hbb.take _) (by rw [List.length_take]; omega) k (by omega)]
    simp only [Option.bind_some]
    rw [hb, next_cut h0 h1 (by omega) (by rw [← hb]; omega), ← hb]
    dsimp only
    rw [if_pos rfl, if_pos rfl, if_pos (by simp), cw64 (by omega) (by omega)]
    exact ih k (i + 1) (by omega) (by omega) (by omega)

theorem FrameCuts : decklelaw11_FrameCuts.Pure := by
  intro a0 l1 l2 w0 m1 s1 w1 m2 s2 w2
  have hb1 := Bytes.of w1
  have hb2 := Bytes.of w2
  have ha := wf_u8 w0
  have hal : ∀ k, 14 ≤ k → decklelaw11_alive.f k = some true := fun k hk => alive k hk
  refine ⟨500, ?_⟩
  unfold decklelaw11_FrameCuts.f
  rw [hal 500 (by decide)]
  simp only [Option.bind_some, if_true]
  have key : ∀ b : Bool, b = decide ((l1.length : Int) > 300 ∨ (l2.length : Int) > 300) → decklelaw11_FrameCuts.j0 500 a0 l1 l2 b = some true := by
    rintro b rfl
    show decklelaw11_FrameCuts.j0 (499 + 1) a0 l1 l2 _ = some true
    rw [decklelaw11_FrameCuts.j0]
    by_cases h : (l1.length : Int) > 300 ∨ (l2.length : Int) > 300
    · rw [if_pos (decide_eq_true h), hal 499 (by decide)]; rfl
    · rw [if_neg (show ¬ (decide ((l1.length : Int) > 300 ∨ (l2.length : Int) > 300) = true) by rw [decide_eq_true_eq]; exact h)]
      have e : wrap64 (Int.tmod a0 3) = a0 % 3 := by
        rw [Int.tmod_eq_emod_of_nonneg ha.1]
        exact cw64 (by omega) (by omega)
      rw [fwrite hb1 (by omega) 499 (by decide), if_neg (by rw [e]; omega), if_neg (by omega)]
      simp only [Option.bind_some, if_true]
      exact FrameCuts_loop a0 _ l1 l2 _ rfl (by rw [e]; omega) (by rw [e]; omega) hb1 (by omega) hb2 (by omega) rfl _ 499 0 rfl (by omega) (by have := fput_len (wrap64 (Int.tmod a0 3)) l1; have := usz_le10 (x := l1.length) (by omega); omega)
  by_cases h : (l1.length : Int) > 300
  · rw [if_pos h]; exact key _ (by simp [h])
  · rw [if_neg h]; exact key _ (by simp [h])
end Go.Proofs.Ytamnnaadnjkdiaa.Pure
