/- decklelaw07.WeightOrder: for every input the call returns true; each argument reads afterwards as before. No condition. -/
import Derived.Test.YtkngkjgapgnmbaaGWeightOrder
namespace Go.Proofs.Ytkngkjgapgnmbaa.Pure
open Go.RowKit Go.Proofs.Ytkngkjgapgnmbaa.PWeightOrder Go.Proofs.YtkngkjgapgnmbaaW.PrintWords Go.Proofs.YtkngkjgapgnmbaaW.PrintLast Go.Proofs.YtkngkjgapgnmbaaW.PrintMore Go.Proofs.Ytkngkjgapgnmbaa.Wire Go.Proofs.Ytkngkjgapgnmbaa.WeightOrderD
set_option linter.unusedVariables false

theorem turned_end (S : Int) (T : Int) (hT : T = -S) :
    (if (fits S).2 = 0 then (if (fits S).1 = (-9223372036854775808) then (if (fits T).2 = 12 then (some true) else (none)) else (if (fits T).2 = 0 then (some ((fits T).1 == (wrap64 (-(fits S).1)))) else (none))) else (if (fits T).2 = 12 then (some true) else (if (fits T).2 = 0 then (some ((fits T).1 == (-9223372036854775808))) else (none)))) = some true := by
  subst hT
  by_cases h : -9223372036854775808 ≤ S ∧ S ≤ 9223372036854775807
  · rw [fits_yes h]
    simp only [if_true]
    by_cases hm : S = -9223372036854775808
    · rw [if_pos hm, fits_no (by omega)]
      rfl
    · rw [if_neg hm, fits_yes (by omega), w64 (by omega) (by omega)]
      simp
  · rw [fits_no h, if_neg (by decide)]
    by_cases hm : -9223372036854775808 ≤ -S ∧ -S ≤ 9223372036854775807
    · rw [fits_yes hm, if_neg (by simp), if_pos rfl]
      have : -S = -9223372036854775808 := by omega
      simp only
      rw [this]
      rfl
    · rw [fits_no hm, if_pos rfl]
theorem turn_loop (l : List Int) (hW : Ws l) (hl : l.length ≤ 300) : ∀ d k i (acc : List Int), l.length - i = d → i ≤ l.length → Ws acc → acc.sum = -(l.take i).sum → acc.length = i → d < k →
    decklelaw07_WeightOrder.l1 k (fits l.sum).1 (fits l.sum).2 acc l (l.length : Int) (i : Int) = some true := by
  intro d
  induction d with
  | zero =>
    intro k i acc hd hi ha hs hn hk
    obtain rfl : i = l.length := by omega
    obtain ⟨k, rfl⟩ : ∃ m, k = m + 1 := ⟨k - 1, by omega⟩
    simp only [decklelaw07_WeightOrder.l1]
    rw [if_neg (by omega), wsum ha]
    simp only [Option.bind_some]
    rw [List.take_length] at hs
    exact turned_end l.sum acc.sum hs
  | succ d ih =>
    intro k i acc hd hi ha hs hn hk
    obtain ⟨k, rfl⟩ : ∃ m, k = m + 1 := ⟨k - 1, by omega⟩
    have hlt : i < l.length := by omega
    have hg := hW.get i
    have hs2 : (l.take (i + 1)).sum = (l.take i).sum + rd l i := by
      rw [List.take_succ_eq_append_getElem hlt, List.sum_append]
      unfold rd
      rw [Int.toNat_natCast, List.getD_eq_getElem?_getD, List.getElem?_eq_getElem hlt]
      simp
    simp only [decklelaw07_WeightOrder.l1]
    rw [if_pos (by omega), if_pos (by omega), if_pos (by omega)]
    by_cases hm : rd l (i : Int) = -9223372036854775808
    · rw [if_pos hm]
    · rw [if_neg hm, if_pos (by omega), w64 (n := (i : Int) + 1) (by omega) (by omega), w64 (n := -rd l (i : Int)) (by omega) (by omega)]
      refine ih k (i + 1) _ (by omega) (by omega) (ha.app (Ws.one (by omega) (by omega))) ?_ (by simp [hn]) (by omega)
      rw [List.sum_append, hs, hs2]
      simp
      omega
theorem swap_loop (l s : List Int) (hW : Ws l) (hl : l.length ≤ 300) (hs : ∀ x ∈ s, (Lit.int .u16 x).wf = true) (hsl : s.length ≤ 300) (w : Int) (hw0 : -9223372036854775808 < w) (hw1 : w ≤ 9223372036854775807) :
    ∀ d k i (m : List Int), s.length - i = d → i ≤ s.length → Ws m → m.sum = l.sum → m.length = l.length → d + 400 < k →
    decklelaw07_WeightOrder.l0 k l w (fits l.sum).1 (fits l.sum).2 m s (s.length : Int) (i : Int) = some true := by
  intro d
  induction d with
  | zero =>
    intro k i m hd hi hm hsum hlen hk
    obtain rfl : i = s.length := by omega
    obtain ⟨k, rfl⟩ : ∃ q, k = q + 1 := ⟨k - 1, by omega⟩
    have hall : Ws ([w] ++ m ++ [-w]) := ((Ws.one (by omega) hw1).app hm).app (Ws.one (by omega) (by omega))
    have hsa : ([w] ++ m ++ [-w]).sum = l.sum := by
      rw [List.sum_append, List.sum_append, hsum]
      simp
      omega
    simp only [decklelaw07_WeightOrder.l0]
    rw [if_neg (by omega)]
    simp only [Option.bind_some]
    rw [if_pos (by simp; omega), if_pos (by simp; omega), w64 (n := -w) (by omega) (by omega), wsum hall, hsa]
    simp only [Option.bind_some, if_true, bne_self_eq_false]
    obtain ⟨k, rfl⟩ : ∃ q, k = q + 1 := ⟨k - 1, by omega⟩
    simp only [decklelaw07_WeightOrder.j2]
    rw [if_neg (by simp)]
    exact turn_loop l hW hl _ k 0 [] rfl (by omega) (fun c hc => by simp at hc) (by simp) rfl (by omega)
  | succ d ih =>
    intro k i m hd hi hm hsum hlen hk
    obtain ⟨k, rfl⟩ : ∃ q, k = q + 1 := ⟨k - 1, by omega⟩
    have hlt : i < s.length := by omega
    have hr : rd s (i : Int) = s[i] := by unfold rd; rw [Int.toNat_natCast, List.getD_eq_getElem?_getD, List.getElem?_eq_getElem hlt]; rfl
    obtain ⟨r0, r1⟩ := wf_u16 (hs _ (List.getElem_mem hlt))
    obtain ⟨x, hx⟩ := Int.eq_ofNat_of_zero_le r0
    simp only [decklelaw07_WeightOrder.l0]
    rw [if_pos (by omega), if_pos (by omega), if_pos (by omega), hr, hx]
    by_cases hz : (m.length : Int) > 0
    · have e1 : Int.tmod (wrap64 (x : Int)) (m.length : Int) = ((x % m.length : Nat) : Int) := by
        rw [w64 (by omega) (by omega), Int.tmod_eq_emod_of_nonneg (by omega)]
        simp
      have e2 : Int.tmod (i : Int) (m.length : Int) = ((i % m.length : Nat) : Int) := by
        rw [Int.tmod_eq_emod_of_nonneg (by omega)]
        simp
      have p1 : x % m.length < m.length := Nat.mod_lt _ (by omega)
      have p2 : i % m.length < m.length := Nat.mod_lt _ (by omega)
      rw [if_pos hz, e1, e2]
      clear e1 e2
      generalize x % m.length = b at *
      generalize i % m.length = a at *
      have ga := hm.get a
      have gb := hm.get b
      have z0 : ¬ (m.length : Int) = 0 := by omega
      have z1 : (0 : Int) ≤ (b : Int) := by omega
      have z2 : (b : Int) < (m.length : Int) := by omega
      have z3 : (0 : Int) ≤ (a : Int) := by omega
      have z4 : (a : Int) < (m.length : Int) := by omega
      rw [if_neg z0, if_pos z1, if_pos z2, if_pos z3, if_pos z4, Int.toNat_natCast, Int.toNat_natCast, w64 (by omega) (by omega)]
      refine ih k (i + 1) _ (by omega) (by omega) ((hm.set a gb.1 gb.2).set b ga.1 ga.2) ?_ (by rw [List.length_set, List.length_set, hlen]) (by omega)
      rw [sum_swap m a b p2 p1, hsum]
    · rw [if_neg hz, w64 (by omega) (by omega)]
      exact ih k (i + 1) m (by omega) (by omega) hm hsum hlen (by omega)
theorem WeightOrder : decklelaw07_WeightOrder.Pure := by
  intro l0 l1 a2 m0 s0 w0 m1 s1 w1 h2
  obtain ⟨b2, c2⟩ := wf_i64 h2
  have hW := Ws.of w0
  refine ⟨2000, ?_⟩
  unfold decklelaw07_WeightOrder.f
  rw [alive]
  simp only [Option.bind_some, if_true]
  by_cases g1 : (l0.length : Int) > 300
  · rw [if_pos g1]
    simp only [decklelaw07_WeightOrder.j0]
    rw [if_pos (by simp), alive]
    rfl
  rw [if_neg g1]
  by_cases g2 : (l1.length : Int) > 300
  · rw [if_pos g2]
    simp only [decklelaw07_WeightOrder.j0]
    rw [if_pos (by simp), alive]
    rfl
  rw [if_neg g2]
  by_cases g3 : a2 = -9223372036854775808
  · rw [show (a2 == -9223372036854775808) = true from beq_iff_eq.2 g3]
    simp only [decklelaw07_WeightOrder.j0]
    rw [if_pos (by simp), alive]
    rfl
  rw [show (a2 == -9223372036854775808) = false from beq_eq_false_iff_ne.2 g3]
  simp only [decklelaw07_WeightOrder.j0]
  rw [if_neg (by simp), wsum hW]
  simp only [Option.bind_some, List.nil_append, List.length_nil]
  rw [if_pos (by omega)]
  exact swap_loop l0 l1 hW (by omega) w1 (by omega) a2 (by omega) c2 l1.length 1999 0 l0 (by omega) (by omega) hW rfl rfl (by omega)
end Go.Proofs.Ytkngkjgapgnmbaa.Pure
