import Derived.Test.YtnmjelcicbfjdaaDoorCeA
import Derived.Lib.ValidLaws
/-! Cell: the document's answers, as functions: UTF-8, what is wrong with a cell. -/
namespace Go.Proofs.YtnmjelcicbfjdaaDoor.Co
open Go.RowKit Go.Proofs.YtnmjelcicbfjdaaDoorW.PrintWords Go.Proofs.YtnmjelcicbfjdaaDoorW.PrintLast Go.Proofs.YtnmjelcicbfjdaaDoorW.PrintMore Go.Proofs.YtnmjelcicbfjdaaDoor.Wire Go.Proofs.YtnmjelcicbfjdaaDoor.PCo Go.Proofs.YtnmjelcicbfjdaaDoor.Ce
set_option linter.unusedVariables false
set_option linter.unusedSimpArgs false
set_option maxRecDepth 100000
theorem bt_nat (s : ByteArray) {n : Nat} (h : n < s.size) : bt s (n : Int) = ((s[n]'h).toNat : Int) := by
  unfold bt
  rw [dif_pos (by rw [Int.toNat_natCast]; exact h)]
  rfl
/-! UTF-8 -/
theorem bt_drop (s : ByteArray) {i j : Nat} (h : i + j < s.size) : bt s ((i + j : Nat) : Int) = (((s.data.toList.drop i).getD j 0).toNat : Int) := by
  rw [bt_nat s h, List.getD_eq_getElem?_getD, List.getElem?_drop, List.getElem?_eq_getElem (by rw [data_length]; exact h)]
  rfl
theorem l1_step (s : ByteArray) (k i x7 : Nat) (x4 x5 x6 : Int) (h : (x7 : Int) ≤ x5) (h4 : 0 ≤ x4) (h4' : x4 ≤ 1099511627776) (hi : i + x7 ≤ 4611686018427387904) :
    deckleref04_UTF8.l1 (k + 1) s (i : Int) x4 x5 x6 (x7 : Int) = if s.size ≤ i + x7 then some false else if bt s ((i + x7 : Nat) : Int) / 64 = 2 then deckleref04_UTF8.l1 k s (i : Int) (64 * x4 + bt s ((i + x7 : Nat) : Int) % 64) x5 x6 ((x7 + 1 : Nat) : Int) else some false := by
  have hb := bt_range s ((i + x7 : Nat) : Int)
  rw [deckleref04_UTF8.l1, if_pos h, w64 (n := (i : Int) + (x7 : Int)) (by omega) (by omega), show (i : Int) + (x7 : Int) = ((i + x7 : Nat) : Int) by omega]
  by_cases h1 : s.size ≤ i + x7
  · rw [if_pos (by omega), if_pos h1]
  · rw [if_neg (by omega), if_neg h1, if_pos (by omega), if_pos (by omega), Int.tdiv_eq_ediv_of_nonneg hb.1, Int.tmod_eq_emod_of_nonneg hb.1, show bt s ((i + x7 : Nat) : Int) / 64 % 256 = bt s ((i + x7 : Nat) : Int) / 64 by omega, w64 (n := 64 * x4) (by omega) (by omega), w64 (n := bt s ((i + x7 : Nat) : Int) % 64) (by omega) (by omega), w64 (n := 64 * x4 + bt s ((i + x7 : Nat) : Int) % 64) (by omega) (by omega), w64 (n := (x7 : Int) + 1) (by omega) (by omega)]
    rfl
theorem l1_end (s : ByteArray) (k i x7 : Nat) (x4 x6 : Int) (n : Nat) (h : n < x7) (hi : i + n ≤ 4611686018427387904) :
    deckleref04_UTF8.l1 (k + 1) s (i : Int) x4 (n : Int) x6 (x7 : Int) = if x4 < x6 ∨ x4 > 1114111 ∨ (x4 ≥ 55296 ∧ x4 < 57344) then some false else deckleref04_UTF8.l0 k s ((i + n + 1 : Nat) : Int) := by
  rw [deckleref04_UTF8.l1, if_neg (by omega), w64 (n := (n : Int) + 1) (by omega) (by omega), w64 (n := (i : Int) + ((n : Int) + 1)) (by omega) (by omega), show (i : Int) + ((n : Int) + 1) = ((i + n + 1 : Nat) : Int) by omega]
  by_cases h1 : x4 < x6
  · rw [if_pos h1, if_pos (.inl h1)]
  · rw [if_neg h1]
    by_cases h2 : x4 > 1114111
    · rw [if_pos h2, if_pos (.inr (.inl h2))]
    · rw [if_neg h2]
      by_cases h3 : x4 ≥ 55296
      · rw [if_pos h3]
        by_cases h4 : x4 < 57344
        · rw [if_pos h4, if_pos (.inr (.inr ⟨h3, h4⟩))]
        · rw [if_neg h4, if_neg (by omega)]
      · rw [if_neg h3, if_neg (by omega)]
theorem refUTF8_loop (s : ByteArray) (hs : s.size ≤ 2305843009213693952) : ∀ d k i, s.size - i ≤ d → i ≤ s.size → 10 * d + 12 ≤ k → deckleref04_UTF8.l0 k s (i : Int) = some (Lib.validD (s.data.toList.drop i)) := by
  intro d
  induction d with
  | zero =>
    intro k i hd hi hk
    obtain ⟨k, rfl⟩ : ∃ q, k = q + 1 := ⟨k - 1, by omega⟩
    rw [deckleref04_UTF8.l0, if_neg (by omega), List.drop_eq_nil_of_le (by rw [data_length]; omega)]; rfl
  | succ d ih =>
    intro k i hd hi hk
    obtain ⟨k, rfl⟩ : ∃ q, k = q + 10 := ⟨k - 10, by omega⟩
    by_cases hlt : i < s.size
    case neg => rw [deckleref04_UTF8.l0, if_neg (by omega), List.drop_eq_nil_of_le (by rw [data_length]; omega)]; rfl
    have hne : s.data.toList.drop i ≠ [] := by
      intro h
      have := congrArg List.length h
      rw [List.length_drop, data_length] at this
      simp at this
      omega
    have hlen : (s.data.toList.drop i).length = s.size - i := by rw [List.length_drop, data_length]
    have e0 := bt_drop s (i := i) (j := 0) (by omega)
    rw [Nat.add_zero] at e0
    have hD := Lib.decodeL_N (s.data.toList.drop i)
    have hstep := Lib.validD_step _ hne
    rw [hD, hlen] at hstep
    obtain ⟨b0, hb0⟩ : ∃ b0, ((s.data.toList.drop i).getD 0 0).toNat = b0 := ⟨_, rfl⟩
    obtain ⟨b1, hb1⟩ : ∃ b1, ((s.data.toList.drop i).getD 1 0).toNat = b1 := ⟨_, rfl⟩
    obtain ⟨b2, hb2⟩ : ∃ b2, ((s.data.toList.drop i).getD 2 0).toNat = b2 := ⟨_, rfl⟩
    obtain ⟨b3, hb3⟩ : ∃ b3, ((s.data.toList.drop i).getD 3 0).toNat = b3 := ⟨_, rfl⟩
    have h0 : b0 < 256 := by rw [← hb0]; exact ((s.data.toList.drop i).getD 0 0).toNat_lt
    have h1 : b1 < 256 := by rw [← hb1]; exact ((s.data.toList.drop i).getD 1 0).toNat_lt
    have h2 : b2 < 256 := by rw [← hb2]; exact ((s.data.toList.drop i).getD 2 0).toNat_lt
    have h3 : b3 < 256 := by rw [← hb3]; exact ((s.data.toList.drop i).getD 3 0).toNat_lt
    have e1 : i + 1 < s.size → bt s ((i + 1 : Nat) : Int) = (b1 : Int) := fun h => by rw [bt_drop s h, hb1]
    have e2 : i + 2 < s.size → bt s ((i + 2 : Nat) : Int) = (b2 : Int) := fun h => by rw [bt_drop s h, hb2]
    have e3 : i + 3 < s.size → bt s ((i + 3 : Nat) : Int) = (b3 : Int) := fun h => by rw [bt_drop s h, hb3]
    rw [hb0] at e0
    rw [hb0, hb1, hb2, hb3] at hstep
    clear hD hb0 hb1 hb2 hb3 hne hlen
    have hbad : Lib.decodeN (s.size - i) b0 b1 b2 b3 = (65533, 1) → Lib.validD (s.data.toList.drop i) = false := fun h => by rw [hstep, h]; rfl
    have hok : ∀ v n, Lib.decodeN (s.size - i) b0 b1 b2 b3 = (v, n) → n ≠ 1 ∨ v ≠ 65533 → Lib.validD (s.data.toList.drop i) = Lib.validD ((s.data.toList.drop i).drop n) := fun v n h hv => by
      rw [hstep, h]
      dsimp only
      rw [if_neg (by omega)]
    clear hstep
    rw [deckleref04_UTF8.l0, if_pos (by omega), if_pos (by omega), e0, w64 (n := (b0 : Int)) (by omega) (by omega), w64 (n := (i : Int) + 1) (by omega) (by omega)]
    have hnx : ∀ n, 1 ≤ n → i + n ≤ s.size → ∀ q, k ≤ q → deckleref04_UTF8.l0 q s ((i + n : Nat) : Int) = some (Lib.validD ((s.data.toList.drop i).drop n)) := fun n hn hin q hq => by
      rw [List.drop_drop]
      exact ih q (i + n) (by omega) hin (by omega)
    by_cases c0 : b0 < 128
    · rw [if_pos (by omega), hok _ _ (show Lib.decodeN (s.size - i) b0 b1 b2 b3 = (b0, 1) by unfold Lib.decodeN; rw [if_pos c0]) (by omega)]
      exact hnx 1 (by omega) (by omega) _ (by omega)
    rw [if_neg (by omega)]
    by_cases cbad : b0 < 194 ∨ 245 ≤ b0
    · rw [hbad (Lib.decodeN_bad _ _ _ _ _ (by omega))]
      by_cases g1 : (b0 : Int) ≥ 194
      · rw [if_pos g1, show decide ((b0 : Int) < 224) = false from decide_eq_false (by omega), deckleref04_UTF8.j1, if_neg (by decide), if_pos (by omega), show decide ((b0 : Int) < 240) = false from decide_eq_false (by omega), deckleref04_UTF8.j2, if_neg (by decide), if_pos (by omega), if_neg (by omega)]
      · rw [if_neg g1, deckleref04_UTF8.j1, if_neg (by decide), if_neg (by omega), deckleref04_UTF8.j2, if_neg (by decide), if_neg (by omega)]
    rw [if_pos (by omega)]
    by_cases c1 : b0 < 224
    · rw [show decide ((b0 : Int) < 224) = true from decide_eq_true (by omega), deckleref04_UTF8.j1, if_pos rfl, deckleref04_UTF8.j3, Int.tmod_eq_emod_of_nonneg (by omega), show (1 : Int) = ((1 : Nat) : Int) from rfl, l1_step s _ i 1 _ _ _ (by omega) (by omega) (by omega) (by omega)]
      by_cases g : i + 1 < s.size ∧ b1 / 64 = 2
      · rw [if_neg (by omega), e1 g.1, if_pos (by omega), l1_end s _ i 2 _ _ 1 (by omega) (by omega), if_neg (by omega)]
        rw [hok _ _ (show Lib.decodeN (s.size - i) b0 b1 b2 b3 = (b0 % 32 * 64 + b1 % 64, 2) by unfold Lib.decodeN; rw [if_neg c0, if_pos ⟨by omega, by omega, g.2⟩, if_pos (by omega)]) (by omega)]
        exact hnx 2 (by omega) (by omega) _ (by omega)
      · rw [hbad (by unfold Lib.decodeN; rw [if_neg c0, if_neg (by omega), if_neg (by omega), if_neg (by omega)])]
        by_cases g1 : i + 1 < s.size
        · rw [if_neg (by omega), e1 g1, if_neg (by omega)]
        · rw [if_pos (by omega)]
    rw [show decide ((b0 : Int) < 224) = false from decide_eq_false (by omega), deckleref04_UTF8.j1, if_neg (by decide), if_pos (by omega)]
    by_cases c2 : b0 < 240
    · rw [show decide ((b0 : Int) < 240) = true from decide_eq_true (by omega), deckleref04_UTF8.j2, if_pos rfl, deckleref04_UTF8.j3, Int.tmod_eq_emod_of_nonneg (by omega), show (1 : Int) = ((1 : Nat) : Int) from rfl, l1_step s _ i 1 _ _ _ (by omega) (by omega) (by omega) (by omega)]
      by_cases g : i + 1 < s.size ∧ b1 / 64 = 2
      · rw [if_neg (by omega), e1 g.1, if_pos (by omega), l1_step s _ i 2 _ _ _ (by omega) (by omega) (by omega) (by omega)]
        by_cases g2 : i + 2 < s.size ∧ b2 / 64 = 2
        · rw [if_neg (by omega), e2 g2.1, if_pos (by omega), show (2 : Int) = ((2 : Nat) : Int) from rfl, l1_end s _ i 3 _ _ 2 (by omega) (by omega)]
          by_cases v : b0 % 16 * 4096 + b1 % 64 * 64 + b2 % 64 ≥ 2048 ∧ (b0 % 16 * 4096 + b1 % 64 * 64 + b2 % 64 < 55296 ∨ (57344 ≤ b0 % 16 * 4096 + b1 % 64 * 64 + b2 % 64 ∧ b0 % 16 * 4096 + b1 % 64 * 64 + b2 % 64 ≤ 1114111))
          · rw [hok _ _ (show Lib.decodeN (s.size - i) b0 b1 b2 b3 = (b0 % 16 * 4096 + b1 % 64 * 64 + b2 % 64, 3) by unfold Lib.decodeN; rw [if_neg c0, if_neg (by omega), if_pos ⟨by omega, ⟨by omega, g.2⟩, by omega, g2.2⟩, if_pos v]) (by omega)]
            rw [if_neg (by omega)]
            exact hnx 3 (by omega) (by omega) _ (by omega)
          · rw [hbad (by unfold Lib.decodeN; rw [if_neg c0, if_neg (by omega), if_pos ⟨by omega, ⟨by omega, g.2⟩, by omega, g2.2⟩, if_neg v])]
            rw [if_pos (by omega)]
        · rw [hbad (by unfold Lib.decodeN; rw [if_neg c0, if_neg (by omega), if_neg (by omega), if_neg (by omega)])]
          by_cases g3 : i + 2 < s.size
          · rw [if_neg (by omega), e2 g3, if_neg (by omega)]
          · rw [if_pos (by omega)]
      · rw [hbad (by unfold Lib.decodeN; rw [if_neg c0, if_neg (by omega), if_neg (by omega), if_neg (by omega)])]
        by_cases g1 : i + 1 < s.size
        · rw [if_neg (by omega), e1 g1, if_neg (by omega)]
        · rw [if_pos (by omega)]
    rw [show decide ((b0 : Int) < 240) = false from decide_eq_false (by omega), deckleref04_UTF8.j2, if_neg (by decide), if_pos (by omega), if_pos (by omega), deckleref04_UTF8.j3, Int.tmod_eq_emod_of_nonneg (by omega), show (1 : Int) = ((1 : Nat) : Int) from rfl, l1_step s _ i 1 _ _ _ (by omega) (by omega) (by omega) (by omega)]
    by_cases g : (i + 1 < s.size ∧ b1 / 64 = 2) ∧ (i + 2 < s.size ∧ b2 / 64 = 2) ∧ (i + 3 < s.size ∧ b3 / 64 = 2)
    · obtain ⟨g1, g2, g3⟩ := g
      rw [if_neg (by omega), e1 g1.1, if_pos (by omega), l1_step s _ i 2 _ _ _ (by omega) (by omega) (by omega) (by omega), if_neg (by omega), e2 g2.1, if_pos (by omega), l1_step s _ i 3 _ _ _ (by omega) (by omega) (by omega) (by omega), if_neg (by omega), e3 g3.1, if_pos (by omega), show (3 : Int) = ((3 : Nat) : Int) from rfl, l1_end s _ i 4 _ _ 3 (by omega) (by omega)]
      by_cases v : b0 % 8 * 262144 + b1 % 64 * 4096 + b2 % 64 * 64 + b3 % 64 ≥ 65536 ∧ (b0 % 8 * 262144 + b1 % 64 * 4096 + b2 % 64 * 64 + b3 % 64 < 55296 ∨ (57344 ≤ b0 % 8 * 262144 + b1 % 64 * 4096 + b2 % 64 * 64 + b3 % 64 ∧ b0 % 8 * 262144 + b1 % 64 * 4096 + b2 % 64 * 64 + b3 % 64 ≤ 1114111))
      · rw [hok _ _ (show Lib.decodeN (s.size - i) b0 b1 b2 b3 = (b0 % 8 * 262144 + b1 % 64 * 4096 + b2 % 64 * 64 + b3 % 64, 4) by unfold Lib.decodeN; rw [if_neg c0, if_neg (by omega), if_neg (by omega), if_pos ⟨by omega, ⟨by omega, g1.2⟩, ⟨by omega, g2.2⟩, by omega, g3.2⟩, if_pos v]) (by omega)]
        rw [if_neg (by omega)]
        exact hnx 4 (by omega) (by omega) _ (by omega)
      · rw [hbad (by unfold Lib.decodeN; rw [if_neg c0, if_neg (by omega), if_neg (by omega), if_pos ⟨by omega, ⟨by omega, g1.2⟩, ⟨by omega, g2.2⟩, by omega, g3.2⟩, if_neg v])]
        rw [if_pos (by omega)]
    · rw [hbad (by unfold Lib.decodeN; rw [if_neg c0, if_neg (by omega), if_neg (by omega), if_neg (by omega)])]
      by_cases g1 : i + 1 < s.size
      case neg => rw [if_pos (by omega)]
      rw [if_neg (by omega), e1 g1]
      by_cases g1' : (b1 : Int) / 64 = 2
      case neg => rw [if_neg g1']
      rw [if_pos g1', l1_step s _ i 2 _ _ _ (by omega) (by omega) (by omega) (by omega)]
      by_cases g2 : i + 2 < s.size
      case neg => rw [if_pos (by omega)]
      rw [if_neg (by omega), e2 g2]
      by_cases g2' : (b2 : Int) / 64 = 2
      case neg => rw [if_neg g2']
      rw [if_pos g2', l1_step s _ i 3 _ _ _ (by omega) (by omega) (by omega) (by omega)]
      by_cases g3 : i + 3 < s.size
      case neg => rw [if_pos (by omega)]
      rw [if_neg (by omega), e3 g3, if_neg (by omega)]
theorem refUTF8 (s : ByteArray) (hs : s.size ≤ 2305843009213693952) (k : Nat) (hk : 10 * s.size + 12 ≤ k) : deckleref04_UTF8.f k s = some (Lib.validD s.data.toList) := by
  have := refUTF8_loop s hs s.size k 0 (by omega) (by omega) hk
  rw [List.drop_zero] at this
  exact this
/-! what is wrong with a cell -/
theorem toList_nil (s : ByteArray) : s.toList = ([] : List UInt8) ↔ s.size = 0 := by
  constructor
  · intro h
    by_cases e : s.size = 0
    · exact e
    · exact absurd h (ne_empty e)
  · intro h
    rw [size_zero h, str_toList]
theorem refCheck (kd num : Int) (s : ByteArray) (hs : s.size ≤ 2305843009213693952) (hn : 0 ≤ num) (k : Nat) (hk : 10 * s.size + 16 ≤ k) : deckleref04_Check.f k kd num s = some (chk kd num s) := by
  obtain ⟨k, rfl⟩ : ∃ q, k = q + 3 := ⟨k - 3, by omega⟩
  have hu := refUTF8 s hs (k + 1) (by omega)
  unfold deckleref04_Check.f
  by_cases h0 : kd < 0
  · rw [if_pos h0, deckleref04_Check.j0, if_pos rfl, chk, if_pos (.inl h0)]
  rw [if_neg h0]
  by_cases h5 : kd > 5
  · rw [decide_eq_true h5, deckleref04_Check.j0, if_pos rfl, chk, if_pos (.inr h5)]
  rw [decide_eq_false h5, deckleref04_Check.j0, if_neg (by decide)]
  rw [chk, if_neg (show ¬(kd < 0 ∨ 5 < kd) by omega)]
  simp only [deckleref04_Check.j1, deckleref04_Check.j2, hu, Option.bind_some, toList_nil]
  rcases (show kd = 0 ∨ kd = 1 ∨ kd = 2 ∨ kd = 3 ∨ kd = 4 ∨ kd = 5 by omega) with rfl | rfl | rfl | rfl | rfl | rfl
  · by_cases z : s.size = 0
    · simp [z]
    · simp [z]
  · by_cases z : s.size = 0
    · simp [z]
    · simp [z]
  · by_cases z : s.size = 0
    · by_cases n1 : num > 1
      · simp [z, n1]
        try omega
      · simp [z, n1]
        try omega
    · by_cases n1 : num > 1
      · simp [z, n1]
        try omega
      · simp [z, n1]
        try omega
  · by_cases z : num = 0
    · simp [z]
      split <;> split <;> first | rfl | omega
    · simp [z]
  · by_cases z : num = 0
    · cases hv : Lib.validD s.data.toList with
      | true =>
        simp [z, hv]
        split <;> split <;> first | rfl | omega
      | false => simp [z, hv]
    · simp [z]
  · by_cases z : s.size = 0
    · simp [z]
    · simp [z]
/-! bounds -/
def bound (n b : Int) : Int := if n < 0 ∨ b < 0 ∨ n > 16777216 ∨ b > 16777216 then 0 else 10 * n + b
/-! ### the document's call -/
theorem rcheck_calls (k num : Int) (s : ByteArray) (w : World) (hs : s.size ≤ 2305843009213693952) (hn : 0 ≤ num) : Calls Tryd.prog 23 #[.int .i64 k, .agg #[.int .u64 num, .string s]] w fun e w' => e = .returned (.int .i64 (chk k num s)) ∧ Below w.heap.size w w' :=
  deckleref04_Check.calls (10 * s.size + 16) k num s _ w (refCheck k num s hs hn _ (Nat.le_refl _))
end Go.Proofs.YtnmjelcicbfjdaaDoor.Co
