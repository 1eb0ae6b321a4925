import Derived.Test.YtnmjelcicbfjdaaDoorScG
/-! Schema: the document's Check, Same. -/
namespace Go.Proofs.YtnmjelcicbfjdaaDoor.Sc
open Go.RowKit Go.Proofs.YtnmjelcicbfjdaaDoorW.PrintWords Go.Proofs.YtnmjelcicbfjdaaDoorW.PrintLast Go.Proofs.YtnmjelcicbfjdaaDoorW.PrintMore Go.Proofs.YtnmjelcicbfjdaaDoor.Wire Go.Proofs.YtnmjelcicbfjdaaDoor.PSc Go.Proofs.YtnmjelcicbfjdaaDoor.Co Go.Proofs.YtnmjelcicbfjdaaDoor.Ce
set_option linter.unusedVariables false
set_option linter.unusedSimpArgs false
set_option maxRecDepth 100000
/-- Is it the name of one of these columns? -/
def hasC (l : List Col) (s : ByteArray) : Bool := l.any (fun c => c.f0.data.toList == s.data.toList)
theorem hasC_nms (l : List Col) (s : ByteArray) : hasC l s = has (nms l) s := by
  unfold hasC has nms
  rw [List.any_reverse, List.any_map]; rfl
theorem lt_bt (s : ByteArray) {i : Nat} (h : i < s.size) : lt_ (s[i]'h) = decide (97 ≤ bt s (i : Int) ∧ bt s (i : Int) ≤ 122 ∨ 48 ≤ bt s (i : Int) ∧ bt s (i : Int) ≤ 57 ∨ bt s (i : Int) = 95) := by
  rw [bt_nat s h]
  have e := lt_iff ⟨(s[i]'h).toNat, (s[i]'h).toNat_lt⟩
  simp only [UInt8.ofNat_toNat] at e
  rw [e]
  congr 1
  apply propext
  constructor <;> intro h <;> omega
theorem str_drop (s : ByteArray) {i : Nat} (h : i < s.size) : s.data.toList.drop i = (s[i]'h) :: s.data.toList.drop (i + 1) := by
  rw [List.drop_eq_getElem_cons (by rw [data_length]; exact h)]; rfl
theorem fine1 (s : ByteArray) (l : List Col) (hl : l.length ≤ 9223372036854775806) : ∀ d k i, l.length - i = d → i ≤ l.length → d < k → deckleref05_Fine.l1 k s l (i : Int) = some (!hasC (l.drop i) s) := by
  intro d
  induction d with
  | zero =>
    intro k i hd hi hk
    obtain ⟨k, rfl⟩ : ∃ q, k = q + 1 := ⟨k - 1, by omega⟩
    rw [deckleref05_Fine.l1, if_neg (by omega), List.drop_eq_nil_of_le (by omega)]; rfl
  | succ d ih =>
    intro k i hd hi hk
    obtain ⟨k, rfl⟩ : ∃ q, k = q + 1 := ⟨k - 1, by omega⟩
    have hlt : i < l.length := by omega
    rw [deckleref05_Fine.l1, if_pos (by omega), if_pos (by omega), rd_get hlt, List.drop_eq_getElem_cons hlt]
    unfold hasC
    rw [List.any_cons]
    by_cases h : (l[i]).f0.toList = s.toList
    · rw [if_pos h]
      rw [str_toList, str_toList] at h
      rw [beq_iff_eq.2 h]; rfl
    · rw [if_neg h]
      rw [str_toList, str_toList] at h
      rw [beq_eq_false_iff_ne.2 h, Bool.false_or, ScG.w64 (n := (i : Int) + 1) (by omega) (by omega)]
      exact ih k (i + 1) (by omega) (by omega) (by omega)
theorem fine0 (s : ByteArray) (l : List Col) (hl : l.length ≤ 9223372036854775806) (hs : s.size ≤ 9223372036854775806) : ∀ d k i, s.size - i = d → i ≤ s.size → d + l.length + 1 < k → deckleref05_Fine.l0 k s l (i : Int) = some ((s.data.toList.drop i).all lt_ && !hasC l s) := by
  intro d
  induction d with
  | zero =>
    intro k i hd hi hk
    obtain ⟨k, rfl⟩ : ∃ q, k = q + 1 := ⟨k - 1, by omega⟩
    rw [deckleref05_Fine.l0, if_neg (by omega), List.drop_eq_nil_of_le (by rw [data_length]; omega)]
    have := fine1 s l hl l.length k 0 (by omega) (by omega) (by omega)
    rw [show ((0 : Nat) : Int) = 0 from rfl] at this
    rw [this]; simp
  | succ d ih =>
    intro k i hd hi hk
    obtain ⟨k, rfl⟩ : ∃ q, k = q + 1 := ⟨k - 1, by omega⟩
    have hlt : i < s.size := by omega
    have hb := lt_bt s hlt
    have step := ih k (i + 1) (by omega) (by omega) (by omega)
    rw [deckleref05_Fine.l0, if_pos (by omega), if_pos (by omega), ScG.w64 (n := (i : Int) + 1) (by omega) (by omega), str_drop s hlt, List.all_cons, hb]
    rw [show ((i + 1 : Nat) : Int) = (i : Int) + 1 from by omega] at step
    rw [step]
    generalize bt s (i : Int) = z
    by_cases c : (97 ≤ z ∧ z ≤ 122 ∨ 48 ≤ z ∧ z ≤ 57 ∨ z = 95)
    · rw [decide_eq_true c, Bool.true_and]
      (repeat' split) <;> first | rfl | omega
    · rw [decide_eq_false c, Bool.false_and, Bool.false_and]
      (repeat' split) <;> first | rfl | omega
theorem rfine (s : ByteArray) (l : List Col) (hl : l.length ≤ 9223372036854775806) (hs : s.size ≤ 9223372036854775806) (k : Nat) (hk : s.size + l.length + 1 < k) : deckleref05_Fine.f k s l = some (fine (nms l) s) := by
  unfold deckleref05_Fine.f fine
  by_cases h : s.size = 0
  · have e : s.toList = [] := by rw [str_toList, ← List.length_eq_zero_iff, data_length]; exact h
    rw [if_pos e]; simp [h]
  · rw [if_neg (ne_empty h)]
    have := fine0 s l hl hs s.size k 0 (by omega) (by omega) hk
    rw [show ((0 : Nat) : Int) = 0 from rfl] at this
    rw [this, hasC_nms, List.drop_zero]
    simp [h, lts]
theorem rck0 (l : List Col) (hl : l.length ≤ 8) : ∀ d k j, l.length - j = d → j ≤ l.length → d + 50 < k → deckleref05_Check.l0 k l (j : Int) = some (scan (nms (l.take j)) (l.drop j)) := by
  intro d
  induction d with
  | zero =>
    intro k j hd hj hk
    obtain ⟨k, rfl⟩ : ∃ q, k = q + 1 := ⟨k - 1, by omega⟩
    rw [deckleref05_Check.l0, if_neg (by omega), List.drop_eq_nil_of_le (by omega)]; rfl
  | succ d ih =>
    intro k j hd hj hk
    obtain ⟨k, rfl⟩ : ∃ q, k = q + 1 := ⟨k - 1, by omega⟩
    have hlt : j < l.length := by omega
    rw [deckleref05_Check.l0, if_pos (by omega), if_pos (by omega), scan_drop hlt]
    obtain ⟨c, hc⟩ : ∃ c, rd_T54 l (j : Int) = c := ⟨_, rfl⟩
    have hnm := nms_take hlt
    rw [hc] at hnm ⊢
    by_cases h1 : 32 < c.f0.size
    · rw [if_pos (by omega), if_pos h1]
    rw [if_neg (by omega), if_neg h1, if_pos (by omega), Int.toNat_natCast, rfine c.f0 (l.take j) (by rw [List.length_take]; omega) (by omega) k (by rw [List.length_take]; omega)]
    rw [Option.bind_some]
    cases hf : fine (nms (l.take j)) c.f0
    · rw [if_neg (by decide), if_pos rfl]
    rw [if_pos rfl, if_neg (show ¬ (true = false) from Bool.noConfusion)]
    by_cases h3 : 0 ≤ c.f1 ∧ c.f1 < 6
    · rw [if_neg (show ¬ c.f1 < 0 by omega), if_neg (show ¬ c.f1 > 5 by omega), if_neg (not_not_intro h3), ScG.w64 (n := (j : Int) + 1) (by omega) (by omega), ← hnm]
      exact ih k (j + 1) (by omega) (by omega) (by omega)
    · rw [if_pos h3]
      by_cases h4 : c.f1 < 0
      · rw [if_pos h4]
      · rw [if_neg h4, if_pos (by omega)]
theorem rck (l : List Col) : deckleref05_Check.f 64 l = some (sck l) := by
  unfold deckleref05_Check.f sck
  by_cases h1 : l.length = 0
  · rw [if_pos (by omega), if_pos h1]
  rw [if_neg (by omega), if_neg h1]
  by_cases h2 : 8 < l.length
  · rw [if_pos (by omega), if_pos h2]
  rw [if_neg (by omega), if_neg h2]
  have := rck0 l (by omega) l.length 64 0 (by omega) (by omega) (by omega)
  rw [show ((0 : Nat) : Int) = 0 from rfl] at this
  exact this
theorem rck_calls {A : Option Addr} {c : Nat} {l : List Col} (w : World) (hr : Kd.C k54 w A l.length l) (hc : l.length ≤ c) :
    Calls Tryd.prog 32 #[.slice A l.length c] w fun e w' => e = .returned (.int .i64 (sck l)) ∧ Below w.heap.size w w' :=
  (deckleref05_Check.calls 64 A c l _ w hr hc (rck l)).mono (by rintro e w' ⟨h, q⟩; exact ⟨h, q.below⟩)
theorem rsame0 (l m : List Col) (hl : l.length = m.length) (hm : l.length ≤ 9223372036854775806) : ∀ d k j, l.length - j = d → j ≤ l.length → d < k → deckleref05_Same.l0 k l m (j : Int) = some (eqs (l.drop j) (m.drop j)) := by
  intro d
  induction d with
  | zero =>
    intro k j hd hj hk
    obtain ⟨k, rfl⟩ : ∃ q, k = q + 1 := ⟨k - 1, by omega⟩
    rw [deckleref05_Same.l0, if_neg (by omega), List.drop_eq_nil_of_le (by omega), List.drop_eq_nil_of_le (by omega)]; rfl
  | succ d ih =>
    intro k j hd hj hk
    obtain ⟨k, rfl⟩ : ∃ q, k = q + 1 := ⟨k - 1, by omega⟩
    rw [deckleref05_Same.l0, if_pos (by omega), if_pos (by omega), if_pos (by omega), eqs_drop (by omega) (by omega)]
    unfold colEq
    rw [str_toList, str_toList, ScG.w64 (n := (j : Int) + 1) (by omega) (by omega)]
    generalize ((rd_T54 l (j : Int)).f0.data.toList == (rd_T54 m (j : Int)).f0.data.toList) = p
    generalize ((rd_T54 l (j : Int)).f1 == (rd_T54 m (j : Int)).f1) = q
    have := ih k (j + 1) (by omega) (by omega) (by omega)
    rw [show ((j + 1 : Nat) : Int) = (j : Int) + 1 from by omega] at this
    rw [this]
    cases p <;> cases q <;> simp
theorem rsame (l m : List Col) (hm : l.length ≤ 9223372036854775806) : deckleref05_Same.f (l.length + 1) l m = some (eqs l m) := by
  unfold deckleref05_Same.f
  by_cases h : l.length = m.length
  · rw [if_pos (by omega)]
    have := rsame0 l m h hm l.length (l.length + 1) 0 (by omega) (by omega) (by omega)
    rw [show ((0 : Nat) : Int) = 0 from rfl] at this
    exact this
  · rw [if_neg (by omega), eqs_len h]
theorem rsame_calls {A A' : Option Addr} {c c' : Nat} {l l' : List Col} (w : World) (hr : Kd.C k54 w A l.length l) (hc : l.length ≤ c) (hr' : Kd.C k54 w A' l'.length l') (hc' : l'.length ≤ c') (hm : l.length ≤ 9223372036854775806) :
    Calls Tryd.prog 33 #[.slice A l.length c, .slice A' l'.length c'] w fun e w' => e = .returned (.bool (eqs l l')) ∧ Below w.heap.size w w' :=
  (deckleref05_Same.calls (l.length + 1) A c l A' c' l' _ w hr hc hr' hc' (rsame l l' hm)).mono (by rintro e w' ⟨h, q⟩; exact ⟨h, q.below⟩)
end Go.Proofs.YtnmjelcicbfjdaaDoor.Sc
