import Derived.Test.YtkngkjgapgnmbaaWireSpec2
import Derived.Test.YtkngkjgapgnmbaaPWeightSumsx1
namespace Go.Proofs.Ytkngkjgapgnmbaa.WeightSumsD
open Go.RowKit Go.Proofs.YtkngkjgapgnmbaaW.PrintWords Go.Proofs.YtkngkjgapgnmbaaW.PrintLast Go.Proofs.YtkngkjgapgnmbaaW.PrintMore Go.Proofs.Ytkngkjgapgnmbaa.Wire Go.Proofs.Ytkngkjgapgnmbaa.PWeightSums
set_option linter.unusedVariables false
set_option linter.unusedSimpArgs false
theorem w64 {n : Int} (h0 : -9223372036854775808 ≤ n) (h1 : n ≤ 9223372036854775807) : wrap64 n = n := by
  unfold wrap64
  omega
/-- Weights. -/
def Ws (l : List Int) : Prop := ∀ c ∈ l, -9223372036854775808 ≤ c ∧ c ≤ 9223372036854775807
theorem Ws.of {l : List Int} (h : ∀ x ∈ l, (Lit.int .i64 x).wf = true) : Ws l := fun c hc => wf_i64 (h c hc)
theorem Ws.app {a b : List Int} (h : Ws a) (k : Ws b) : Ws (a ++ b) := fun c hc => by
  rcases List.mem_append.1 hc with x | x
  · exact h c x
  · exact k c x
theorem Ws.one {x : Int} (h : -9223372036854775808 ≤ x) (k : x ≤ 9223372036854775807) : Ws [x] := fun c hc => by
  rw [List.mem_singleton] at hc
  subst hc
  exact ⟨h, k⟩
theorem Ws.take {l : List Int} (h : Ws l) (n : Nat) : Ws (l.take n) := fun c hc => h c (List.mem_of_mem_take hc)
theorem Ws.drop {l : List Int} (h : Ws l) (n : Nat) : Ws (l.drop n) := fun c hc => h c (List.mem_of_mem_drop hc)
theorem Ws.get {l : List Int} (h : Ws l) (i : Nat) : -9223372036854775808 ≤ rd l i ∧ rd l i ≤ 9223372036854775807 := by
  unfold rd
  rw [Int.toNat_natCast, List.getD_eq_getElem?_getD]
  by_cases hi : i < l.length
  · rw [List.getElem?_eq_getElem hi]
    exact h _ (List.getElem_mem hi)
  · rw [List.getElem?_eq_none (by omega)]
    simp
theorem Ws.set {l : List Int} (h : Ws l) (i : Nat) {v : Int} (h0 : -9223372036854775808 ≤ v) (h1 : v ≤ 9223372036854775807) : Ws (l.set i v) := fun c hc => by
  rcases List.mem_or_eq_of_mem_set hc with hc | rfl
  · exact h c hc
  · exact ⟨h0, h1⟩
def fits (S : Int) : Int × Int := if -9223372036854775808 ≤ S ∧ S ≤ 9223372036854775807 then (S, 0) else (0, 12)
theorem fits_yes {S : Int} (h : -9223372036854775808 ≤ S ∧ S ≤ 9223372036854775807) : fits S = (S, 0) := if_pos h
theorem fits_no {S : Int} (h : ¬ (-9223372036854775808 ≤ S ∧ S ≤ 9223372036854775807)) : fits S = (0, 12) := if_neg h
theorem fits_range (S : Int) : -9223372036854775808 ≤ (fits S).1 ∧ (fits S).1 ≤ 9223372036854775807 := by
  unfold fits
  split
  · assumption
  · exact ⟨by decide, by decide⟩
theorem wsum {l : List Int} (h : Ws l) : weight_Sum.f l = some (fits l.sum) := if_pos h
theorem alive : decklelaw07_alive.f = some true := by decide +kernel
theorem sum_set (l : List Int) : ∀ (i : Nat) (v : Int), i < l.length → (l.set i v).sum = l.sum - l.getD i 0 + v := by
  induction l with
  | nil => intro i v h; simp at h
  | cons c t ih =>
    intro i v h
    cases i with
    | zero =>
      simp
      omega
    | succ i =>
      rw [List.set_cons_succ, List.sum_cons, ih i v (by simpa using h), List.sum_cons, List.getD_cons_succ]
      omega
theorem sum_swap (m : List Int) (a b : Nat) (ha : a < m.length) (hb : b < m.length) : ((m.set a (rd m b)).set b (rd m a)).sum = m.sum := by
  have hra : rd m (a : Int) = m.getD a 0 := by unfold rd; rw [Int.toNat_natCast]
  have hrb : rd m (b : Int) = m.getD b 0 := by unfold rd; rw [Int.toNat_natCast]
  rw [hra, hrb, sum_set _ b _ (by rw [List.length_set]; exact hb), sum_set _ a _ ha]
  by_cases e : a = b
  · subst e
    have e2 : (m.set a (m.getD a 0)).getD a 0 = m.getD a 0 := by
      rw [List.getD_eq_getElem?_getD (l := m.set a (m.getD a 0)), List.getElem?_set_self ha]
      rfl
    rw [e2]
    omega
  · rw [List.getD_eq_getElem?_getD (l := m.set a (m.getD b 0)), List.getElem?_set_ne e, ← List.getD_eq_getElem?_getD]
    omega
theorem rplus {h l w : Int} (hh : -1152921504606846976 ≤ h) (hh1 : h ≤ 1152921504606846976) (hl : 0 ≤ l) (hl1 : l < 4294967296) (hw : -9223372036854775808 ≤ w) (hw1 : w ≤ 9223372036854775807) :
    deckleref07_Parts_Plus.f h l w = some (h + w / 4294967296 + (l + w % 4294967296) / 4294967296, (l + w % 4294967296) % 4294967296) := by
  unfold deckleref07_Parts_Plus.f
  have e0 : IntKind.u64.wrap w = w % 18446744073709551616 := u64_wrap w
  have e1 : Int.tmod (w % 18446744073709551616) 4294967296 = w % 4294967296 := by
    rw [Int.tmod_eq_emod_of_nonneg (by omega)]
    omega
  rw [e0, e1]
  clear e0 e1
  obtain ⟨r, hr⟩ : ∃ r, r = w % 4294967296 := ⟨_, rfl⟩
  obtain ⟨q, hq⟩ : ∃ q, q = w / 4294967296 := ⟨_, rfl⟩
  rw [← hr, ← hq]
  have r0 : 0 ≤ r := by omega
  have r1 : r < 4294967296 := by omega
  have q0 : -2147483648 ≤ q := by omega
  have q1 : q ≤ 2147483647 := by omega
  clear hr hq
  have a1 := w64 (n := r) (by omega) (by omega)
  rw [a1]
  clear a1
  have a2 := w64 (n := l + r) (by omega) (by omega)
  rw [a2, Int.tdiv_eq_ediv_of_nonneg (by clear a2; omega), Int.tmod_eq_emod_of_nonneg (by clear a2; omega)]
  clear a2
  obtain ⟨d, hd⟩ : ∃ d, d = (l + r) / 4294967296 := ⟨_, rfl⟩
  rw [← hd]
  have d0 : 0 ≤ d := by omega
  have d1 : d ≤ 1 := by omega
  clear hd
  have a3 := w64 (n := d) (by omega) (by omega)
  rw [a3]
  clear a3
  have a4 := w64 (n := h + q) (by omega) (by omega)
  rw [a4]
  clear a4
  rw [w64 (by omega) (by omega)]
theorem rwhole {h l : Int} (hl : 0 ≤ l) (hl1 : l < 4294967296) :
    deckleref07_Parts_Whole.f h l = some ((fits (h * 4294967296 + l)).1, decide ((fits (h * 4294967296 + l)).2 = 0)) := by
  unfold deckleref07_Parts_Whole.f
  by_cases h0 : h < -2147483648
  · rw [if_pos h0, fits_no (by omega)]
    rfl
  · rw [if_neg h0]
    by_cases h1 : h > 2147483647
    · rw [if_pos h1, fits_no (by omega)]
      rfl
    · rw [if_neg h1, fits_yes (by omega)]
      have a1 := w64 (n := h * 4294967296) (by omega) (by omega)
      rw [a1]
      clear a1
      rw [w64 (by omega) (by omega)]
      rfl
/-- The three parts of a sum. -/
def hiP (S : Int) : Int := S / 4294967296
def loP (S : Int) : Int := S % 4294967296
theorem part_plus (S w : Int) : hiP S + w / 4294967296 + (loP S + w % 4294967296) / 4294967296 = hiP (S + w) ∧ (loP S + w % 4294967296) % 4294967296 = loP (S + w) := by
  unfold hiP loP
  omega
theorem part_whole (S : Int) : hiP S * 4294967296 + loP S = S := by
  unfold hiP loP
  omega
theorem sum_bound : ∀ l : List Int, Ws l → -9223372036854775808 * (l.length : Int) ≤ l.sum ∧ l.sum ≤ 9223372036854775807 * (l.length : Int)
  | [], _ => by simp
  | c :: t, h => by
    have h1 := sum_bound t (fun d hd => h d (List.mem_cons_of_mem _ hd))
    have h2 := h c (List.mem_cons_self ..)
    simp only [List.sum_cons, List.length_cons]
    omega
theorem part_bound {l : List Int} (h : Ws l) (hl : l.length ≤ 100000) : -1152921504606846976 ≤ hiP l.sum ∧ hiP l.sum ≤ 1152921504606846976 ∧ 0 ≤ loP l.sum ∧ loP l.sum < 4294967296 := by
  have := sum_bound l h
  unfold hiP loP
  omega
theorem rsum_loop (l : List Int) (hW : Ws l) (hl : l.length ≤ 100000) : ∀ d k i, l.length - i = d → i ≤ l.length → d < k →
    deckleref07_Sum.l0 k l (i : Int) (hiP (l.take i).sum) (loP (l.take i).sum) = some (fits l.sum) := by
  intro d
  induction d with
  | zero =>
    intro k i hd hi hk
    obtain rfl : i = l.length := by omega
    obtain ⟨k, rfl⟩ : ∃ m, k = m + 1 := ⟨k - 1, by omega⟩
    have hb := part_bound hW hl
    simp only [deckleref07_Sum.l0, List.take_length]
    rw [if_neg (by omega), rwhole hb.2.2.1 hb.2.2.2, part_whole]
    simp only [Option.bind_some]
    unfold fits
    split <;> rfl
  | succ d ih =>
    intro k i hd hi hk
    obtain ⟨k, rfl⟩ : ∃ m, k = m + 1 := ⟨k - 1, by omega⟩
    have hlt : i < l.length := by omega
    have hb := part_bound (hW.take i) (by rw [List.length_take]; omega)
    have hg := hW.get i
    have hs : (l.take (i + 1)).sum = (l.take i).sum + rd l i := by
      rw [List.take_succ_eq_append_getElem hlt, List.sum_append]
      unfold rd
      rw [Int.toNat_natCast, List.getD_eq_getElem?_getD, List.getElem?_eq_getElem hlt]
      simp
    obtain ⟨p1, p2⟩ := part_plus (l.take i).sum (rd l i)
    simp only [deckleref07_Sum.l0]
    rw [if_pos (by omega), if_pos (by omega), rplus hb.1 hb.2.1 hb.2.2.1 hb.2.2.2 hg.1 hg.2, p1, p2]
    simp only [Option.bind_some]
    rw [← hs]
    clear p1 p2 hs hb hg
    rw [w64 (by omega) (by omega)]
    exact ih k (i + 1) (by omega) (by omega) (by omega)
theorem rsum {l : List Int} (hW : Ws l) (hl : l.length ≤ 100000) (k : Nat) (hk : l.length < k) : deckleref07_Sum.f k l = some (fits l.sum) := by
  unfold deckleref07_Sum.f
  exact rsum_loop l hW hl _ k 0 rfl (by omega) (by omega)
end Go.Proofs.Ytkngkjgapgnmbaa.WeightSumsD
