import Derived.Test.YtkngkjgapgnmbaaWireSpec2
import Derived.Test.YtkngkjgapgnmbaaPWeightNonex1
namespace Go.Proofs.Ytkngkjgapgnmbaa.WeightNoneD
open Go.RowKit Go.Proofs.YtkngkjgapgnmbaaW.PrintWords Go.Proofs.YtkngkjgapgnmbaaW.PrintLast Go.Proofs.YtkngkjgapgnmbaaW.PrintMore Go.Proofs.Ytkngkjgapgnmbaa.Wire Go.Proofs.Ytkngkjgapgnmbaa.PWeightNone
set_option linter.unusedVariables false
set_option linter.unusedSimpArgs false
theorem w64 {n : Int} (h0 : -9223372036854775808 ≤ n) (h1 : n ≤ 9223372036854775807) : wrap64 n = n := by
  unfold wrap64
  omega
/-- Weights. -/
def Ws (l : List Int) : Prop := ∀ c ∈ l, -9223372036854775808 ≤ c ∧ c ≤ 9223372036854775807
theorem Ws.of {l : List Int} (h : ∀ x ∈ l, (Lit.int .i64 x).wf = true) : Ws l := fun c hc => wf_i64 (h c hc)
theorem Ws.app {a b : List Int} (h : Ws a) (k : Ws b) : Ws (a ++ b) := fun c hc => by
  rcases List.mem_append.1 hc with x | x
  · exact h c x
  · exact k c x
theorem Ws.one {x : Int} (h : -9223372036854775808 ≤ x) (k : x ≤ 9223372036854775807) : Ws [x] := fun c hc => by
  rw [List.mem_singleton] at hc
  subst hc
  exact ⟨h, k⟩
theorem Ws.take {l : List Int} (h : Ws l) (n : Nat) : Ws (l.take n) := fun c hc => h c (List.mem_of_mem_take hc)
theorem Ws.drop {l : List Int} (h : Ws l) (n : Nat) : Ws (l.drop n) := fun c hc => h c (List.mem_of_mem_drop hc)
theorem Ws.get {l : List Int} (h : Ws l) (i : Nat) : -9223372036854775808 ≤ rd l i ∧ rd l i ≤ 9223372036854775807 := by
  unfold rd
  rw [Int.toNat_natCast, List.getD_eq_getElem?_getD]
  by_cases hi : i < l.length
  · rw [List.getElem?_eq_getElem hi]
    exact h _ (List.getElem_mem hi)
  · rw [List.getElem?_eq_none (by omega)]
    simp
theorem Ws.set {l : List Int} (h : Ws l) (i : Nat) {v : Int} (h0 : -9223372036854775808 ≤ v) (h1 : v ≤ 9223372036854775807) : Ws (l.set i v) := fun c hc => by
  rcases List.mem_or_eq_of_mem_set hc with hc | rfl
  · exact h c hc
  · exact ⟨h0, h1⟩
def fits (S : Int) : Int × Int := if -9223372036854775808 ≤ S ∧ S ≤ 9223372036854775807 then (S, 0) else (0, 12)
theorem fits_yes {S : Int} (h : -9223372036854775808 ≤ S ∧ S ≤ 9223372036854775807) : fits S = (S, 0) := if_pos h
theorem fits_no {S : Int} (h : ¬ (-9223372036854775808 ≤ S ∧ S ≤ 9223372036854775807)) : fits S = (0, 12) := if_neg h
theorem fits_range (S : Int) : -9223372036854775808 ≤ (fits S).1 ∧ (fits S).1 ≤ 9223372036854775807 := by
  unfold fits
  split
  · assumption
  · exact ⟨by decide, by decide⟩
theorem wsum {l : List Int} (h : Ws l) : weight_Sum.f l = some (fits l.sum) := if_pos h
theorem alive : decklelaw07_alive.f = some true := by decide +kernel
theorem sum_set (l : List Int) : ∀ (i : Nat) (v : Int), i < l.length → (l.set i v).sum = l.sum - l.getD i 0 + v := by
  induction l with
  | nil => intro i v h; simp at h
  | cons c t ih =>
    intro i v h
    cases i with
    | zero =>
      simp
      omega
    | succ i =>
      rw [List.set_cons_succ, List.sum_cons, ih i v (by simpa using h), List.sum_cons, List.getD_cons_succ]
      omega
theorem sum_swap (m : List Int) (a b : Nat) (ha : a < m.length) (hb : b < m.length) : ((m.set a (rd m b)).set b (rd m a)).sum = m.sum := by
  have hra : rd m (a : Int) = m.getD a 0 := by unfold rd; rw [Int.toNat_natCast]
  have hrb : rd m (b : Int) = m.getD b 0 := by unfold rd; rw [Int.toNat_natCast]
  rw [hra, hrb, sum_set _ b _ (by rw [List.length_set]; exact hb), sum_set _ a _ ha]
  by_cases e : a = b
  · subst e
    have e2 : (m.set a (m.getD a 0)).getD a 0 = m.getD a 0 := by
      rw [List.getD_eq_getElem?_getD (l := m.set a (m.getD a 0)), List.getElem?_set_self ha]
      rfl
    rw [e2]
    omega
  · rw [List.getD_eq_getElem?_getD (l := m.set a (m.getD b 0)), List.getElem?_set_ne e, ← List.getD_eq_getElem?_getD]
    omega
end Go.Proofs.Ytkngkjgapgnmbaa.WeightNoneD
