import Derived.Test.YtnmjelcicbfjdaaDoorCeP
/-! CellEdges: the plain law: whole numbers as floats keep their order; a text is ahead of one that it begins. -/
namespace Go.Proofs.YtnmjelcicbfjdaaDoor.Ce
open Go.RowKit Go.Proofs.YtnmjelcicbfjdaaDoorW.PrintWords Go.Proofs.YtnmjelcicbfjdaaDoorW.PrintLast Go.Proofs.YtnmjelcicbfjdaaDoorW.PrintMore Go.Proofs.YtnmjelcicbfjdaaDoor.Wire Go.Proofs.YtnmjelcicbfjdaaDoor.PCo Go.Proofs.YtnmjelcicbfjdaaDoor.Co Ieee
set_option linter.unusedVariables false
set_option linter.unusedSimpArgs false
set_option maxRecDepth 100000
/-- The rung of a whole number. -/
def rn (m : Nat) : Nat := if m = 0 then 0 else (m.log2 + 1022) * 4503599627370496 + m * 2 ^ (52 - m.log2)
theorem cut_zero (neg : Bool) (n : Nat) : Toward.even.cut neg n 0 = n := by
  unfold Toward.cut
  simp [Nat.mod_one]
theorem log2_le {m : Nat} (h : m < 4294967296) (h0 : m ≠ 0) : m.log2 ≤ 31 := by
  have := (Nat.log2_lt h0).2 (show m < 2 ^ 32 from h)
  omega
theorem rn_parts {m : Nat} (h : m < 4294967296) (h0 : m ≠ 0) : 4503599627370496 ≤ m * 2 ^ (52 - m.log2) ∧ m * 2 ^ (52 - m.log2) < 2 * 4503599627370496 := by
  have hl := log2_le h h0
  have h1 := Nat.log2_self_le h0
  have h2 : m < 2 ^ (m.log2 + 1) := Nat.lt_log2_self
  have e1 : 2 ^ m.log2 * 2 ^ (52 - m.log2) = 4503599627370496 := by rw [← Nat.pow_add, show m.log2 + (52 - m.log2) = 52 by omega]
  have e2 : 2 ^ (m.log2 + 1) * 2 ^ (52 - m.log2) = 2 * 4503599627370496 := by rw [Nat.pow_succ, Nat.mul_right_comm, e1]
  constructor
  · rw [← e1]; exact Nat.mul_le_mul_right _ h1
  · rw [← e2]; exact Nat.mul_lt_mul_of_pos_right h2 (Nat.two_pow_pos _)
theorem rn_le {m : Nat} (h : m < 4294967296) : rn m < 9218868437227405312 := by
  unfold rn
  split
  · omega
  · rename_i h0
    have := rn_parts h h0
    have := log2_le h h0
    omega
theorem rn_lt {m n : Nat} (hn : n < 4294967296) (h : m < n) : rn m < rn n := by
  have n0 : n ≠ 0 := by omega
  have pn := rn_parts hn n0
  unfold rn
  rw [if_neg n0]
  split
  · omega
  · rename_i m0
    have pm := rn_parts (by omega : m < 4294967296) m0
    by_cases hl : m.log2 = n.log2
    · rw [hl] at pm ⊢
      have := Nat.mul_lt_mul_of_pos_right h (Nat.two_pow_pos (52 - n.log2))
      omega
    · have hlt : m.log2 < n.log2 := by
        have h1 := Nat.log2_self_le m0
        have h2 : n < 2 ^ (n.log2 + 1) := Nat.lt_log2_self
        have h3 : 2 ^ m.log2 < 2 ^ (n.log2 + 1) := by omega
        have := (Nat.pow_lt_pow_iff_right (by omega : 1 < 2)).1 h3
        omega
      omega
theorem nearest_eq (neg : Bool) {m : Nat} (h : m < 4294967296) : double.nearest neg m 0 = if neg then 9223372036854775808 + rn m else rn m := by
  unfold Format.nearest
  by_cases h0 : m = 0
  · subst h0
    simp [Format.word, rn, Flo.sw_eq]
  · have hl := log2_le h h0
    have hp := rn_parts h h0
    have hr := rn_le h
    rw [if_neg h0]
    simp only [Flo.lp_eq, Flo.bn_eq, Flo.if_eq]
    have e1 : max ((0 : Int) + (m.log2 : Int) - (double.fractionBits : Int)) (-1074) = (m.log2 : Int) - 52 := by
      rw [show double.fractionBits = 52 from rfl]; omega
    rw [e1]
    have e2 : ((0 : Int) - ((m.log2 : Int) - 52)).toNat = 52 - m.log2 := by omega
    have e3 : ((m.log2 : Int) - 52 - 0).toNat = 0 := by omega
    have e4 : ((m.log2 : Int) - 52 - -1074).toNat = m.log2 + 1022 := by omega
    rw [e2, e3, e4, cut_zero, Nat.shiftLeft_eq]
    unfold rn at hr ⊢
    rw [if_neg h0] at hr ⊢
    rw [Nat.min_eq_left (by omega)]
    rfl
def fx (x : Int) : Nat := floatOfInt .f64 x
theorem fx_eq {x : Int} (h : -2147483648 ≤ x ∧ x < 2147483648) : fx x = if x < 0 then 9223372036854775808 + rn x.natAbs else rn x.natAbs := by
  have e := nearest_eq (decide (x < 0)) (show x.natAbs < 4294967296 by omega)
  rw [show fx x = double.nearest (decide (x < 0)) x.natAbs 0 from rfl, e]
  by_cases c : x < 0 <;> simp [c]
theorem fx_lt {x : Int} (h : -2147483648 ≤ x ∧ x < 2147483648) : fx x < 18446744073709551616 := by
  have := rn_le (show x.natAbs < 4294967296 by omega)
  rw [fx_eq h]; split <;> omega
theorem fx_rk {x : Int} (h : -2147483648 ≤ x ∧ x < 2147483648) : rk 5 (fx x : Int) = if x < 0 then 9223372036854775807 - (rn x.natAbs : Int) else 9223372036854775808 + (rn x.natAbs : Int) := by
  have := rn_le (show x.natAbs < 4294967296 by omega)
  rw [fx_eq h]
  unfold rk
  simp only [show ¬ (5 : Int) = 0 by omega, if_false, if_true]
  by_cases c : x < 0
  · simp only [c, if_true]; rw [if_neg (by omega)]; omega
  · simp only [c, if_false]; rw [if_pos (by omega)]; omega
theorem cmpi_fx {x y : Int} (hx : -2147483648 ≤ x ∧ x < 2147483648) (hy : -2147483648 ≤ y ∧ y < 2147483648) : cmpv 5 (fx x : Int) e0 (fx y : Int) e0 = cmpi x y := by
  rw [cmpv_5, fx_rk hx, fx_rk hy]
  have a1 := rn_le (show x.natAbs < 4294967296 by omega)
  have a2 := rn_le (show y.natAbs < 4294967296 by omega)
  have b1 : x.natAbs < y.natAbs → rn x.natAbs < rn y.natAbs := rn_lt (by omega)
  have b2 : y.natAbs < x.natAbs → rn y.natAbs < rn x.natAbs := rn_lt (by omega)
  have b3 : x.natAbs = y.natAbs → rn x.natAbs = rn y.natAbs := fun h => by rw [h]
  have z0 : x.natAbs = 0 → rn x.natAbs = 0 := fun h => by rw [h]; rfl
  have z1 : y.natAbs = 0 → rn y.natAbs = 0 := fun h => by rw [h]; rfl
  generalize rn x.natAbs = p at *
  generalize rn y.natAbs = q at *
  unfold cmpi
  by_cases c1 : x < 0 <;> by_cases c2 : y < 0 <;> simp only [c1, c2, if_true, if_false] <;> (repeat' split) <;> omega
theorem cmpi_0 {x y : Int} (hx : -2147483648 ≤ x ∧ x < 2147483648) (hy : -2147483648 ≤ y ∧ y < 2147483648) : cmpv 0 (IntKind.u64.wrap x) e0 (IntKind.u64.wrap y) e0 = cmpi x y := by
  have h : ∀ n, chk 0 n e0 = 0 := fun n => by unfold chk; rw [if_neg (by omega), if_neg (by omega), if_neg (by decide), if_neg (by omega)]
  have hw : ∀ z : Int, -2147483648 ≤ z ∧ z < 2147483648 → rk 0 (IntKind.u64.wrap z) = z + 9223372036854775808 := fun z hz => by
    rw [show rk 0 (IntKind.u64.wrap z) = flip (IntKind.u64.wrap z) from if_pos rfl]
    rw [IntKind.wrap_u64]
    unfold flip
    split <;> omega
  unfold cmpv
  rw [if_neg (by rw [h, h]; simp)]
  unfold ord orv
  rw [show cb e0 e0 = 0 from by decide, hw x hx, hw y hy]
  unfold cmpi
  (repeat' split) <;> omega
theorem wrap_rng {x : Int} (h : -2147483648 ≤ x ∧ x < 2147483648) : 0 ≤ IntKind.u64.wrap x ∧ IntKind.u64.wrap x < 18446744073709551616 := by
  rw [IntKind.wrap_u64]; omega
theorem cmpb_pre : ∀ l m : List UInt8, Lib.compareBytes l (l ++ m) = if m = [] then 0 else -1
  | [], [] => by simp [Lib.compareBytes]
  | [], _ :: _ => by simp [Lib.compareBytes]
  | a :: l, m => by
    rw [List.cons_append]
    unfold Lib.compareBytes
    rw [if_neg (UInt8.lt_irrefl _), if_neg (UInt8.lt_irrefl _)]
    exact cmpb_pre l m
theorem cmpv_text {a b : ByteArray} (ha : a.size ≤ 100) (hb : b.size ≤ 100) : cmpv 3 0 a 0 (a ++ b) = if b.size = 0 then 0 else -1 := by
  have h : ∀ s : ByteArray, s.size ≤ 256 → chk 3 0 s = 0 := fun s hs => by unfold chk; rw [if_neg (by omega), if_pos (by omega), if_neg (by omega), if_neg (by omega), if_neg (by omega)]
  unfold cmpv
  rw [if_neg (by rw [h a (by omega), h (a ++ b) (by rw [ByteArray.size_append]; omega)]; simp)]
  unfold ord orv
  rw [if_pos (by unfold cmpi; simp)]
  unfold cb
  rw [show (a ++ b).data.toList = a.data.toList ++ b.data.toList from by rw [ByteArray.data_append, Array.toList_append], cmpb_pre]
  have e : b.data.toList = [] ↔ b.size = 0 := by
    rw [← List.length_eq_zero_iff, data_length]
  simp only [e]
end Go.Proofs.YtnmjelcicbfjdaaDoor.Ce
