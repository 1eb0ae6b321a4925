import Derived.Test.YtnmjelcicbfjdaaDoorRowA
import Derived.Test.YtnmjelcicbfjdaaDoorWireSpec2
import Derived.ChangeSame
/-! Cells by value, as arguments: one, or an array of three. -/
namespace Go.Proofs.YtnmjelcicbfjdaaDoor.RowA
open Go.ChangeShapes Go.WideShapes Go.ChangeAt Go.RowKit
set_option linter.unusedVariables false
set_option maxRecDepth 100000
variable {W : World} {H : Type} {enc : TypeId × Value → H}
theorem trod_cell {fuel b : Nat} {spare : Nat → Bool} {held : Bool} {cs : List Value} {x : DataW H × List MemPlace} (h : DataW.trod enc Tryd.prog W b spare held fuel 24 cs = some x) :
    ∃ (n : Int) (s : ByteArray), cs = [.int .u64 n, .string s] ∧ (0 ≤ n ∧ n < 18446744073709551616) ∧ s.size ≤ 9223372036854775807 := by
  obtain ⟨y0, y1, n, -, hl, h0, h1⟩ := trod_struct2 Tryd.underlying24 h
  rw [show Tryd.prog.cellsOf 24 = 2 from by kernel_rfl] at hl
  match cs, hl with
  | [c0, c1], _ =>
    obtain ⟨z, e0, -, w0⟩ := DataW.trod_int (show Tryd.prog.underlying 22 = some (.int .u64) from Tryd.underlying22) h0
    obtain ⟨s, e1, -, w1⟩ := DataW.trod_string (show Tryd.prog.underlying 9 = some .string from Tryd.underlying9) h1
    rw [show Tryd.prog.cellsOf 22 = 1 from by kernel_rfl] at e0
    rw [show Tryd.prog.cellsOf 9 = 1 from by kernel_rfl] at e1
    simp at e0 e1
    refine ⟨z, s, by rw [e0, e1], Go.Proofs.YtnmjelcicbfjdaaDoor.Wire.wf_u64 w0, ?_⟩
    have : maxLen = 9223372036854775807 := by decide
    omega
theorem open_cell {r : Reach} {base b2 : Nat} {spare : Nat → Bool} {held : Bool} {v : Value} {d : DataW H} {p : List MemPlace}
    (hv : Value.okWide Tryd.prog W r base 24 v) (h : DataW.Trod enc Tryd.prog W b2 spare held 24 v d p) :
    ∃ (n : Int) (s : ByteArray), v = .agg #[.int .u64 n, .string s] ∧ (0 ≤ n ∧ n < 18446744073709551616) ∧ s.size ≤ 9223372036854775807 := by
  simp only [Value.okWide, Tryd.underlying24] at hv
  obtain ⟨cs, rfl, -, -⟩ := hv
  obtain ⟨fuel, hf⟩ := h
  obtain ⟨n, s, e, hn, hs⟩ := trod_cell hf
  refine ⟨n, s, ?_, hn, hs⟩
  congr 1
  exact Array.toList_inj.1 e
theorem open_cells3 {r : Reach} {base b2 : Nat} {spare : Nat → Bool} {held : Bool} {v : Value} {d : DataW H} {p : List MemPlace}
    (hv : Value.okWide Tryd.prog W r base 25 v) (h : DataW.Trod enc Tryd.prog W b2 spare held 25 v d p) :
    ∃ (n0 : Int) (s0 : ByteArray) (n1 : Int) (s1 : ByteArray) (n2 : Int) (s2 : ByteArray), v = .agg #[.int .u64 n0, .string s0, .int .u64 n1, .string s1, .int .u64 n2, .string s2] ∧
      ((0 ≤ n0 ∧ n0 < 18446744073709551616) ∧ s0.size ≤ 9223372036854775807) ∧ ((0 ≤ n1 ∧ n1 < 18446744073709551616) ∧ s1.size ≤ 9223372036854775807) ∧ ((0 ≤ n2 ∧ n2 < 18446744073709551616) ∧ s2.size ≤ 9223372036854775807) := by
  simp only [Value.okWide, Tryd.underlying25] at hv
  obtain ⟨cs, rfl, -, -⟩ := hv
  obtain ⟨fuel, hf⟩ := h
  have hf' : DataW.trod enc Tryd.prog W b2 spare held fuel 25 cs.toList = some (d, p) := hf
  obtain ⟨xs, m, -, -, hl, hn, hel⟩ := DataW.trod_array Tryd.underlying25 hf'
  rw [show Tryd.prog.cellsOf 25 = 6 from by kernel_rfl] at hl
  rw [show Tryd.prog.cellsOf 24 = 2 from by kernel_rfl] at hel
  obtain ⟨l⟩ := cs
  match l, hl, xs, hn with
  | [a0, b0, a1, b1, a2, b2], _, [x0, x1, x2], _ =>
    obtain ⟨n0, s0, e0, h0⟩ := trod_cell (hel 0 (by omega))
    obtain ⟨n1, s1, e1, h1⟩ := trod_cell (hel 1 (by omega))
    obtain ⟨n2, s2, e2, h2⟩ := trod_cell (hel 2 (by omega))
    simp at e0 e1 e2
    refine ⟨n0, s0, n1, s1, n2, s2, ?_, h0, h1, h2⟩
    rw [e0.1, e0.2, e1.1, e1.2, e2.1, e2.2]
end Go.Proofs.YtnmjelcicbfjdaaDoor.RowA
