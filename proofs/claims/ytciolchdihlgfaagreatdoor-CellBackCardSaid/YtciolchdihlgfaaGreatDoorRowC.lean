import Derived.Test.YtciolchdihlgfaaGreatDoorRowA
import Derived.Test.YtciolchdihlgfaaGreatDoorWireSpec2
import Derived.ChangeSame
/-! Cells by value, as arguments: one, or an array of three. -/
namespace Go.Proofs.YtciolchdihlgfaaGreatDoor.RowA
open Go.ChangeShapes Go.WideShapes Go.ChangeAt Go.RowKit
set_option linter.unusedVariables false
set_option maxRecDepth 100000
variable {W : World} {H : Type} {enc : TypeId × Value → H}
theorem trod_cell {fuel b : Nat} {spare : Nat → Bool} {held : Bool} {cs : List Value} {x : DataW H × List MemPlace} (h : DataW.trod enc Tryz.prog W b spare held fuel 24 cs = some x) :
    ∃ (n : Int) (s : ByteArray), cs = [.int .u64 n, .string s] ∧ (0 ≤ n ∧ n < 18446744073709551616) ∧ s.size ≤ 9223372036854775807 := by
  obtain ⟨y0, y1, n, -, hl, h0, h1⟩ := trod_struct2 Tryz.underlying24 h
  rw [show Tryz.prog.cellsOf 24 = 2 from by kernel_rfl] at hl
  match cs, hl with
  | [c0, c1], _ =>
    obtain ⟨z, e0, -, w0⟩ := DataW.trod_int (show Tryz.prog.underlying 22 = some (.int .u64) from Tryz.underlying22) h0
    obtain ⟨s, e1, -, w1⟩ := DataW.trod_string (show Tryz.prog.underlying 9 = some .string from Tryz.underlying9) h1
    rw [show Tryz.prog.cellsOf 22 = 1 from by kernel_rfl] at e0
    rw [show Tryz.prog.cellsOf 9 = 1 from by kernel_rfl] at e1
    simp at e0 e1
    refine ⟨z, s, by rw [e0, e1], Go.Proofs.YtciolchdihlgfaaGreatDoor.Wire.wf_u64 w0, ?_⟩
    have : maxLen = 9223372036854775807 := by decide
    omega
theorem open_cell {r : Reach} {base b2 : Nat} {spare : Nat → Bool} {held : Bool} {v : Value} {d : DataW H} {p : List MemPlace}
    (hv : Value.okWide Tryz.prog W r base 24 v) (h : DataW.Trod enc Tryz.prog W b2 spare held 24 v d p) :
    ∃ (n : Int) (s : ByteArray), v = .agg #[.int .u64 n, .string s] ∧ (0 ≤ n ∧ n < 18446744073709551616) ∧ s.size ≤ 9223372036854775807 := by
  simp only [Value.okWide, Tryz.underlying24] at hv
  obtain ⟨cs, rfl, -, -⟩ := hv
  obtain ⟨fuel, hf⟩ := h
  obtain ⟨n, s, e, hn, hs⟩ := trod_cell hf
  refine ⟨n, s, ?_, hn, hs⟩
  congr 1
  exact Array.toList_inj.1 e
end Go.Proofs.YtciolchdihlgfaaGreatDoor.RowA
