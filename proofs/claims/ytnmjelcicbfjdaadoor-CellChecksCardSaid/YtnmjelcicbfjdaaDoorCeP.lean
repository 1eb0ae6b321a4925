import Derived.Test.YtnmjelcicbfjdaaDoorCeF
import Derived.Maps.Own
import Derived.Maps.Views
/-! CellFloats: its pieces. -/
namespace Go.Proofs.YtnmjelcicbfjdaaDoor.Ce
open Go.RowKit Go.Proofs.YtnmjelcicbfjdaaDoorW.PrintWords Go.Proofs.YtnmjelcicbfjdaaDoorW.PrintLast Go.Proofs.YtnmjelcicbfjdaaDoorW.PrintMore Go.Proofs.YtnmjelcicbfjdaaDoor.Wire Go.Proofs.YtnmjelcicbfjdaaDoor.PCo Go.Proofs.YtnmjelcicbfjdaaDoor.Co Go.Maps Go.WideMaps
set_option linter.unusedVariables false
set_option linter.unusedSimpArgs false
set_option maxRecDepth 100000
theorem isnan_calls (b : Nat) (w : World) : Calls Tryd.prog 18 #[.float .f64 b] w fun e w' => e = .returned (.bool (Flo.nan b)) ∧ w = w' := by
  have h := Flo.self_ne b
  rw [show Ieee.double = FloatKind.f64.format from rfl] at h
  rw [← h]
  clear h
  go_enter Tryd.func18, Tryd.ntmps18
  go_wp2
  go_ret
  exact ⟨rfl, rfl⟩
theorem number_calls (n : Nat) (w : World) : Calls Tryd.prog 20 #[.agg #[.int .u64 (n : Int), .string e0]] w fun e w' => e = .returned (.float .f64 n) ∧ Below w.heap.size w w' := by
  have h := fun w => frombits_run (n : Int) w
  simp only [Int.toNat_natCast] at h
  go_enter Tryd.func20, Tryd.ntmps20
  go_wp2
  go_ret
  exact ⟨rfl, below_alloc (Below.refl _ _) _⟩
theorem lawB : Keyed Tryd.prog 4 := bool_keyed Tryd.underlying4
theorem zeroI (w : World) : (zeroValue 3).run Tryd.prog w = .ok (.int .i64 0) w := by kernel_rfl
/-- The map of the two signs. -/
theorem sign_map (w : World) : ∃ w1 w2, (Instr.mapUpdate 38 (.map (some w.heap.size)) (.bool true) (.int .i64 (-1))).run Tryd.prog (w.alloc (.map #[] 0)) = .ok () w1 ∧
    (Instr.mapUpdate 38 (.map (some w.heap.size)) (.bool false) (.int .i64 1)).run Tryd.prog w1 = .ok () w2 ∧
    (∀ b, (Instr.lookup 38 (.map (some w.heap.size)) (.bool b) false).run Tryd.prog w2 = .ok (.int .i64 (if b then -1 else 1)) w2) ∧ Below w.heap.size w w2 := by
  have h0 := World.ownsMap_made (H := Unit) w Tryd.prog 4 (plainElem Tryd.prog 3)
  obtain ⟨w1, r1, h1, g1⟩ := h0.update lawB Tryd.underlying38 (by unfold maxLen; omega) (keyOf_bool_mk Tryd.underlying4 true) (plainElem_int (H := Unit) Tryd.underlying3 (a := -1) (by decide))
  obtain ⟨w2, r2, h2, g2⟩ := h1.update lawB Tryd.underlying38 (by unfold maxLen; omega) (keyOf_bool_mk Tryd.underlying4 false) (plainElem_int (H := Unit) Tryd.underlying3 (a := 1) (by decide))
  refine ⟨w1, w2, r1, r2, fun b => ?_, ?_⟩
  · obtain ⟨c, hrun, hat, -⟩ := h2.lookup_int lawB Tryd.underlying38 Tryd.underlying3 (zeroI w2) (keyOf_bool_mk Tryd.underlying4 b)
    rw [hrun]
    cases b
    · rw [show ((DataW.map []).put (Lit.bool true) (.lit (.int .i64 (-1))) |>.put (Lit.bool false) (.lit (.int .i64 1)) : DataW Unit).atKey (.bool false) (.lit (.int .i64 0)) = .lit (.int .i64 1) from by rfl] at hat
      injection hat with hat; injection hat with _ hat
      rw [← hat]; rfl
    · rw [show ((DataW.map []).put (Lit.bool true) (.lit (.int .i64 (-1))) |>.put (Lit.bool false) (.lit (.int .i64 1)) : DataW Unit).atKey (.bool true) (.lit (.int .i64 0)) = .lit (.int .i64 (-1)) from by rfl] at hat
      injection hat with hat; injection hat with _ hat
      rw [← hat]; rfl
  · have hb := below_alloc (Below.refl w.heap.size w) (.map #[] 0)
    exact (hb.grown g1 hb.size (fun k e => by injection e with e; rw [← e]; exact Nat.le_refl _)).grown g2 (by have := (hb.grown g1 hb.size (fun k e => by injection e with e; rw [← e]; exact Nat.le_refl _)).size; exact this) (fun k e => by injection e with e; rw [← e]; exact Nat.le_refl _)
/-! ### the plain law -/
theorem cmpv_5 (x y : Nat) : cmpv 5 (x : Int) e0 (y : Int) e0 = cmpi (rk 5 (x : Int)) (rk 5 (y : Int)) := by
  have h : ∀ n, chk 5 n e0 = 0 := fun n => by unfold chk; rw [if_neg (by omega), if_neg (by omega), if_neg (by decide), if_neg (by omega)]
  unfold cmpv
  rw [if_neg (by rw [h, h]; simp)]
  unfold ord orv
  rw [show cb e0 e0 = 0 from by decide]
  split
  · rename_i h; exact h.symm
  · rfl
theorem rk_5 {x : Nat} (hx : x < 18446744073709551616) : rk 5 (x : Int) = if Flo.ng x then 9223372036854775807 - (Flo.rg x : Int) else 9223372036854775808 + (Flo.rg x : Int) := by
  unfold rk Flo.ng Flo.rg
  simp only [show ¬ (5 : Int) = 0 by omega, if_false, if_true]
  by_cases h : x < 9223372036854775808
  · rw [if_pos (by omega), show x / 9223372036854775808 % 2 = 0 by omega]; simp; omega
  · rw [if_neg (by omega), show x / 9223372036854775808 % 2 = 1 by omega]; simp; omega
structure FLaw (x y : Nat) (N : Int) : Prop where
  lt : (FloatKind.f64.format.order x y == some .lt) = true → N = -1 ∧ Flo.nan x = false ∧ Flo.nan y = false ∧ (FloatKind.f64.format.order x y == some .gt) = false ∧ (FloatKind.f64.format.order x y == some .eq) = false
  gt : (FloatKind.f64.format.order x y == some .gt) = true → N = 1 ∧ Flo.nan x = false ∧ Flo.nan y = false ∧ (FloatKind.f64.format.order x y == some .lt) = false ∧ (FloatKind.f64.format.order x y == some .eq) = false
  eq : (FloatKind.f64.format.order x y == some .eq) = true → ((FloatKind.f64.format.order x 0 != some .eq) = true → N = 0) ∧ Flo.nan x = false ∧ Flo.nan y = false ∧ (FloatKind.f64.format.order x y == some .lt) = false ∧ (FloatKind.f64.format.order x y == some .gt) = false
  none : (FloatKind.f64.format.order x y == some .lt) = false → (FloatKind.f64.format.order x y == some .gt) = false → (FloatKind.f64.format.order x y == some .eq) = false → Flo.nan x = true ∨ Flo.nan y = true
  sign : Flo.nan x = true → Flo.nan y = false → N = if ((x : Int) / 9223372036854775808 == 1) then -1 else 1
theorem floats_law {x y : Nat} (hx : x < 18446744073709551616) (hy : y < 18446744073709551616) : FLaw x y (cmpv 5 (x : Int) e0 (y : Int) e0) := by
  rw [cmpv_5, rk_5 hx, rk_5 hy]
  have rx := Flo.rg_lt x
  have ry := Flo.rg_lt y
  have L := Flo.lss_eq x y
  have G := Flo.gtr_eq x y
  have E := Flo.eql_eq x y
  have Z := Flo.eql_eq x 0
  rw [show Ieee.double = FloatKind.f64.format from rfl] at L G E Z
  have ex : ((x : Int) / 9223372036854775808 == 1) = Flo.ng x := by
    unfold Flo.ng
    by_cases h : x < 9223372036854775808
    · rw [show (x : Int) / 9223372036854775808 = 0 by omega, show x / 9223372036854775808 % 2 = 0 by omega]; rfl
    · rw [show (x : Int) / 9223372036854775808 = 1 by omega, show x / 9223372036854775808 % 2 = 1 by omega]; rfl
  have s0 : Flo.sv 0 = 0 := by decide
  have n0 : Flo.nan 0 = false := by decide
  have nx : Flo.nan x = decide (9218868437227405312 < Flo.rg x) := rfl
  have ny : Flo.nan y = decide (9218868437227405312 < Flo.rg y) := rfl
  have bn : (FloatKind.f64.format.order x 0 != some .eq) = !(FloatKind.f64.format.order x 0 == some .eq) := rfl
  have vx : Flo.sv x = if Flo.ng x then -(Flo.rg x : Int) else (Flo.rg x : Int) := rfl
  have vy : Flo.sv y = if Flo.ng y then -(Flo.rg y : Int) else (Flo.rg y : Int) := rfl
  rw [s0, n0] at Z
  generalize Flo.ng x = a at *
  generalize Flo.ng y = b at *
  constructor
  · rw [L, G, E]; intro h
    simp only [Bool.and_eq_true, Bool.not_eq_true', decide_eq_true_eq] at h
    obtain ⟨⟨h1, h2⟩, h3⟩ := h
    refine ⟨?_, h1, h2, by simp; intro _ _; omega, by simp; intro _ _; omega⟩
    rw [vx, vy] at h3
    unfold cmpi
    cases a <;> cases b <;> simp at h3 ⊢ <;> (repeat' split) <;> omega
  · rw [L, G, E]; intro h
    simp only [Bool.and_eq_true, Bool.not_eq_true', decide_eq_true_eq] at h
    obtain ⟨⟨h1, h2⟩, h3⟩ := h
    refine ⟨?_, h1, h2, by simp; intro _ _; omega, by simp; intro _ _; omega⟩
    rw [vx, vy] at h3
    unfold cmpi
    cases a <;> cases b <;> simp at h3 ⊢ <;> (repeat' split) <;> omega
  · rw [bn, L, G, E, Z]; intro h
    simp only [Bool.and_eq_true, Bool.not_eq_true', decide_eq_true_eq] at h
    obtain ⟨⟨h1, h2⟩, h3⟩ := h
    refine ⟨?_, h1, h2, by simp; intro _ _; omega, by simp; intro _ _; omega⟩
    rw [h1]
    intro h4
    simp at h4
    rw [vx, vy] at h3
    rw [vx] at h4
    unfold cmpi
    cases a <;> cases b <;> simp at h3 h4 ⊢ <;> (repeat' split) <;> omega
  · rw [L, G, E]
    cases Flo.nan x <;> cases Flo.nan y <;> simp
    intro h1 h2
    omega
  · rw [nx, ny]
    intro h1 h2
    simp at h1 h2
    rw [ex]
    unfold cmpi
    cases a <;> cases b <;> simp <;> (repeat' split) <;> omega
end Go.Proofs.YtnmjelcicbfjdaaDoor.Ce
