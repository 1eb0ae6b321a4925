import Derived.Test.YtnmjelcicbfjdaaDoorCeP
/-! CellChecks: the document's order of two cells: a float's place; which is ahead. -/
namespace Go.Proofs.YtnmjelcicbfjdaaDoor.Ce
open Go.RowKit Go.Proofs.YtnmjelcicbfjdaaDoorW.PrintWords Go.Proofs.YtnmjelcicbfjdaaDoorW.PrintLast Go.Proofs.YtnmjelcicbfjdaaDoorW.PrintMore Go.Proofs.YtnmjelcicbfjdaaDoor.Wire Go.Proofs.YtnmjelcicbfjdaaDoor.PCo Go.Proofs.YtnmjelcicbfjdaaDoor.Co
set_option linter.unusedVariables false
set_option linter.unusedSimpArgs false
set_option maxRecDepth 100000
def pl (x : Nat) : Int := if Flo.nan x = false then 1 else if x < 9223372036854775808 then 2 else 0
abbrev LT (x y : Nat) : Bool := FloatKind.f64.format.order x y == some .lt
abbrev EQ (x y : Nat) : Bool := FloatKind.f64.format.order x y == some .eq
def ahd5 (x y : Nat) : Bool :=
  if pl x ≠ pl y then decide (pl x < pl y) else if pl x = 0 then decide ((y : Int) < (x : Int)) else if pl x = 2 then decide ((x : Int) < (y : Int))
  else if EQ x 0 = true ∧ EQ y 0 = true then decide ((y : Int) < (x : Int)) else LT x y
def ahd (k : Int) (x : Nat) (s : ByteArray) (y : Nat) (t : ByteArray) : Bool :=
  if k = 0 then decide (wrap64 (x : Int) < wrap64 (y : Int)) else if k = 3 ∨ k = 4 then Op.bytesLess s.toList t.toList else if k = 5 then ahd5 x y else decide ((x : Int) < (y : Int))
theorem pl_cases (x : Nat) : pl x = 0 ∨ pl x = 1 ∨ pl x = 2 := by unfold pl; (repeat' split) <;> simp
/-! ### the plain law -/
theorem less_cmp : ∀ a b : List UInt8, Op.bytesLess a b = decide (Lib.compareBytes a b < 0)
  | [], [] => by simp [Op.bytesLess, Lib.compareBytes]
  | [], _ :: _ => by simp [Op.bytesLess, Lib.compareBytes]
  | _ :: _, [] => by simp [Op.bytesLess, Lib.compareBytes]
  | a :: l, b :: m => by
    unfold Op.bytesLess Lib.compareBytes
    rw [less_cmp l m]
    by_cases h : a < b
    · simp [h]
    · by_cases h' : b < a
      · have : ¬ a = b := fun e => by subst e; exact h h'
        simp [h, h', this]
      · have e : a = b := by
          apply UInt8.toNat_inj.1
          rw [UInt8.lt_iff_toNat_lt] at h h'
          omega
        simp [h, h', e]
theorem ahd5_law {x y : Nat} (hx : x < 18446744073709551616) (hy : y < 18446744073709551616) : ahd5 x y = decide (cmpi (rk 5 (x : Int)) (rk 5 (y : Int)) < 0) := by
  simp only [cmpi_lt]
  rw [rk_5 hx, rk_5 hy]
  have rx := Flo.rg_lt x
  have ry := Flo.rg_lt y
  have L := Flo.lss_eq x y
  have E1 := Flo.eql_eq x 0
  have E2 := Flo.eql_eq y 0
  rw [show Ieee.double = FloatKind.f64.format from rfl] at L E1 E2
  rw [show Flo.sv 0 = 0 from by decide, show Flo.nan 0 = false from by decide] at E1 E2
  have nx : Flo.nan x = decide (9218868437227405312 < Flo.rg x) := rfl
  have ny : Flo.nan y = decide (9218868437227405312 < Flo.rg y) := rfl
  have vx : Flo.sv x = if Flo.ng x then -(Flo.rg x : Int) else (Flo.rg x : Int) := rfl
  have vy : Flo.sv y = if Flo.ng y then -(Flo.rg y : Int) else (Flo.rg y : Int) := rfl
  have gx : x = (if Flo.ng x then 9223372036854775808 else 0) + Flo.rg x := by
    unfold Flo.ng Flo.rg
    by_cases h : x < 9223372036854775808
    · rw [show x / 9223372036854775808 % 2 = 0 by omega]; simp; omega
    · rw [show x / 9223372036854775808 % 2 = 1 by omega]; simp; omega
  have gy : y = (if Flo.ng y then 9223372036854775808 else 0) + Flo.rg y := by
    unfold Flo.ng Flo.rg
    by_cases h : y < 9223372036854775808
    · rw [show y / 9223372036854775808 % 2 = 0 by omega]; simp; omega
    · rw [show y / 9223372036854775808 % 2 = 1 by omega]; simp; omega
  unfold ahd5 pl LT EQ
  rw [L, E1, E2, nx, ny]
  rw [vx, vy]
  have hxa : (x < 9223372036854775808) = (Flo.ng x = false) := by
    cases h : Flo.ng x <;> rw [h] at gx <;> simp at gx ⊢ <;> omega
  have hya : (y < 9223372036854775808) = (Flo.ng y = false) := by
    cases h : Flo.ng y <;> rw [h] at gy <;> simp at gy ⊢ <;> omega
  simp only [hxa, hya]
  clear hxa hya
  generalize Flo.ng x = a at *
  generalize Flo.ng y = b at *
  generalize Flo.rg x = p at *
  generalize Flo.rg y = q at *
  clear L E1 E2 nx ny vx vy
  by_cases hp : 9218868437227405312 < p <;> by_cases hq : 9218868437227405312 < q <;> cases a <;> cases b <;>
    simp only [hp, hq, decide_true, decide_false, Bool.false_eq_true, Bool.true_eq_false, if_true, if_false, Bool.not_true, Bool.not_false, Bool.true_and, Bool.false_and, Bool.and_true, Bool.and_false, false_and, and_false, ne_eq, not_true_eq_false, not_false_eq_true, decide_eq_true_eq, decide_eq_decide, show ¬ (2 : Int) = 0 by omega, show ¬ (1 : Int) = 0 by omega, show ¬ (0 : Int) = 2 by omega, show ¬ (2 : Int) = 1 by omega, show ¬ (1 : Int) = 2 by omega, show ¬ (0 : Int) = 1 by omega] at gx gy ⊢
  all_goals first
    | omega
    | (simp only [eq_comm (a := true), eq_comm (a := false), decide_eq_true_eq, decide_eq_false_iff_not]; omega)
    | (split <;> simp only [decide_eq_decide] <;> omega)
theorem chk_parts {k n : Int} {s : ByteArray} (h : chk k n s = 0) : (0 ≤ k ∧ k ≤ 5) ∧ (k = 3 ∨ k = 4 → n = 0) ∧ (¬(k = 3 ∨ k = 4) → s = e0) := by
  unfold chk at h
  by_cases h1 : k < 0 ∨ 5 < k
  · rw [if_pos h1] at h; omega
  · rw [if_neg h1] at h
    refine ⟨by omega, fun h2 => ?_, fun h2 => ?_⟩
    · rw [if_pos h2] at h
      by_cases h3 : n = 0
      · exact h3
      · rw [if_pos h3] at h; omega
    · rw [if_neg h2] at h
      by_cases h3 : s.size = 0
      · exact size_zero h3
      · rw [if_pos h3] at h; omega
theorem ahd_law {k : Int} {x y : Nat} {s t : ByteArray} (hx : x < 18446744073709551616) (hy : y < 18446744073709551616) (c1 : chk k (x : Int) s = 0) (c2 : chk k (y : Int) t = 0) :
    ahd k x s y t = decide (ord k (x : Int) s (y : Int) t < 0) := by
  obtain ⟨hk, n1, s1⟩ := chk_parts c1
  obtain ⟨-, n2, s2⟩ := chk_parts c2
  unfold ahd ord orv
  by_cases h34 : k = 3 ∨ k = 4
  · rw [if_neg (by omega), if_pos h34, n1 h34, n2 h34, if_pos (by unfold cmpi; simp), str_toList, str_toList, less_cmp]
  · rw [s1 h34, s2 h34, show cb e0 e0 = 0 from by decide]
    have e : (if cmpi (rk k (x : Int)) (rk k (y : Int)) = 0 then (0 : Int) else cmpi (rk k (x : Int)) (rk k (y : Int))) = cmpi (rk k (x : Int)) (rk k (y : Int)) := by
      split
      · rename_i h; exact h.symm
      · rfl
    rw [e, if_neg h34]
    by_cases h0 : k = 0
    · subst h0
      rw [if_pos rfl]
      simp only [cmpi_lt, decide_eq_decide]
      unfold rk flip wrap64
      rw [if_pos rfl, if_pos rfl]
      (repeat' split) <;> omega
    · rw [if_neg h0]
      by_cases h5 : k = 5
      · subst h5
        rw [if_pos rfl]
        exact ahd5_law hx hy
      · rw [if_neg h5]
        simp only [cmpi_lt, decide_eq_decide]
        unfold rk
        rw [if_neg h0, if_neg h5, if_neg h0, if_neg h5]
/-! ### the walks -/
theorem place_calls (x : Nat) (hx : x < 18446744073709551616) (w : World) : Calls Tryd.prog 82 #[.int .u64 (x : Int)] w fun e w' => e = .returned (.int .i64 (pl x)) ∧ w = w' := by
  have b1 : ∀ w, (callFunc 17 #[.int .u64 (x : Int)]).run Tryd.prog w = .ok (.value (.float .f64 x)) w := fun w => frombits_run (x : Int) w
  have HN := Aside0.mk (fun W => isnan_calls x W)
  cases hn : Flo.nan x
  · rw [show pl x = 1 from if_pos hn]
    rw [hn] at HN
    clear hn hx
    go_enter Tryd.func82, Tryd.ntmps82
    go_wp2_with fail
    refine (HN.out _).mono ?_
    rintro e w1 ⟨rfl, rfl⟩
    go_wp2_with fail
    go_ret
    exact ⟨rfl, rfl⟩
  · rw [hn] at HN
    by_cases hl : x < 9223372036854775808
    · rw [show pl x = 2 from by unfold pl; rw [if_neg (by rw [hn]; simp), if_pos hl]]
      have t1 : decide ((x : Int) < 9223372036854775808) = true := decide_eq_true (by omega)
      have t2 : decide (9223372036854775808 ≤ (x : Int)) = false := decide_eq_false (by omega)
      clear hn hx hl
      go_enter Tryd.func82, Tryd.ntmps82
      go_wp2_with fail
      refine (HN.out _).mono ?_
      rintro e w1 ⟨rfl, rfl⟩
      go_wp2_with fail
      go_ret
      exact ⟨rfl, rfl⟩
    · rw [show pl x = 0 from by unfold pl; rw [if_neg (by rw [hn]; simp), if_neg hl]]
      have t1 : decide ((x : Int) < 9223372036854775808) = false := decide_eq_false (by omega)
      have t2 : decide (9223372036854775808 ≤ (x : Int)) = true := decide_eq_true (by omega)
      clear hn hx hl
      go_enter Tryd.func82, Tryd.ntmps82
      go_wp2_with fail
      refine (HN.out _).mono ?_
      rintro e w1 ⟨rfl, rfl⟩
      go_wp2_with fail
      go_ret
      exact ⟨rfl, rfl⟩
end Go.Proofs.YtnmjelcicbfjdaaDoor.Ce
