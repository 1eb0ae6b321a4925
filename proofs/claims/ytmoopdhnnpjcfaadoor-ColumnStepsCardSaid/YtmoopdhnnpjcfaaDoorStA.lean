import Derived.Test.YtmoopdhnnpjcfaaDoorCoFF
/-! ColumnSteps: numbers that rise. -/
namespace Go.Proofs.YtmoopdhnnpjcfaaDoor.St
open Go.RowKit Go.Proofs.YtmoopdhnnpjcfaaDoorW.PrintWords Go.Proofs.YtmoopdhnnpjcfaaDoorW.PrintLast Go.Proofs.YtmoopdhnnpjcfaaDoorW.PrintMore Go.Proofs.YtmoopdhnnpjcfaaDoor.Wire Go.Proofs.YtmoopdhnnpjcfaaDoor.PCo Go.Proofs.YtmoopdhnnpjcfaaDoor.CoG Go.Proofs.YtmoopdhnnpjcfaaDoor.Co
set_option linter.unusedVariables false
set_option linter.unusedSimpArgs false
set_option maxRecDepth 100000
def ris (x st : Int) : Nat → Int
  | 0 => x
  | i + 1 => IntKind.u64.wrap (ris x st i + IntKind.u64.wrap st)
def risl (x st : Int) : Nat → List S47
  | 0 => []
  | k + 1 => risl x st k ++ [⟨ris x st k, e0⟩]
theorem risl_len (x st : Int) (k : Nat) : (risl x st k).length = k := by
  induction k with
  | zero => rfl
  | succ k ih => rw [risl, List.length_append, ih]; rfl
theorem risl_at (x st : Int) : ∀ (k i : Nat), i < k → (risl x st k)[i]? = some ⟨ris x st i, e0⟩
  | 0, i, h => absurd h (Nat.not_lt_zero _)
  | k + 1, i, h => by
    rw [risl]
    by_cases e : i < k
    · rw [List.getElem?_append_left (by rw [risl_len]; exact e)]
      exact risl_at x st k i e
    · obtain rfl : i = k := by omega
      rw [List.getElem?_append_right (by rw [risl_len]; exact Nat.le_refl _), risl_len, Nat.sub_self]
      rfl
theorem rd_at (x st : Int) {k i : Nat} (h : i < k) : rd_T47 (risl x st k) (i : Int) = ⟨ris x st i, e0⟩ := by
  unfold rd_T47
  rw [Int.toNat_natCast, List.getD_eq_getElem?_getD, risl_at x st k i h]
  rfl
theorem nm_at (x st : Int) {k i : Nat} (h : i < k) : nm (risl x st k) i = ris x st i := by unfold nm; rw [rd_at x st h]
theorem tx_at (x st : Int) {k i : Nat} (h : i < k) : tx (risl x st k) i = e0 := by unfold tx; rw [rd_at x st h]
theorem ris_range {x : Int} (hx : 0 ≤ x ∧ x < 18446744073709551616) (st : Int) (i : Nat) : 0 ≤ ris x st i ∧ ris x st i < 18446744073709551616 := by
  cases i with
  | zero => exact hx
  | succ i => rw [ris, IntKind.wrap_u64]; omega
theorem step_is {x st : Int} (hs : -9223372036854775808 ≤ st ∧ st ≤ 9223372036854775807) (i : Nat) : wrap64 (IntKind.u64.wrap (ris x st (i + 1) - ris x st i)) = st := by
  rw [ris]
  obtain ⟨r, hr⟩ : ∃ r, ris x st i = r := ⟨_, rfl⟩
  rw [hr, IntKind.wrap_u64, IntKind.wrap_u64, IntKind.wrap_u64]
  unfold wrap64
  omega
def stepLen (st : Int) : Nat := usz (zigS st).toNat
theorem dlt_step {x st : Int} (hs : -9223372036854775808 ≤ st ∧ st ≤ 9223372036854775807) (i : Nat) : (dlt (ris x st i) (ris x st (i + 1))).length = stepLen st := by
  unfold dlt
  rw [step_is hs]
  rfl
theorem nbs_steps {x st : Int} (hs : -9223372036854775808 ≤ st ∧ st ≤ 9223372036854775807) (k : Nat) : ∀ j, 1 + j ≤ k → (nbs (risl x st k) x 1 j).length = j * stepLen st
  | 0, _ => by simp [nbs]
  | j + 1, h => by
    rw [nbs, List.length_append, nbs_steps hs k j (by omega)]
    have : (if j = 0 then x else nm (risl x st k) (1 + j - 1)) = ris x st j := by
      by_cases e : j = 0
      · subst e; rfl
      · rw [if_neg e, nm_at x st (by omega), show 1 + j - 1 = j by omega]
    rw [this, nm_at x st (by omega), show 1 + j = j + 1 by omega, dlt_step hs, Nat.succ_mul]
theorem nbs_steps0 {x st : Int} (hs : -9223372036854775808 ≤ st ∧ st ≤ 9223372036854775807) (k : Nat) : ∀ j, 1 + j ≤ k → (nbs (risl x st k) 0 0 (1 + j)).length = (dlt 0 x).length + j * stepLen st
  | 0, h => by
    have h1 : nm (risl x st k) (0 + 0) = x := nm_at x st (by omega)
    show (nbs (risl x st k) 0 0 0 ++ dlt 0 (nm (risl x st k) (0 + 0))).length = _
    rw [h1]
    simp [nbs]
  | j + 1, h => by
    rw [show 1 + (j + 1) = (1 + j) + 1 by omega, nbs, List.length_append, nbs_steps0 hs k j (by omega), if_neg (by omega), nm_at x st (by omega), nm_at x st (by omega), show 0 + (1 + j) - 1 = j by omega, show 0 + (1 + j) = j + 1 by omega, dlt_step hs, Nat.succ_mul]
    omega
def one (x : Int) : List S47 := [⟨x, e0⟩]
theorem fe_num {kd x st : Int} (hk : kd = 0 ∨ kd = 1 ∨ kd = 5) {k : Nat} : ∀ j, j ≤ k → fe kd (risl x st k) j = 0
  | 0, _ => rfl
  | j + 1, h => by
    rw [fe, fe_num hk j (by omega), if_neg (by decide), tx_at x st (by omega)]
    unfold chk
    rcases hk with rfl | rfl | rfl <;> rw [if_neg (by decide), if_neg (by decide), if_neg (by decide), if_neg (by rintro ⟨h, -⟩; exact absurd h (by decide))]
theorem err_num {kd x st : Int} (hk : kd = 0 ∨ kd = 1 ∨ kd = 5) (k : Nat) : wErr kd (risl x st k) = 0 := by
  rw [wErr, if_pos (by omega), risl_len]
  exact fe_num hk k (Nat.le_refl _)
theorem risl_one (x st : Int) : risl x st 1 = one x := rfl
/-- As many bytes as one has, and each step. -/
theorem len_num {kd x st : Int} (hk : kd = 0 ∨ kd = 1 ∨ kd = 5) (hs : -9223372036854775808 ≤ st ∧ st ≤ 9223372036854775807) (j : Nat) :
    (wBytes kd (risl x st (1 + j))).length = (wBytes kd (one x)).length + j * stepLen st := by
  rw [← risl_one x st, wBytes, wBytes, if_pos (err_num hk _), if_pos (err_num hk _)]
  have h0 := nbs_steps0 (x := x) hs (1 + j) j (Nat.le_refl _)
  have h1 := nbs_steps (x := x) hs (1 + j) j (Nat.le_refl _)
  have hn : ∀ m, Co.nums (risl x st (1 + m)) = uv x.toNat ++ nbs (risl x st (1 + m)) x 1 m := by
    intro m
    unfold Co.nums
    rw [risl_len, if_neg (by omega), nm_at x st (by omega), show 1 + m - 1 = m by omega]
    rfl
  have e0 := nbs_steps0 (x := x) hs 1 0 (Nat.le_refl _)
  have e1 := hn 0
  rcases hk with rfl | rfl | rfl
  · rw [wrote, if_pos rfl, wrote, if_pos rfl, risl_len, risl_len, h0, e0]; omega
  · rw [wrote, if_neg (by decide), if_neg (by decide), if_neg (by decide), wrote, if_neg (by decide), if_neg (by decide), if_neg (by decide), hn, e1, List.length_append, h1]
    simp [nbs]
  · rw [wrote, if_neg (by decide), if_neg (by decide), if_neg (by decide), wrote, if_neg (by decide), if_neg (by decide), if_neg (by decide), hn, e1, List.length_append, h1]
    simp [nbs]
theorem wb_bound {kd x st : Int} (hk : kd = 0 ∨ kd = 1 ∨ kd = 5) (hs : -9223372036854775808 ≤ st ∧ st ≤ 9223372036854775807) (hx : 0 ≤ x ∧ x < 18446744073709551616) : (wBytes kd (one x)).length ≤ 10 := by
  rw [← risl_one x st, wBytes, if_pos (err_num hk _)]
  have hu : (uv x.toNat).length ≤ 10 := usz_le10 (by omega)
  have hd := dlt_len 0 x
  rcases hk with rfl | rfl | rfl
  · have := nbs_steps0 (x := x) hs 1 0 (Nat.le_refl _)
    rw [wrote, if_pos rfl, risl_len, this]; omega
  · show (uv x.toNat ++ []).length ≤ 10
    simpa using hu
  · show (uv x.toNat ++ []).length ≤ 10
    simpa using hu
theorem stepLen_le {st : Int} (hs : -9223372036854775808 ≤ st ∧ st ≤ 9223372036854775807) : stepLen st ≤ 10 := by
  have := zig_range hs.1 hs.2
  exact usz_le10 (by omega)
theorem small_ris (x st : Int) {k : Nat} (hk : k ≤ 1048576) : Small (risl x st k) := by
  refine small_of (by rw [risl_len]; exact hk) (fun y hy => ?_)
  obtain ⟨i, hi, rfl⟩ := List.mem_iff_getElem.1 hy
  have := risl_at x st k i (by rw [risl_len] at hi; exact hi)
  rw [List.getElem?_eq_getElem hi] at this
  injection this with this
  rw [this]
  show e0.size ≤ 1048576
  decide
end Go.Proofs.YtmoopdhnnpjcfaaDoor.St
