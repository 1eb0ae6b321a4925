import Derived.Laws.BitsLemmas
import Derived.Test.YtciolchdihlgfaaGreatDoorWMore
namespace Go.Proofs.YtciolchdihlgfaaGreatDoor.Wire
open Go.RowKit Go.Proofs.YtciolchdihlgfaaGreatDoorW.PrintWords Go.Proofs.YtciolchdihlgfaaGreatDoorW.PrintLast Go.Proofs.YtciolchdihlgfaaGreatDoorW.PrintMore
set_option linter.unusedVariables false
set_option linter.unusedSimpArgs false

/-- The bytes of a number. -/
def uv (x : Nat) : List Int := if x < 128 then [(x : Int)] else ((128 + x % 128 : Nat) : Int) :: uv (x / 128)
termination_by x
decreasing_by omega

theorem uv_small {x : Nat} (h : x < 128) : uv x = [(x : Int)] := by rw [uv, if_pos h]
theorem uv_big {x : Nat} (h : 128 ≤ x) : uv x = ((128 + x % 128 : Nat) : Int) :: uv (x / 128) := by rw [uv, if_neg (by omega)]
def usz (x : Nat) : Nat := (uv x).length
theorem usz_small {x : Nat} (h : x < 128) : usz x = 1 := by rw [usz, uv_small h]; rfl
theorem usz_big {x : Nat} (h : 128 ≤ x) : usz x = usz (x / 128) + 1 := by rw [usz, uv_big h]; rfl
theorem uv_ind {P : Nat → Prop} (h0 : ∀ x, x < 128 → P x) (h1 : ∀ x, 128 ≤ x → P (x / 128) → P x) (x : Nat) : P x := by
  induction x using Nat.strongRecOn with
  | ind x ih =>
    by_cases h : x < 128
    · exact h0 x h
    · exact h1 x (by omega) (ih _ (by omega))

theorem usz_spec (x : Nat) : 1 ≤ usz x ∧ x < 128 ^ usz x ∧ (usz x = 1 ∨ 128 ^ (usz x - 1) ≤ x) := by
  refine uv_ind (P := fun x => 1 ≤ usz x ∧ x < 128 ^ usz x ∧ (usz x = 1 ∨ 128 ^ (usz x - 1) ≤ x)) ?_ ?_ x
  · intro x h
    rw [usz_small h]
    exact ⟨by omega, by omega, .inl rfl⟩
  · intro x h ⟨a, b, c⟩
    rw [usz_big h]
    refine ⟨by omega, ?_, .inr ?_⟩
    · rw [Nat.pow_succ]
      omega
    · rw [Nat.add_sub_cancel]
      rcases c with c | c
      · rw [c]
        omega
      · obtain ⟨m, hm⟩ : ∃ m, usz (x / 128) = m + 1 := ⟨usz (x / 128) - 1, by omega⟩
        rw [hm] at c ⊢
        rw [Nat.pow_succ]
        simp only [Nat.add_sub_cancel] at c
        omega
theorem usz_unique {n x : Nat} (h1 : 1 ≤ n) (hx : x < 128 ^ n) (hn : n = 1 ∨ 128 ^ (n - 1) ≤ x) : n = usz x := by
  obtain ⟨a, b, c⟩ := usz_spec x
  rcases Nat.lt_trichotomy n (usz x) with h | h | h
  · have := Nat.pow_le_pow_right (n := 128) (by decide) (show n ≤ usz x - 1 by omega)
    omega
  · exact h
  · have := Nat.pow_le_pow_right (n := 128) (by decide) (show usz x ≤ n - 1 by omega)
    omega
theorem usz_le {x n : Nat} (h1 : 1 ≤ n) (h : x < 128 ^ n) : usz x ≤ n := by
  obtain ⟨a, b, c⟩ := usz_spec x
  rcases Nat.lt_or_ge n (usz x) with h' | h'
  · have := Nat.pow_le_pow_right (n := 128) (by decide) (show n ≤ usz x - 1 by omega)
    omega
  · exact h'
theorem usz_le10 {x : Nat} (h : x < 18446744073709551616) : usz x ≤ 10 := usz_le (by decide) (by omega)
theorem usz_mono {x y : Nat} (h : x ≤ y) : usz x ≤ usz y := usz_le (usz_spec y).1 (Nat.lt_of_le_of_lt h (usz_spec y).2.1)

theorem uv_get (x : Nat) : ∀ i, i < usz x → (uv x).getD i 0 = if i + 1 < usz x then ((128 + x / 128 ^ i % 128 : Nat) : Int) else ((x / 128 ^ i : Nat) : Int) := by
  refine uv_ind (P := fun x => ∀ i, i < usz x → (uv x).getD i 0 = if i + 1 < usz x then ((128 + x / 128 ^ i % 128 : Nat) : Int) else ((x / 128 ^ i : Nat) : Int)) ?_ ?_ x
  · intro x h i hi
    rw [usz_small h] at *
    obtain rfl : i = 0 := by omega
    rw [if_neg (by omega), uv_small h]
    simp
  · intro x h ih i hi
    have hu := usz_spec (x / 128)
    rw [usz_big h] at *
    rw [uv_big h]
    cases i with
    | zero =>
      rw [if_pos (by omega)]
      simp
    | succ i =>
      rw [List.getD_cons_succ, ih i (by omega), Nat.pow_succ, Nat.mul_comm, Nat.div_div_eq_div_mul]
      by_cases e : i + 1 < usz (x / 128)
      · rw [if_pos e, if_pos (by omega)]
      · rw [if_neg e, if_neg (by omega)]
theorem uv_range (x : Nat) : ∀ c ∈ uv x, 0 ≤ c ∧ c < 256 := by
  refine uv_ind (P := fun x => ∀ c ∈ uv x, 0 ≤ c ∧ c < 256) ?_ ?_ x
  · intro x h c hc
    rw [uv_small h] at hc
    simp at hc
    omega
  · intro x h ih c hc
    rw [uv_big h] at hc
    rcases List.mem_cons.1 hc with rfl | hc
    · omega
    · exact ih c hc

/-! ### How many bits a number has -/
def lenP (r x : Nat) : Prop := x < 2 ^ r ∧ (r = 0 ∨ 2 ^ (r - 1) ≤ x)
theorem lenP_shift {r x : Nat} (s : Nat) (h : lenP r (x / 2 ^ s)) (hp : 0 < x / 2 ^ s) : lenP (r + s) x := by
  obtain ⟨h1, h2⟩ := h
  have hs : 0 < 2 ^ s := Nat.two_pow_pos s
  refine ⟨?_, .inr ?_⟩
  · rw [Nat.pow_add]
    exact (Nat.div_lt_iff_lt_mul hs).1 h1
  · rcases h2 with h2 | h2
    · subst h2
      omega
    · have hr : 0 < r := by
        rcases Nat.eq_zero_or_pos r with h0 | h0
        · subst h0
          omega
        · exact h0
      rw [show r + s - 1 = (r - 1) + s by omega, Nat.pow_add]
      exact (Nat.le_div_iff_mul_le hs).1 h2
def LenOK (x : Nat) (o : Option Int) : Prop := ∃ r : Nat, o = some (r : Int) ∧ r ≤ 64 ∧ lenP r x
def T256 : ByteArray := ⟨#[0, 1, 2, 2, 3, 3, 3, 3, 4, 4, 4, 4, 4, 4, 4, 4, 5, 5, 5, 5, 5, 5, 5, 5, 5, 5, 5, 5, 5, 5, 5, 5, 6, 6, 6, 6, 6, 6, 6, 6, 6, 6, 6, 6, 6, 6, 6, 6, 6, 6, 6, 6, 6, 6, 6, 6, 6, 6, 6, 6, 6, 6, 6, 6, 7, 7, 7, 7, 7, 7, 7, 7, 7, 7, 7, 7, 7, 7, 7, 7, 7, 7, 7, 7, 7, 7, 7, 7, 7, 7, 7, 7, 7, 7, 7, 7, 7, 7, 7, 7, 7, 7, 7, 7, 7, 7, 7, 7, 7, 7, 7, 7, 7, 7, 7, 7, 7, 7, 7, 7, 7, 7, 7, 7, 7, 7, 7, 7, 8, 8, 8, 8, 8, 8, 8, 8, 8, 8, 8, 8, 8, 8, 8, 8, 8, 8, 8, 8, 8, 8, 8, 8, 8, 8, 8, 8, 8, 8, 8, 8, 8, 8, 8, 8, 8, 8, 8, 8, 8, 8, 8, 8, 8, 8, 8, 8, 8, 8, 8, 8, 8, 8, 8, 8, 8, 8, 8, 8, 8, 8, 8, 8, 8, 8, 8, 8, 8, 8, 8, 8, 8, 8, 8, 8, 8, 8, 8, 8, 8, 8, 8, 8, 8, 8, 8, 8, 8, 8, 8, 8, 8, 8, 8, 8, 8, 8, 8, 8, 8, 8, 8, 8, 8, 8, 8, 8, 8, 8, 8, 8, 8, 8, 8, 8, 8, 8, 8, 8, 8, 8, 8, 8, 8, 8, 8, 8]⟩
theorem t256 : ∀ i : Fin 256, 0 ≤ bt T256 (i.val : Int) ∧ bt T256 (i.val : Int) ≤ 8 ∧ i.val < 2 ^ (bt T256 (i.val : Int)).toNat ∧ ((bt T256 (i.val : Int)).toNat = 0 ∨ 2 ^ ((bt T256 (i.val : Int)).toNat - 1) ≤ i.val) := by decide +kernel
theorem len_at (T : ByteArray) (hT : T = T256) (x s : Nat) (j t : Int) (e : Int) (hj : j = ((x / 2 ^ s : Nat) : Int)) (hx : x / 2 ^ s < 256) (hp : 0 < x / 2 ^ s ∨ s = 0) (hs : s ≤ 56) (he : e = s) (ht : t = wrap64 (e + wrap64 (bt T j))) : LenOK x (some t) := by
  subst hT hj he
  obtain ⟨h0, h8, h1, h2⟩ := t256 ⟨x / 2 ^ s, hx⟩
  simp only at h0 h8 h1 h2
  generalize bt T256 ((x / 2 ^ s : Nat) : Int) = q at *
  obtain ⟨r, rfl⟩ := Int.eq_ofNat_of_zero_le h0
  simp only [Int.toNat_natCast] at h1 h2
  refine ⟨r + s, ?_, by omega, ?_⟩
  · rw [ht]
    unfold wrap64
    exact congrArg some (by omega)
  · rcases hp with hp | rfl
    · exact lenP_shift s ⟨h1, h2⟩ hp
    · rw [show x / 2 ^ 0 = x by simp] at h1 h2
      exact ⟨h1, h2⟩
theorem size_of_len {r x : Nat} (hr : r ≤ 64) (h : lenP r x) : wrap64 (Int.tdiv (wrap64 ((wrap64 ((mx 1 (r : Int)) + 7)) - 1)) 7) = (usz x : Int) := by
  obtain ⟨h1, h2⟩ := h
  have hn : (max 1 r + 6) / 7 = usz x := by
    refine usz_unique (by omega) ?_ ?_
    · refine Nat.lt_of_lt_of_le h1 ?_
      rw [show (128 : Nat) = 2 ^ 7 from rfl, ← Nat.pow_mul]
      exact Nat.pow_le_pow_right (by decide) (by omega)
    · rcases h2 with rfl | h2
      · exact .inl (by decide)
      · by_cases e : (max 1 r + 6) / 7 = 1
        · exact .inl e
        · refine .inr (Nat.le_trans ?_ h2)
          rw [show (128 : Nat) = 2 ^ 7 from rfl, ← Nat.pow_mul]
          exact Nat.pow_le_pow_right (by decide) (by omega)
  rw [← hn]
  unfold mx wrap64
  rw [Int.tdiv_eq_ediv_of_nonneg (by split <;> omega)]
  split <;> omega
end Go.Proofs.YtciolchdihlgfaaGreatDoor.Wire
