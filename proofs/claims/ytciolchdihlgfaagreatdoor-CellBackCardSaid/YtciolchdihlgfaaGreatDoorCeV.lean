/- Plain law: the order of cells: the rank of a number under its kind, then the bytes. -/
import Derived.Lib.Bytealg
import Derived.Laws.BitsAllLaws
set_option autoImplicit false
namespace Go.Proofs.YtciolchdihlgfaaGreatDoor
namespace Ce

def flip (n : Int) : Int := if n < 9223372036854775808 then n + 9223372036854775808 else n - 9223372036854775808

def rk (k n : Int) : Int :=
  if k = 0 then flip n
  else if k = 5 then (if n < 9223372036854775808 then n + 9223372036854775808 else 18446744073709551615 - n)
  else n

def cmpi (a b : Int) : Int := if a < b then -1 else if b < a then 1 else 0

def orv (a b : Int) : Int := if a = 0 then b else a

abbrev cb (s t : ByteArray) : Int := Lib.compareBytes s.data.toList t.data.toList

/-- The order of two cells that may be. -/
def ord (k n : Int) (s : ByteArray) (m : Int) (t : ByteArray) : Int := orv (cmpi (rk k n) (rk k m)) (cb s t)

theorem xor_high (a : Nat) (h : a < 9223372036854775808) : a ^^^ 9223372036854775808 = a + 9223372036854775808 := by
  apply Nat.eq_of_testBit_eq
  intro i
  rw [Nat.testBit_xor, show (9223372036854775808 : Nat) = 2 ^ 63 from rfl, Nat.testBit_two_pow, Nat.add_comm]
  rcases Nat.lt_trichotomy i 63 with c | c | c
  · rw [Nat.testBit_two_pow_add_gt c]
    simp [show ¬ 63 = i by omega]
  · subst c
    rw [Nat.testBit_two_pow_add_eq]; simp
  · have hi : 2 ^ 64 ≤ 2 ^ i := Nat.pow_le_pow_right (by omega) (by omega)
    rw [Nat.testBit_lt_two_pow (show a < 2 ^ i by omega), Nat.testBit_lt_two_pow (show 2 ^ 63 + a < 2 ^ i by omega)]
    simp [show ¬ 63 = i by omega]

theorem flip_xor (n : Int) (h0 : 0 ≤ n) (h1 : n < 18446744073709551616) : bits .xor .u64 n 9223372036854775808 = flip n := by
  obtain ⟨a, rfl⟩ : ∃ a : Nat, n = (a : Int) := ⟨n.toNat, by omega⟩
  have e := u64_xor_nat a 9223372036854775808 (by omega) (by omega)
  rw [show ((9223372036854775808 : Nat) : Int) = 9223372036854775808 from rfl] at e
  rw [e]
  unfold flip
  by_cases c : a < 9223372036854775808
  · rw [xor_high a c, if_pos (by omega)]; omega
  · obtain ⟨d, rfl⟩ : ∃ d, a = d + 9223372036854775808 := ⟨a - 9223372036854775808, by omega⟩
    rw [← xor_high d (by omega), Nat.xor_assoc, Nat.xor_self, Nat.xor_zero, if_neg (by rw [xor_high d (by omega)]; omega), xor_high d (by omega)]
    omega

theorem not_xor (n : Int) (h0 : 0 ≤ n) (h1 : n < 18446744073709551616) : bits .xor .u64 18446744073709551615 n = 18446744073709551615 - n := by
  obtain ⟨a, rfl⟩ : ∃ a : Nat, n = (a : Int) := ⟨n.toNat, by omega⟩
  have e := u64_xor_nat 18446744073709551615 a (by omega) (by omega)
  rw [show ((18446744073709551615 : Nat) : Int) = 18446744073709551615 from rfl] at e
  rw [e]
  have b : (18446744073709551615 : Nat) ^^^ a = 18446744073709551615 - a := by
    have x := congrArg BitVec.toNat (BitVec.allOnes_xor (x := BitVec.ofNat 64 a))
    rw [BitVec.toNat_xor, BitVec.toNat_not, BitVec.toNat_allOnes, BitVec.toNat_ofNat, Nat.mod_eq_of_lt (by omega)] at x
    exact x
  rw [b]; omega

theorem rk_inj {k n m : Int} (hn : 0 ≤ n ∧ n < 18446744073709551616) (hm : 0 ≤ m ∧ m < 18446744073709551616) (h : rk k n = rk k m) : n = m := by
  unfold rk flip at h
  repeat' split at h
  all_goals omega

theorem cmpi_rng (a b : Int) : -1 ≤ cmpi a b ∧ cmpi a b ≤ 1 := by unfold cmpi; (repeat' split) <;> omega
theorem cmpi_neg (a b : Int) : cmpi a b = -cmpi b a := by unfold cmpi; (repeat' split) <;> omega
theorem cmpi_zero (a b : Int) : cmpi a b = 0 ↔ a = b := by unfold cmpi; (repeat' split) <;> omega
theorem cmpi_lt (a b : Int) : cmpi a b < 0 ↔ a < b := by unfold cmpi; (repeat' split) <;> omega
theorem cmpi_gt (a b : Int) : 0 < cmpi a b ↔ b < a := by unfold cmpi; (repeat' split) <;> omega

theorem cmpb_rng : ∀ a b : List UInt8, -1 ≤ Lib.compareBytes a b ∧ Lib.compareBytes a b ≤ 1
  | [], [] => by simp [Lib.compareBytes]
  | [], _ :: _ => by simp [Lib.compareBytes]
  | _ :: _, [] => by simp [Lib.compareBytes]
  | a :: al, b :: bs => by
    unfold Lib.compareBytes
    have := cmpb_rng al bs
    (repeat' split) <;> omega

theorem cmpb_neg : ∀ a b : List UInt8, Lib.compareBytes a b = -Lib.compareBytes b a
  | [], [] => by simp [Lib.compareBytes]
  | [], _ :: _ => by simp [Lib.compareBytes]
  | _ :: _, [] => by simp [Lib.compareBytes]
  | a :: al, b :: bs => by
    unfold Lib.compareBytes
    have ih := cmpb_neg al bs
    by_cases h : a < b
    · have h' : ¬ b < a := fun c => by have := UInt8.lt_asymm h; exact this c
      rw [if_pos h, if_neg h', if_pos h]
    · by_cases h' : b < a
      · rw [if_neg h, if_pos h', if_pos h']; rfl
      · rw [if_neg h, if_neg h', if_neg h', if_neg h, ih]

theorem cmpb_zero : ∀ a b : List UInt8, Lib.compareBytes a b = 0 ↔ a = b
  | [], [] => by simp [Lib.compareBytes]
  | [], _ :: _ => by simp [Lib.compareBytes]
  | _ :: _, [] => by simp [Lib.compareBytes]
  | a :: al, b :: bs => by
    unfold Lib.compareBytes
    have ih := cmpb_zero al bs
    by_cases h : a < b
    · rw [if_pos h]
      constructor
      · intro c; simp at c
      · intro c; cases c; exact absurd h (UInt8.lt_irrefl _)
    · by_cases h' : b < a
      · rw [if_neg h, if_pos h']
        constructor
        · intro c; simp at c
        · intro c; cases c; exact absurd h' (UInt8.lt_irrefl _)
      · have e : a = b := by
          apply UInt8.toNat_inj.1
          rw [UInt8.lt_iff_toNat_lt] at h h'
          omega
        rw [if_neg h, if_neg h', ih]
        subst e; simp

theorem cmpb_trans : ∀ a b c : List UInt8, Lib.compareBytes a b ≤ 0 → Lib.compareBytes b c ≤ 0 →
    Lib.compareBytes a c ≤ 0 ∧ (Lib.compareBytes a b < 0 ∨ Lib.compareBytes b c < 0 → Lib.compareBytes a c < 0)
  | [], [], [] => by simp [Lib.compareBytes]
  | [], [], _ :: _ => by simp [Lib.compareBytes]
  | [], _ :: _, [] => by simp [Lib.compareBytes]
  | [], _ :: _, _ :: _ => by simp [Lib.compareBytes]
  | _ :: _, [], _ => by simp [Lib.compareBytes]
  | _ :: _, _ :: _, [] => by simp [Lib.compareBytes]
  | a :: al, b :: bs, c :: cs => by
    unfold Lib.compareBytes
    have ih := cmpb_trans al bs cs
    simp only [UInt8.lt_iff_toNat_lt]
    generalize a.toNat = x
    generalize b.toNat = y
    generalize c.toNat = z
    generalize Lib.compareBytes al bs = p at *
    generalize Lib.compareBytes bs cs = q at *
    generalize Lib.compareBytes al cs = r at *
    intro h1 h2
    by_cases e1 : x < y
    · by_cases e2 : y < z
      · rw [if_pos (show x < z by omega)]; exact ⟨by omega, fun _ => by omega⟩
      · rw [if_neg e2] at h2
        by_cases e3 : z < y
        · rw [if_pos e3] at h2; omega
        · rw [if_pos (show x < z by omega)]; exact ⟨by omega, fun _ => by omega⟩
    · rw [if_neg e1] at h1
      by_cases e3 : y < x
      · rw [if_pos e3] at h1; omega
      · rw [if_neg e3] at h1
        by_cases e2 : y < z
        · rw [if_pos (show x < z by omega)]; exact ⟨by omega, fun _ => by omega⟩
        · rw [if_neg e2] at h2
          by_cases e4 : z < y
          · rw [if_pos e4] at h2; omega
          · rw [if_neg e4] at h2
            rw [if_neg e1, if_neg e3, if_neg e2, if_neg e4, if_neg (show ¬ x < z by omega), if_neg (show ¬ z < x by omega)]
            exact ih h1 h2

theorem ord_rng (k n : Int) (s : ByteArray) (m : Int) (t : ByteArray) : -1 ≤ ord k n s m t ∧ ord k n s m t ≤ 1 := by
  unfold ord orv cb
  have h1 := cmpi_rng (rk k n) (rk k m)
  have h2 := cmpb_rng s.data.toList t.data.toList
  split <;> omega

theorem ord_neg (k n : Int) (s : ByteArray) (m : Int) (t : ByteArray) : ord k n s m t = -ord k m t n s := by
  unfold ord orv cb
  have h1 := cmpi_neg (rk k n) (rk k m)
  have h2 := cmpb_neg s.data.toList t.data.toList
  rw [h1, h2]
  (repeat' split) <;> omega

theorem data_inj {s t : ByteArray} (h : s.data.toList = t.data.toList) : s = t := by
  cases s; cases t; simp_all

theorem ord_zero {k n m : Int} {s t : ByteArray} (hn : 0 ≤ n ∧ n < 18446744073709551616) (hm : 0 ≤ m ∧ m < 18446744073709551616) :
    ord k n s m t = 0 ↔ n = m ∧ s = t := by
  unfold ord orv cb
  constructor
  · intro h
    by_cases c : cmpi (rk k n) (rk k m) = 0
    · rw [if_pos c] at h
      exact ⟨rk_inj hn hm ((cmpi_zero _ _).1 c), data_inj ((cmpb_zero _ _).1 h)⟩
    · rw [if_neg c] at h; exact absurd h c
  · rintro ⟨rfl, rfl⟩
    rw [if_pos ((cmpi_zero _ _).2 rfl)]; exact (cmpb_zero _ _).2 rfl

theorem ord_trans {k n m l : Int} {s t u : ByteArray} (h1 : ord k n s m t ≤ 0) (h2 : ord k m t l u ≤ 0) :
    ord k n s l u ≤ 0 ∧ (ord k n s m t < 0 ∨ ord k m t l u < 0 → ord k n s l u < 0) := by
  unfold ord orv cb at *
  have h3 := cmpb_trans s.data.toList t.data.toList u.data.toList
  generalize Lib.compareBytes s.data.toList t.data.toList = p at *
  generalize Lib.compareBytes t.data.toList u.data.toList = q at *
  generalize Lib.compareBytes s.data.toList u.data.toList = r at *
  generalize rk k n = x at *
  generalize rk k m = y at *
  generalize rk k l = z at *
  unfold cmpi at *
  by_cases e1 : x < y
  · by_cases e2 : y < z
    · simp [show x < z by omega]
    · by_cases e3 : z < y
      · simp [e2, e3] at h2
      · simp [show x < z by omega]
  · by_cases e3 : y < x
    · simp [e1, e3] at h1
    · have e : x = y := by omega
      subst e
      simp [e1] at h1
      by_cases e2 : x < z
      · simp [e2]
      · by_cases e4 : z < x
        · simp [e2, e4] at h2
        · simp [e2, e4] at h2 ⊢
          exact h3 h1 h2

end Ce
end Go.Proofs.YtciolchdihlgfaaGreatDoor
