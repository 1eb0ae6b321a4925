/- decklelaw02.CrcBursts: for every input the call returns true; each argument reads afterwards as before. No condition. -/
import Derived.Test.YtkngkjgapgnmbaaGCrcBursts
namespace Go.Proofs.Ytkngkjgapgnmbaa.Pure
open Go.RowKit Go.Proofs.Ytkngkjgapgnmbaa.PCrcBursts Go.Proofs.YtkngkjgapgnmbaaW.PrintWords Go.Proofs.YtkngkjgapgnmbaaW.PrintLast Go.Proofs.YtkngkjgapgnmbaaW.PrintMore Go.Proofs.Ytkngkjgapgnmbaa.Wire Go.Proofs.Ytkngkjgapgnmbaa.Crc Go.Proofs.Ytkngkjgapgnmbaa.CrcBurstsC
set_option linter.unusedVariables false

theorem xor_pow {a k : Nat} (h : a < 2 ^ k) : a ^^^ 2 ^ k = a + 2 ^ k := by
  apply Nat.eq_of_testBit_eq
  intro j
  rw [Nat.testBit_xor, Nat.testBit_two_pow, Nat.add_comm]
  rcases Nat.lt_trichotomy j k with hj | hj | hj
  · rw [Nat.testBit_two_pow_add_gt hj]
    simp [show ¬ k = j by omega]
  · subst hj
    rw [Nat.testBit_two_pow_add_eq, Nat.testBit_lt_two_pow h]
    simp
  · have h1 : a < 2 ^ j := Nat.lt_of_lt_of_le h (Nat.pow_le_pow_right (by decide) (by omega))
    have h2 : 2 ^ k + a < 2 ^ j := by
      have : 2 ^ (k + 1) ≤ 2 ^ j := Nat.pow_le_pow_right (by decide) hj
      rw [Nat.pow_succ] at this
      omega
    rw [Nat.testBit_lt_two_pow h1, Nat.testBit_lt_two_pow h2]
    simp [show ¬ k = j by omega]
theorem bit_is (m k : Nat) (hm : m < 4294967296) (hk : k < 32) : bits .and .u32 (shr .u32 (m : Int) (k : Int)) 1 = ((m / 2 ^ k % 2 : Nat) : Int) := by
  have e : shr .u32 (m : Int) (k : Int) = ((m / 2 ^ k : Nat) : Int) := by
    unfold shr
    rw [Int.toNat_natCast, Nat.min_eq_left (show k ≤ IntKind.u32.bits by simp [IntKind.bits]; omega)]
    simp
  have hlt : m / 2 ^ k < 4294967296 := Nat.lt_of_le_of_lt (Nat.div_le_self _ _) hm
  rw [e]
  generalize m / 2 ^ k = q at *
  have := bits_mask .u32 32 (by decide) (fun n a b => by rw [IntKind.wrap_u32]; omega) 1 (by decide) (q : Int) (by omega) (by omega)
  simpa using this
theorem flip_is (t : List Int) (hb : Bytes t) (p : Nat) (hp : p / 8 < t.length) : t.set (p / 8) (bits .xor .u8 (rd t ((p / 8 : Nat) : Int)) (shl .u8 1 ((p % 8 : Nat) : Int))) = Crc.flip t p := by
  have hr := hb.rd_ (p / 8)
  have e : shl .u8 1 ((p % 8 : Nat) : Int) = ((2 ^ (p % 8) : Nat) : Int) := by
    have hlt : 2 ^ (p % 8) < 2 ^ 8 := Nat.pow_lt_pow_right (by decide) (by omega)
    unfold shl
    rw [Int.toNat_natCast, Nat.min_eq_left (show p % 8 ≤ IntKind.u8.bits by simp [IntKind.bits]; omega), IntKind.wrap_u8, Int.one_mul]
    have : ((2 : Int) ^ (p % 8)) = ((2 ^ (p % 8) : Nat) : Int) := by simp
    rw [this]
    generalize 2 ^ (p % 8) = q at *
    omega
  have hlt : 2 ^ (p % 8) < 2 ^ 8 := Nat.pow_lt_pow_right (by decide) (by omega)
  rw [e]
  unfold Crc.flip
  generalize 2 ^ (p % 8) = q at *
  rw [u8_xor _ _ hr.1 hr.2 (by omega) (by omega)]
  unfold rd
  simp only [Int.toNat_natCast]
attribute [local irreducible] Crc.iter
theorem loop (x2 : Nat) (hx : x2 < 4294967296) (n i : Nat) (hi : i + 31 < 8 * n) (hn : n ≤ 3004) (l : List Int) (hl : Bytes l) (ho : opened l) (hx0 : Aside0 (x2 ≠ 0)) : ∀ (d k j : Nat) (t : List Int), 32 - j = d → j ≤ 32 → Bytes t → t.length = n → Aside0 (F t = F l ^^^ iter (8 * n - i) (x2 % 2 ^ j)) → d + 10 < k →
    decklelaw02_CrcBursts.l0 k (x2 : Int) (i : Int) t (j : Int) = some true := by
  intro d
  induction d with
  | zero =>
    intro k j t hd hj hb ht hF hk
    obtain rfl : j = 32 := by omega
    obtain ⟨k, rfl⟩ : ∃ m, k = m + 1 := ⟨k - 1, by omega⟩
    simp only [decklelaw02_CrcBursts.l0]
    have hno : ¬ opened t := by
      have hF := hF.out
      rw [Nat.mod_eq_of_lt hx] at hF
      exact not_opened hl hb ho hF (fun h => hx0.out (iter_ne hx _ h))
    clear hF
    rw [if_neg (by omega), copen hb (by omega) k (by omega), show decklelaw02_alive.f = some true from rfl]
    unfold openS
    rw [if_neg hno]
    simp
  | succ d ih =>
    intro k j t hd hj hb ht hF hk
    obtain ⟨k, rfl⟩ : ∃ m, k = m + 1 := ⟨k - 1, by omega⟩
    simp only [decklelaw02_CrcBursts.l0]
    have HF := hF
    clear hF
    rw [if_pos (by omega), if_pos (by omega), bit_is x2 j hx (by omega), cw64 (n := (j : Int) + 1) (by omega) (by omega)]
    obtain ⟨b, hb2⟩ : ∃ b, b = x2 / 2 ^ j % 2 := ⟨_, rfl⟩
    have HB := Aside0.mk hb2
    rw [← hb2]
    have hlt2 : b < 2 := by rw [hb2]; exact Nat.mod_lt _ (by decide)
    clear hb2
    by_cases h : b = 1
    · have z1 : (0 : Int) ≤ (((i + j) / 8 : Nat) : Int) := Int.natCast_nonneg _
      have z2 : (((i + j) / 8 : Nat) : Int) < (t.length : Int) := by omega
      have z3 : (0 : Int) ≤ (((i + j) % 8 : Nat) : Int) := Int.natCast_nonneg _
      have z0 : (b : Int) = 1 := by omega
      have z4 : (i + j) / 8 < t.length := by omega
      have w1 : -9223372036854775808 ≤ (i : Int) + (j : Int) := by omega
      have w2 : (i : Int) + (j : Int) ≤ 9223372036854775807 := by omega
      have w3 : -9223372036854775808 ≤ ((i : Int) + (j : Int)) / 8 := by omega
      have w4 : ((i : Int) + (j : Int)) / 8 ≤ 9223372036854775807 := by omega
      have z7 : ((i : Int) + (j : Int)) / 8 = (((i + j) / 8 : Nat) : Int) := by omega
      have z8 : ((i : Int) + (j : Int)) % 8 = (((i + j) % 8 : Nat) : Int) := by omega
      have z9 : (0 : Int) ≤ (i : Int) + (j : Int) := by omega
      rw [if_pos z0, cw64 w1 w2, Int.tdiv_eq_ediv_of_nonneg z9, cw64 w3 w4, z7, Int.tmod_eq_emod_of_nonneg z9, z8, if_pos z1, if_pos z2, if_pos z3, Int.toNat_natCast, flip_is t hb (i + j) z4]
      clear z7 z8 w1 w2 w3 w4
      have hfl := F_flip t (i + j) (by omega)
      have hle : j ≤ 8 * n - i := by omega
      have hsub : 8 * n - i - j = 8 * n - (i + j) := by omega
      have hd2 : 32 - (j + 1) = d := by omega
      have hj2 : j + 1 ≤ 32 := by omega
      have hk2 : d + 10 < k := by omega
      refine ih k (j + 1) _ hd2 hj2 (flip_bytes hb _) (by rw [flip_len, ht]) ⟨?_⟩ hk2
      have hpow : x2 % 2 ^ (j + 1) = x2 % 2 ^ j + 2 ^ j * (x2 / 2 ^ j % 2) := Nat.mod_pow_succ
      rw [hfl, HF.out, ht, hpow, ← HB.out, h, Nat.mul_one, ← xor_pow (Nat.mod_lt _ (Nat.two_pow_pos j)), iter_xor, iter_pow j _ hle, Nat.xor_assoc, hsub]
    · rw [if_neg (by omega)]
      have hd2 : 32 - (j + 1) = d := by omega
      have hj2 : j + 1 ≤ 32 := by omega
      have hk2 : d + 10 < k := by omega
      have h0 : b = 0 := by omega
      refine ih k (j + 1) t hd2 hj2 hb ht ⟨?_⟩ hk2
      have hpow : x2 % 2 ^ (j + 1) = x2 % 2 ^ j + 2 ^ j * (x2 / 2 ^ j % 2) := Nat.mod_pow_succ
      rw [HF.out, hpow, ← HB.out, h0, Nat.mul_zero, Nat.add_zero]
theorem CrcBursts : decklelaw02_CrcBursts.Pure := by
  intro l0 a1 a2 m0 s0 w0 h1 h2
  have hb0 := Bytes.of w0
  obtain ⟨b1, c1⟩ := wf_i64 h1
  obtain ⟨b2, c2⟩ := wf_u32 h2
  obtain ⟨x2, rfl⟩ := Int.eq_ofNat_of_zero_le b2
  have hal : decklelaw02_alive.f = some true := rfl
  have hsl := seal_len l0
  refine ⟨60, ?_⟩
  unfold decklelaw02_CrcBursts.f
  rw [cseal hb0 (by omega) 60 (by omega)]
  simp only [Option.bind_some]
  by_cases g1 : (l0.length : Int) > 3000
  · rw [if_pos g1]
    simp only [decklelaw02_CrcBursts.j0]
    rw [if_pos (by simp), if_pos g1, hal]
    rfl
  rw [if_neg g1]
  by_cases g2 : (x2 : Int) = 0
  · rw [if_pos g2]
    simp only [decklelaw02_CrcBursts.j0]
    rw [if_pos (by simp), if_neg g1, if_pos g2, hal]
    rfl
  rw [if_neg g2, hsl, cw64 (by omega) (by omega), show (((l0.length + 4 : Nat) : Int) != (l0.length : Int) + 4) = false by simp]
  simp only [decklelaw02_CrcBursts.j0, hsl]
  generalize hnn : l0.length + 4 = n at *
  have hw : IntKind.u64.wrap (wrap64 (wrap64 (8 * (n : Int)) - 31)) = ((8 * n - 31 : Nat) : Int) := by
    rw [cw64 (n := 8 * (n : Int)) (by omega) (by omega), cw64 (by omega) (by omega), u64_wrap]
    omega
  have hu : 0 ≤ IntKind.u64.wrap a1 := by rw [u64_wrap]; omega
  obtain ⟨u, hu2⟩ := Int.eq_ofNat_of_zero_le hu
  rw [if_neg (by simp), hw, hu2, if_neg (by omega)]
  simp only [Option.bind_some, List.nil_append, List.length_nil]
  have hmod : Int.tmod (u : Int) ((8 * n - 31 : Nat) : Int) = ((u % (8 * n - 31) : Nat) : Int) := by
    rw [Int.tmod_eq_emod_of_nonneg (by omega)]
    rfl
  have hlt : u % (8 * n - 31) < 8 * n - 31 := Nat.mod_lt _ (by omega)
  rw [if_pos (by omega), hmod, cw64 (by omega) (by omega)]
  have := loop x2 (by omega) n (u % (8 * n - 31)) (by omega) (by omega) (sealed l0) (seal_bytes hb0) (seal_opened l0) ⟨by omega⟩ 32 59 0 (sealed l0) (by omega) (by omega) (seal_bytes hb0) hsl ⟨by rw [Nat.pow_zero, Nat.mod_one, iter_zero, Nat.xor_zero]⟩ (by omega)
  exact this
end Go.Proofs.Ytkngkjgapgnmbaa.Pure
