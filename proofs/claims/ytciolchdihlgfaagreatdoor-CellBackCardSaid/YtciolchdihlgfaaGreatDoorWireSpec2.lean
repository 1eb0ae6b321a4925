import Derived.Laws.BitsAllLaws
import Derived.Test.YtciolchdihlgfaaGreatDoorWireSpec
namespace Go.Proofs.YtciolchdihlgfaaGreatDoor.Wire
open Go.RowKit Go.Proofs.YtciolchdihlgfaaGreatDoorW.PrintWords Go.Proofs.YtciolchdihlgfaaGreatDoorW.PrintLast Go.Proofs.YtciolchdihlgfaaGreatDoorW.PrintMore
set_option linter.unusedVariables false
set_option linter.unusedSimpArgs false

/-! ### Bounds -/
theorem wf_u64 {a : Int} (h : (Lit.int .u64 a).wf = true) : 0 ≤ a ∧ a < 18446744073709551616 := by
  simp only [Lit.wf, IntKind.min, IntKind.max, IntKind.signed, IntKind.bits, Bool.and_eq_true, decide_eq_true_eq] at h
  simp at h
  omega
theorem wf_u32 {a : Int} (h : (Lit.int .u32 a).wf = true) : 0 ≤ a ∧ a < 4294967296 := by
  simp only [Lit.wf, IntKind.min, IntKind.max, IntKind.signed, IntKind.bits, Bool.and_eq_true, decide_eq_true_eq] at h
  simp at h
  omega
theorem wf_u16 {a : Int} (h : (Lit.int .u16 a).wf = true) : 0 ≤ a ∧ a < 65536 := by
  simp only [Lit.wf, IntKind.min, IntKind.max, IntKind.signed, IntKind.bits, Bool.and_eq_true, decide_eq_true_eq] at h
  simp at h
  omega
theorem wf_u8 {a : Int} (h : (Lit.int .u8 a).wf = true) : 0 ≤ a ∧ a < 256 := by
  simp only [Lit.wf, IntKind.min, IntKind.max, IntKind.signed, IntKind.bits, Bool.and_eq_true, decide_eq_true_eq] at h
  simp at h
  omega
theorem wf_i64 {a : Int} (h : (Lit.int .i64 a).wf = true) : -9223372036854775808 ≤ a ∧ a ≤ 9223372036854775807 := by
  simp only [Lit.wf, IntKind.min, IntKind.max, IntKind.signed, IntKind.bits, Bool.and_eq_true, decide_eq_true_eq] at h
  simp at h
  omega
theorem mn_nat (a b : Nat) : mn (a : Int) b = ((min a b : Nat) : Int) := by
  unfold mn
  split <;> omega
theorem mx_nat (a b : Nat) : mx (a : Int) b = ((max a b : Nat) : Int) := by
  unfold mx
  split <;> omega

/-! ### Bits -/
theorem an128 : ∀ c : Fin 256, bits .andNot .u8 (c.val : Int) 128 = (c.val : Int) % 128 := by decide +kernel
theorem or128 : ∀ c : Fin 256, bits .or .u8 (c.val : Int) 128 = 128 + (c.val : Int) % 128 := by decide +kernel
theorem andNot_128 {c : Int} (h0 : 0 ≤ c) (h1 : c < 256) : bits .andNot .u8 c 128 = c % 128 := by
  obtain ⟨n, rfl⟩ := Int.eq_ofNat_of_zero_le h0
  exact an128 ⟨n, by omega⟩
theorem or_128 {c : Int} (h0 : 0 ≤ c) (h1 : c < 256) : bits .or .u8 c 128 = 128 + c % 128 := by
  obtain ⟨n, rfl⟩ := Int.eq_ofNat_of_zero_le h0
  exact or128 ⟨n, by omega⟩
theorem u64_wrap (n : Int) : IntKind.u64.wrap n = n % 18446744073709551616 := by simp [IntKind.wrap, IntKind.bits, IntKind.signed]
theorem wraps_u64 (n : Int) (h₀ : 0 ≤ n) (h₁ : n < 2 ^ 64) : IntKind.u64.wrap n = n := by rw [u64_wrap]; omega
theorem u64_or_comm (x y : Int) : bits .or .u64 x y = bits .or .u64 y x := by simp only [bits, BitVec.or_comm]
theorem u64_xor_comm (x y : Int) : bits .xor .u64 x y = bits .xor .u64 y x := by simp only [bits, BitVec.xor_comm]
theorem u64_join (i : Nat) (x y : Int) (hy₀ : 0 ≤ y) (hy : y % 2 ^ i = 0) (hy₁ : y < 2 ^ 64) (hx₀ : 0 ≤ x) (hx : x < 2 ^ i) (hx₁ : x < 2 ^ 64) : bits .or .u64 x y = x + y := by
  rw [u64_or_comm, bits_join .u64 64 (by decide) wraps_u64 i y x hy₀ hy hy₁ hx₀ hx hx₁]
  omega
theorem u64_xor_zero {x : Int} (h0 : 0 ≤ x) (h1 : x < 18446744073709551616) : bits .xor .u64 x 0 = x := by
  rw [u64_xor x 0 h0 h1 (by omega) (by omega)]
  simp
  omega
theorem u64_xor_ones {x : Int} (h0 : 0 ≤ x) (h1 : x < 18446744073709551616) : bits .xor .u64 x 18446744073709551615 = 18446744073709551615 - x := by
  obtain ⟨n, rfl⟩ := Int.eq_ofNat_of_zero_le h0
  show IntKind.u64.wrap (((BitVec.ofInt 64 (n : Int)) ^^^ (BitVec.ofInt 64 18446744073709551615)).toNat : Int) = _
  rw [show BitVec.ofInt 64 (18446744073709551615 : Int) = BitVec.allOnes 64 by decide, BitVec.ofInt_natCast, BitVec.xor_allOnes, BitVec.toNat_not, BitVec.toNat_ofNat, u64_wrap]
  omega
theorem i64_wrap (n : Int) : IntKind.i64.wrap n = wrap64 n := by
  rw [IntKind.wrap_i64]
  unfold wrap64
  rfl
theorem i64_xor_zero {x : Int} (h0 : 0 ≤ x) (h1 : x < 9223372036854775808) : bits .xor .i64 x 0 = x := by
  obtain ⟨n, rfl⟩ := Int.eq_ofNat_of_zero_le h0
  show IntKind.i64.wrap (((BitVec.ofInt 64 (n : Int)) ^^^ (BitVec.ofInt 64 0)).toNat : Int) = _
  rw [show BitVec.ofInt 64 (0 : Int) = 0#64 by decide, BitVec.ofInt_natCast, BitVec.xor_zero, BitVec.toNat_ofNat, i64_wrap]
  unfold wrap64
  omega
theorem i64_xor_ones {x : Int} (h0 : 0 ≤ x) (h1 : x < 9223372036854775808) : bits .xor .i64 x (-1) = -1 - x := by
  obtain ⟨n, rfl⟩ := Int.eq_ofNat_of_zero_le h0
  show IntKind.i64.wrap (((BitVec.ofInt 64 (n : Int)) ^^^ (BitVec.ofInt 64 (-1))).toNat : Int) = _
  rw [show BitVec.ofInt 64 (-1 : Int) = BitVec.allOnes 64 by decide, BitVec.ofInt_natCast, BitVec.xor_allOnes, BitVec.toNat_not, BitVec.toNat_ofNat, i64_wrap]
  unfold wrap64
  omega

/-! ### Signs -/
def zigS (x : Int) : Int := if 0 ≤ x then 2 * x else -2 * x - 1
def zagS (x : Int) : Int := if x % 2 = 0 then x / 2 else -(x / 2) - 1
theorem zig_range {x : Int} (h0 : -9223372036854775808 ≤ x) (h1 : x ≤ 9223372036854775807) : 0 ≤ zigS x ∧ zigS x < 18446744073709551616 := by unfold zigS; split <;> omega
theorem zag_zig (x : Int) : zagS (zigS x) = x := by unfold zagS zigS; split <;> split <;> omega
theorem zig_zag {x : Int} (h : 0 ≤ x) : zigS (zagS x) = x := by unfold zagS zigS; split <;> split <;> omega
theorem zag_range {x : Int} (h0 : 0 ≤ x) (h1 : x < 18446744073709551616) : -9223372036854775808 ≤ zagS x ∧ zagS x ≤ 9223372036854775807 := by unfold zagS; split <;> omega
theorem zig_is {x : Int} (h0 : -9223372036854775808 ≤ x) (h1 : x ≤ 9223372036854775807) : bits .xor .u64 (IntKind.u64.wrap (wrap64 (x * 2))) (IntKind.u64.wrap (x / 9223372036854775808)) = zigS x := by
  rw [u64_wrap, u64_wrap]
  unfold zigS
  by_cases h : 0 ≤ x
  · rw [if_pos h, show x / 9223372036854775808 = 0 by omega]
    rw [show (0 : Int) % 18446744073709551616 = 0 by decide, u64_xor_zero (by omega) (by omega)]
    unfold wrap64
    omega
  · rw [if_neg h, show x / 9223372036854775808 = -1 by omega]
    rw [show (-1 : Int) % 18446744073709551616 = 18446744073709551615 by decide, u64_xor_ones (by omega) (by omega)]
    unfold wrap64
    omega
theorem and1 {x : Int} (h0 : 0 ≤ x) (h1 : x < 18446744073709551616) : bits .and .u64 x 1 = x % 2 := by
  have := bits_mask .u64 64 (by decide) wraps_u64 1 (by decide) x h0 (by omega)
  simpa using this
theorem zag_is {x : Int} (h0 : 0 ≤ x) (h1 : x < 18446744073709551616) : bits .xor .i64 (wrap64 (x / 2)) (wrap64 (-(wrap64 (bits .and .u64 x 1)))) = zagS x := by
  rw [and1 h0 h1, show wrap64 (x / 2) = x / 2 by unfold wrap64; omega]
  unfold zagS
  by_cases h : x % 2 = 0
  · rw [if_pos h, h, show wrap64 (-(wrap64 0)) = 0 by unfold wrap64; decide, i64_xor_zero (by omega) (by omega)]
  · rw [if_neg h, show x % 2 = 1 by omega, show wrap64 (-(wrap64 1)) = -1 by unfold wrap64; decide, i64_xor_ones (by omega) (by omega)]
    omega

/-! ### What bytes begin with -/
def scan : Nat → Nat → List Int → Int × Int × Int
  | i, acc, [] => if 10 ≤ i then (0, 0, 7) else (0, 0, 5)
  | i, acc, c :: t => if 10 ≤ i then (0, 0, 7) else if c ≥ 128 then scan (i + 1) (acc + (c.toNat - 128) * 128 ^ i) t
      else if i = 9 ∧ c ≥ 2 then (0, 0, 7) else if c = 0 ∧ 0 < i then (0, 0, 6) else (((acc + c.toNat * 128 ^ i : Nat) : Int), ((i + 1 : Nat) : Int), 0)
def gu (l : List Int) : Int × Int × Int := scan 0 0 l
def Bytes (l : List Int) : Prop := ∀ c ∈ l, 0 ≤ c ∧ c < 256
theorem Bytes.of {l : List Int} (h : ∀ x ∈ l, (Lit.int .u8 x).wf = true) : Bytes l := fun c hc => by
  have := h c hc
  simp only [Lit.wf, IntKind.min, IntKind.max, IntKind.signed, IntKind.bits, Bool.and_eq_true, decide_eq_true_eq] at this
  simp at this
  omega
theorem Bytes.app {a b : List Int} (h : Bytes a) (k : Bytes b) : Bytes (a ++ b) := fun c hc => by
  rcases List.mem_append.1 hc with x | x
  · exact h c x
  · exact k c x
theorem Bytes.take {l : List Int} (h : Bytes l) (n : Nat) : Bytes (l.take n) := fun c hc => h c (List.mem_of_mem_take hc)
theorem Bytes.drop {l : List Int} (h : Bytes l) (n : Nat) : Bytes (l.drop n) := fun c hc => h c (List.mem_of_mem_drop hc)
theorem Bytes.rd_ {l : List Int} (h : Bytes l) (i : Nat) : 0 ≤ rd l i ∧ rd l i < 256 := by
  unfold rd
  rw [Int.toNat_natCast, List.getD_eq_getElem?_getD]
  by_cases hi : i < l.length
  · rw [List.getElem?_eq_getElem hi]
    exact h _ (List.getElem_mem hi)
  · rw [List.getElem?_eq_none (by omega)]
    simp
theorem Bytes.uv (x : Nat) : Bytes (uv x) := uv_range x

/-! ### Texts of bytes -/
theorem loop_eq (s : ByteArray) : ∀ (d i : Nat) (r : List UInt8), s.size - i = d → i ≤ s.size → ByteArray.toList.loop s i r = r.reverse ++ s.data.toList.drop i := by
  have hsz : s.data.toList.length = s.size := by rw [Array.length_toList]; rfl
  intro d
  induction d with
  | zero =>
    intro i r hd hi
    rw [ByteArray.toList.loop, if_neg (by omega), List.drop_eq_nil_of_le (by omega), List.append_nil]
  | succ d ih =>
    intro i r hd hi
    have hlt : i < s.data.toList.length := by omega
    have e : s.get! i = s.data.toList[i] := by
      unfold ByteArray.get!
      have hlt2 : i < s.data.size := by rw [Array.length_toList] at hlt; exact hlt
      rw [Array.getElem_toList]
      exact getElem!_pos s.data i hlt2
    rw [ByteArray.toList.loop, if_pos (by omega), ih (i + 1) _ (by omega) (by omega), List.drop_eq_getElem_cons hlt, e]
    simp
theorem str_toList (s : ByteArray) : s.toList = s.data.toList := by
  unfold ByteArray.toList
  rw [loop_eq s s.size 0 [] (by omega) (by omega)]
  simp
theorem str_list (xs : List Int) : (strOfNums xs).toList = xs.map fun n => UInt8.ofNat n.toNat := by
  rw [str_toList, strOfNums_data]
theorem str_inj : ∀ {a b : List Int}, (∀ c ∈ a, 0 ≤ c ∧ c < 256) → (∀ c ∈ b, 0 ≤ c ∧ c < 256) → (strOfNums a).toList = (strOfNums b).toList → a = b := by
  intro a b
  rw [str_list, str_list]
  induction a generalizing b with
  | nil =>
    intro _ _ h
    cases b with
    | nil => rfl
    | cons d t => simp at h
  | cons c t ih =>
    intro ha hb h
    cases b with
    | nil => simp at h
    | cons d u =>
      simp only [List.map_cons, List.cons.injEq] at h
      have hc := ha c (List.mem_cons_self ..)
      have hd := hb d (List.mem_cons_self ..)
      have h1 := congrArg UInt8.toNat h.1
      rw [UInt8.toNat_ofNat', UInt8.toNat_ofNat'] at h1
      have e : c = d := by omega
      rw [e, ih (fun x hx => ha x (List.mem_cons_of_mem _ hx)) (fun x hx => hb x (List.mem_cons_of_mem _ hx)) h.2]

/-- What was put is got, from place i on. -/
theorem scan_uv (x : Nat) : ∀ i acc t, usz x + i ≤ 10 → x * 128 ^ i < 18446744073709551616 → (0 < i → 0 < x) → scan i acc (uv x ++ t) = (((acc + x * 128 ^ i : Nat) : Int), ((i + usz x : Nat) : Int), 0) := by
  refine uv_ind (P := fun x => ∀ i acc t, usz x + i ≤ 10 → x * 128 ^ i < 18446744073709551616 → (0 < i → 0 < x) → scan i acc (uv x ++ t) = (((acc + x * 128 ^ i : Nat) : Int), ((i + usz x : Nat) : Int), 0)) ?_ ?_ x
  · intro x h i acc t hu hx hp
    rw [usz_small h] at *
    rw [uv_small h]
    simp only [List.cons_append, List.nil_append, scan]
    rw [if_neg (by omega), if_neg (by omega), if_neg, if_neg]
    · simp
    · intro ⟨h0, h1⟩
      have := hp h1
      omega
    · intro ⟨h0, h1⟩
      subst h0
      omega
  · intro x h ih i acc t hu hx hp
    rw [usz_big h] at *
    have h1 := (usz_spec (x / 128)).1
    have e : x * 128 ^ i = x / 128 * 128 ^ (i + 1) + x % 128 * 128 ^ i := by
      rw [Nat.pow_succ, ← Nat.mul_assoc, Nat.mul_right_comm, ← Nat.add_mul]
      congr 1
      omega
    rw [uv_big h]
    simp only [List.cons_append, scan]
    rw [if_neg (by omega), if_pos (by omega), ih (i + 1) _ t (by omega) (by omega) (by omega), e]
    have e2 : (((128 + x % 128 : Nat) : Int).toNat - 128) = x % 128 := by omega
    rw [e2, show i + 1 + usz (x / 128) = i + (usz (x / 128) + 1) by omega]
    simp
    omega
theorem gu_uv {x : Nat} (hx : x < 18446744073709551616) (t : List Int) : gu (uv x ++ t) = ((x : Int), (usz x : Int), 0) := by
  unfold gu
  rw [scan_uv x 0 0 t (by have := usz_le10 hx; omega) (by omega) (by omega)]
  simp
/-- A part of a number's bytes is too short. -/
theorem scan_short (x : Nat) : ∀ i acc n, usz x + i ≤ 10 → n < usz x → scan i acc ((uv x).take n) = (0, 0, 5) := by
  refine uv_ind (P := fun x => ∀ i acc n, usz x + i ≤ 10 → n < usz x → scan i acc ((uv x).take n) = (0, 0, 5)) ?_ ?_ x
  · intro x h i acc n hu hn
    rw [usz_small h] at *
    obtain rfl : n = 0 := by omega
    simp only [List.take_zero, scan]
    rw [if_neg (by omega)]
  · intro x h ih i acc n hu hn
    rw [usz_big h] at *
    rw [uv_big h]
    cases n with
    | zero =>
      simp only [List.take_zero, scan]
      rw [if_neg (by omega)]
    | succ n =>
      simp only [List.take_succ_cons, scan]
      rw [if_neg (by omega), if_pos (by omega)]
      exact ih (i + 1) _ n (by omega) (by omega)
/-- What is got is put as those bytes. -/
theorem scan_ok : ∀ (l : List Int) (i acc : Nat), Bytes l → i ≤ 10 → (scan i acc l).2.2 = 0 →
    ∃ x : Nat, uv x = l.take (usz x) ∧ usz x ≤ l.length ∧ i + usz x ≤ 10 ∧ x * 128 ^ i < 18446744073709551616 ∧ (0 < i → 0 < x) ∧ scan i acc l = (((acc + x * 128 ^ i : Nat) : Int), ((i + usz x : Nat) : Int), 0)
  | [], i, acc, hb, hi, h => by
    simp only [scan] at h
    split at h <;> simp at h
  | c :: t, i, acc, hb, hi, h => by
    have hc := hb c (List.mem_cons_self ..)
    have ht : Bytes t := fun d hd => hb d (List.mem_cons_of_mem _ hd)
    simp only [scan] at h ⊢
    by_cases h10 : 10 ≤ i
    · rw [if_pos h10] at h
      simp at h
    rw [if_neg h10] at h ⊢
    by_cases h128 : c ≥ 128
    · rw [if_pos h128] at h ⊢
      obtain ⟨y, e1, e2, e3, e4, e5, e6⟩ := scan_ok t (i + 1) _ ht (by omega) h
      have hy := e5 (by omega)
      have hx : (c.toNat - 128 + 128 * y) / 128 = y := by omega
      have hbig : 128 ≤ c.toNat - 128 + 128 * y := by omega
      have e : (c.toNat - 128 + 128 * y) * 128 ^ i = y * 128 ^ (i + 1) + (c.toNat - 128) * 128 ^ i := by
        rw [Nat.pow_succ, Nat.add_mul, Nat.mul_comm 128 y, Nat.mul_assoc, Nat.mul_comm 128 (128 ^ i)]
        omega
      have hus : usz (c.toNat - 128 + 128 * y) = usz y + 1 := by rw [usz_big hbig, hx]
      refine ⟨c.toNat - 128 + 128 * y, ?_, ?_, ?_, ?_, fun _ => by omega, ?_⟩
      · rw [hus, uv_big hbig, hx, List.take_succ_cons, ← e1]
        congr 1
        omega
      · rw [hus, List.length_cons]
        omega
      · rw [hus]
        omega
      · rw [e]
        rcases Nat.eq_zero_or_pos (9 - i) with h9 | h9
        · have h9' : i = 9 := by omega
          subst h9'
          have h10 : (128 : Nat) ^ (9 + 1) ≤ y * 128 ^ (9 + 1) := Nat.le_mul_of_pos_left _ hy
          have h11 : ¬ (128 : Nat) ^ (9 + 1) < 18446744073709551616 := by decide
          exact absurd (Nat.lt_of_le_of_lt h10 e4) h11
        · have hp : 128 ^ (i + 1) ∣ 18446744073709551616 := by
            rw [show (128 : Nat) = 2 ^ 7 by decide, ← Nat.pow_mul, show 18446744073709551616 = 2 ^ 64 by decide]
            exact Nat.pow_dvd_pow 2 (by omega)
          obtain ⟨q, hq⟩ := hp
          rw [hq] at e4 ⊢
          have hpos : 0 < 128 ^ (i + 1) := Nat.pow_pos (by decide)
          have hyq : y < q := by
            rw [Nat.mul_comm] at e4
            exact Nat.lt_of_mul_lt_mul_left e4
          have h1 : y * 128 ^ (i + 1) + 128 ^ (i + 1) ≤ 128 ^ (i + 1) * q := by
            rw [← Nat.succ_mul, Nat.mul_comm]
            exact Nat.mul_le_mul_left _ hyq
          have h2 : (c.toNat - 128) * 128 ^ i < 128 ^ (i + 1) := by
            rw [Nat.pow_succ, Nat.mul_comm]
            exact Nat.mul_lt_mul_of_pos_left (by omega) (Nat.pow_pos (by decide))
          omega
      · rw [e6, hus, e, show i + 1 + usz y = i + (usz y + 1) by omega]
        simp
        omega
    · rw [if_neg h128] at h ⊢
      by_cases h9 : i = 9 ∧ c ≥ 2
      · rw [if_pos h9] at h
        simp at h
      rw [if_neg h9] at h ⊢
      by_cases h0 : c = 0 ∧ 0 < i
      · rw [if_pos h0] at h
        simp at h
      rw [if_neg h0] at h ⊢
      have hus : usz c.toNat = 1 := usz_small (by omega)
      refine ⟨c.toNat, ?_, ?_, ?_, ?_, fun hi => by omega, ?_⟩
      · rw [hus, uv_small (by omega)]
        simp
        omega
      · rw [hus, List.length_cons]
        omega
      · rw [hus]
        omega
      · have hp : 128 ^ i ≤ 128 ^ 9 := Nat.pow_le_pow_right (by decide) (by omega)
        by_cases e9 : i = 9
        · subst e9
          omega
        · have hp : 128 ^ i ≤ 128 ^ 8 := Nat.pow_le_pow_right (by decide) (by omega)
          have := Nat.mul_le_mul (show c.toNat ≤ 127 by omega) hp
          omega
      · rw [hus]
theorem gu_ok {l : List Int} (hb : Bytes l) (h : (gu l).2.2 = 0) : ∃ x : Nat, uv x = l.take (usz x) ∧ usz x ≤ l.length ∧ 1 ≤ usz x ∧ usz x ≤ 10 ∧ x < 18446744073709551616 ∧ gu l = ((x : Int), (usz x : Int), 0) := by
  obtain ⟨x, e1, e2, e3, e4, _, e6⟩ := scan_ok l 0 0 hb (by omega) h
  refine ⟨x, e1, e2, (usz_spec x).1, by omega, by omega, ?_⟩
  unfold gu
  rw [e6]
  simp
theorem scan_zero : ∀ (l : List Int) (i acc : Nat), (scan i acc l).2.2 ≠ 0 → scan i acc l = (0, 0, (scan i acc l).2.2)
  | [], i, acc, h => by
    simp only [scan]
    split <;> rfl
  | c :: t, i, acc, h => by
    simp only [scan] at h ⊢
    split <;> rename_i h1
    · rfl
    · rw [if_neg h1] at h
      split <;> rename_i h2
      · rw [if_pos h2] at h
        exact scan_zero t _ _ h
      · rw [if_neg h2] at h
        split <;> rename_i h3
        · rfl
        · rw [if_neg h3] at h
          split <;> rename_i h4
          · rfl
          · rw [if_neg h4] at h
            exact absurd rfl h
theorem gu_err {l : List Int} (h : (gu l).2.2 ≠ 0) : gu l = (0, 0, (gu l).2.2) := scan_zero l 0 0 h
theorem gu_short {x : Nat} (hx : x < 18446744073709551616) {n : Nat} (hn : n < usz x) : gu ((uv x).take n) = (0, 0, 5) := scan_short x 0 0 n (by have := usz_le10 hx; omega) hn
/-- The bytes that bytes begin with: they, how many all have, the error. -/
def gb (l : List Int) (m : Int) : List Int × Int × Int :=
  if (gu l).2.2 ≠ 0 then ([], 0, (gu l).2.2)
  else if m < 0 ∨ (gu l).1 > m then ([], 0, 13)
  else if (gu l).1 > (l.length : Int) - (gu l).2.1 then ([], 0, 5)
  else ((l.take ((gu l).2.1.toNat + (gu l).1.toNat)).drop (gu l).2.1.toNat, (gu l).2.1 + (gu l).1, 0)
end Go.Proofs.YtciolchdihlgfaaGreatDoor.Wire
